/- A part of the proof. -/
import Derived.Test.YtibndgdocbbbeaaGreatFT
set_option linter.all false
namespace Go.Proofs.YtibndgdocbbbeaaGreat
open Go.PE
def Yn {α:Type} (n:Nat):Sl α->Sl α
 |.nil=>.nil
 |x=>.no (x.es.take n)
def cutT (x:G171):G171:=⟨x.fD.extract 0 (min x.fD.size 30),x.fah⟩
def mapSl {α:Type} (f:α->α):Sl α->Sl α
 |.nil=>.nil
 |x=>.no (x.es.map f)
def S201 (v0:G147):G147:={ v0 with fp:=Yn 5 v0.fp,fA:=Yn 4 v0.fA,fq:=mapSl cutT (Yn 5 v0.fq) }
def F201 (v0:G147):Option (G147):=bif decide (v0.fp.es.length<=3518437208883)&&decide (v0.fA.es.length<=3518437208883)&&decide (v0.fq.es.length<=5864062014805)then some (S201 v0)else none
end Go.Proofs.YtibndgdocbbbeaaGreat
