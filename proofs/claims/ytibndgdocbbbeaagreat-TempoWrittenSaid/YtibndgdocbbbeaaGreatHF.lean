/- A part of the proof. -/
import Derived.Test.YtibndgdocbbbeaaGreatFT
set_option linter.all false
namespace Go.Proofs.YtibndgdocbbbeaaGreat
open Go.PE
def F92 (v0:Int) (v1:Int) (v2:Int):Option (Int×Int):=bif decide (v0=0)&&decide (0<=v1)&&decide (v1<18446744073709551616)&&decide (0<v2)&&decide (v2<18446744073709551616)then some (v1 / v2,v1%v2)else none
end Go.Proofs.YtibndgdocbbbeaaGreat
