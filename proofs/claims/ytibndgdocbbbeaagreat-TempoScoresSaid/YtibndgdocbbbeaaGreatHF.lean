/- A part of the proof. -/
import Derived.Test.YtibndgdocbbbeaaGreatFT
set_option linter.all false
namespace Go.Proofs.YtibndgdocbbbeaaGreat
open Go.PE
def F92 (v0:Int) (v1:Int) (v2:Int):Option (Int×Int):=bif decide (0<=v0)&&decide (v0<v2)&&decide (0<=v1)&&decide (v1<18446744073709551616)&&decide (v2<18446744073709551616)then some ((v0*18446744073709551616+v1) / v2,(v0*18446744073709551616+v1)%v2)else none
def F177 (v0:Int) (v1:Int) (v2:Int):Option (Int×Int):=bif decide (0<=v0)&&decide (0<=v1)&&decide (0<=v2)&&decide (v2<=1)then some ((v0+v1+v2)%18446744073709551616,(v0+v1+v2) / 18446744073709551616)else none
def F178 (v0:Int) (v1:Int) (v2:Int):Option (Int×Int):=bif decide (0<=v0)&&decide (0<=v1)&&decide (v1<18446744073709551616)&&decide (0<=v2)&&decide (v2<=1)then some ((v0+18446744073709551616-v1-v2)%18446744073709551616,if v0<v1+v2 then 1 else 0)else none
def pO:Option G119->PV
 |none=>.sc (.pointer none)
 |some x=>.ip (c119 x)
theorem clO (x:Option G119):Cl (pO x):=match x with
 |none=>.sc _
 |some x=>.ip (cl119 x)
instance {x:Option G119}:ClP (pO x):=⟨clO x⟩
end Go.Proofs.YtibndgdocbbbeaaGreat
