/- A part of the proof. -/
import Derived.Test.YtnjmaohblihppaaGreatDoorOP1
import Derived.Test.YtnjmaohblihppaaGreatDoorFT
import Derived.Test.YtnjmaohblihppaaGreatDoorProg
set_option linter.all false
namespace Go.Proofs.YtnjmaohblihppaaGreatDoor
open Go.PE Go.RowKit
set_option maxRecDepth 100000
def bS {α:Type} (B:α->Prop) (x:Sl α):Prop:=ln x<=maxLen/\∀ y∈x.es,B y
theorem op33:DOp Tryz.prog 33 c33 (λ_=>True):=Xx Tryz.underlying33 (Xf (Xr Tryz.underlying3) (Xf (Xr Tryz.underlying3) Ye)) (λp=>(⟨p.1,p.2.1⟩:G33)) (λ_ _=>trivial)
theorem op86:DOp Tryz.prog 86 c86 (λ_=>True):=Xx Tryz.underlying86 (Xf (Xr Tryz.underlying3) (Xf (Xr Tryz.underlying3) Ye)) (λp=>(⟨p.1,p.2.1⟩:G86)) (λ_ _=>trivial)
theorem op84:DOp Tryz.prog 84 c84 (λ_=>True):=Xx Tryz.underlying84 (Xf op33 (Xf (Xr Tryz.underlying3) Ye)) (λp=>(⟨p.1,p.2.1⟩:G84)) (λ_ _=>trivial)
structure big89 (x:G89):Prop where
 fap:x.fap.size<=maxLen
 ft:bS (λ_=>True) x.ft
theorem op89:DOp Tryz.prog 89 c89 big89:=Xx Tryz.underlying89 (Xf op33 (Xf (op_str Tryz.underlying9) (Xf op86 (Xf (Yq Tryz.underlying87 op84) Ye)))) (λp=>(⟨p.1,p.2.1,p.2.2.1,p.2.2.2.1⟩:G89)) (λp h=>⟨h.2.1,⟨h.2.2.2.1.1,λ_ _=>trivial⟩⟩)
theorem op58:DOp Tryz.prog 58 c58 (λ_=>True):=op_array Tryz.underlying58 (Xf (Xr Tryz.underlying3) (Xf (Xr Tryz.underlying3) (Xf (Xr Tryz.underlying3) (Xf (Xr Tryz.underlying3) (Xf (Xr Tryz.underlying3) (Xf (Xr Tryz.underlying3) Ye)))))) (λp=>(⟨p.1,p.2.1,p.2.2.1,p.2.2.2.1,p.2.2.2.2.1,p.2.2.2.2.2.1⟩:G58)) (λ_ _=>trivial)
theorem op60:DOp Tryz.prog 60 c60 (λ_=>True):=Xx Tryz.underlying60 (Xf (Xr Tryz.underlying3) (Xf (Xr Tryz.underlying3) (Xf op58 Ye))) (λp=>(⟨p.1,p.2.1,p.2.2.1⟩:G60)) (λ_ _=>trivial)
theorem op161:DOp Tryz.prog 161 c161 (λ_=>True):=Xx Tryz.underlying161 (Xf (Xr Tryz.underlying3) (Xf (Xr Tryz.underlying3) (Xf (op_bool Tryz.underlying4) Ye))) (λp=>(⟨p.1,p.2.1,p.2.2.1⟩:G161)) (λ_ _=>trivial)
theorem op174:DOp Tryz.prog 174 c174 (λ_=>True):=Xx Tryz.underlying174 (Xf (Xr Tryz.underlying3) (Xf (Xr Tryz.underlying3) Ye)) (λp=>(⟨p.1,p.2.1⟩:G174)) (λ_ _=>trivial)
theorem op44:DOp Tryz.prog 44 c44 (λ_=>True):=Xx Tryz.underlying44 (Xf (Xr Tryz.underlying3) (Xf (Xr Tryz.underlying3) Ye)) (λp=>(⟨p.1,p.2.1⟩:G44)) (λ_ _=>trivial)
theorem op110:DOp Tryz.prog 110 c110 (λ_=>True):=Xx Tryz.underlying110 (Xf (Xr Tryz.underlying3) (Xf (Xr Tryz.underlying3) (Xf (Xr Tryz.underlying3) Ye))) (λp=>(⟨p.1,p.2.1,p.2.2.1⟩:G110)) (λ_ _=>trivial)
theorem op112:DOp Tryz.prog 112 c112 (λ_=>True):=Xx Tryz.underlying112 (Xf op110 (Xf (op_bool Tryz.underlying4) (Xf (Xr Tryz.underlying3) Ye))) (λp=>(⟨p.1,p.2.1,p.2.2.1⟩:G112)) (λ_ _=>trivial)
theorem op144:DOp Tryz.prog 144 c144 (λ_=>True):=Xx Tryz.underlying144 (Xf op110 (Xf (Xr Tryz.underlying3) (Xf (op_bool Tryz.underlying4) Ye))) (λp=>(⟨p.1,p.2.1,p.2.2.1⟩:G144)) (λ_ _=>trivial)
structure big135 (x:G135):Prop where
 fH:x.fH.size<=maxLen
theorem op135:DOp Tryz.prog 135 c135 big135:=Xx Tryz.underlying135 (Xf (op_str Tryz.underlying9) (Xf (Xr Tryz.underlying3) Ye)) (λp=>(⟨p.1,p.2.1⟩:G135)) (λp h=>⟨h.1⟩)
structure big49 (x:G49):Prop where
 fx:bS (λ_=>True) x.fx
 fQ:bS (λ_=>True) x.fQ
 fp:bS big135 x.fp
theorem op49:DOp Tryz.prog 49 c49 big49:=Xx Tryz.underlying49 (Xf op33 (Xf (Xr Tryz.underlying3) (Xf op44 (Xf (Yq Tryz.underlying45 op112) (Xf (Yq Tryz.underlying46 op144) (Xf (Xr Tryz.underlying3) (Xf (Xr Tryz.underlying3) (Xf (Xr Tryz.underlying3) (Xf (Yq Tryz.underlying47 op135) (Xf (Xr Tryz.underlying3) (Xf (Xr Tryz.underlying3) Ye))))))))))) (λp=>(⟨p.1,p.2.1,p.2.2.1,p.2.2.2.1,p.2.2.2.2.1,p.2.2.2.2.2.1,p.2.2.2.2.2.2.1,p.2.2.2.2.2.2.2.1,p.2.2.2.2.2.2.2.2.1,p.2.2.2.2.2.2.2.2.2.1,p.2.2.2.2.2.2.2.2.2.2.1⟩:G49)) (λp h=>⟨⟨h.2.2.2.1.1,λ_ _=>trivial⟩,⟨h.2.2.2.2.1.1,λ_ _=>trivial⟩,h.2.2.2.2.2.2.2.2.1⟩)
theorem op257:DOp Tryz.prog 257 c257 (λ_=>True):=Xx Tryz.underlying257 (Xf (Xr Tryz.underlying3) (Xf (Xr Tryz.underlying3) (Xf (Xr Tryz.underlying3) (Xf (Xr Tryz.underlying3) Ye)))) (λp=>(⟨p.1,p.2.1,p.2.2.1,p.2.2.2.1⟩:G257)) (λ_ _=>trivial)
structure big73 (x:G73):Prop where
 fg:bS big49 x.fg
 fT:bS (λ_=>True) x.fT
theorem op73:DOp Tryz.prog 73 c73 big73:=Xx Tryz.underlying73 (Xf (Yq Tryz.underlying70 op49) (Xf (Yq Tryz.underlying71 op257) Ye)) (λp=>(⟨p.1,p.2.1⟩:G73)) (λp h=>⟨h.1,⟨h.2.1.1,λ_ _=>trivial⟩⟩)
structure big69 (x:G69):Prop where
 fM:bS (λ_=>True) x.fM
 ff:bS big73 x.ff
theorem op69:DOp Tryz.prog 69 c69 big69:=Xx Tryz.underlying69 (Xf (Yq Tryz.underlying66 op174) (Xf (Yq Tryz.underlying67 op73) Ye)) (λp=>(⟨p.1,p.2.1⟩:G69)) (λp h=>⟨⟨h.1.1,λ_ _=>trivial⟩,h.2.1⟩)
structure big64 (x:G64):Prop where
 fO:x.fO<=9223372036854775807
 fam:x.fam.size<=maxLen
 fN:bS (λ_=>True) x.fN
 fe:bS big69 x.fe
theorem op64:DOp Tryz.prog 64 c64 big64:=Xx Tryz.underlying64 (Xf op33 (Xf op60 (Xf (Xr Tryz.underlying3) (Xf (Xr Tryz.underlying3) (Xf (op_bool Tryz.underlying4) (Xf (Xr Tryz.underlying3) (Xf (Xr Tryz.underlying3) (Xf (Xr Tryz.underlying3) (Xf (Xr Tryz.underlying3) (Xf (Xr Tryz.underlying3) (Xf (Xr Tryz.underlying3) (Xf (op_str Tryz.underlying9) (Xf (Yq Tryz.underlying61 op161) (Xf (Yq Tryz.underlying62 op69) Ye)))))))))))))) (λp=>(⟨p.1,p.2.1,p.2.2.1,p.2.2.2.1,p.2.2.2.2.1,p.2.2.2.2.2.1,p.2.2.2.2.2.2.1,p.2.2.2.2.2.2.2.1,p.2.2.2.2.2.2.2.2.1,p.2.2.2.2.2.2.2.2.2.1,p.2.2.2.2.2.2.2.2.2.2.1,p.2.2.2.2.2.2.2.2.2.2.2.1,p.2.2.2.2.2.2.2.2.2.2.2.2.1,p.2.2.2.2.2.2.2.2.2.2.2.2.2.1⟩:G64)) (λp h=>⟨h.2.2.2.2.2.1.2,h.2.2.2.2.2.2.2.2.2.2.2.1,⟨h.2.2.2.2.2.2.2.2.2.2.2.2.1.1,λ_ _=>trivial⟩,h.2.2.2.2.2.2.2.2.2.2.2.2.2.1⟩)
theorem op126:DOp Tryz.prog 126 c126 (λ_=>True):=Xx Tryz.underlying126 (Xf op33 (Xf (Xr Tryz.underlying3) (Xf op33 (Xf op33 Ye)))) (λp=>(⟨p.1,p.2.1,p.2.2.1,p.2.2.2.1⟩:G126)) (λ_ _=>trivial)
structure big27 (x:G27):Prop where
 fae:x.fae.size<=maxLen
 fi:bS big89 x.fi
 fc:bS big64 x.fc
 fh:bS (λ_=>True) x.fh
 fB:bS (λ_=>True) x.fB
theorem op27:DOp Tryz.prog 27 c27 big27:=Xx Tryz.underlying27 (Xf (op_str Tryz.underlying9) (Xf (op_bool Tryz.underlying4) (Xf (Yq Tryz.underlying22 op89) (Xf (Yq Tryz.underlying23 op64) (Xf (Yq Tryz.underlying24 op126) (Xf (Yq Tryz.underlying25 op33) Ye)))))) (λp=>(⟨p.1,p.2.1,p.2.2.1,p.2.2.2.1,p.2.2.2.2.1,p.2.2.2.2.2.1⟩:G27)) (λp h=>⟨h.1,h.2.2.1,h.2.2.2.1,⟨h.2.2.2.2.1.1,λ_ _=>trivial⟩,⟨h.2.2.2.2.2.1.1,λ_ _=>trivial⟩⟩)
end Go.Proofs.YtnjmaohblihppaaGreatDoor
