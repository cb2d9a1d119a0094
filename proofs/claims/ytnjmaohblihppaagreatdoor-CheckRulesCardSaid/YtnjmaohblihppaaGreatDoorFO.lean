/- A part of the proof. -/
import Derived.Test.YtnjmaohblihppaaGreatDoorOP1
import Derived.Test.YtnjmaohblihppaaGreatDoorFT
import Derived.Test.YtnjmaohblihppaaGreatDoorProg
set_option linter.all false
namespace Go.Proofs.YtnjmaohblihppaaGreatDoor
open Go.PE Go.RowKit
set_option maxRecDepth 100000
def bS {α:Type} (B:α->Prop) (x:Sl α):Prop:=ln x<=maxLen/\∀ y∈x.es,B y
theorem op33:DOp Tryz.prog 33 c33 (λ_=>True):=Xw Tryz.underlying33 (Xg (Xr Tryz.underlying3) (Xg (Xr Tryz.underlying3) Yf)) (λp=>(⟨p.1,p.2.1⟩:G33)) (λ_ _=>trivial)
theorem op86:DOp Tryz.prog 86 c86 (λ_=>True):=Xw Tryz.underlying86 (Xg (Xr Tryz.underlying3) (Xg (Xr Tryz.underlying3) Yf)) (λp=>(⟨p.1,p.2.1⟩:G86)) (λ_ _=>trivial)
theorem op84:DOp Tryz.prog 84 c84 (λ_=>True):=Xw Tryz.underlying84 (Xg op33 (Xg (Xr Tryz.underlying3) Yf)) (λp=>(⟨p.1,p.2.1⟩:G84)) (λ_ _=>trivial)
structure big89 (x:G89):Prop where
 fas:x.fas.size<=maxLen
 fw:bS (λ_=>True) x.fw
theorem op89:DOp Tryz.prog 89 c89 big89:=Xw Tryz.underlying89 (Xg op33 (Xg (op_str Tryz.underlying9) (Xg op86 (Xg (Yp Tryz.underlying87 op84) Yf)))) (λp=>(⟨p.1,p.2.1,p.2.2.1,p.2.2.2.1⟩:G89)) (λp h=>⟨h.2.1,⟨h.2.2.2.1.1,λ_ _=>trivial⟩⟩)
theorem op58:DOp Tryz.prog 58 c58 (λ_=>True):=op_array Tryz.underlying58 (Xg (Xr Tryz.underlying3) (Xg (Xr Tryz.underlying3) (Xg (Xr Tryz.underlying3) (Xg (Xr Tryz.underlying3) (Xg (Xr Tryz.underlying3) (Xg (Xr Tryz.underlying3) Yf)))))) (λp=>(⟨p.1,p.2.1,p.2.2.1,p.2.2.2.1,p.2.2.2.2.1,p.2.2.2.2.2.1⟩:G58)) (λ_ _=>trivial)
theorem op60:DOp Tryz.prog 60 c60 (λ_=>True):=Xw Tryz.underlying60 (Xg (Xr Tryz.underlying3) (Xg (Xr Tryz.underlying3) (Xg op58 Yf))) (λp=>(⟨p.1,p.2.1,p.2.2.1⟩:G60)) (λ_ _=>trivial)
theorem op161:DOp Tryz.prog 161 c161 (λ_=>True):=Xw Tryz.underlying161 (Xg (Xr Tryz.underlying3) (Xg (Xr Tryz.underlying3) (Xg (op_bool Tryz.underlying4) Yf))) (λp=>(⟨p.1,p.2.1,p.2.2.1⟩:G161)) (λ_ _=>trivial)
theorem op174:DOp Tryz.prog 174 c174 (λ_=>True):=Xw Tryz.underlying174 (Xg (Xr Tryz.underlying3) (Xg (Xr Tryz.underlying3) Yf)) (λp=>(⟨p.1,p.2.1⟩:G174)) (λ_ _=>trivial)
theorem op44:DOp Tryz.prog 44 c44 (λ_=>True):=Xw Tryz.underlying44 (Xg (Xr Tryz.underlying3) (Xg (Xr Tryz.underlying3) Yf)) (λp=>(⟨p.1,p.2.1⟩:G44)) (λ_ _=>trivial)
theorem op110:DOp Tryz.prog 110 c110 (λ_=>True):=Xw Tryz.underlying110 (Xg (Xr Tryz.underlying3) (Xg (Xr Tryz.underlying3) (Xg (Xr Tryz.underlying3) Yf))) (λp=>(⟨p.1,p.2.1,p.2.2.1⟩:G110)) (λ_ _=>trivial)
theorem op112:DOp Tryz.prog 112 c112 (λ_=>True):=Xw Tryz.underlying112 (Xg op110 (Xg (op_bool Tryz.underlying4) (Xg (Xr Tryz.underlying3) Yf))) (λp=>(⟨p.1,p.2.1,p.2.2.1⟩:G112)) (λ_ _=>trivial)
theorem op144:DOp Tryz.prog 144 c144 (λ_=>True):=Xw Tryz.underlying144 (Xg op110 (Xg (Xr Tryz.underlying3) (Xg (op_bool Tryz.underlying4) Yf))) (λp=>(⟨p.1,p.2.1,p.2.2.1⟩:G144)) (λ_ _=>trivial)
structure big135 (x:G135):Prop where
 fJ:x.fJ.size<=maxLen
theorem op135:DOp Tryz.prog 135 c135 big135:=Xw Tryz.underlying135 (Xg (op_str Tryz.underlying9) (Xg (Xr Tryz.underlying3) Yf)) (λp=>(⟨p.1,p.2.1⟩:G135)) (λp h=>⟨h.1⟩)
structure big49 (x:G49):Prop where
 fy:bS (λ_=>True) x.fy
 fR:bS (λ_=>True) x.fR
 fv:bS big135 x.fv
theorem op49:DOp Tryz.prog 49 c49 big49:=Xw Tryz.underlying49 (Xg op33 (Xg (Xr Tryz.underlying3) (Xg op44 (Xg (Yp Tryz.underlying45 op112) (Xg (Yp Tryz.underlying46 op144) (Xg (Xr Tryz.underlying3) (Xg (Xr Tryz.underlying3) (Xg (Xr Tryz.underlying3) (Xg (Yp Tryz.underlying47 op135) (Xg (Xr Tryz.underlying3) (Xg (Xr Tryz.underlying3) Yf))))))))))) (λp=>(⟨p.1,p.2.1,p.2.2.1,p.2.2.2.1,p.2.2.2.2.1,p.2.2.2.2.2.1,p.2.2.2.2.2.2.1,p.2.2.2.2.2.2.2.1,p.2.2.2.2.2.2.2.2.1,p.2.2.2.2.2.2.2.2.2.1,p.2.2.2.2.2.2.2.2.2.2.1⟩:G49)) (λp h=>⟨⟨h.2.2.2.1.1,λ_ _=>trivial⟩,⟨h.2.2.2.2.1.1,λ_ _=>trivial⟩,h.2.2.2.2.2.2.2.2.1⟩)
theorem op257:DOp Tryz.prog 257 c257 (λ_=>True):=Xw Tryz.underlying257 (Xg (Xr Tryz.underlying3) (Xg (Xr Tryz.underlying3) (Xg (Xr Tryz.underlying3) (Xg (Xr Tryz.underlying3) Yf)))) (λp=>(⟨p.1,p.2.1,p.2.2.1,p.2.2.2.1⟩:G257)) (λ_ _=>trivial)
structure big73 (x:G73):Prop where
 fg:bS big49 x.fg
 fU:bS (λ_=>True) x.fU
theorem op73:DOp Tryz.prog 73 c73 big73:=Xw Tryz.underlying73 (Xg (Yp Tryz.underlying70 op49) (Xg (Yp Tryz.underlying71 op257) Yf)) (λp=>(⟨p.1,p.2.1⟩:G73)) (λp h=>⟨h.1,⟨h.2.1.1,λ_ _=>trivial⟩⟩)
structure big69 (x:G69):Prop where
 fO:bS (λ_=>True) x.fO
 ff:bS big73 x.ff
theorem op69:DOp Tryz.prog 69 c69 big69:=Xw Tryz.underlying69 (Xg (Yp Tryz.underlying66 op174) (Xg (Yp Tryz.underlying67 op73) Yf)) (λp=>(⟨p.1,p.2.1⟩:G69)) (λp h=>⟨⟨h.1.1,λ_ _=>trivial⟩,h.2.1⟩)
structure big64 (x:G64):Prop where
 fQ:x.fQ<=9223372036854775807
 fao:x.fao.size<=maxLen
 fP:bS (λ_=>True) x.fP
 fe:bS big69 x.fe
theorem op64:DOp Tryz.prog 64 c64 big64:=Xw Tryz.underlying64 (Xg op33 (Xg op60 (Xg (Xr Tryz.underlying3) (Xg (Xr Tryz.underlying3) (Xg (op_bool Tryz.underlying4) (Xg (Xr Tryz.underlying3) (Xg (Xr Tryz.underlying3) (Xg (Xr Tryz.underlying3) (Xg (Xr Tryz.underlying3) (Xg (Xr Tryz.underlying3) (Xg (Xr Tryz.underlying3) (Xg (op_str Tryz.underlying9) (Xg (Yp Tryz.underlying61 op161) (Xg (Yp Tryz.underlying62 op69) Yf)))))))))))))) (λp=>(⟨p.1,p.2.1,p.2.2.1,p.2.2.2.1,p.2.2.2.2.1,p.2.2.2.2.2.1,p.2.2.2.2.2.2.1,p.2.2.2.2.2.2.2.1,p.2.2.2.2.2.2.2.2.1,p.2.2.2.2.2.2.2.2.2.1,p.2.2.2.2.2.2.2.2.2.2.1,p.2.2.2.2.2.2.2.2.2.2.2.1,p.2.2.2.2.2.2.2.2.2.2.2.2.1,p.2.2.2.2.2.2.2.2.2.2.2.2.2.1⟩:G64)) (λp h=>⟨h.2.2.2.2.2.1.2,h.2.2.2.2.2.2.2.2.2.2.2.1,⟨h.2.2.2.2.2.2.2.2.2.2.2.2.1.1,λ_ _=>trivial⟩,h.2.2.2.2.2.2.2.2.2.2.2.2.2.1⟩)
theorem op126:DOp Tryz.prog 126 c126 (λ_=>True):=Xw Tryz.underlying126 (Xg op33 (Xg (Xr Tryz.underlying3) (Xg op33 (Xg op33 Yf)))) (λp=>(⟨p.1,p.2.1,p.2.2.1,p.2.2.2.1⟩:G126)) (λ_ _=>trivial)
structure big27 (x:G27):Prop where
 fap:x.fap.size<=maxLen
 fh:bS big89 x.fh
 fc:bS big64 x.fc
 fj:bS (λ_=>True) x.fj
 fG:bS (λ_=>True) x.fG
theorem op27:DOp Tryz.prog 27 c27 big27:=Xw Tryz.underlying27 (Xg (op_str Tryz.underlying9) (Xg (op_bool Tryz.underlying4) (Xg (Yp Tryz.underlying22 op89) (Xg (Yp Tryz.underlying23 op64) (Xg (Yp Tryz.underlying24 op126) (Xg (Yp Tryz.underlying25 op33) Yf)))))) (λp=>(⟨p.1,p.2.1,p.2.2.1,p.2.2.2.1,p.2.2.2.2.1,p.2.2.2.2.2.1⟩:G27)) (λp h=>⟨h.1,h.2.2.1,h.2.2.2.1,⟨h.2.2.2.2.1.1,λ_ _=>trivial⟩,⟨h.2.2.2.2.2.1.1,λ_ _=>trivial⟩⟩)
end Go.Proofs.YtnjmaohblihppaaGreatDoor
