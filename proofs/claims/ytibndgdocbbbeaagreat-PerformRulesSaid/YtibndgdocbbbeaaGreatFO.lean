/- A part of the proof. -/
import Derived.Test.YtibndgdocbbbeaaGreatOP1
import Derived.Test.YtibndgdocbbbeaaGreatFT
import Derived.Test.YtibndgdocbbbeaaGreatProg
set_option linter.all false
namespace Go.Proofs.YtibndgdocbbbeaaGreat
open Go.PE Go.RowKit
set_option maxRecDepth 100000
def bS {α:Type} (B:α->Prop) (x:Sl α):Prop:=ln x<=maxLen/\∀ y∈x.es,B y
theorem op58:DOp Tryz.prog 58 c58 (λ_=>True):=Xw Tryz.underlying58 (Xf (Xs Tryz.underlying3) (Xf (Xs Tryz.underlying3) Yl)) (λp=>(⟨p.1,p.2.1⟩:G58)) (λ_ _=>trivial)
theorem op65:DOp Tryz.prog 65 c65 (λ_=>True):=Xw Tryz.underlying65 (Xf (Xs Tryz.underlying3) (Xf (Xs Tryz.underlying3) Yl)) (λp=>(⟨p.1,p.2.1⟩:G65)) (λ_ _=>trivial)
theorem op184:DOp Tryz.prog 184 c184 (λ_=>True):=Xw Tryz.underlying184 (Xf op58 (Xf (Xs Tryz.underlying3) Yl)) (λp=>(⟨p.1,p.2.1⟩:G184)) (λ_ _=>trivial)
structure big68 (x:G68):Prop where
 fau:x.fau.size<=maxLen
 fq:bS (λ_=>True) x.fq
theorem op68:DOp Tryz.prog 68 c68 big68:=Xw Tryz.underlying68 (Xf op58 (Xf (op_str Tryz.underlying9) (Xf op65 (Xf (Yv Tryz.underlying66 op184) Yl)))) (λp=>(⟨p.1,p.2.1,p.2.2.1,p.2.2.2.1⟩:G68)) (λp h=>⟨h.2.1,⟨h.2.2.2.1.1,λ_ _=>trivial⟩⟩)
theorem op69:DOp Tryz.prog 69 c69 (λ_=>True):=op_array Tryz.underlying69 (Xf (Xs Tryz.underlying3) (Xf (Xs Tryz.underlying3) (Xf (Xs Tryz.underlying3) (Xf (Xs Tryz.underlying3) (Xf (Xs Tryz.underlying3) (Xf (Xs Tryz.underlying3) Yl)))))) (λp=>(⟨p.1,p.2.1,p.2.2.1,p.2.2.2.1,p.2.2.2.2.1,p.2.2.2.2.2.1⟩:G69)) (λ_ _=>trivial)
theorem op71:DOp Tryz.prog 71 c71 (λ_=>True):=Xw Tryz.underlying71 (Xf (Xs Tryz.underlying3) (Xf (Xs Tryz.underlying3) (Xf op69 Yl))) (λp=>(⟨p.1,p.2.1,p.2.2.1⟩:G71)) (λ_ _=>trivial)
theorem op111:DOp Tryz.prog 111 c111 (λ_=>True):=Xw Tryz.underlying111 (Xf (Xs Tryz.underlying3) (Xf (Xs Tryz.underlying3) (Xf (op_bool Tryz.underlying4) Yl))) (λp=>(⟨p.1,p.2.1,p.2.2.1⟩:G111)) (λ_ _=>trivial)
theorem op230:DOp Tryz.prog 230 c230 (λ_=>True):=Xw Tryz.underlying230 (Xf (Xs Tryz.underlying3) (Xf (Xs Tryz.underlying3) Yl)) (λp=>(⟨p.1,p.2.1⟩:G230)) (λ_ _=>trivial)
theorem op142:DOp Tryz.prog 142 c142 (λ_=>True):=Xw Tryz.underlying142 (Xf (Xs Tryz.underlying3) (Xf (Xs Tryz.underlying3) Yl)) (λp=>(⟨p.1,p.2.1⟩:G142)) (λ_ _=>trivial)
theorem op80:DOp Tryz.prog 80 c80 (λ_=>True):=Xw Tryz.underlying80 (Xf (Xs Tryz.underlying3) (Xf (Xs Tryz.underlying3) (Xf (Xs Tryz.underlying3) Yl))) (λp=>(⟨p.1,p.2.1,p.2.2.1⟩:G80)) (λ_ _=>trivial)
theorem op182:DOp Tryz.prog 182 c182 (λ_=>True):=Xw Tryz.underlying182 (Xf op80 (Xf (op_bool Tryz.underlying4) (Xf (Xs Tryz.underlying3) Yl))) (λp=>(⟨p.1,p.2.1,p.2.2.1⟩:G182)) (λ_ _=>trivial)
theorem op245:DOp Tryz.prog 245 c245 (λ_=>True):=Xw Tryz.underlying245 (Xf op80 (Xf (Xs Tryz.underlying3) (Xf (op_bool Tryz.underlying4) Yl))) (λp=>(⟨p.1,p.2.1,p.2.2.1⟩:G245)) (λ_ _=>trivial)
structure big171 (x:G171):Prop where
 fF:x.fF.size<=maxLen
theorem op171:DOp Tryz.prog 171 c171 big171:=Xw Tryz.underlying171 (Xf (op_str Tryz.underlying9) (Xf (Xs Tryz.underlying3) Yl)) (λp=>(⟨p.1,p.2.1⟩:G171)) (λp h=>⟨h.1⟩)
structure big147 (x:G147):Prop where
 fu:bS (λ_=>True) x.fu
 fW:bS (λ_=>True) x.fW
 fp:bS big171 x.fp
theorem op147:DOp Tryz.prog 147 c147 big147:=Xw Tryz.underlying147 (Xf op58 (Xf (Xs Tryz.underlying3) (Xf op142 (Xf (Yv Tryz.underlying143 op182) (Xf (Yv Tryz.underlying144 op245) (Xf (Xs Tryz.underlying3) (Xf (Xs Tryz.underlying3) (Xf (Xs Tryz.underlying3) (Xf (Yv Tryz.underlying145 op171) (Xf (Xs Tryz.underlying3) (Xf (Xs Tryz.underlying3) Yl))))))))))) (λp=>(⟨p.1,p.2.1,p.2.2.1,p.2.2.2.1,p.2.2.2.2.1,p.2.2.2.2.2.1,p.2.2.2.2.2.2.1,p.2.2.2.2.2.2.2.1,p.2.2.2.2.2.2.2.2.1,p.2.2.2.2.2.2.2.2.2.1,p.2.2.2.2.2.2.2.2.2.2.1⟩:G147)) (λp h=>⟨⟨h.2.2.2.1.1,λ_ _=>trivial⟩,⟨h.2.2.2.2.1.1,λ_ _=>trivial⟩,h.2.2.2.2.2.2.2.2.1⟩)
theorem op425:DOp Tryz.prog 425 c425 (λ_=>True):=Xw Tryz.underlying425 (Xf (Xs Tryz.underlying3) (Xf (Xs Tryz.underlying3) (Xf (Xs Tryz.underlying3) (Xf (Xs Tryz.underlying3) Yl)))) (λp=>(⟨p.1,p.2.1,p.2.2.1,p.2.2.2.1⟩:G425)) (λ_ _=>trivial)
structure big100 (x:G100):Prop where
 fg:bS big147 x.fg
 fY:bS (λ_=>True) x.fY
theorem op100:DOp Tryz.prog 100 c100 big100:=Xw Tryz.underlying100 (Xf (Yv Tryz.underlying97 op147) (Xf (Yv Tryz.underlying98 op425) Yl)) (λp=>(⟨p.1,p.2.1⟩:G100)) (λp h=>⟨h.1,⟨h.2.1.1,λ_ _=>trivial⟩⟩)
structure big95 (x:G95):Prop where
 fN:bS (λ_=>True) x.fN
 ff:bS big100 x.ff
theorem op95:DOp Tryz.prog 95 c95 big95:=Xw Tryz.underlying95 (Xf (Yv Tryz.underlying92 op230) (Xf (Yv Tryz.underlying93 op100) Yl)) (λp=>(⟨p.1,p.2.1⟩:G95)) (λp h=>⟨⟨h.1.1,λ_ _=>trivial⟩,h.2.1⟩)
structure big75 (x:G75):Prop where
 fU:x.fU<=9223372036854775807
 fas:x.fas.size<=maxLen
 fT:bS (λ_=>True) x.fT
 fe:bS big95 x.fe
theorem op75:DOp Tryz.prog 75 c75 big75:=Xw Tryz.underlying75 (Xf op58 (Xf op71 (Xf (Xs Tryz.underlying3) (Xf (Xs Tryz.underlying3) (Xf (op_bool Tryz.underlying4) (Xf (Xs Tryz.underlying3) (Xf (Xs Tryz.underlying3) (Xf (Xs Tryz.underlying3) (Xf (Xs Tryz.underlying3) (Xf (Xs Tryz.underlying3) (Xf (Xs Tryz.underlying3) (Xf (op_str Tryz.underlying9) (Xf (Yv Tryz.underlying72 op111) (Xf (Yv Tryz.underlying73 op95) Yl)))))))))))))) (λp=>(⟨p.1,p.2.1,p.2.2.1,p.2.2.2.1,p.2.2.2.2.1,p.2.2.2.2.2.1,p.2.2.2.2.2.2.1,p.2.2.2.2.2.2.2.1,p.2.2.2.2.2.2.2.2.1,p.2.2.2.2.2.2.2.2.2.1,p.2.2.2.2.2.2.2.2.2.2.1,p.2.2.2.2.2.2.2.2.2.2.2.1,p.2.2.2.2.2.2.2.2.2.2.2.2.1,p.2.2.2.2.2.2.2.2.2.2.2.2.2.1⟩:G75)) (λp h=>⟨h.2.2.2.2.2.1.2,h.2.2.2.2.2.2.2.2.2.2.2.1,⟨h.2.2.2.2.2.2.2.2.2.2.2.2.1.1,λ_ _=>trivial⟩,h.2.2.2.2.2.2.2.2.2.2.2.2.2.1⟩)
theorem op213:DOp Tryz.prog 213 c213 (λ_=>True):=Xw Tryz.underlying213 (Xf op58 (Xf (Xs Tryz.underlying3) (Xf op58 (Xf op58 Yl)))) (λp=>(⟨p.1,p.2.1,p.2.2.1,p.2.2.2.1⟩:G213)) (λ_ _=>trivial)
structure big27 (x:G27):Prop where
 fav:x.fav.size<=maxLen
 fh:bS big68 x.fh
 fc:bS big75 x.fc
 fi:bS (λ_=>True) x.fi
 fD:bS (λ_=>True) x.fD
theorem op27:DOp Tryz.prog 27 c27 big27:=Xw Tryz.underlying27 (Xf (op_str Tryz.underlying9) (Xf (op_bool Tryz.underlying4) (Xf (Yv Tryz.underlying22 op68) (Xf (Yv Tryz.underlying23 op75) (Xf (Yv Tryz.underlying24 op213) (Xf (Yv Tryz.underlying25 op58) Yl)))))) (λp=>(⟨p.1,p.2.1,p.2.2.1,p.2.2.2.1,p.2.2.2.2.1,p.2.2.2.2.2.1⟩:G27)) (λp h=>⟨h.1,h.2.2.1,h.2.2.2.1,⟨h.2.2.2.2.1.1,λ_ _=>trivial⟩,⟨h.2.2.2.2.2.1.1,λ_ _=>trivial⟩⟩)
end Go.Proofs.YtibndgdocbbbeaaGreat
