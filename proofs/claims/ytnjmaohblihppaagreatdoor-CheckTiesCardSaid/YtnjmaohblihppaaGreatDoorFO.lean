/- A part of the proof. -/
import Derived.Test.YtnjmaohblihppaaGreatDoorOP1
import Derived.Test.YtnjmaohblihppaaGreatDoorFT
import Derived.Test.YtnjmaohblihppaaGreatDoorProg
set_option linter.all false
namespace Go.Proofs.YtnjmaohblihppaaGreatDoor
open Go.PE Go.RowKit
set_option maxRecDepth 100000
def bS {α:Type} (B:α→Prop) (x:Sl α):Prop:=ln x≤maxLen∧∀ y∈x.es,B y
theorem op33:DOp Tryz.prog 33 c33 (fun _=>True):=op_struct Tryz.underlying33 (opF_cons (op_int Tryz.underlying3) (opF_cons (op_int Tryz.underlying3) opF_nil)) (fun p=>(⟨p.1,p.2.1⟩:G33ID)) (fun _ _=>trivial)
theorem op86:DOp Tryz.prog 86 c86 (fun _=>True):=op_struct Tryz.underlying86 (opF_cons (op_int Tryz.underlying3) (opF_cons (op_int Tryz.underlying3) opF_nil)) (fun p=>(⟨p.1,p.2.1⟩:G86Interval)) (fun _ _=>trivial)
theorem op84:DOp Tryz.prog 84 c84 (fun _=>True):=op_struct Tryz.underlying84 (opF_cons op33 (opF_cons (op_int Tryz.underlying3) opF_nil)) (fun p=>(⟨p.1,p.2.1⟩:G84Staff)) (fun _ _=>trivial)
structure big89 (x:G89Part):Prop where
 fName:x.fName.size≤maxLen
 fStaves:bS (fun _=>True) x.fStaves
theorem op89:DOp Tryz.prog 89 c89 big89:=op_struct Tryz.underlying89 (opF_cons op33 (opF_cons (op_str Tryz.underlying9) (opF_cons op86 (opF_cons (op_slice Tryz.underlying87 op84) opF_nil)))) (fun p=>(⟨p.1,p.2.1,p.2.2.1,p.2.2.2.1⟩:G89Part)) (fun p h=>⟨h.2.1,⟨h.2.2.2.1.1,fun _ _=>trivial⟩⟩)
theorem op58:DOp Tryz.prog 58 c58 (fun _=>True):=op_array Tryz.underlying58 (opF_cons (op_int Tryz.underlying3) (opF_cons (op_int Tryz.underlying3) (opF_cons (op_int Tryz.underlying3) (opF_cons (op_int Tryz.underlying3) (opF_cons (op_int Tryz.underlying3) (opF_cons (op_int Tryz.underlying3) opF_nil)))))) (fun p=>(⟨p.1,p.2.1,p.2.2.1,p.2.2.2.1,p.2.2.2.2.1,p.2.2.2.2.2.1⟩:G58)) (fun _ _=>trivial)
theorem op60:DOp Tryz.prog 60 c60 (fun _=>True):=op_struct Tryz.underlying60 (opF_cons (op_int Tryz.underlying3) (opF_cons (op_int Tryz.underlying3) (opF_cons op58 opF_nil))) (fun p=>(⟨p.1,p.2.1,p.2.2.1⟩:G60Metre)) (fun _ _=>trivial)
theorem op161:DOp Tryz.prog 161 c161 (fun _=>True):=op_struct Tryz.underlying161 (opF_cons (op_int Tryz.underlying3) (opF_cons (op_int Tryz.underlying3) (opF_cons (op_bool Tryz.underlying4) opF_nil))) (fun p=>(⟨p.1,p.2.1,p.2.2.1⟩:G161TempoMark)) (fun _ _=>trivial)
theorem op174:DOp Tryz.prog 174 c174 (fun _=>True):=op_struct Tryz.underlying174 (opF_cons (op_int Tryz.underlying3) (opF_cons (op_int Tryz.underlying3) opF_nil)) (fun p=>(⟨p.1,p.2.1⟩:G174ClefChange)) (fun _ _=>trivial)
theorem op44:DOp Tryz.prog 44 c44 (fun _=>True):=op_struct Tryz.underlying44 (opF_cons (op_int Tryz.underlying3) (opF_cons (op_int Tryz.underlying3) opF_nil)) (fun p=>(⟨p.1,p.2.1⟩:G44Value)) (fun _ _=>trivial)
theorem op110:DOp Tryz.prog 110 c110 (fun _=>True):=op_struct Tryz.underlying110 (opF_cons (op_int Tryz.underlying3) (opF_cons (op_int Tryz.underlying3) (opF_cons (op_int Tryz.underlying3) opF_nil))) (fun p=>(⟨p.1,p.2.1,p.2.2.1⟩:G110Pitch)) (fun _ _=>trivial)
theorem op112:DOp Tryz.prog 112 c112 (fun _=>True):=op_struct Tryz.underlying112 (opF_cons op110 (opF_cons (op_bool Tryz.underlying4) (opF_cons (op_int Tryz.underlying3) opF_nil))) (fun p=>(⟨p.1,p.2.1,p.2.2.1⟩:G112Head)) (fun _ _=>trivial)
theorem op144:DOp Tryz.prog 144 c144 (fun _=>True):=op_struct Tryz.underlying144 (opF_cons op110 (opF_cons (op_int Tryz.underlying3) (opF_cons (op_bool Tryz.underlying4) opF_nil))) (fun p=>(⟨p.1,p.2.1,p.2.2.1⟩:G144Grace)) (fun _ _=>trivial)
structure big135 (x:G135Syllable):Prop where
 fText:x.fText.size≤maxLen
theorem op135:DOp Tryz.prog 135 c135 big135:=op_struct Tryz.underlying135 (opF_cons (op_str Tryz.underlying9) (opF_cons (op_int Tryz.underlying3) opF_nil)) (fun p=>(⟨p.1,p.2.1⟩:G135Syllable)) (fun p h=>⟨h.1⟩)
structure big49 (x:G49Event):Prop where
 fHeads:bS (fun _=>True) x.fHeads
 fGraces:bS (fun _=>True) x.fGraces
 fLyrics:bS big135 x.fLyrics
theorem op49:DOp Tryz.prog 49 c49 big49:=op_struct Tryz.underlying49 (opF_cons op33 (opF_cons (op_int Tryz.underlying3) (opF_cons op44 (opF_cons (op_slice Tryz.underlying45 op112) (opF_cons (op_slice Tryz.underlying46 op144) (opF_cons (op_int Tryz.underlying3) (opF_cons (op_int Tryz.underlying3) (opF_cons (op_int Tryz.underlying3) (opF_cons (op_slice Tryz.underlying47 op135) (opF_cons (op_int Tryz.underlying3) (opF_cons (op_int Tryz.underlying3) opF_nil))))))))))) (fun p=>(⟨p.1,p.2.1,p.2.2.1,p.2.2.2.1,p.2.2.2.2.1,p.2.2.2.2.2.1,p.2.2.2.2.2.2.1,p.2.2.2.2.2.2.2.1,p.2.2.2.2.2.2.2.2.1,p.2.2.2.2.2.2.2.2.2.1,p.2.2.2.2.2.2.2.2.2.2.1⟩:G49Event)) (fun p h=>⟨⟨h.2.2.2.1.1,fun _ _=>trivial⟩,⟨h.2.2.2.2.1.1,fun _ _=>trivial⟩,h.2.2.2.2.2.2.2.2.1⟩)
theorem op257:DOp Tryz.prog 257 c257 (fun _=>True):=op_struct Tryz.underlying257 (opF_cons (op_int Tryz.underlying3) (opF_cons (op_int Tryz.underlying3) (opF_cons (op_int Tryz.underlying3) (opF_cons (op_int Tryz.underlying3) opF_nil)))) (fun p=>(⟨p.1,p.2.1,p.2.2.1,p.2.2.2.1⟩:G257Tuplet)) (fun _ _=>trivial)
structure big73 (x:G73Voice):Prop where
 fEvents:bS big49 x.fEvents
 fTuplets:bS (fun _=>True) x.fTuplets
theorem op73:DOp Tryz.prog 73 c73 big73:=op_struct Tryz.underlying73 (opF_cons (op_slice Tryz.underlying70 op49) (opF_cons (op_slice Tryz.underlying71 op257) opF_nil)) (fun p=>(⟨p.1,p.2.1⟩:G73Voice)) (fun p h=>⟨h.1,⟨h.2.1.1,fun _ _=>trivial⟩⟩)
structure big69 (x:G69Cell):Prop where
 fClefs:bS (fun _=>True) x.fClefs
 fVoices:bS big73 x.fVoices
theorem op69:DOp Tryz.prog 69 c69 big69:=op_struct Tryz.underlying69 (opF_cons (op_slice Tryz.underlying66 op174) (opF_cons (op_slice Tryz.underlying67 op73) opF_nil)) (fun p=>(⟨p.1,p.2.1⟩:G69Cell)) (fun p h=>⟨⟨h.1.1,fun _ _=>trivial⟩,h.2.1⟩)
structure big64 (x:G64Measure):Prop where
 fRepeatEnd:x.fRepeatEnd≤9223372036854775807
 fRehearsal:x.fRehearsal.size≤maxLen
 fTempi:bS (fun _=>True) x.fTempi
 fCells:bS big69 x.fCells
theorem op64:DOp Tryz.prog 64 c64 big64:=op_struct Tryz.underlying64 (opF_cons op33 (opF_cons op60 (opF_cons (op_int Tryz.underlying3) (opF_cons (op_int Tryz.underlying3) (opF_cons (op_bool Tryz.underlying4) (opF_cons (op_int Tryz.underlying3) (opF_cons (op_int Tryz.underlying3) (opF_cons (op_int Tryz.underlying3) (opF_cons (op_int Tryz.underlying3) (opF_cons (op_int Tryz.underlying3) (opF_cons (op_int Tryz.underlying3) (opF_cons (op_str Tryz.underlying9) (opF_cons (op_slice Tryz.underlying61 op161) (opF_cons (op_slice Tryz.underlying62 op69) opF_nil)))))))))))))) (fun p=>(⟨p.1,p.2.1,p.2.2.1,p.2.2.2.1,p.2.2.2.2.1,p.2.2.2.2.2.1,p.2.2.2.2.2.2.1,p.2.2.2.2.2.2.2.1,p.2.2.2.2.2.2.2.2.1,p.2.2.2.2.2.2.2.2.2.1,p.2.2.2.2.2.2.2.2.2.2.1,p.2.2.2.2.2.2.2.2.2.2.2.1,p.2.2.2.2.2.2.2.2.2.2.2.2.1,p.2.2.2.2.2.2.2.2.2.2.2.2.2.1⟩:G64Measure)) (fun p h=>⟨h.2.2.2.2.2.1.2,h.2.2.2.2.2.2.2.2.2.2.2.1,⟨h.2.2.2.2.2.2.2.2.2.2.2.2.1.1,fun _ _=>trivial⟩,h.2.2.2.2.2.2.2.2.2.2.2.2.2.1⟩)
theorem op126:DOp Tryz.prog 126 c126 (fun _=>True):=op_struct Tryz.underlying126 (opF_cons op33 (opF_cons (op_int Tryz.underlying3) (opF_cons op33 (opF_cons op33 opF_nil)))) (fun p=>(⟨p.1,p.2.1,p.2.2.1,p.2.2.2.1⟩:G126Spanner)) (fun _ _=>trivial)
structure big27 (x:G27Score):Prop where
 fTitle:x.fTitle.size≤maxLen
 fParts:bS big89 x.fParts
 fMeasures:bS big64 x.fMeasures
 fSpanners:bS (fun _=>True) x.fSpanners
 fLast:bS (fun _=>True) x.fLast
theorem op27:DOp Tryz.prog 27 c27 big27:=op_struct Tryz.underlying27 (opF_cons (op_str Tryz.underlying9) (opF_cons (op_bool Tryz.underlying4) (opF_cons (op_slice Tryz.underlying22 op89) (opF_cons (op_slice Tryz.underlying23 op64) (opF_cons (op_slice Tryz.underlying24 op126) (opF_cons (op_slice Tryz.underlying25 op33) opF_nil)))))) (fun p=>(⟨p.1,p.2.1,p.2.2.1,p.2.2.2.1,p.2.2.2.2.1,p.2.2.2.2.2.1⟩:G27Score)) (fun p h=>⟨h.1,h.2.2.1,h.2.2.2.1,⟨h.2.2.2.2.1.1,fun _ _=>trivial⟩,⟨h.2.2.2.2.2.1.1,fun _ _=>trivial⟩⟩)
end Go.Proofs.YtnjmaohblihppaaGreatDoor
