/- A part of the proof. -/
import Derived.Test.YtnjmaohblihppaaGreatDoorFD
import Derived.Test.YtnjmaohblihppaaGreatDoorTU2
set_option linter.all false
set_option maxRecDepth 100000
set_option maxHeartbeats 4000000
set_option linter.unusedVariables false
namespace Go.Proofs.YtnjmaohblihppaaGreatDoor
open Go.PE
def Ex (R:Int) (l m:List G35Violation):Prop:=∃ t,m=l++t∧∀ x∈t,x.fRule=R
theorem Ex.refl {R:Int} {l:List G35Violation}:Ex R l l:=⟨[],by simp,by simp⟩
theorem Ex.tr {R:Int} {l m n:List G35Violation} (h:Ex R l m) (k:Ex R m n):Ex R l n:=by
 obtain⟨t,rfl,ht⟩:=h
 obtain⟨u,rfl,hu⟩:=k
 exact⟨t++u,by simp,fun x hx=>(List.mem_append.1 hx).elim (ht x) (hu x)⟩
def sE {α β:Type} (P:α→Prop) (Q:β→Prop):α⊕β→Prop
 |.inl a=>P a
 |.inr b=>Q b
theorem Ex.eq {R:Int} {l m n:List G35Violation} (h:Ex R l m) (k:n=m):Ex R l n:=k▸h
theorem gapp_ex {b:Nat} {l q:List G35Violation} {x:G35Violation} (h:gapp b l (Sl.es (Sl.full [x]))=some q):Ex x.fRule l q:=by
 unfold gapp at h
 split at h
 ·cases h
  exact⟨[x],rfl,fun y hy=>by simp at hy;rw[hy]⟩
 ·cases h
theorem loopF_inv {σ τ:Type} {body:σ→Option (σ⊕τ)} {I:σ→Prop} {T:τ→Prop} {s:σ} {t:τ} (h:loopF body s=some t) (hI:I s) (step:∀ s o,I s→body s=some o→match o with|.inl s'=>I s'|.inr t=>T t):T t:=by
 unfold loopF at h
 generalize 18446744073709551616=n at h
 induction n generalizing s with
 |zero=>cases h
 |succ n ih=>
  rw[iterO]at h
  cases hb:body s with
  |none=>rw[hb]at h;cases h
  |some o=>
   rw[hb]at h
   have k:=step s o hI hb
   cases o with
   |inl s'=>exact ih k h
   |inr t'=>cases h;exact k
theorem xF99_1 {v0 v1 v2 v3 v4 r} (h:F99_1 v0 v1 v2 v3 v4=some r):Ex v3 v4 r:=by
 rcases cor h with ⟨_,h⟩|⟨_,h⟩
 ·obtain⟨v7,h1,h⟩:=bind_some h
  cases h
  exact(gapp_ex h1)
 ·cases h
  exact Ex.refl
theorem xLF103_1_12 {v0 v3 v1 v5 v6 r} (h:LF103_1_12 v0 v3 v1 v5 v6=some r):sE (fun r=>Ex v1 v6 r.2) (fun r=>Ex v1 v6 r) r:=by
 rcases cor h with ⟨_,h⟩|⟨_,h⟩
 ·obtain⟨_,_,h⟩:=bind_some h
  obtain⟨_,_,h⟩:=bind_some h
  obtain⟨v26,h41,h⟩:=bind_some h
  cases h
  exact(xF99_1 h41)
 ·cases h
  exact Ex.refl
theorem xF103_1 {v0 v1 v2 v3 r} (h:F103_1 v0 v1 v2 v3=some r):Ex v1 v2 r:=by
 obtain⟨o8,ho8,h⟩:=bind_some h
 have k42:=loopF_inv (I:=fun s=>Ex v1 v2 s.2) (T:=fun o=>Ex v1 v2 o) ho8 (Ex.refl) (by
  rintro⟨v5,v6⟩ o hI h
  have k:=xLF103_1_12 h
  rcases o with o|o
  ·exact hI.tr k
  ·exact hI.tr k)
 generalize o8=v7 at *
 cases h
 exact k42
theorem xF63_1 {v0 v1 v2 r} (h:F63_1 v0 v1 v2=some r):Ex v1 v2 r:=by
 obtain⟨_,_,h⟩:=bind_some h
 obtain⟨v10,h44,h⟩:=bind_some h
 cases h
 exact(xF103_1 h44)
theorem xLF103_2_11 {v0 v1 v4 v5 r} (h:LF103_2_11 v0 v1 v4 v5=some r):sE (fun r=>Ex v1 v5 r.2) (fun r=>Ex v1 v5 r) r:=by
 rcases cor h with ⟨_,h⟩|⟨_,h⟩
 ·obtain⟨_,_,h⟩:=bind_some h
  obtain⟨_,_,h⟩:=bind_some h
  obtain⟨v22,h47,h⟩:=bind_some h
  cases h
  exact(xF99_1 h47)
 ·cases h
  exact Ex.refl
theorem xF103_2 {v0 v1 v2 r} (h:F103_2 v0 v1 v2=some r):Ex v1 v2 r:=by
 obtain⟨o7,ho7,h⟩:=bind_some h
 have k48:=loopF_inv (I:=fun s=>Ex v1 v2 s.2) (T:=fun o=>Ex v1 v2 o) ho7 (Ex.refl) (by
  rintro⟨v4,v5⟩ o hI h
  have k:=xLF103_2_11 h
  rcases o with o|o
  ·exact hI.tr k
  ·exact hI.tr k)
 generalize o7=v6 at *
 cases h
 exact k48
theorem xJF64_1_5 {v0 v1 v4 r} (h:JF64_1_5 v0 v1 v4=some r):Ex v1 v4 r:=by
 obtain⟨v9,h49,h⟩:=bind_some h
 cases h
 exact(xF103_2 h49)
theorem xJF64_1_21 {v11 v20 r} (h:JF64_1_21 v11 v20=some r):sE (fun r=>r.2=v20) (fun r=>r=v20) r:=by
 cases h
 exact rfl
theorem xLF64_1_31 {v22 v0 v1 v24 v25 r} (h:LF64_1_31 v22 v0 v1 v24 v25=some r):sE (fun r=>Ex v1 v25 r.2) (fun r=>Ex v1 v25 r) r:=by
 rcases cor h with ⟨_,h⟩|⟨_,h⟩
 ·obtain⟨_,_,h⟩:=bind_some h
  obtain⟨_,_,h⟩:=bind_some h
  obtain⟨v42,h52,h⟩:=bind_some h
  cases h
  exact(xF99_1 h52)
 ·cases h
  exact Ex.refl
theorem xLF64_1_18 {v0 v1 v11 v12 r} (h:LF64_1_18 v0 v1 v11 v12=some r):sE (fun r=>Ex v1 v12 r.2) (fun r=>Ex v1 v12 r) r:=by
 rcases cor h with ⟨_,h⟩|⟨_,h⟩
 ·obtain⟨_,_,h⟩:=bind_some h
  obtain⟨o27,ho27,h⟩:=bind_some h
  have k54:=loopF_inv (I:=fun s=>Ex v1 v12 s.2) (T:=fun o=>Ex v1 v12 o) ho27 (Ex.refl) (by
   rintro⟨v24,v25⟩ o hI h
   have k:=xLF64_1_31 h
   rcases o with o|o
   ·exact hI.tr k
   ·exact hI.tr k)
  generalize o27=v26 at *
  have k55:=xJF64_1_21 h
  rcases r with r|r
  ·exact k54.eq k55
  ·exact k54.eq k55
 ·cases h
  exact Ex.refl
theorem xF64_1 {v0 v1 v2 r} (h:F64_1 v0 v1 v2=some r):Ex v1 v2 r:=by
 obtain⟨o14,ho14,h⟩:=bind_some h
 have k56:=loopF_inv (I:=fun s=>Ex v1 v2 s.2) (T:=fun o=>Ex v1 v2 o) ho14 (Ex.refl) (by
  rintro⟨v11,v12⟩ o hI h
  have k:=xLF64_1_18 h
  rcases o with o|o
  ·exact hI.tr k
  ·exact hI.tr k)
 generalize o14=v13 at *
 have k57:=xJF64_1_5 h
 exact(k56.tr k57)
theorem xLF103_3_11 {v0 v1 v4 v5 r} (h:LF103_3_11 v0 v1 v4 v5=some r):sE (fun r=>Ex v1 v5 r.2) (fun r=>Ex v1 v5 r) r:=by
 rcases cor h with ⟨_,h⟩|⟨_,h⟩
 ·obtain⟨_,_,h⟩:=bind_some h
  obtain⟨_,_,h⟩:=bind_some h
  obtain⟨v27,h60,h⟩:=bind_some h
  cases h
  exact(xF99_1 h60)
 ·cases h
  exact Ex.refl
theorem xF103_3 {v0 v1 v2 r} (h:F103_3 v0 v1 v2=some r):Ex v1 v2 r:=by
 obtain⟨o7,ho7,h⟩:=bind_some h
 have k61:=loopF_inv (I:=fun s=>Ex v1 v2 s.2) (T:=fun o=>Ex v1 v2 o) ho7 (Ex.refl) (by
  rintro⟨v4,v5⟩ o hI h
  have k:=xLF103_3_11 h
  rcases o with o|o
  ·exact hI.tr k
  ·exact hI.tr k)
 generalize o7=v6 at *
 cases h
 exact k61
theorem xF65_1 {v0 v1 v2 r} (h:F65_1 v0 v1 v2=some r):Ex v1 v2 r:=by
 obtain⟨v7,h62,h⟩:=bind_some h
 cases h
 exact(xF103_3 h62)
theorem xLF103_4_11 {v0 v1 v4 v5 r} (h:LF103_4_11 v0 v1 v4 v5=some r):sE (fun r=>Ex v1 v5 r.2) (fun r=>Ex v1 v5 r) r:=by
 rcases cor h with ⟨_,h⟩|⟨_,h⟩
 ·obtain⟨_,_,h⟩:=bind_some h
  obtain⟨_,_,h⟩:=bind_some h
  obtain⟨v24,h65,h⟩:=bind_some h
  cases h
  exact(xF99_1 h65)
 ·cases h
  exact Ex.refl
theorem xF103_4 {v0 v1 v2 r} (h:F103_4 v0 v1 v2=some r):Ex v1 v2 r:=by
 obtain⟨o7,ho7,h⟩:=bind_some h
 have k66:=loopF_inv (I:=fun s=>Ex v1 v2 s.2) (T:=fun o=>Ex v1 v2 o) ho7 (Ex.refl) (by
  rintro⟨v4,v5⟩ o hI h
  have k:=xLF103_4_11 h
  rcases o with o|o
  ·exact hI.tr k
  ·exact hI.tr k)
 generalize o7=v6 at *
 cases h
 exact k66
theorem xF110_1 {v0 v1 v2 r} (h:F110_1 v0 v1 v2=some r):Ex v1 v2 r:=by
 obtain⟨v7,h67,h⟩:=bind_some h
 cases h
 exact(xF103_4 h67)
theorem xF66_1 {v0 v1 v2 r} (h:F66_1 v0 v1 v2=some r):Ex v1 v2 r:=by
 obtain⟨v7,h68,h⟩:=bind_some h
 cases h
 exact(xF110_1 h68)
theorem xLF103_5_11 {v0 v1 v4 v5 r} (h:LF103_5_11 v0 v1 v4 v5=some r):sE (fun r=>Ex v1 v5 r.2) (fun r=>Ex v1 v5 r) r:=by
 rcases cor h with ⟨_,h⟩|⟨_,h⟩
 ·obtain⟨_,_,h⟩:=bind_some h
  obtain⟨_,_,h⟩:=bind_some h
  obtain⟨v24,h71,h⟩:=bind_some h
  cases h
  exact(xF99_1 h71)
 ·cases h
  exact Ex.refl
theorem xF103_5 {v0 v1 v2 r} (h:F103_5 v0 v1 v2=some r):Ex v1 v2 r:=by
 obtain⟨o7,ho7,h⟩:=bind_some h
 have k72:=loopF_inv (I:=fun s=>Ex v1 v2 s.2) (T:=fun o=>Ex v1 v2 o) ho7 (Ex.refl) (by
  rintro⟨v4,v5⟩ o hI h
  have k:=xLF103_5_11 h
  rcases o with o|o
  ·exact hI.tr k
  ·exact hI.tr k)
 generalize o7=v6 at *
 cases h
 exact k72
theorem xF110_2 {v0 v1 v2 r} (h:F110_2 v0 v1 v2=some r):Ex v1 v2 r:=by
 obtain⟨v7,h73,h⟩:=bind_some h
 cases h
 exact(xF103_5 h73)
theorem xF67_1 {v0 v1 v2 r} (h:F67_1 v0 v1 v2=some r):Ex v1 v2 r:=by
 obtain⟨v7,h74,h⟩:=bind_some h
 cases h
 exact(xF110_2 h74)
theorem xJF113_1_14 {v4 v13 r} (h:JF113_1_14 v4 v13=some r):sE (fun r=>r.2=v13) (fun r=>r=v13) r:=by
 cases h
 exact rfl
theorem xJF113_1_27 {v17 v26 r} (h:JF113_1_27 v17 v26=some r):sE (fun r=>r.2=v26) (fun r=>r=v26) r:=by
 cases h
 exact rfl
theorem xJF113_1_40 {v30 v39 r} (h:JF113_1_40 v30 v39=some r):sE (fun r=>r.2=v39) (fun r=>r=v39) r:=by
 cases h
 exact rfl
theorem xLF113_1_50 {v41 v17 v4 v30 v0 v1 v43 v44 r} (h:LF113_1_50 v41 v17 v4 v30 v0 v1 v43 v44=some r):sE (fun r=>Ex v1 v44 r.2) (fun r=>Ex v1 v44 r) r:=by
 rcases cor h with ⟨_,h⟩|⟨_,h⟩
 ·obtain⟨_,_,h⟩:=bind_some h
  obtain⟨_,_,h⟩:=bind_some h
  obtain⟨v61,h77,h⟩:=bind_some h
  cases h
  exact(xF99_1 h77)
 ·cases h
  exact Ex.refl
theorem xLF113_1_37 {v28 v17 v4 v0 v1 v30 v31 r} (h:LF113_1_37 v28 v17 v4 v0 v1 v30 v31=some r):sE (fun r=>Ex v1 v31 r.2) (fun r=>Ex v1 v31 r) r:=by
 rcases cor h with ⟨_,h⟩|⟨_,h⟩
 ·obtain⟨_,_,h⟩:=bind_some h
  obtain⟨o46,ho46,h⟩:=bind_some h
  have k79:=loopF_inv (I:=fun s=>Ex v1 v31 s.2) (T:=fun o=>Ex v1 v31 o) ho46 (Ex.refl) (by
   rintro⟨v43,v44⟩ o hI h
   have k:=xLF113_1_50 h
   rcases o with o|o
   ·exact hI.tr k
   ·exact hI.tr k)
  generalize o46=v45 at *
  have k80:=xJF113_1_40 h
  rcases r with r|r
  ·exact k79.eq k80
  ·exact k79.eq k80
 ·cases h
  exact Ex.refl
theorem xLF113_1_24 {v15 v4 v0 v1 v17 v18 r} (h:LF113_1_24 v15 v4 v0 v1 v17 v18=some r):sE (fun r=>Ex v1 v18 r.2) (fun r=>Ex v1 v18 r) r:=by
 rcases cor h with ⟨_,h⟩|⟨_,h⟩
 ·obtain⟨_,_,h⟩:=bind_some h
  obtain⟨o33,ho33,h⟩:=bind_some h
  have k82:=loopF_inv (I:=fun s=>Ex v1 v18 s.2) (T:=fun o=>Ex v1 v18 o) ho33 (Ex.refl) (by
   rintro⟨v30,v31⟩ o hI h
   have k:=xLF113_1_37 h
   rcases o with o|o
   ·exact hI.tr k
   ·exact hI.tr k)
  generalize o33=v32 at *
  have k83:=xJF113_1_27 h
  rcases r with r|r
  ·exact k82.eq k83
  ·exact k82.eq k83
 ·cases h
  exact Ex.refl
theorem xLF113_1_11 {v0 v1 v4 v5 r} (h:LF113_1_11 v0 v1 v4 v5=some r):sE (fun r=>Ex v1 v5 r.2) (fun r=>Ex v1 v5 r) r:=by
 rcases cor h with ⟨_,h⟩|⟨_,h⟩
 ·obtain⟨_,_,h⟩:=bind_some h
  obtain⟨o20,ho20,h⟩:=bind_some h
  have k85:=loopF_inv (I:=fun s=>Ex v1 v5 s.2) (T:=fun o=>Ex v1 v5 o) ho20 (Ex.refl) (by
   rintro⟨v17,v18⟩ o hI h
   have k:=xLF113_1_24 h
   rcases o with o|o
   ·exact hI.tr k
   ·exact hI.tr k)
  generalize o20=v19 at *
  have k86:=xJF113_1_14 h
  rcases r with r|r
  ·exact k85.eq k86
  ·exact k85.eq k86
 ·cases h
  exact Ex.refl
theorem xF113_1 {v0 v1 v2 r} (h:F113_1 v0 v1 v2=some r):Ex v1 v2 r:=by
 obtain⟨o7,ho7,h⟩:=bind_some h
 have k87:=loopF_inv (I:=fun s=>Ex v1 v2 s.2) (T:=fun o=>Ex v1 v2 o) ho7 (Ex.refl) (by
  rintro⟨v4,v5⟩ o hI h
  have k:=xLF113_1_11 h
  rcases o with o|o
  ·exact hI.tr k
  ·exact hI.tr k)
 generalize o7=v6 at *
 cases h
 exact k87
theorem xF68_1 {v0 v1 v2 r} (h:F68_1 v0 v1 v2=some r):Ex v1 v2 r:=by
 obtain⟨v7,h88,h⟩:=bind_some h
 cases h
 exact(xF113_1 h88)
theorem xJF113_2_14 {v4 v13 r} (h:JF113_2_14 v4 v13=some r):sE (fun r=>r.2=v13) (fun r=>r=v13) r:=by
 cases h
 exact rfl
theorem xJF113_2_27 {v17 v26 r} (h:JF113_2_27 v17 v26=some r):sE (fun r=>r.2=v26) (fun r=>r=v26) r:=by
 cases h
 exact rfl
theorem xJF113_2_40 {v30 v39 r} (h:JF113_2_40 v30 v39=some r):sE (fun r=>r.2=v39) (fun r=>r=v39) r:=by
 cases h
 exact rfl
theorem xLF113_2_50 {v41 v17 v4 v30 v0 v1 v43 v44 r} (h:LF113_2_50 v41 v17 v4 v30 v0 v1 v43 v44=some r):sE (fun r=>Ex v1 v44 r.2) (fun r=>Ex v1 v44 r) r:=by
 rcases cor h with ⟨_,h⟩|⟨_,h⟩
 ·obtain⟨_,_,h⟩:=bind_some h
  obtain⟨_,_,h⟩:=bind_some h
  obtain⟨v72,h91,h⟩:=bind_some h
  cases h
  exact(xF99_1 h91)
 ·cases h
  exact Ex.refl
theorem xLF113_2_37 {v28 v17 v4 v0 v1 v30 v31 r} (h:LF113_2_37 v28 v17 v4 v0 v1 v30 v31=some r):sE (fun r=>Ex v1 v31 r.2) (fun r=>Ex v1 v31 r) r:=by
 rcases cor h with ⟨_,h⟩|⟨_,h⟩
 ·obtain⟨_,_,h⟩:=bind_some h
  obtain⟨o46,ho46,h⟩:=bind_some h
  have k93:=loopF_inv (I:=fun s=>Ex v1 v31 s.2) (T:=fun o=>Ex v1 v31 o) ho46 (Ex.refl) (by
   rintro⟨v43,v44⟩ o hI h
   have k:=xLF113_2_50 h
   rcases o with o|o
   ·exact hI.tr k
   ·exact hI.tr k)
  generalize o46=v45 at *
  have k94:=xJF113_2_40 h
  rcases r with r|r
  ·exact k93.eq k94
  ·exact k93.eq k94
 ·cases h
  exact Ex.refl
theorem xLF113_2_24 {v15 v4 v0 v1 v17 v18 r} (h:LF113_2_24 v15 v4 v0 v1 v17 v18=some r):sE (fun r=>Ex v1 v18 r.2) (fun r=>Ex v1 v18 r) r:=by
 rcases cor h with ⟨_,h⟩|⟨_,h⟩
 ·obtain⟨_,_,h⟩:=bind_some h
  obtain⟨o33,ho33,h⟩:=bind_some h
  have k96:=loopF_inv (I:=fun s=>Ex v1 v18 s.2) (T:=fun o=>Ex v1 v18 o) ho33 (Ex.refl) (by
   rintro⟨v30,v31⟩ o hI h
   have k:=xLF113_2_37 h
   rcases o with o|o
   ·exact hI.tr k
   ·exact hI.tr k)
  generalize o33=v32 at *
  have k97:=xJF113_2_27 h
  rcases r with r|r
  ·exact k96.eq k97
  ·exact k96.eq k97
 ·cases h
  exact Ex.refl
theorem xLF113_2_11 {v0 v1 v4 v5 r} (h:LF113_2_11 v0 v1 v4 v5=some r):sE (fun r=>Ex v1 v5 r.2) (fun r=>Ex v1 v5 r) r:=by
 rcases cor h with ⟨_,h⟩|⟨_,h⟩
 ·obtain⟨_,_,h⟩:=bind_some h
  obtain⟨o20,ho20,h⟩:=bind_some h
  have k99:=loopF_inv (I:=fun s=>Ex v1 v5 s.2) (T:=fun o=>Ex v1 v5 o) ho20 (Ex.refl) (by
   rintro⟨v17,v18⟩ o hI h
   have k:=xLF113_2_24 h
   rcases o with o|o
   ·exact hI.tr k
   ·exact hI.tr k)
  generalize o20=v19 at *
  have k100:=xJF113_2_14 h
  rcases r with r|r
  ·exact k99.eq k100
  ·exact k99.eq k100
 ·cases h
  exact Ex.refl
theorem xF113_2 {v0 v1 v2 r} (h:F113_2 v0 v1 v2=some r):Ex v1 v2 r:=by
 obtain⟨o7,ho7,h⟩:=bind_some h
 have k101:=loopF_inv (I:=fun s=>Ex v1 v2 s.2) (T:=fun o=>Ex v1 v2 o) ho7 (Ex.refl) (by
  rintro⟨v4,v5⟩ o hI h
  have k:=xLF113_2_11 h
  rcases o with o|o
  ·exact hI.tr k
  ·exact hI.tr k)
 generalize o7=v6 at *
 cases h
 exact k101
theorem xF69_1 {v0 v1 v2 r} (h:F69_1 v0 v1 v2=some r):Ex v1 v2 r:=by
 obtain⟨v7,h102,h⟩:=bind_some h
 cases h
 exact(xF113_2 h102)
theorem xJF113_3_14 {v4 v13 r} (h:JF113_3_14 v4 v13=some r):sE (fun r=>r.2=v13) (fun r=>r=v13) r:=by
 cases h
 exact rfl
theorem xJF113_3_27 {v17 v26 r} (h:JF113_3_27 v17 v26=some r):sE (fun r=>r.2=v26) (fun r=>r=v26) r:=by
 cases h
 exact rfl
theorem xJF113_3_40 {v30 v39 r} (h:JF113_3_40 v30 v39=some r):sE (fun r=>r.2=v39) (fun r=>r=v39) r:=by
 cases h
 exact rfl
theorem xLF113_3_50 {v41 v17 v4 v30 v0 v1 v43 v44 r} (h:LF113_3_50 v41 v17 v4 v30 v0 v1 v43 v44=some r):sE (fun r=>Ex v1 v44 r.2) (fun r=>Ex v1 v44 r) r:=by
 rcases cor h with ⟨_,h⟩|⟨_,h⟩
 ·obtain⟨_,_,h⟩:=bind_some h
  obtain⟨_,_,h⟩:=bind_some h
  obtain⟨v72,h105,h⟩:=bind_some h
  cases h
  exact(xF99_1 h105)
 ·cases h
  exact Ex.refl
theorem xLF113_3_37 {v28 v17 v4 v0 v1 v30 v31 r} (h:LF113_3_37 v28 v17 v4 v0 v1 v30 v31=some r):sE (fun r=>Ex v1 v31 r.2) (fun r=>Ex v1 v31 r) r:=by
 rcases cor h with ⟨_,h⟩|⟨_,h⟩
 ·obtain⟨_,_,h⟩:=bind_some h
  obtain⟨o46,ho46,h⟩:=bind_some h
  have k107:=loopF_inv (I:=fun s=>Ex v1 v31 s.2) (T:=fun o=>Ex v1 v31 o) ho46 (Ex.refl) (by
   rintro⟨v43,v44⟩ o hI h
   have k:=xLF113_3_50 h
   rcases o with o|o
   ·exact hI.tr k
   ·exact hI.tr k)
  generalize o46=v45 at *
  have k108:=xJF113_3_40 h
  rcases r with r|r
  ·exact k107.eq k108
  ·exact k107.eq k108
 ·cases h
  exact Ex.refl
theorem xLF113_3_24 {v15 v4 v0 v1 v17 v18 r} (h:LF113_3_24 v15 v4 v0 v1 v17 v18=some r):sE (fun r=>Ex v1 v18 r.2) (fun r=>Ex v1 v18 r) r:=by
 rcases cor h with ⟨_,h⟩|⟨_,h⟩
 ·obtain⟨_,_,h⟩:=bind_some h
  obtain⟨o33,ho33,h⟩:=bind_some h
  have k110:=loopF_inv (I:=fun s=>Ex v1 v18 s.2) (T:=fun o=>Ex v1 v18 o) ho33 (Ex.refl) (by
   rintro⟨v30,v31⟩ o hI h
   have k:=xLF113_3_37 h
   rcases o with o|o
   ·exact hI.tr k
   ·exact hI.tr k)
  generalize o33=v32 at *
  have k111:=xJF113_3_27 h
  rcases r with r|r
  ·exact k110.eq k111
  ·exact k110.eq k111
 ·cases h
  exact Ex.refl
theorem xLF113_3_11 {v0 v1 v4 v5 r} (h:LF113_3_11 v0 v1 v4 v5=some r):sE (fun r=>Ex v1 v5 r.2) (fun r=>Ex v1 v5 r) r:=by
 rcases cor h with ⟨_,h⟩|⟨_,h⟩
 ·obtain⟨_,_,h⟩:=bind_some h
  obtain⟨o20,ho20,h⟩:=bind_some h
  have k113:=loopF_inv (I:=fun s=>Ex v1 v5 s.2) (T:=fun o=>Ex v1 v5 o) ho20 (Ex.refl) (by
   rintro⟨v17,v18⟩ o hI h
   have k:=xLF113_3_24 h
   rcases o with o|o
   ·exact hI.tr k
   ·exact hI.tr k)
  generalize o20=v19 at *
  have k114:=xJF113_3_14 h
  rcases r with r|r
  ·exact k113.eq k114
  ·exact k113.eq k114
 ·cases h
  exact Ex.refl
theorem xF113_3 {v0 v1 v2 r} (h:F113_3 v0 v1 v2=some r):Ex v1 v2 r:=by
 obtain⟨o7,ho7,h⟩:=bind_some h
 have k115:=loopF_inv (I:=fun s=>Ex v1 v2 s.2) (T:=fun o=>Ex v1 v2 o) ho7 (Ex.refl) (by
  rintro⟨v4,v5⟩ o hI h
  have k:=xLF113_3_11 h
  rcases o with o|o
  ·exact hI.tr k
  ·exact hI.tr k)
 generalize o7=v6 at *
 cases h
 exact k115
theorem xF70_1 {v0 v1 v2 r} (h:F70_1 v0 v1 v2=some r):Ex v1 v2 r:=by
 obtain⟨v7,h116,h⟩:=bind_some h
 cases h
 exact(xF113_3 h116)
theorem xJF113_4_15 {v5 v14 r} (h:JF113_4_15 v5 v14=some r):sE (fun r=>r.2=v14) (fun r=>r=v14) r:=by
 cases h
 exact rfl
theorem xJF113_4_28 {v18 v27 r} (h:JF113_4_28 v18 v27=some r):sE (fun r=>r.2=v27) (fun r=>r=v27) r:=by
 cases h
 exact rfl
theorem xJF113_4_41 {v31 v40 r} (h:JF113_4_41 v31 v40=some r):sE (fun r=>r.2=v40) (fun r=>r=v40) r:=by
 cases h
 exact rfl
theorem xLF113_4_51 {v42 v18 v5 v31 v3 v0 v1 v44 v45 r} (h:LF113_4_51 v42 v18 v5 v31 v3 v0 v1 v44 v45=some r):sE (fun r=>Ex v1 v45 r.2) (fun r=>Ex v1 v45 r) r:=by
 rcases cor h with ⟨_,h⟩|⟨_,h⟩
 ·obtain⟨_,_,h⟩:=bind_some h
  obtain⟨_,_,h⟩:=bind_some h
  obtain⟨v71,h119,h⟩:=bind_some h
  cases h
  exact(xF99_1 h119)
 ·cases h
  exact Ex.refl
theorem xLF113_4_38 {v29 v18 v5 v3 v0 v1 v31 v32 r} (h:LF113_4_38 v29 v18 v5 v3 v0 v1 v31 v32=some r):sE (fun r=>Ex v1 v32 r.2) (fun r=>Ex v1 v32 r) r:=by
 rcases cor h with ⟨_,h⟩|⟨_,h⟩
 ·obtain⟨_,_,h⟩:=bind_some h
  obtain⟨o47,ho47,h⟩:=bind_some h
  have k121:=loopF_inv (I:=fun s=>Ex v1 v32 s.2) (T:=fun o=>Ex v1 v32 o) ho47 (Ex.refl) (by
   rintro⟨v44,v45⟩ o hI h
   have k:=xLF113_4_51 h
   rcases o with o|o
   ·exact hI.tr k
   ·exact hI.tr k)
  generalize o47=v46 at *
  have k122:=xJF113_4_41 h
  rcases r with r|r
  ·exact k121.eq k122
  ·exact k121.eq k122
 ·cases h
  exact Ex.refl
theorem xLF113_4_25 {v16 v5 v3 v0 v1 v18 v19 r} (h:LF113_4_25 v16 v5 v3 v0 v1 v18 v19=some r):sE (fun r=>Ex v1 v19 r.2) (fun r=>Ex v1 v19 r) r:=by
 rcases cor h with ⟨_,h⟩|⟨_,h⟩
 ·obtain⟨_,_,h⟩:=bind_some h
  obtain⟨o34,ho34,h⟩:=bind_some h
  have k124:=loopF_inv (I:=fun s=>Ex v1 v19 s.2) (T:=fun o=>Ex v1 v19 o) ho34 (Ex.refl) (by
   rintro⟨v31,v32⟩ o hI h
   have k:=xLF113_4_38 h
   rcases o with o|o
   ·exact hI.tr k
   ·exact hI.tr k)
  generalize o34=v33 at *
  have k125:=xJF113_4_28 h
  rcases r with r|r
  ·exact k124.eq k125
  ·exact k124.eq k125
 ·cases h
  exact Ex.refl
theorem xLF113_4_12 {v0 v3 v1 v5 v6 r} (h:LF113_4_12 v0 v3 v1 v5 v6=some r):sE (fun r=>Ex v1 v6 r.2) (fun r=>Ex v1 v6 r) r:=by
 rcases cor h with ⟨_,h⟩|⟨_,h⟩
 ·obtain⟨_,_,h⟩:=bind_some h
  obtain⟨o21,ho21,h⟩:=bind_some h
  have k127:=loopF_inv (I:=fun s=>Ex v1 v6 s.2) (T:=fun o=>Ex v1 v6 o) ho21 (Ex.refl) (by
   rintro⟨v18,v19⟩ o hI h
   have k:=xLF113_4_25 h
   rcases o with o|o
   ·exact hI.tr k
   ·exact hI.tr k)
  generalize o21=v20 at *
  have k128:=xJF113_4_15 h
  rcases r with r|r
  ·exact k127.eq k128
  ·exact k127.eq k128
 ·cases h
  exact Ex.refl
theorem xF113_4 {v0 v1 v2 v3 r} (h:F113_4 v0 v1 v2 v3=some r):Ex v1 v2 r:=by
 obtain⟨o8,ho8,h⟩:=bind_some h
 have k129:=loopF_inv (I:=fun s=>Ex v1 v2 s.2) (T:=fun o=>Ex v1 v2 o) ho8 (Ex.refl) (by
  rintro⟨v5,v6⟩ o hI h
  have k:=xLF113_4_12 h
  rcases o with o|o
  ·exact hI.tr k
  ·exact hI.tr k)
 generalize o8=v7 at *
 cases h
 exact k129
theorem xJF71_1_7 {v0 v1 v2 v6 r} (h:JF71_1_7 v0 v1 v2 v6=some r):Ex v1 v2 r:=by
 obtain⟨v12,h130,h⟩:=bind_some h
 cases h
 exact(xF113_4 h130)
theorem xF71_1 {v0 v1 v2 r} (h:F71_1 v0 v1 v2=some r):Ex v1 v2 r:=by
 obtain⟨_,_,h⟩:=bind_some h
 obtain⟨o17,ho17,h⟩:=bind_some h
 generalize o17=v16 at *
 exact xJF71_1_7 h
theorem xLF72_1_16 {v0 v7 v1 v9 v10 r} (h:LF72_1_16 v0 v7 v1 v9 v10=some r):sE (fun r=>Ex v1 v10 r.2) (fun r=>Ex v1 v10 r) r:=by
 rcases cor h with ⟨_,h⟩|⟨_,h⟩
 ·obtain⟨_,_,h⟩:=bind_some h
  obtain⟨_,_,h⟩:=bind_some h
  obtain⟨v27,h135,h⟩:=bind_some h
  cases h
  exact(xF99_1 h135)
 ·cases h
  exact Ex.refl
theorem xF72_1 {v0 v1 v2 r} (h:F72_1 v0 v1 v2=some r):Ex v1 v2 r:=by
 obtain⟨_,_,h⟩:=bind_some h
 obtain⟨o12,ho12,h⟩:=bind_some h
 have k137:=loopF_inv (I:=fun s=>Ex v1 v2 s.2) (T:=fun o=>Ex v1 v2 o) ho12 (Ex.refl) (by
  rintro⟨v9,v10⟩ o hI h
  have k:=xLF72_1_16 h
  rcases o with o|o
  ·exact hI.tr k
  ·exact hI.tr k)
 generalize o12=v11 at *
 cases h
 exact k137
theorem xJF73_1_19 {v9 v18 r} (h:JF73_1_19 v9 v18=some r):sE (fun r=>r.2=v18) (fun r=>r=v18) r:=by
 cases h
 exact rfl
theorem xJF73_1_23 {v20 v0 v1 v10 v9 v22 r} (h:JF73_1_23 v20 v0 v1 v10 v9 v22=some r):sE (fun r=>Ex v1 v10 r.2) (fun r=>Ex v1 v10 r) r:=by
 obtain⟨v29,h138,h⟩:=bind_some h
 have k139:=xJF73_1_19 h
 rcases r with r|r
 ·exact(xF99_1 h138).eq k139
 ·exact(xF99_1 h138).eq k139
theorem xLF73_1_16 {v0 v7 v1 v9 v10 r} (h:LF73_1_16 v0 v7 v1 v9 v10=some r):sE (fun r=>Ex v1 v10 r.2) (fun r=>Ex v1 v10 r) r:=by
 rcases cor h with ⟨_,h⟩|⟨_,h⟩
 ·obtain⟨_,_,h⟩:=bind_some h
  obtain⟨o34,ho34,h⟩:=bind_some h
  generalize o34=v33 at *
  exact xJF73_1_23 h
 ·cases h
  exact Ex.refl
theorem xF73_1 {v0 v1 v2 r} (h:F73_1 v0 v1 v2=some r):Ex v1 v2 r:=by
 obtain⟨_,_,h⟩:=bind_some h
 obtain⟨o12,ho12,h⟩:=bind_some h
 have k143:=loopF_inv (I:=fun s=>Ex v1 v2 s.2) (T:=fun o=>Ex v1 v2 o) ho12 (Ex.refl) (by
  rintro⟨v9,v10⟩ o hI h
  have k:=xLF73_1_16 h
  rcases o with o|o
  ·exact hI.tr k
  ·exact hI.tr k)
 generalize o12=v11 at *
 cases h
 exact k143
theorem xLF103_6_11 {v0 v1 v4 v5 r} (h:LF103_6_11 v0 v1 v4 v5=some r):sE (fun r=>Ex v1 v5 r.2) (fun r=>Ex v1 v5 r) r:=by
 rcases cor h with ⟨_,h⟩|⟨_,h⟩
 ·obtain⟨_,_,h⟩:=bind_some h
  obtain⟨_,_,h⟩:=bind_some h
  obtain⟨v22,h146,h⟩:=bind_some h
  cases h
  exact(xF99_1 h146)
 ·cases h
  exact Ex.refl
theorem xF103_6 {v0 v1 v2 r} (h:F103_6 v0 v1 v2=some r):Ex v1 v2 r:=by
 obtain⟨o7,ho7,h⟩:=bind_some h
 have k147:=loopF_inv (I:=fun s=>Ex v1 v2 s.2) (T:=fun o=>Ex v1 v2 o) ho7 (Ex.refl) (by
  rintro⟨v4,v5⟩ o hI h
  have k:=xLF103_6_11 h
  rcases o with o|o
  ·exact hI.tr k
  ·exact hI.tr k)
 generalize o7=v6 at *
 cases h
 exact k147
theorem xJF74_1_18 {v0 v1 v7 v17 r} (h:JF74_1_18 v0 v1 v7 v17=some r):Ex v1 v7 r:=by
 obtain⟨_,_,h⟩:=bind_some h
 obtain⟨v26,h149,h⟩:=bind_some h
 cases h
 exact(xF99_1 h149)
theorem xJF74_1_16 {v0 v1 v7 v10 v11 v12 v13 v14 v15 r} (h:JF74_1_16 v0 v1 v7 v10 v11 v12 v13 v14 v15=some r):Ex v1 v7 r:=by
 rcases cor h with ⟨_,h⟩|⟨_,h⟩
 ·rcases cor h with ⟨_,h⟩|⟨_,h⟩
  ·exact xJF74_1_18 h
  ·rcases cor h with ⟨_,h⟩|⟨_,h⟩
   ·obtain⟨_,_,h⟩:=bind_some h
    exact xJF74_1_18 h
   ·exact xJF74_1_18 h
 ·rcases cor h with ⟨_,h⟩|⟨_,h⟩
  ·obtain⟨_,_,h⟩:=bind_some h
   exact xJF74_1_18 h
  ·exact xJF74_1_18 h
theorem xLF74_1_54 {v0 v1 v7 v36 v37 v38 v39 v40 v41 v42 r} (h:LF74_1_54 v0 v1 v7 v36 v37 v38 v39 v40 v41 v42=some r):sE tru (sE (fun r=>Ex v1 v7 r) tru) r:=by
 rcases cor h with ⟨_,h⟩|⟨_,h⟩
 ·obtain⟨_,_,h⟩:=bind_some h
  obtain⟨_,_,h⟩:=bind_some h
  rcases cor h with ⟨_,h⟩|⟨_,h⟩
  ·obtain⟨v66,h154,h⟩:=bind_some h
   cases h
   exact(xF99_1 h154)
  ·cases h
   trivial
 ·cases h
  trivial
theorem xF74_1 {v0 v1 v2 r} (h:F74_1 v0 v1 v2=some r):Ex v1 v2 r:=by
 obtain⟨v7,h155,h⟩:=bind_some h
 rcases cor h with ⟨_,h⟩|⟨_,h⟩
 ·cases h
  exact(xF103_6 h155)
 ·obtain⟨o50,ho50,h⟩:=bind_some h
  have k156:=loopF_out (T:=fun o=>sE (fun r=>Ex v1 v7 r) tru o) ho50 (by
   rintro⟨_,_,_,_,_,_,_⟩ o h
   exact xLF74_1_54 h)
  rcases o50 with v43|⟨v44,v45,v46,v47,v48,v49⟩
  ·cases h
   exact((xF103_6 h155).tr k156)
  ·have k157:=xJF74_1_16 h
   exact((xF103_6 h155).tr k157)
theorem xLF103_7_11 {v0 v1 v4 v5 r} (h:LF103_7_11 v0 v1 v4 v5=some r):sE (fun r=>Ex v1 v5 r.2) (fun r=>Ex v1 v5 r) r:=by
 rcases cor h with ⟨_,h⟩|⟨_,h⟩
 ·obtain⟨_,_,h⟩:=bind_some h
  obtain⟨_,_,h⟩:=bind_some h
  obtain⟨v27,h160,h⟩:=bind_some h
  cases h
  exact(xF99_1 h160)
 ·cases h
  exact Ex.refl
theorem xF103_7 {v0 v1 v2 r} (h:F103_7 v0 v1 v2=some r):Ex v1 v2 r:=by
 obtain⟨o7,ho7,h⟩:=bind_some h
 have k161:=loopF_inv (I:=fun s=>Ex v1 v2 s.2) (T:=fun o=>Ex v1 v2 o) ho7 (Ex.refl) (by
  rintro⟨v4,v5⟩ o hI h
  have k:=xLF103_7_11 h
  rcases o with o|o
  ·exact hI.tr k
  ·exact hI.tr k)
 generalize o7=v6 at *
 cases h
 exact k161
theorem xF75_1 {v0 v1 v2 r} (h:F75_1 v0 v1 v2=some r):Ex v1 v2 r:=by
 obtain⟨v7,h162,h⟩:=bind_some h
 cases h
 exact(xF103_7 h162)
theorem xLF103_8_11 {v0 v1 v4 v5 r} (h:LF103_8_11 v0 v1 v4 v5=some r):sE (fun r=>Ex v1 v5 r.2) (fun r=>Ex v1 v5 r) r:=by
 rcases cor h with ⟨_,h⟩|⟨_,h⟩
 ·obtain⟨_,_,h⟩:=bind_some h
  obtain⟨_,_,h⟩:=bind_some h
  obtain⟨v22,h165,h⟩:=bind_some h
  cases h
  exact(xF99_1 h165)
 ·cases h
  exact Ex.refl
theorem xF103_8 {v0 v1 v2 r} (h:F103_8 v0 v1 v2=some r):Ex v1 v2 r:=by
 obtain⟨o7,ho7,h⟩:=bind_some h
 have k166:=loopF_inv (I:=fun s=>Ex v1 v2 s.2) (T:=fun o=>Ex v1 v2 o) ho7 (Ex.refl) (by
  rintro⟨v4,v5⟩ o hI h
  have k:=xLF103_8_11 h
  rcases o with o|o
  ·exact hI.tr k
  ·exact hI.tr k)
 generalize o7=v6 at *
 cases h
 exact k166
theorem xF76_1 {v0 v1 v2 r} (h:F76_1 v0 v1 v2=some r):Ex v1 v2 r:=by
 obtain⟨v7,h167,h⟩:=bind_some h
 cases h
 exact(xF103_8 h167)
theorem xJF113_5_14 {v4 v13 r} (h:JF113_5_14 v4 v13=some r):sE (fun r=>r.2=v13) (fun r=>r=v13) r:=by
 cases h
 exact rfl
theorem xJF113_5_27 {v17 v26 r} (h:JF113_5_27 v17 v26=some r):sE (fun r=>r.2=v26) (fun r=>r=v26) r:=by
 cases h
 exact rfl
theorem xJF113_5_40 {v30 v39 r} (h:JF113_5_40 v30 v39=some r):sE (fun r=>r.2=v39) (fun r=>r=v39) r:=by
 cases h
 exact rfl
theorem xLF113_5_50 {v41 v17 v4 v30 v0 v1 v43 v44 r} (h:LF113_5_50 v41 v17 v4 v30 v0 v1 v43 v44=some r):sE (fun r=>Ex v1 v44 r.2) (fun r=>Ex v1 v44 r) r:=by
 rcases cor h with ⟨_,h⟩|⟨_,h⟩
 ·obtain⟨_,_,h⟩:=bind_some h
  obtain⟨_,_,h⟩:=bind_some h
  obtain⟨v72,h170,h⟩:=bind_some h
  cases h
  exact(xF99_1 h170)
 ·cases h
  exact Ex.refl
theorem xLF113_5_37 {v28 v17 v4 v0 v1 v30 v31 r} (h:LF113_5_37 v28 v17 v4 v0 v1 v30 v31=some r):sE (fun r=>Ex v1 v31 r.2) (fun r=>Ex v1 v31 r) r:=by
 rcases cor h with ⟨_,h⟩|⟨_,h⟩
 ·obtain⟨_,_,h⟩:=bind_some h
  obtain⟨o46,ho46,h⟩:=bind_some h
  have k172:=loopF_inv (I:=fun s=>Ex v1 v31 s.2) (T:=fun o=>Ex v1 v31 o) ho46 (Ex.refl) (by
   rintro⟨v43,v44⟩ o hI h
   have k:=xLF113_5_50 h
   rcases o with o|o
   ·exact hI.tr k
   ·exact hI.tr k)
  generalize o46=v45 at *
  have k173:=xJF113_5_40 h
  rcases r with r|r
  ·exact k172.eq k173
  ·exact k172.eq k173
 ·cases h
  exact Ex.refl
theorem xLF113_5_24 {v15 v4 v0 v1 v17 v18 r} (h:LF113_5_24 v15 v4 v0 v1 v17 v18=some r):sE (fun r=>Ex v1 v18 r.2) (fun r=>Ex v1 v18 r) r:=by
 rcases cor h with ⟨_,h⟩|⟨_,h⟩
 ·obtain⟨_,_,h⟩:=bind_some h
  obtain⟨o33,ho33,h⟩:=bind_some h
  have k175:=loopF_inv (I:=fun s=>Ex v1 v18 s.2) (T:=fun o=>Ex v1 v18 o) ho33 (Ex.refl) (by
   rintro⟨v30,v31⟩ o hI h
   have k:=xLF113_5_37 h
   rcases o with o|o
   ·exact hI.tr k
   ·exact hI.tr k)
  generalize o33=v32 at *
  have k176:=xJF113_5_27 h
  rcases r with r|r
  ·exact k175.eq k176
  ·exact k175.eq k176
 ·cases h
  exact Ex.refl
theorem xLF113_5_11 {v0 v1 v4 v5 r} (h:LF113_5_11 v0 v1 v4 v5=some r):sE (fun r=>Ex v1 v5 r.2) (fun r=>Ex v1 v5 r) r:=by
 rcases cor h with ⟨_,h⟩|⟨_,h⟩
 ·obtain⟨_,_,h⟩:=bind_some h
  obtain⟨o20,ho20,h⟩:=bind_some h
  have k178:=loopF_inv (I:=fun s=>Ex v1 v5 s.2) (T:=fun o=>Ex v1 v5 o) ho20 (Ex.refl) (by
   rintro⟨v17,v18⟩ o hI h
   have k:=xLF113_5_24 h
   rcases o with o|o
   ·exact hI.tr k
   ·exact hI.tr k)
  generalize o20=v19 at *
  have k179:=xJF113_5_14 h
  rcases r with r|r
  ·exact k178.eq k179
  ·exact k178.eq k179
 ·cases h
  exact Ex.refl
theorem xF113_5 {v0 v1 v2 r} (h:F113_5 v0 v1 v2=some r):Ex v1 v2 r:=by
 obtain⟨o7,ho7,h⟩:=bind_some h
 have k180:=loopF_inv (I:=fun s=>Ex v1 v2 s.2) (T:=fun o=>Ex v1 v2 o) ho7 (Ex.refl) (by
  rintro⟨v4,v5⟩ o hI h
  have k:=xLF113_5_11 h
  rcases o with o|o
  ·exact hI.tr k
  ·exact hI.tr k)
 generalize o7=v6 at *
 cases h
 exact k180
theorem xF77_1 {v0 v1 v2 r} (h:F77_1 v0 v1 v2=some r):Ex v1 v2 r:=by
 obtain⟨v7,h181,h⟩:=bind_some h
 cases h
 exact(xF113_5 h181)
end Go.Proofs.YtnjmaohblihppaaGreatDoor
namespace Go.Proofs.YtnjmaohblihppaaGreatDoor
open Go.PE
set_option maxRecDepth 100000
theorem q3 {k:Int} {l:List G35Violation} {r} (h:JF32_3 k l=some r):Sl.es r=l:=by
 cases h
 exact mkSl_es l
end Go.Proofs.YtnjmaohblihppaaGreatDoor
