/- A part of the proof. -/
import Derived.Test.YtnjmaohblihppaaGreatDoorFD
import Derived.Test.YtnjmaohblihppaaGreatDoorTU2
set_option linter.all false
set_option maxRecDepth 100000
set_option maxHeartbeats 4000000
set_option linter.unusedVariables false
namespace Go.Proofs.YtnjmaohblihppaaGreatDoor
open Go.PE
def Ex (R:Int) (l m:List G35):Prop:=∃ t,m=l++t/\∀ x∈t,x.fP=R
theorem Ex.refl {R:Int} {l:List G35}:Ex R l l:=⟨[],by simp,by simp⟩
theorem Ex.tr {R:Int} {l m n:List G35} (h:Ex R l m) (k:Ex R m n):Ex R l n:=by
 obtain⟨t,rfl,ht⟩:=h
 obtain⟨u,rfl,hu⟩:=k
 exact⟨t++u,by simp,λx hx=>(List.mem_append.1 hx).elim (ht x) (hu x)⟩
def sE {α β:Type} (P:α->Prop) (Q:β->Prop):α⊕β->Prop
 |.inl a=>P a
 |.inr b=>Q b
theorem Ex.eq {R:Int} {l m n:List G35} (h:Ex R l m) (k:n=m):Ex R l n:=k▸h
theorem gapp_ex {b:Nat} {l q:List G35} {x:G35} (h:gapp b l (Sl.es (Sl.full [x]))=some q):Ex x.fP l q:=by
 unfold gapp at h
 split at h
 ·cases h
  exact⟨[x],rfl,λy hy=>by simp at hy;rw[hy]⟩
 ·cases h
theorem Xl {σ τ:Type} {body:σ->Option (σ⊕τ)} {I:σ->Prop} {T:τ->Prop} {s:σ} {t:τ} (h:Xh body s=some t) (hI:I s) (step:∀ s o,I s->body s=some o->match o with|.inl s'=>I s'|.inr t=>T t):T t:=by
 unfold Xh at h
 generalize 18446744073709551616=n at h
 induction n generalizing s with
 |zero=>cases h
 |succ n ih=>
  rw[iterO]at h
  cases hb:body s with
  |none=>rw[hb]at h;cases h
  |some o=>
   rw[hb]at h
   have k:=step s o hI hb
   cases o with
   |inl s'=>exact ih k h
   |inr t'=>cases h;exact k
theorem Yo {v0 v1 v2 v3 v4 r} (h:Yi v0 v1 v2 v3 v4=some r):Ex v3 v4 r:=by
 rcases cor h with ⟨_,h⟩|⟨_,h⟩
 ·obtain⟨v7,h1,h⟩:=Xa h
  cases h
  exact(gapp_ex h1)
 ·cases h
  exact Ex.refl
theorem xLF103_1_12 {v0 v3 v1 v5 v6 r} (h:LF103_1_12 v0 v3 v1 v5 v6=some r):sE (λr=>Ex v1 v6 r.2) (λr=>Ex v1 v6 r) r:=by
 rcases cor h with ⟨_,h⟩|⟨_,h⟩
 ·obtain⟨_,_,h⟩:=Xa h
  obtain⟨_,_,h⟩:=Xa h
  obtain⟨v26,h41,h⟩:=Xa h
  cases h
  exact(Yo h41)
 ·cases h
  exact Ex.refl
theorem xF103_1 {v0 v1 v2 v3 r} (h:F103_1 v0 v1 v2 v3=some r):Ex v1 v2 r:=by
 obtain⟨o8,ho8,h⟩:=Xa h
 have k42:=Xl (I:=λs=>Ex v1 v2 s.2) (T:=λo=>Ex v1 v2 o) ho8 (Ex.refl) (by
  rintro⟨v5,v6⟩ o hI h
  have k:=xLF103_1_12 h
  rcases o with o|o
  ·exact hI.tr k
  ·exact hI.tr k)
 generalize o8=v7 at *
 cases h
 exact k42
theorem xF63_1 {v0 v1 v2 r} (h:F63_1 v0 v1 v2=some r):Ex v1 v2 r:=by
 obtain⟨_,_,h⟩:=Xa h
 obtain⟨v10,h44,h⟩:=Xa h
 cases h
 exact(xF103_1 h44)
theorem xLF103_2_11 {v0 v1 v4 v5 r} (h:LF103_2_11 v0 v1 v4 v5=some r):sE (λr=>Ex v1 v5 r.2) (λr=>Ex v1 v5 r) r:=by
 rcases cor h with ⟨_,h⟩|⟨_,h⟩
 ·obtain⟨_,_,h⟩:=Xa h
  obtain⟨_,_,h⟩:=Xa h
  obtain⟨v22,h47,h⟩:=Xa h
  cases h
  exact(Yo h47)
 ·cases h
  exact Ex.refl
theorem xF103_2 {v0 v1 v2 r} (h:F103_2 v0 v1 v2=some r):Ex v1 v2 r:=by
 obtain⟨o7,ho7,h⟩:=Xa h
 have k48:=Xl (I:=λs=>Ex v1 v2 s.2) (T:=λo=>Ex v1 v2 o) ho7 (Ex.refl) (by
  rintro⟨v4,v5⟩ o hI h
  have k:=xLF103_2_11 h
  rcases o with o|o
  ·exact hI.tr k
  ·exact hI.tr k)
 generalize o7=v6 at *
 cases h
 exact k48
theorem xJF64_1_5 {v0 v1 v4 r} (h:JF64_1_5 v0 v1 v4=some r):Ex v1 v4 r:=by
 obtain⟨v9,h49,h⟩:=Xa h
 cases h
 exact(xF103_2 h49)
theorem xJF64_1_21 {v11 v20 r} (h:JF64_1_21 v11 v20=some r):sE (λr=>r.2=v20) (λr=>r=v20) r:=by
 cases h
 exact rfl
theorem xLF64_1_31 {v22 v0 v1 v24 v25 r} (h:LF64_1_31 v22 v0 v1 v24 v25=some r):sE (λr=>Ex v1 v25 r.2) (λr=>Ex v1 v25 r) r:=by
 rcases cor h with ⟨_,h⟩|⟨_,h⟩
 ·obtain⟨_,_,h⟩:=Xa h
  obtain⟨_,_,h⟩:=Xa h
  obtain⟨v42,h52,h⟩:=Xa h
  cases h
  exact(Yo h52)
 ·cases h
  exact Ex.refl
theorem xLF64_1_18 {v0 v1 v11 v12 r} (h:LF64_1_18 v0 v1 v11 v12=some r):sE (λr=>Ex v1 v12 r.2) (λr=>Ex v1 v12 r) r:=by
 rcases cor h with ⟨_,h⟩|⟨_,h⟩
 ·obtain⟨_,_,h⟩:=Xa h
  obtain⟨o27,ho27,h⟩:=Xa h
  have k54:=Xl (I:=λs=>Ex v1 v12 s.2) (T:=λo=>Ex v1 v12 o) ho27 (Ex.refl) (by
   rintro⟨v24,v25⟩ o hI h
   have k:=xLF64_1_31 h
   rcases o with o|o
   ·exact hI.tr k
   ·exact hI.tr k)
  generalize o27=v26 at *
  have k55:=xJF64_1_21 h
  rcases r with r|r
  ·exact k54.eq k55
  ·exact k54.eq k55
 ·cases h
  exact Ex.refl
theorem xF64_1 {v0 v1 v2 r} (h:F64_1 v0 v1 v2=some r):Ex v1 v2 r:=by
 obtain⟨o14,ho14,h⟩:=Xa h
 have k56:=Xl (I:=λs=>Ex v1 v2 s.2) (T:=λo=>Ex v1 v2 o) ho14 (Ex.refl) (by
  rintro⟨v11,v12⟩ o hI h
  have k:=xLF64_1_18 h
  rcases o with o|o
  ·exact hI.tr k
  ·exact hI.tr k)
 generalize o14=v13 at *
 have k57:=xJF64_1_5 h
 exact(k56.tr k57)
theorem xLF103_3_11 {v0 v1 v4 v5 r} (h:LF103_3_11 v0 v1 v4 v5=some r):sE (λr=>Ex v1 v5 r.2) (λr=>Ex v1 v5 r) r:=by
 rcases cor h with ⟨_,h⟩|⟨_,h⟩
 ·obtain⟨_,_,h⟩:=Xa h
  obtain⟨_,_,h⟩:=Xa h
  obtain⟨v27,h60,h⟩:=Xa h
  cases h
  exact(Yo h60)
 ·cases h
  exact Ex.refl
theorem xF103_3 {v0 v1 v2 r} (h:F103_3 v0 v1 v2=some r):Ex v1 v2 r:=by
 obtain⟨o7,ho7,h⟩:=Xa h
 have k61:=Xl (I:=λs=>Ex v1 v2 s.2) (T:=λo=>Ex v1 v2 o) ho7 (Ex.refl) (by
  rintro⟨v4,v5⟩ o hI h
  have k:=xLF103_3_11 h
  rcases o with o|o
  ·exact hI.tr k
  ·exact hI.tr k)
 generalize o7=v6 at *
 cases h
 exact k61
theorem xF65_1 {v0 v1 v2 r} (h:F65_1 v0 v1 v2=some r):Ex v1 v2 r:=by
 obtain⟨v7,h62,h⟩:=Xa h
 cases h
 exact(xF103_3 h62)
theorem xLF103_4_11 {v0 v1 v4 v5 r} (h:LF103_4_11 v0 v1 v4 v5=some r):sE (λr=>Ex v1 v5 r.2) (λr=>Ex v1 v5 r) r:=by
 rcases cor h with ⟨_,h⟩|⟨_,h⟩
 ·obtain⟨_,_,h⟩:=Xa h
  obtain⟨_,_,h⟩:=Xa h
  obtain⟨v24,h65,h⟩:=Xa h
  cases h
  exact(Yo h65)
 ·cases h
  exact Ex.refl
theorem xF103_4 {v0 v1 v2 r} (h:F103_4 v0 v1 v2=some r):Ex v1 v2 r:=by
 obtain⟨o7,ho7,h⟩:=Xa h
 have k66:=Xl (I:=λs=>Ex v1 v2 s.2) (T:=λo=>Ex v1 v2 o) ho7 (Ex.refl) (by
  rintro⟨v4,v5⟩ o hI h
  have k:=xLF103_4_11 h
  rcases o with o|o
  ·exact hI.tr k
  ·exact hI.tr k)
 generalize o7=v6 at *
 cases h
 exact k66
theorem xF110_1 {v0 v1 v2 r} (h:F110_1 v0 v1 v2=some r):Ex v1 v2 r:=by
 obtain⟨v7,h67,h⟩:=Xa h
 cases h
 exact(xF103_4 h67)
theorem xF66_1 {v0 v1 v2 r} (h:F66_1 v0 v1 v2=some r):Ex v1 v2 r:=by
 obtain⟨v7,h68,h⟩:=Xa h
 cases h
 exact(xF110_1 h68)
theorem xLF103_5_11 {v0 v1 v4 v5 r} (h:LF103_5_11 v0 v1 v4 v5=some r):sE (λr=>Ex v1 v5 r.2) (λr=>Ex v1 v5 r) r:=by
 rcases cor h with ⟨_,h⟩|⟨_,h⟩
 ·obtain⟨_,_,h⟩:=Xa h
  obtain⟨_,_,h⟩:=Xa h
  obtain⟨v24,h71,h⟩:=Xa h
  cases h
  exact(Yo h71)
 ·cases h
  exact Ex.refl
theorem xF103_5 {v0 v1 v2 r} (h:F103_5 v0 v1 v2=some r):Ex v1 v2 r:=by
 obtain⟨o7,ho7,h⟩:=Xa h
 have k72:=Xl (I:=λs=>Ex v1 v2 s.2) (T:=λo=>Ex v1 v2 o) ho7 (Ex.refl) (by
  rintro⟨v4,v5⟩ o hI h
  have k:=xLF103_5_11 h
  rcases o with o|o
  ·exact hI.tr k
  ·exact hI.tr k)
 generalize o7=v6 at *
 cases h
 exact k72
theorem xF110_2 {v0 v1 v2 r} (h:F110_2 v0 v1 v2=some r):Ex v1 v2 r:=by
 obtain⟨v7,h73,h⟩:=Xa h
 cases h
 exact(xF103_5 h73)
theorem xF67_1 {v0 v1 v2 r} (h:F67_1 v0 v1 v2=some r):Ex v1 v2 r:=by
 obtain⟨v7,h74,h⟩:=Xa h
 cases h
 exact(xF110_2 h74)
theorem xJF113_1_14 {v4 v13 r} (h:JF113_1_14 v4 v13=some r):sE (λr=>r.2=v13) (λr=>r=v13) r:=by
 cases h
 exact rfl
theorem xJF113_1_27 {v17 v26 r} (h:JF113_1_27 v17 v26=some r):sE (λr=>r.2=v26) (λr=>r=v26) r:=by
 cases h
 exact rfl
theorem xJF113_1_40 {v30 v39 r} (h:JF113_1_40 v30 v39=some r):sE (λr=>r.2=v39) (λr=>r=v39) r:=by
 cases h
 exact rfl
theorem xLF113_1_50 {v41 v17 v4 v30 v0 v1 v43 v44 r} (h:LF113_1_50 v41 v17 v4 v30 v0 v1 v43 v44=some r):sE (λr=>Ex v1 v44 r.2) (λr=>Ex v1 v44 r) r:=by
 rcases cor h with ⟨_,h⟩|⟨_,h⟩
 ·obtain⟨_,_,h⟩:=Xa h
  obtain⟨_,_,h⟩:=Xa h
  obtain⟨v61,h77,h⟩:=Xa h
  cases h
  exact(Yo h77)
 ·cases h
  exact Ex.refl
theorem xLF113_1_37 {v28 v17 v4 v0 v1 v30 v31 r} (h:LF113_1_37 v28 v17 v4 v0 v1 v30 v31=some r):sE (λr=>Ex v1 v31 r.2) (λr=>Ex v1 v31 r) r:=by
 rcases cor h with ⟨_,h⟩|⟨_,h⟩
 ·obtain⟨_,_,h⟩:=Xa h
  obtain⟨o46,ho46,h⟩:=Xa h
  have k79:=Xl (I:=λs=>Ex v1 v31 s.2) (T:=λo=>Ex v1 v31 o) ho46 (Ex.refl) (by
   rintro⟨v43,v44⟩ o hI h
   have k:=xLF113_1_50 h
   rcases o with o|o
   ·exact hI.tr k
   ·exact hI.tr k)
  generalize o46=v45 at *
  have k80:=xJF113_1_40 h
  rcases r with r|r
  ·exact k79.eq k80
  ·exact k79.eq k80
 ·cases h
  exact Ex.refl
theorem xLF113_1_24 {v15 v4 v0 v1 v17 v18 r} (h:LF113_1_24 v15 v4 v0 v1 v17 v18=some r):sE (λr=>Ex v1 v18 r.2) (λr=>Ex v1 v18 r) r:=by
 rcases cor h with ⟨_,h⟩|⟨_,h⟩
 ·obtain⟨_,_,h⟩:=Xa h
  obtain⟨o33,ho33,h⟩:=Xa h
  have k82:=Xl (I:=λs=>Ex v1 v18 s.2) (T:=λo=>Ex v1 v18 o) ho33 (Ex.refl) (by
   rintro⟨v30,v31⟩ o hI h
   have k:=xLF113_1_37 h
   rcases o with o|o
   ·exact hI.tr k
   ·exact hI.tr k)
  generalize o33=v32 at *
  have k83:=xJF113_1_27 h
  rcases r with r|r
  ·exact k82.eq k83
  ·exact k82.eq k83
 ·cases h
  exact Ex.refl
theorem xLF113_1_11 {v0 v1 v4 v5 r} (h:LF113_1_11 v0 v1 v4 v5=some r):sE (λr=>Ex v1 v5 r.2) (λr=>Ex v1 v5 r) r:=by
 rcases cor h with ⟨_,h⟩|⟨_,h⟩
 ·obtain⟨_,_,h⟩:=Xa h
  obtain⟨o20,ho20,h⟩:=Xa h
  have k85:=Xl (I:=λs=>Ex v1 v5 s.2) (T:=λo=>Ex v1 v5 o) ho20 (Ex.refl) (by
   rintro⟨v17,v18⟩ o hI h
   have k:=xLF113_1_24 h
   rcases o with o|o
   ·exact hI.tr k
   ·exact hI.tr k)
  generalize o20=v19 at *
  have k86:=xJF113_1_14 h
  rcases r with r|r
  ·exact k85.eq k86
  ·exact k85.eq k86
 ·cases h
  exact Ex.refl
theorem xF113_1 {v0 v1 v2 r} (h:F113_1 v0 v1 v2=some r):Ex v1 v2 r:=by
 obtain⟨o7,ho7,h⟩:=Xa h
 have k87:=Xl (I:=λs=>Ex v1 v2 s.2) (T:=λo=>Ex v1 v2 o) ho7 (Ex.refl) (by
  rintro⟨v4,v5⟩ o hI h
  have k:=xLF113_1_11 h
  rcases o with o|o
  ·exact hI.tr k
  ·exact hI.tr k)
 generalize o7=v6 at *
 cases h
 exact k87
theorem xF68_1 {v0 v1 v2 r} (h:F68_1 v0 v1 v2=some r):Ex v1 v2 r:=by
 obtain⟨v7,h88,h⟩:=Xa h
 cases h
 exact(xF113_1 h88)
theorem xJF113_2_14 {v4 v13 r} (h:JF113_2_14 v4 v13=some r):sE (λr=>r.2=v13) (λr=>r=v13) r:=by
 cases h
 exact rfl
theorem xJF113_2_27 {v17 v26 r} (h:JF113_2_27 v17 v26=some r):sE (λr=>r.2=v26) (λr=>r=v26) r:=by
 cases h
 exact rfl
theorem xJF113_2_40 {v30 v39 r} (h:JF113_2_40 v30 v39=some r):sE (λr=>r.2=v39) (λr=>r=v39) r:=by
 cases h
 exact rfl
theorem xLF113_2_50 {v41 v17 v4 v30 v0 v1 v43 v44 r} (h:LF113_2_50 v41 v17 v4 v30 v0 v1 v43 v44=some r):sE (λr=>Ex v1 v44 r.2) (λr=>Ex v1 v44 r) r:=by
 rcases cor h with ⟨_,h⟩|⟨_,h⟩
 ·obtain⟨_,_,h⟩:=Xa h
  obtain⟨_,_,h⟩:=Xa h
  obtain⟨v72,h91,h⟩:=Xa h
  cases h
  exact(Yo h91)
 ·cases h
  exact Ex.refl
theorem xLF113_2_37 {v28 v17 v4 v0 v1 v30 v31 r} (h:LF113_2_37 v28 v17 v4 v0 v1 v30 v31=some r):sE (λr=>Ex v1 v31 r.2) (λr=>Ex v1 v31 r) r:=by
 rcases cor h with ⟨_,h⟩|⟨_,h⟩
 ·obtain⟨_,_,h⟩:=Xa h
  obtain⟨o46,ho46,h⟩:=Xa h
  have k93:=Xl (I:=λs=>Ex v1 v31 s.2) (T:=λo=>Ex v1 v31 o) ho46 (Ex.refl) (by
   rintro⟨v43,v44⟩ o hI h
   have k:=xLF113_2_50 h
   rcases o with o|o
   ·exact hI.tr k
   ·exact hI.tr k)
  generalize o46=v45 at *
  have k94:=xJF113_2_40 h
  rcases r with r|r
  ·exact k93.eq k94
  ·exact k93.eq k94
 ·cases h
  exact Ex.refl
theorem xLF113_2_24 {v15 v4 v0 v1 v17 v18 r} (h:LF113_2_24 v15 v4 v0 v1 v17 v18=some r):sE (λr=>Ex v1 v18 r.2) (λr=>Ex v1 v18 r) r:=by
 rcases cor h with ⟨_,h⟩|⟨_,h⟩
 ·obtain⟨_,_,h⟩:=Xa h
  obtain⟨o33,ho33,h⟩:=Xa h
  have k96:=Xl (I:=λs=>Ex v1 v18 s.2) (T:=λo=>Ex v1 v18 o) ho33 (Ex.refl) (by
   rintro⟨v30,v31⟩ o hI h
   have k:=xLF113_2_37 h
   rcases o with o|o
   ·exact hI.tr k
   ·exact hI.tr k)
  generalize o33=v32 at *
  have k97:=xJF113_2_27 h
  rcases r with r|r
  ·exact k96.eq k97
  ·exact k96.eq k97
 ·cases h
  exact Ex.refl
theorem xLF113_2_11 {v0 v1 v4 v5 r} (h:LF113_2_11 v0 v1 v4 v5=some r):sE (λr=>Ex v1 v5 r.2) (λr=>Ex v1 v5 r) r:=by
 rcases cor h with ⟨_,h⟩|⟨_,h⟩
 ·obtain⟨_,_,h⟩:=Xa h
  obtain⟨o20,ho20,h⟩:=Xa h
  have k99:=Xl (I:=λs=>Ex v1 v5 s.2) (T:=λo=>Ex v1 v5 o) ho20 (Ex.refl) (by
   rintro⟨v17,v18⟩ o hI h
   have k:=xLF113_2_24 h
   rcases o with o|o
   ·exact hI.tr k
   ·exact hI.tr k)
  generalize o20=v19 at *
  have k100:=xJF113_2_14 h
  rcases r with r|r
  ·exact k99.eq k100
  ·exact k99.eq k100
 ·cases h
  exact Ex.refl
theorem xF113_2 {v0 v1 v2 r} (h:F113_2 v0 v1 v2=some r):Ex v1 v2 r:=by
 obtain⟨o7,ho7,h⟩:=Xa h
 have k101:=Xl (I:=λs=>Ex v1 v2 s.2) (T:=λo=>Ex v1 v2 o) ho7 (Ex.refl) (by
  rintro⟨v4,v5⟩ o hI h
  have k:=xLF113_2_11 h
  rcases o with o|o
  ·exact hI.tr k
  ·exact hI.tr k)
 generalize o7=v6 at *
 cases h
 exact k101
theorem xF69_1 {v0 v1 v2 r} (h:F69_1 v0 v1 v2=some r):Ex v1 v2 r:=by
 obtain⟨v7,h102,h⟩:=Xa h
 cases h
 exact(xF113_2 h102)
theorem xJF113_3_14 {v4 v13 r} (h:JF113_3_14 v4 v13=some r):sE (λr=>r.2=v13) (λr=>r=v13) r:=by
 cases h
 exact rfl
theorem xJF113_3_27 {v17 v26 r} (h:JF113_3_27 v17 v26=some r):sE (λr=>r.2=v26) (λr=>r=v26) r:=by
 cases h
 exact rfl
theorem xJF113_3_40 {v30 v39 r} (h:JF113_3_40 v30 v39=some r):sE (λr=>r.2=v39) (λr=>r=v39) r:=by
 cases h
 exact rfl
theorem xLF113_3_50 {v41 v17 v4 v30 v0 v1 v43 v44 r} (h:LF113_3_50 v41 v17 v4 v30 v0 v1 v43 v44=some r):sE (λr=>Ex v1 v44 r.2) (λr=>Ex v1 v44 r) r:=by
 rcases cor h with ⟨_,h⟩|⟨_,h⟩
 ·obtain⟨_,_,h⟩:=Xa h
  obtain⟨_,_,h⟩:=Xa h
  obtain⟨v72,h105,h⟩:=Xa h
  cases h
  exact(Yo h105)
 ·cases h
  exact Ex.refl
theorem xLF113_3_37 {v28 v17 v4 v0 v1 v30 v31 r} (h:LF113_3_37 v28 v17 v4 v0 v1 v30 v31=some r):sE (λr=>Ex v1 v31 r.2) (λr=>Ex v1 v31 r) r:=by
 rcases cor h with ⟨_,h⟩|⟨_,h⟩
 ·obtain⟨_,_,h⟩:=Xa h
  obtain⟨o46,ho46,h⟩:=Xa h
  have k107:=Xl (I:=λs=>Ex v1 v31 s.2) (T:=λo=>Ex v1 v31 o) ho46 (Ex.refl) (by
   rintro⟨v43,v44⟩ o hI h
   have k:=xLF113_3_50 h
   rcases o with o|o
   ·exact hI.tr k
   ·exact hI.tr k)
  generalize o46=v45 at *
  have k108:=xJF113_3_40 h
  rcases r with r|r
  ·exact k107.eq k108
  ·exact k107.eq k108
 ·cases h
  exact Ex.refl
theorem xLF113_3_24 {v15 v4 v0 v1 v17 v18 r} (h:LF113_3_24 v15 v4 v0 v1 v17 v18=some r):sE (λr=>Ex v1 v18 r.2) (λr=>Ex v1 v18 r) r:=by
 rcases cor h with ⟨_,h⟩|⟨_,h⟩
 ·obtain⟨_,_,h⟩:=Xa h
  obtain⟨o33,ho33,h⟩:=Xa h
  have k110:=Xl (I:=λs=>Ex v1 v18 s.2) (T:=λo=>Ex v1 v18 o) ho33 (Ex.refl) (by
   rintro⟨v30,v31⟩ o hI h
   have k:=xLF113_3_37 h
   rcases o with o|o
   ·exact hI.tr k
   ·exact hI.tr k)
  generalize o33=v32 at *
  have k111:=xJF113_3_27 h
  rcases r with r|r
  ·exact k110.eq k111
  ·exact k110.eq k111
 ·cases h
  exact Ex.refl
theorem xLF113_3_11 {v0 v1 v4 v5 r} (h:LF113_3_11 v0 v1 v4 v5=some r):sE (λr=>Ex v1 v5 r.2) (λr=>Ex v1 v5 r) r:=by
 rcases cor h with ⟨_,h⟩|⟨_,h⟩
 ·obtain⟨_,_,h⟩:=Xa h
  obtain⟨o20,ho20,h⟩:=Xa h
  have k113:=Xl (I:=λs=>Ex v1 v5 s.2) (T:=λo=>Ex v1 v5 o) ho20 (Ex.refl) (by
   rintro⟨v17,v18⟩ o hI h
   have k:=xLF113_3_24 h
   rcases o with o|o
   ·exact hI.tr k
   ·exact hI.tr k)
  generalize o20=v19 at *
  have k114:=xJF113_3_14 h
  rcases r with r|r
  ·exact k113.eq k114
  ·exact k113.eq k114
 ·cases h
  exact Ex.refl
theorem xF113_3 {v0 v1 v2 r} (h:F113_3 v0 v1 v2=some r):Ex v1 v2 r:=by
 obtain⟨o7,ho7,h⟩:=Xa h
 have k115:=Xl (I:=λs=>Ex v1 v2 s.2) (T:=λo=>Ex v1 v2 o) ho7 (Ex.refl) (by
  rintro⟨v4,v5⟩ o hI h
  have k:=xLF113_3_11 h
  rcases o with o|o
  ·exact hI.tr k
  ·exact hI.tr k)
 generalize o7=v6 at *
 cases h
 exact k115
theorem xF70_1 {v0 v1 v2 r} (h:F70_1 v0 v1 v2=some r):Ex v1 v2 r:=by
 obtain⟨v7,h116,h⟩:=Xa h
 cases h
 exact(xF113_3 h116)
theorem xJF113_4_15 {v5 v14 r} (h:JF113_4_15 v5 v14=some r):sE (λr=>r.2=v14) (λr=>r=v14) r:=by
 cases h
 exact rfl
theorem xJF113_4_28 {v18 v27 r} (h:JF113_4_28 v18 v27=some r):sE (λr=>r.2=v27) (λr=>r=v27) r:=by
 cases h
 exact rfl
theorem xJF113_4_41 {v31 v40 r} (h:JF113_4_41 v31 v40=some r):sE (λr=>r.2=v40) (λr=>r=v40) r:=by
 cases h
 exact rfl
theorem xLF113_4_51 {v42 v18 v5 v31 v3 v0 v1 v44 v45 r} (h:LF113_4_51 v42 v18 v5 v31 v3 v0 v1 v44 v45=some r):sE (λr=>Ex v1 v45 r.2) (λr=>Ex v1 v45 r) r:=by
 rcases cor h with ⟨_,h⟩|⟨_,h⟩
 ·obtain⟨_,_,h⟩:=Xa h
  obtain⟨_,_,h⟩:=Xa h
  obtain⟨v71,h119,h⟩:=Xa h
  cases h
  exact(Yo h119)
 ·cases h
  exact Ex.refl
theorem xLF113_4_38 {v29 v18 v5 v3 v0 v1 v31 v32 r} (h:LF113_4_38 v29 v18 v5 v3 v0 v1 v31 v32=some r):sE (λr=>Ex v1 v32 r.2) (λr=>Ex v1 v32 r) r:=by
 rcases cor h with ⟨_,h⟩|⟨_,h⟩
 ·obtain⟨_,_,h⟩:=Xa h
  obtain⟨o47,ho47,h⟩:=Xa h
  have k121:=Xl (I:=λs=>Ex v1 v32 s.2) (T:=λo=>Ex v1 v32 o) ho47 (Ex.refl) (by
   rintro⟨v44,v45⟩ o hI h
   have k:=xLF113_4_51 h
   rcases o with o|o
   ·exact hI.tr k
   ·exact hI.tr k)
  generalize o47=v46 at *
  have k122:=xJF113_4_41 h
  rcases r with r|r
  ·exact k121.eq k122
  ·exact k121.eq k122
 ·cases h
  exact Ex.refl
theorem xLF113_4_25 {v16 v5 v3 v0 v1 v18 v19 r} (h:LF113_4_25 v16 v5 v3 v0 v1 v18 v19=some r):sE (λr=>Ex v1 v19 r.2) (λr=>Ex v1 v19 r) r:=by
 rcases cor h with ⟨_,h⟩|⟨_,h⟩
 ·obtain⟨_,_,h⟩:=Xa h
  obtain⟨o34,ho34,h⟩:=Xa h
  have k124:=Xl (I:=λs=>Ex v1 v19 s.2) (T:=λo=>Ex v1 v19 o) ho34 (Ex.refl) (by
   rintro⟨v31,v32⟩ o hI h
   have k:=xLF113_4_38 h
   rcases o with o|o
   ·exact hI.tr k
   ·exact hI.tr k)
  generalize o34=v33 at *
  have k125:=xJF113_4_28 h
  rcases r with r|r
  ·exact k124.eq k125
  ·exact k124.eq k125
 ·cases h
  exact Ex.refl
theorem xLF113_4_12 {v0 v3 v1 v5 v6 r} (h:LF113_4_12 v0 v3 v1 v5 v6=some r):sE (λr=>Ex v1 v6 r.2) (λr=>Ex v1 v6 r) r:=by
 rcases cor h with ⟨_,h⟩|⟨_,h⟩
 ·obtain⟨_,_,h⟩:=Xa h
  obtain⟨o21,ho21,h⟩:=Xa h
  have k127:=Xl (I:=λs=>Ex v1 v6 s.2) (T:=λo=>Ex v1 v6 o) ho21 (Ex.refl) (by
   rintro⟨v18,v19⟩ o hI h
   have k:=xLF113_4_25 h
   rcases o with o|o
   ·exact hI.tr k
   ·exact hI.tr k)
  generalize o21=v20 at *
  have k128:=xJF113_4_15 h
  rcases r with r|r
  ·exact k127.eq k128
  ·exact k127.eq k128
 ·cases h
  exact Ex.refl
theorem xF113_4 {v0 v1 v2 v3 r} (h:F113_4 v0 v1 v2 v3=some r):Ex v1 v2 r:=by
 obtain⟨o8,ho8,h⟩:=Xa h
 have k129:=Xl (I:=λs=>Ex v1 v2 s.2) (T:=λo=>Ex v1 v2 o) ho8 (Ex.refl) (by
  rintro⟨v5,v6⟩ o hI h
  have k:=xLF113_4_12 h
  rcases o with o|o
  ·exact hI.tr k
  ·exact hI.tr k)
 generalize o8=v7 at *
 cases h
 exact k129
theorem xJF71_1_7 {v0 v1 v2 v6 r} (h:JF71_1_7 v0 v1 v2 v6=some r):Ex v1 v2 r:=by
 obtain⟨v12,h130,h⟩:=Xa h
 cases h
 exact(xF113_4 h130)
theorem xF71_1 {v0 v1 v2 r} (h:F71_1 v0 v1 v2=some r):Ex v1 v2 r:=by
 obtain⟨_,_,h⟩:=Xa h
 obtain⟨o17,ho17,h⟩:=Xa h
 generalize o17=v16 at *
 exact xJF71_1_7 h
theorem xLF72_1_16 {v0 v7 v1 v9 v10 r} (h:LF72_1_16 v0 v7 v1 v9 v10=some r):sE (λr=>Ex v1 v10 r.2) (λr=>Ex v1 v10 r) r:=by
 rcases cor h with ⟨_,h⟩|⟨_,h⟩
 ·obtain⟨_,_,h⟩:=Xa h
  obtain⟨_,_,h⟩:=Xa h
  obtain⟨v27,h135,h⟩:=Xa h
  cases h
  exact(Yo h135)
 ·cases h
  exact Ex.refl
theorem xF72_1 {v0 v1 v2 r} (h:Wd v0 v1 v2=some r):Ex v1 v2 r:=by
 obtain⟨_,_,h⟩:=Xa h
 obtain⟨o12,ho12,h⟩:=Xa h
 have k137:=Xl (I:=λs=>Ex v1 v2 s.2) (T:=λo=>Ex v1 v2 o) ho12 (Ex.refl) (by
  rintro⟨v9,v10⟩ o hI h
  have k:=xLF72_1_16 h
  rcases o with o|o
  ·exact hI.tr k
  ·exact hI.tr k)
 generalize o12=v11 at *
 cases h
 exact k137
theorem xJF73_1_19 {v9 v18 r} (h:Vx v9 v18=some r):sE (λr=>r.2=v18) (λr=>r=v18) r:=by
 cases h
 exact rfl
theorem xJF73_1_23 {v20 v0 v1 v10 v9 v22 r} (h:Vw v20 v0 v1 v10 v9 v22=some r):sE (λr=>Ex v1 v10 r.2) (λr=>Ex v1 v10 r) r:=by
 obtain⟨v29,h138,h⟩:=Xa h
 have k139:=xJF73_1_19 h
 rcases r with r|r
 ·exact(Yo h138).eq k139
 ·exact(Yo h138).eq k139
theorem xLF73_1_16 {v0 v7 v1 v9 v10 r} (h:LF73_1_16 v0 v7 v1 v9 v10=some r):sE (λr=>Ex v1 v10 r.2) (λr=>Ex v1 v10 r) r:=by
 rcases cor h with ⟨_,h⟩|⟨_,h⟩
 ·obtain⟨_,_,h⟩:=Xa h
  obtain⟨o34,ho34,h⟩:=Xa h
  generalize o34=v33 at *
  exact xJF73_1_23 h
 ·cases h
  exact Ex.refl
theorem xF73_1 {v0 v1 v2 r} (h:Zo v0 v1 v2=some r):Ex v1 v2 r:=by
 obtain⟨_,_,h⟩:=Xa h
 obtain⟨o12,ho12,h⟩:=Xa h
 have k143:=Xl (I:=λs=>Ex v1 v2 s.2) (T:=λo=>Ex v1 v2 o) ho12 (Ex.refl) (by
  rintro⟨v9,v10⟩ o hI h
  have k:=xLF73_1_16 h
  rcases o with o|o
  ·exact hI.tr k
  ·exact hI.tr k)
 generalize o12=v11 at *
 cases h
 exact k143
theorem xLF103_6_11 {v0 v1 v4 v5 r} (h:LF103_6_11 v0 v1 v4 v5=some r):sE (λr=>Ex v1 v5 r.2) (λr=>Ex v1 v5 r) r:=by
 rcases cor h with ⟨_,h⟩|⟨_,h⟩
 ·obtain⟨_,_,h⟩:=Xa h
  obtain⟨_,_,h⟩:=Xa h
  obtain⟨v22,h146,h⟩:=Xa h
  cases h
  exact(Yo h146)
 ·cases h
  exact Ex.refl
theorem xF103_6 {v0 v1 v2 r} (h:F103_6 v0 v1 v2=some r):Ex v1 v2 r:=by
 obtain⟨o7,ho7,h⟩:=Xa h
 have k147:=Xl (I:=λs=>Ex v1 v2 s.2) (T:=λo=>Ex v1 v2 o) ho7 (Ex.refl) (by
  rintro⟨v4,v5⟩ o hI h
  have k:=xLF103_6_11 h
  rcases o with o|o
  ·exact hI.tr k
  ·exact hI.tr k)
 generalize o7=v6 at *
 cases h
 exact k147
theorem Vy {v0 v1 v7 v17 r} (h:Wm v0 v1 v7 v17=some r):Ex v1 v7 r:=by
 obtain⟨_,_,h⟩:=Xa h
 obtain⟨v26,h149,h⟩:=Xa h
 cases h
 exact(Yo h149)
theorem xJF74_1_16 {v0 v1 v7 v10 v11 v12 v13 v14 v15 r} (h:JF74_1_16 v0 v1 v7 v10 v11 v12 v13 v14 v15=some r):Ex v1 v7 r:=by
 rcases cor h with ⟨_,h⟩|⟨_,h⟩
 ·rcases cor h with ⟨_,h⟩|⟨_,h⟩
  ·exact Vy h
  ·rcases cor h with ⟨_,h⟩|⟨_,h⟩
   ·obtain⟨_,_,h⟩:=Xa h
    exact Vy h
   ·exact Vy h
 ·rcases cor h with ⟨_,h⟩|⟨_,h⟩
  ·obtain⟨_,_,h⟩:=Xa h
   exact Vy h
  ·exact Vy h
theorem xLF74_1_54 {v0 v1 v7 v36 v37 v38 v39 v40 v41 v42 r} (h:LF74_1_54 v0 v1 v7 v36 v37 v38 v39 v40 v41 v42=some r):sE tru (sE (λr=>Ex v1 v7 r) tru) r:=by
 rcases cor h with ⟨_,h⟩|⟨_,h⟩
 ·obtain⟨_,_,h⟩:=Xa h
  obtain⟨_,_,h⟩:=Xa h
  rcases cor h with ⟨_,h⟩|⟨_,h⟩
  ·obtain⟨v66,h154,h⟩:=Xa h
   cases h
   exact(Yo h154)
  ·cases h
   trivial
 ·cases h
  trivial
theorem xF74_1 {v0 v1 v2 r} (h:Wc v0 v1 v2=some r):Ex v1 v2 r:=by
 obtain⟨v7,h155,h⟩:=Xa h
 rcases cor h with ⟨_,h⟩|⟨_,h⟩
 ·cases h
  exact(xF103_6 h155)
 ·obtain⟨o50,ho50,h⟩:=Xa h
  have k156:=Zq (T:=λo=>sE (λr=>Ex v1 v7 r) tru o) ho50 (by
   rintro⟨_,_,_,_,_,_,_⟩ o h
   exact xLF74_1_54 h)
  rcases o50 with v43|⟨v44,v45,v46,v47,v48,v49⟩
  ·cases h
   exact((xF103_6 h155).tr k156)
  ·have k157:=xJF74_1_16 h
   exact((xF103_6 h155).tr k157)
theorem xLF103_7_11 {v0 v1 v4 v5 r} (h:LF103_7_11 v0 v1 v4 v5=some r):sE (λr=>Ex v1 v5 r.2) (λr=>Ex v1 v5 r) r:=by
 rcases cor h with ⟨_,h⟩|⟨_,h⟩
 ·obtain⟨_,_,h⟩:=Xa h
  obtain⟨_,_,h⟩:=Xa h
  obtain⟨v27,h160,h⟩:=Xa h
  cases h
  exact(Yo h160)
 ·cases h
  exact Ex.refl
theorem xF103_7 {v0 v1 v2 r} (h:F103_7 v0 v1 v2=some r):Ex v1 v2 r:=by
 obtain⟨o7,ho7,h⟩:=Xa h
 have k161:=Xl (I:=λs=>Ex v1 v2 s.2) (T:=λo=>Ex v1 v2 o) ho7 (Ex.refl) (by
  rintro⟨v4,v5⟩ o hI h
  have k:=xLF103_7_11 h
  rcases o with o|o
  ·exact hI.tr k
  ·exact hI.tr k)
 generalize o7=v6 at *
 cases h
 exact k161
theorem xF75_1 {v0 v1 v2 r} (h:Zt v0 v1 v2=some r):Ex v1 v2 r:=by
 obtain⟨v7,h162,h⟩:=Xa h
 cases h
 exact(xF103_7 h162)
theorem xLF103_8_11 {v0 v1 v4 v5 r} (h:LF103_8_11 v0 v1 v4 v5=some r):sE (λr=>Ex v1 v5 r.2) (λr=>Ex v1 v5 r) r:=by
 rcases cor h with ⟨_,h⟩|⟨_,h⟩
 ·obtain⟨_,_,h⟩:=Xa h
  obtain⟨_,_,h⟩:=Xa h
  obtain⟨v22,h165,h⟩:=Xa h
  cases h
  exact(Yo h165)
 ·cases h
  exact Ex.refl
theorem xF103_8 {v0 v1 v2 r} (h:F103_8 v0 v1 v2=some r):Ex v1 v2 r:=by
 obtain⟨o7,ho7,h⟩:=Xa h
 have k166:=Xl (I:=λs=>Ex v1 v2 s.2) (T:=λo=>Ex v1 v2 o) ho7 (Ex.refl) (by
  rintro⟨v4,v5⟩ o hI h
  have k:=xLF103_8_11 h
  rcases o with o|o
  ·exact hI.tr k
  ·exact hI.tr k)
 generalize o7=v6 at *
 cases h
 exact k166
theorem xF76_1 {v0 v1 v2 r} (h:Zn v0 v1 v2=some r):Ex v1 v2 r:=by
 obtain⟨v7,h167,h⟩:=Xa h
 cases h
 exact(xF103_8 h167)
theorem xJF113_5_14 {v4 v13 r} (h:JF113_5_14 v4 v13=some r):sE (λr=>r.2=v13) (λr=>r=v13) r:=by
 cases h
 exact rfl
theorem xJF113_5_27 {v17 v26 r} (h:JF113_5_27 v17 v26=some r):sE (λr=>r.2=v26) (λr=>r=v26) r:=by
 cases h
 exact rfl
theorem xJF113_5_40 {v30 v39 r} (h:JF113_5_40 v30 v39=some r):sE (λr=>r.2=v39) (λr=>r=v39) r:=by
 cases h
 exact rfl
theorem xLF113_5_50 {v41 v17 v4 v30 v0 v1 v43 v44 r} (h:LF113_5_50 v41 v17 v4 v30 v0 v1 v43 v44=some r):sE (λr=>Ex v1 v44 r.2) (λr=>Ex v1 v44 r) r:=by
 rcases cor h with ⟨_,h⟩|⟨_,h⟩
 ·obtain⟨_,_,h⟩:=Xa h
  obtain⟨_,_,h⟩:=Xa h
  obtain⟨v72,h170,h⟩:=Xa h
  cases h
  exact(Yo h170)
 ·cases h
  exact Ex.refl
theorem xLF113_5_37 {v28 v17 v4 v0 v1 v30 v31 r} (h:LF113_5_37 v28 v17 v4 v0 v1 v30 v31=some r):sE (λr=>Ex v1 v31 r.2) (λr=>Ex v1 v31 r) r:=by
 rcases cor h with ⟨_,h⟩|⟨_,h⟩
 ·obtain⟨_,_,h⟩:=Xa h
  obtain⟨o46,ho46,h⟩:=Xa h
  have k172:=Xl (I:=λs=>Ex v1 v31 s.2) (T:=λo=>Ex v1 v31 o) ho46 (Ex.refl) (by
   rintro⟨v43,v44⟩ o hI h
   have k:=xLF113_5_50 h
   rcases o with o|o
   ·exact hI.tr k
   ·exact hI.tr k)
  generalize o46=v45 at *
  have k173:=xJF113_5_40 h
  rcases r with r|r
  ·exact k172.eq k173
  ·exact k172.eq k173
 ·cases h
  exact Ex.refl
theorem xLF113_5_24 {v15 v4 v0 v1 v17 v18 r} (h:LF113_5_24 v15 v4 v0 v1 v17 v18=some r):sE (λr=>Ex v1 v18 r.2) (λr=>Ex v1 v18 r) r:=by
 rcases cor h with ⟨_,h⟩|⟨_,h⟩
 ·obtain⟨_,_,h⟩:=Xa h
  obtain⟨o33,ho33,h⟩:=Xa h
  have k175:=Xl (I:=λs=>Ex v1 v18 s.2) (T:=λo=>Ex v1 v18 o) ho33 (Ex.refl) (by
   rintro⟨v30,v31⟩ o hI h
   have k:=xLF113_5_37 h
   rcases o with o|o
   ·exact hI.tr k
   ·exact hI.tr k)
  generalize o33=v32 at *
  have k176:=xJF113_5_27 h
  rcases r with r|r
  ·exact k175.eq k176
  ·exact k175.eq k176
 ·cases h
  exact Ex.refl
theorem xLF113_5_11 {v0 v1 v4 v5 r} (h:LF113_5_11 v0 v1 v4 v5=some r):sE (λr=>Ex v1 v5 r.2) (λr=>Ex v1 v5 r) r:=by
 rcases cor h with ⟨_,h⟩|⟨_,h⟩
 ·obtain⟨_,_,h⟩:=Xa h
  obtain⟨o20,ho20,h⟩:=Xa h
  have k178:=Xl (I:=λs=>Ex v1 v5 s.2) (T:=λo=>Ex v1 v5 o) ho20 (Ex.refl) (by
   rintro⟨v17,v18⟩ o hI h
   have k:=xLF113_5_24 h
   rcases o with o|o
   ·exact hI.tr k
   ·exact hI.tr k)
  generalize o20=v19 at *
  have k179:=xJF113_5_14 h
  rcases r with r|r
  ·exact k178.eq k179
  ·exact k178.eq k179
 ·cases h
  exact Ex.refl
theorem xF113_5 {v0 v1 v2 r} (h:F113_5 v0 v1 v2=some r):Ex v1 v2 r:=by
 obtain⟨o7,ho7,h⟩:=Xa h
 have k180:=Xl (I:=λs=>Ex v1 v2 s.2) (T:=λo=>Ex v1 v2 o) ho7 (Ex.refl) (by
  rintro⟨v4,v5⟩ o hI h
  have k:=xLF113_5_11 h
  rcases o with o|o
  ·exact hI.tr k
  ·exact hI.tr k)
 generalize o7=v6 at *
 cases h
 exact k180
theorem xF77_1 {v0 v1 v2 r} (h:Ze v0 v1 v2=some r):Ex v1 v2 r:=by
 obtain⟨v7,h181,h⟩:=Xa h
 cases h
 exact(xF113_5 h181)
end Go.Proofs.YtnjmaohblihppaaGreatDoor
namespace Go.Proofs.YtnjmaohblihppaaGreatDoor
open Go.PE
set_option maxRecDepth 100000
theorem q3 {k:Int} {l:List G35} {r} (h:Wi k l=some r):Sl.es r=l:=by
 cases h
 exact mkSl_es l
end Go.Proofs.YtnjmaohblihppaaGreatDoor
