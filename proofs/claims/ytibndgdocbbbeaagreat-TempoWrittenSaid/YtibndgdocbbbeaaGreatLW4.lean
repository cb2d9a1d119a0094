/- A part of the proof. -/
import Derived.Test.YtibndgdocbbbeaaGreatFD
import Derived.Test.YtibndgdocbbbeaaGreatTU2
import Derived.Test.YtibndgdocbbbeaaGreatFL4
import Derived.Test.YtibndgdocbbbeaaGreatFOs
set_option linter.all false
set_option maxRecDepth 100000
set_option maxHeartbeats 4000000
set_option linter.unusedVariables false
namespace Go.Proofs.YtibndgdocbbbeaaGreat
open Go.PE
def Ex (R:Int) (l m:List G159):Prop:=∃ t,m=l++t/\∀ x∈t,x.fT=R
theorem Ex.refl {R:Int} {l:List G159}:Ex R l l:=⟨[],by simp,by simp⟩
theorem Ex.tr {R:Int} {l m n:List G159} (h:Ex R l m) (k:Ex R m n):Ex R l n:=by
 obtain⟨t,rfl,ht⟩:=h
 obtain⟨u,rfl,hu⟩:=k
 exact⟨t++u,by simp,λx hx=>(List.mem_append.1 hx).elim (ht x) (hu x)⟩
def sE {α β:Type} (P:α->Prop) (Q:β->Prop):α⊕β->Prop
 |.inl a=>P a
 |.inr b=>Q b
theorem Ex.eq {R:Int} {l m n:List G159} (h:Ex R l m) (k:n=m):Ex R l n:=k▸h
theorem gapp_ex {b:Nat} {l q:List G159} {x:G159} (h:gapp b l (Sl.es (Sl.full [x]))=some q):Ex x.fT l q:=by
 unfold gapp at h
 split at h
 ·cases h
  exact⟨[x],rfl,λy hy=>by simp at hy;rw[hy]⟩
 ·cases h
theorem Xn {σ τ:Type} {body:σ->Option (σ⊕τ)} {I:σ->Prop} {T:τ->Prop} {s:σ} {t:τ} (h:Xh body s=some t) (hI:I s) (step:∀ s o,I s->body s=some o->match o with|.inl s'=>I s'|.inr t=>T t):T t:=by
 unfold Xh at h
 generalize 18446744073709551616=n at h
 induction n generalizing s with
 |zero=>cases h
 |succ n ih=>
  rw[iterO]at h
  cases hb:body s with
  |none=>rw[hb]at h;cases h
  |some o=>
   rw[hb]at h
   have k:=step s o hI hb
   cases o with
   |inl s'=>exact ih k h
   |inr t'=>cases h;exact k
theorem Yh {v0 v1 v2 v3 v4 r} (h:Yd v0 v1 v2 v3 v4=some r):Ex v3 v4 r:=by
 unfold Yd at h
 rcases cor h with ⟨_,h⟩|⟨_,h⟩
 ·obtain⟨v7,h1,h⟩:=Xa h
  cases h
  exact(gapp_ex h1)
 ·cases h
  exact Ex.refl
theorem xF123_2 {v0 v1 v2 v3 v4 v5 r} (h:Vd v0 v1 v2 v3 v4 v5=some r):Ex v4 v5 r:=by
 unfold Vd at h
 rcases cor h with ⟨_,h⟩|⟨_,h⟩
 ·obtain⟨v8,h2,h⟩:=Xa h
  cases h
  exact(gapp_ex h2)
 ·cases h
  exact Ex.refl
theorem xJF61_1_7 {v0 v1 v4 v6 r} (h:JF61_1_7 v0 v1 v4 v6=some r):Ex v1 v4 r:=by
 unfold JF61_1_7 at h
 obtain⟨v14,h27,h⟩:=Xa h
 cases h
 exact(xF123_2 h27)
theorem xJF61_1_5 {v0 v1 v4 r} (h:JF61_1_5 v0 v1 v4=some r):Ex v1 v4 r:=by
 unfold JF61_1_5 at h
 obtain⟨o19,ho19,h⟩:=Xa h
 generalize o19=v18 at *
 exact xJF61_1_7 h
theorem xLF61_1_44 {v34 v0 v1 v36 v37 v38 r} (h:LF61_1_44 v34 v0 v1 v36 v37 v38=some r):sE (λr=>Ex v1 v37 r.2.1) (λr=>Ex v1 v37 r) r:=by
 unfold LF61_1_44 at h
 rcases cor h with ⟨_,h⟩|⟨_,h⟩
 ·obtain⟨_,_,h⟩:=Xa h
  obtain⟨_,_,h⟩:=Xa h
  rcases cor h with ⟨_,h⟩|⟨_,h⟩
  ·obtain⟨v56,h31,h⟩:=Xa h
   cases h
   exact(Yh h31)
  ·obtain⟨_,_,h⟩:=Xa h
   rcases cor h with ⟨_,h⟩|⟨_,h⟩
   ·obtain⟨v66,h33,h⟩:=Xa h
    cases h
    exact(Yh h33)
   ·obtain⟨_,_,h⟩:=Xa h
    obtain⟨v75,h35,h⟩:=Xa h
    cases h
    exact(Yh h35)
 ·cases h
  exact Ex.refl
theorem xF61_1 {v0 v1 v2 r} (h:F61_1 v0 v1 v2=some r):Ex v1 v2 r:=by
 unfold F61_1 at h
 obtain⟨_,_,h⟩:=Xa h
 obtain⟨o40,ho40,h⟩:=Xa h
 have k37:=Xn (I:=λs=>Ex v1 v2 s.2.1) (T:=λo=>Ex v1 v2 o) ho40 (Ex.refl) (by
  rintro⟨v36,v37,v38⟩ o hI h
  have k:=xLF61_1_44 h
  rcases o with o|o
  ·exact hI.tr k
  ·exact hI.tr k)
 generalize o40=v39 at *
 have k38:=xJF61_1_5 h
 exact(k37.tr k38)
theorem xLF131_1_12 {v0 v3 v1 v5 v6 r} (h:LF131_1_12 v0 v3 v1 v5 v6=some r):sE (λr=>Ex v1 v6 r.2) (λr=>Ex v1 v6 r) r:=by
 unfold LF131_1_12 at h
 rcases cor h with ⟨_,h⟩|⟨_,h⟩
 ·obtain⟨_,_,h⟩:=Xa h
  obtain⟨_,_,h⟩:=Xa h
  obtain⟨v26,h41,h⟩:=Xa h
  cases h
  exact(Yh h41)
 ·cases h
  exact Ex.refl
theorem xF131_1 {v0 v1 v2 v3 r} (h:F131_1 v0 v1 v2 v3=some r):Ex v1 v2 r:=by
 unfold F131_1 at h
 obtain⟨o8,ho8,h⟩:=Xa h
 have k42:=Xn (I:=λs=>Ex v1 v2 s.2) (T:=λo=>Ex v1 v2 o) ho8 (Ex.refl) (by
  rintro⟨v5,v6⟩ o hI h
  have k:=xLF131_1_12 h
  rcases o with o|o
  ·exact hI.tr k
  ·exact hI.tr k)
 generalize o8=v7 at *
 cases h
 exact k42
theorem xF62_1 {v0 v1 v2 r} (h:F62_1 v0 v1 v2=some r):Ex v1 v2 r:=by
 unfold F62_1 at h
 obtain⟨_,_,h⟩:=Xa h
 obtain⟨v10,h44,h⟩:=Xa h
 cases h
 exact(xF131_1 h44)
theorem xLF131_2_11 {v0 v1 v4 v5 r} (h:LF131_2_11 v0 v1 v4 v5=some r):sE (λr=>Ex v1 v5 r.2) (λr=>Ex v1 v5 r) r:=by
 unfold LF131_2_11 at h
 rcases cor h with ⟨_,h⟩|⟨_,h⟩
 ·obtain⟨_,_,h⟩:=Xa h
  obtain⟨_,_,h⟩:=Xa h
  obtain⟨v22,h47,h⟩:=Xa h
  cases h
  exact(Yh h47)
 ·cases h
  exact Ex.refl
theorem xF131_2 {v0 v1 v2 r} (h:F131_2 v0 v1 v2=some r):Ex v1 v2 r:=by
 unfold F131_2 at h
 obtain⟨o7,ho7,h⟩:=Xa h
 have k48:=Xn (I:=λs=>Ex v1 v2 s.2) (T:=λo=>Ex v1 v2 o) ho7 (Ex.refl) (by
  rintro⟨v4,v5⟩ o hI h
  have k:=xLF131_2_11 h
  rcases o with o|o
  ·exact hI.tr k
  ·exact hI.tr k)
 generalize o7=v6 at *
 cases h
 exact k48
theorem xJF63_1_5 {v0 v1 v4 r} (h:JF63_1_5 v0 v1 v4=some r):Ex v1 v4 r:=by
 unfold JF63_1_5 at h
 obtain⟨v9,h49,h⟩:=Xa h
 cases h
 exact(xF131_2 h49)
theorem xJF63_1_21 {v11 v20 r} (h:JF63_1_21 v11 v20=some r):sE (λr=>r.2=v20) (λr=>r=v20) r:=by
 unfold JF63_1_21 at h
 cases h
 exact rfl
theorem xLF63_1_31 {v22 v0 v1 v24 v25 r} (h:LF63_1_31 v22 v0 v1 v24 v25=some r):sE (λr=>Ex v1 v25 r.2) (λr=>Ex v1 v25 r) r:=by
 unfold LF63_1_31 at h
 rcases cor h with ⟨_,h⟩|⟨_,h⟩
 ·obtain⟨_,_,h⟩:=Xa h
  obtain⟨_,_,h⟩:=Xa h
  obtain⟨v42,h52,h⟩:=Xa h
  cases h
  exact(Yh h52)
 ·cases h
  exact Ex.refl
theorem xLF63_1_18 {v0 v1 v11 v12 r} (h:LF63_1_18 v0 v1 v11 v12=some r):sE (λr=>Ex v1 v12 r.2) (λr=>Ex v1 v12 r) r:=by
 unfold LF63_1_18 at h
 rcases cor h with ⟨_,h⟩|⟨_,h⟩
 ·obtain⟨_,_,h⟩:=Xa h
  obtain⟨o27,ho27,h⟩:=Xa h
  have k54:=Xn (I:=λs=>Ex v1 v12 s.2) (T:=λo=>Ex v1 v12 o) ho27 (Ex.refl) (by
   rintro⟨v24,v25⟩ o hI h
   have k:=xLF63_1_31 h
   rcases o with o|o
   ·exact hI.tr k
   ·exact hI.tr k)
  generalize o27=v26 at *
  have k55:=xJF63_1_21 h
  rcases r with r|r
  ·exact k54.eq k55
  ·exact k54.eq k55
 ·cases h
  exact Ex.refl
theorem xF63_1 {v0 v1 v2 r} (h:F63_1 v0 v1 v2=some r):Ex v1 v2 r:=by
 unfold F63_1 at h
 obtain⟨o14,ho14,h⟩:=Xa h
 have k56:=Xn (I:=λs=>Ex v1 v2 s.2) (T:=λo=>Ex v1 v2 o) ho14 (Ex.refl) (by
  rintro⟨v11,v12⟩ o hI h
  have k:=xLF63_1_18 h
  rcases o with o|o
  ·exact hI.tr k
  ·exact hI.tr k)
 generalize o14=v13 at *
 have k57:=xJF63_1_5 h
 exact(k56.tr k57)
theorem xLF131_3_11 {v0 v1 v4 v5 r} (h:Up v0 v1 v4 v5=some r):sE (λr=>Ex v1 v5 r.2) (λr=>Ex v1 v5 r) r:=by
 unfold Up at h
 rcases cor h with ⟨_,h⟩|⟨_,h⟩
 ·obtain⟨_,_,h⟩:=Xa h
  obtain⟨_,_,h⟩:=Xa h
  obtain⟨v27,h60,h⟩:=Xa h
  cases h
  exact(Yh h60)
 ·cases h
  exact Ex.refl
theorem xF131_3 {v0 v1 v2 r} (h:F131_3 v0 v1 v2=some r):Ex v1 v2 r:=by
 unfold F131_3 at h
 obtain⟨o7,ho7,h⟩:=Xa h
 have k61:=Xn (I:=λs=>Ex v1 v2 s.2) (T:=λo=>Ex v1 v2 o) ho7 (Ex.refl) (by
  rintro⟨v4,v5⟩ o hI h
  have k:=xLF131_3_11 h
  rcases o with o|o
  ·exact hI.tr k
  ·exact hI.tr k)
 generalize o7=v6 at *
 cases h
 exact k61
theorem xF64_1 {v0 v1 v2 r} (h:F64_1 v0 v1 v2=some r):Ex v1 v2 r:=by
 unfold F64_1 at h
 obtain⟨v7,h62,h⟩:=Xa h
 cases h
 exact(xF131_3 h62)
theorem xLF131_4_11 {v0 v1 v4 v5 r} (h:LF131_4_11 v0 v1 v4 v5=some r):sE (λr=>Ex v1 v5 r.2) (λr=>Ex v1 v5 r) r:=by
 unfold LF131_4_11 at h
 rcases cor h with ⟨_,h⟩|⟨_,h⟩
 ·obtain⟨_,_,h⟩:=Xa h
  obtain⟨_,_,h⟩:=Xa h
  obtain⟨v24,h65,h⟩:=Xa h
  cases h
  exact(Yh h65)
 ·cases h
  exact Ex.refl
theorem xF131_4 {v0 v1 v2 r} (h:F131_4 v0 v1 v2=some r):Ex v1 v2 r:=by
 unfold F131_4 at h
 obtain⟨o7,ho7,h⟩:=Xa h
 have k66:=Xn (I:=λs=>Ex v1 v2 s.2) (T:=λo=>Ex v1 v2 o) ho7 (Ex.refl) (by
  rintro⟨v4,v5⟩ o hI h
  have k:=xLF131_4_11 h
  rcases o with o|o
  ·exact hI.tr k
  ·exact hI.tr k)
 generalize o7=v6 at *
 cases h
 exact k66
theorem xF137_1 {v0 v1 v2 r} (h:F137_1 v0 v1 v2=some r):Ex v1 v2 r:=by
 unfold F137_1 at h
 obtain⟨v7,h67,h⟩:=Xa h
 cases h
 exact(xF131_4 h67)
theorem xF65_1 {v0 v1 v2 r} (h:F65_1 v0 v1 v2=some r):Ex v1 v2 r:=by
 unfold F65_1 at h
 obtain⟨v7,h68,h⟩:=Xa h
 cases h
 exact(xF137_1 h68)
theorem xLF131_5_11 {v0 v1 v4 v5 r} (h:LF131_5_11 v0 v1 v4 v5=some r):sE (λr=>Ex v1 v5 r.2) (λr=>Ex v1 v5 r) r:=by
 unfold LF131_5_11 at h
 rcases cor h with ⟨_,h⟩|⟨_,h⟩
 ·obtain⟨_,_,h⟩:=Xa h
  obtain⟨_,_,h⟩:=Xa h
  obtain⟨v24,h71,h⟩:=Xa h
  cases h
  exact(Yh h71)
 ·cases h
  exact Ex.refl
theorem xF131_5 {v0 v1 v2 r} (h:F131_5 v0 v1 v2=some r):Ex v1 v2 r:=by
 unfold F131_5 at h
 obtain⟨o7,ho7,h⟩:=Xa h
 have k72:=Xn (I:=λs=>Ex v1 v2 s.2) (T:=λo=>Ex v1 v2 o) ho7 (Ex.refl) (by
  rintro⟨v4,v5⟩ o hI h
  have k:=xLF131_5_11 h
  rcases o with o|o
  ·exact hI.tr k
  ·exact hI.tr k)
 generalize o7=v6 at *
 cases h
 exact k72
theorem xF137_2 {v0 v1 v2 r} (h:F137_2 v0 v1 v2=some r):Ex v1 v2 r:=by
 unfold F137_2 at h
 obtain⟨v7,h73,h⟩:=Xa h
 cases h
 exact(xF131_5 h73)
theorem xF66_1 {v0 v1 v2 r} (h:F66_1 v0 v1 v2=some r):Ex v1 v2 r:=by
 unfold F66_1 at h
 obtain⟨v7,h74,h⟩:=Xa h
 cases h
 exact(xF137_2 h74)
theorem xJF140_1_14 {v4 v13 r} (h:Qf v4 v13=some r):sE (λr=>r.2=v13) (λr=>r=v13) r:=by
 unfold Qf at h
 cases h
 exact rfl
theorem xJF140_1_27 {v17 v26 r} (h:Qe v17 v26=some r):sE (λr=>r.2=v26) (λr=>r=v26) r:=by
 unfold Qe at h
 cases h
 exact rfl
theorem xJF140_1_40 {v30 v39 r} (h:Qd v30 v39=some r):sE (λr=>r.2=v39) (λr=>r=v39) r:=by
 unfold Qd at h
 cases h
 exact rfl
theorem xLF140_1_50 {v41 v17 v4 v30 v0 v1 v43 v44 r} (h:LF140_1_50 v41 v17 v4 v30 v0 v1 v43 v44=some r):sE (λr=>Ex v1 v44 r.2) (λr=>Ex v1 v44 r) r:=by
 unfold LF140_1_50 at h
 rcases cor h with ⟨_,h⟩|⟨_,h⟩
 ·obtain⟨_,_,h⟩:=Xa h
  obtain⟨_,_,h⟩:=Xa h
  obtain⟨v61,h77,h⟩:=Xa h
  cases h
  exact(Yh h77)
 ·cases h
  exact Ex.refl
theorem xLF140_1_37 {v28 v17 v4 v0 v1 v30 v31 r} (h:LF140_1_37 v28 v17 v4 v0 v1 v30 v31=some r):sE (λr=>Ex v1 v31 r.2) (λr=>Ex v1 v31 r) r:=by
 unfold LF140_1_37 at h
 rcases cor h with ⟨_,h⟩|⟨_,h⟩
 ·obtain⟨_,_,h⟩:=Xa h
  obtain⟨o46,ho46,h⟩:=Xa h
  have k79:=Xn (I:=λs=>Ex v1 v31 s.2) (T:=λo=>Ex v1 v31 o) ho46 (Ex.refl) (by
   rintro⟨v43,v44⟩ o hI h
   have k:=xLF140_1_50 h
   rcases o with o|o
   ·exact hI.tr k
   ·exact hI.tr k)
  generalize o46=v45 at *
  have k80:=xJF140_1_40 h
  rcases r with r|r
  ·exact k79.eq k80
  ·exact k79.eq k80
 ·cases h
  exact Ex.refl
theorem xLF140_1_24 {v15 v4 v0 v1 v17 v18 r} (h:LF140_1_24 v15 v4 v0 v1 v17 v18=some r):sE (λr=>Ex v1 v18 r.2) (λr=>Ex v1 v18 r) r:=by
 unfold LF140_1_24 at h
 rcases cor h with ⟨_,h⟩|⟨_,h⟩
 ·obtain⟨_,_,h⟩:=Xa h
  obtain⟨o33,ho33,h⟩:=Xa h
  have k82:=Xn (I:=λs=>Ex v1 v18 s.2) (T:=λo=>Ex v1 v18 o) ho33 (Ex.refl) (by
   rintro⟨v30,v31⟩ o hI h
   have k:=xLF140_1_37 h
   rcases o with o|o
   ·exact hI.tr k
   ·exact hI.tr k)
  generalize o33=v32 at *
  have k83:=xJF140_1_27 h
  rcases r with r|r
  ·exact k82.eq k83
  ·exact k82.eq k83
 ·cases h
  exact Ex.refl
theorem xLF140_1_11 {v0 v1 v4 v5 r} (h:LF140_1_11 v0 v1 v4 v5=some r):sE (λr=>Ex v1 v5 r.2) (λr=>Ex v1 v5 r) r:=by
 unfold LF140_1_11 at h
 rcases cor h with ⟨_,h⟩|⟨_,h⟩
 ·obtain⟨_,_,h⟩:=Xa h
  obtain⟨o20,ho20,h⟩:=Xa h
  have k85:=Xn (I:=λs=>Ex v1 v5 s.2) (T:=λo=>Ex v1 v5 o) ho20 (Ex.refl) (by
   rintro⟨v17,v18⟩ o hI h
   have k:=xLF140_1_24 h
   rcases o with o|o
   ·exact hI.tr k
   ·exact hI.tr k)
  generalize o20=v19 at *
  have k86:=xJF140_1_14 h
  rcases r with r|r
  ·exact k85.eq k86
  ·exact k85.eq k86
 ·cases h
  exact Ex.refl
theorem xF140_1 {v0 v1 v2 r} (h:F140_1 v0 v1 v2=some r):Ex v1 v2 r:=by
 unfold F140_1 at h
 obtain⟨o7,ho7,h⟩:=Xa h
 have k87:=Xn (I:=λs=>Ex v1 v2 s.2) (T:=λo=>Ex v1 v2 o) ho7 (Ex.refl) (by
  rintro⟨v4,v5⟩ o hI h
  have k:=xLF140_1_11 h
  rcases o with o|o
  ·exact hI.tr k
  ·exact hI.tr k)
 generalize o7=v6 at *
 cases h
 exact k87
theorem xF67_1 {v0 v1 v2 r} (h:F67_1 v0 v1 v2=some r):Ex v1 v2 r:=by
 unfold F67_1 at h
 obtain⟨v7,h88,h⟩:=Xa h
 cases h
 exact(xF140_1 h88)
theorem xJF140_2_14 {v4 v13 r} (h:Qc v4 v13=some r):sE (λr=>r.2=v13) (λr=>r=v13) r:=by
 unfold Qc at h
 cases h
 exact rfl
theorem xJF140_2_27 {v17 v26 r} (h:Qb v17 v26=some r):sE (λr=>r.2=v26) (λr=>r=v26) r:=by
 unfold Qb at h
 cases h
 exact rfl
theorem xJF140_2_40 {v30 v39 r} (h:Qa v30 v39=some r):sE (λr=>r.2=v39) (λr=>r=v39) r:=by
 unfold Qa at h
 cases h
 exact rfl
theorem xLF140_2_50 {v41 v17 v4 v30 v0 v1 v43 v44 r} (h:LF140_2_50 v41 v17 v4 v30 v0 v1 v43 v44=some r):sE (λr=>Ex v1 v44 r.2) (λr=>Ex v1 v44 r) r:=by
 unfold LF140_2_50 at h
 rcases cor h with ⟨_,h⟩|⟨_,h⟩
 ·obtain⟨_,_,h⟩:=Xa h
  obtain⟨_,_,h⟩:=Xa h
  obtain⟨v72,h91,h⟩:=Xa h
  cases h
  exact(Yh h91)
 ·cases h
  exact Ex.refl
theorem xLF140_2_37 {v28 v17 v4 v0 v1 v30 v31 r} (h:LF140_2_37 v28 v17 v4 v0 v1 v30 v31=some r):sE (λr=>Ex v1 v31 r.2) (λr=>Ex v1 v31 r) r:=by
 unfold LF140_2_37 at h
 rcases cor h with ⟨_,h⟩|⟨_,h⟩
 ·obtain⟨_,_,h⟩:=Xa h
  obtain⟨o46,ho46,h⟩:=Xa h
  have k93:=Xn (I:=λs=>Ex v1 v31 s.2) (T:=λo=>Ex v1 v31 o) ho46 (Ex.refl) (by
   rintro⟨v43,v44⟩ o hI h
   have k:=xLF140_2_50 h
   rcases o with o|o
   ·exact hI.tr k
   ·exact hI.tr k)
  generalize o46=v45 at *
  have k94:=xJF140_2_40 h
  rcases r with r|r
  ·exact k93.eq k94
  ·exact k93.eq k94
 ·cases h
  exact Ex.refl
theorem xLF140_2_24 {v15 v4 v0 v1 v17 v18 r} (h:LF140_2_24 v15 v4 v0 v1 v17 v18=some r):sE (λr=>Ex v1 v18 r.2) (λr=>Ex v1 v18 r) r:=by
 unfold LF140_2_24 at h
 rcases cor h with ⟨_,h⟩|⟨_,h⟩
 ·obtain⟨_,_,h⟩:=Xa h
  obtain⟨o33,ho33,h⟩:=Xa h
  have k96:=Xn (I:=λs=>Ex v1 v18 s.2) (T:=λo=>Ex v1 v18 o) ho33 (Ex.refl) (by
   rintro⟨v30,v31⟩ o hI h
   have k:=xLF140_2_37 h
   rcases o with o|o
   ·exact hI.tr k
   ·exact hI.tr k)
  generalize o33=v32 at *
  have k97:=xJF140_2_27 h
  rcases r with r|r
  ·exact k96.eq k97
  ·exact k96.eq k97
 ·cases h
  exact Ex.refl
theorem xLF140_2_11 {v0 v1 v4 v5 r} (h:LF140_2_11 v0 v1 v4 v5=some r):sE (λr=>Ex v1 v5 r.2) (λr=>Ex v1 v5 r) r:=by
 unfold LF140_2_11 at h
 rcases cor h with ⟨_,h⟩|⟨_,h⟩
 ·obtain⟨_,_,h⟩:=Xa h
  obtain⟨o20,ho20,h⟩:=Xa h
  have k99:=Xn (I:=λs=>Ex v1 v5 s.2) (T:=λo=>Ex v1 v5 o) ho20 (Ex.refl) (by
   rintro⟨v17,v18⟩ o hI h
   have k:=xLF140_2_24 h
   rcases o with o|o
   ·exact hI.tr k
   ·exact hI.tr k)
  generalize o20=v19 at *
  have k100:=xJF140_2_14 h
  rcases r with r|r
  ·exact k99.eq k100
  ·exact k99.eq k100
 ·cases h
  exact Ex.refl
theorem xF140_2 {v0 v1 v2 r} (h:F140_2 v0 v1 v2=some r):Ex v1 v2 r:=by
 unfold F140_2 at h
 obtain⟨o7,ho7,h⟩:=Xa h
 have k101:=Xn (I:=λs=>Ex v1 v2 s.2) (T:=λo=>Ex v1 v2 o) ho7 (Ex.refl) (by
  rintro⟨v4,v5⟩ o hI h
  have k:=xLF140_2_11 h
  rcases o with o|o
  ·exact hI.tr k
  ·exact hI.tr k)
 generalize o7=v6 at *
 cases h
 exact k101
theorem xF68_1 {v0 v1 v2 r} (h:F68_1 v0 v1 v2=some r):Ex v1 v2 r:=by
 unfold F68_1 at h
 obtain⟨v7,h102,h⟩:=Xa h
 cases h
 exact(xF140_2 h102)
theorem xJF140_3_14 {v4 v13 r} (h:Uz v4 v13=some r):sE (λr=>r.2=v13) (λr=>r=v13) r:=by
 unfold Uz at h
 cases h
 exact rfl
theorem xJF140_3_27 {v17 v26 r} (h:Uy v17 v26=some r):sE (λr=>r.2=v26) (λr=>r=v26) r:=by
 unfold Uy at h
 cases h
 exact rfl
theorem xJF140_3_40 {v30 v39 r} (h:Ux v30 v39=some r):sE (λr=>r.2=v39) (λr=>r=v39) r:=by
 unfold Ux at h
 cases h
 exact rfl
theorem xLF140_3_50 {v41 v17 v4 v30 v0 v1 v43 v44 r} (h:LF140_3_50 v41 v17 v4 v30 v0 v1 v43 v44=some r):sE (λr=>Ex v1 v44 r.2) (λr=>Ex v1 v44 r) r:=by
 unfold LF140_3_50 at h
 rcases cor h with ⟨_,h⟩|⟨_,h⟩
 ·obtain⟨_,_,h⟩:=Xa h
  obtain⟨_,_,h⟩:=Xa h
  obtain⟨v72,h105,h⟩:=Xa h
  cases h
  exact(Yh h105)
 ·cases h
  exact Ex.refl
theorem xLF140_3_37 {v28 v17 v4 v0 v1 v30 v31 r} (h:LF140_3_37 v28 v17 v4 v0 v1 v30 v31=some r):sE (λr=>Ex v1 v31 r.2) (λr=>Ex v1 v31 r) r:=by
 unfold LF140_3_37 at h
 rcases cor h with ⟨_,h⟩|⟨_,h⟩
 ·obtain⟨_,_,h⟩:=Xa h
  obtain⟨o46,ho46,h⟩:=Xa h
  have k107:=Xn (I:=λs=>Ex v1 v31 s.2) (T:=λo=>Ex v1 v31 o) ho46 (Ex.refl) (by
   rintro⟨v43,v44⟩ o hI h
   have k:=xLF140_3_50 h
   rcases o with o|o
   ·exact hI.tr k
   ·exact hI.tr k)
  generalize o46=v45 at *
  have k108:=xJF140_3_40 h
  rcases r with r|r
  ·exact k107.eq k108
  ·exact k107.eq k108
 ·cases h
  exact Ex.refl
theorem xLF140_3_24 {v15 v4 v0 v1 v17 v18 r} (h:LF140_3_24 v15 v4 v0 v1 v17 v18=some r):sE (λr=>Ex v1 v18 r.2) (λr=>Ex v1 v18 r) r:=by
 unfold LF140_3_24 at h
 rcases cor h with ⟨_,h⟩|⟨_,h⟩
 ·obtain⟨_,_,h⟩:=Xa h
  obtain⟨o33,ho33,h⟩:=Xa h
  have k110:=Xn (I:=λs=>Ex v1 v18 s.2) (T:=λo=>Ex v1 v18 o) ho33 (Ex.refl) (by
   rintro⟨v30,v31⟩ o hI h
   have k:=xLF140_3_37 h
   rcases o with o|o
   ·exact hI.tr k
   ·exact hI.tr k)
  generalize o33=v32 at *
  have k111:=xJF140_3_27 h
  rcases r with r|r
  ·exact k110.eq k111
  ·exact k110.eq k111
 ·cases h
  exact Ex.refl
theorem xLF140_3_11 {v0 v1 v4 v5 r} (h:LF140_3_11 v0 v1 v4 v5=some r):sE (λr=>Ex v1 v5 r.2) (λr=>Ex v1 v5 r) r:=by
 unfold LF140_3_11 at h
 rcases cor h with ⟨_,h⟩|⟨_,h⟩
 ·obtain⟨_,_,h⟩:=Xa h
  obtain⟨o20,ho20,h⟩:=Xa h
  have k113:=Xn (I:=λs=>Ex v1 v5 s.2) (T:=λo=>Ex v1 v5 o) ho20 (Ex.refl) (by
   rintro⟨v17,v18⟩ o hI h
   have k:=xLF140_3_24 h
   rcases o with o|o
   ·exact hI.tr k
   ·exact hI.tr k)
  generalize o20=v19 at *
  have k114:=xJF140_3_14 h
  rcases r with r|r
  ·exact k113.eq k114
  ·exact k113.eq k114
 ·cases h
  exact Ex.refl
theorem xF140_3 {v0 v1 v2 r} (h:F140_3 v0 v1 v2=some r):Ex v1 v2 r:=by
 unfold F140_3 at h
 obtain⟨o7,ho7,h⟩:=Xa h
 have k115:=Xn (I:=λs=>Ex v1 v2 s.2) (T:=λo=>Ex v1 v2 o) ho7 (Ex.refl) (by
  rintro⟨v4,v5⟩ o hI h
  have k:=xLF140_3_11 h
  rcases o with o|o
  ·exact hI.tr k
  ·exact hI.tr k)
 generalize o7=v6 at *
 cases h
 exact k115
theorem xF69_1 {v0 v1 v2 r} (h:F69_1 v0 v1 v2=some r):Ex v1 v2 r:=by
 unfold F69_1 at h
 obtain⟨v7,h116,h⟩:=Xa h
 cases h
 exact(xF140_3 h116)
theorem xJF140_4_15 {v5 v14 r} (h:Uw v5 v14=some r):sE (λr=>r.2=v14) (λr=>r=v14) r:=by
 unfold Uw at h
 cases h
 exact rfl
theorem xJF140_4_28 {v18 v27 r} (h:Uv v18 v27=some r):sE (λr=>r.2=v27) (λr=>r=v27) r:=by
 unfold Uv at h
 cases h
 exact rfl
theorem xJF140_4_41 {v31 v40 r} (h:Uu v31 v40=some r):sE (λr=>r.2=v40) (λr=>r=v40) r:=by
 unfold Uu at h
 cases h
 exact rfl
theorem xLF140_4_51 {v42 v18 v5 v31 v3 v0 v1 v44 v45 r} (h:LF140_4_51 v42 v18 v5 v31 v3 v0 v1 v44 v45=some r):sE (λr=>Ex v1 v45 r.2) (λr=>Ex v1 v45 r) r:=by
 unfold LF140_4_51 at h
 rcases cor h with ⟨_,h⟩|⟨_,h⟩
 ·obtain⟨_,_,h⟩:=Xa h
  obtain⟨_,_,h⟩:=Xa h
  obtain⟨v71,h119,h⟩:=Xa h
  cases h
  exact(Yh h119)
 ·cases h
  exact Ex.refl
theorem xLF140_4_38 {v29 v18 v5 v3 v0 v1 v31 v32 r} (h:LF140_4_38 v29 v18 v5 v3 v0 v1 v31 v32=some r):sE (λr=>Ex v1 v32 r.2) (λr=>Ex v1 v32 r) r:=by
 unfold LF140_4_38 at h
 rcases cor h with ⟨_,h⟩|⟨_,h⟩
 ·obtain⟨_,_,h⟩:=Xa h
  obtain⟨o47,ho47,h⟩:=Xa h
  have k121:=Xn (I:=λs=>Ex v1 v32 s.2) (T:=λo=>Ex v1 v32 o) ho47 (Ex.refl) (by
   rintro⟨v44,v45⟩ o hI h
   have k:=xLF140_4_51 h
   rcases o with o|o
   ·exact hI.tr k
   ·exact hI.tr k)
  generalize o47=v46 at *
  have k122:=xJF140_4_41 h
  rcases r with r|r
  ·exact k121.eq k122
  ·exact k121.eq k122
 ·cases h
  exact Ex.refl
theorem xLF140_4_25 {v16 v5 v3 v0 v1 v18 v19 r} (h:LF140_4_25 v16 v5 v3 v0 v1 v18 v19=some r):sE (λr=>Ex v1 v19 r.2) (λr=>Ex v1 v19 r) r:=by
 unfold LF140_4_25 at h
 rcases cor h with ⟨_,h⟩|⟨_,h⟩
 ·obtain⟨_,_,h⟩:=Xa h
  obtain⟨o34,ho34,h⟩:=Xa h
  have k124:=Xn (I:=λs=>Ex v1 v19 s.2) (T:=λo=>Ex v1 v19 o) ho34 (Ex.refl) (by
   rintro⟨v31,v32⟩ o hI h
   have k:=xLF140_4_38 h
   rcases o with o|o
   ·exact hI.tr k
   ·exact hI.tr k)
  generalize o34=v33 at *
  have k125:=xJF140_4_28 h
  rcases r with r|r
  ·exact k124.eq k125
  ·exact k124.eq k125
 ·cases h
  exact Ex.refl
theorem xLF140_4_12 {v0 v3 v1 v5 v6 r} (h:LF140_4_12 v0 v3 v1 v5 v6=some r):sE (λr=>Ex v1 v6 r.2) (λr=>Ex v1 v6 r) r:=by
 unfold LF140_4_12 at h
 rcases cor h with ⟨_,h⟩|⟨_,h⟩
 ·obtain⟨_,_,h⟩:=Xa h
  obtain⟨o21,ho21,h⟩:=Xa h
  have k127:=Xn (I:=λs=>Ex v1 v6 s.2) (T:=λo=>Ex v1 v6 o) ho21 (Ex.refl) (by
   rintro⟨v18,v19⟩ o hI h
   have k:=xLF140_4_25 h
   rcases o with o|o
   ·exact hI.tr k
   ·exact hI.tr k)
  generalize o21=v20 at *
  have k128:=xJF140_4_15 h
  rcases r with r|r
  ·exact k127.eq k128
  ·exact k127.eq k128
 ·cases h
  exact Ex.refl
theorem xF140_4 {v0 v1 v2 v3 r} (h:F140_4 v0 v1 v2 v3=some r):Ex v1 v2 r:=by
 unfold F140_4 at h
 obtain⟨o8,ho8,h⟩:=Xa h
 have k129:=Xn (I:=λs=>Ex v1 v2 s.2) (T:=λo=>Ex v1 v2 o) ho8 (Ex.refl) (by
  rintro⟨v5,v6⟩ o hI h
  have k:=xLF140_4_12 h
  rcases o with o|o
  ·exact hI.tr k
  ·exact hI.tr k)
 generalize o8=v7 at *
 cases h
 exact k129
theorem xJF70_1_7 {v0 v1 v2 v6 r} (h:JF70_1_7 v0 v1 v2 v6=some r):Ex v1 v2 r:=by
 unfold JF70_1_7 at h
 obtain⟨v12,h130,h⟩:=Xa h
 cases h
 exact(xF140_4 h130)
theorem xF70_1 {v0 v1 v2 r} (h:F70_1 v0 v1 v2=some r):Ex v1 v2 r:=by
 unfold F70_1 at h
 obtain⟨_,_,h⟩:=Xa h
 obtain⟨o17,ho17,h⟩:=Xa h
 generalize o17=v16 at *
 exact xJF70_1_7 h
theorem xLF71_1_16 {v0 v7 v1 v9 v10 r} (h:LF71_1_16 v0 v7 v1 v9 v10=some r):sE (λr=>Ex v1 v10 r.2) (λr=>Ex v1 v10 r) r:=by
 unfold LF71_1_16 at h
 rcases cor h with ⟨_,h⟩|⟨_,h⟩
 ·obtain⟨_,_,h⟩:=Xa h
  obtain⟨_,_,h⟩:=Xa h
  obtain⟨v27,h135,h⟩:=Xa h
  cases h
  exact(Yh h135)
 ·cases h
  exact Ex.refl
theorem xF71_1 {v0 v1 v2 r} (h:F71_1 v0 v1 v2=some r):Ex v1 v2 r:=by
 unfold F71_1 at h
 obtain⟨_,_,h⟩:=Xa h
 obtain⟨o12,ho12,h⟩:=Xa h
 have k137:=Xn (I:=λs=>Ex v1 v2 s.2) (T:=λo=>Ex v1 v2 o) ho12 (Ex.refl) (by
  rintro⟨v9,v10⟩ o hI h
  have k:=xLF71_1_16 h
  rcases o with o|o
  ·exact hI.tr k
  ·exact hI.tr k)
 generalize o12=v11 at *
 cases h
 exact k137
theorem xJF72_1_19 {v9 v18 r} (h:JF72_1_19 v9 v18=some r):sE (λr=>r.2=v18) (λr=>r=v18) r:=by
 unfold JF72_1_19 at h
 cases h
 exact rfl
theorem xJF72_1_23 {v20 v0 v1 v10 v9 v22 r} (h:JF72_1_23 v20 v0 v1 v10 v9 v22=some r):sE (λr=>Ex v1 v10 r.2) (λr=>Ex v1 v10 r) r:=by
 unfold JF72_1_23 at h
 obtain⟨v29,h138,h⟩:=Xa h
 have k139:=xJF72_1_19 h
 rcases r with r|r
 ·exact(Yh h138).eq k139
 ·exact(Yh h138).eq k139
theorem xLF72_1_16 {v0 v7 v1 v9 v10 r} (h:LF72_1_16 v0 v7 v1 v9 v10=some r):sE (λr=>Ex v1 v10 r.2) (λr=>Ex v1 v10 r) r:=by
 unfold LF72_1_16 at h
 rcases cor h with ⟨_,h⟩|⟨_,h⟩
 ·obtain⟨_,_,h⟩:=Xa h
  obtain⟨o34,ho34,h⟩:=Xa h
  generalize o34=v33 at *
  exact xJF72_1_23 h
 ·cases h
  exact Ex.refl
theorem xF72_1 {v0 v1 v2 r} (h:F72_1 v0 v1 v2=some r):Ex v1 v2 r:=by
 unfold F72_1 at h
 obtain⟨_,_,h⟩:=Xa h
 obtain⟨o12,ho12,h⟩:=Xa h
 have k143:=Xn (I:=λs=>Ex v1 v2 s.2) (T:=λo=>Ex v1 v2 o) ho12 (Ex.refl) (by
  rintro⟨v9,v10⟩ o hI h
  have k:=xLF72_1_16 h
  rcases o with o|o
  ·exact hI.tr k
  ·exact hI.tr k)
 generalize o12=v11 at *
 cases h
 exact k143
theorem xLF131_6_11 {v0 v1 v4 v5 r} (h:LF131_6_11 v0 v1 v4 v5=some r):sE (λr=>Ex v1 v5 r.2) (λr=>Ex v1 v5 r) r:=by
 unfold LF131_6_11 at h
 rcases cor h with ⟨_,h⟩|⟨_,h⟩
 ·obtain⟨_,_,h⟩:=Xa h
  obtain⟨_,_,h⟩:=Xa h
  obtain⟨v22,h146,h⟩:=Xa h
  cases h
  exact(Yh h146)
 ·cases h
  exact Ex.refl
theorem xF131_6 {v0 v1 v2 r} (h:F131_6 v0 v1 v2=some r):Ex v1 v2 r:=by
 unfold F131_6 at h
 obtain⟨o7,ho7,h⟩:=Xa h
 have k147:=Xn (I:=λs=>Ex v1 v2 s.2) (T:=λo=>Ex v1 v2 o) ho7 (Ex.refl) (by
  rintro⟨v4,v5⟩ o hI h
  have k:=xLF131_6_11 h
  rcases o with o|o
  ·exact hI.tr k
  ·exact hI.tr k)
 generalize o7=v6 at *
 cases h
 exact k147
theorem Ub {v0 v1 v7 v17 r} (h:Zu v0 v1 v7 v17=some r):Ex v1 v7 r:=by
 unfold Zu at h
 obtain⟨_,_,h⟩:=Xa h
 obtain⟨v26,h149,h⟩:=Xa h
 cases h
 exact(Yh h149)
theorem xJF73_1_16 {v0 v1 v7 v10 v11 v12 v13 v14 v15 r} (h:JF73_1_16 v0 v1 v7 v10 v11 v12 v13 v14 v15=some r):Ex v1 v7 r:=by
 unfold JF73_1_16 at h
 rcases cor h with ⟨_,h⟩|⟨_,h⟩
 ·rcases cor h with ⟨_,h⟩|⟨_,h⟩
  ·exact Ub h
  ·rcases cor h with ⟨_,h⟩|⟨_,h⟩
   ·obtain⟨_,_,h⟩:=Xa h
    exact Ub h
   ·exact Ub h
 ·rcases cor h with ⟨_,h⟩|⟨_,h⟩
  ·obtain⟨_,_,h⟩:=Xa h
   exact Ub h
  ·exact Ub h
theorem xLF73_1_54 {v0 v1 v7 v36 v37 v38 v39 v40 v41 v42 r} (h:LF73_1_54 v0 v1 v7 v36 v37 v38 v39 v40 v41 v42=some r):sE tru (sE (λr=>Ex v1 v7 r) tru) r:=by
 unfold LF73_1_54 at h
 rcases cor h with ⟨_,h⟩|⟨_,h⟩
 ·obtain⟨_,_,h⟩:=Xa h
  obtain⟨_,_,h⟩:=Xa h
  rcases cor h with ⟨_,h⟩|⟨_,h⟩
  ·obtain⟨v66,h154,h⟩:=Xa h
   cases h
   exact(Yh h154)
  ·cases h
   trivial
 ·cases h
  trivial
theorem xF73_1 {v0 v1 v2 r} (h:Wv v0 v1 v2=some r):Ex v1 v2 r:=by
 unfold Wv at h
 obtain⟨v7,h155,h⟩:=Xa h
 rcases cor h with ⟨_,h⟩|⟨_,h⟩
 ·cases h
  exact(xF131_6 h155)
 ·obtain⟨o50,ho50,h⟩:=Xa h
  have k156:=Wh (T:=λo=>sE (λr=>Ex v1 v7 r) tru o) ho50 (by
   rintro⟨_,_,_,_,_,_,_⟩ o h
   exact xLF73_1_54 h)
  rcases o50 with v43|⟨v44,v45,v46,v47,v48,v49⟩
  ·cases h
   exact((xF131_6 h155).tr k156)
  ·have k157:=xJF73_1_16 h
   exact((xF131_6 h155).tr k157)
theorem xLF131_7_11 {v0 v1 v4 v5 r} (h:LF131_7_11 v0 v1 v4 v5=some r):sE (λr=>Ex v1 v5 r.2) (λr=>Ex v1 v5 r) r:=by
 unfold LF131_7_11 at h
 rcases cor h with ⟨_,h⟩|⟨_,h⟩
 ·obtain⟨_,_,h⟩:=Xa h
  obtain⟨_,_,h⟩:=Xa h
  obtain⟨v27,h160,h⟩:=Xa h
  cases h
  exact(Yh h160)
 ·cases h
  exact Ex.refl
theorem xF131_7 {v0 v1 v2 r} (h:F131_7 v0 v1 v2=some r):Ex v1 v2 r:=by
 unfold F131_7 at h
 obtain⟨o7,ho7,h⟩:=Xa h
 have k161:=Xn (I:=λs=>Ex v1 v2 s.2) (T:=λo=>Ex v1 v2 o) ho7 (Ex.refl) (by
  rintro⟨v4,v5⟩ o hI h
  have k:=xLF131_7_11 h
  rcases o with o|o
  ·exact hI.tr k
  ·exact hI.tr k)
 generalize o7=v6 at *
 cases h
 exact k161
theorem xF74_1 {v0 v1 v2 r} (h:Wi v0 v1 v2=some r):Ex v1 v2 r:=by
 unfold Wi at h
 obtain⟨v7,h162,h⟩:=Xa h
 cases h
 exact(xF131_7 h162)
theorem xLF131_8_11 {v0 v1 v4 v5 r} (h:Uo v0 v1 v4 v5=some r):sE (λr=>Ex v1 v5 r.2) (λr=>Ex v1 v5 r) r:=by
 unfold Uo at h
 rcases cor h with ⟨_,h⟩|⟨_,h⟩
 ·obtain⟨_,_,h⟩:=Xa h
  obtain⟨_,_,h⟩:=Xa h
  obtain⟨v22,h165,h⟩:=Xa h
  cases h
  exact(Yh h165)
 ·cases h
  exact Ex.refl
theorem xF131_8 {v0 v1 v2 r} (h:F131_8 v0 v1 v2=some r):Ex v1 v2 r:=by
 unfold F131_8 at h
 obtain⟨o7,ho7,h⟩:=Xa h
 have k166:=Xn (I:=λs=>Ex v1 v2 s.2) (T:=λo=>Ex v1 v2 o) ho7 (Ex.refl) (by
  rintro⟨v4,v5⟩ o hI h
  have k:=xLF131_8_11 h
  rcases o with o|o
  ·exact hI.tr k
  ·exact hI.tr k)
 generalize o7=v6 at *
 cases h
 exact k166
theorem xF75_1 {v0 v1 v2 r} (h:Zr v0 v1 v2=some r):Ex v1 v2 r:=by
 unfold Zr at h
 obtain⟨v7,h167,h⟩:=Xa h
 cases h
 exact(xF131_8 h167)
theorem xJF140_5_14 {v4 v13 r} (h:Ut v4 v13=some r):sE (λr=>r.2=v13) (λr=>r=v13) r:=by
 unfold Ut at h
 cases h
 exact rfl
theorem xJF140_5_27 {v17 v26 r} (h:Us v17 v26=some r):sE (λr=>r.2=v26) (λr=>r=v26) r:=by
 unfold Us at h
 cases h
 exact rfl
theorem xJF140_5_40 {v30 v39 r} (h:Ur v30 v39=some r):sE (λr=>r.2=v39) (λr=>r=v39) r:=by
 unfold Ur at h
 cases h
 exact rfl
theorem xLF140_5_50 {v41 v17 v4 v30 v0 v1 v43 v44 r} (h:LF140_5_50 v41 v17 v4 v30 v0 v1 v43 v44=some r):sE (λr=>Ex v1 v44 r.2) (λr=>Ex v1 v44 r) r:=by
 unfold LF140_5_50 at h
 rcases cor h with ⟨_,h⟩|⟨_,h⟩
 ·obtain⟨_,_,h⟩:=Xa h
  obtain⟨_,_,h⟩:=Xa h
  obtain⟨v72,h170,h⟩:=Xa h
  cases h
  exact(Yh h170)
 ·cases h
  exact Ex.refl
theorem xLF140_5_37 {v28 v17 v4 v0 v1 v30 v31 r} (h:LF140_5_37 v28 v17 v4 v0 v1 v30 v31=some r):sE (λr=>Ex v1 v31 r.2) (λr=>Ex v1 v31 r) r:=by
 unfold LF140_5_37 at h
 rcases cor h with ⟨_,h⟩|⟨_,h⟩
 ·obtain⟨_,_,h⟩:=Xa h
  obtain⟨o46,ho46,h⟩:=Xa h
  have k172:=Xn (I:=λs=>Ex v1 v31 s.2) (T:=λo=>Ex v1 v31 o) ho46 (Ex.refl) (by
   rintro⟨v43,v44⟩ o hI h
   have k:=xLF140_5_50 h
   rcases o with o|o
   ·exact hI.tr k
   ·exact hI.tr k)
  generalize o46=v45 at *
  have k173:=xJF140_5_40 h
  rcases r with r|r
  ·exact k172.eq k173
  ·exact k172.eq k173
 ·cases h
  exact Ex.refl
theorem xLF140_5_24 {v15 v4 v0 v1 v17 v18 r} (h:LF140_5_24 v15 v4 v0 v1 v17 v18=some r):sE (λr=>Ex v1 v18 r.2) (λr=>Ex v1 v18 r) r:=by
 unfold LF140_5_24 at h
 rcases cor h with ⟨_,h⟩|⟨_,h⟩
 ·obtain⟨_,_,h⟩:=Xa h
  obtain⟨o33,ho33,h⟩:=Xa h
  have k175:=Xn (I:=λs=>Ex v1 v18 s.2) (T:=λo=>Ex v1 v18 o) ho33 (Ex.refl) (by
   rintro⟨v30,v31⟩ o hI h
   have k:=xLF140_5_37 h
   rcases o with o|o
   ·exact hI.tr k
   ·exact hI.tr k)
  generalize o33=v32 at *
  have k176:=xJF140_5_27 h
  rcases r with r|r
  ·exact k175.eq k176
  ·exact k175.eq k176
 ·cases h
  exact Ex.refl
theorem xLF140_5_11 {v0 v1 v4 v5 r} (h:LF140_5_11 v0 v1 v4 v5=some r):sE (λr=>Ex v1 v5 r.2) (λr=>Ex v1 v5 r) r:=by
 unfold LF140_5_11 at h
 rcases cor h with ⟨_,h⟩|⟨_,h⟩
 ·obtain⟨_,_,h⟩:=Xa h
  obtain⟨o20,ho20,h⟩:=Xa h
  have k178:=Xn (I:=λs=>Ex v1 v5 s.2) (T:=λo=>Ex v1 v5 o) ho20 (Ex.refl) (by
   rintro⟨v17,v18⟩ o hI h
   have k:=xLF140_5_24 h
   rcases o with o|o
   ·exact hI.tr k
   ·exact hI.tr k)
  generalize o20=v19 at *
  have k179:=xJF140_5_14 h
  rcases r with r|r
  ·exact k178.eq k179
  ·exact k178.eq k179
 ·cases h
  exact Ex.refl
theorem xF140_5 {v0 v1 v2 r} (h:F140_5 v0 v1 v2=some r):Ex v1 v2 r:=by
 unfold F140_5 at h
 obtain⟨o7,ho7,h⟩:=Xa h
 have k180:=Xn (I:=λs=>Ex v1 v2 s.2) (T:=λo=>Ex v1 v2 o) ho7 (Ex.refl) (by
  rintro⟨v4,v5⟩ o hI h
  have k:=xLF140_5_11 h
  rcases o with o|o
  ·exact hI.tr k
  ·exact hI.tr k)
 generalize o7=v6 at *
 cases h
 exact k180
theorem xF76_1 {v0 v1 v2 r} (h:Zw v0 v1 v2=some r):Ex v1 v2 r:=by
 unfold Zw at h
 obtain⟨v7,h181,h⟩:=Xa h
 cases h
 exact(xF140_5 h181)
end Go.Proofs.YtibndgdocbbbeaaGreat
namespace Go.Proofs.YtibndgdocbbbeaaGreat
open Go.PE
set_option maxRecDepth 100000
theorem q3 {k:Int} {l:List G159} {r} (h:Zy k l=some r):Sl.es r=l:=by
 unfold Zy at h
 cases h
 exact mkSl_es l
theorem Ex.nil {R:Int} {l:List G159} (h:Ex R l []):l=[]:=by
 obtain⟨t,e,_⟩:=h
 exact(List.append_eq_nil_iff.1 e.symm).1
theorem ccc {α:Type} {c:Bool} {x:Option α} {r:α} (h:(bif c then x else x)=some r):x=some r:=by cases c<;>exact h
def Pf (l m:List G159):Prop:=m=[]->l=[]
theorem Pf.ex {R:Int} {l m n:List G159} (h:Ex R l m) (k:Pf m n):Pf l n:=λe=>by
 have:=k e
 subst this
 exact h.nil
theorem p117 {v s b r} (h:Ws v s b=some r):Pf v (Sl.es r):=by
 unfold Ws at h
 rcases cor h with ⟨_,h⟩|⟨_,h⟩
 ·rw[q3 h];exact id
 ·obtain⟨u,hu,h⟩:=Xa h
  refine .ex (xF76_1 hu) ?_
  rw[q3 h];exact id
theorem p109 {v s b r} (h:Wt v s b=some r):Pf v (Sl.es r):=by
 unfold Wt at h
 rcases cor h with ⟨_,h⟩|⟨_,h⟩
 ·rw[q3 h];exact id
 ·obtain⟨u,hu,h⟩:=Xa h
  refine .ex (xF75_1 hu) ?_
  rcases cor h with ⟨_,h⟩|⟨_,h⟩
  ·obtain⟨_,_,h⟩:=Xa h
   exact p117 h
  ·exact p117 h
theorem p101 {v s b r} (h:Wu v s b=some r):Pf v (Sl.es r):=by
 unfold Wu at h
 rcases cor h with ⟨_,h⟩|⟨_,h⟩
 ·rw[q3 h];exact id
 ·obtain⟨u,hu,h⟩:=Xa h
  refine .ex (xF74_1 hu) ?_
  rcases cor h with ⟨_,h⟩|⟨_,h⟩
  ·obtain⟨_,_,h⟩:=Xa h
   exact p109 h
  ·exact p109 h
theorem p93 {v s b r} (h:Vt v s b=some r):Pf v (Sl.es r):=by
 unfold Vt at h
 rcases cor h with ⟨_,h⟩|⟨_,h⟩
 ·rw[q3 h];exact id
 ·obtain⟨u,hu,h⟩:=Xa h
  refine .ex (xF73_1 hu) ?_
  rcases cor h with ⟨_,h⟩|⟨_,h⟩
  ·obtain⟨_,_,h⟩:=Xa h
   exact p101 h
  ·exact p101 h
theorem p85 {v s b r} (h:Vu v s b=some r):Pf v (Sl.es r):=by
 unfold Vu at h
 rcases cor h with ⟨_,h⟩|⟨_,h⟩
 ·rw[q3 h];exact id
 ·obtain⟨u,hu,h⟩:=Xa h
  refine .ex (xF72_1 hu) ?_
  rcases cor h with ⟨_,h⟩|⟨_,h⟩
  ·obtain⟨_,_,h⟩:=Xa h
   exact p93 h
  ·exact p93 h
theorem p77 {v s b r} (h:Vv v s b=some r):Pf v (Sl.es r):=by
 unfold Vv at h
 rcases cor h with ⟨_,h⟩|⟨_,h⟩
 ·rw[q3 h];exact id
 ·obtain⟨u,hu,h⟩:=Xa h
  refine .ex (xF71_1 hu) ?_
  rcases cor h with ⟨_,h⟩|⟨_,h⟩
  ·obtain⟨_,_,h⟩:=Xa h
   exact p85 h
  ·exact p85 h
theorem p69 {v s b r} (h:Vw v s b=some r):Pf v (Sl.es r):=by
 unfold Vw at h
 rcases cor h with ⟨_,h⟩|⟨_,h⟩
 ·rw[q3 h];exact id
 ·obtain⟨u,hu,h⟩:=Xa h
  refine .ex (xF70_1 hu) ?_
  rcases cor h with ⟨_,h⟩|⟨_,h⟩
  ·obtain⟨_,_,h⟩:=Xa h
   exact p77 h
  ·exact p77 h
theorem p61 {v s b r} (h:Vx v s b=some r):Pf v (Sl.es r):=by
 unfold Vx at h
 rcases cor h with ⟨_,h⟩|⟨_,h⟩
 ·rw[q3 h];exact id
 ·obtain⟨u,hu,h⟩:=Xa h
  refine .ex (xF69_1 hu) ?_
  rcases cor h with ⟨_,h⟩|⟨_,h⟩
  ·obtain⟨_,_,h⟩:=Xa h
   exact p69 h
  ·exact p69 h
theorem y117 {s r} (h:Ws [] s false=some r) (hr:Sl.es r=[]):Zw s 17 []=some []:=by
 unfold Ws at h
 rw[cond_false]at h
 obtain⟨u,hu,g⟩:=Xa h
 rw[q3 g]at hr
 subst hr
 exact hu
theorem y109 {s r} (h:Wt [] s false=some r) (hr:Sl.es r=[]):Zr s 16 []=some []/\Zw s 17 []=some []:=by
 unfold Wt at h
 rw[cond_false]at h
 obtain⟨u,hu,g⟩:=Xa h
 clear h
 have e:u=[]:=by
  rcases cor g with ⟨_,h⟩|⟨_,h⟩
  ·obtain⟨_,_,h⟩:=Xa h
   exact p117 h hr
  ·exact p117 h hr
 subst e
 have h:Ws [] s false=some r:=by
  rcases cor g with ⟨c,h⟩|⟨_,h⟩
  ·exact absurd c (by decide)
  ·exact h
 exact⟨hu,y117 h hr⟩
theorem y101 {s r} (h:Wu [] s false=some r) (hr:Sl.es r=[]):Wi s 15 []=some []/\Zr s 16 []=some []/\Zw s 17 []=some []:=by
 unfold Wu at h
 rw[cond_false]at h
 obtain⟨u,hu,g⟩:=Xa h
 clear h
 have e:u=[]:=by
  rcases cor g with ⟨_,h⟩|⟨_,h⟩
  ·obtain⟨_,_,h⟩:=Xa h
   exact p109 h hr
  ·exact p109 h hr
 subst e
 have h:Wt [] s false=some r:=by
  rcases cor g with ⟨c,h⟩|⟨_,h⟩
  ·exact absurd c (by decide)
  ·exact h
 exact⟨hu,y109 h hr⟩
theorem y93 {s r} (h:Vt [] s false=some r) (hr:Sl.es r=[]):Wv s 14 []=some []/\Wi s 15 []=some []/\Zr s 16 []=some []/\Zw s 17 []=some []:=by
 unfold Vt at h
 rw[cond_false]at h
 obtain⟨u,hu,g⟩:=Xa h
 clear h
 have e:u=[]:=by
  rcases cor g with ⟨_,h⟩|⟨_,h⟩
  ·obtain⟨_,_,h⟩:=Xa h
   exact p101 h hr
  ·exact p101 h hr
 subst e
 have h:Wu [] s false=some r:=by
  rcases cor g with ⟨c,h⟩|⟨_,h⟩
  ·exact absurd c (by decide)
  ·exact h
 exact⟨hu,y101 h hr⟩
theorem y85 {s r} (h:Vu [] s false=some r) (hr:Sl.es r=[]):F72_1 s 13 []=some []/\Wv s 14 []=some []/\Wi s 15 []=some []/\Zr s 16 []=some []/\Zw s 17 []=some []:=by
 unfold Vu at h
 rw[cond_false]at h
 obtain⟨u,hu,g⟩:=Xa h
 clear h
 have e:u=[]:=by
  rcases cor g with ⟨_,h⟩|⟨_,h⟩
  ·obtain⟨_,_,h⟩:=Xa h
   exact p93 h hr
  ·exact p93 h hr
 subst e
 have h:Vt [] s false=some r:=by
  rcases cor g with ⟨c,h⟩|⟨_,h⟩
  ·exact absurd c (by decide)
  ·exact h
 exact⟨hu,y93 h hr⟩
theorem y77 {s r} (h:Vv [] s false=some r) (hr:Sl.es r=[]):F71_1 s 12 []=some []/\F72_1 s 13 []=some []/\Wv s 14 []=some []/\Wi s 15 []=some []/\Zr s 16 []=some []/\Zw s 17 []=some []:=by
 unfold Vv at h
 rw[cond_false]at h
 obtain⟨u,hu,g⟩:=Xa h
 clear h
 have e:u=[]:=by
  rcases cor g with ⟨_,h⟩|⟨_,h⟩
  ·obtain⟨_,_,h⟩:=Xa h
   exact p85 h hr
  ·exact p85 h hr
 subst e
 have h:Vu [] s false=some r:=by
  rcases cor g with ⟨c,h⟩|⟨_,h⟩
  ·exact absurd c (by decide)
  ·exact h
 exact⟨hu,y85 h hr⟩
theorem y69 {s r} (h:Vw [] s false=some r) (hr:Sl.es r=[]):F70_1 s 11 []=some []/\F71_1 s 12 []=some []/\F72_1 s 13 []=some []/\Wv s 14 []=some []/\Wi s 15 []=some []/\Zr s 16 []=some []/\Zw s 17 []=some []:=by
 unfold Vw at h
 rw[cond_false]at h
 obtain⟨u,hu,g⟩:=Xa h
 clear h
 have e:u=[]:=by
  rcases cor g with ⟨_,h⟩|⟨_,h⟩
  ·obtain⟨_,_,h⟩:=Xa h
   exact p77 h hr
  ·exact p77 h hr
 subst e
 have h:Vv [] s false=some r:=by
  rcases cor g with ⟨c,h⟩|⟨_,h⟩
  ·exact absurd c (by decide)
  ·exact h
 exact⟨hu,y77 h hr⟩
theorem y61 {s r} (h:Vx [] s false=some r) (hr:Sl.es r=[]):F69_1 s 10 []=some []/\F70_1 s 11 []=some []/\F71_1 s 12 []=some []/\F72_1 s 13 []=some []/\Wv s 14 []=some []/\Wi s 15 []=some []/\Zr s 16 []=some []/\Zw s 17 []=some []:=by
 unfold Vx at h
 rw[cond_false]at h
 obtain⟨u,hu,g⟩:=Xa h
 clear h
 have e:u=[]:=by
  rcases cor g with ⟨_,h⟩|⟨_,h⟩
  ·obtain⟨_,_,h⟩:=Xa h
   exact p69 h hr
  ·exact p69 h hr
 subst e
 have h:Vw [] s false=some r:=by
  rcases cor g with ⟨c,h⟩|⟨_,h⟩
  ·exact absurd c (by decide)
  ·exact h
 exact⟨hu,y69 h hr⟩
theorem z54 {s l r} (h:JF29_54 s l=some r) (hr:Sl.es r=[]):l=[]/\F68_1 s 9 []=some []/\F69_1 s 10 []=some []/\F70_1 s 11 []=some []/\F71_1 s 12 []=some []/\F72_1 s 13 []=some []/\Wv s 14 []=some []/\Wi s 15 []=some []/\Zr s 16 []=some []/\Zw s 17 []=some []:=by
 unfold JF29_54 at h
 obtain⟨u,hu,g⟩:=Xa h
 clear h
 have e:u=[]:=by
  rcases cor g with ⟨_,h⟩|⟨_,h⟩
  ·obtain⟨_,_,h⟩:=Xa h
   exact p61 h hr
  ·exact p61 h hr
 subst e
 have k:=(xF68_1 hu).nil
 subst k
 have h:Vx [] s false=some r:=by
  rcases cor g with ⟨c,h⟩|⟨_,h⟩
  ·exact absurd c (by decide)
  ·exact h
 exact⟨rfl,hu,y61 h hr⟩
theorem z48 {s l r} (h:JF29_48 s l=some r) (hr:Sl.es r=[]):l=[]/\F67_1 s 8 []=some []/\F68_1 s 9 []=some []/\F69_1 s 10 []=some []/\F70_1 s 11 []=some []/\F71_1 s 12 []=some []/\F72_1 s 13 []=some []/\Wv s 14 []=some []/\Wi s 15 []=some []/\Zr s 16 []=some []/\Zw s 17 []=some []:=by
 unfold JF29_48 at h
 obtain⟨u,hu,h⟩:=Xa h
 have e:=z54 (ccc h) hr
 obtain⟨rfl,e⟩:=e
 have k:=(xF67_1 hu).nil
 subst k
 exact⟨rfl,hu,e⟩
theorem z42 {s l r} (h:JF29_42 s l=some r) (hr:Sl.es r=[]):l=[]/\F66_1 s 7 []=some []/\F67_1 s 8 []=some []/\F68_1 s 9 []=some []/\F69_1 s 10 []=some []/\F70_1 s 11 []=some []/\F71_1 s 12 []=some []/\F72_1 s 13 []=some []/\Wv s 14 []=some []/\Wi s 15 []=some []/\Zr s 16 []=some []/\Zw s 17 []=some []:=by
 unfold JF29_42 at h
 obtain⟨u,hu,h⟩:=Xa h
 have e:=z48 (ccc h) hr
 obtain⟨rfl,e⟩:=e
 have k:=(xF66_1 hu).nil
 subst k
 exact⟨rfl,hu,e⟩
theorem z36 {s l r} (h:JF29_36 s l=some r) (hr:Sl.es r=[]):l=[]/\F65_1 s 6 []=some []/\F66_1 s 7 []=some []/\F67_1 s 8 []=some []/\F68_1 s 9 []=some []/\F69_1 s 10 []=some []/\F70_1 s 11 []=some []/\F71_1 s 12 []=some []/\F72_1 s 13 []=some []/\Wv s 14 []=some []/\Wi s 15 []=some []/\Zr s 16 []=some []/\Zw s 17 []=some []:=by
 unfold JF29_36 at h
 obtain⟨u,hu,h⟩:=Xa h
 have e:=z42 (ccc h) hr
 obtain⟨rfl,e⟩:=e
 have k:=(xF65_1 hu).nil
 subst k
 exact⟨rfl,hu,e⟩
theorem z30 {s l r} (h:JF29_30 s l=some r) (hr:Sl.es r=[]):l=[]/\F64_1 s 5 []=some []/\F65_1 s 6 []=some []/\F66_1 s 7 []=some []/\F67_1 s 8 []=some []/\F68_1 s 9 []=some []/\F69_1 s 10 []=some []/\F70_1 s 11 []=some []/\F71_1 s 12 []=some []/\F72_1 s 13 []=some []/\Wv s 14 []=some []/\Wi s 15 []=some []/\Zr s 16 []=some []/\Zw s 17 []=some []:=by
 unfold JF29_30 at h
 obtain⟨u,hu,h⟩:=Xa h
 have e:=z36 (ccc h) hr
 obtain⟨rfl,e⟩:=e
 have k:=(xF64_1 hu).nil
 subst k
 exact⟨rfl,hu,e⟩
theorem z24 {s l r} (h:JF29_24 s l=some r) (hr:Sl.es r=[]):l=[]/\F63_1 s 4 []=some []/\F64_1 s 5 []=some []/\F65_1 s 6 []=some []/\F66_1 s 7 []=some []/\F67_1 s 8 []=some []/\F68_1 s 9 []=some []/\F69_1 s 10 []=some []/\F70_1 s 11 []=some []/\F71_1 s 12 []=some []/\F72_1 s 13 []=some []/\Wv s 14 []=some []/\Wi s 15 []=some []/\Zr s 16 []=some []/\Zw s 17 []=some []:=by
 unfold JF29_24 at h
 obtain⟨u,hu,h⟩:=Xa h
 have e:=z30 (ccc h) hr
 obtain⟨rfl,e⟩:=e
 have k:=(xF63_1 hu).nil
 subst k
 exact⟨rfl,hu,e⟩
theorem z18 {s l r} (h:JF29_18 s l=some r) (hr:Sl.es r=[]):l=[]/\F62_1 s 3 []=some []/\F63_1 s 4 []=some []/\F64_1 s 5 []=some []/\F65_1 s 6 []=some []/\F66_1 s 7 []=some []/\F67_1 s 8 []=some []/\F68_1 s 9 []=some []/\F69_1 s 10 []=some []/\F70_1 s 11 []=some []/\F71_1 s 12 []=some []/\F72_1 s 13 []=some []/\Wv s 14 []=some []/\Wi s 15 []=some []/\Zr s 16 []=some []/\Zw s 17 []=some []:=by
 unfold JF29_18 at h
 obtain⟨u,hu,h⟩:=Xa h
 have e:=z24 (ccc h) hr
 obtain⟨rfl,e⟩:=e
 have k:=(xF62_1 hu).nil
 subst k
 exact⟨rfl,hu,e⟩
theorem z32 {s r} (h:F29 s=some r) (hr:Sl.es r=[]):F60_1 s 1 []=some []/\F61_1 s 2 []=some []/\F62_1 s 3 []=some []/\F63_1 s 4 []=some []/\F64_1 s 5 []=some []/\F65_1 s 6 []=some []/\F66_1 s 7 []=some []/\F67_1 s 8 []=some []/\F68_1 s 9 []=some []/\F69_1 s 10 []=some []/\F70_1 s 11 []=some []/\F71_1 s 12 []=some []/\F72_1 s 13 []=some []/\Wv s 14 []=some []/\Wi s 15 []=some []/\Zr s 16 []=some []/\Zw s 17 []=some []:=by
 unfold F29 at h
 have h:JF29_4 s=some r:=by rcases cor h with ⟨_,h⟩|⟨_,h⟩<;>exact h
 unfold JF29_4 at h
 obtain⟨u,hu,h⟩:=Xa h
 rcases cor h with ⟨c,h⟩|⟨_,h⟩
 ·unfold JF29_11 at h
  rw[cond_true]at h
  have e:=q3 h
  rw[hr]at e
  subst e
  cases c
 ·unfold JF29_11 at h
  rw[cond_false]at h
  obtain⟨w,hw,h⟩:=Xa h
  obtain⟨rfl,e⟩:=z18 (ccc h) hr
  have k:=(xF61_1 hw).nil
  subst k
  exact⟨hu,hw,e⟩
theorem z13 {s} (h:F14 s=some true):F60_1 s 1 []=some []/\F61_1 s 2 []=some []/\F62_1 s 3 []=some []/\F63_1 s 4 []=some []/\F64_1 s 5 []=some []/\F65_1 s 6 []=some []/\F66_1 s 7 []=some []/\F67_1 s 8 []=some []/\F68_1 s 9 []=some []/\F69_1 s 10 []=some []/\F70_1 s 11 []=some []/\F71_1 s 12 []=some []/\F72_1 s 13 []=some []/\Wv s 14 []=some []/\Wi s 15 []=some []/\Zr s 16 []=some []/\Zw s 17 []=some []:=by
 unfold F14 at h
 obtain⟨r,hr,h⟩:=Xa h
 refine z32 hr ?_
 have e:=Option.some.inj h
 simp only[ln]at e
 exact List.eq_nil_of_length_eq_zero (by simpa using e)
theorem f99 {b i s r l} (h:Yd b i s r l=some []):b=false/\l=[]:=by
 unfold Yd at h
 cases b with
 |false=>cases h;exact⟨rfl,rfl⟩
 |true=>
  rw[cond_true]at h
  obtain⟨q,hq,h⟩:=Xa h
  cases h
  unfold gapp at hq
  split at hq
  ·have e:=Option.some.inj hq
   exact nomatch (List.append_eq_nil_iff.1 e).2
  ·cases hq
theorem each_inv {α:Type} {s:Sl α} {B:Int->List G159->Option ((Int×List G159)⊕List G159)} {P:Int->α->Prop} (hl:ln s<=1000000000000)
  (hB:∀ i l o,B i l=some o->(i<ln s/\∃ m l',gx (Sl.es s) i=some m/\o=.inl (wi (i+1),l')/\(l'=[]->l=[]/\P i m))\/(¬ i<ln s/\o=.inr l))
  {l0 r:List G159} (h:Xh (λ(x:Int×List G159)=>match x with|(i,l)=>B i l) (0,l0)=some r) (hr:r=[]):l0=[]/\∀ j m,gx (Sl.es s) j=some m->P j m:=by
 have key:=Xn (I:=λx=>0<=x.1/\(x.2=[]->l0=[]/\∀ j,j<x.1->∀ m,gx (Sl.es s) j=some m->P j m)) (T:=λr=>r=[]->l0=[]/\∀ j m,gx (Sl.es s) j=some m->P j m) h ⟨Int.le_refl _,λe=>⟨e,λj a m em=>by have:=(Yr em).1;simp only at a;omega⟩⟩ (by
  rintro⟨i,l⟩ o ⟨h0,hI⟩ hb
  rcases hB i l o hb with ⟨c,m,l',e,rfl,k⟩|⟨c,rfl⟩
  ·have e1:wi (i+1)=i+1:=Xr (by simp only at h0;omega) (by omega)
   rw[e1]
   refine⟨by simp only at h0 ⊢;omega,λhn=>?_⟩
   obtain⟨hl',hp⟩:=k hn
   obtain⟨hz,hI⟩:=hI hl'
   refine⟨hz,λj a m' em=>?_⟩
   by_cases hj:j=i
   ·subst hj;cases e.symm.trans em;exact hp
   ·exact hI j (by simp only at a ⊢;omega) m' em
  ·intro hn
   obtain⟨hz,hI⟩:=hI hn
   refine⟨hz,λj m' em=>hI j ?_ m' em⟩
   have:=(Yr em).2
   simp only[ln]at c ⊢
   omega)
 exact key hr
end Go.Proofs.YtibndgdocbbbeaaGreat
namespace Go.Proofs.YtibndgdocbbbeaaGreat
open Go.PE Go.RowKit
set_option maxRecDepth 100000
theorem m5 {s:G27} (hs:ln s.fc<=1000) (h:F64_1 s 5 []=some []):∀ j m,gx (Sl.es s.fc) j=some m->∃ n,F99 m=some (n,0):=by
 unfold F64_1 at h
 obtain⟨r,hr,h⟩:=Xa h
 cases h
 unfold F131_3 at hr
 obtain⟨o,ho,h⟩:=Xa hr
 cases h
 refine(each_inv (P:=λ_ m=>∃ n,F99 m=some (n,0)) (by omega) ?_ ho rfl).2
 intro i l o hb
 unfold Up at hb
 rcases cor hb with ⟨c,h⟩|⟨c,h⟩
 ·obtain⟨m,em,h⟩:=Xa h
  obtain⟨b,eb,h⟩:=Xa h
  obtain⟨w,ew,h⟩:=Xa h
  cases h
  refine .inl ⟨of_decide_eq_true c,m,w,em,rfl,λe=>?_⟩
  subst e
  obtain⟨rfl,rfl⟩:=f99 ew
  refine⟨rfl,?_⟩
  unfold F135_1 at eb
  obtain⟨q,hq,eb⟩:=Xa eb
  have key:∀ v,Ua s m true=some v->v=true:=λv hv=>by
   unfold Ua at hv
   obtain⟨o,ho,hv⟩:=Xa hv
   cases hv
   refine Xn (I:=λx=>x.1=true) (T:=λr=>r=true) ho rfl ?_
   rintro⟨b,i⟩ o hI hb
   simp only at hI
   subst hI
   simp only at hb
   unfold LF135_1_18 at hb
   rcases cor hb with ⟨c,h⟩|⟨c,h⟩
   ·obtain⟨p,ep,h⟩:=Xa h
    have e:(bif s.faA then Wf m p i true false else Wf m p i true false)=some o:=h
    have e:Wf m p i true false=some o:=ccc e
    cases e
    rfl
   ·cases h
    rfl
  rcases cor eb with ⟨c,h⟩|⟨c,h⟩
  ·cases key _ h
  ·obtain⟨n,e⟩:=q
   refine⟨n,?_⟩
   have:e=0:=by simpa using c
   subst this
   exact hq
 ·cases h
  exact .inr ⟨of_decide_eq_false c,rfl⟩
theorem m16 {s:G27} (hs:ln s.fc<=1000) (h:Zr s 16 []=some []):∀ j m,gx (Sl.es s.fc) j=some m->F166 j m=some false:=by
 unfold Zr at h
 obtain⟨r,hr,h⟩:=Xa h
 cases h
 unfold F131_8 at hr
 obtain⟨o,ho,h⟩:=Xa hr
 cases h
 refine(each_inv (P:=λj m=>F166 j m=some false) (by omega) ?_ ho rfl).2
 intro i l o hb
 unfold Uo at hb
 rcases cor hb with ⟨c,h⟩|⟨c,h⟩
 ·obtain⟨m,em,h⟩:=Xa h
  obtain⟨b,eb,h⟩:=Xa h
  obtain⟨w,ew,h⟩:=Xa h
  cases h
  refine .inl ⟨of_decide_eq_true c,m,w,em,rfl,λe=>?_⟩
  subst e
  obtain⟨rfl,rfl⟩:=f99 ew
  exact⟨rfl,eb⟩
 ·cases h
  exact .inr ⟨of_decide_eq_false c,rfl⟩
def lenOf (m:G75):Int:=if m.fao=0 then m.fO.fE*1935360 / m.fO.fD else m.fao
theorem unit_dvd {u:Int} (h0:1<=u) (h1:u<=64) (h:iand .i64 u (wi (u-1))=0):(u=1\/u=2\/u=4\/u=8\/u=16\/u=32\/u=64):=by
 have k:∀ n:Fin 65,1<=n.val->iand .i64 (n.val:Int) (wi ((n.val:Int)-1))=0->(n.val=1\/n.val=2\/n.val=4\/n.val=8\/n.val=16\/n.val=32\/n.val=64):=by decide
 obtain⟨n,rfl⟩:=Int.eq_ofNat_of_zero_le (by omega:0<=u)
 have:=k ⟨n,by omega⟩ (by simp only;omega) h
 simp only at this
 omega
theorem metre_ok {x:G71} (h:F83 x=some 0):1<=x.fE/\x.fE<=64/\1<=x.fD/\x.fD<=64/\iand .i64 x.fD (wi (x.fD-1))=0:=by
 have j5:∀ b,JF83_5 x b=some 0->b=false:=λb hb=>by
  cases b
  ·rfl
  ·unfold JF83_5 at hb
   rw[cond_true]at hb
   cases hb
 have j2:∀ b,JF83_2 x b=some 0->b=false/\1<=x.fD/\x.fD<=64/\iand .i64 x.fD (wi (x.fD-1))=0:=λb hb=>by
  cases b
  ·refine⟨rfl,?_⟩
   unfold JF83_2 at hb
   rw[cond_false]at hb
   rcases cor hb with ⟨_,h⟩|⟨a,hb⟩
   ·cases j5 _ h
   rcases cor hb with ⟨_,h⟩|⟨b,hb⟩
   ·cases j5 _ h
   have c:=j5 _ hb
   have a:=of_decide_eq_false a
   have b:=of_decide_eq_false b
   have c:iand .i64 x.fD (wi (x.fD-1))=0:=by simpa only [bne_eq_false_iff_eq] using c
   exact⟨by omega,by omega,c⟩
  ·unfold JF83_2 at hb
   rw[cond_true]at hb
   cases hb
 unfold F83 at h
 rcases cor h with ⟨_,h⟩|⟨a,h⟩
 ·cases(j2 _ h).1
 ·have k:=j2 _ h
  have a:=of_decide_eq_false a
  have b:=of_decide_eq_false k.1
  exact⟨by omega,by omega,k.2⟩
theorem len_ok {m:G75} {n:Int} (h:F99 m=some (n,0)):n=lenOf m/\1<=n/\n<=15482880/\1<=m.fO.fD/\1<=m.fO.fE/\m.fO.fE<=64/\m.fO.fD<=64:=by
 have j4:∀ k,JF99_4 k=some (n,0)->n=k/\k<=15482880:=λk hk=>by
  unfold JF99_4 at hk
  rcases cor hk with ⟨_,h⟩|⟨_,hk⟩
  ·cases h
  rcases cor hk with ⟨_,h⟩|⟨c,hk⟩
  ·cases h
  cases hk
  have c:=of_decide_eq_false c
  exact⟨rfl,by omega⟩
 unfold F99 at h
 obtain⟨q,hq,h⟩:=Xa h
 rcases cor h with ⟨c,h⟩|⟨c,h⟩
 ·have e:=(Prod.mk.inj (Option.some.inj h)).2
  rw[e]at c
  cases c
 have c:q.2=0:=by simpa using c
 unfold F187 at hq
 obtain⟨e,he,hq⟩:=Xa hq
 rcases cor hq with ⟨d,hq⟩|⟨d,hq⟩
 ·cases hq
  simp only at c
  subst c
  cases d
 have d:e=0:=by simpa using d
 subst d
 obtain⟨k1,k2,k3,k4,k5⟩:=metre_ok he
 obtain⟨w,hw,hq⟩:=Xa hq
 cases hq
 unfold F256 F305 at hw
 obtain⟨x,hx,hw⟩:=Xa hw
 obtain⟨x,hx,hy⟩:=Xa hx
 cases hy
 cases hw
 have hz:wi (m.fO.fE*x)=m.fO.fE*1935360 / m.fO.fD/\1<=m.fO.fE*1935360 / m.fO.fD:=by
  unfold gq at hx
  rw[if_neg (by omega)]at hx
  have hx:=(Option.some.inj hx).symm
  rcases unit_dvd k3 k4 k5 with u|u|u|u|u|u|u<;>rw[u]at hx ⊢
  ·have e:x=1935360:=hx
   subst e;rw[Xr (by omega) (by omega)];omega
  ·have e:x=967680:=hx
   subst e;rw[Xr (by omega) (by omega)];omega
  ·have e:x=483840:=hx
   subst e;rw[Xr (by omega) (by omega)];omega
  ·have e:x=241920:=hx
   subst e;rw[Xr (by omega) (by omega)];omega
  ·have e:x=120960:=hx
   subst e;rw[Xr (by omega) (by omega)];omega
  ·have e:x=60480:=hx
   subst e;rw[Xr (by omega) (by omega)];omega
  ·have e:x=30240:=hx
   subst e;rw[Xr (by omega) (by omega)];omega
 rcases cor h with ⟨a,h⟩|⟨a,h⟩
 ·cases h
 have a:=of_decide_eq_false a
 rcases cor h with ⟨b,h⟩|⟨b,h⟩
 ·have b:=of_decide_eq_true b
  obtain⟨rfl,k⟩:=j4 _ h
  refine⟨?_,by omega,k,k3,k1,k2,k4⟩
  unfold lenOf
  rw[if_neg (by omega)]
 ·have b:=of_decide_eq_false b
  obtain⟨rfl,k⟩:=j4 _ h
  refine⟨?_,by rw[hz.1];exact hz.2,k,k3,k1,k2,k4⟩
  unfold lenOf
  rw[if_pos (by omega)]
  exact hz.1
theorem in_of {a b c:Int} (h:F125 a b c=some true):b<=a/\a<=c:=by
 unfold F125 at h
 rcases cor h with ⟨d,h⟩|⟨d,h⟩
 ·have d:=of_decide_eq_true d
  have e:=of_decide_eq_true (Option.some.inj h)
  exact⟨d,e⟩
 ·cases h
def tempiOk (l:List G111) (n:Int):Prop:=∀ j x,gx l j=some x->0<=x.fAt/\x.fAt<=n-1/\1<=x.faq/\x.faq<=60000000/\(0<j->∃ y,gx l (j-1)=some y/\y.fAt<x.fAt)
theorem tempi_ok {i:Int} {m:G75} {n:Int} (hl:ln m.fm<=1000) (hn:F99 m=some (n,0)) (h1:1<=n) (h2:n<=15482880) (h:F166 i m=some false):tempiOk (Sl.es m.fm) n:=by
 have j5:∀ b,JF166_5 m (n,0) b=some false->tempiOk (Sl.es m.fm) n:=λb hb=>by
  unfold JF166_5 at hb
  obtain⟨o,ho,hb⟩:=Xa hb
  cases hb
  refine Xn (I:=λx=>0<=x.2/\(x.1=false->0<x.2->tempiOk ((Sl.es m.fm).take x.2.toNat) n)) (T:=λr=>r=false->tempiOk (Sl.es m.fm) n) ho ⟨Int.le_refl _,λ_ h=>absurd h (by simp)⟩ ?_ rfl
  rintro⟨v,k⟩ o ⟨h0,hI⟩ hb
  simp only at h0 hI hb
  unfold LF166_15 at hb
  rcases cor hb with ⟨c,hb⟩|⟨c,hb⟩
  ·have c:=of_decide_eq_true c
   have e1:wi (k+1)=k+1:=Xr (by omega) (by omega)
   obtain⟨x,hx,hb⟩:=Xa hb
   have bad:0<=wi (k+1)/\(true=false->0<wi (k+1)->tempiOk ((Sl.es m.fm).take (wi (k+1)).toNat) n):=by
    rw[e1]
    exact⟨by omega,λh=>by cases h⟩
   rcases cor hb with ⟨d,hb⟩|⟨d,hb⟩
   ·cases hb;exact bad
   have d0:=d
   obtain⟨a,ha,hb⟩:=Xa hb
   rcases cor hb with ⟨d,hb⟩|⟨d,hb⟩
   ·cases hb;exact bad
   have d:a=true:=by simpa using d
   rw[d]at ha
   obtain⟨b,hb',hb⟩:=Xa hb
   rcases cor hb with ⟨d,hb⟩|⟨d,hb⟩
   ·cases hb;exact bad
   have d:b=true:=by simpa using d
   rw[d]at hb'
   have r1:=in_of ha
   have r2:=in_of hb'
   have e2:wi (n-1)=n-1:=Xr (by omega) (by omega)
   rw[e2]at r1
   have good:(0<k->∃ y,gx (Sl.es m.fm) (k-1)=some y/\y.fAt<x.fAt)->tempiOk ((Sl.es m.fm).take (k+1).toNat) n:=λhp=>by
    intro j y hy
    have hj:=Yr hy
    rw[List.length_take]at hj
    have gt:∀ i q,i<k+1->gx ((Sl.es m.fm).take (k+1).toNat) i=some q->gx (Sl.es m.fm) i=some q:=λi q hi hq=>by
     unfold gx at hq ⊢
     split at hq
     ·rename_i hz
      rw[if_pos hz]
      rw[List.getElem?_take]at hq
      rw[if_pos (by omega)]at hq
      exact hq
     ·cases hq
    have tg:∀ i q t,i<t->gx (Sl.es m.fm) i=some q->gx ((Sl.es m.fm).take t.toNat) i=some q:=λi q t hi hq=>by
     have:=Yr hq
     unfold gx at hq ⊢
     rw[if_pos this.1]at hq ⊢
     rw[List.getElem?_take,if_pos (by omega)]
     exact hq
    have hy':=gt j y (by omega) hy
    by_cases hk:j=k
    ·subst hk
     cases hx.symm.trans hy'
     refine⟨by omega,by omega,by omega,by omega,λh=>?_⟩
     obtain⟨z,hz,hlt⟩:=hp h
     exact⟨z,tg _ _ _ (by omega) hz,hlt⟩
    ·obtain⟨q1,q2,q3,q4,q5⟩:=hI d0 (by omega) j y (tg _ _ _ (by omega) hy')
     refine⟨q1,q2,q3,q4,λh=>?_⟩
     obtain⟨z,hz,hlt⟩:=q5 h
     refine⟨z,?_,hlt⟩
     have hz':gx (Sl.es m.fm) (j-1)=some z:=by
      unfold gx at hz ⊢
      rw[if_pos (by omega)]at hz ⊢
      rw[List.getElem?_take]at hz
      split at hz
      ·exact hz
      ·cases hz
     exact tg _ _ _ (by omega) hz'
   rcases cor hb with ⟨d,hb⟩|⟨d,hb⟩
   ·obtain⟨y,hy,hb⟩:=Xa hb
    cases hb
    have d:=of_decide_eq_true d
    rw[Xr (by omega) (by omega)]at hy
    simp only[e1]
    refine⟨by omega,λh _=>good λ_=>⟨y,hy,?_⟩⟩
    have:=of_decide_eq_false h
    omega
   ·cases hb
    have d:=of_decide_eq_false d
    simp only[e1]
    exact⟨by omega,λ_ _=>good λh=>absurd h (by omega)⟩
  ·cases hb
   have c:=of_decide_eq_false c
   intro h j x hx
   have hj:=Yr hx
   simp only[ln]at c
   have:=hI h (by omega)
   rw[List.take_of_length_le (by omega)]at this
   exact this j x hx
 unfold F166 at h
 rw[hn]at h
 simp only[Option.bind_some]at h
 rcases cor h with ⟨_,h⟩|⟨_,h⟩
 ·obtain⟨a,_,h⟩:=Xa h
  rcases cor h with ⟨_,h⟩|⟨_,h⟩
  ·exact j5 _ h
  ·obtain⟨a,_,h⟩:=Xa h
   exact j5 _ h
 ·obtain⟨a,_,h⟩:=Xa h
  exact j5 _ h
end Go.Proofs.YtibndgdocbbbeaaGreat
namespace Go.Proofs.YtibndgdocbbbeaaGreat
open Go.PE Go.RowKit
set_option maxRecDepth 100000
structure MOk (m:G75):Prop where
 len:F99 m=some (lenOf m,0)
 lo:1<=lenOf m
 hi:lenOf m<=15482880
 u0:1<=m.fO.fD
 c0:1<=m.fO.fE
 c1:m.fO.fE<=64
 nt:ln m.fm<=1000
 tm:tempiOk (Sl.es m.fm) (lenOf m)
theorem all_ok {s:G27} (h0:ln s.fc<=10) (h1:∀ m∈Sl.es s.fc,ln m.fm<=1000) (hv:F14 s=some true):∀ m∈Sl.es s.fc,MOk m:=by
 obtain⟨_,_,_,_,k5,_,_,_,_,_,_,_,_,_,_,k16,_⟩:=z13 hv
 intro m hm
 obtain⟨i,hi,rfl⟩:=List.getElem_of_mem hm
 have hg:gx (Sl.es s.fc) (i:Int)=some (Sl.es s.fc)[i]:=by
  unfold gx
  rw[if_pos (by omega)]
  exact List.getElem?_eq_getElem hi
 obtain⟨n,hn⟩:=m5 (by omega) k5 _ _ hg
 obtain⟨rfl,a1,a2,a3,a4,a5,_⟩:=len_ok hn
 exact⟨hn,a1,a2,a3,a4,a5,h1 _ hm,tempi_ok (h1 _ hm) hn a1 a2 (m16 (by omega) k16 _ _ hg)⟩
def sts:Int->List G75->List Int
 |a,[]=>[a]
 |a,m::l=>a::sts (a+lenOf m) l
theorem gx_drop {α:Type} {l:List α} {i:Int} {y:α} (h:gx l i=some y):l.drop i.toNat=y::l.drop (i+1).toNat:=by
 have k:=Yr h
 unfold gx at h
 rw[if_pos k.1,List.getElem?_eq_getElem (by omega)]at h
 rw[List.drop_eq_getElem_cons (by omega),Option.some.inj h,show(i+1).toNat=i.toNat+1 by omega]
theorem gx_last {α:Type} {pre:List α} {a:α} {i:Int} (h:(pre.length:Int)=i) (l:List α):gx (pre++a::l) i=some a:=by
 subst h
 unfold gx
 rw[if_pos (by omega),Int.toNat_natCast,List.getElem?_append_right (Nat.le_refl _),Nat.sub_self]
 rfl
theorem gx_ex {α:Type} {l:List α} {i:Int} (h0:0<=i) (h1:i<l.length):∃ y,gx l i=some y/\y∈l:=by
 obtain⟨y,e,m,_⟩:=t_gx h0 h1
 exact⟨y,e,m⟩
theorem sts_head (a:Int) (l:List G75):∃ r,sts a l=a::r:=by cases l<;>exact⟨_,rfl⟩
theorem sts_gen {s:Sl G75} {B:List Int->Int->Option ((List Int×Int)⊕List Int)} (hl:ln s<=10) (ok:∀ m∈Sl.es s,MOk m)
  (hB:∀ l i m x,gx (Sl.es s) i=some m->MOk m->gx l i=some x->0<=x->x<=1000000000->i<=1000->l.length<=1000->B l i=some (.inl (l++[x+lenOf m],i+1)))
  (hE:∀ l i,¬ i<ln s->B l i=some (.inr l)):Xh (λ(x:List Int×Int)=>match x with|(l,i)=>B l i) ([0],0)=some (sts 0 (Sl.es s)):=by
 obtain⟨t,ht,rfl⟩:=Yo (body:=λ(x:List Int×Int)=>match x with|(l,i)=>B l i) (I:=λx=>∃ pre a,x.1=pre++[a]/\(pre.length:Int)=x.2/\x.2<=ln s/\0<=a/\a<=x.2*15482880/\pre++sts a ((Sl.es s).drop x.2.toNat)=sts 0 (Sl.es s))
  (μ:=λx=>(ln s-x.2).toNat) (T:=λt=>t=sts 0 (Sl.es s)) (s:=([0],0)) (by
   rintro⟨l,i⟩ ⟨pre,a,e1,e2,e3,e4,e5,e6⟩
   simp only at e1 e2 e3 e5 e6 ⊢
   by_cases c:i<ln s
   ·obtain⟨m,hm,hmm⟩:=gx_ex (l:=Sl.es s) (i:=i) (by omega) c
    have o:=ok m hmm
    have o1:=o.lo
    have o2:=o.hi
    refine .inl ⟨_,hB l i m a hm o (by rw[e1];exact gx_last e2 []) e4 (by omega) (by omega) (by rw[e1];simp;omega),⟨pre++[a],a+lenOf m,by simp[e1],by simp[e2],by simp only;omega,by omega,by simp only;omega,?_⟩,by simp only;omega⟩
    rw[gx_drop hm]at e6
    rw[<-e6]
    simp[sts]
   ·refine .inr ⟨l,hE l i c,?_⟩
    rw[List.drop_of_length_le (by simp only[ln]at c;omega)]at e6
    rw[e1]
    exact e6) ⟨[],0,rfl,rfl,Int.natCast_nonneg _,Int.le_refl _,Int.le_refl _,rfl⟩ (by simp only;omega)
 exact ht
theorem wi_u {n:Int} (h0:0<=n) (h1:n<=9223372036854775807):wi n=n:=Xr (by omega) h1
theorem gapp1 {α:Type} {b:Nat} {l:List α} {x:α} (hl:l.length<=1000000) (hb:b<=100:=by decide):gapp b l (Sl.es (Sl.full [x]))=some (l++[x]):=by
 unfold gapp
 rw[if_pos (Nat.le_trans (Nat.mul_le_mul (show l.length+(Sl.es (Sl.full [x])).length<=1000001 by simp[Sl.es];omega) hb) (by decide))]
 rfl
theorem f94 {s:G27} (hl:ln s.fc<=10) (ok:∀ m∈Sl.es s.fc,MOk m):F94 s=some (Sl.no (sts 0 (Sl.es s.fc))):=by
 unfold F94
 rw[sts_gen (s:=s.fc) hl ok (B:=LF94_10 s) ?_ ?_]
 ·rfl
 ·intro l i m x hm o hx x0 x1 hi hn
  have k:=Yr hm
  have o2:=o.hi
  have o1:=o.lo
  unfold LF94_10
  rw[show decide (i<ln s.fc)=true from decide_eq_true (by simp only[ln];omega)]
  simp only[cond_true,hm,o.len,hx,Option.bind_some]
  rw[gapp1 (by omega),wi_u (n:=x+lenOf m) (by omega) (by omega),wi_u (n:=i+1) (by omega) (by omega)]
  rfl
 ·intro l i c
  unfold LF94_10
  rw[decide_eq_false c]
  rfl
theorem f15 {s:G27} (hl:ln s.fc<=10) (ok:∀ m∈Sl.es s.fc,MOk m):F15 s=some (Sl.no (sts 0 (Sl.es s.fc))):=by
 unfold F15
 rw[sts_gen (s:=s.fc) hl ok (B:=LF15_10 s) ?_ ?_]
 ·rfl
 ·intro l i m x hm o hx x0 x1 hi hn
  have k:=Yr hm
  have o2:=o.hi
  have o1:=o.lo
  have u0:=o.u0
  have c0:=o.c0
  have c1:=o.c1
  unfold LF15_10
  rw[show decide (i<ln s.fc)=true from decide_eq_true (by simp only[ln];omega)]
  simp only[cond_true,hm,hx,Option.bind_some]
  by_cases z:m.fao=0
  ·rw[show(m.fao==0)=true from beq_iff_eq.2 z]
   have hq:gq .i64 (wi (m.fO.fE*1935360)) m.fO.fD=some (lenOf m):=by
    have e:lenOf m=m.fO.fE*1935360 / m.fO.fD:=by unfold lenOf;rw[if_pos z]
    unfold gq
    rw[if_neg (by omega),wi_u (by omega) (by omega),Int.tdiv_eq_ediv_of_nonneg (by omega),<-e]
    exact congrArg some (wi_u (by omega) (by omega))
   simp only[cond_true,hq,Option.bind_some]
   rw[gapp1 (by omega),wi_u (n:=x+lenOf m) (by omega) (by omega),wi_u (n:=i+1) (by omega) (by omega)]
   rfl
  ·rw[show(m.fao==0)=false from beq_eq_false_iff_ne.2 z]
   have e:m.fao=lenOf m:=by unfold lenOf;rw[if_neg z]
   simp only[cond_false]
   rw[e,gapp1 (by omega),wi_u (n:=x+lenOf m) (by omega) (by omega),wi_u (n:=i+1) (by omega) (by omega)]
   rfl
 ·intro l i c
  unfold LF15_10
  rw[decide_eq_false c]
  rfl
def tms:Int->List G75->List (Int×Int×Bool)
 |_,[]=>[]
 |a,m::l=>(Sl.es m.fm).map (λx=>(a+x.fAt,x.faq,x.faw))++tms (a+lenOf m) l
theorem map_loop {α β:Type} {es:List β} (f:β->α) {B:List α->Int->Option ((List α×Int)⊕List α)} (l0:List α) (hl:es.length<=1000)
  (hB:∀ l j x,gx es j=some x->l.length<=l0.length+1000->j<=1000->B l j=some (.inl (l++[f x],j+1)))
  (hE:∀ l j,¬ j<(es.length:Int)->B l j=some (.inr l)):Xh (λ(x:List α×Int)=>match x with|(l,j)=>B l j) (l0,0)=some (l0++es.map f):=by
 obtain⟨t,ht,rfl⟩:=Yo (body:=λ(x:List α×Int)=>match x with|(l,i)=>B l i) (I:=λx=>0<=x.2/\x.2<=es.length/\(x.1.length:Int)=l0.length+x.2/\x.1++(es.drop x.2.toNat).map f=l0++es.map f)
  (μ:=λx=>((es.length:Int)-x.2).toNat) (T:=λt=>t=l0++es.map f) (s:=(l0,0)) (by
   rintro⟨l,i⟩ ⟨e1,e2,e3,e4⟩
   simp only at e1 e2 e3 e4 ⊢
   by_cases c:i<(es.length:Int)
   ·obtain⟨m,hm,hmm⟩:=gx_ex (l:=es) (i:=i) e1 c
    refine .inl ⟨_,hB l i m hm (by omega) (by omega),⟨by simp only;omega,by simp only;omega,by simp;omega,?_⟩,by simp only;omega⟩
    rw[gx_drop hm]at e4
    rw[<-e4]
    simp
   ·refine .inr ⟨l,hE l i c,?_⟩
    rw[List.drop_of_length_le (by omega)]at e4
    simpa using e4) ⟨Int.le_refl _,Int.natCast_nonneg _,by simp,rfl⟩ (by simp only;omega)
 exact ht
theorem tms_gen {α:Type} {Ms:List G75} (g:Int×Int×Bool->α) {B:List α->Int->Option ((List α×Int)⊕List α)} (l0:List α) (h0:l0.length<=10) (hl:Ms.length<=10) (ok:∀ m∈Ms,MOk m)
  (hB:∀ l i m a,gx Ms i=some m->MOk m->gx (sts 0 Ms) i=some a->0<=a->a<=1000000000->i<=1000->l.length<=100000->B l i=some (.inl (l++(Sl.es m.fm).map (λx=>g (a+x.fAt,x.faq,x.faw)),i+1)))
  (hE:∀ l i,¬ i<(Ms.length:Int)->B l i=some (.inr l)):Xh (λ(x:List α×Int)=>match x with|(l,i)=>B l i) (l0,0)=some (l0++(tms 0 Ms).map g):=by
 obtain⟨t,ht,rfl⟩:=Yo (body:=λ(x:List α×Int)=>match x with|(l,i)=>B l i) (I:=λx=>∃ pre a,(pre.length:Int)=x.2/\x.2<=Ms.length/\0<=a/\a<=x.2*15482880/\pre++sts a (Ms.drop x.2.toNat)=sts 0 Ms/\(x.1.length:Int)<=10+x.2*1000/\x.1++(tms a (Ms.drop x.2.toNat)).map g=l0++(tms 0 Ms).map g)
  (μ:=λx=>((Ms.length:Int)-x.2).toNat) (T:=λt=>t=l0++(tms 0 Ms).map g) (s:=(l0,0)) (by
   rintro⟨l,i⟩ ⟨pre,a,e2,e3,e4,e5,e6,e7,e8⟩
   simp only at e2 e3 e5 e6 e7 e8 ⊢
   by_cases c:i<(Ms.length:Int)
   ·obtain⟨m,hm,hmm⟩:=gx_ex (l:=Ms) (i:=i) (by omega) c
    have o:=ok m hmm
    have o1:=o.lo
    have o2:=o.hi
    have o3:=o.nt
    simp only[ln]at o3
    obtain⟨r,hr⟩:=sts_head a (Ms.drop i.toNat)
    have hg:gx (sts 0 Ms) i=some a:=by
     rw[<-e6,hr]
     exact gx_last e2 r
    rw[gx_drop hm]at e6 e8
    refine .inl ⟨_,hB l i m a hm o hg e4 (by omega) (by omega) (by omega),⟨pre++[a],a+lenOf m,by simp[e2],by simp only;omega,by omega,by simp only;omega,?_,by simp;omega,?_⟩,by simp only;omega⟩
    ·rw[<-e6]
     simp[sts]
    ·rw[<-e8]
     simp[tms,Function.comp_def]
   ·refine .inr ⟨l,hE l i c,?_⟩
    rw[List.drop_of_length_le (by omega)]at e8
    simpa [tms] using e8) ⟨[],0,rfl,Int.natCast_nonneg _,Int.le_refl _,Int.le_refl _,rfl,by simp only;omega,rfl⟩ (by simp only;omega)
 exact ht
end Go.Proofs.YtibndgdocbbbeaaGreat
namespace Go.Proofs.YtibndgdocbbbeaaGreat
open Go.PE Go.RowKit
set_option maxRecDepth 100000
def gP' (x:Int×Int×Bool):G173:=⟨x.1,x.2.1,x.2.2⟩
def gM' (x:Int×Int×Bool):G108:=⟨x.1,x.2.1,x.2.2⟩
theorem at_lo {m:G75} (o:MOk m) {j:Int} {x:G111} (h:gx (Sl.es m.fm) j=some x):0<=x.fAt/\x.fAt<=15482880:=by
 have k:=o.tm j x h
 have:=o.hi
 exact⟨k.1,by omega⟩
theorem f39 {s:G27} (hl:ln s.fc<=10) (ok:∀ m∈Sl.es s.fc,MOk m) (hv:F14 s=some true):F39 s=some (Sl.no (⟨-1,500000,false⟩::(tms 0 (Sl.es s.fc)).map gP'),Sl.no (sts 0 (Sl.es s.fc))):=by
 have e47:F47 s=some (Sl.no (sts 0 (Sl.es s.fc)),0):=by
  unfold F47
  rw[hv]
  simp only[Option.bind_some,Bool.not_true,cond_false]
  rw[f94 hl ok]
  rfl
 unfold F39
 rw[e47]
 simp only[Option.bind_some]
 rw[tms_gen (Ms:=Sl.es s.fc) gP' [⟨-1,500000,false⟩] (by simp) (by simp only[ln]at hl;omega) ok (B:=LF39_12 s (Sl.no (sts 0 (Sl.es s.fc)),0)) ?_ ?_]
 ·rfl
 ·intro l i m a hm o ha a0 a1 hi hn
  have k:=Yr hm
  have o3:=o.nt
  simp only[ln]at o3
  unfold LF39_12
  rw[show decide (i<ln s.fc)=true from decide_eq_true (by simp only[ln];omega)]
  simp only[cond_true,hm,Option.bind_some]
  rw[map_loop (es:=Sl.es m.fm) (λx=>gP' (a+x.fAt,x.faq,x.faw)) l (by omega) (B:=LF39_25 m (Sl.no (sts 0 (Sl.es s.fc)),0) i) ?_ ?_]
  ·simp only[Option.bind_some]
   unfold JF39_15
   rw[wi_u (n:=i+1) (by omega) (by omega)]
  ·intro l j x hx hl hj
   have kx:=at_lo o hx
   have kj:=Yr hx
   unfold LF39_25
   rw[show decide (j<ln m.fm)=true from decide_eq_true (by simp only[ln];omega)]
   have ha':gx (Sl.es (Sl.no (sts 0 (Sl.es s.fc)))) i=some a:=ha
   simp only[cond_true,hx,ha',Option.bind_some]
   rw[gapp1 (by omega),wi_u (n:=a+x.fAt) (by omega) (by omega),wi_u (n:=j+1) (by omega) (by omega)]
   rfl
  ·intro l j c
   unfold LF39_25
   rw[show decide (j<ln m.fm)=false from decide_eq_false (by simp only[ln];omega)]
   rfl
 ·intro l i c
  unfold LF39_12
  rw[show decide (i<ln s.fc)=false from decide_eq_false (by simp only[ln];omega)]
  rfl
theorem f18 {s:G27} (hl:ln s.fc<=10) (ok:∀ m∈Sl.es s.fc,MOk m):F18 s (Sl.no (sts 0 (Sl.es s.fc)))=some (mkSl ((tms 0 (Sl.es s.fc)).map gM')):=by
 unfold F18
 rw[tms_gen (Ms:=Sl.es s.fc) gM' [] (by simp) (by simp only[ln]at hl;omega) ok (B:=LF18_11 s (Sl.no (sts 0 (Sl.es s.fc)))) ?_ ?_]
 ·rfl
 ·intro l i m a hm o ha a0 a1 hi hn
  have k:=Yr hm
  have o3:=o.nt
  simp only[ln]at o3
  unfold LF18_11
  rw[show decide (i<ln s.fc)=true from decide_eq_true (by simp only[ln];omega)]
  simp only[cond_true]
  rw[map_loop (es:=Sl.es m.fm) (λx=>gM' (a+x.fAt,x.faq,x.faw)) l (by omega) (B:=LF18_22 s i (Sl.no (sts 0 (Sl.es s.fc)))) ?_ ?_]
  ·simp only[Option.bind_some]
   unfold JF18_14
   rw[wi_u (n:=i+1) (by omega) (by omega)]
  ·intro l j x hx hl hj
   have kx:=at_lo o hx
   have kj:=Yr hx
   unfold LF18_22
   have ha':gx (Sl.es (Sl.no (sts 0 (Sl.es s.fc)))) i=some a:=ha
   simp only[hm,Option.bind_some]
   rw[show decide (j<ln m.fm)=true from decide_eq_true (by simp only[ln];omega)]
   simp only[cond_true,hx,ha',Option.bind_some]
   rw[gapp1 (by omega),wi_u (n:=a+x.fAt) (by omega) (by omega),wi_u (n:=j+1) (by omega) (by omega)]
   rfl
  ·intro l j c
   unfold LF18_22
   simp only[hm,Option.bind_some]
   rw[show decide (j<ln m.fm)=false from decide_eq_false (by simp only[ln];omega)]
   rfl
 ·intro l i c
  unfold LF18_11
  rw[show decide (i<ln s.fc)=false from decide_eq_false (by simp only[ln];omega)]
  rfl
theorem tms_all {Ms:List G75} (ok:∀ m∈Ms,MOk m) (a:Int):(∀ y∈tms a Ms,a<=y.1/\y.1<a+15482880*Ms.length/\1<=y.2.1/\y.2.1<=60000000)/\(tms a Ms).Pairwise (λx y=>x.1<y.1)/\((tms a Ms).length:Int)<=1000*Ms.length:=by
 induction Ms generalizing a with
 |nil=>exact⟨λy hy=>by simp[tms]at hy,List.Pairwise.nil,by simp[tms]⟩
 |cons m l ih=>
  obtain⟨i1,i2,i3⟩:=ih (λx hx=>ok x (List.mem_cons_of_mem _ hx)) (a+lenOf m)
  have o:=ok m (List.mem_cons_self ..)
  have o1:=o.lo
  have o2:=o.hi
  have o3:=o.nt
  simp only[ln]at o3
  have hx:∀ x∈Sl.es m.fm,0<=x.fAt/\x.fAt<=lenOf m-1/\1<=x.faq/\x.faq<=60000000:=λx hx=>by
   obtain⟨i,hi,rfl⟩:=List.getElem_of_mem hx
   have:=o.tm (i:Int) _ (by unfold gx;rw[if_pos (by omega)];exact List.getElem?_eq_getElem hi)
   exact⟨this.1,this.2.1,this.2.2.1,this.2.2.2.1⟩
  have hp:(Sl.es m.fm).Pairwise (λx y=>x.fAt<y.fAt):=by
   have step:∀ (i:Nat) (hi:i+1<(Sl.es m.fm).length),((Sl.es m.fm)[i]'(by omega)).fAt<((Sl.es m.fm)[i+1]'hi).fAt:=λi hi=>by
    obtain⟨y,hy,hlt⟩:=(o.tm ((i+1:Nat):Int) _ (by unfold gx;rw[if_pos (by omega)];exact List.getElem?_eq_getElem hi)).2.2.2.2 (by omega)
    unfold gx at hy
    rw[if_pos (by omega),show(((i+1:Nat):Int)-1).toNat=i by omega,List.getElem?_eq_getElem (by omega)]at hy
    rw[Option.some.inj hy]
    exact hlt
   rw[List.pairwise_iff_getElem]
   intro i j hi hj hij
   induction j with
   |zero=>omega
   |succ j ihj=>
    by_cases e:i=j
    ·subst e;exact step i hj
    ·exact Int.lt_trans (ihj (by omega) (by omega)) (step j hj)
  refine⟨λy hy=>?_,?_,?_⟩
  ·rw[tms,List.mem_append,List.mem_map]at hy
   rw[List.length_cons]
   rcases hy with ⟨x,h,rfl⟩|h
   ·have:=hx x h
    simp only
    omega
   ·have:=i1 y h
    omega
  ·rw[tms,List.pairwise_append]
   refine⟨?_,i2,?_⟩
   ·rw[List.pairwise_map]
    exact hp.imp λh=>by simp only;omega
   ·intro x h y k
    rw[List.mem_map]at h
    obtain⟨z,h,rfl⟩:=h
    have:=hx z h
    have:=i1 y k
    simp only
    omega
  ·rw[tms,List.length_append,List.length_map,List.length_cons]
   omega
end Go.Proofs.YtibndgdocbbbeaaGreat
namespace Go.Proofs.YtibndgdocbbbeaaGreat
open Go.PE Go.RowKit
set_option maxRecDepth 100000
theorem half {n:Int} (h0:0<=n) (h1:n<=1000000000):wi (Int.fdiv (IntKind.wrap .u64 (wi n)) (2^1))=n / 2:=by
 have e:IntKind.wrap .u64 n=n:=by
  show n%18446744073709551616=n
  exact Int.emod_eq_of_lt h0 (by omega)
 rw[wi_u (n:=n) h0 (by omega),e,Int.fdiv_eq_ediv_of_nonneg _ (by decide)]
 show wi (n / 2)=n / 2
 exact wi_u (by omega) (by omega)
theorem search {M:Sl G173} {v:Int} (hl:ln M<=1000000) (hs:∀ j k x y,j<k->gx (Sl.es M) j=some x->gx (Sl.es M) k=some y->x.fL<y.fL):
  ∃ i,F89_1 (ln M) M v=some i/\0<=i/\i<=ln M/\(∀ j x,j<i->gx (Sl.es M) j=some x->x.fL<=v)/\∀ j x,i<=j->gx (Sl.es M) j=some x->v<x.fL:=by
 have key:=Yo (body:=λ(x:Int×Int)=>match x with|(i,j)=>LF89_1_12 M v i j) (I:=λx=>0<=x.1/\x.1<=x.2/\x.2<=ln M/\(∀ j x',j<x.1->gx (Sl.es M) j=some x'->x'.fL<=v)/\∀ j x',x.2<=j->gx (Sl.es M) j=some x'->v<x'.fL)
  (μ:=λx=>(x.2-x.1).toNat) (T:=λi=>0<=i/\i<=ln M/\(∀ j x,j<i->gx (Sl.es M) j=some x->x.fL<=v)/\∀ j x,i<=j->gx (Sl.es M) j=some x->v<x.fL) (s:=(0,ln M)) (by
   rintro⟨i,j⟩ ⟨e1,e2,e3,e4,e5⟩
   simp only at e1 e2 e3 e4 e5 ⊢
   unfold LF89_1_12
   by_cases c:i<j
   ·rw[decide_eq_true c]
    simp only[cond_true]
    rw[half (n:=i+j) (by omega) (by omega)]
    obtain⟨x,hx⟩:=gx_at (l:=Sl.es M) (i:=(i+j) / 2) (by omega) (by simp only[ln]at e3;omega)
    have hF:F90_1 ((i+j) / 2) M v=some (decide (x.fL>v)):=by
     unfold F90_1
     rw[hx]
     rfl
    rw[hF]
    simp only[Option.bind_some]
    by_cases d:x.fL>v
    ·rw[decide_eq_true d]
     refine .inl ⟨_,rfl,⟨e1,by simp only;omega,by simp only;omega,e4,?_⟩,by simp only;omega⟩
     simp only
     intro k y hk hy
     by_cases e:k=(i+j) / 2
     ·subst e;cases hx.symm.trans hy;omega
     ·have:=hs _ _ _ _ (show(i+j) / 2<k by omega) hx hy
      omega
    ·rw[decide_eq_false d]
     rw[wi_u (n:=(i+j) / 2+1) (by omega) (by omega)]
     refine .inl ⟨_,rfl,⟨by simp only;omega,by simp only;omega,e3,?_,e5⟩,by simp only;omega⟩
     simp only
     intro k y hk hy
     by_cases e:k=(i+j) / 2
     ·subst e;cases hx.symm.trans hy;omega
     ·have:=hs _ _ _ _ (show k<(i+j) / 2 by omega) hy hx
      omega
   ·rw[decide_eq_false c]
    have e:i=j:=by omega
    subst e
    exact .inr ⟨i,rfl,e1,e3,e4,e5⟩) ⟨Int.le_refl _,Int.natCast_nonneg _,Int.le_refl _,λj x a hx=>by have:=(Yr hx).1;simp only at a;omega,λj x a hx=>by have:=(Yr hx).2;simp only[ln]at a;omega⟩ (by simp only;omega)
 obtain⟨i,hi,r⟩:=key
 refine⟨i,?_,r⟩
 unfold F89_1
 rw[hi]
 rfl
theorem last {T:Sl G108} {v:Int} (hl:ln T<=1000000):
  ∃ k,Xh (λ(x:Int×Int)=>match x with|(a,b)=>LF17_33 T v false a b) (-1,0)=some k/\-1<=k/\k<ln T/\(0<=k->∃ x,gx (Sl.es T) k=some x/\x.fat<=v)/\∀ j x,k<j->gx (Sl.es T) j=some x->v<x.fat:=by
 refine Yo (body:=λ(x:Int×Int)=>match x with|(i,j)=>LF17_33 T v false i j) (I:=λx=>-1<=x.1/\x.1<x.2/\x.2<=ln T/\(0<=x.1->∃ y,gx (Sl.es T) x.1=some y/\y.fat<=v)/\∀ j y,x.1<j->j<x.2->gx (Sl.es T) j=some y->v<y.fat)
  (μ:=λx=>(ln T-x.2).toNat) (T:=λk=>-1<=k/\k<ln T/\(0<=k->∃ x,gx (Sl.es T) k=some x/\x.fat<=v)/\∀ j x,k<j->gx (Sl.es T) j=some x->v<x.fat) (s:=(-1,0)) ?_ ⟨Int.le_refl _,by simp only;omega,Int.natCast_nonneg _,λh=>absurd h (by simp),λj y a b=>by simp only at a b;omega⟩ (by simp only;omega)
 rintro⟨i,j⟩ ⟨e1,e2,e3,e4,e5⟩
 simp only at e1 e2 e3 e4 e5 ⊢
 unfold LF17_33
 by_cases c:j<ln T
 ·rw[decide_eq_true c]
  obtain⟨x,hx⟩:=gx_at (l:=Sl.es T) (i:=j) (by omega) (by simp only[ln]at c;omega)
  simp only[cond_true,hx,Option.bind_some]
  have w:=wi_u (n:=j+1) (by omega) (by omega)
  have yes:x.fat<=v->-1<=j/\j<j+1/\j+1<=ln T/\(0<=j->∃ y,gx (Sl.es T) j=some y/\y.fat<=v)/\∀ k y,j<k->k<j+1->gx (Sl.es T) k=some y->v<y.fat:=λh=>⟨by omega,by omega,by omega,λ_=>⟨x,hx,h⟩,λk y a b=>by omega⟩
  by_cases d:x.fat<v
  ·rw[decide_eq_true d]
   refine .inl ⟨(j,j+1),by simp only[cond_true,JF17_38,JF17_36,w],yes (by omega),by simp only;omega⟩
  ·rw[decide_eq_false d]
   simp only[cond_false]
   by_cases e:x.fat=v
   ·rw[show(x.fat==v)=true from beq_iff_eq.2 e]
    refine .inl ⟨(j,j+1),by simp only[cond_true,Bool.not_false,JF17_38,JF17_36,w],yes (by omega),by simp only;omega⟩
   ·rw[show(x.fat==v)=false from beq_eq_false_iff_ne.2 e]
    refine .inl ⟨(i,j+1),by simp only[cond_false,JF17_38,JF17_36,w],⟨e1,by simp only;omega,by simp only;omega,e4,?_⟩,by simp only;omega⟩
    simp only
    intro k y a b hy
    by_cases f:k=j
    ·subst f;cases hx.symm.trans hy;omega
    ·exact e5 k y a (by omega) hy
 ·rw[decide_eq_false c]
  refine .inr ⟨i,rfl,e1,by omega,e4,λk y a hy=>e5 k y a ?_ hy⟩
  have:=(Yr hy).2
  simp only[ln]at c
  omega
theorem u64_id {n:Int} (h0:0<=n) (h1:n<18446744073709551616):IntKind.wrap .u64 n=n:=by
 show n%18446744073709551616=n
 exact Int.emod_eq_of_lt h0 h1
theorem iand_mask {n:Int} (h0:0<=n) (h1:n<18446744073709551616):iand .u64 n 4294967295=n%4294967296:=by
 obtain⟨k,rfl⟩:=Int.eq_ofNat_of_zero_le h0
 have e:(BitVec.ofInt 64 (k:Int) &&& BitVec.ofInt 64 4294967295).toNat=k%4294967296:=by
  rw[BitVec.toNat_and]
  have a:(BitVec.ofInt 64 (k:Int)).toNat=k:=by
   rw[BitVec.ofInt_natCast,BitVec.toNat_ofNat]
   omega
  have b:(BitVec.ofInt 64 4294967295).toNat=2^32-1:=by decide
  rw[a,b,Nat.and_two_pow_sub_one_eq_mod]
 show IntKind.wrap .u64 ((BitVec.ofInt 64 (k:Int) &&& BitVec.ofInt 64 4294967295).toNat:Int)=_
 rw[e,u64_id (by omega) (by omega)]
 omega
theorem f91 {x y:Int} (x0:0<=x) (x1:x<4294967296) (y0:0<=y) (y1:y<4294967296):F91 x y=some (0,x*y):=by
 have p0:0<=x*y:=Int.mul_nonneg x0 y0
 have p1:x*y<=4294967295*4294967295:=Int.mul_le_mul (by omega) (by omega) y0 (by omega)
 have dx:Int.fdiv x (2^32)=0:=by rw[Int.fdiv_eq_ediv_of_nonneg _ (by decide)];exact Int.ediv_eq_zero_of_lt x0 (by omega)
 have dy:Int.fdiv y (2^32)=0:=by rw[Int.fdiv_eq_ediv_of_nonneg _ (by decide)];exact Int.ediv_eq_zero_of_lt y0 (by omega)
 have ax:iand .u64 x 4294967295=x:=by rw[iand_mask x0 (by omega)];exact Int.emod_eq_of_lt x0 x1
 have ay:iand .u64 y 4294967295=y:=by rw[iand_mask y0 (by omega)];exact Int.emod_eq_of_lt y0 y1
 have w0:IntKind.wrap .u64 0=0:=by decide
 have wp:IntKind.wrap .u64 (x*y)=x*y:=u64_id p0 (by omega)
 have dp:Int.fdiv (x*y) (2^32)=x*y / 4294967296:=by rw[Int.fdiv_eq_ediv_of_nonneg _ (by decide)];rfl
 have q0:0<=x*y / 4294967296:=by omega
 have q1:x*y / 4294967296<4294967296:=by omega
 have wq:IntKind.wrap .u64 (x*y / 4294967296)=x*y / 4294967296:=u64_id q0 (by omega)
 have dq:Int.fdiv (x*y / 4294967296) (2^32)=0:=by rw[Int.fdiv_eq_ediv_of_nonneg _ (by decide)];exact Int.ediv_eq_zero_of_lt q0 (by omega)
 have aq:iand .u64 (x*y / 4294967296) 4294967295=x*y / 4294967296:=by rw[iand_mask q0 (by omega)];exact Int.emod_eq_of_lt q0 q1
 unfold F91
 rw[dx,dy,ax,ay]
 simp only[Int.zero_mul,Int.mul_zero,w0,wp,dp,Int.zero_add,Int.add_zero,wq,dq,aq]
def valAt (p q n t:Int):Int:=if q>=p then p+(q-p)*t / n else if (p-q)*t%n>0 then p-((p-q)*t / n+1)else p-(p-q)*t / n
theorem mul_lim {a t:Int} (a0:0<=a) (a1:a<=60000000) (t0:0<=t) (t1:t<=1000000000):0<=a*t/\a*t<=60000000000000000:=⟨Int.mul_nonneg a0 t0,by
 have:=Int.mul_le_mul a1 t1 t0 (by omega)
 omega⟩
theorem f42 {p q n t:Int} (p0:1<=p) (p1:p<=60000000) (q0:1<=q) (q1:q<=60000000) (n0:1<=n) (n1:n<=1000000000) (t0:0<=t) (t1:t<=1000000000):F42 p q n t=some (valAt p q n t):=by
 have w1:=Xr (n:=p-q) (by omega) (by omega)
 have w2:=Xr (n:=q-p) (by omega) (by omega)
 have fin:∀ a:Int,0<=a->a<=60000000->F92 0 (a*t) n=some (a*t / n,a*t%n)/\0<=a*t / n/\a*t / n<=60000000000000000/\0<=a*t%n:=λa a0 a1=>by
  obtain⟨m0,m1⟩:=mul_lim a0 a1 t0 t1
  refine⟨?_,Int.ediv_nonneg m0 (by omega),?_,Int.emod_nonneg _ (by omega)⟩
  ·unfold F92
   rw[decide_eq_true rfl,decide_eq_true m0,decide_eq_true (show a*t<18446744073709551616 by omega),decide_eq_true (show 0<n by omega),decide_eq_true (show n<18446744073709551616 by omega)]
   rfl
  ·have:=Int.ediv_le_self n m0
   omega
 unfold F42 valAt
 by_cases c:q>=p
 ·have e:(if wi (p-q)>wi (q-p)then wi (p-q)else wi (q-p))=q-p:=by
   rw[w1,w2]
   split<;>omega
  obtain⟨g1,g2,g3,g4⟩:=fin (q-p) (by omega) (by omega)
  rw[e,u64_id (n:=q-p) (by omega) (by omega),u64_id (n:=t) (by omega) (by omega),u64_id (n:=n) (by omega) (by omega),f91 (by omega) (by omega) t0 (by omega)]
  simp only[Option.bind_some]
  rw[g1]
  simp only[Option.bind_some]
  rw[decide_eq_true c,if_pos c,cond_true,wi_u (n:=(q-p)*t / n) g2 (by omega),wi_u (n:=p+_) (by omega) (by omega)]
 ·have e:(if wi (p-q)>wi (q-p)then wi (p-q)else wi (q-p))=p-q:=by
   rw[w1,w2]
   split<;>omega
  obtain⟨g1,g2,g3,g4⟩:=fin (p-q) (by omega) (by omega)
  rw[e,u64_id (n:=p-q) (by omega) (by omega),u64_id (n:=t) (by omega) (by omega),u64_id (n:=n) (by omega) (by omega),f91 (by omega) (by omega) t0 (by omega)]
  simp only[Option.bind_some]
  rw[g1]
  simp only[Option.bind_some]
  rw[decide_eq_false c,if_neg c,cond_false]
  by_cases d:(p-q)*t%n>0
  ·rw[decide_eq_true d,if_pos d,cond_true,u64_id (n:=(p-q)*t / n+1) (by omega) (by omega),wi_u (n:=(p-q)*t / n+1) (by omega) (by omega),Xr (n:=p-_) (by omega) (by omega)]
  ·rw[decide_eq_false d,if_neg d,cond_false,wi_u (n:=(p-q)*t / n) g2 (by omega),Xr (n:=p-_) (by omega) (by omega)]
theorem f40v {p q n t:Int} (p0:1<=p) (p1:p<=60000000) (q0:1<=q) (q1:q<=60000000) (n0:1<=n) (n1:n<=1000000000) (t0:0<=t) (t1:t<=1000000000):
  (((gq .i64 (wi ((wi (q-p))*(wi t))) (wi n))).bind λv10=>((gr (wi ((wi (q-p))*(wi t))) (wi n))).bind λv12=>bif (decide (v12<(0)))then (some (wi (p+(wi (v10-(1))))))else (some (wi (p+v10))))=some (valAt p q n t):=by
 rw[wi_u (n:=t) t0 (by omega),wi_u (n:=n) (by omega) (by omega),Xr (n:=q-p) (by omega) (by omega)]
 have nz:¬ n=0:=by omega
 unfold gq gr valAt
 rw[if_neg nz,if_neg nz]
 simp only[Option.bind_some]
 by_cases c:q>=p
 ·obtain⟨m0,m1⟩:=mul_lim (a:=q-p) (by omega) (by omega) t0 t1
  have g:=Int.ediv_le_self n m0
  have g2:=Int.ediv_nonneg m0 (show 0<=n by omega)
  have g4:=Int.emod_nonneg ((q-p)*t) nz
  rw[if_pos c,wi_u (n:=(q-p)*t) m0 (by omega),Int.tdiv_eq_ediv_of_nonneg m0,Int.tmod_eq_emod_of_nonneg m0,decide_eq_false (show ¬ (q-p)*t%n<0 by omega),cond_false]
  have e:IntKind.i64.wrap ((q-p)*t / n)=(q-p)*t / n:=wi_u g2 (by omega)
  rw[e,wi_u (n:=p+_) (by omega) (by omega)]
 ·obtain⟨m0,m1⟩:=mul_lim (a:=p-q) (by omega) (by omega) t0 t1
  have g:=Int.ediv_le_self n m0
  have g2:=Int.ediv_nonneg m0 (show 0<=n by omega)
  have g4:=Int.emod_nonneg ((p-q)*t) nz
  have en:(q-p)*t=-((p-q)*t):=by rw[<-Int.neg_mul];congr 1;omega
  rw[if_neg c,en,Xr (n:=-((p-q)*t)) (by omega) (by omega),Int.neg_tdiv,Int.neg_tmod,Int.tdiv_eq_ediv_of_nonneg m0,Int.tmod_eq_emod_of_nonneg m0]
  have e:IntKind.i64.wrap (-((p-q)*t / n))=-((p-q)*t / n):=Xr (by omega) (by omega)
  rw[e]
  by_cases d:(p-q)*t%n>0
  ·rw[if_pos d,decide_eq_true (show -((p-q)*t%n)<0 by omega),cond_true,Xr (n:=-((p-q)*t / n)-1) (by omega) (by omega),Xr (n:=p+_) (by omega) (by omega)]
   exact congrArg some (by omega)
  ·rw[if_neg d,decide_eq_false (show ¬ -((p-q)*t%n)<0 by omega),cond_false,Xr (n:=p+_) (by omega) (by omega)]
   exact congrArg some (by omega)
end Go.Proofs.YtibndgdocbbbeaaGreat
namespace Go.Proofs.YtibndgdocbbbeaaGreat
open Go.PE Go.RowKit
set_option maxRecDepth 100000
theorem gx_map {α β:Type} (f:α->β) (l:List α) (i:Int):gx (l.map f) i=(gx l i).map f:=by
 unfold gx
 split
 ·rw[List.getElem?_map]
 ·rfl
theorem gx_succ {α:Type} (a:α) (l:List α) {i:Int} (h:0<=i):gx (a::l) (i+1)=gx l i:=by
 unfold gx
 rw[if_pos h,if_pos (by omega),show(i+1).toNat=i.toNat+1 by omega,List.getElem?_cons_succ]
theorem at_eq {L:List (Int×Int×Bool)} (hb:∀ y∈L,0<=y.1/\y.1<=1000000000/\1<=y.2.1/\y.2.1<=60000000) (hp:L.Pairwise (λx y=>x.1<y.1)) (hl:(L.length:Int)<=100000) {v:Int} (v0:0<=v) (v1:v<=1000000000):
  ∃ i r,F41 (Sl.no (⟨-1,500000,false⟩::L.map gP')) v=some i/\F40 (Sl.no (⟨-1,500000,false⟩::L.map gP')) i v=some r/\F17 (mkSl (L.map gM')) v false=some r:=by
 generalize hM:Sl.no ((⟨-1,500000,false⟩:G173)::L.map gP')=M
 generalize hT:mkSl (L.map gM')=T
 have eM:Sl.es M=⟨-1,500000,false⟩::L.map gP':=by rw[<-hM];rfl
 have eT:Sl.es T=L.map gM':=by rw[<-hT];exact mkSl_es _
 have lM:ln M=L.length+1:=by simp[ln,eM]
 have lT:ln T=L.length:=by simp[ln,eT]
 have M0:gx (Sl.es M) 0=some ⟨-1,500000,false⟩:=by rw[eM];rfl
 have MS:∀ {j:Int},0<=j->gx (Sl.es M) (j+1)=(gx L j).map gP':=λh=>by rw[eM,gx_succ _ _ h,gx_map]
 have TS:∀ {j:Int},gx (Sl.es T) j=(gx L j).map gM':=by rw[eT];exact gx_map _ _ _
 have lt:∀ {j k:Int} {x y},j<k->gx L j=some x->gx L k=some y->x.1<y.1:=λ{j k x y} h hx hy=>by
  have a:=Yr hx
  have b:=Yr hy
  unfold gx at hx hy
  rw[if_pos a.1,List.getElem?_eq_getElem (by omega)]at hx
  rw[if_pos b.1,List.getElem?_eq_getElem (by omega)]at hy
  rw[<-Option.some.inj hx,<-Option.some.inj hy]
  exact List.pairwise_iff_getElem.1 hp _ _ _ _ (by omega)
 have sM:∀ j k x y,j<k->gx (Sl.es M) j=some x->gx (Sl.es M) k=some y->x.fL<y.fL:=λj k x y h hx hy=>by
  have a:=Yr hx
  have ey:∃ z,gx L (k-1)=some z/\y=gP' z:=by
   rw[show k=(k-1)+1 by omega,MS (by omega)]at hy
   obtain⟨z,hz,rfl⟩:=Option.map_eq_some_iff.1 hy
   exact⟨z,hz,rfl⟩
  obtain⟨z,hz,rfl⟩:=ey
  by_cases c:j=0
  ·subst c
   cases M0.symm.trans hx
   have:=(hb z (gx_mem hz)).1
   show(-1:Int)<z.1
   omega
  ·rw[show j=(j-1)+1 by omega,MS (by omega)]at hx
   obtain⟨w,hw,rfl⟩:=Option.map_eq_some_iff.1 hx
   exact lt (by omega) hw hz
 obtain⟨i,hi,i0,i1,iB,iA⟩:=search (M:=M) (v:=v) (by omega) sM
 obtain⟨k,hk,k0,k1,kB,kA⟩:=last (T:=T) (v:=v) (by omega)
 have ik:i=k+2:=by
  have a1:k+1<i:=by
   by_cases c:0<=k
   ·obtain⟨x,hx,hv⟩:=kB c
    rw[TS]at hx
    obtain⟨y,hy,rfl⟩:=Option.map_eq_some_iff.1 hx
    by_cases d:k+1<i
    ·exact d
    ·have:=iA (k+1) (gP' y) (by omega) (by rw[MS c,hy];rfl)
     have e:y.1<=v:=hv
     have f:v<y.1:=this
     omega
   ·by_cases d:k+1<i
    ·exact d
    ·have:=iA 0 _ (by omega) M0
     simp only at this
     omega
  have a2:¬ k+2<i:=λc=>by
   obtain⟨y,hy⟩:=gx_at (l:=L) (i:=k+1) (by omega) (by omega)
   have e:y.1<=v:=iB (k+2) (gP' y) c (by rw[show k+2=(k+1)+1 by omega,MS (by omega),hy];rfl)
   have f:v<y.1:=kA (k+1) (gM' y) (by omega) (by rw[TS,hy];rfl)
   omega
  omega
 have h41:F41 M v=some (k+1):=by
  unfold F41
  rw[hi]
  simp only[Option.bind_some]
  rw[wi_u (n:=i-1) (by omega) (by omega)]
  exact congrArg some (by omega)
 have h17:∀ r,JF17_4 T v k=some r->F17 T v false=some r:=λr h=>by
  unfold F17
  rw[hk]
  exact h
 refine⟨k+1,?_⟩
 suffices h:∃ r,F40 M (k+1) v=some r/\JF17_4 T v k=some r by
  obtain⟨r,a,b⟩:=h
  exact⟨r,h41,a,h17 r b⟩
 by_cases c:k<0
 ·refine⟨500000,?_,?_⟩
  ·unfold F40
   rw[show k+1=0 by omega,M0]
   rfl
  ·unfold JF17_4
   rw[decide_eq_true c]
   rfl
 ·obtain⟨y,hy⟩:=gx_at (l:=L) (i:=k) (by omega) (by omega)
  have by':=hb y (gx_mem hy)
  have My:gx (Sl.es M) (k+1)=some (gP' y):=by rw[MS (by omega),hy];rfl
  have Ty:gx (Sl.es T) k=some (gM' y):=by rw[TS,hy];rfl
  have w1:=wi_u (n:=k+1) (by omega) (by omega)
  have w2:=wi_u (n:=k+1+1) (by omega) (by omega)
  have yv:y.1<=v:=by
   obtain⟨x,hx,hv⟩:=kB (by omega)
   cases Ty.symm.trans hx
   exact hv
  unfold F40 JF17_4
  rw[My,decide_eq_false c,w2]
  simp only[Option.bind_some,cond_false]
  rw[Ty]
  simp only[Option.bind_some]
  have hr1:(gP' y).fax=y.2.2:=rfl
  have hr2:(gM' y).fax=y.2.2:=rfl
  rw[hr1,hr2,w1]
  have tP:JF40_6 (gP' y) M (k+1) v true=some y.2.1:=rfl
  have tM:JF17_7 T k v true=some y.2.1:=by
   unfold JF17_7
   rw[cond_true,Ty]
   rfl
  cases hr:y.2.2 with
  |false=>exact⟨y.2.1,tP,tM⟩
  |true=>
   simp only[Bool.not_true,cond_false]
   by_cases d:k+1=ln T
   ·rw[show(k+1+1==ln M)=true from beq_iff_eq.2 (by omega),show(k+1==ln T)=true from beq_iff_eq.2 d]
    exact⟨y.2.1,tP,tM⟩
   ·rw[show(k+1+1==ln M)=false from beq_eq_false_iff_ne.2 (by omega),show(k+1==ln T)=false from beq_eq_false_iff_ne.2 d]
    obtain⟨z,hz⟩:=gx_at (l:=L) (i:=k+1) (by omega) (by omega)
    have bz:=hb z (gx_mem hz)
    have Mz:gx (Sl.es M) (k+1+1)=some (gP' z):=by rw[MS (by omega),hz];rfl
    have Tz:gx (Sl.es T) (k+1)=some (gM' z):=by rw[TS,hz];rfl
    have yz:=lt (by omega) hy hz
    refine⟨valAt y.2.1 z.2.1 (z.1-y.1) (v-y.1),?_,?_⟩
    ·unfold JF40_6
     rw[cond_false,w2,Mz]
     exact f40v (p:=y.2.1) (q:=z.2.1) (n:=z.1-y.1) (t:=v-y.1) by'.2.2.1 by'.2.2.2 bz.2.2.1 bz.2.2.2 (by omega) (by omega) (by omega) (by omega)
    ·unfold JF17_7
     rw[cond_false,w1,Ty,Tz]
     simp only[Option.bind_some]
     have e1:wi ((gM' z).fat-(gM' y).fat)=z.1-y.1:=wi_u (show 0<=z.1-y.1 by omega) (show z.1-y.1<=9223372036854775807 by omega)
     have e2:wi (v-(gM' y).fat)=v-y.1:=wi_u (show 0<=v-y.1 by omega) (show v-y.1<=9223372036854775807 by omega)
     rw[e1,e2]
     have e3:F42 (gM' y).f2 (gM' z).f2 (z.1-y.1) (v-y.1)=some (valAt y.2.1 z.2.1 (z.1-y.1) (v-y.1)):=f42 by'.2.2.1 by'.2.2.2 bz.2.2.1 bz.2.2.2 (by omega) (by omega) (by omega) (by omega)
     rw[e3]
     rfl
theorem sts_all {Ms:List G75} (ok:∀ m∈Ms,MOk m) (a:Int):(∀ x∈sts a Ms,a<=x/\x<=a+15482880*Ms.length)/\(sts a Ms).length=Ms.length+1:=by
 induction Ms generalizing a with
 |nil=>exact⟨λx hx=>by simp[sts]at hx;subst hx;simp,rfl⟩
 |cons m l ih=>
  obtain⟨i1,i2⟩:=ih (λx hx=>ok x (List.mem_cons_of_mem _ hx)) (a+lenOf m)
  have o:=ok m (List.mem_cons_self ..)
  have o1:=o.lo
  have o2:=o.hi
  refine⟨λx hx=>?_,by simp[sts,i2]⟩
  rw[sts,List.mem_cons]at hx
  rw[List.length_cons]
  rcases hx with rfl|h
  ·omega
  ·have:=i1 x h
   omega
end Go.Proofs.YtibndgdocbbbeaaGreat
namespace Go.Proofs.YtibndgdocbbbeaaGreat
open Go.PE Go.RowKit
set_option maxRecDepth 100000
theorem f16_t {a b c:Int} (h0:b<=a) (h1:a<=c):F16 a b c=some true:=by
 unfold F16
 rw[decide_eq_true (show a>=b from h0),decide_eq_true h1]
 rfl
theorem f16_f {a b c:Int} (h:¬ (b<=a/\a<=c)):F16 a b c=some false:=by
 unfold F16
 by_cases d:a>=b
 ·rw[decide_eq_true d,decide_eq_false (show ¬ a<=c by omega)]
  rfl
 ·rw[decide_eq_false d]
  rfl
theorem law4_in {s:G27} {m t:Int} (hl:ln s.fc<=10) (ok:∀ m∈Sl.es s.fc,MOk m) (hv:F14 s=some true):JF4_4 s m t false=some true:=by
 have h39:=f39 hl ok hv
 have h15:=f15 hl ok
 have h18:=f18 hl ok
 obtain⟨b1,b2⟩:=sts_all ok 0
 obtain⟨c1,c2,c3⟩:=tms_all ok 0
 have lnn:0<=ln s.fc:=Int.natCast_nonneg _
 have lne:ln s.fc=(Sl.es s.fc).length:=rfl
 generalize hS:sts 0 (Sl.es s.fc)=S at *
 generalize hL:tms 0 (Sl.es s.fc)=L at *
 have bad:F13 s m t=some (0,2)->JF4_17 (0,2) s (Sl.no S) m t true=some true/\True:=λ_=>⟨rfl,trivial⟩
 unfold JF4_4
 rw[cond_false]
 have u13:F13 s m t=bif (decide (m<(0)))then (JF13_9 (Sl.no (⟨-1,500000,false⟩::L.map gP'),Sl.no S) m t true)else (bif (decide (m>=(ln s.fc)))then (JF13_9 (Sl.no (⟨-1,500000,false⟩::L.map gP'),Sl.no S) m t true)else (bif (decide (t<(0)))then (JF13_9 (Sl.no (⟨-1,500000,false⟩::L.map gP'),Sl.no S) m t true)else (((gx S (wi (m+(1))))).bind λv20=>((gx S m)).bind λv22=>JF13_9 (Sl.no (⟨-1,500000,false⟩::L.map gP'),Sl.no S) m t (decide (t>(wi (v20-v22))))))):=by
  unfold F13
  rw[hv]
  simp only[Option.bind_some,Bool.not_true,cond_false]
  rw[h39]
  rfl
 have jbad:JF13_9 (Sl.no ((⟨-1,500000,false⟩:G173)::L.map gP'),Sl.no S) m t true=some (0,2):=rfl
 have wl:wi (ln s.fc-1)=ln s.fc-1:=Xr (by omega) (by omega)
 by_cases k1:0<=m/\m<ln s.fc
 ·obtain⟨a1,ha1⟩:=gx_at (l:=S) (i:=m+1) (by omega) (by omega)
  obtain⟨a0,ha0⟩:=gx_at (l:=S) (i:=m) (by omega) (by omega)
  have r1:=b1 a1 (gx_mem ha1)
  have r0:=b1 a0 (gx_mem ha0)
  have wm:wi (m+1)=m+1:=Xr (by omega) (by omega)
  have wd:wi (a1-a0)=a1-a0:=Xr (by omega) (by omega)
  have g13:F13 s m t=bif (decide (t<(0)))then some (0,2)else JF13_9 (Sl.no (⟨-1,500000,false⟩::L.map gP'),Sl.no S) m t (decide (t>a1-a0)):=by
   rw[u13,decide_eq_false (show ¬ m<0 by omega),decide_eq_false (show ¬ m>=ln s.fc by omega),wm,ha1,ha0]
   simp only[Option.bind_some,cond_false]
   rw[wd,jbad]
  have g4:∀ q,(bif !true then (bif q.1==0 then some (q.2==24)else some false)else (F15 s).bind λv14=>(F16 m 0 (wi (ln s.fc-1))).bind λv27=>bif !v27 then JF4_17 q s v14 m t true else (gx (Sl.es v14) (wi (m+1))).bind λv30=>(gx (Sl.es v14) m).bind λv32=>(F16 t 0 (wi (v30-v32))).bind λv34=>JF4_17 q s v14 m t (!v34))=(F16 t 0 (a1-a0)).bind λv34=>JF4_17 q s (Sl.no S) m t (!v34):=λq=>by
   have e1:gx (Sl.es (Sl.no S)) (wi (m+1))=some a1:=by rw[wm];exact ha1
   have e0:gx (Sl.es (Sl.no S)) m=some a0:=ha0
   rw[h15,wl]
   simp only[Option.bind_some,Bool.not_true,cond_false]
   rw[f16_t k1.1 (by omega)]
   simp only[Option.bind_some,Bool.not_true,cond_false]
   rw[e1,e0]
   simp only[Option.bind_some]
   rw[wd]
  by_cases k2:0<=t/\t<=a1-a0
  ·obtain⟨i,r,q1,q2,q3⟩:=at_eq (L:=L) (v:=a0+t) (λy hy=>by have:=c1 y hy;omega) c2 (by omega) (by omega) (by omega)
   have wv:wi (a0+t)=a0+t:=Xr (by omega) (by omega)
   have e13:F13 s m t=some (r,0):=by
    rw[g13,decide_eq_false (show ¬ t<0 by omega),decide_eq_false (show ¬ t>a1-a0 by omega),cond_false]
    unfold JF13_9
    have e0:gx (Sl.es (Sl.no S)) m=some a0:=ha0
    simp only[cond_false]
    rw[e0]
    simp only[Option.bind_some]
    rw[wv,q1]
    simp only[Option.bind_some]
    rw[q2]
    rfl
   rw[e13]
   simp only[Option.bind_some]
   rw[hv]
   simp only[Option.bind_some]
   refine(g4 (r,0)).trans ?_
   rw[f16_t k2.1 k2.2]
   simp only[Option.bind_some]
   unfold JF4_17
   have e0:gx (Sl.es (Sl.no S)) m=some a0:=ha0
   rw[Bool.not_true,cond_false,h18]
   simp only[Option.bind_some]
   rw[e0]
   simp only[Option.bind_some]
   rw[wv,q3]
   simp only[Option.bind_some,beq_self_eq_true,cond_true]
  ·have e13:F13 s m t=some (0,2):=by
    rw[g13]
    by_cases c:t<0
    ·rw[decide_eq_true c]
     rfl
    ·rw[decide_eq_false c,decide_eq_true (show t>a1-a0 by omega)]
     rfl
   rw[e13]
   simp only[Option.bind_some]
   rw[hv]
   simp only[Option.bind_some]
   refine(g4 (0,2)).trans ?_
   rw[f16_f k2]
   rfl
 ·have e13:F13 s m t=some (0,2):=by
   rw[u13]
   by_cases c:m<0
   ·rw[decide_eq_true c]
    rfl
   ·rw[decide_eq_false c,decide_eq_true (show m>=ln s.fc by omega)]
    rfl
  rw[e13]
  simp only[Option.bind_some]
  rw[hv]
  simp only[Option.bind_some,Bool.not_true,cond_false]
  rw[h15]
  simp only[Option.bind_some]
  rw[wl,f16_f (by omega)]
  rfl
theorem law4_of {s:G27} {m t:Int} {b:Bool} (k:F11=some true) (h12:F12 s=some b) (hb:b=true->ln s.fc<=10/\∀ m∈Sl.es s.fc,ln m.fm<=1000) (h14:b=true->∃ c,F14 s=some c):F4 s m t=some true:=by
 unfold F4
 rw[k]
 simp only[Option.bind_some,Bool.not_true,cond_false]
 rw[h12]
 simp only[Option.bind_some]
 cases b with
 |false=>
  unfold JF4_4
  rw[Bool.not_false,cond_true,k]
  rfl
 |true=>
  obtain⟨hl,ht⟩:=hb rfl
  obtain⟨c,hv⟩:=h14 rfl
  rw[Bool.not_true]
  cases c with
  |true=>exact law4_in hl (all_ok hl ht hv) hv
  |false=>
   unfold JF4_4 F13
   rw[hv]
   rfl
theorem f11:F11=some true:=rfl
theorem law4 {s:G27} {m t:Int} (hb:big27 s):F4 s m t=some true:=by
 obtain⟨b,eb,hk⟩:=sF12 hb
 refine law4_of f11 eb (λh=>?_) λh=>?_
 ·have o:=hk h
  exact⟨o.fc.1,λm hm=>by have:=(o.fc.2 m hm).fm.1;omega⟩
 ·obtain⟨r,er,_⟩:=tF29 (hk h)
  unfold F14
  rw[er]
  exact⟨_,rfl⟩
end Go.Proofs.YtibndgdocbbbeaaGreat
