/- A part of the proof. -/
import Derived.Test.YtibndgdocbbbeaaGreatFD
import Derived.Test.YtibndgdocbbbeaaGreatTU2
import Derived.Test.YtibndgdocbbbeaaGreatNV
import Derived.Test.YtibndgdocbbbeaaGreatNW
import Derived.Test.YtibndgdocbbbeaaGreatNX
import Derived.Test.YtibndgdocbbbeaaGreatFOs
set_option linter.all false
set_option maxRecDepth 100000
set_option maxHeartbeats 4000000
set_option linter.unusedVariables false
namespace Go.Proofs.YtibndgdocbbbeaaGreat
open Go.PE
def Ex (R:Int) (l m:List G159):Prop:=∃ t,m=l++t/\∀ x∈t,x.fam=R
theorem Ex.refl {R:Int} {l:List G159}:Ex R l l:=⟨[],by simp,by simp⟩
theorem Ex.tr {R:Int} {l m n:List G159} (h:Ex R l m) (k:Ex R m n):Ex R l n:=by
 obtain⟨t,rfl,a⟩:=h
 obtain⟨u,rfl,c⟩:=k
 exact⟨t++u,by simp,λx b=>(List.mem_append.1 b).elim (a x) (c x)⟩
def sE {c d:Type} (P:c->Prop) (Q:d->Prop):c⊕d->Prop
 |.inl a=>P a
 |.inr b=>Q b
theorem Ex.eq {R:Int} {l m n:List G159} (h:Ex R l m) (k:n=m):Ex R l n:=k▸h
theorem gapp_ex {b:Nat} {l q:List G159} {x:G159} (h:gapp b l (Sl.es (Sl.full [x]))=some q):Ex x.fam l q:=by
 unfold gapp at h
 split at h
 ·cases h
  exact⟨[x],rfl,λy a=>by simp at a;rw[a]⟩
 ·cases h
theorem Xl {b c:Type} {body:b->Option (b⊕c)} {I:b->Prop} {T:c->Prop} {s:b} {t:c} (h:Xg body s=some t) (d:I s) (a:∀ s o,I s->body s=some o->match o with|.inl s'=>I s'|.inr t=>T t):T t:=by
 unfold Xg at h
 generalize 18446744073709551616=n at h
 induction n generalizing s with
 |zero=>cases h
 |succ n ih=>
  rw[iterO]at h
  cases hb:body s with
  |none=>rw[hb]at h;cases h
  |some o=>
   rw[hb]at h
   have k:=a s o d hb
   cases o with
   |inl s'=>exact ih k h
   |inr t'=>cases h;exact k
theorem Ym {e c f a b r} (h:Yf e c f a b=some r):Ex a b r:=by
 unfold Yf at h
 rcases cor h with ⟨_,h⟩|⟨_,h⟩
 ·obtain⟨g,d,h⟩:=Xa h
  cases h
  exact(gapp_ex d)
 ·cases h
  exact Ex.refl
theorem xF123_2 {f c g e b a r} (h:Vm f c g e b a=some r):Ex b a r:=by
 unfold Vm at h
 rcases cor h with ⟨_,h⟩|⟨_,h⟩
 ·obtain⟨i,d,h⟩:=Xa h
  cases h
  exact(gapp_ex d)
 ·cases h
  exact Ex.refl
theorem xJF61_1_7 {f b c d r} (h:JF61_1_7 f b c d=some r):Ex b c r:=by
 unfold JF61_1_7 at h
 obtain⟨e,a,h⟩:=Xa h
 cases h
 exact(xF123_2 a)
theorem xJF61_1_5 {e b c r} (h:JF61_1_5 e b c=some r):Ex b c r:=by
 unfold JF61_1_5 at h
 obtain⟨a,d,h⟩:=Xa h
 generalize a=v18 at *
 exact xJF61_1_7 h
theorem xLF61_1_44 {g l b i a e r} (h:LF61_1_44 g l b i a e=some r):sE (λr=>Ex b a r.2.1) (λr=>Ex b a r) r:=by
 unfold LF61_1_44 at h
 rcases cor h with ⟨_,h⟩|⟨_,h⟩
 ·obtain⟨_,_,h⟩:=Xa h
  obtain⟨_,_,h⟩:=Xa h
  rcases cor h with ⟨_,h⟩|⟨_,h⟩
  ·obtain⟨j,f,h⟩:=Xa h
   cases h
   exact(Ym f)
  ·obtain⟨_,_,h⟩:=Xa h
   rcases cor h with ⟨_,h⟩|⟨_,h⟩
   ·obtain⟨k,d,h⟩:=Xa h
    cases h
    exact(Ym d)
   ·obtain⟨_,_,h⟩:=Xa h
    obtain⟨n,c,h⟩:=Xa h
    cases h
    exact(Ym c)
 ·cases h
  exact Ex.refl
theorem xF61_1 {l b c r} (h:F61_1 l b c=some r):Ex b c r:=by
 unfold F61_1 at h
 obtain⟨_,_,h⟩:=Xa h
 obtain⟨d,a,h⟩:=Xa h
 have e:=Xl (I:=λs=>Ex b c s.2.1) (T:=λo=>Ex b c o) a (Ex.refl) (by
  rintro⟨n,i,j⟩ o g h
  have k:=xLF61_1_44 h
  rcases o with o|o
  ·exact g.tr k
  ·exact g.tr k)
 generalize d=v39 at *
 have f:=xJF61_1_5 h
 exact(e.tr f)
theorem xLF131_1_12 {f d a e b r} (h:LF131_1_12 f d a e b=some r):sE (λr=>Ex a b r.2) (λr=>Ex a b r) r:=by
 unfold LF131_1_12 at h
 rcases cor h with ⟨_,h⟩|⟨_,h⟩
 ·obtain⟨_,_,h⟩:=Xa h
  obtain⟨_,_,h⟩:=Xa h
  obtain⟨g,c,h⟩:=Xa h
  cases h
  exact(Ym c)
 ·cases h
  exact Ex.refl
theorem xF131_1 {g a b f r} (h:F131_1 g a b f=some r):Ex a b r:=by
 unfold F131_1 at h
 obtain⟨i,d,h⟩:=Xa h
 have c:=Xl (I:=λs=>Ex a b s.2) (T:=λo=>Ex a b o) d (Ex.refl) (by
  rintro⟨l,j⟩ o e h
  have k:=xLF131_1_12 h
  rcases o with o|o
  ·exact e.tr k
  ·exact e.tr k)
 generalize i=v7 at *
 cases h
 exact c
theorem xF62_1 {d b c r} (h:F62_1 d b c=some r):Ex b c r:=by
 unfold F62_1 at h
 obtain⟨_,_,h⟩:=Xa h
 obtain⟨e,a,h⟩:=Xa h
 cases h
 exact(xF131_1 a)
theorem xLF131_2_11 {d a e c r} (h:LF131_2_11 d a e c=some r):sE (λr=>Ex a c r.2) (λr=>Ex a c r) r:=by
 unfold LF131_2_11 at h
 rcases cor h with ⟨_,h⟩|⟨_,h⟩
 ·obtain⟨_,_,h⟩:=Xa h
  obtain⟨_,_,h⟩:=Xa h
  obtain⟨f,b,h⟩:=Xa h
  cases h
  exact(Ym b)
 ·cases h
  exact Ex.refl
theorem xF131_2 {g a b r} (h:F131_2 g a b=some r):Ex a b r:=by
 unfold F131_2 at h
 obtain⟨f,d,h⟩:=Xa h
 have c:=Xl (I:=λs=>Ex a b s.2) (T:=λo=>Ex a b o) d (Ex.refl) (by
  rintro⟨j,i⟩ o e h
  have k:=xLF131_2_11 h
  rcases o with o|o
  ·exact e.tr k
  ·exact e.tr k)
 generalize f=v6 at *
 cases h
 exact c
theorem xJF63_1_5 {d b c r} (h:JF63_1_5 d b c=some r):Ex b c r:=by
 unfold JF63_1_5 at h
 obtain⟨e,a,h⟩:=Xa h
 cases h
 exact(xF131_2 a)
theorem xJF63_1_21 {b a r} (h:JF63_1_21 b a=some r):sE (λr=>r.2=a) (λr=>r=a) r:=by
 unfold JF63_1_21 at h
 cases h
 exact rfl
theorem xLF63_1_31 {e f b d a r} (h:LF63_1_31 e f b d a=some r):sE (λr=>Ex b a r.2) (λr=>Ex b a r) r:=by
 unfold LF63_1_31 at h
 rcases cor h with ⟨_,h⟩|⟨_,h⟩
 ·obtain⟨_,_,h⟩:=Xa h
  obtain⟨_,_,h⟩:=Xa h
  obtain⟨g,c,h⟩:=Xa h
  cases h
  exact(Ym c)
 ·cases h
  exact Ex.refl
theorem xLF63_1_18 {n b g a r} (h:LF63_1_18 n b g a=some r):sE (λr=>Ex b a r.2) (λr=>Ex b a r) r:=by
 unfold LF63_1_18 at h
 rcases cor h with ⟨_,h⟩|⟨_,h⟩
 ·obtain⟨_,_,h⟩:=Xa h
  obtain⟨f,d,h⟩:=Xa h
  have c:=Xl (I:=λs=>Ex b a s.2) (T:=λo=>Ex b a o) d (Ex.refl) (by
   rintro⟨l,j⟩ o i h
   have k:=xLF63_1_31 h
   rcases o with o|o
   ·exact i.tr k
   ·exact i.tr k)
  generalize f=v26 at *
  have e:=xJF63_1_21 h
  rcases r with r|r
  ·exact c.eq e
  ·exact c.eq e
 ·cases h
  exact Ex.refl
theorem xF63_1 {l b c r} (h:F63_1 l b c=some r):Ex b c r:=by
 unfold F63_1 at h
 obtain⟨d,a,h⟩:=Xa h
 have e:=Xl (I:=λs=>Ex b c s.2) (T:=λo=>Ex b c o) a (Ex.refl) (by
  rintro⟨j,i⟩ o g h
  have k:=xLF63_1_18 h
  rcases o with o|o
  ·exact g.tr k
  ·exact g.tr k)
 generalize d=v13 at *
 have f:=xJF63_1_5 h
 exact(e.tr f)
theorem xLF131_3_11 {d a e b r} (h:Qc d a e b=some r):sE (λr=>Ex a b r.2) (λr=>Ex a b r) r:=by
 unfold Qc at h
 rcases cor h with ⟨_,h⟩|⟨_,h⟩
 ·obtain⟨_,_,h⟩:=Xa h
  obtain⟨_,_,h⟩:=Xa h
  obtain⟨f,c,h⟩:=Xa h
  cases h
  exact(Ym c)
 ·cases h
  exact Ex.refl
theorem xF131_3 {g a b r} (h:F131_3 g a b=some r):Ex a b r:=by
 unfold F131_3 at h
 obtain⟨f,c,h⟩:=Xa h
 have d:=Xl (I:=λs=>Ex a b s.2) (T:=λo=>Ex a b o) c (Ex.refl) (by
  rintro⟨j,i⟩ o e h
  have k:=xLF131_3_11 h
  rcases o with o|o
  ·exact e.tr k
  ·exact e.tr k)
 generalize f=v6 at *
 cases h
 exact d
theorem xF64_1 {d b c r} (h:F64_1 d b c=some r):Ex b c r:=by
 unfold F64_1 at h
 obtain⟨e,a,h⟩:=Xa h
 cases h
 exact(xF131_3 a)
theorem xLF131_4_11 {d a e b r} (h:LF131_4_11 d a e b=some r):sE (λr=>Ex a b r.2) (λr=>Ex a b r) r:=by
 unfold LF131_4_11 at h
 rcases cor h with ⟨_,h⟩|⟨_,h⟩
 ·obtain⟨_,_,h⟩:=Xa h
  obtain⟨_,_,h⟩:=Xa h
  obtain⟨f,c,h⟩:=Xa h
  cases h
  exact(Ym c)
 ·cases h
  exact Ex.refl
theorem xF131_4 {g a b r} (h:F131_4 g a b=some r):Ex a b r:=by
 unfold F131_4 at h
 obtain⟨f,c,h⟩:=Xa h
 have d:=Xl (I:=λs=>Ex a b s.2) (T:=λo=>Ex a b o) c (Ex.refl) (by
  rintro⟨j,i⟩ o e h
  have k:=xLF131_4_11 h
  rcases o with o|o
  ·exact e.tr k
  ·exact e.tr k)
 generalize f=v6 at *
 cases h
 exact d
theorem xF137_1 {d b c r} (h:F137_1 d b c=some r):Ex b c r:=by
 unfold F137_1 at h
 obtain⟨e,a,h⟩:=Xa h
 cases h
 exact(xF131_4 a)
theorem xF65_1 {d b c r} (h:F65_1 d b c=some r):Ex b c r:=by
 unfold F65_1 at h
 obtain⟨e,a,h⟩:=Xa h
 cases h
 exact(xF137_1 a)
theorem xLF131_5_11 {d a e b r} (h:LF131_5_11 d a e b=some r):sE (λr=>Ex a b r.2) (λr=>Ex a b r) r:=by
 unfold LF131_5_11 at h
 rcases cor h with ⟨_,h⟩|⟨_,h⟩
 ·obtain⟨_,_,h⟩:=Xa h
  obtain⟨_,_,h⟩:=Xa h
  obtain⟨f,c,h⟩:=Xa h
  cases h
  exact(Ym c)
 ·cases h
  exact Ex.refl
theorem xF131_5 {g a b r} (h:F131_5 g a b=some r):Ex a b r:=by
 unfold F131_5 at h
 obtain⟨f,d,h⟩:=Xa h
 have c:=Xl (I:=λs=>Ex a b s.2) (T:=λo=>Ex a b o) d (Ex.refl) (by
  rintro⟨j,i⟩ o e h
  have k:=xLF131_5_11 h
  rcases o with o|o
  ·exact e.tr k
  ·exact e.tr k)
 generalize f=v6 at *
 cases h
 exact c
theorem xF137_2 {d b c r} (h:F137_2 d b c=some r):Ex b c r:=by
 unfold F137_2 at h
 obtain⟨e,a,h⟩:=Xa h
 cases h
 exact(xF131_5 a)
theorem xF66_1 {d b c r} (h:F66_1 d b c=some r):Ex b c r:=by
 unfold F66_1 at h
 obtain⟨e,a,h⟩:=Xa h
 cases h
 exact(xF137_2 a)
theorem xJF140_1_14 {b a r} (h:Qs b a=some r):sE (λr=>r.2=a) (λr=>r=a) r:=by
 unfold Qs at h
 cases h
 exact rfl
theorem xJF140_1_27 {b a r} (h:Qr b a=some r):sE (λr=>r.2=a) (λr=>r=a) r:=by
 unfold Qr at h
 cases h
 exact rfl
theorem xJF140_1_40 {b a r} (h:Qq b a=some r):sE (λr=>r.2=a) (λr=>r=a) r:=by
 unfold Qq at h
 cases h
 exact rfl
theorem xLF140_1_50 {e c j d i b f a r} (h:LF140_1_50 e c j d i b f a=some r):sE (λr=>Ex b a r.2) (λr=>Ex b a r) r:=by
 unfold LF140_1_50 at h
 rcases cor h with ⟨_,h⟩|⟨_,h⟩
 ·obtain⟨_,_,h⟩:=Xa h
  obtain⟨_,_,h⟩:=Xa h
  obtain⟨k,g,h⟩:=Xa h
  cases h
  exact(Ym g)
 ·cases h
  exact Ex.refl
theorem xLF140_1_37 {i j p t e g a r} (h:LF140_1_37 i j p t e g a=some r):sE (λr=>Ex e a r.2) (λr=>Ex e a r) r:=by
 unfold LF140_1_37 at h
 rcases cor h with ⟨_,h⟩|⟨_,h⟩
 ·obtain⟨_,_,h⟩:=Xa h
  obtain⟨f,b,h⟩:=Xa h
  have d:=Xl (I:=λs=>Ex e a s.2) (T:=λo=>Ex e a o) b (Ex.refl) (by
   rintro⟨q,n⟩ o l h
   have k:=xLF140_1_50 h
   rcases o with o|o
   ·exact l.tr k
   ·exact l.tr k)
  generalize f=v45 at *
  have c:=xJF140_1_40 h
  rcases r with r|r
  ·exact d.eq c
  ·exact d.eq c
 ·cases h
  exact Ex.refl
theorem xLF140_1_24 {f l q e g a r} (h:LF140_1_24 f l q e g a=some r):sE (λr=>Ex e a r.2) (λr=>Ex e a r) r:=by
 unfold LF140_1_24 at h
 rcases cor h with ⟨_,h⟩|⟨_,h⟩
 ·obtain⟨_,_,h⟩:=Xa h
  obtain⟨i,b,h⟩:=Xa h
  have c:=Xl (I:=λs=>Ex e a s.2) (T:=λo=>Ex e a o) b (Ex.refl) (by
   rintro⟨p,n⟩ o j h
   have k:=xLF140_1_37 h
   rcases o with o|o
   ·exact j.tr k
   ·exact j.tr k)
  generalize i=v32 at *
  have d:=xJF140_1_27 h
  rcases r with r|r
  ·exact c.eq d
  ·exact c.eq d
 ·cases h
  exact Ex.refl
theorem xLF140_1_11 {l b n e r} (h:LF140_1_11 l b n e=some r):sE (λr=>Ex b e r.2) (λr=>Ex b e r) r:=by
 unfold LF140_1_11 at h
 rcases cor h with ⟨_,h⟩|⟨_,h⟩
 ·obtain⟨_,_,h⟩:=Xa h
  obtain⟨f,a,h⟩:=Xa h
  have c:=Xl (I:=λs=>Ex b e s.2) (T:=λo=>Ex b e o) a (Ex.refl) (by
   rintro⟨j,i⟩ o g h
   have k:=xLF140_1_24 h
   rcases o with o|o
   ·exact g.tr k
   ·exact g.tr k)
  generalize f=v19 at *
  have d:=xJF140_1_14 h
  rcases r with r|r
  ·exact c.eq d
  ·exact c.eq d
 ·cases h
  exact Ex.refl
theorem xF140_1 {g a b r} (h:F140_1 g a b=some r):Ex a b r:=by
 unfold F140_1 at h
 obtain⟨f,c,h⟩:=Xa h
 have d:=Xl (I:=λs=>Ex a b s.2) (T:=λo=>Ex a b o) c (Ex.refl) (by
  rintro⟨j,i⟩ o e h
  have k:=xLF140_1_11 h
  rcases o with o|o
  ·exact e.tr k
  ·exact e.tr k)
 generalize f=v6 at *
 cases h
 exact d
theorem xF67_1 {d b c r} (h:F67_1 d b c=some r):Ex b c r:=by
 unfold F67_1 at h
 obtain⟨e,a,h⟩:=Xa h
 cases h
 exact(xF140_1 a)
theorem xJF140_2_14 {b a r} (h:Qp b a=some r):sE (λr=>r.2=a) (λr=>r=a) r:=by
 unfold Qp at h
 cases h
 exact rfl
theorem xJF140_2_27 {b a r} (h:Qo b a=some r):sE (λr=>r.2=a) (λr=>r=a) r:=by
 unfold Qo at h
 cases h
 exact rfl
theorem xJF140_2_40 {b a r} (h:Qn b a=some r):sE (λr=>r.2=a) (λr=>r=a) r:=by
 unfold Qn at h
 cases h
 exact rfl
theorem xLF140_2_50 {e c k d j b f a r} (h:LF140_2_50 e c k d j b f a=some r):sE (λr=>Ex b a r.2) (λr=>Ex b a r) r:=by
 unfold LF140_2_50 at h
 rcases cor h with ⟨_,h⟩|⟨_,h⟩
 ·obtain⟨_,_,h⟩:=Xa h
  obtain⟨_,_,h⟩:=Xa h
  obtain⟨i,g,h⟩:=Xa h
  cases h
  exact(Ym g)
 ·cases h
  exact Ex.refl
theorem xLF140_2_37 {i j p t e g a r} (h:LF140_2_37 i j p t e g a=some r):sE (λr=>Ex e a r.2) (λr=>Ex e a r) r:=by
 unfold LF140_2_37 at h
 rcases cor h with ⟨_,h⟩|⟨_,h⟩
 ·obtain⟨_,_,h⟩:=Xa h
  obtain⟨f,c,h⟩:=Xa h
  have d:=Xl (I:=λs=>Ex e a s.2) (T:=λo=>Ex e a o) c (Ex.refl) (by
   rintro⟨q,n⟩ o l h
   have k:=xLF140_2_50 h
   rcases o with o|o
   ·exact l.tr k
   ·exact l.tr k)
  generalize f=v45 at *
  have b:=xJF140_2_40 h
  rcases r with r|r
  ·exact d.eq b
  ·exact d.eq b
 ·cases h
  exact Ex.refl
theorem xLF140_2_24 {f l q e g a r} (h:LF140_2_24 f l q e g a=some r):sE (λr=>Ex e a r.2) (λr=>Ex e a r) r:=by
 unfold LF140_2_24 at h
 rcases cor h with ⟨_,h⟩|⟨_,h⟩
 ·obtain⟨_,_,h⟩:=Xa h
  obtain⟨i,b,h⟩:=Xa h
  have d:=Xl (I:=λs=>Ex e a s.2) (T:=λo=>Ex e a o) b (Ex.refl) (by
   rintro⟨p,n⟩ o j h
   have k:=xLF140_2_37 h
   rcases o with o|o
   ·exact j.tr k
   ·exact j.tr k)
  generalize i=v32 at *
  have c:=xJF140_2_27 h
  rcases r with r|r
  ·exact d.eq c
  ·exact d.eq c
 ·cases h
  exact Ex.refl
theorem xLF140_2_11 {l c n d r} (h:LF140_2_11 l c n d=some r):sE (λr=>Ex c d r.2) (λr=>Ex c d r) r:=by
 unfold LF140_2_11 at h
 rcases cor h with ⟨_,h⟩|⟨_,h⟩
 ·obtain⟨_,_,h⟩:=Xa h
  obtain⟨f,b,h⟩:=Xa h
  have e:=Xl (I:=λs=>Ex c d s.2) (T:=λo=>Ex c d o) b (Ex.refl) (by
   rintro⟨j,i⟩ o g h
   have k:=xLF140_2_24 h
   rcases o with o|o
   ·exact g.tr k
   ·exact g.tr k)
  generalize f=v19 at *
  have a:=xJF140_2_14 h
  rcases r with r|r
  ·exact e.eq a
  ·exact e.eq a
 ·cases h
  exact Ex.refl
theorem xF140_2 {g b c r} (h:F140_2 g b c=some r):Ex b c r:=by
 unfold F140_2 at h
 obtain⟨f,d,h⟩:=Xa h
 have a:=Xl (I:=λs=>Ex b c s.2) (T:=λo=>Ex b c o) d (Ex.refl) (by
  rintro⟨j,i⟩ o e h
  have k:=xLF140_2_11 h
  rcases o with o|o
  ·exact e.tr k
  ·exact e.tr k)
 generalize f=v6 at *
 cases h
 exact a
theorem xF68_1 {d b c r} (h:F68_1 d b c=some r):Ex b c r:=by
 unfold F68_1 at h
 obtain⟨e,a,h⟩:=Xa h
 cases h
 exact(xF140_2 a)
theorem xJF140_3_14 {b a r} (h:Qm b a=some r):sE (λr=>r.2=a) (λr=>r=a) r:=by
 unfold Qm at h
 cases h
 exact rfl
theorem xJF140_3_27 {b a r} (h:Ql b a=some r):sE (λr=>r.2=a) (λr=>r=a) r:=by
 unfold Ql at h
 cases h
 exact rfl
theorem xJF140_3_40 {b a r} (h:Qk b a=some r):sE (λr=>r.2=a) (λr=>r=a) r:=by
 unfold Qk at h
 cases h
 exact rfl
theorem xLF140_3_50 {f d k e j c g a r} (h:LF140_3_50 f d k e j c g a=some r):sE (λr=>Ex c a r.2) (λr=>Ex c a r) r:=by
 unfold LF140_3_50 at h
 rcases cor h with ⟨_,h⟩|⟨_,h⟩
 ·obtain⟨_,_,h⟩:=Xa h
  obtain⟨_,_,h⟩:=Xa h
  obtain⟨i,b,h⟩:=Xa h
  cases h
  exact(Ym b)
 ·cases h
  exact Ex.refl
theorem xLF140_3_37 {i j p t e g a r} (h:LF140_3_37 i j p t e g a=some r):sE (λr=>Ex e a r.2) (λr=>Ex e a r) r:=by
 unfold LF140_3_37 at h
 rcases cor h with ⟨_,h⟩|⟨_,h⟩
 ·obtain⟨_,_,h⟩:=Xa h
  obtain⟨f,d,h⟩:=Xa h
  have b:=Xl (I:=λs=>Ex e a s.2) (T:=λo=>Ex e a o) d (Ex.refl) (by
   rintro⟨q,n⟩ o l h
   have k:=xLF140_3_50 h
   rcases o with o|o
   ·exact l.tr k
   ·exact l.tr k)
  generalize f=v45 at *
  have c:=xJF140_3_40 h
  rcases r with r|r
  ·exact b.eq c
  ·exact b.eq c
 ·cases h
  exact Ex.refl
theorem xLF140_3_24 {f l q e g a r} (h:LF140_3_24 f l q e g a=some r):sE (λr=>Ex e a r.2) (λr=>Ex e a r) r:=by
 unfold LF140_3_24 at h
 rcases cor h with ⟨_,h⟩|⟨_,h⟩
 ·obtain⟨_,_,h⟩:=Xa h
  obtain⟨i,d,h⟩:=Xa h
  have b:=Xl (I:=λs=>Ex e a s.2) (T:=λo=>Ex e a o) d (Ex.refl) (by
   rintro⟨p,n⟩ o j h
   have k:=xLF140_3_37 h
   rcases o with o|o
   ·exact j.tr k
   ·exact j.tr k)
  generalize i=v32 at *
  have c:=xJF140_3_27 h
  rcases r with r|r
  ·exact b.eq c
  ·exact b.eq c
 ·cases h
  exact Ex.refl
theorem xLF140_3_11 {l d n e r} (h:LF140_3_11 l d n e=some r):sE (λr=>Ex d e r.2) (λr=>Ex d e r) r:=by
 unfold LF140_3_11 at h
 rcases cor h with ⟨_,h⟩|⟨_,h⟩
 ·obtain⟨_,_,h⟩:=Xa h
  obtain⟨f,c,h⟩:=Xa h
  have a:=Xl (I:=λs=>Ex d e s.2) (T:=λo=>Ex d e o) c (Ex.refl) (by
   rintro⟨j,i⟩ o g h
   have k:=xLF140_3_24 h
   rcases o with o|o
   ·exact g.tr k
   ·exact g.tr k)
  generalize f=v19 at *
  have b:=xJF140_3_14 h
  rcases r with r|r
  ·exact a.eq b
  ·exact a.eq b
 ·cases h
  exact Ex.refl
theorem xF140_3 {g b c r} (h:F140_3 g b c=some r):Ex b c r:=by
 unfold F140_3 at h
 obtain⟨f,d,h⟩:=Xa h
 have a:=Xl (I:=λs=>Ex b c s.2) (T:=λo=>Ex b c o) d (Ex.refl) (by
  rintro⟨j,i⟩ o e h
  have k:=xLF140_3_11 h
  rcases o with o|o
  ·exact e.tr k
  ·exact e.tr k)
 generalize f=v6 at *
 cases h
 exact a
theorem xF69_1 {d b c r} (h:F69_1 d b c=some r):Ex b c r:=by
 unfold F69_1 at h
 obtain⟨e,a,h⟩:=Xa h
 cases h
 exact(xF140_3 a)
theorem xJF140_4_15 {b a r} (h:Qj b a=some r):sE (λr=>r.2=a) (λr=>r=a) r:=by
 unfold Qj at h
 cases h
 exact rfl
theorem xJF140_4_28 {b a r} (h:Qi b a=some r):sE (λr=>r.2=a) (λr=>r=a) r:=by
 unfold Qi at h
 cases h
 exact rfl
theorem xJF140_4_41 {b a r} (h:Qh b a=some r):sE (λr=>r.2=a) (λr=>r=a) r:=by
 unfold Qh at h
 cases h
 exact rfl
theorem xLF140_4_51 {g e k f j l d c a r} (h:LF140_4_51 g e k f j l d c a=some r):sE (λr=>Ex d a r.2) (λr=>Ex d a r) r:=by
 unfold LF140_4_51 at h
 rcases cor h with ⟨_,h⟩|⟨_,h⟩
 ·obtain⟨_,_,h⟩:=Xa h
  obtain⟨_,_,h⟩:=Xa h
  obtain⟨i,b,h⟩:=Xa h
  cases h
  exact(Ym b)
 ·cases h
  exact Ex.refl
theorem xLF140_4_38 {g j p q u e f a r} (h:LF140_4_38 g j p q u e f a=some r):sE (λr=>Ex e a r.2) (λr=>Ex e a r) r:=by
 unfold LF140_4_38 at h
 rcases cor h with ⟨_,h⟩|⟨_,h⟩
 ·obtain⟨_,_,h⟩:=Xa h
  obtain⟨i,d,h⟩:=Xa h
  have b:=Xl (I:=λs=>Ex e a s.2) (T:=λo=>Ex e a o) d (Ex.refl) (by
   rintro⟨n,t⟩ o l h
   have k:=xLF140_4_51 h
   rcases o with o|o
   ·exact l.tr k
   ·exact l.tr k)
  generalize i=v46 at *
  have c:=xJF140_4_41 h
  rcases r with r|r
  ·exact b.eq c
  ·exact b.eq c
 ·cases h
  exact Ex.refl
theorem xLF140_4_25 {g l p q e i a r} (h:LF140_4_25 g l p q e i a=some r):sE (λr=>Ex e a r.2) (λr=>Ex e a r) r:=by
 unfold LF140_4_25 at h
 rcases cor h with ⟨_,h⟩|⟨_,h⟩
 ·obtain⟨_,_,h⟩:=Xa h
  obtain⟨f,d,h⟩:=Xa h
  have b:=Xl (I:=λs=>Ex e a s.2) (T:=λo=>Ex e a o) d (Ex.refl) (by
   rintro⟨n,t⟩ o j h
   have k:=xLF140_4_38 h
   rcases o with o|o
   ·exact j.tr k
   ·exact j.tr k)
  generalize f=v33 at *
  have c:=xJF140_4_28 h
  rcases r with r|r
  ·exact b.eq c
  ·exact b.eq c
 ·cases h
  exact Ex.refl
theorem xLF140_4_12 {p n c l d r} (h:LF140_4_12 p n c l d=some r):sE (λr=>Ex c d r.2) (λr=>Ex c d r) r:=by
 unfold LF140_4_12 at h
 rcases cor h with ⟨_,h⟩|⟨_,h⟩
 ·obtain⟨_,_,h⟩:=Xa h
  obtain⟨f,e,h⟩:=Xa h
  have b:=Xl (I:=λs=>Ex c d s.2) (T:=λo=>Ex c d o) e (Ex.refl) (by
   rintro⟨j,i⟩ o g h
   have k:=xLF140_4_25 h
   rcases o with o|o
   ·exact g.tr k
   ·exact g.tr k)
  generalize f=v20 at *
  have a:=xJF140_4_15 h
  rcases r with r|r
  ·exact b.eq a
  ·exact b.eq a
 ·cases h
  exact Ex.refl
theorem xF140_4 {g b c f r} (h:F140_4 g b c f=some r):Ex b c r:=by
 unfold F140_4 at h
 obtain⟨i,d,h⟩:=Xa h
 have a:=Xl (I:=λs=>Ex b c s.2) (T:=λo=>Ex b c o) d (Ex.refl) (by
  rintro⟨l,j⟩ o e h
  have k:=xLF140_4_12 h
  rcases o with o|o
  ·exact e.tr k
  ·exact e.tr k)
 generalize i=v7 at *
 cases h
 exact a
theorem xJF70_1_7 {f b c e r} (h:JF70_1_7 f b c e=some r):Ex b c r:=by
 unfold JF70_1_7 at h
 obtain⟨d,a,h⟩:=Xa h
 cases h
 exact(xF140_4 a)
theorem xF70_1 {e b c r} (h:F70_1 e b c=some r):Ex b c r:=by
 unfold F70_1 at h
 obtain⟨_,_,h⟩:=Xa h
 obtain⟨a,d,h⟩:=Xa h
 generalize a=v16 at *
 exact xJF70_1_7 h
theorem xLF71_1_16 {e d c f a r} (h:LF71_1_16 e d c f a=some r):sE (λr=>Ex c a r.2) (λr=>Ex c a r) r:=by
 unfold LF71_1_16 at h
 rcases cor h with ⟨_,h⟩|⟨_,h⟩
 ·obtain⟨_,_,h⟩:=Xa h
  obtain⟨_,_,h⟩:=Xa h
  obtain⟨g,b,h⟩:=Xa h
  cases h
  exact(Ym b)
 ·cases h
  exact Ex.refl
theorem xF71_1 {g c d r} (h:F71_1 g c d=some r):Ex c d r:=by
 unfold F71_1 at h
 obtain⟨_,_,h⟩:=Xa h
 obtain⟨e,a,h⟩:=Xa h
 have b:=Xl (I:=λs=>Ex c d s.2) (T:=λo=>Ex c d o) a (Ex.refl) (by
  rintro⟨j,i⟩ o f h
  have k:=xLF71_1_16 h
  rcases o with o|o
  ·exact f.tr k
  ·exact f.tr k)
 generalize e=v11 at *
 cases h
 exact b
theorem xJF72_1_19 {b a r} (h:JF72_1_19 b a=some r):sE (λr=>r.2=a) (λr=>r=a) r:=by
 unfold JF72_1_19 at h
 cases h
 exact rfl
theorem xJF72_1_23 {d g e c i f r} (h:JF72_1_23 d g e c i f=some r):sE (λr=>Ex e c r.2) (λr=>Ex e c r) r:=by
 unfold JF72_1_23 at h
 obtain⟨j,a,h⟩:=Xa h
 have b:=xJF72_1_19 h
 rcases r with r|r
 ·exact(Ym a).eq b
 ·exact(Ym a).eq b
theorem xLF72_1_16 {f e b g a r} (h:LF72_1_16 f e b g a=some r):sE (λr=>Ex b a r.2) (λr=>Ex b a r) r:=by
 unfold LF72_1_16 at h
 rcases cor h with ⟨_,h⟩|⟨_,h⟩
 ·obtain⟨_,_,h⟩:=Xa h
  obtain⟨c,d,h⟩:=Xa h
  generalize c=v33 at *
  exact xJF72_1_23 h
 ·cases h
  exact Ex.refl
theorem xF72_1 {g c d r} (h:F72_1 g c d=some r):Ex c d r:=by
 unfold F72_1 at h
 obtain⟨_,_,h⟩:=Xa h
 obtain⟨e,a,h⟩:=Xa h
 have b:=Xl (I:=λs=>Ex c d s.2) (T:=λo=>Ex c d o) a (Ex.refl) (by
  rintro⟨j,i⟩ o f h
  have k:=xLF72_1_16 h
  rcases o with o|o
  ·exact f.tr k
  ·exact f.tr k)
 generalize e=v11 at *
 cases h
 exact b
theorem xLF131_6_11 {d b e c r} (h:LF131_6_11 d b e c=some r):sE (λr=>Ex b c r.2) (λr=>Ex b c r) r:=by
 unfold LF131_6_11 at h
 rcases cor h with ⟨_,h⟩|⟨_,h⟩
 ·obtain⟨_,_,h⟩:=Xa h
  obtain⟨_,_,h⟩:=Xa h
  obtain⟨f,a,h⟩:=Xa h
  cases h
  exact(Ym a)
 ·cases h
  exact Ex.refl
theorem xF131_6 {g b c r} (h:F131_6 g b c=some r):Ex b c r:=by
 unfold F131_6 at h
 obtain⟨f,d,h⟩:=Xa h
 have a:=Xl (I:=λs=>Ex b c s.2) (T:=λo=>Ex b c o) d (Ex.refl) (by
  rintro⟨j,i⟩ o e h
  have k:=xLF131_6_11 h
  rcases o with o|o
  ·exact e.tr k
  ·exact e.tr k)
 generalize f=v6 at *
 cases h
 exact a
theorem Up {e c d b r} (h:Zv e c d b=some r):Ex c d r:=by
 unfold Zv at h
 obtain⟨_,_,h⟩:=Xa h
 obtain⟨f,a,h⟩:=Xa h
 cases h
 exact(Ym a)
theorem xJF73_1_16 {j g i e c a d b f r} (h:JF73_1_16 j g i e c a d b f=some r):Ex g i r:=by
 unfold JF73_1_16 at h
 rcases cor h with ⟨_,h⟩|⟨_,h⟩
 ·rcases cor h with ⟨_,h⟩|⟨_,h⟩
  ·exact Up h
  ·rcases cor h with ⟨_,h⟩|⟨_,h⟩
   ·obtain⟨_,_,h⟩:=Xa h
    exact Up h
   ·exact Up h
 ·rcases cor h with ⟨_,h⟩|⟨_,h⟩
  ·obtain⟨_,_,h⟩:=Xa h
   exact Up h
  ·exact Up h
theorem xLF73_1_54 {n j k f b d g c e i r} (h:LF73_1_54 n j k f b d g c e i=some r):sE tru (sE (λr=>Ex j k r) tru) r:=by
 unfold LF73_1_54 at h
 rcases cor h with ⟨_,h⟩|⟨_,h⟩
 ·obtain⟨_,_,h⟩:=Xa h
  obtain⟨_,_,h⟩:=Xa h
  rcases cor h with ⟨_,h⟩|⟨_,h⟩
  ·obtain⟨l,a,h⟩:=Xa h
   cases h
   exact(Ym a)
  ·cases h
   trivial
 ·cases h
  trivial
theorem xF73_1 {t f g r} (h:Ve t f g=some r):Ex f g r:=by
 unfold Ve at h
 obtain⟨k,a,h⟩:=Xa h
 rcases cor h with ⟨_,h⟩|⟨_,h⟩
 ·cases h
  exact(xF131_6 a)
 ·obtain⟨e,d,h⟩:=Xa h
  have c:=Ws (T:=λo=>sE (λr=>Ex f k r) tru o) d (by
   rintro⟨_,_,_,_,_,_,_⟩ o h
   exact xLF73_1_54 h)
  rcases e with s|⟨i,p,q,j,l,n⟩
  ·cases h
   exact((xF131_6 a).tr c)
  ·have b:=xJF73_1_16 h
   exact((xF131_6 a).tr b)
theorem xLF131_7_11 {d b e c r} (h:LF131_7_11 d b e c=some r):sE (λr=>Ex b c r.2) (λr=>Ex b c r) r:=by
 unfold LF131_7_11 at h
 rcases cor h with ⟨_,h⟩|⟨_,h⟩
 ·obtain⟨_,_,h⟩:=Xa h
  obtain⟨_,_,h⟩:=Xa h
  obtain⟨f,a,h⟩:=Xa h
  cases h
  exact(Ym a)
 ·cases h
  exact Ex.refl
theorem xF131_7 {g b c r} (h:F131_7 g b c=some r):Ex b c r:=by
 unfold F131_7 at h
 obtain⟨f,d,h⟩:=Xa h
 have a:=Xl (I:=λs=>Ex b c s.2) (T:=λo=>Ex b c o) d (Ex.refl) (by
  rintro⟨j,i⟩ o e h
  have k:=xLF131_7_11 h
  rcases o with o|o
  ·exact e.tr k
  ·exact e.tr k)
 generalize f=v6 at *
 cases h
 exact a
theorem xF74_1 {d b c r} (h:Wt d b c=some r):Ex b c r:=by
 unfold Wt at h
 obtain⟨e,a,h⟩:=Xa h
 cases h
 exact(xF131_7 a)
theorem xLF131_8_11 {d b e c r} (h:Qb d b e c=some r):sE (λr=>Ex b c r.2) (λr=>Ex b c r) r:=by
 unfold Qb at h
 rcases cor h with ⟨_,h⟩|⟨_,h⟩
 ·obtain⟨_,_,h⟩:=Xa h
  obtain⟨_,_,h⟩:=Xa h
  obtain⟨f,a,h⟩:=Xa h
  cases h
  exact(Ym a)
 ·cases h
  exact Ex.refl
theorem xF131_8 {g b c r} (h:F131_8 g b c=some r):Ex b c r:=by
 unfold F131_8 at h
 obtain⟨f,d,h⟩:=Xa h
 have a:=Xl (I:=λs=>Ex b c s.2) (T:=λo=>Ex b c o) d (Ex.refl) (by
  rintro⟨j,i⟩ o e h
  have k:=xLF131_8_11 h
  rcases o with o|o
  ·exact e.tr k
  ·exact e.tr k)
 generalize f=v6 at *
 cases h
 exact a
theorem xF75_1 {d b c r} (h:Zt d b c=some r):Ex b c r:=by
 unfold Zt at h
 obtain⟨e,a,h⟩:=Xa h
 cases h
 exact(xF131_8 a)
theorem xJF140_5_14 {b a r} (h:Qg b a=some r):sE (λr=>r.2=a) (λr=>r=a) r:=by
 unfold Qg at h
 cases h
 exact rfl
theorem xJF140_5_27 {b a r} (h:Qf b a=some r):sE (λr=>r.2=a) (λr=>r=a) r:=by
 unfold Qf at h
 cases h
 exact rfl
theorem xJF140_5_40 {b a r} (h:Qe b a=some r):sE (λr=>r.2=a) (λr=>r=a) r:=by
 unfold Qe at h
 cases h
 exact rfl
theorem xLF140_5_50 {f d k e j c g a r} (h:LF140_5_50 f d k e j c g a=some r):sE (λr=>Ex c a r.2) (λr=>Ex c a r) r:=by
 unfold LF140_5_50 at h
 rcases cor h with ⟨_,h⟩|⟨_,h⟩
 ·obtain⟨_,_,h⟩:=Xa h
  obtain⟨_,_,h⟩:=Xa h
  obtain⟨i,b,h⟩:=Xa h
  cases h
  exact(Ym b)
 ·cases h
  exact Ex.refl
theorem xLF140_5_37 {i j p t e g a r} (h:LF140_5_37 i j p t e g a=some r):sE (λr=>Ex e a r.2) (λr=>Ex e a r) r:=by
 unfold LF140_5_37 at h
 rcases cor h with ⟨_,h⟩|⟨_,h⟩
 ·obtain⟨_,_,h⟩:=Xa h
  obtain⟨f,d,h⟩:=Xa h
  have b:=Xl (I:=λs=>Ex e a s.2) (T:=λo=>Ex e a o) d (Ex.refl) (by
   rintro⟨q,n⟩ o l h
   have k:=xLF140_5_50 h
   rcases o with o|o
   ·exact l.tr k
   ·exact l.tr k)
  generalize f=v45 at *
  have c:=xJF140_5_40 h
  rcases r with r|r
  ·exact b.eq c
  ·exact b.eq c
 ·cases h
  exact Ex.refl
theorem xLF140_5_24 {f l q e g a r} (h:LF140_5_24 f l q e g a=some r):sE (λr=>Ex e a r.2) (λr=>Ex e a r) r:=by
 unfold LF140_5_24 at h
 rcases cor h with ⟨_,h⟩|⟨_,h⟩
 ·obtain⟨_,_,h⟩:=Xa h
  obtain⟨i,d,h⟩:=Xa h
  have c:=Xl (I:=λs=>Ex e a s.2) (T:=λo=>Ex e a o) d (Ex.refl) (by
   rintro⟨p,n⟩ o j h
   have k:=xLF140_5_37 h
   rcases o with o|o
   ·exact j.tr k
   ·exact j.tr k)
  generalize i=v32 at *
  have b:=xJF140_5_27 h
  rcases r with r|r
  ·exact c.eq b
  ·exact c.eq b
 ·cases h
  exact Ex.refl
theorem xLF140_5_11 {j c l d r} (h:LF140_5_11 j c l d=some r):sE (λr=>Ex c d r.2) (λr=>Ex c d r) r:=by
 unfold LF140_5_11 at h
 rcases cor h with ⟨_,h⟩|⟨_,h⟩
 ·obtain⟨_,_,h⟩:=Xa h
  obtain⟨e,b,h⟩:=Xa h
  have k178:=Xl (I:=λs=>Ex c d s.2) (T:=λo=>Ex c d o) b (Ex.refl) (by
   rintro⟨i,g⟩ o f h
   have k:=xLF140_5_24 h
   rcases o with o|o
   ·exact f.tr k
   ·exact f.tr k)
  generalize e=v19 at *
  have a:=xJF140_5_14 h
  rcases r with r|r
  ·exact k178.eq a
  ·exact k178.eq a
 ·cases h
  exact Ex.refl
theorem xF140_5 {g b c r} (h:F140_5 g b c=some r):Ex b c r:=by
 unfold F140_5 at h
 obtain⟨f,d,h⟩:=Xa h
 have a:=Xl (I:=λs=>Ex b c s.2) (T:=λo=>Ex b c o) d (Ex.refl) (by
  rintro⟨j,i⟩ o e h
  have k:=xLF140_5_11 h
  rcases o with o|o
  ·exact e.tr k
  ·exact e.tr k)
 generalize f=v6 at *
 cases h
 exact a
theorem xF76_1 {d b c r} (h:Zx d b c=some r):Ex b c r:=by
 unfold Zx at h
 obtain⟨e,a,h⟩:=Xa h
 cases h
 exact(xF140_5 a)
end Go.Proofs.YtibndgdocbbbeaaGreat
namespace Go.Proofs.YtibndgdocbbbeaaGreat
open Go.PE
set_option maxRecDepth 100000
theorem q3 {k:Int} {l:List G159} {r} (h:Wa k l=some r):Sl.es r=l:=by
 unfold Wa at h
 cases h
 exact mkSl_es l
theorem Ex.nil {R:Int} {l:List G159} (h:Ex R l []):l=[]:=by
 obtain⟨t,e,_⟩:=h
 exact(List.append_eq_nil_iff.1 e.symm).1
theorem ccc {a:Type} {c:Bool} {x:Option a} {r:a} (h:(bif c then x else x)=some r):x=some r:=by cases c<;>exact h
def Pf (l m:List G159):Prop:=m=[]->l=[]
theorem Pf.ex {R:Int} {l m n:List G159} (h:Ex R l m) (k:Pf m n):Pf l n:=λe=>by
 have:=k e
 subst this
 exact h.nil
theorem p117 {v s b r} (h:Vb v s b=some r):Pf v (Sl.es r):=by
 unfold Vb at h
 rcases cor h with ⟨_,h⟩|⟨_,h⟩
 ·rw[q3 h];exact id
 ·obtain⟨u,a,h⟩:=Xa h
  refine .ex (xF76_1 a) ?_
  rw[q3 h];exact id
theorem p109 {v s b r} (h:Vc v s b=some r):Pf v (Sl.es r):=by
 unfold Vc at h
 rcases cor h with ⟨_,h⟩|⟨_,h⟩
 ·rw[q3 h];exact id
 ·obtain⟨u,a,h⟩:=Xa h
  refine .ex (xF75_1 a) ?_
  rcases cor h with ⟨_,h⟩|⟨_,h⟩
  ·obtain⟨_,_,h⟩:=Xa h
   exact p117 h
  ·exact p117 h
theorem p101 {v s b r} (h:Vd v s b=some r):Pf v (Sl.es r):=by
 unfold Vd at h
 rcases cor h with ⟨_,h⟩|⟨_,h⟩
 ·rw[q3 h];exact id
 ·obtain⟨u,a,h⟩:=Xa h
  refine .ex (xF74_1 a) ?_
  rcases cor h with ⟨_,h⟩|⟨_,h⟩
  ·obtain⟨_,_,h⟩:=Xa h
   exact p109 h
  ·exact p109 h
theorem p93 {v s b r} (h:Ud v s b=some r):Pf v (Sl.es r):=by
 unfold Ud at h
 rcases cor h with ⟨_,h⟩|⟨_,h⟩
 ·rw[q3 h];exact id
 ·obtain⟨u,a,h⟩:=Xa h
  refine .ex (xF73_1 a) ?_
  rcases cor h with ⟨_,h⟩|⟨_,h⟩
  ·obtain⟨_,_,h⟩:=Xa h
   exact p101 h
  ·exact p101 h
theorem p85 {v s b r} (h:Ue v s b=some r):Pf v (Sl.es r):=by
 unfold Ue at h
 rcases cor h with ⟨_,h⟩|⟨_,h⟩
 ·rw[q3 h];exact id
 ·obtain⟨u,a,h⟩:=Xa h
  refine .ex (xF72_1 a) ?_
  rcases cor h with ⟨_,h⟩|⟨_,h⟩
  ·obtain⟨_,_,h⟩:=Xa h
   exact p93 h
  ·exact p93 h
theorem p77 {v s b r} (h:Uf v s b=some r):Pf v (Sl.es r):=by
 unfold Uf at h
 rcases cor h with ⟨_,h⟩|⟨_,h⟩
 ·rw[q3 h];exact id
 ·obtain⟨u,a,h⟩:=Xa h
  refine .ex (xF71_1 a) ?_
  rcases cor h with ⟨_,h⟩|⟨_,h⟩
  ·obtain⟨_,_,h⟩:=Xa h
   exact p85 h
  ·exact p85 h
theorem p69 {v s b r} (h:Ug v s b=some r):Pf v (Sl.es r):=by
 unfold Ug at h
 rcases cor h with ⟨_,h⟩|⟨_,h⟩
 ·rw[q3 h];exact id
 ·obtain⟨u,a,h⟩:=Xa h
  refine .ex (xF70_1 a) ?_
  rcases cor h with ⟨_,h⟩|⟨_,h⟩
  ·obtain⟨_,_,h⟩:=Xa h
   exact p77 h
  ·exact p77 h
theorem p61 {v s b r} (h:Uh v s b=some r):Pf v (Sl.es r):=by
 unfold Uh at h
 rcases cor h with ⟨_,h⟩|⟨_,h⟩
 ·rw[q3 h];exact id
 ·obtain⟨u,a,h⟩:=Xa h
  refine .ex (xF69_1 a) ?_
  rcases cor h with ⟨_,h⟩|⟨_,h⟩
  ·obtain⟨_,_,h⟩:=Xa h
   exact p69 h
  ·exact p69 h
theorem y117 {s r} (h:Vb [] s false=some r) (hr:Sl.es r=[]):Zx s 17 []=some []:=by
 unfold Vb at h
 rw[cond_false]at h
 obtain⟨u,a,g⟩:=Xa h
 rw[q3 g]at hr
 subst hr
 exact a
theorem y109 {s r} (h:Vc [] s false=some r) (hr:Sl.es r=[]):Zt s 16 []=some []/\Zx s 17 []=some []:=by
 unfold Vc at h
 rw[cond_false]at h
 obtain⟨u,a,g⟩:=Xa h
 clear h
 have e:u=[]:=by
  rcases cor g with ⟨_,h⟩|⟨_,h⟩
  ·obtain⟨_,_,h⟩:=Xa h
   exact p117 h hr
  ·exact p117 h hr
 subst e
 have h:Vb [] s false=some r:=by
  rcases cor g with ⟨c,h⟩|⟨_,h⟩
  ·exact absurd c (by decide)
  ·exact h
 exact⟨a,y117 h hr⟩
theorem y101 {s r} (h:Vd [] s false=some r) (hr:Sl.es r=[]):Wt s 15 []=some []/\Zt s 16 []=some []/\Zx s 17 []=some []:=by
 unfold Vd at h
 rw[cond_false]at h
 obtain⟨u,a,g⟩:=Xa h
 clear h
 have e:u=[]:=by
  rcases cor g with ⟨_,h⟩|⟨_,h⟩
  ·obtain⟨_,_,h⟩:=Xa h
   exact p109 h hr
  ·exact p109 h hr
 subst e
 have h:Vc [] s false=some r:=by
  rcases cor g with ⟨c,h⟩|⟨_,h⟩
  ·exact absurd c (by decide)
  ·exact h
 exact⟨a,y109 h hr⟩
theorem y93 {s r} (h:Ud [] s false=some r) (hr:Sl.es r=[]):Ve s 14 []=some []/\Wt s 15 []=some []/\Zt s 16 []=some []/\Zx s 17 []=some []:=by
 unfold Ud at h
 rw[cond_false]at h
 obtain⟨u,a,g⟩:=Xa h
 clear h
 have e:u=[]:=by
  rcases cor g with ⟨_,h⟩|⟨_,h⟩
  ·obtain⟨_,_,h⟩:=Xa h
   exact p101 h hr
  ·exact p101 h hr
 subst e
 have h:Vd [] s false=some r:=by
  rcases cor g with ⟨c,h⟩|⟨_,h⟩
  ·exact absurd c (by decide)
  ·exact h
 exact⟨a,y101 h hr⟩
theorem y85 {s r} (h:Ue [] s false=some r) (hr:Sl.es r=[]):F72_1 s 13 []=some []/\Ve s 14 []=some []/\Wt s 15 []=some []/\Zt s 16 []=some []/\Zx s 17 []=some []:=by
 unfold Ue at h
 rw[cond_false]at h
 obtain⟨u,a,g⟩:=Xa h
 clear h
 have e:u=[]:=by
  rcases cor g with ⟨_,h⟩|⟨_,h⟩
  ·obtain⟨_,_,h⟩:=Xa h
   exact p93 h hr
  ·exact p93 h hr
 subst e
 have h:Ud [] s false=some r:=by
  rcases cor g with ⟨c,h⟩|⟨_,h⟩
  ·exact absurd c (by decide)
  ·exact h
 exact⟨a,y93 h hr⟩
theorem y77 {s r} (h:Uf [] s false=some r) (hr:Sl.es r=[]):F71_1 s 12 []=some []/\F72_1 s 13 []=some []/\Ve s 14 []=some []/\Wt s 15 []=some []/\Zt s 16 []=some []/\Zx s 17 []=some []:=by
 unfold Uf at h
 rw[cond_false]at h
 obtain⟨u,a,g⟩:=Xa h
 clear h
 have e:u=[]:=by
  rcases cor g with ⟨_,h⟩|⟨_,h⟩
  ·obtain⟨_,_,h⟩:=Xa h
   exact p85 h hr
  ·exact p85 h hr
 subst e
 have h:Ue [] s false=some r:=by
  rcases cor g with ⟨c,h⟩|⟨_,h⟩
  ·exact absurd c (by decide)
  ·exact h
 exact⟨a,y85 h hr⟩
theorem y69 {s r} (h:Ug [] s false=some r) (hr:Sl.es r=[]):F70_1 s 11 []=some []/\F71_1 s 12 []=some []/\F72_1 s 13 []=some []/\Ve s 14 []=some []/\Wt s 15 []=some []/\Zt s 16 []=some []/\Zx s 17 []=some []:=by
 unfold Ug at h
 rw[cond_false]at h
 obtain⟨u,a,g⟩:=Xa h
 clear h
 have e:u=[]:=by
  rcases cor g with ⟨_,h⟩|⟨_,h⟩
  ·obtain⟨_,_,h⟩:=Xa h
   exact p77 h hr
  ·exact p77 h hr
 subst e
 have h:Uf [] s false=some r:=by
  rcases cor g with ⟨c,h⟩|⟨_,h⟩
  ·exact absurd c (by decide)
  ·exact h
 exact⟨a,y77 h hr⟩
theorem y61 {s r} (h:Uh [] s false=some r) (hr:Sl.es r=[]):F69_1 s 10 []=some []/\F70_1 s 11 []=some []/\F71_1 s 12 []=some []/\F72_1 s 13 []=some []/\Ve s 14 []=some []/\Wt s 15 []=some []/\Zt s 16 []=some []/\Zx s 17 []=some []:=by
 unfold Uh at h
 rw[cond_false]at h
 obtain⟨u,a,g⟩:=Xa h
 clear h
 have e:u=[]:=by
  rcases cor g with ⟨_,h⟩|⟨_,h⟩
  ·obtain⟨_,_,h⟩:=Xa h
   exact p69 h hr
  ·exact p69 h hr
 subst e
 have h:Ug [] s false=some r:=by
  rcases cor g with ⟨c,h⟩|⟨_,h⟩
  ·exact absurd c (by decide)
  ·exact h
 exact⟨a,y69 h hr⟩
theorem z54 {s l r} (h:JF29_54 s l=some r) (hr:Sl.es r=[]):l=[]/\F68_1 s 9 []=some []/\F69_1 s 10 []=some []/\F70_1 s 11 []=some []/\F71_1 s 12 []=some []/\F72_1 s 13 []=some []/\Ve s 14 []=some []/\Wt s 15 []=some []/\Zt s 16 []=some []/\Zx s 17 []=some []:=by
 unfold JF29_54 at h
 obtain⟨u,a,g⟩:=Xa h
 clear h
 have e:u=[]:=by
  rcases cor g with ⟨_,h⟩|⟨_,h⟩
  ·obtain⟨_,_,h⟩:=Xa h
   exact p61 h hr
  ·exact p61 h hr
 subst e
 have k:=(xF68_1 a).nil
 subst k
 have h:Uh [] s false=some r:=by
  rcases cor g with ⟨c,h⟩|⟨_,h⟩
  ·exact absurd c (by decide)
  ·exact h
 exact⟨rfl,a,y61 h hr⟩
theorem z48 {s l r} (h:JF29_48 s l=some r) (hr:Sl.es r=[]):l=[]/\F67_1 s 8 []=some []/\F68_1 s 9 []=some []/\F69_1 s 10 []=some []/\F70_1 s 11 []=some []/\F71_1 s 12 []=some []/\F72_1 s 13 []=some []/\Ve s 14 []=some []/\Wt s 15 []=some []/\Zt s 16 []=some []/\Zx s 17 []=some []:=by
 unfold JF29_48 at h
 obtain⟨u,a,h⟩:=Xa h
 have e:=z54 (ccc h) hr
 obtain⟨rfl,e⟩:=e
 have k:=(xF67_1 a).nil
 subst k
 exact⟨rfl,a,e⟩
theorem z42 {s l r} (h:JF29_42 s l=some r) (hr:Sl.es r=[]):l=[]/\F66_1 s 7 []=some []/\F67_1 s 8 []=some []/\F68_1 s 9 []=some []/\F69_1 s 10 []=some []/\F70_1 s 11 []=some []/\F71_1 s 12 []=some []/\F72_1 s 13 []=some []/\Ve s 14 []=some []/\Wt s 15 []=some []/\Zt s 16 []=some []/\Zx s 17 []=some []:=by
 unfold JF29_42 at h
 obtain⟨u,a,h⟩:=Xa h
 have e:=z48 (ccc h) hr
 obtain⟨rfl,e⟩:=e
 have k:=(xF66_1 a).nil
 subst k
 exact⟨rfl,a,e⟩
theorem z36 {s l r} (h:JF29_36 s l=some r) (hr:Sl.es r=[]):l=[]/\F65_1 s 6 []=some []/\F66_1 s 7 []=some []/\F67_1 s 8 []=some []/\F68_1 s 9 []=some []/\F69_1 s 10 []=some []/\F70_1 s 11 []=some []/\F71_1 s 12 []=some []/\F72_1 s 13 []=some []/\Ve s 14 []=some []/\Wt s 15 []=some []/\Zt s 16 []=some []/\Zx s 17 []=some []:=by
 unfold JF29_36 at h
 obtain⟨u,a,h⟩:=Xa h
 have e:=z42 (ccc h) hr
 obtain⟨rfl,e⟩:=e
 have k:=(xF65_1 a).nil
 subst k
 exact⟨rfl,a,e⟩
theorem z30 {s l r} (h:JF29_30 s l=some r) (hr:Sl.es r=[]):l=[]/\F64_1 s 5 []=some []/\F65_1 s 6 []=some []/\F66_1 s 7 []=some []/\F67_1 s 8 []=some []/\F68_1 s 9 []=some []/\F69_1 s 10 []=some []/\F70_1 s 11 []=some []/\F71_1 s 12 []=some []/\F72_1 s 13 []=some []/\Ve s 14 []=some []/\Wt s 15 []=some []/\Zt s 16 []=some []/\Zx s 17 []=some []:=by
 unfold JF29_30 at h
 obtain⟨u,a,h⟩:=Xa h
 have e:=z36 (ccc h) hr
 obtain⟨rfl,e⟩:=e
 have k:=(xF64_1 a).nil
 subst k
 exact⟨rfl,a,e⟩
theorem z24 {s l r} (h:JF29_24 s l=some r) (hr:Sl.es r=[]):l=[]/\F63_1 s 4 []=some []/\F64_1 s 5 []=some []/\F65_1 s 6 []=some []/\F66_1 s 7 []=some []/\F67_1 s 8 []=some []/\F68_1 s 9 []=some []/\F69_1 s 10 []=some []/\F70_1 s 11 []=some []/\F71_1 s 12 []=some []/\F72_1 s 13 []=some []/\Ve s 14 []=some []/\Wt s 15 []=some []/\Zt s 16 []=some []/\Zx s 17 []=some []:=by
 unfold JF29_24 at h
 obtain⟨u,a,h⟩:=Xa h
 have e:=z30 (ccc h) hr
 obtain⟨rfl,e⟩:=e
 have k:=(xF63_1 a).nil
 subst k
 exact⟨rfl,a,e⟩
theorem z18 {s l r} (h:JF29_18 s l=some r) (hr:Sl.es r=[]):l=[]/\F62_1 s 3 []=some []/\F63_1 s 4 []=some []/\F64_1 s 5 []=some []/\F65_1 s 6 []=some []/\F66_1 s 7 []=some []/\F67_1 s 8 []=some []/\F68_1 s 9 []=some []/\F69_1 s 10 []=some []/\F70_1 s 11 []=some []/\F71_1 s 12 []=some []/\F72_1 s 13 []=some []/\Ve s 14 []=some []/\Wt s 15 []=some []/\Zt s 16 []=some []/\Zx s 17 []=some []:=by
 unfold JF29_18 at h
 obtain⟨u,a,h⟩:=Xa h
 have e:=z24 (ccc h) hr
 obtain⟨rfl,e⟩:=e
 have k:=(xF62_1 a).nil
 subst k
 exact⟨rfl,a,e⟩
theorem z32 {s r} (h:F29 s=some r) (hr:Sl.es r=[]):F60_1 s 1 []=some []/\F61_1 s 2 []=some []/\F62_1 s 3 []=some []/\F63_1 s 4 []=some []/\F64_1 s 5 []=some []/\F65_1 s 6 []=some []/\F66_1 s 7 []=some []/\F67_1 s 8 []=some []/\F68_1 s 9 []=some []/\F69_1 s 10 []=some []/\F70_1 s 11 []=some []/\F71_1 s 12 []=some []/\F72_1 s 13 []=some []/\Ve s 14 []=some []/\Wt s 15 []=some []/\Zt s 16 []=some []/\Zx s 17 []=some []:=by
 unfold F29 at h
 have h:JF29_4 s=some r:=by rcases cor h with ⟨_,h⟩|⟨_,h⟩<;>exact h
 unfold JF29_4 at h
 obtain⟨u,b,h⟩:=Xa h
 rcases cor h with ⟨c,h⟩|⟨_,h⟩
 ·unfold JF29_11 at h
  rw[cond_true]at h
  have e:=q3 h
  rw[hr]at e
  subst e
  cases c
 ·unfold JF29_11 at h
  rw[cond_false]at h
  obtain⟨w,a,h⟩:=Xa h
  obtain⟨rfl,e⟩:=z18 (ccc h) hr
  have k:=(xF61_1 a).nil
  subst k
  exact⟨b,a,e⟩
theorem z13 {s} (h:F14 s=some true):F60_1 s 1 []=some []/\F61_1 s 2 []=some []/\F62_1 s 3 []=some []/\F63_1 s 4 []=some []/\F64_1 s 5 []=some []/\F65_1 s 6 []=some []/\F66_1 s 7 []=some []/\F67_1 s 8 []=some []/\F68_1 s 9 []=some []/\F69_1 s 10 []=some []/\F70_1 s 11 []=some []/\F71_1 s 12 []=some []/\F72_1 s 13 []=some []/\Ve s 14 []=some []/\Wt s 15 []=some []/\Zt s 16 []=some []/\Zx s 17 []=some []:=by
 unfold F14 at h
 obtain⟨r,hr,h⟩:=Xa h
 refine z32 hr ?_
 have e:=Option.some.inj h
 simp only[ln]at e
 exact List.eq_nil_of_length_eq_zero (by simpa using e)
theorem f99 {b i s r l} (h:Yf b i s r l=some []):b=false/\l=[]:=by
 unfold Yf at h
 cases b with
 |false=>cases h;exact⟨rfl,rfl⟩
 |true=>
  rw[cond_true]at h
  obtain⟨q,a,h⟩:=Xa h
  cases h
  unfold gapp at a
  split at a
  ·have e:=Option.some.inj a
   exact nomatch (List.append_eq_nil_iff.1 e).2
  ·cases a
theorem each_inv {t:Type} {s:Sl t} {B:Int->List G159->Option ((Int×List G159)⊕List G159)} {P:Int->t->Prop} (hl:ln s<=1000000000000)
  (w:∀ i l o,B i l=some o->(i<ln s/\∃ m n,gx (Sl.es s) i=some m/\o=.inl (wi (i+1),n)/\(n=[]->l=[]/\P i m))\/(¬ i<ln s/\o=.inr l))
  {f r:List G159} (h:Xg (λ(x:Int×List G159)=>match x with|(i,l)=>B i l) (0,f)=some r) (hr:r=[]):f=[]/\∀ j m,gx (Sl.es s) j=some m->P j m:=by
 have key:=Xl (I:=λx=>0<=x.1/\(x.2=[]->f=[]/\∀ j,j<x.1->∀ m,gx (Sl.es s) j=some m->P j m)) (T:=λr=>r=[]->f=[]/\∀ j m,gx (Sl.es s) j=some m->P j m) h ⟨Int.le_refl _,λe=>⟨e,λj a m b=>by have:=(Ya b).1;simp only at a;omega⟩⟩ (by
  rintro⟨i,l⟩ o ⟨u,d⟩ hb
  rcases w i l o hb with ⟨c,m,n,e,rfl,k⟩|⟨c,rfl⟩
  ·have v:wi (i+1)=i+1:=Xp (by simp only at u;omega) (by omega)
   rw[v]
   refine⟨by simp only at u ⊢;omega,λhn=>?_⟩
   obtain⟨q,hp⟩:=k hn
   obtain⟨g,d⟩:=d q
   refine⟨g,λj a p b=>?_⟩
   by_cases hj:j=i
   ·subst hj;cases e.symm.trans b;exact hp
   ·exact d j (by simp only at a ⊢;omega) p b
  ·intro hn
   obtain⟨g,d⟩:=d hn
   refine⟨g,λj p b=>d j ?_ p b⟩
   have:=(Ya b).2
   simp only[ln]at c ⊢
   omega)
 exact key hr
end Go.Proofs.YtibndgdocbbbeaaGreat
namespace Go.Proofs.YtibndgdocbbbeaaGreat
open Go.PE Go.RowKit
set_option maxRecDepth 100000
theorem m5 {s:G27} (A:ln s.fc<=1000) (h:F64_1 s 5 []=some []):∀ j m,gx (Sl.es s.fc) j=some m->∃ n,F99 m=some (n,0):=by
 unfold F64_1 at h
 obtain⟨r,hr,h⟩:=Xa h
 cases h
 unfold F131_3 at hr
 obtain⟨o,f,h⟩:=Xa hr
 cases h
 refine(each_inv (P:=λ_ m=>∃ n,F99 m=some (n,0)) (by omega) ?_ f rfl).2
 intro i l o hb
 unfold Qc at hb
 rcases cor hb with ⟨c,h⟩|⟨c,h⟩
 ·obtain⟨m,k,h⟩:=Xa h
  obtain⟨b,a,h⟩:=Xa h
  obtain⟨w,u,h⟩:=Xa h
  cases h
  refine .inl ⟨of_decide_eq_true c,m,w,k,rfl,λe=>?_⟩
  subst e
  obtain⟨rfl,rfl⟩:=f99 u
  refine⟨rfl,?_⟩
  unfold F135_1 at a
  obtain⟨q,t,a⟩:=Xa a
  have key:∀ v,Uo s m true=some v->v=true:=λv d=>by
   unfold Uo at d
   obtain⟨o,f,d⟩:=Xa d
   cases d
   refine Xl (I:=λx=>x.1=true) (T:=λr=>r=true) f rfl ?_
   rintro⟨b,i⟩ o g hb
   simp only at g
   subst g
   simp only at hb
   unfold LF135_1_18 at hb
   rcases cor hb with ⟨c,h⟩|⟨c,h⟩
   ·obtain⟨p,z,h⟩:=Xa h
    have e:(bif s.faH then Wp m p i true false else Wp m p i true false)=some o:=h
    have e:Wp m p i true false=some o:=ccc e
    cases e
    rfl
   ·cases h
    rfl
  rcases cor a with ⟨c,h⟩|⟨c,h⟩
  ·cases key _ h
  ·obtain⟨n,e⟩:=q
   refine⟨n,?_⟩
   have:e=0:=by simpa using c
   subst this
   exact t
 ·cases h
  exact .inr ⟨of_decide_eq_false c,rfl⟩
theorem m16 {s:G27} (k:ln s.fc<=1000) (h:Zt s 16 []=some []):∀ j m,gx (Sl.es s.fc) j=some m->F166 j m=some false:=by
 unfold Zt at h
 obtain⟨r,hr,h⟩:=Xa h
 cases h
 unfold F131_8 at hr
 obtain⟨o,d,h⟩:=Xa hr
 cases h
 refine(each_inv (P:=λj m=>F166 j m=some false) (by omega) ?_ d rfl).2
 intro i l o hb
 unfold Qb at hb
 rcases cor hb with ⟨c,h⟩|⟨c,h⟩
 ·obtain⟨m,f,h⟩:=Xa h
  obtain⟨b,g,h⟩:=Xa h
  obtain⟨w,a,h⟩:=Xa h
  cases h
  refine .inl ⟨of_decide_eq_true c,m,w,f,rfl,λe=>?_⟩
  subst e
  obtain⟨rfl,rfl⟩:=f99 a
  exact⟨rfl,g⟩
 ·cases h
  exact .inr ⟨of_decide_eq_false c,rfl⟩
def lenOf (m:G75):Int:=if m.faF=0 then m.f6.fI*1935360 / m.f6.fJ else m.faF
theorem unit_dvd {u:Int} (a:1<=u) (b:u<=64) (h:iand .i64 u (wi (u-1))=0):(u=1\/u=2\/u=4\/u=8\/u=16\/u=32\/u=64):=by
 have k:∀ n:Fin 65,1<=n.val->iand .i64 (n.val:Int) (wi ((n.val:Int)-1))=0->(n.val=1\/n.val=2\/n.val=4\/n.val=8\/n.val=16\/n.val=32\/n.val=64):=by decide
 obtain⟨n,rfl⟩:=Int.eq_ofNat_of_zero_le (by omega:0<=u)
 have:=k ⟨n,by omega⟩ (by simp only;omega) h
 simp only at this
 omega
theorem metre_ok {x:G71} (h:F83 x=some 0):1<=x.fI/\x.fI<=64/\1<=x.fJ/\x.fJ<=64/\iand .i64 x.fJ (wi (x.fJ-1))=0:=by
 have d:∀ b,JF83_5 x b=some 0->b=false:=λb hb=>by
  cases b
  ·rfl
  ·unfold JF83_5 at hb
   rw[cond_true]at hb
   cases hb
 have e:∀ b,JF83_2 x b=some 0->b=false/\1<=x.fJ/\x.fJ<=64/\iand .i64 x.fJ (wi (x.fJ-1))=0:=λb hb=>by
  cases b
  ·refine⟨rfl,?_⟩
   unfold JF83_2 at hb
   rw[cond_false]at hb
   rcases cor hb with ⟨_,h⟩|⟨a,hb⟩
   ·cases d _ h
   rcases cor hb with ⟨_,h⟩|⟨b,hb⟩
   ·cases d _ h
   have c:=d _ hb
   have a:=of_decide_eq_false a
   have b:=of_decide_eq_false b
   have c:iand .i64 x.fJ (wi (x.fJ-1))=0:=by simpa only [bne_eq_false_iff_eq] using c
   exact⟨by omega,by omega,c⟩
  ·unfold JF83_2 at hb
   rw[cond_true]at hb
   cases hb
 unfold F83 at h
 rcases cor h with ⟨_,h⟩|⟨a,h⟩
 ·cases(e _ h).1
 ·have k:=e _ h
  have a:=of_decide_eq_false a
  have b:=of_decide_eq_false k.1
  exact⟨by omega,by omega,k.2⟩
theorem len_ok {m:G75} {n:Int} (h:F99 m=some (n,0)):n=lenOf m/\1<=n/\n<=15482880/\1<=m.f6.fJ/\1<=m.f6.fI/\m.f6.fI<=64/\m.f6.fJ<=64:=by
 have s:∀ k,JF99_4 k=some (n,0)->n=k/\k<=15482880:=λk i=>by
  unfold JF99_4 at i
  rcases cor i with ⟨_,h⟩|⟨_,i⟩
  ·cases h
  rcases cor i with ⟨_,h⟩|⟨c,i⟩
  ·cases h
  cases i
  have c:=of_decide_eq_false c
  exact⟨rfl,by omega⟩
 unfold F99 at h
 obtain⟨q,g,h⟩:=Xa h
 rcases cor h with ⟨c,h⟩|⟨c,h⟩
 ·have e:=(Prod.mk.inj (Option.some.inj h)).2
  rw[e]at c
  cases c
 have c:q.2=0:=by simpa using c
 unfold F187 at g
 obtain⟨e,A,g⟩:=Xa g
 rcases cor g with ⟨d,g⟩|⟨d,g⟩
 ·cases g
  simp only at c
  subst c
  cases d
 have d:e=0:=by simpa using d
 subst d
 obtain⟨r,t,p,l,v⟩:=metre_ok A
 obtain⟨w,j,g⟩:=Xa g
 cases g
 unfold F256 F305 at j
 obtain⟨x,f,j⟩:=Xa j
 obtain⟨x,f,z⟩:=Xa f
 cases z
 cases j
 have o:wi (m.f6.fI*x)=m.f6.fI*1935360 / m.f6.fJ/\1<=m.f6.fI*1935360 / m.f6.fJ:=by
  unfold gq at f
  rw[if_neg (by omega)]at f
  have f:=(Option.some.inj f).symm
  rcases unit_dvd p l v with u|u|u|u|u|u|u<;>rw[u]at f ⊢
  ·have e:x=1935360:=f
   subst e;rw[Xp (by omega) (by omega)];omega
  ·have e:x=967680:=f
   subst e;rw[Xp (by omega) (by omega)];omega
  ·have e:x=483840:=f
   subst e;rw[Xp (by omega) (by omega)];omega
  ·have e:x=241920:=f
   subst e;rw[Xp (by omega) (by omega)];omega
  ·have e:x=120960:=f
   subst e;rw[Xp (by omega) (by omega)];omega
  ·have e:x=60480:=f
   subst e;rw[Xp (by omega) (by omega)];omega
  ·have e:x=30240:=f
   subst e;rw[Xp (by omega) (by omega)];omega
 rcases cor h with ⟨a,h⟩|⟨a,h⟩
 ·cases h
 have a:=of_decide_eq_false a
 rcases cor h with ⟨b,h⟩|⟨b,h⟩
 ·have b:=of_decide_eq_true b
  obtain⟨rfl,k⟩:=s _ h
  refine⟨?_,by omega,k,p,r,t,l⟩
  unfold lenOf
  rw[if_neg (by omega)]
 ·have b:=of_decide_eq_false b
  obtain⟨rfl,k⟩:=s _ h
  refine⟨?_,by rw[o.1];exact o.2,k,p,r,t,l⟩
  unfold lenOf
  rw[if_pos (by omega)]
  exact o.1
theorem in_of {a b c:Int} (h:F125 a b c=some true):b<=a/\a<=c:=by
 unfold F125 at h
 rcases cor h with ⟨d,h⟩|⟨d,h⟩
 ·have d:=of_decide_eq_true d
  have e:=of_decide_eq_true (Option.some.inj h)
  exact⟨d,e⟩
 ·cases h
def tempiOk (l:List G111) (n:Int):Prop:=∀ j x,gx l j=some x->0<=x.fAt/\x.fAt<=n-1/\1<=x.f8/\x.f8<=60000000/\(0<j->∃ y,gx l (j-1)=some y/\y.fAt<x.fAt)
theorem tempi_ok {i:Int} {m:G75} {n:Int} (hl:ln m.fm<=1000) (hn:F99 m=some (n,0)) (W:1<=n) (Y:n<=15482880) (h:F166 i m=some false):tempiOk (Sl.es m.fm) n:=by
 have B:∀ b,JF166_5 m (n,0) b=some false->tempiOk (Sl.es m.fm) n:=λb hb=>by
  unfold JF166_5 at hb
  obtain⟨o,R,hb⟩:=Xa hb
  cases hb
  refine Xl (I:=λx=>0<=x.2/\(x.1=false->0<x.2->tempiOk ((Sl.es m.fm).take x.2.toNat) n)) (T:=λr=>r=false->tempiOk (Sl.es m.fm) n) R ⟨Int.le_refl _,λ_ h=>absurd h (by simp)⟩ ?_ rfl
  rintro⟨v,k⟩ o ⟨P,D⟩ hb
  simp only at P D hb
  unfold LF166_15 at hb
  rcases cor hb with ⟨c,hb⟩|⟨c,hb⟩
  ·have c:=of_decide_eq_true c
   have C:wi (k+1)=k+1:=Xp (by omega) (by omega)
   obtain⟨x,A,hb⟩:=Xa hb
   have l:0<=wi (k+1)/\(true=false->0<wi (k+1)->tempiOk ((Sl.es m.fm).take (wi (k+1)).toNat) n):=by
    rw[C]
    exact⟨by omega,λh=>by cases h⟩
   rcases cor hb with ⟨d,hb⟩|⟨d,hb⟩
   ·cases hb;exact l
   have d0:=d
   obtain⟨a,G,hb⟩:=Xa hb
   rcases cor hb with ⟨d,hb⟩|⟨d,hb⟩
   ·cases hb;exact l
   have d:a=true:=by simpa using d
   rw[d]at G
   obtain⟨b,s,hb⟩:=Xa hb
   rcases cor hb with ⟨d,hb⟩|⟨d,hb⟩
   ·cases hb;exact l
   have d:b=true:=by simpa using d
   rw[d]at s
   have M:=in_of G
   have X:=in_of s
   have J:wi (n-1)=n-1:=Xp (by omega) (by omega)
   rw[J]at M
   have g:(0<k->∃ y,gx (Sl.es m.fm) (k-1)=some y/\y.fAt<x.fAt)->tempiOk ((Sl.es m.fm).take (k+1).toNat) n:=λhp=>by
    intro j y w
    have H:=Ya w
    rw[List.length_take]at H
    have Q:∀ i q,i<k+1->gx ((Sl.es m.fm).take (k+1).toNat) i=some q->gx (Sl.es m.fm) i=some q:=λi q V e=>by
     unfold gx at e ⊢
     split at e
     ·rename_i f
      rw[if_pos f]
      rw[List.getElem?_take]at e
      rw[if_pos (by omega)]at e
      exact e
     ·cases e
    have F:∀ i q t,i<t->gx (Sl.es m.fm) i=some q->gx ((Sl.es m.fm).take t.toNat) i=some q:=λi q t V e=>by
     have:=Ya e
     unfold gx at e ⊢
     rw[if_pos this.1]at e ⊢
     rw[List.getElem?_take,if_pos (by omega)]
     exact e
    have u:=Q j y (by omega) w
    by_cases hk:j=k
    ·subst hk
     cases A.symm.trans u
     refine⟨by omega,by omega,by omega,by omega,λh=>?_⟩
     obtain⟨z,f,p⟩:=hp h
     exact⟨z,F _ _ _ (by omega) f,p⟩
    ·obtain⟨N,O,q3,K,U⟩:=D d0 (by omega) j y (F _ _ _ (by omega) u)
     refine⟨N,O,q3,K,λh=>?_⟩
     obtain⟨z,f,p⟩:=U h
     refine⟨z,?_,p⟩
     have E:gx (Sl.es m.fm) (j-1)=some z:=by
      unfold gx at f ⊢
      rw[if_pos (by omega)]at f ⊢
      rw[List.getElem?_take]at f
      split at f
      ·exact f
      ·cases f
     exact F _ _ _ (by omega) E
   rcases cor hb with ⟨d,hb⟩|⟨d,hb⟩
   ·obtain⟨y,w,hb⟩:=Xa hb
    cases hb
    have d:=of_decide_eq_true d
    rw[Xp (by omega) (by omega)]at w
    simp only[C]
    refine⟨by omega,λh _=>g λ_=>⟨y,w,?_⟩⟩
    have:=of_decide_eq_false h
    omega
   ·cases hb
    have d:=of_decide_eq_false d
    simp only[C]
    exact⟨by omega,λ_ _=>g λh=>absurd h (by omega)⟩
  ·cases hb
   have c:=of_decide_eq_false c
   intro h j x A
   have H:=Ya A
   simp only[ln]at c
   have:=D h (by omega)
   rw[List.take_of_length_le (by omega)]at this
   exact this j x A
 unfold F166 at h
 rw[hn]at h
 simp only[Option.bind_some]at h
 rcases cor h with ⟨_,h⟩|⟨_,h⟩
 ·obtain⟨a,_,h⟩:=Xa h
  rcases cor h with ⟨_,h⟩|⟨_,h⟩
  ·exact B _ h
  ·obtain⟨a,_,h⟩:=Xa h
   exact B _ h
 ·obtain⟨a,_,h⟩:=Xa h
  exact B _ h
end Go.Proofs.YtibndgdocbbbeaaGreat
namespace Go.Proofs.YtibndgdocbbbeaaGreat
open Go.PE Go.RowKit
set_option maxRecDepth 100000
structure MOk (m:G75):Prop where
 len:F99 m=some (lenOf m,0)
 lo:1<=lenOf m
 hi:lenOf m<=15482880
 u0:1<=m.f6.fJ
 c0:1<=m.f6.fI
 c1:m.f6.fI<=64
 nt:ln m.fm<=1000
 tm:tempiOk (Sl.es m.fm) (lenOf m)
theorem all_ok {s:G27} (p:ln s.fc<=10) (c:∀ m∈Sl.es s.fc,ln m.fm<=1000) (h:F14 s=some true):∀ m∈Sl.es s.fc,MOk m:=by
 obtain⟨_,_,_,_,l,_,_,_,_,_,_,_,_,_,_,b,_⟩:=z13 h
 intro m a
 obtain⟨i,k,rfl⟩:=List.getElem_of_mem a
 have f:gx (Sl.es s.fc) (i:Int)=some (Sl.es s.fc)[i]:=by
  unfold gx
  rw[if_pos (by omega)]
  exact List.getElem?_eq_getElem k
 obtain⟨n,hn⟩:=m5 (by omega) l _ _ f
 obtain⟨rfl,d,e,g,j,o,_⟩:=len_ok hn
 exact⟨hn,d,e,g,j,o,c _ a,tempi_ok (c _ a) hn d e (m16 (by omega) b _ _ f)⟩
def sts:Int->List G75->List Int
 |a,[]=>[a]
 |a,m::l=>a::sts (a+lenOf m) l
theorem Wi {a:Type} {l:List a} {i:Int} {y:a} (h:gx l i=some y):l.drop i.toNat=y::l.drop (i+1).toNat:=by
 have k:=Ya h
 unfold gx at h
 rw[if_pos k.1,List.getElem?_eq_getElem (by omega)]at h
 rw[List.drop_eq_getElem_cons (by omega),Option.some.inj h,show(i+1).toNat=i.toNat+1 by omega]
theorem gx_last {c:Type} {b:List c} {a:c} {i:Int} (h:(b.length:Int)=i) (l:List c):gx (b++a::l) i=some a:=by
 subst h
 unfold gx
 rw[if_pos (by omega),Int.toNat_natCast,List.getElem?_append_right (Nat.le_refl _),Nat.sub_self]
 rfl
theorem gx_ex {c:Type} {l:List c} {i:Int} (a:0<=i) (b:i<l.length):∃ y,gx l i=some y/\y∈l:=by
 obtain⟨y,e,m,_⟩:=t_gx a b
 exact⟨y,e,m⟩
theorem sts_head (a:Int) (l:List G75):∃ r,sts a l=a::r:=by cases l<;>exact⟨_,rfl⟩
theorem sts_gen {s:Sl G75} {B:List Int->Int->Option ((List Int×Int)⊕List Int)} (hl:ln s<=10) (ok:∀ m∈Sl.es s,MOk m)
  (r:∀ l i m x,gx (Sl.es s) i=some m->MOk m->gx l i=some x->0<=x->x<=1000000000->i<=1000->l.length<=1000->B l i=some (.inl (l++[x+lenOf m],i+1)))
  (p:∀ l i,¬ i<ln s->B l i=some (.inr l)):Xg (λ(x:List Int×Int)=>match x with|(l,i)=>B l i) ([0],0)=some (sts 0 (Sl.es s)):=by
 obtain⟨t,k,rfl⟩:=Xs (body:=λ(x:List Int×Int)=>match x with|(l,i)=>B l i) (I:=λx=>∃ b a,x.1=b++[a]/\(b.length:Int)=x.2/\x.2<=ln s/\0<=a/\a<=x.2*15482880/\b++sts a ((Sl.es s).drop x.2.toNat)=sts 0 (Sl.es s))
  (μ:=λx=>(ln s-x.2).toNat) (T:=λt=>t=sts 0 (Sl.es s)) (s:=([0],0)) (by
   rintro⟨l,i⟩ ⟨b,a,d,f,q,n,j,e⟩
   simp only at d f q j e ⊢
   by_cases c:i<ln s
   ·obtain⟨m,h,g⟩:=gx_ex (l:=Sl.es s) (i:=i) (by omega) c
    have o:=ok m g
    have u:=o.lo
    have v:=o.hi
    refine .inl ⟨_,r l i m a h o (by rw[d];exact gx_last f []) n (by omega) (by omega) (by rw[d];simp;omega),⟨b++[a],a+lenOf m,by simp[d],by simp[f],by simp only;omega,by omega,by simp only;omega,?_⟩,by simp only;omega⟩
    rw[Wi h]at e
    rw[<-e]
    simp[sts]
   ·refine .inr ⟨l,p l i c,?_⟩
    rw[List.drop_of_length_le (by simp only[ln]at c;omega)]at e
    rw[d]
    exact e) ⟨[],0,rfl,rfl,Int.natCast_nonneg _,Int.le_refl _,Int.le_refl _,rfl⟩ (by simp only;omega)
 exact k
theorem wi_u {n:Int} (b:0<=n) (a:n<=9223372036854775807):wi n=n:=Xp (by omega) a
theorem gapp1 {a:Type} {b:Nat} {l:List a} {x:a} (hl:l.length<=1000000) (hb:b<=100:=by decide):gapp b l (Sl.es (Sl.full [x]))=some (l++[x]):=by
 unfold gapp
 rw[if_pos (Nat.le_trans (Nat.mul_le_mul (show l.length+(Sl.es (Sl.full [x])).length<=1000001 by simp[Sl.es];omega) hb) (by decide))]
 rfl
theorem f94 {s:G27} (hl:ln s.fc<=10) (ok:∀ m∈Sl.es s.fc,MOk m):F94 s=some (Sl.no (sts 0 (Sl.es s.fc))):=by
 unfold F94
 rw[sts_gen (s:=s.fc) hl ok (B:=LF94_10 s) ?_ ?_]
 ·rfl
 ·intro l i m x a o b h e g hn
  have k:=Ya a
  have f:=o.hi
  have d:=o.lo
  unfold LF94_10
  rw[show decide (i<ln s.fc)=true from decide_eq_true (by simp only[ln];omega)]
  simp only[cond_true,a,o.len,b,Option.bind_some]
  rw[gapp1 (by omega),wi_u (n:=x+lenOf m) (by omega) (by omega),wi_u (n:=i+1) (by omega) (by omega)]
  rfl
 ·intro l i c
  unfold LF94_10
  rw[decide_eq_false c]
  rfl
def tms:Int->List G75->List (Int×Int×Bool)
 |_,[]=>[]
 |a,m::l=>(Sl.es m.fm).map (λx=>(a+x.fAt,x.f8,x.faA))++tms (a+lenOf m) l
theorem map_loop {b g:Type} {es:List g} (f:g->b) {B:List b->Int->Option ((List b×Int)⊕List b)} (a:List b) (hl:es.length<=1000)
  (n:∀ l j x,gx es j=some x->l.length<=a.length+1000->j<=1000->B l j=some (.inl (l++[f x],j+1)))
  (r:∀ l j,¬ j<(es.length:Int)->B l j=some (.inr l)):Xg (λ(x:List b×Int)=>match x with|(l,j)=>B l j) (a,0)=some (a++es.map f):=by
 obtain⟨t,o,rfl⟩:=Xs (body:=λ(x:List b×Int)=>match x with|(l,i)=>B l i) (I:=λx=>0<=x.2/\x.2<=es.length/\(x.1.length:Int)=a.length+x.2/\x.1++(es.drop x.2.toNat).map f=a++es.map f)
  (μ:=λx=>((es.length:Int)-x.2).toNat) (T:=λt=>t=a++es.map f) (s:=(a,0)) (by
   rintro⟨l,i⟩ ⟨h,p,q,d⟩
   simp only at h p q d ⊢
   by_cases c:i<(es.length:Int)
   ·obtain⟨m,e,k⟩:=gx_ex (l:=es) (i:=i) h c
    refine .inl ⟨_,n l i m e (by omega) (by omega),⟨by simp only;omega,by simp only;omega,by simp;omega,?_⟩,by simp only;omega⟩
    rw[Wi e]at d
    rw[<-d]
    simp
   ·refine .inr ⟨l,r l i c,?_⟩
    rw[List.drop_of_length_le (by omega)]at d
    simpa using d) ⟨Int.le_refl _,Int.natCast_nonneg _,by simp,rfl⟩ (by simp only;omega)
 exact o
theorem tms_gen {d:Type} {Ms:List G75} (g:Int×Int×Bool->d) {B:List d->Int->Option ((List d×Int)⊕List d)} (e:List d) (G:e.length<=10) (hl:Ms.length<=10) (ok:∀ m∈Ms,MOk m)
  (C:∀ l i m a,gx Ms i=some m->MOk m->gx (sts 0 Ms) i=some a->0<=a->a<=1000000000->i<=1000->l.length<=100000->B l i=some (.inl (l++(Sl.es m.fm).map (λx=>g (a+x.fAt,x.f8,x.faA)),i+1)))
  (z:∀ l i,¬ i<(Ms.length:Int)->B l i=some (.inr l)):Xg (λ(x:List d×Int)=>match x with|(l,i)=>B l i) (e,0)=some (e++(tms 0 Ms).map g):=by
 obtain⟨t,u,rfl⟩:=Xs (body:=λ(x:List d×Int)=>match x with|(l,i)=>B l i) (I:=λx=>∃ b a,(b.length:Int)=x.2/\x.2<=Ms.length/\0<=a/\a<=x.2*15482880/\b++sts a (Ms.drop x.2.toNat)=sts 0 Ms/\(x.1.length:Int)<=10+x.2*1000/\x.1++(tms a (Ms.drop x.2.toNat)).map g=e++(tms 0 Ms).map g)
  (μ:=λx=>((Ms.length:Int)-x.2).toNat) (T:=λt=>t=e++(tms 0 Ms).map g) (s:=(e,0)) (by
   rintro⟨l,i⟩ ⟨b,a,j,A,w,q,h,v,f⟩
   simp only at j A q h v f ⊢
   by_cases c:i<(Ms.length:Int)
   ·obtain⟨m,n,k⟩:=gx_ex (l:=Ms) (i:=i) (by omega) c
    have o:=ok m k
    have E:=o.lo
    have F:=o.hi
    have p:=o.nt
    simp only[ln]at p
    obtain⟨r,hr⟩:=sts_head a (Ms.drop i.toNat)
    have D:gx (sts 0 Ms) i=some a:=by
     rw[<-h,hr]
     exact gx_last j r
    rw[Wi n]at h f
    refine .inl ⟨_,C l i m a n o D w (by omega) (by omega) (by omega),⟨b++[a],a+lenOf m,by simp[j],by simp only;omega,by omega,by simp only;omega,?_,by simp;omega,?_⟩,by simp only;omega⟩
    ·rw[<-h]
     simp[sts]
    ·rw[<-f]
     simp[tms,Function.comp_def]
   ·refine .inr ⟨l,z l i c,?_⟩
    rw[List.drop_of_length_le (by omega)]at f
    simpa [tms] using f) ⟨[],0,rfl,Int.natCast_nonneg _,Int.le_refl _,Int.le_refl _,rfl,by simp only;omega,rfl⟩ (by simp only;omega)
 exact u
end Go.Proofs.YtibndgdocbbbeaaGreat
namespace Go.Proofs.YtibndgdocbbbeaaGreat
open Go.PE Go.RowKit
set_option maxRecDepth 100000
def gP' (x:Int×Int×Bool):G173:=⟨x.1,x.2.1,x.2.2⟩
def gM' (x:Int×Int×Bool):G108:=⟨x.1,x.2.1,x.2.2⟩
theorem at_lo {m:G75} (o:MOk m) {j:Int} {x:G111} (h:gx (Sl.es m.fm) j=some x):0<=x.fAt/\x.fAt<=15482880:=by
 have k:=o.tm j x h
 have:=o.hi
 exact⟨k.1,by omega⟩
theorem f39 {s:G27} (hl:ln s.fc<=10) (ok:∀ m∈Sl.es s.fc,MOk m) (p:F14 s=some true):F39 s=some (Sl.no (⟨-1,500000,false⟩::(tms 0 (Sl.es s.fc)).map gP'),Sl.no (sts 0 (Sl.es s.fc))):=by
 have b:F47 s=some (Sl.no (sts 0 (Sl.es s.fc)),0):=by
  unfold F47
  rw[p]
  simp only[Option.bind_some,Bool.not_true,cond_false]
  rw[f94 hl ok]
  rfl
 unfold F39
 rw[b]
 simp only[Option.bind_some]
 rw[tms_gen (Ms:=Sl.es s.fc) gP' [⟨-1,500000,false⟩] (by simp) (by simp only[ln]at hl;omega) ok (B:=LF39_12 s (Sl.no (sts 0 (Sl.es s.fc)),0)) ?_ ?_]
 ·rfl
 ·intro l i m a f o h a0 t v hn
  have k:=Ya f
  have g:=o.nt
  simp only[ln]at g
  unfold LF39_12
  rw[show decide (i<ln s.fc)=true from decide_eq_true (by simp only[ln];omega)]
  simp only[cond_true,f,Option.bind_some]
  rw[map_loop (es:=Sl.es m.fm) (λx=>gP' (a+x.fAt,x.f8,x.faA)) l (by omega) (B:=LF39_25 m (Sl.no (sts 0 (Sl.es s.fc)),0) i) ?_ ?_]
  ·simp only[Option.bind_some]
   unfold JF39_15
   rw[wi_u (n:=i+1) (by omega) (by omega)]
  ·intro l j x e hl q
   have r:=at_lo o e
   have u:=Ya e
   unfold LF39_25
   rw[show decide (j<ln m.fm)=true from decide_eq_true (by simp only[ln];omega)]
   have d:gx (Sl.es (Sl.no (sts 0 (Sl.es s.fc)))) i=some a:=h
   simp only[cond_true,e,d,Option.bind_some]
   rw[gapp1 (by omega),wi_u (n:=a+x.fAt) (by omega) (by omega),wi_u (n:=j+1) (by omega) (by omega)]
   rfl
  ·intro l j c
   unfold LF39_25
   rw[show decide (j<ln m.fm)=false from decide_eq_false (by simp only[ln];omega)]
   rfl
 ·intro l i c
  unfold LF39_12
  rw[show decide (i<ln s.fc)=false from decide_eq_false (by simp only[ln];omega)]
  rfl
theorem f18 {s:G27} (hl:ln s.fc<=10) (ok:∀ m∈Sl.es s.fc,MOk m):F18 s (Sl.no (sts 0 (Sl.es s.fc)))=some (mkSl ((tms 0 (Sl.es s.fc)).map gM')):=by
 unfold F18
 rw[tms_gen (Ms:=Sl.es s.fc) gM' [] (by simp) (by simp only[ln]at hl;omega) ok (B:=LF18_11 s (Sl.no (sts 0 (Sl.es s.fc)))) ?_ ?_]
 ·rfl
 ·intro l i m a b o f a0 q t hn
  have k:=Ya b
  have g:=o.nt
  simp only[ln]at g
  unfold LF18_11
  rw[show decide (i<ln s.fc)=true from decide_eq_true (by simp only[ln];omega)]
  simp only[cond_true]
  rw[map_loop (es:=Sl.es m.fm) (λx=>gM' (a+x.fAt,x.f8,x.faA)) l (by omega) (B:=LF18_22 s i (Sl.no (sts 0 (Sl.es s.fc)))) ?_ ?_]
  ·simp only[Option.bind_some]
   unfold JF18_14
   rw[wi_u (n:=i+1) (by omega) (by omega)]
  ·intro l j x d hl p
   have h:=at_lo o d
   have r:=Ya d
   unfold LF18_22
   have e:gx (Sl.es (Sl.no (sts 0 (Sl.es s.fc)))) i=some a:=f
   simp only[b,Option.bind_some]
   rw[show decide (j<ln m.fm)=true from decide_eq_true (by simp only[ln];omega)]
   simp only[cond_true,d,e,Option.bind_some]
   rw[gapp1 (by omega),wi_u (n:=a+x.fAt) (by omega) (by omega),wi_u (n:=j+1) (by omega) (by omega)]
   rfl
  ·intro l j c
   unfold LF18_22
   simp only[b,Option.bind_some]
   rw[show decide (j<ln m.fm)=false from decide_eq_false (by simp only[ln];omega)]
   rfl
 ·intro l i c
  unfold LF18_11
  rw[show decide (i<ln s.fc)=false from decide_eq_false (by simp only[ln];omega)]
  rfl
theorem tms_all {Ms:List G75} (ok:∀ m∈Ms,MOk m) (a:Int):(∀ y∈tms a Ms,a<=y.1/\y.1<a+15482880*Ms.length/\1<=y.2.1/\y.2.1<=60000000)/\(tms a Ms).Pairwise (λx y=>x.1<y.1)/\((tms a Ms).length:Int)<=1000*Ms.length:=by
 induction Ms generalizing a with
 |nil=>exact⟨λy c=>by simp[tms]at c,List.Pairwise.nil,by simp[tms]⟩
 |cons m l ih=>
  obtain⟨n,s,v⟩:=ih (λx d=>ok x (List.mem_cons_of_mem _ d)) (a+lenOf m)
  have o:=ok m (List.mem_cons_self ..)
  have t:=o.lo
  have u:=o.hi
  have q:=o.nt
  simp only[ln]at q
  have d:∀ x∈Sl.es m.fm,0<=x.fAt/\x.fAt<=lenOf m-1/\1<=x.f8/\x.f8<=60000000:=λx d=>by
   obtain⟨i,f,rfl⟩:=List.getElem_of_mem d
   have:=o.tm (i:Int) _ (by unfold gx;rw[if_pos (by omega)];exact List.getElem?_eq_getElem f)
   exact⟨this.1,this.2.1,this.2.2.1,this.2.2.2.1⟩
  have hp:(Sl.es m.fm).Pairwise (λx y=>x.fAt<y.fAt):=by
   have b:∀ (i:Nat) (f:i+1<(Sl.es m.fm).length),((Sl.es m.fm)[i]'(by omega)).fAt<((Sl.es m.fm)[i+1]'f).fAt:=λi f=>by
    obtain⟨y,c,g⟩:=(o.tm ((i+1:Nat):Int) _ (by unfold gx;rw[if_pos (by omega)];exact List.getElem?_eq_getElem f)).2.2.2.2 (by omega)
    unfold gx at c
    rw[if_pos (by omega),show(((i+1:Nat):Int)-1).toNat=i by omega,List.getElem?_eq_getElem (by omega)]at c
    rw[Option.some.inj c]
    exact g
   rw[List.pairwise_iff_getElem]
   intro i j f p r
   induction j with
   |zero=>omega
   |succ j ihj=>
    by_cases e:i=j
    ·subst e;exact b i p
    ·exact Int.lt_trans (ihj (by omega) (by omega)) (b j p)
  refine⟨λy c=>?_,?_,?_⟩
  ·rw[tms,List.mem_append,List.mem_map]at c
   rw[List.length_cons]
   rcases c with ⟨x,h,rfl⟩|h
   ·have:=d x h
    simp only
    omega
   ·have:=n y h
    omega
  ·rw[tms,List.pairwise_append]
   refine⟨?_,s,?_⟩
   ·rw[List.pairwise_map]
    exact hp.imp λh=>by simp only;omega
   ·intro x h y k
    rw[List.mem_map]at h
    obtain⟨z,h,rfl⟩:=h
    have:=d z h
    have:=n y k
    simp only
    omega
  ·rw[tms,List.length_append,List.length_map,List.length_cons]
   omega
end Go.Proofs.YtibndgdocbbbeaaGreat
namespace Go.Proofs.YtibndgdocbbbeaaGreat
open Go.PE Go.RowKit
set_option maxRecDepth 100000
theorem half {n:Int} (a:0<=n) (b:n<=1000000000):wi (Int.fdiv (IntKind.wrap .u64 (wi n)) (2^1))=n / 2:=by
 have e:IntKind.wrap .u64 n=n:=by
  show n%18446744073709551616=n
  exact Int.emod_eq_of_lt a (by omega)
 rw[wi_u (n:=n) a (by omega),e,Int.fdiv_eq_ediv_of_nonneg _ (by decide)]
 show wi (n / 2)=n / 2
 exact wi_u (by omega) (by omega)
theorem search {M:Sl G173} {v:Int} (hl:ln M<=1000000) (t:∀ j k x y,j<k->gx (Sl.es M) j=some x->gx (Sl.es M) k=some y->x.fL<y.fL):
  ∃ i,F89_1 (ln M) M v=some i/\0<=i/\i<=ln M/\(∀ j x,j<i->gx (Sl.es M) j=some x->x.fL<=v)/\∀ j x,i<=j->gx (Sl.es M) j=some x->v<x.fL:=by
 have key:=Xs (body:=λ(x:Int×Int)=>match x with|(i,j)=>LF89_1_12 M v i j) (I:=λx=>0<=x.1/\x.1<=x.2/\x.2<=ln M/\(∀ j f,j<x.1->gx (Sl.es M) j=some f->f.fL<=v)/\∀ j f,x.2<=j->gx (Sl.es M) j=some f->v<f.fL)
  (μ:=λx=>(x.2-x.1).toNat) (T:=λi=>0<=i/\i<=ln M/\(∀ j x,j<i->gx (Sl.es M) j=some x->x.fL<=v)/\∀ j x,i<=j->gx (Sl.es M) j=some x->v<x.fL) (s:=(0,ln M)) (by
   rintro⟨i,j⟩ ⟨o,u,h,q,p⟩
   simp only at o u h q p ⊢
   unfold LF89_1_12
   by_cases c:i<j
   ·rw[decide_eq_true c]
    simp only[cond_true]
    rw[half (n:=i+j) (by omega) (by omega)]
    obtain⟨x,b⟩:=gx_at (l:=Sl.es M) (i:=(i+j) / 2) (by omega) (by simp only[ln]at h;omega)
    have w:F90_1 ((i+j) / 2) M v=some (decide (x.fL>v)):=by
     unfold F90_1
     rw[b]
     rfl
    rw[w]
    simp only[Option.bind_some]
    by_cases d:x.fL>v
    ·rw[decide_eq_true d]
     refine .inl ⟨_,rfl,⟨o,by simp only;omega,by simp only;omega,q,?_⟩,by simp only;omega⟩
     simp only
     intro k y z g
     by_cases e:k=(i+j) / 2
     ·subst e;cases b.symm.trans g;omega
     ·have:=t _ _ _ _ (show(i+j) / 2<k by omega) b g
      omega
    ·rw[decide_eq_false d]
     rw[wi_u (n:=(i+j) / 2+1) (by omega) (by omega)]
     refine .inl ⟨_,rfl,⟨by simp only;omega,by simp only;omega,h,?_,p⟩,by simp only;omega⟩
     simp only
     intro k y z g
     by_cases e:k=(i+j) / 2
     ·subst e;cases b.symm.trans g;omega
     ·have:=t _ _ _ _ (show k<(i+j) / 2 by omega) g b
      omega
   ·rw[decide_eq_false c]
    have e:i=j:=by omega
    subst e
    exact .inr ⟨i,rfl,o,h,q,p⟩) ⟨Int.le_refl _,Int.natCast_nonneg _,Int.le_refl _,λj x a b=>by have:=(Ya b).1;simp only at a;omega,λj x a b=>by have:=(Ya b).2;simp only[ln]at a;omega⟩ (by simp only;omega)
 obtain⟨i,A,r⟩:=key
 refine⟨i,?_,r⟩
 unfold F89_1
 rw[A]
 rfl
theorem last {T:Sl G108} {v:Int} (hl:ln T<=1000000):
  ∃ k,Xg (λ(x:Int×Int)=>match x with|(a,b)=>LF17_33 T v false a b) (-1,0)=some k/\-1<=k/\k<ln T/\(0<=k->∃ x,gx (Sl.es T) k=some x/\x.fat<=v)/\∀ j x,k<j->gx (Sl.es T) j=some x->v<x.fat:=by
 refine Xs (body:=λ(x:Int×Int)=>match x with|(i,j)=>LF17_33 T v false i j) (I:=λx=>-1<=x.1/\x.1<x.2/\x.2<=ln T/\(0<=x.1->∃ y,gx (Sl.es T) x.1=some y/\y.fat<=v)/\∀ j y,x.1<j->j<x.2->gx (Sl.es T) j=some y->v<y.fat)
  (μ:=λx=>(ln T-x.2).toNat) (T:=λk=>-1<=k/\k<ln T/\(0<=k->∃ x,gx (Sl.es T) k=some x/\x.fat<=v)/\∀ j x,k<j->gx (Sl.es T) j=some x->v<x.fat) (s:=(-1,0)) ?_ ⟨Int.le_refl _,by simp only;omega,Int.natCast_nonneg _,λh=>absurd h (by simp),λj y a b=>by simp only at a b;omega⟩ (by simp only;omega)
 rintro⟨i,j⟩ ⟨q,u,z,t,p⟩
 simp only at q u z t p ⊢
 unfold LF17_33
 by_cases c:j<ln T
 ·rw[decide_eq_true c]
  obtain⟨x,r⟩:=gx_at (l:=Sl.es T) (i:=j) (by omega) (by simp only[ln]at c;omega)
  simp only[cond_true,r,Option.bind_some]
  have w:=wi_u (n:=j+1) (by omega) (by omega)
  have o:x.fat<=v->-1<=j/\j<j+1/\j+1<=ln T/\(0<=j->∃ y,gx (Sl.es T) j=some y/\y.fat<=v)/\∀ k y,j<k->k<j+1->gx (Sl.es T) k=some y->v<y.fat:=λh=>⟨by omega,by omega,by omega,λ_=>⟨x,r,h⟩,λk y a b=>by omega⟩
  by_cases d:x.fat<v
  ·rw[decide_eq_true d]
   refine .inl ⟨(j,j+1),by simp only[cond_true,Ui,JF17_36,w],o (by omega),by simp only;omega⟩
  ·rw[decide_eq_false d]
   simp only[cond_false]
   by_cases e:x.fat=v
   ·rw[show(x.fat==v)=true from beq_iff_eq.2 e]
    refine .inl ⟨(j,j+1),by simp only[cond_true,Bool.not_false,Ui,JF17_36,w],o (by omega),by simp only;omega⟩
   ·rw[show(x.fat==v)=false from beq_eq_false_iff_ne.2 e]
    refine .inl ⟨(i,j+1),by simp only[cond_false,Ui,JF17_36,w],⟨q,by simp only;omega,by simp only;omega,t,?_⟩,by simp only;omega⟩
    simp only
    intro k y a b g
    by_cases f:k=j
    ·subst f;cases r.symm.trans g;omega
    ·exact p k y a (by omega) g
 ·rw[decide_eq_false c]
  refine .inr ⟨i,rfl,q,by omega,t,λk y a g=>p k y a ?_ g⟩
  have:=(Ya g).2
  simp only[ln]at c
  omega
theorem Yh {n:Int} (a:0<=n) (b:n<18446744073709551616):IntKind.wrap .u64 n=n:=by
 show n%18446744073709551616=n
 exact Int.emod_eq_of_lt a b
theorem Um {n:Int} (c:0<=n) (d:n<18446744073709551616):iand .u64 n 4294967295=n%4294967296:=by
 obtain⟨k,rfl⟩:=Int.eq_ofNat_of_zero_le c
 have e:(BitVec.ofInt 64 (k:Int) &&& BitVec.ofInt 64 4294967295).toNat=k%4294967296:=by
  rw[BitVec.toNat_and]
  have a:(BitVec.ofInt 64 (k:Int)).toNat=k:=by
   rw[BitVec.ofInt_natCast,BitVec.toNat_ofNat]
   omega
  have b:(BitVec.ofInt 64 4294967295).toNat=2^32-1:=by decide
  rw[a,b,Nat.and_two_pow_sub_one_eq_mod]
 show IntKind.wrap .u64 ((BitVec.ofInt 64 (k:Int) &&& BitVec.ofInt 64 4294967295).toNat:Int)=_
 rw[e,Yh (by omega) (by omega)]
 omega
theorem f91 {x y:Int} (c:0<=x) (g:x<4294967296) (a:0<=y) (d:y<4294967296):F91 x y=some (0,x*y):=by
 have j:0<=x*y:=Int.mul_nonneg c a
 have s:x*y<=4294967295*4294967295:=Int.mul_le_mul (by omega) (by omega) a (by omega)
 have h:Int.fdiv x (2^32)=0:=by rw[Int.fdiv_eq_ediv_of_nonneg _ (by decide)];exact Int.ediv_eq_zero_of_lt c (by omega)
 have p:Int.fdiv y (2^32)=0:=by rw[Int.fdiv_eq_ediv_of_nonneg _ (by decide)];exact Int.ediv_eq_zero_of_lt a (by omega)
 have l:iand .u64 x 4294967295=x:=by rw[Um c (by omega)];exact Int.emod_eq_of_lt c g
 have r:iand .u64 y 4294967295=y:=by rw[Um a (by omega)];exact Int.emod_eq_of_lt a d
 have k:IntKind.wrap .u64 0=0:=by decide
 have f:IntKind.wrap .u64 (x*y)=x*y:=Yh j (by omega)
 have o:Int.fdiv (x*y) (2^32)=x*y / 4294967296:=by rw[Int.fdiv_eq_ediv_of_nonneg _ (by decide)];rfl
 have b:0<=x*y / 4294967296:=by omega
 have n:x*y / 4294967296<4294967296:=by omega
 have e:IntKind.wrap .u64 (x*y / 4294967296)=x*y / 4294967296:=Yh b (by omega)
 have i:Int.fdiv (x*y / 4294967296) (2^32)=0:=by rw[Int.fdiv_eq_ediv_of_nonneg _ (by decide)];exact Int.ediv_eq_zero_of_lt b (by omega)
 have q:iand .u64 (x*y / 4294967296) 4294967295=x*y / 4294967296:=by rw[Um b (by omega)];exact Int.emod_eq_of_lt b n
 unfold F91
 rw[h,p,l,r]
 simp only[Int.zero_mul,Int.mul_zero,k,f,o,Int.zero_add,Int.add_zero,e,i,q]
def valAt (p q n t:Int):Int:=if q>=p then p+(q-p)*t / n else if (p-q)*t%n>0 then p-((p-q)*t / n+1)else p-(p-q)*t / n
theorem mul_lim {a t:Int} (a0:0<=a) (c:a<=60000000) (b:0<=t) (d:t<=1000000000):0<=a*t/\a*t<=60000000000000000:=⟨Int.mul_nonneg a0 b,by
 have:=Int.mul_le_mul c d b (by omega)
 omega⟩
theorem f42 {p q n t:Int} (u:1<=p) (C:p<=60000000) (w:1<=q) (z:q<=60000000) (A:1<=n) (B:n<=1000000000) (h:0<=t) (s:t<=1000000000):F42 p q n t=some (valAt p q n t):=by
 have j:=Xp (n:=p-q) (by omega) (by omega)
 have k:=Xp (n:=q-p) (by omega) (by omega)
 have b:∀ a:Int,0<=a->a<=60000000->F92 0 (a*t) n=some (a*t / n,a*t%n)/\0<=a*t / n/\a*t / n<=60000000000000000/\0<=a*t%n:=λa a0 o=>by
  obtain⟨f,v⟩:=mul_lim a0 o h s
  refine⟨?_,Int.ediv_nonneg f (by omega),?_,Int.emod_nonneg _ (by omega)⟩
  ·unfold F92
   rw[decide_eq_true (Int.le_refl 0),decide_eq_true f,decide_eq_true (show a*t<18446744073709551616 by omega),decide_eq_true (show 0<n by omega),decide_eq_true (show n<18446744073709551616 by omega),Int.zero_mul,Int.zero_add]
   rfl
  ·have:=Int.ediv_le_self n f
   omega
 unfold F42 valAt
 by_cases c:q>=p
 ·have e:(if wi (p-q)>wi (q-p)then wi (p-q)else wi (q-p))=q-p:=by
   rw[j,k]
   split<;>omega
  obtain⟨g,i,r,l⟩:=b (q-p) (by omega) (by omega)
  rw[e,Yh (n:=q-p) (by omega) (by omega),Yh (n:=t) (by omega) (by omega),Yh (n:=n) (by omega) (by omega),f91 (by omega) (by omega) h (by omega)]
  simp only[Option.bind_some]
  rw[g]
  simp only[Option.bind_some]
  rw[decide_eq_true c,if_pos c,cond_true,wi_u (n:=(q-p)*t / n) i (by omega),wi_u (n:=p+_) (by omega) (by omega)]
 ·have e:(if wi (p-q)>wi (q-p)then wi (p-q)else wi (q-p))=p-q:=by
   rw[j,k]
   split<;>omega
  obtain⟨g,i,r,l⟩:=b (p-q) (by omega) (by omega)
  rw[e,Yh (n:=p-q) (by omega) (by omega),Yh (n:=t) (by omega) (by omega),Yh (n:=n) (by omega) (by omega),f91 (by omega) (by omega) h (by omega)]
  simp only[Option.bind_some]
  rw[g]
  simp only[Option.bind_some]
  rw[decide_eq_false c,if_neg c,cond_false]
  by_cases d:(p-q)*t%n>0
  ·rw[decide_eq_true d,if_pos d,cond_true,Yh (n:=(p-q)*t / n+1) (by omega) (by omega),wi_u (n:=(p-q)*t / n+1) (by omega) (by omega),Xp (n:=p-_) (by omega) (by omega)]
  ·rw[decide_eq_false d,if_neg d,cond_false,wi_u (n:=(p-q)*t / n) i (by omega),Xp (n:=p-_) (by omega) (by omega)]
theorem f40v {p q n t:Int} (u:1<=p) (B:p<=60000000) (v:1<=q) (w:q<=60000000) (z:1<=n) (A:n<=1000000000) (j:0<=t) (k:t<=1000000000):
  (((gq .i64 (wi ((wi (q-p))*(wi t))) (wi n))).bind λf=>((gr (wi ((wi (q-p))*(wi t))) (wi n))).bind λi=>bif (decide (i<(0)))then (some (wi (p+(wi (f-(1))))))else (some (wi (p+f))))=some (valAt p q n t):=by
 rw[wi_u (n:=t) j (by omega),wi_u (n:=n) (by omega) (by omega),Xp (n:=q-p) (by omega) (by omega)]
 have h:¬ n=0:=by omega
 unfold gq gr valAt
 rw[if_neg h,if_neg h]
 simp only[Option.bind_some]
 by_cases c:q>=p
 ·obtain⟨b,r⟩:=mul_lim (a:=q-p) (by omega) (by omega) j k
  have g:=Int.ediv_le_self n b
  have l:=Int.ediv_nonneg b (show 0<=n by omega)
  have o:=Int.emod_nonneg ((q-p)*t) h
  rw[if_pos c,wi_u (n:=(q-p)*t) b (by omega),Int.tdiv_eq_ediv_of_nonneg b,Int.tmod_eq_emod_of_nonneg b,decide_eq_false (show ¬ (q-p)*t%n<0 by omega),cond_false]
  have e:IntKind.i64.wrap ((q-p)*t / n)=(q-p)*t / n:=wi_u l (by omega)
  rw[e,wi_u (n:=p+_) (by omega) (by omega)]
 ·obtain⟨b,r⟩:=mul_lim (a:=p-q) (by omega) (by omega) j k
  have g:=Int.ediv_le_self n b
  have l:=Int.ediv_nonneg b (show 0<=n by omega)
  have o:=Int.emod_nonneg ((p-q)*t) h
  have s:(q-p)*t=-((p-q)*t):=by rw[<-Int.neg_mul];congr 1;omega
  rw[if_neg c,s,Xp (n:=-((p-q)*t)) (by omega) (by omega),Int.neg_tdiv,Int.neg_tmod,Int.tdiv_eq_ediv_of_nonneg b,Int.tmod_eq_emod_of_nonneg b]
  have e:IntKind.i64.wrap (-((p-q)*t / n))=-((p-q)*t / n):=Xp (by omega) (by omega)
  rw[e]
  by_cases d:(p-q)*t%n>0
  ·rw[if_pos d,decide_eq_true (show -((p-q)*t%n)<0 by omega),cond_true,Xp (n:=-((p-q)*t / n)-1) (by omega) (by omega),Xp (n:=p+_) (by omega) (by omega)]
   exact congrArg some (by omega)
  ·rw[if_neg d,decide_eq_false (show ¬ -((p-q)*t%n)<0 by omega),cond_false,Xp (n:=p+_) (by omega) (by omega)]
   exact congrArg some (by omega)
end Go.Proofs.YtibndgdocbbbeaaGreat
namespace Go.Proofs.YtibndgdocbbbeaaGreat
open Go.PE Go.RowKit
set_option maxRecDepth 100000
theorem gx_map {a b:Type} (f:a->b) (l:List a) (i:Int):gx (l.map f) i=(gx l i).map f:=by
 unfold gx
 split
 ·rw[List.getElem?_map]
 ·rfl
theorem gx_succ {b:Type} (a:b) (l:List b) {i:Int} (h:0<=i):gx (a::l) (i+1)=gx l i:=by
 unfold gx
 rw[if_pos h,if_pos (by omega),show(i+1).toNat=i.toNat+1 by omega,List.getElem?_cons_succ]
theorem valAt_bd {p q n t:Int} (k:1<=p) (j:p<=60000000) (i:1<=q) (l:q<=60000000) (r:1<=n) (f:0<=t) (g:t<=n):1<=valAt p q n t/\valAt p q n t<=60000000:=by
 have key:∀ a:Int,0<=a->0<=a*t / n/\a*t / n<=a/\(a*t%n>0->a*t / n+1<=a):=λa a0=>by
  have d:0<=a*t:=Int.mul_nonneg a0 f
  have e:a*t<=a*n:=Int.mul_le_mul_of_nonneg_left g a0
  have b:a*t / n<=a:=Int.ediv_le_of_le_mul (by omega) e
  refine⟨Int.ediv_nonneg d (by omega),b,λo=>?_⟩
  rcases Int.lt_or_eq_of_le b with c|c
  ·omega
  ·have:=Int.emod_add_mul_ediv (a*t) n
   rw[c,Int.mul_comm n a]at this
   omega
 unfold valAt
 split
 ·have:=key (q-p) (by omega)
  omega
 ·have:=key (p-q) (by omega)
  split
  ·rename_i h
   have:=this.2.2 h
   omega
  ·omega
theorem lastB {T:Sl G108} {v:Int} (hl:ln T<=1000000):
  ∃ k,Xg (λ(x:Int×Int)=>match x with|(a,b)=>LF17_33 T v true a b) (-1,0)=some k/\-1<=k/\k<ln T/\(0<=k->∃ x,gx (Sl.es T) k=some x/\x.fat<v)/\∀ j x,k<j->gx (Sl.es T) j=some x->v<=x.fat:=by
 refine Xs (body:=λ(x:Int×Int)=>match x with|(i,j)=>LF17_33 T v true i j) (I:=λx=>-1<=x.1/\x.1<x.2/\x.2<=ln T/\(0<=x.1->∃ y,gx (Sl.es T) x.1=some y/\y.fat<v)/\∀ j y,x.1<j->j<x.2->gx (Sl.es T) j=some y->v<=y.fat)
  (μ:=λx=>(ln T-x.2).toNat) (T:=λk=>-1<=k/\k<ln T/\(0<=k->∃ x,gx (Sl.es T) k=some x/\x.fat<v)/\∀ j x,k<j->gx (Sl.es T) j=some x->v<=x.fat) (s:=(-1,0)) ?_ ⟨Int.le_refl _,by simp only;omega,Int.natCast_nonneg _,λh=>absurd h (by simp),λj y a b=>by simp only at a b;omega⟩ (by simp only;omega)
 rintro⟨i,j⟩ ⟨o,r,t,q,g⟩
 simp only at o r t q g ⊢
 unfold LF17_33
 by_cases c:j<ln T
 ·rw[decide_eq_true c]
  obtain⟨x,p⟩:=gx_at (l:=Sl.es T) (i:=j) (by omega) (by simp only[ln]at c;omega)
  simp only[cond_true,p,Option.bind_some]
  have w:=wi_u (n:=j+1) (by omega) (by omega)
  by_cases d:x.fat<v
  ·rw[decide_eq_true d]
   refine .inl ⟨(j,j+1),by simp only[cond_true,Ui,JF17_36,w],⟨by simp only;omega,by simp only;omega,by simp only;omega,λ_=>⟨x,p,d⟩,λk y a b=>by simp only at a b;omega⟩,by simp only;omega⟩
  ·rw[decide_eq_false d]
   refine .inl ⟨(i,j+1),?_,⟨o,by simp only;omega,by simp only;omega,q,?_⟩,by simp only;omega⟩
   ·simp only[cond_false]
    cases(x.fat==v)<;>simp only[cond_true,cond_false,Bool.not_true,Ui,JF17_36,w]
   ·simp only
    intro k y a b e
    by_cases f:k=j
    ·subst f;cases p.symm.trans e;omega
    ·exact g k y a (by omega) e
 ·rw[decide_eq_false c]
  refine .inr ⟨i,rfl,o,by omega,q,λk y a e=>g k y a ?_ e⟩
  have:=(Ya e).2
  simp only[ln]at c
  omega
section
variable {L:List (Int×Int×Bool)} (hb:∀ y∈L,0<=y.1/\y.1<=1000000000/\1<=y.2.1/\y.2.1<=60000000) (hp:L.Pairwise (λx y=>x.1<y.1)) (hl:(L.length:Int)<=100000)
abbrev mP (L:List (Int×Int×Bool)):Sl G173:=Sl.no (⟨-1,500000,false⟩::L.map gP')
abbrev mM (L:List (Int×Int×Bool)):Sl G108:=mkSl (L.map gM')
theorem mlt {L:List (Int×Int×Bool)} (hp:L.Pairwise (λx y=>x.1<y.1)) {j k:Int} {x y:Int×Int×Bool} (h:j<k) (d:gx L j=some x) (c:gx L k=some y):x.1<y.1:=by
 have a:=Ya d
 have b:=Ya c
 unfold gx at d c
 rw[if_pos a.1,List.getElem?_eq_getElem (by omega)]at d
 rw[if_pos b.1,List.getElem?_eq_getElem (by omega)]at c
 rw[<-Option.some.inj d,<-Option.some.inj c]
 exact List.pairwise_iff_getElem.1 hp _ _ _ _ (by omega)
theorem mTS {L:List (Int×Int×Bool)} {j:Int}:gx (Sl.es (mM L)) j=(gx L j).map gM':=by rw[mkSl_es];exact gx_map _ _ _
theorem mMS {L:List (Int×Int×Bool)} {j:Int} (h:0<=j):gx (Sl.es (mP L)) (j+1)=(gx L j).map gP':=by
 show gx ((⟨-1,500000,false⟩:G173)::L.map gP') (j+1)=_
 rw[gx_succ _ _ h,gx_map]
theorem mlT {L:List (Int×Int×Bool)}:ln (mM L)=L.length:=by simp[ln,mkSl_es]
theorem mlM {L:List (Int×Int×Bool)}:ln (mP L)=L.length+1:=by simp[ln,Sl.es]
include hb hp hl
theorem idx_eq {v:Int} (P:0<=v):∃ k:Int,-1<=k/\k<L.length/\F41 (mP L) v=some (k+1)/\Xg (λ(x:Int×Int)=>match x with|(a,b)=>LF17_33 (mM L) v false a b) (-1,0)=some k/\(∀ y,gx L k=some y->y.1<=v)/\∀ j y,k<j->gx L j=some y->v<y.1:=by
 have s:gx (Sl.es (mP L)) 0=some ⟨-1,500000,false⟩:=rfl
 have J:=mlM (L:=L)
 have H:=mlT (L:=L)
 have B:∀ j k x y,j<k->gx (Sl.es (mP L)) j=some x->gx (Sl.es (mP L)) k=some y->x.fL<y.fL:=λj k x y h o g=>by
  have a:=Ya o
  rw[show k=(k-1)+1 by omega,mMS (by omega)]at g
  obtain⟨z,q,rfl⟩:=Option.map_eq_some_iff.1 g
  by_cases c:j=0
  ·subst c
   cases s.symm.trans o
   have:=(hb z (Wo q)).1
   show(-1:Int)<z.1
   omega
  ·rw[show j=(j-1)+1 by omega,mMS (by omega)]at o
   obtain⟨w,u,rfl⟩:=Option.map_eq_some_iff.1 o
   exact mlt hp (by omega) u q
 obtain⟨i,F,N,I,D,r⟩:=search (M:=mP L) (v:=v) (by omega) B
 obtain⟨k,E,A,G,t,kA⟩:=last (T:=mM L) (v:=v) (by omega)
 have O:i=k+2:=by
  have K:k+1<i:=by
   by_cases c:0<=k
   ·obtain⟨x,o,p⟩:=t c
    rw[mTS]at o
    obtain⟨y,g,rfl⟩:=Option.map_eq_some_iff.1 o
    by_cases d:k+1<i
    ·exact d
    ·have:=r (k+1) (gP' y) (by omega) (by rw[mMS c,g];rfl)
     have e:y.1<=v:=p
     have f:v<y.1:=this
     omega
   ·by_cases d:k+1<i
    ·exact d
    ·have:=r 0 _ (by omega) s
     simp only at this
     omega
  have Q:¬ k+2<i:=λc=>by
   obtain⟨y,g⟩:=gx_at (l:=L) (i:=k+1) (by omega) (by omega)
   have e:y.1<=v:=D (k+2) (gP' y) c (by rw[show k+2=(k+1)+1 by omega,mMS (by omega),g];rfl)
   have f:v<y.1:=kA (k+1) (gM' y) (by omega) (by rw[mTS,g];rfl)
   omega
  omega
 refine⟨k,A,by omega,?_,E,λy g=>?_,λj y C g=>kA j (gM' y) C (by rw[mTS,g];rfl)⟩
 ·unfold F41
  rw[F]
  simp only[Option.bind_some]
  rw[wi_u (n:=i-1) (by omega) (by omega)]
  exact congrArg some (by omega)
 ·obtain⟨x,o,p⟩:=t (Ya g).1
  rw[mTS,g]at o
  cases o
  exact p
theorem val_eq {k v:Int} (M:-1<=k) (I:k<L.length) (R:0<=v) (P:v<=1000000000) (j:∀ y,gx L k=some y->y.1<=v) (o:∀ y,gx L (k+1)=some y->v<=y.1):
  ∃ r,F40 (mP L) (k+1) v=some r/\JF17_4 (mM L) v k=some r/\1<=r/\r<=60000000:=by
 have E:gx (Sl.es (mP L)) 0=some ⟨-1,500000,false⟩:=rfl
 have N:=mlM (L:=L)
 have J:=mlT (L:=L)
 by_cases c:k<0
 ·refine⟨500000,?_,?_,by omega,by omega⟩
  ·unfold F40
   rw[show k+1=0 by omega,E]
   rfl
  ·unfold JF17_4
   rw[decide_eq_true c]
   rfl
 ·obtain⟨y,f⟩:=gx_at (l:=L) (i:=k) (by omega) (by omega)
  have a:=hb y (Wo f)
  have G:gx (Sl.es (mP L)) (k+1)=some (gP' y):=by rw[mMS (by omega),f];rfl
  have s:gx (Sl.es (mM L)) k=some (gM' y):=by rw[mTS,f];rfl
  have u:=wi_u (n:=k+1) (by omega) (by omega)
  have w:=wi_u (n:=k+1+1) (by omega) (by omega)
  have Q:=j y f
  unfold F40 JF17_4
  rw[G,decide_eq_false c,w]
  simp only[Option.bind_some,cond_false]
  rw[s]
  simp only[Option.bind_some]
  have h:(gP' y).faD=y.2.2:=rfl
  have g:(gM' y).faD=y.2.2:=rfl
  rw[h,g,u]
  have A:JF40_6 (gP' y) (mP L) (k+1) v true=some y.2.1:=rfl
  have tM:JF17_7 (mM L) k v true=some y.2.1:=by
   unfold JF17_7
   rw[cond_true,s]
   rfl
  cases hr:y.2.2 with
  |false=>exact⟨y.2.1,A,tM,a.2.2⟩
  |true=>
   simp only[Bool.not_true,cond_false]
   by_cases d:k+1=ln (mM L)
   ·rw[show(k+1+1==ln (mP L))=true from beq_iff_eq.2 (by omega),show(k+1==ln (mM L))=true from beq_iff_eq.2 d]
    exact⟨y.2.1,A,tM,a.2.2⟩
   ·rw[show(k+1+1==ln (mP L))=false from beq_eq_false_iff_ne.2 (by omega),show(k+1==ln (mM L))=false from beq_eq_false_iff_ne.2 d]
    obtain⟨z,e⟩:=gx_at (l:=L) (i:=k+1) (by omega) (by omega)
    have b:=hb z (Wo e)
    have D:gx (Sl.es (mP L)) (k+1+1)=some (gP' z):=by rw[mMS (by omega),e];rfl
    have F:gx (Sl.es (mM L)) (k+1)=some (gM' z):=by rw[mTS,e];rfl
    have O:=mlt hp (by omega) f e
    have K:=o z e
    refine⟨valAt y.2.1 z.2.1 (z.1-y.1) (v-y.1),?_,?_,valAt_bd a.2.2.1 a.2.2.2 b.2.2.1 b.2.2.2 (by omega) (by omega) (by omega)⟩
    ·unfold JF40_6
     rw[cond_false,w,D]
     exact f40v (p:=y.2.1) (q:=z.2.1) (n:=z.1-y.1) (t:=v-y.1) a.2.2.1 a.2.2.2 b.2.2.1 b.2.2.2 (by omega) (by omega) (by omega) (by omega)
    ·unfold JF17_7
     rw[cond_false,u,s,F]
     simp only[Option.bind_some]
     have B:wi ((gM' z).fat-(gM' y).fat)=z.1-y.1:=wi_u (show 0<=z.1-y.1 by omega) (show z.1-y.1<=9223372036854775807 by omega)
     have C:wi (v-(gM' y).fat)=v-y.1:=wi_u (show 0<=v-y.1 by omega) (show v-y.1<=9223372036854775807 by omega)
     rw[B,C]
     have H:F42 (gM' y).f7 (gM' z).f7 (z.1-y.1) (v-y.1)=some (valAt y.2.1 z.2.1 (z.1-y.1) (v-y.1)):=f42 a.2.2.1 a.2.2.2 b.2.2.1 b.2.2.2 (by omega) (by omega) (by omega) (by omega)
     rw[H]
     rfl
theorem seg_at {a b:Int} (a0:0<=a) (N:a<b) (C:b<=1000000000) (hn:∀ y∈L,a<y.1->b<=y.1):∃ i r q,F41 (mP L) a=some i/\F40 (mP L) i a=some r/\F40 (mP L) i b=some q/\F17 (mM L) a false=some r/\F17 (mM L) b true=some q/\1<=r/\r<=60000000/\1<=q/\q<=60000000:=by
 obtain⟨k,z,j,p,J,g,h⟩:=idx_eq hb hp hl a0
 obtain⟨n,u,G,o,s,t⟩:=lastB (T:=mM L) (v:=b) (by rw[mlT];omega)
 rw[mlT]at o
 have e:n=k:=by
  by_cases c:k<n
  ·obtain⟨x,B,K⟩:=s (by omega)
   rw[mTS]at B
   obtain⟨y,f,rfl⟩:=Option.map_eq_some_iff.1 B
   have w:=h _ y c f
   have I:=hn y (Wo f) w
   have M:y.1<b:=K
   omega
  ·by_cases d:n<k
   ·obtain⟨y,f⟩:=gx_at (l:=L) (i:=k) (by omega) j
    have w:b<=y.1:=t k (gM' y) d (by rw[mTS,f];rfl)
    have I:=g y f
    omega
   ·omega
 subst e
 obtain⟨r,D,F,A⟩:=val_eq hb hp hl (v:=a) z j a0 (by omega) g λy f=>Int.le_of_lt (h _ y (by omega) f)
 obtain⟨q,E,H,q3⟩:=val_eq hb hp hl (v:=b) z j (by omega) C (λy f=>by have:=g y f;omega) λy f=>hn y (Wo f) (h _ y (by omega) f)
 refine⟨_,r,q,p,D,E,?_,?_,A.1,A.2,q3.1,q3.2⟩
 ·unfold F17
  rw[J]
  exact F
 ·unfold F17
  rw[u]
  exact H
end
theorem sts_all {Ms:List G75} (ok:∀ m∈Ms,MOk m) (a:Int):(∀ x∈sts a Ms,a<=x/\x<=a+15482880*Ms.length)/\(sts a Ms).length=Ms.length+1:=by
 induction Ms generalizing a with
 |nil=>exact⟨λx b=>by simp[sts]at b;subst b;simp,rfl⟩
 |cons m l ih=>
  obtain⟨d,c⟩:=ih (λx b=>ok x (List.mem_cons_of_mem _ b)) (a+lenOf m)
  have o:=ok m (List.mem_cons_self ..)
  have e:=o.lo
  have f:=o.hi
  refine⟨λx b=>?_,by simp[sts,c]⟩
  rw[sts,List.mem_cons]at b
  rw[List.length_cons]
  rcases b with rfl|h
  ·omega
  ·have:=d x h
   omega
end Go.Proofs.YtibndgdocbbbeaaGreat
namespace Go.Proofs.YtibndgdocbbbeaaGreat
open Go.PE Go.RowKit
set_option maxRecDepth 100000
theorem fd32 {x:Int}:Int.fdiv x (2^32)=x / 4294967296:=by rw[Int.fdiv_eq_ediv_of_nonneg _ (by decide)];rfl
theorem f91w {x y:Int} (r:0<=x) (t:x<18446744073709551616) (l:0<=y) (s:y<18446744073709551616):F91 x y=some (x*y / 18446744073709551616,x*y%18446744073709551616):=by
 have u:x=x / 4294967296*4294967296+x%4294967296:=by omega
 have p:y=y / 4294967296*4294967296+y%4294967296:=by omega
 have a0:0<=x / 4294967296/\x / 4294967296<=4294967295:=by omega
 have g:0<=x%4294967296/\x%4294967296<=4294967295:=by omega
 have i:0<=y / 4294967296/\y / 4294967296<=4294967295:=by omega
 have d0:0<=y%4294967296/\y%4294967296<=4294967295:=by omega
 have e:x*y=x / 4294967296*(y / 4294967296)*18446744073709551616+x / 4294967296*(y%4294967296)*4294967296+x%4294967296*(y / 4294967296)*4294967296+x%4294967296*(y%4294967296):=by
  generalize x / 4294967296=a at *
  generalize x%4294967296=b at *
  generalize y / 4294967296=c at *
  generalize y%4294967296=d at *
  have j:a*4294967296*(c*4294967296)=a*c*18446744073709551616:=by rw[Int.mul_assoc,Int.mul_left_comm 4294967296 c,<-Int.mul_assoc a c];rfl
  rw[u,p,Int.add_mul,Int.mul_add,Int.mul_add,j,Int.mul_right_comm a 4294967296 d,<-Int.mul_assoc b c]
  omega
 have f:∀ a b:Int,0<=a/\a<=4294967295->0<=b/\b<=4294967295->0<=a*b/\a*b<=18446744065119617025:=λa b h hb=>⟨Int.mul_nonneg h.1 hb.1,Int.mul_le_mul h.2 hb.2 hb.1 (by omega)⟩
 have k:=f _ _ a0 i
 have v:=f _ _ a0 d0
 have q:=f _ _ g i
 have o:=f _ _ g d0
 unfold F91
 rw[fd32,fd32,Um r t,Um l s]
 generalize x / 4294967296*(y / 4294967296)=p11 at *
 generalize x / 4294967296*(y%4294967296)=p10 at *
 generalize x%4294967296*(y / 4294967296)=p01 at *
 generalize x%4294967296*(y%4294967296)=p00 at *
 rw[e]
 simp only[fd32]
 rw[Yh (n:=p11) k.1 (by omega),Yh (n:=p10) v.1 (by omega),Yh (n:=p01) q.1 (by omega),Yh (n:=p00) o.1 (by omega),Yh (n:=p10+p00 / 4294967296) (by omega) (by omega),Um (by omega) (by omega),Yh (n:=(p10+p00 / 4294967296)%4294967296+p01) (by omega) (by omega),Yh (n:=p11+(p10+p00 / 4294967296) / 4294967296) (by omega) (by omega),Yh (n:=p11+(p10+p00 / 4294967296) / 4294967296+((p10+p00 / 4294967296)%4294967296+p01) / 4294967296) (by omega) (by omega)]
 have w:∀ n:Int,IntKind.wrap .u64 n=n%18446744073709551616:=λ_=>rfl
 rw[w]
 congr 2
 omega
theorem f91s {x y:Int} (b:0<=x) (d:x<18446744073709551616) (a:0<=y) (c:y<18446744073709551616) (h:x*y<18446744073709551616):F91 x y=some (0,x*y):=by
 have:=Int.mul_nonneg b a
 rw[f91w b d a c,Int.ediv_eq_zero_of_lt this h,Int.emod_eq_of_lt this h]
theorem f177 {x y c:Int} (e:0<=x) (b:0<=y) (a:0<=c) (d:c<=1):F177 x y c=some ((x+y+c)%18446744073709551616,(x+y+c) / 18446744073709551616):=by
 unfold F177
 rw[decide_eq_true e,decide_eq_true b,decide_eq_true a,decide_eq_true d]
 rfl
theorem f178 {x y c:Int} (f:0<=x) (d:0<=y) (a:y<18446744073709551616) (b:0<=c) (e:c<=1):F178 x y c=some ((x+18446744073709551616-y-c)%18446744073709551616,if x<y+c then 1 else 0):=by
 unfold F178
 rw[decide_eq_true f,decide_eq_true d,decide_eq_true a,decide_eq_true b,decide_eq_true e]
 rfl
theorem f92 {N d:Int} (b:0<=N) (h:N / 18446744073709551616<d) (a:d<18446744073709551616):F92 (N / 18446744073709551616) (N%18446744073709551616) d=some (N / d,N%d):=by
 have e:N / 18446744073709551616*18446744073709551616+N%18446744073709551616=N:=by omega
 unfold F92
 rw[decide_eq_true (show 0<=N / 18446744073709551616 by omega),decide_eq_true h,decide_eq_true (show 0<=N%18446744073709551616 by omega),decide_eq_true (show N%18446744073709551616<18446744073709551616 by omega),decide_eq_true a,e]
 rfl
theorem integ {p q L:Int} (K:1<=p) (I:p<=60000000) (O:1<=q) (G:q<=60000000) (N:1<=L) (B:L<=1000000000):∃ r,F85 p q L L=some r/\F95 p q L L=some r:=by
 have j:0<=p*L/\p*L<=60000000000000000:=⟨Int.mul_nonneg (by omega) (by omega),Int.mul_le_mul I B (by omega) (by omega)⟩
 have w:0<=q*L/\q*L<=60000000000000000:=⟨Int.mul_nonneg (by omega) (by omega),Int.mul_le_mul G B (by omega) (by omega)⟩
 have M:0<=p*L*L/\p*L*L<=60000000000000000*L:=⟨Int.mul_nonneg j.1 (by omega),Int.mul_le_mul_of_nonneg_right j.2 (by omega)⟩
 have J:0<=q*L*L/\q*L*L<=60000000000000000*L:=⟨Int.mul_nonneg w.1 (by omega),Int.mul_le_mul_of_nonneg_right w.2 (by omega)⟩
 have v:wi (2*L)=2*L:=wi_u (by omega) (by omega)
 have s:IntKind.wrap .u64 L=L:=Yh (by omega) (by omega)
 have f:IntKind.wrap .u64 (2*L)=2*L:=Yh (by omega) (by omega)
 have g:IntKind.wrap .u64 (2*L*483840)=2*L*483840:=Yh (by omega) (by omega)
 have z:wi (2*L*483840)=2*L*483840:=wi_u (by omega) (by omega)
 have t:IntKind.wrap .u64 (0*L)=0:=by rw[Int.zero_mul];rfl
 have A:IntKind.wrap .u64 p=p:=Yh (by omega) (by omega)
 have H:IntKind.wrap .u64 q=q:=Yh (by omega) (by omega)
 refine⟨wi ((p*L*L+q*L*L) / (2*L*483840)),?_,?_⟩
 ·have i:F173 p L q L=some (0,p*L+q*L):=by
   unfold F173
   rw[A,s,H,f91s (by omega) (by omega) (by omega) (by omega) (by omega),f91s (by omega) (by omega) (by omega) (by omega) (by omega)]
   simp only[Option.bind_some]
   rw[f177 j.1 w.1 (by omega) (by omega)]
   simp only[Option.bind_some]
   rw[Int.ediv_eq_zero_of_lt (by omega) (show p*L+q*L+0<18446744073709551616 by omega),Int.emod_eq_of_lt (by omega) (show p*L+q*L+0<18446744073709551616 by omega),f177 (by omega) (by omega) (by omega) (by omega)]
   simp only[Option.bind_some,Int.add_zero]
   rfl
  unfold F85
  rw[v,show wi (2*L-L)=L by rw[show 2*L-L=L by omega];exact wi_u (by omega) (by omega),i]
  simp only[Option.bind_some]
  rw[s,f91w (by omega) (by omega) (by omega) (by omega),Int.add_mul]
  simp only[Option.bind_some]
  rw[t,Int.add_zero,Yh (n:=(p*L*L+q*L*L) / 18446744073709551616) (by omega) (by omega),f,g,f92 (by omega) (by omega) (by omega)]
  rfl
 ·have d:∀ h l,h=(p*L*L+q*L*L) / 18446744073709551616->l=(p*L*L+q*L*L)%18446744073709551616->JF95_14 L h l=some (wi ((p*L*L+q*L*L) / (2*L*483840))):=λh l D E=>by
   unfold JF95_14
   rw[D,E,v,z,g,f92 (by omega) (by omega) (by omega)]
   rfl
  have C:2*L*p=2*(p*L):=by rw[Int.mul_assoc,Int.mul_comm L p]
  have F:2*(p*L)*L=2*(p*L*L):=Int.mul_assoc ..
  unfold F95
  rw[v,f,A,s,f91s (by omega) (by omega) (by omega) (by omega) (by omega),C]
  simp only[Option.bind_some]
  rw[f91w (by omega) (by omega) (by omega) (by omega),F]
  simp only[Option.bind_some]
  rw[Xp (n:=p-q) (by omega) (by omega),Xp (n:=q-p) (by omega) (by omega)]
  by_cases c:q>=p
  ·have e:(if p-q>q-p then p-q else q-p)=q-p:=by split<;>omega
   have o:L*(q-p)=q*L-p*L:=by rw[Int.mul_comm,Int.sub_mul]
   have k:(q*L-p*L)*L=q*L*L-p*L*L:=Int.sub_mul ..
   have a:p*L<=q*L:=Int.mul_le_mul_of_nonneg_right c (by omega)
   have u:p*L*L<=q*L*L:=Int.mul_le_mul_of_nonneg_right a (by omega)
   rw[e,Yh (n:=q-p) (by omega) (by omega),f91s (by omega) (by omega) (by omega) (by omega) (by omega),o]
   simp only[Option.bind_some]
   rw[f91w (by omega) (by omega) (by omega) (by omega),k]
   simp only[Option.bind_some]
   rw[decide_eq_true c,cond_true]
   generalize p*L*L=P at *
   generalize q*L*L=Q at *
   rw[f177 (by omega) (by omega) (by omega) (by omega)]
   simp only[Option.bind_some]
   rw[t,Int.add_zero,Int.add_zero,Yh (n:=2*P / 18446744073709551616) (by omega) (by omega),Int.add_zero,Yh (n:=(Q-P) / 18446744073709551616) (by omega) (by omega),f177 (by omega) (by omega) (by omega) (by omega)]
   simp only[Option.bind_some]
   exact d _ _ (by omega) (by omega)
  ·have e:(if p-q>q-p then p-q else q-p)=p-q:=by split<;>omega
   have o:L*(p-q)=p*L-q*L:=by rw[Int.mul_comm,Int.sub_mul]
   have k:(p*L-q*L)*L=p*L*L-q*L*L:=Int.sub_mul ..
   have a:q*L<=p*L:=Int.mul_le_mul_of_nonneg_right (by omega) (by omega)
   have u:q*L*L<=p*L*L:=Int.mul_le_mul_of_nonneg_right a (by omega)
   rw[e,Yh (n:=p-q) (by omega) (by omega),f91s (by omega) (by omega) (by omega) (by omega) (by omega),o]
   simp only[Option.bind_some]
   rw[f91w (by omega) (by omega) (by omega) (by omega),k]
   simp only[Option.bind_some]
   rw[decide_eq_false c,cond_false]
   generalize p*L*L=P at *
   generalize q*L*L=Q at *
   rw[f178 (by omega) (by omega) (by omega) (by omega) (by omega)]
   simp only[Option.bind_some]
   rw[t,Int.add_zero,Int.add_zero,Yh (n:=2*P / 18446744073709551616) (by omega) (by omega),Yh (n:=(P-Q) / 18446744073709551616) (by omega) (by omega)]
   by_cases b:2*P%18446744073709551616<(P-Q)%18446744073709551616
   ·rw[if_pos (show 2*P%18446744073709551616<(P-Q)%18446744073709551616+0 by omega),f178 (by omega) (by omega) (by omega) (by omega) (by omega)]
    simp only[Option.bind_some]
    exact d _ _ (by omega) (by omega)
   ·rw[if_neg (show ¬ 2*P%18446744073709551616<(P-Q)%18446744073709551616+0 by omega),f178 (by omega) (by omega) (by omega) (by omega) (by omega)]
    simp only[Option.bind_some]
    exact d _ _ (by omega) (by omega)
end Go.Proofs.YtibndgdocbbbeaaGreat
namespace Go.Proofs.YtibndgdocbbbeaaGreat
open Go.PE Go.RowKit
set_option maxRecDepth 100000
structure StOk (x:G90):Prop where
 b0:0<=x.fN
 b1:x.fN<x.fE
 e1:x.fE<=1000000000
 f0:1<=x.fj
 f1:x.fj<=60000000
 t0:1<=x.fTo
 t1:x.fTo<=60000000
def qI (x:G90):Int:=(F95 x.fj x.fTo (x.fE-x.fN) (x.fE-x.fN)).getD 0
def wM (x:G90) (a:Int):G90:=⟨x.fN,x.fE,x.fj,x.fTo,a⟩
def timS:Int->List G90->List G90
 |_,[]=>[]
 |a,x::r=>wM x a::timS (wi (a+qI x)) r
theorem timS_len:∀ (a:Int) (l:List G90),(timS a l).length=l.length
 |_,[]=>rfl
 |a,x::r=>by rw[timS,List.length_cons,timS_len,List.length_cons]
theorem q_ok {x:G90} (h:StOk x):wi (x.fE-x.fN)=x.fE-x.fN/\F95 x.fj x.fTo (x.fE-x.fN) (x.fE-x.fN)=some (qI x)/\F85 x.fj x.fTo (x.fE-x.fN) (x.fE-x.fN)=some (qI x):=by
 obtain⟨i,k,j,g,d,c,f⟩:=h
 obtain⟨r,b,a⟩:=integ (L:=x.fE-x.fN) g d c f (by omega) (by omega)
 have e:qI x=r:=by unfold qI;rw[a];rfl
 rw[e]
 exact⟨wi_u (by omega) (by omega),a,b⟩
theorem f48 {l:List G90} (hl:l.length<=900000) (ok:∀ x∈l,StOk x):F48 (mkSl l)=some (mkSl (timS 0 l)):=by
 have es:Sl.es (mkSl l)=l:=mkSl_es _
 have p:ln (mkSl l)=l.length:=by simp only[ln,es]
 obtain⟨t,j,rfl⟩:=Xs (body:=λ(x:List G90×Int×Int)=>match x with|(v3,v4,v5)=>LF48_11 (mkSl l) v3 v4 v5) (I:=λx=>0<=x.2.2/\x.2.2<=l.length/\(x.1.length:Int)=x.2.2/\x.1++timS x.2.1 (l.drop x.2.2.toNat)=timS 0 l)
  (μ:=λx=>((l.length:Int)-x.2.2).toNat) (T:=λt=>t=timS 0 l) (s:=([],0,0)) (by
   rintro⟨o,a,i⟩ ⟨d,k,r,b⟩
   simp only at d k r b ⊢
   unfold LF48_11
   rw[es,p]
   by_cases c:i<(l.length:Int)
   ·obtain⟨x,e,h⟩:=gx_ex (l:=l) d c
    obtain⟨q,f,_⟩:=q_ok (ok x h)
    rw[decide_eq_true c,e]
    simp only[cond_true,Option.bind_some]
    rw[q,f]
    simp only[Option.bind_some]
    have g:gapp 40 o [(⟨x.fN,x.fE,x.fj,x.fTo,a⟩:G90)]=some (o++[wM x a]):=gapp1 (by omega)
    rw[g]
    simp only[Option.bind_some]
    rw[wi_u (n:=i+1) (by omega) (by omega)]
    rw[Wi e]at b
    refine .inl ⟨_,rfl,⟨by simp only;omega,by simp only;omega,by simp;omega,?_⟩,by simp only;omega⟩
    rw[<-b]
    simp[timS]
   ·rw[decide_eq_false c]
    refine .inr ⟨o,rfl,?_⟩
    rw[List.drop_of_length_le (by omega)]at b
    simpa [timS] using b) ⟨Int.le_refl _,Int.natCast_nonneg _,rfl,rfl⟩ (by simp only;omega)
 unfold F48
 rw[j]
 rfl
theorem f46 {l:List G90} (u:l≠[]) (hl:l.length<=900000) (ok:∀ x∈l,StOk x):F46 l=some (.no (timS 0 l)):=by
 have hp:0<l.length:=List.length_pos_iff.2 u
 obtain⟨t,q,rfl⟩:=Xs (body:=λ(x:List G90×Int×Int)=>match x with|(v3,v4,v5)=>LF46 l.length v3 v4 v5) (I:=λx=>∃ b,0<=x.2.2/\x.2.2<=l.length/\(b.length:Int)=x.2.2/\x.1=b++l.drop x.2.2.toNat/\b++timS x.2.1 (l.drop x.2.2.toNat)=timS 0 l)
  (μ:=λx=>((l.length:Int)-x.2.2).toNat) (T:=λt=>t=timS 0 l) (s:=(l,0,0)) (by
   rintro⟨o,a,i⟩ ⟨b,f,k,j,d,e⟩
   simp only at f k j e d ⊢
   unfold LF46
   by_cases c:i<(l.length:Int)
   ·obtain⟨x,z,v⟩:=gx_ex (l:=l) f c
    obtain⟨r,_,q3⟩:=q_ok (ok x v)
    rw[Wi z]at e d
    have A:gx o i=some x:=by rw[d];exact gx_last j _
    have w:gset o i ⟨x.fN,x.fE,x.fj,x.fTo,a⟩=some (b++wM x a::l.drop (i+1).toNat):=by
     unfold gset
     rw[if_pos ⟨f,by rw[d];simp;omega⟩,d,List.set_append_right _ _ (by omega),show i.toNat-b.length=0 by omega]
     rfl
    have g:gx (b++wM x a::l.drop (i+1).toNat) i=some (wM x a):=gx_last j _
    have h:F87 (wM x a) (wM x a).fE=some (wi (a+qI x)):=by
     unfold F87
     show((F85 x.fj x.fTo (wi (x.fE-x.fN)) (wi (x.fE-x.fN))).bind λp=>some (wi (a+p)))=_
     rw[r,q3]
     rfl
    rw[decide_eq_true c,show gin i l.length=some () by unfold gin;rw[if_pos ⟨f,c⟩],A]
    simp only[cond_true,Option.bind_some]
    rw[w]
    simp only[Option.bind_some]
    rw[g]
    simp only[Option.bind_some]
    rw[h]
    simp only[Option.bind_some]
    rw[wi_u (n:=i+1) (by omega) (by omega)]
    refine .inl ⟨_,rfl,⟨b++[wM x a],by simp only;omega,by simp only;omega,by simp;omega,by simp,?_⟩,by simp only;omega⟩
    rw[<-e]
    simp[timS]
   ·rw[decide_eq_false c]
    refine .inr ⟨o,rfl,?_⟩
    rw[List.drop_of_length_le (by omega)]at e d
    rw[d]
    simpa [timS] using e) ⟨[],Int.le_refl _,Int.natCast_nonneg _,rfl,rfl,rfl⟩ (by simp only;omega)
 unfold F46
 rw[decide_eq_true hp,decide_eq_true (show l.length*40<=140737488355328 by omega),q]
 simp only[Bool.and_true,cond_true,Option.bind_some]
 rw[decide_eq_true (timS_len 0 l)]
 rfl
end Go.Proofs.YtibndgdocbbbeaaGreat
namespace Go.Proofs.YtibndgdocbbbeaaGreat
open Go.PE Go.RowKit
set_option maxRecDepth 100000
def addS (l:List G90) (x:G90):List G90:=match l.getLast? with
 |some y=>bif (x.fj==x.fTo)&&((y.fj==x.fj)&&(y.fTo==x.fj))then l.dropLast++[⟨y.fN,x.fE,y.fj,y.fTo,y.f8⟩] else l++[x]
 |none=>l++[x]
theorem addS_nil (x:G90):addS [] x=[x]:=rfl
theorem addS_app (p:List G90) (y x:G90):addS (p++[y]) x=bif (x.fj==x.fTo)&&((y.fj==x.fj)&&(y.fTo==x.fj))then p++[⟨y.fN,x.fE,y.fj,y.fTo,y.f8⟩] else p++[y]++[x]:=by
 unfold addS
 rw[List.getLast?_append]
 simp
theorem addS_len (l:List G90) (x:G90):(addS l x).length<=l.length+1/\addS l x≠[]:=by
 rcases List.eq_nil_or_concat l with rfl|⟨p,y,rfl⟩
 ·exact⟨by simp[addS_nil],by simp[addS_nil]⟩
 ·rw[List.concat_eq_append,addS_app]
  cases(x.fj==x.fTo)&&((y.fj==x.fj)&&(y.fTo==x.fj))<;>simp
theorem addS_ok {l:List G90} {x:G90} {t:Int} (h:∀ y∈l,StOk y/\y.fE<=t) (e:StOk x) (hb:t<=x.fN):∀ y∈addS l x,StOk y/\y.fE<=x.fE:=by
 have c:∀ y∈l,StOk y/\y.fE<=x.fE:=λy d=>⟨(h y d).1,by have:=(h y d).2;have:=e.b1;omega⟩
 rcases List.eq_nil_or_concat l with rfl|⟨p,y,rfl⟩
 ·intro y d
  rw[addS_nil,List.mem_singleton]at d
  subst d
  exact⟨e,Int.le_refl _⟩
 ·rw[List.concat_eq_append]at *
  intro z a
  rw[addS_app]at a
  obtain⟨b,f⟩:=h y (by simp)
  cases hc:(x.fj==x.fTo)&&((y.fj==x.fj)&&(y.fTo==x.fj))with
  |true=>
   rw[hc,cond_true,List.mem_append,List.mem_singleton]at a
   rcases a with a|rfl
   ·exact c z (by simp[a])
   ·have:=e.b1
    have:=b.b1
    exact⟨⟨b.b0,by simp only;omega,e.e1,b.f0,b.f1,b.t0,b.t1⟩,Int.le_refl _⟩
  |false=>
   rw[hc,cond_false,List.mem_append,List.mem_singleton]at a
   rcases a with a|rfl
   ·exact c z a
   ·exact⟨e,Int.le_refl _⟩
theorem lnl_app {p:List G90} {y:G90}:lnl (p++[y])=(p.length:Int)+1:=by
 show((p++[y]).length:Int)=_
 simp
theorem gx_lastp {p:List G90} {y:G90} (hp:p.length<=1000000):gx (p++[y]) (wi (lnl (p++[y])-1))=some y:=by
 have e:wi (lnl (p++[y])-1)=(p.length:Int):=by
  rw[lnl_app,wi_u (by omega) (by omega)]
  omega
 rw[e]
 exact gx_last rfl []
theorem gset_lastp {p:List G90} {y x:G90} (hp:p.length<=1000000):gset (p++[y]) (wi (lnl (p++[y])-1)) x=some (p++[x]):=by
 have e:wi (lnl (p++[y])-1)=(p.length:Int):=by
  rw[lnl_app,wi_u (by omega) (by omega)]
  omega
 unfold gset
 rw[e,if_pos ⟨by omega,by simp;omega⟩,List.set_append_right _ _ (by omega),Int.toNat_natCast,Nat.sub_self]
 rfl
theorem gap1 {l:List G90} {x:G90} (hl:l.length<=1000000):gapp 40 l [x]=some (l++[x]):=gapp1 hl
theorem f45 {l:List G90} {x:G90} (hl:l.length<=1000000):F45_1 l x=some (addS l x):=by
 have a:Wh l x false=some (l++[x]):=by
  unfold Wh
  rw[cond_false,gap1 hl]
  rfl
 rcases List.eq_nil_or_concat l with rfl|⟨p,y,rfl⟩
 ·exact a
 ·rw[List.concat_eq_append]at *
  have hp:p.length<=1000000:=by simp at hl;omega
  unfold F45_1
  rw[decide_eq_true (show lnl (p++[y])>0 by rw[lnl_app];omega),cond_true,gx_lastp hp,addS_app]
  simp only[Option.bind_some]
  cases h1:x.fj==x.fTo with
  |false=>simpa using a
  |true=>
   cases h2:y.fj==x.fj with
   |false=>simpa using a
   |true=>
    cases h3:y.fTo==x.fj with
    |false=>simpa using a
    |true=>
     simp only[cond_true,Bool.and_self]
     unfold Wh
     rw[cond_true,gx_lastp hp]
     simp only[Option.bind_some]
     rw[gset_lastp hp]
     rfl
section
variable {T:Sl G108}
theorem m53 {l:List G90} {a b t r q:Int} (hl:l.length<=1000000) (hr:F17 T a false=some r) (o:F17 T b true=some q) (u:0<=t) (w:t<=1000000000) (a0:0<=a) (v:a<b) (s:b<=1000000000):
  JF21_53 T a l t b=some (.inl (addS l ⟨t,t+b-a,r,q,0⟩,t+b-a,b)):=by
 have i:wi (wi (t+b)-a)=t+b-a:=by rw[wi_u (n:=t+b) (by omega) (by omega),wi_u (by omega) (by omega)]
 have d:Vr l t b a r q false=some (.inl (l++[⟨t,t+b-a,r,q,0⟩],t+b-a,b)):=by
  unfold Vr
  rw[cond_false,i,gap1 hl]
  rfl
 unfold JF21_53
 rw[hr,o]
 simp only[Option.bind_some]
 rcases List.eq_nil_or_concat l with rfl|⟨p,y,rfl⟩
 ·exact d
 ·rw[List.concat_eq_append]at *
  have hp:p.length<=1000000:=by simp at hl;omega
  rw[decide_eq_true (show lnl (p++[y])>0 by rw[lnl_app];omega),cond_true,gx_lastp hp,addS_app]
  simp only[Option.bind_some]
  by_cases c:r=q/\y.fj=r/\y.fTo=r
  ·obtain⟨j,f,g⟩:=c
   subst j
   rw[f,g]
   simp only[beq_self_eq_true,cond_true,Bool.and_self]
   unfold Vr
   rw[cond_true,gx_lastp hp,i]
   simp only[Option.bind_some]
   rw[gset_lastp hp,f,g]
   rfl
  ·have e:((r==q)&&((y.fj==r)&&(y.fTo==r)))=false:=by
    cases h:(r==q)&&((y.fj==r)&&(y.fTo==r))with
    |false=>rfl
    |true=>
     simp only[Bool.and_eq_true,beq_iff_eq]at h
     exact absurd h c
   rw[e,cond_false]
   by_cases d1:y.fj=y.fTo
   ·by_cases d2:r=q
    ·have k:¬ r=y.fj:=λh=>c ⟨d2,h.symm,by omega⟩
     rw[show(y.fj==y.fTo)=true from beq_iff_eq.2 d1,show(r==q)=true from beq_iff_eq.2 d2,show(r==y.fj)=false from beq_eq_false_iff_ne.2 k,cond_true,cond_true]
     exact d
    ·rw[show(y.fj==y.fTo)=true from beq_iff_eq.2 d1,show(r==q)=false from beq_eq_false_iff_ne.2 d2,cond_true,cond_false]
     exact d
   ·rw[show(y.fj==y.fTo)=false from beq_eq_false_iff_ne.2 d1,cond_false]
    exact d
end
theorem m_min {L:List (Int×Int×Bool)} {a b e:Int} (hl:(L.length:Int)<=100000) (V:a<b) (be:b<=e) (hn:∀ y∈L,a<y.1->b<=y.1) (Q:b=e\/∃ y∈L,y.1=b):
  Xg (λ(x:Int×Int)=>match x with|(v76,v77)=>LF21_83 (mM L) a v76 v77) (e,wi (ln (mM L)-1))=some b:=by
 rw[mlT,Xp (n:=(L.length:Int)-1) (by omega) (by omega)]
 obtain⟨t,P,rfl⟩:=Xs (body:=λ(x:Int×Int)=>match x with|(v76,v77)=>LF21_83 (mM L) a v76 v77) (I:=λx=>-1<=x.2/\x.2<L.length/\b<=x.1/\x.1<=e/\(x.1=b\/b=e\/∃ (j:Int) (y:Int×Int×Bool),j<=x.2/\gx L j=some y/\y.1=b))
  (μ:=λx=>(x.2+1).toNat) (T:=λt=>t=b) (s:=(e,(L.length:Int)-1)) (by
   rintro⟨c,k⟩ ⟨M,H,F,E,B⟩
   simp only at M H F E B ⊢
   unfold LF21_83
   by_cases h:k>=0
   ·obtain⟨y,o⟩:=gx_at (l:=L) h H
    have K:gx (Sl.es (mM L)) k=some (gM' y):=by rw[mTS,o];rfl
    have w:=Xp (n:=k-1) (by omega) (by omega)
    rw[decide_eq_true h,cond_true,K]
    simp only[Option.bind_some]
    have J:(gM' y).fat=y.1:=rfl
    rw[J]
    have A:∀ d:Int,b<=d->d<=e->(d=b\/b=e\/∃ (j:Int) (y:Int×Int×Bool),j<=k-1/\gx L j=some y/\y.1=b)->∃ i,JF21_86 k d=some (.inl i)/\(-1<=i.2/\i.2<L.length/\b<=i.1/\i.1<=e/\(i.1=b\/b=e\/∃ (j:Int) (y:Int×Int×Bool),j<=i.2/\gx L j=some y/\y.1=b))/\(i.2+1).toNat<(k+1).toNat:=λd O N R=>by
     unfold JF21_86
     rw[w]
     exact⟨_,rfl,⟨by simp only;omega,by simp only;omega,O,N,R⟩,by simp only;omega⟩
    have g:y.1≠b\/c=b->c=b\/b=e\/∃ (j:Int) (y:Int×Int×Bool),j<=k-1/\gx L j=some y/\y.1=b:=λG=>by
     rcases B with f|f|⟨j,z,f,u,v⟩
     ·exact .inl f
     ·exact .inr (.inl f)
     ·by_cases C:j=k
      ·subst C
       cases o.symm.trans u
       rcases G with D|D
       ·exact absurd v D
       ·exact .inl D
      ·exact .inr (.inr ⟨j,z,by omega,u,v⟩)
    left
    by_cases p:y.1>a
    ·have U:=hn y (Wo o) p
     rw[decide_eq_true p,cond_true]
     unfold JF21_88
     by_cases q:y.1<c
     ·rw[decide_eq_true q,cond_true,K]
      simp only[Option.bind_some]
      rw[J]
      refine A _ U (by omega) ?_
      by_cases r:y.1=b
      ·exact .inl r
      ·rcases g (.inl r)with f|f|f
       ·omega
       ·exact .inr (.inl f)
       ·exact .inr (.inr f)
     ·rw[decide_eq_false q,cond_false]
      exact A _ F E (g (by by_cases r:y.1=b;exact .inr (by omega);exact .inl r))
    ·rw[decide_eq_false p,cond_false]
     unfold JF21_88
     rw[cond_false]
     exact A _ F E (g (.inl (by omega)))
   ·rw[decide_eq_false h]
    refine .inr ⟨c,rfl,?_⟩
    rcases B with f|f|⟨j,z,f,u,v⟩
    ·exact f
    ·omega
    ·have:=(Ya u).1
     omega) ⟨by simp only;omega,by simp only;omega,be,Int.le_refl _,by
   rcases Q with h|⟨y,o,h⟩
   ·exact .inr (.inl h)
   ·obtain⟨j,C,rfl⟩:=List.getElem_of_mem o
    exact .inr (.inr ⟨(j:Int),_,by simp only;omega,by unfold gx;rw[if_pos (by omega)];exact List.getElem?_eq_getElem C,h⟩)⟩ (by simp only;omega)
 exact P
structure CutOk (L:List (Int×Int×Bool)) (C:List Int) (a0 e:Int):Prop where
 pw:C.Pairwise (λx y=>x<y)
 hd:gx C 0=some a0
 lst:gx C ((C.length:Int)-1)=some e
 p0:0<=a0
 p1:e<=200000000
 len:C.length<=2000
 mem:∀ y∈L,a0<y.1->y.1<e->y.1∈C
 src:∀ b∈C,b=a0\/b=e\/∃ y∈L,y.1=b
theorem pw_gx {C:List Int} (h:C.Pairwise (λx y=>x<y)) {i j a b:Int} (d:i<j) (c:gx C i=some a) (hb:gx C j=some b):a<b:=by
 have p:=Ya c
 have q:=Ya hb
 unfold gx at c hb
 rw[if_pos p.1,List.getElem?_eq_getElem (by omega)]at c
 rw[if_pos q.1,List.getElem?_eq_getElem (by omega)]at hb
 rw[<-Option.some.inj c,<-Option.some.inj hb]
 exact List.pairwise_iff_getElem.1 h _ _ _ _ (by omega)
theorem CutOk.rng {L:List (Int×Int×Bool)} {C:List Int} {a0 e:Int} (h:CutOk L C a0 e) {k a:Int} (b:gx C k=some a):a0<=a/\a<=e/\(k<(C.length:Int)-1->a<e)/\(0<k->a0<a):=by
 have p:=Ya b
 refine⟨?_,?_,λc=>pw_gx h.pw c b h.lst,λc=>pw_gx h.pw c h.hd b⟩
 ·by_cases c:k=0
  ·subst c;cases h.hd.symm.trans b;exact Int.le_refl _
  ·exact Int.le_of_lt (pw_gx h.pw (by omega) h.hd b)
 ·by_cases c:k=(C.length:Int)-1
  ·subst c;cases h.lst.symm.trans b;exact Int.le_refl _
  ·exact Int.le_of_lt (pw_gx h.pw (by omega) b h.lst)
theorem CutOk.step {L:List (Int×Int×Bool)} {C:List Int} {a0 e:Int} (h:CutOk L C a0 e) {k a b:Int} (i:gx C k=some a) (hb:gx C (k+1)=some b):0<=a/\a<b/\b<=e/\(∀ y∈L,a<y.1->b<=y.1)/\(b=e\/∃ y∈L,y.1=b):=by
 have t:=pw_gx h.pw (show k<k+1 by omega) i hb
 have u:=h.rng i
 have o:=h.rng hb
 have v:=h.p0
 refine⟨by omega,t,o.2.1,λy s p=>?_,?_⟩
 ·by_cases c:b<=y.1
  ·exact c
  ·have q:=h.mem y s (by omega) (by omega)
   obtain⟨j,r,l⟩:=List.getElem_of_mem q
   have g:gx C (j:Int)=some y.1:=by unfold gx;rw[if_pos (by omega),Int.toNat_natCast,List.getElem?_eq_getElem r,l]
   by_cases d:(j:Int)<=k
   ·by_cases f:(j:Int)=k
    ·rw[f]at g;cases i.symm.trans g;omega
    ·have:=pw_gx h.pw (show(j:Int)<k by omega) g i;omega
   ·by_cases f:(j:Int)=k+1
    ·rw[f]at g;cases hb.symm.trans g;omega
    ·have:=pw_gx h.pw (show k+1<(j:Int) by omega) hb g;omega
 ·rcases h.src b (Wo hb)with n|n
  ·have:=o.2.2.2 (by have:=(Ya i).1;omega)
   omega
  ·exact n
def segF (v:Int->Int->Int×Int):List Int->List G90×Int->List G90×Int
 |a::b::r,s=>segF v (b::r) (addS s.1 ⟨s.2,s.2+b-a,(v a b).1,(v a b).2,0⟩,s.2+b-a)
 |_,s=>s
def vT (T:Sl G108) (a b:Int):Int×Int:=((F17 T a false).getD 0,(F17 T b true).getD 0)
def Inv1 (s:List G90×Int):Prop:=0<=s.2/\∀ y∈s.1,StOk y/\y.fE<=s.2
section
variable {L:List (Int×Int×Bool)} (hb:∀ y∈L,0<=y.1/\y.1<=1000000000/\1<=y.2.1/\y.2.1<=60000000) (hp:L.Pairwise (λx y=>x.1<y.1)) (hl:(L.length:Int)<=100000)
include hb hp hl
theorem piece {C:List Int} {a0 e:Int} (h:CutOk L C a0 e) {l:List G90} {t k:Int} (E:0<=k) (B:k<(C.length:Int)-1) (M:l.length<=900000) (v:Inv1 (l,t)) (N:t<=780000000):
  ∃ a b,gx C k=some a/\gx C (k+1)=some b/\a<e/\a0<=a/\a<b/\b<=e/\
   (∃ i,F41 (mP L) a=some i/\F40 (mP L) i a=some (vT (mM L) a b).1/\F40 (mP L) i b=some (vT (mM L) a b).2)/\
   F45_1 l ⟨t,t+b-a,(vT (mM L) a b).1,(vT (mM L) a b).2,0⟩=some (addS l ⟨t,t+b-a,(vT (mM L) a b).1,(vT (mM L) a b).2,0⟩)/\
   Xg (λ(x:Int×Int)=>match x with|(v76,v77)=>LF21_83 (mM L) a v76 v77) (e,wi (ln (mM L)-1))=some b/\
   JF21_53 (mM L) a l t b=some (.inl (addS l ⟨t,t+b-a,(vT (mM L) a b).1,(vT (mM L) a b).2,0⟩,t+b-a,b))/\
   wi (wi (t+b)-a)=t+b-a/\Inv1 (addS l ⟨t,t+b-a,(vT (mM L) a b).1,(vT (mM L) a b).2,0⟩,t+b-a)/\
   segF (vT (mM L)) (C.drop k.toNat) (l,t)=segF (vT (mM L)) (C.drop (k+1).toNat) (addS l ⟨t,t+b-a,(vT (mM L) a b).1,(vT (mM L) a b).2,0⟩,t+b-a):=by
 obtain⟨a,g⟩:=gx_at (l:=C) E (by omega)
 obtain⟨b,c⟩:=gx_at (l:=C) (i:=k+1) (by omega) (by omega)
 obtain⟨s,d,w,u,G⟩:=h.step g c
 have o:=h.rng g
 have O:=h.p1
 obtain⟨i,r,q,H,K,I,j,p,A,D,F,J⟩:=seg_at hb hp hl s d (by omega) u
 have f:vT (mM L) a b=(r,q):=by unfold vT;rw[j,p];rfl
 have z:0<=t:=v.1
 refine⟨a,b,g,c,o.2.2.1 B,o.1,d,w,⟨i,H,by rw[f];exact K,by rw[f];exact I⟩,f45 (by omega),m_min hl d w u G,?_,by rw[wi_u (n:=t+b) (by omega) (by omega),wi_u (by omega) (by omega)],?_,?_⟩
 ·rw[f]
  exact m53 (by omega) j p z (by omega) s d (by omega)
 ·rw[f]
  refine⟨by simp only;omega,addS_ok (t:=t) v.2 ⟨z,by simp only;omega,by simp only;omega,A,D,F,J⟩ (Int.le_refl _)⟩
 ·rw[Wi g,Wi c]
  rfl
theorem p_loop {C:List Int} {a0 e:Int} (h:CutOk L C a0 e) {S:Sl Int} {l0:List G90} {t0:Int} (Y:l0.length<=800000) (P:Inv1 (l0,t0)) (h3:t0<=700000000) (hd:e-a0<=15482880):
  Xg (λ(x:List G90×Int×Int)=>match x with|(v50,v51,v52)=>LF19_59 C (mP L,S) v50 v51 v52) (l0,t0,1)=some (segF (vT (mM L)) C (l0,t0))/\
  Inv1 (segF (vT (mM L)) C (l0,t0))/\(segF (vT (mM L)) C (l0,t0)).1.length<=l0.length+C.length/\(segF (vT (mM L)) C (l0,t0)).2=t0+e-a0/\(2<=C.length->(segF (vT (mM L)) C (l0,t0)).1≠[]):=by
 have B:=h.len
 have A:=Ya h.hd
 obtain⟨z,K,rfl,M,N,Q,O⟩:=Xs (body:=λ(x:List G90×Int×Int)=>match x with|(v50,v51,v52)=>LF19_59 C (mP L,S) v50 v51 v52)
  (I:=λx=>1<=x.2.2/\x.2.2<=C.length/\(x.1.length:Int)<=l0.length+x.2.2/\(1<x.2.2->x.1≠[])/\(∃ a,gx C (x.2.2-1)=some a/\x.2.1=t0+a-a0)/\Inv1 (x.1,x.2.1)/\segF (vT (mM L)) (C.drop (x.2.2-1).toNat) (x.1,x.2.1)=segF (vT (mM L)) C (l0,t0))
  (μ:=λx=>((C.length:Int)-x.2.2).toNat) (T:=λz=>z=segF (vT (mM L)) C (l0,t0)/\Inv1 z/\z.1.length<=l0.length+C.length/\z.2=t0+e-a0/\(2<=C.length->z.1≠[])) (s:=(l0,t0,1)) (by
   rintro⟨l,t,k⟩ ⟨F,G,U,v,⟨o,f,r⟩,j,g⟩
   simp only at F G U j g v f r ⊢
   have ra:=h.rng f
   unfold LF19_59
   by_cases c:k<(C.length:Int)
   ·obtain⟨a,b,u,d,Z,c2,c3,c4,⟨i,V,X,W⟩,D,_,_,w,J,p⟩:=piece hb hp hl h (l:=l) (t:=t) (k:=k-1) (by omega) (by omega) (by omega) j (by omega)
    rw[show k-1+1=k by omega]at d p
    cases u.symm.trans f
    have H:wi (k-1)=k-1:=wi_u (by omega) (by omega)
    rw[decide_eq_true (show k<lnl C from c),cond_true,H,u]
    simp only[Option.bind_some]
    rw[V,d]
    simp only[Option.bind_some]
    rw[X,W]
    simp only[Option.bind_some]
    rw[w,D]
    simp only[Option.bind_some]
    rw[wi_u (n:=k+1) (by omega) (by omega)]
    have R:=addS_len l ⟨t,t+b-o,(vT (mM L) o b).1,(vT (mM L) o b).2,0⟩
    refine .inl ⟨_,rfl,⟨by simp only;omega,by simp only;omega,by simp only;omega,λ_=>R.2,⟨b,by simp only;rw[show k+1-1=k by omega];exact d,by simp only;omega⟩,J,?_⟩,by simp only;omega⟩
    simp only
    rw[show k+1-1=k by omega,<-p]
    exact g
   ·rw[decide_eq_false (show ¬ k<lnl C from c),cond_false]
    have E:k=C.length:=by omega
    subst E
    cases h.lst.symm.trans f
    refine .inr ⟨_,rfl,?_,j,by simp only;omega,r,λq=>v (by omega)⟩
    rw[Wi f,List.drop_of_length_le (by omega)]at g
    exact g) ⟨Int.le_refl _,by simp only;omega,by simp only;omega,λq=>by simp only at q;omega,⟨a0,h.hd,by simp only;omega⟩,P,rfl⟩ (by simp only;omega)
 exact⟨K,M,N,Q,O⟩
theorem m_loop {C:List Int} {a0 e:Int} (h:CutOk L C a0 e) {S:List Int} {x:Int} {bar:G114} {l0:List G90} {t0:Int} (F:gx S (wi (bar.fo+1))=some e) (K:l0.length<=800000) (E:Inv1 (l0,t0)) (O:t0<=700000000) (R:e-a0<=15482880):
  Xg (λ(y:List G90×Int×Int)=>match y with|(v37,v38,v39)=>LF21_46 (Sl.no S,x) bar (mM L) v37 v38 v39) (l0,t0,a0)=some (segF (vT (mM L)) C (l0,t0)):=by
 have p:=h.len
 have o:=Ya h.hd
 obtain⟨z,B,rfl⟩:=Xs (body:=λ(y:List G90×Int×Int)=>match y with|(v37,v38,v39)=>LF21_46 (Sl.no S,x) bar (mM L) v37 v38 v39)
  (I:=λx=>∃ k:Int,0<=k/\k<C.length/\gx C k=some x.2.2/\(x.1.length:Int)<=l0.length+k/\x.2.1=t0+x.2.2-a0/\Inv1 (x.1,x.2.1)/\segF (vT (mM L)) (C.drop k.toNat) (x.1,x.2.1)=segF (vT (mM L)) C (l0,t0))
  (μ:=λx=>(e-x.2.2).toNat) (T:=λz=>z=segF (vT (mM L)) C (l0,t0)) (s:=(l0,t0,a0)) (by
   rintro⟨l,t,f⟩ ⟨k,v,N,d,G,w,n,g⟩
   simp only at G n g d w ⊢
   have M:=h.rng d
   have j:gx (Sl.es (Sl.no S)) (wi (bar.fo+1))=some e:=F
   unfold LF21_46
   rw[j]
   simp only[Option.bind_some]
   by_cases c:k<(C.length:Int)-1
   ·obtain⟨a,b,D,i,u,P,Q,V,_,_,H,J,_,A,q⟩:=piece hb hp hl h (l:=l) (t:=t) (k:=k) v c (by omega) n (by omega)
    cases D.symm.trans d
    rw[decide_eq_true u,cond_true,H]
    simp only[Option.bind_some]
    rw[J]
    have U:=addS_len l ⟨t,t+b-f,(vT (mM L) f b).1,(vT (mM L) f b).2,0⟩
    refine .inl ⟨_,rfl,⟨k+1,by omega,by omega,i,by simp only;omega,by simp only;omega,A,by simp only;rw[<-q];exact g⟩,by simp only;omega⟩
   ·have r:k=(C.length:Int)-1:=by omega
    subst r
    cases h.lst.symm.trans d
    rw[decide_eq_false (by omega),cond_false]
    refine .inr ⟨_,rfl,?_⟩
    rw[Wi d,List.drop_of_length_le (by omega)]at g
    exact g) ⟨0,Int.le_refl _,by omega,h.hd,by simp,by simp only;omega,E,rfl⟩ (by have:=h.p1;have:=h.p0;simp only;omega)
 exact B
end
end Go.Proofs.YtibndgdocbbbeaaGreat
namespace Go.Proofs.YtibndgdocbbbeaaGreat
open Go.PE Go.RowKit
set_option maxRecDepth 100000
def cutF (a:Int) (l:List G111):List Int:=(l.filter λx=>decide (x.fAt>0)).map λx=>a+x.fAt
def cutsL (a:Int) (m:G75):List Int:=a::(cutF a (Sl.es m.fm)++[a+lenOf m])
theorem f88 {m:G75} (o:MOk m) {M:Sl G173} {S:List Int} {bar:G114} {a:Int} (k:gx S bar.fo=some a) (a0:0<=a) (v:a<=200000000):
  Xg (λ(x:List Int×Int)=>match x with|(v81,v82)=>LF19_88 m (M,Sl.no S) bar v81 v82) ([a],0)=some (a::cutF a (Sl.es m.fm)):=by
 have r:=o.nt
 obtain⟨t,i,rfl⟩:=Xs (body:=λ(x:List Int×Int)=>match x with|(v81,v82)=>LF19_88 m (M,Sl.no S) bar v81 v82)
  (I:=λx=>0<=x.2/\x.2<=ln m.fm/\(x.1.length:Int)<=1+x.2/\x.1++cutF a ((Sl.es m.fm).drop x.2.toNat)=a::cutF a (Sl.es m.fm))
  (μ:=λx=>(ln m.fm-x.2).toNat) (T:=λt=>t=a::cutF a (Sl.es m.fm)) (s:=([a],0)) (by
   rintro⟨l,j⟩ ⟨g,h,p,b⟩
   simp only at g h p b ⊢
   unfold LF19_88
   by_cases c:j<ln m.fm
   ·obtain⟨x,f,u⟩:=gx_ex (l:=Sl.es m.fm) g c
    have q:=at_lo o f
    have w:=wi_u (n:=j+1) (by omega) (by omega)
    rw[Wi f]at b
    rw[decide_eq_true c,cond_true,f]
    simp only[Option.bind_some]
    have e:gx (Sl.es (Sl.no S)) bar.fo=some a:=k
    by_cases d:x.fAt>0
    ·rw[decide_eq_true d,cond_true,e]
     simp only[Option.bind_some]
     rw[wi_u (n:=a+x.fAt) (by omega) (by omega),gapp1 (by omega),w]
     refine .inl ⟨_,rfl,⟨by simp only;omega,by simp only;omega,by simp;omega,?_⟩,by simp only;omega⟩
     rw[<-b]
     simp[cutF,d]
    ·rw[decide_eq_false d,cond_false,w]
     refine .inl ⟨_,rfl,⟨by simp only;omega,by simp only;omega,by simp only;omega,?_⟩,by simp only;omega⟩
     rw[<-b]
     simp[cutF,d]
   ·rw[decide_eq_false c]
    refine .inr ⟨l,rfl,?_⟩
    rw[List.drop_of_length_le (by simp only[ln]at c;omega)]at b
    simpa [cutF] using b) ⟨Int.le_refl _,Int.natCast_nonneg _,by simp,rfl⟩ (by simp only;omega)
 exact i
abbrev mkM (a:Int) (x:G111):Int×Int×Bool:=(a+x.fAt,x.f8,x.faA)
theorem tms_split {Ms:List G75} (ok:∀ m∈Ms,MOk m) {b i a:Int} {m:G75} (f:gx Ms i=some m) (g:gx (sts b Ms) i=some a):
  gx (sts b Ms) (i+1)=some (a+lenOf m)/\∃ P Q,tms b Ms=P++(Sl.es m.fm).map (mkM a)++Q/\(∀ y∈P,y.1<a)/\∀ y∈Q,a+lenOf m<=y.1:=by
 induction Ms generalizing b i with
 |nil=>have:=Ya f;simp at this;omega
 |cons m0 l ih=>
  have e:∀ m∈l,MOk m:=λx h=>ok x (List.mem_cons_of_mem _ h)
  have u:=(Ya f).1
  by_cases c:i=0
  ·subst c
   cases f
   cases g
   refine⟨?_,[],tms (a+lenOf m) l,rfl,λy d=>by simp at d,λy d=>((tms_all e (a+lenOf m)).1 y d).1⟩
   rw[sts,gx_succ _ _ (Int.le_refl 0)]
   obtain⟨r,hr⟩:=sts_head (a+lenOf m) l
   rw[hr]
   rfl
  ·rw[show i=(i-1)+1 by omega,gx_succ _ _ (by omega)]at f
   rw[show i=(i-1)+1 by omega,sts,gx_succ _ _ (by omega)]at g
   obtain⟨k,P,Q,t,p,s⟩:=ih e f g
   have n:b+lenOf m0<=a:=((sts_all e (b+lenOf m0)).1 a (Wo g)).1
   have o:=ok m0 (List.mem_cons_self ..)
   refine⟨?_,(Sl.es m0.fm).map (mkM b)++P,Q,?_,λy d=>?_,s⟩
   ·rw[sts,gx_succ _ _ (by omega)]
    rw[show i-1+1=i by omega]at k
    exact k
   ·rw[tms,t]
    simp[mkM]
   ·rw[List.mem_append]at d
    rcases d with d|d
    ·obtain⟨x,h,rfl⟩:=List.mem_map.1 d
     obtain⟨j,q,rfl⟩:=List.getElem_of_mem h
     have:=(o.tm (j:Int) _ (by unfold gx;rw[if_pos (by omega)];exact List.getElem?_eq_getElem q)).2.1
     show b+_<a
     omega
    ·exact p y d
theorem cut_ok {Ms:List G75} (ok:∀ m∈Ms,MOk m) (hl:Ms.length<=10) {i a:Int} {m:G75} (r:gx Ms i=some m) (n:gx (sts 0 Ms) i=some a):
  CutOk (tms 0 Ms) (cutsL a m) a (a+lenOf m):=by
 obtain⟨_,P,Q,q,s,v⟩:=tms_split ok r n
 have o:=ok m (Wo r)
 have C:=o.lo
 have D:=o.hi
 have t:=o.nt
 have B:=(sts_all ok 0).1 a (Wo n)
 have f:∀ x∈Sl.es m.fm,0<=x.fAt/\x.fAt<=lenOf m-1:=λx f=>by
  obtain⟨j,u,rfl⟩:=List.getElem_of_mem f
  have:=o.tm (j:Int) _ (by unfold gx;rw[if_pos (by omega)];exact List.getElem?_eq_getElem u)
  exact⟨this.1,this.2.1⟩
 have k:∀ y∈cutF a (Sl.es m.fm),a<y/\y<a+lenOf m/\∃ x∈Sl.es m.fm,y=a+x.fAt:=λy c=>by
  obtain⟨x,d,rfl⟩:=List.mem_map.1 c
  obtain⟨g,p⟩:=List.mem_filter.1 d
  have w:=of_decide_eq_true p
  have:=f x g
  exact⟨by omega,by omega,x,g,rfl⟩
 have A:(Sl.es m.fm).Pairwise (λx y=>x.fAt<y.fAt):=by
  have:=(tms_all (Ms:=[m]) (λx f=>by rw[List.mem_singleton]at f;exact f▸o) 0).2.1
  rw[tms,tms,List.append_nil,List.pairwise_map]at this
  exact this.imp λh=>by simp only at h;omega
 refine⟨?_,rfl,?_,by omega,by omega,?_,λy c g p=>?_,λb hb=>?_⟩
 ·rw[cutsL,List.pairwise_cons,List.pairwise_append]
  refine⟨λy c=>?_,?_,List.pairwise_singleton ..,λy c z l=>?_⟩
  ·rw[List.mem_append,List.mem_singleton]at c
   rcases c with c|rfl
   ·exact(k y c).1
   ·omega
  ·rw[cutF,List.pairwise_map]
   exact(A.filter _).imp λh=>by omega
  ·rw[List.mem_singleton]at l
   subst l
   exact(k y c).2.1
 ·have e:cutsL a m=(a::cutF a (Sl.es m.fm))++[a+lenOf m]:=rfl
  rw[e]
  exact gx_last (by simp) []
 ·have:(cutF a (Sl.es m.fm)).length<=(Sl.es m.fm).length:=by
   rw[cutF,List.length_map]
   exact List.length_filter_le ..
  simp only[ln]at t
  simp only[cutsL,List.length_cons,List.length_append,List.length_nil]
  omega
 ·rw[q,List.append_assoc,List.mem_append,List.mem_append]at c
  rcases c with c|c|c
  ·have:=s y c
   omega
  ·obtain⟨x,d,rfl⟩:=List.mem_map.1 c
   have w:a<a+x.fAt:=g
   refine List.mem_cons_of_mem _ (List.mem_append_left _ (List.mem_map.2 ⟨x,List.mem_filter.2 ⟨d,decide_eq_true (by omega)⟩,rfl⟩))
  ·have:=v y c
   omega
 ·rw[cutsL,List.mem_cons,List.mem_append,List.mem_singleton]at hb
  rcases hb with h|h|h
  ·exact .inl h
  ·obtain⟨_,_,x,d,rfl⟩:=k b h
   refine .inr (.inr ⟨mkM a x,?_,rfl⟩)
   rw[q]
   exact List.mem_append_left _ (List.mem_append_right _ (List.mem_map.2 ⟨x,d,rfl⟩))
  ·exact .inr (.inl h)
end Go.Proofs.YtibndgdocbbbeaaGreat
namespace Go.Proofs.YtibndgdocbbbeaaGreat
open Go.PE Go.RowKit
set_option maxRecDepth 100000
section
variable (S:List Int) (Ms:List G75)
def stepB (s:List G90×Int) (b:G114):List G90×Int:=segF (vT (mM (tms 0 Ms))) (cutsL ((gx S b.fo).getD 0) ((gx Ms b.fo).getD default)) s
def stB (a:List G114) (i:Nat):List G90×Int:=(a.take i).foldl (stepB S Ms) ([],0)
def bgB (a:List G114) (n:Nat):List Int:=(List.range n).map λj=>(stB S Ms a j).2
theorem stB_succ {a:List G114} {i:Int} {b:G114} (h:gx a i=some b):stB S Ms a (i+1).toNat=stepB S Ms (stB S Ms a i.toNat) b:=by
 have p:=Ya h
 unfold gx at h
 rw[if_pos p.1,List.getElem?_eq_getElem (by omega)]at h
 unfold stB
 rw[show(i+1).toNat=i.toNat+1 by omega,List.take_succ_eq_append_getElem (by omega),List.foldl_append,Option.some.inj h]
 rfl
theorem bgB_succ (a:List G114) (n:Nat):bgB S Ms a (n+1)=bgB S Ms a n++[(stB S Ms a n).2]:=by
 unfold bgB
 rw[List.range_succ,List.map_append]
 rfl
theorem bgB_len (a:List G114) (n:Nat):(bgB S Ms a n).length=n:=by simp[bgB]
end
structure InvB (s:List G90×Int) (i:Int):Prop where
 inv:Inv1 s
 len:(s.1.length:Int)<=2000*i
 at1:s.2<=15482880*i
 ne:0<i->s.1≠[]
section
variable {Ms:List G75} (hl:Ms.length<=10) (ok:∀ m∈Ms,MOk m)
include hl ok
theorem marks_ok:(∀ y∈tms 0 Ms,0<=y.1/\y.1<=1000000000/\1<=y.2.1/\y.2.1<=60000000)/\(tms 0 Ms).Pairwise (λx y=>x.1<y.1)/\((tms 0 Ms).length:Int)<=100000:=by
 obtain⟨c,a,d⟩:=tms_all ok 0
 exact⟨λy b=>by have:=c y b;omega,a,by omega⟩
theorem bar_ok {b:G114} (j:0<=b.fo) (t:b.fo<Ms.length) {s:List G90×Int} {i:Int} (N:0<=i) (K:i<40) (h:InvB s i):
  ∃ m a,gx Ms b.fo=some m/\MOk m/\gx (sts 0 Ms) b.fo=some a/\0<=a/\a<=200000000/\gx (sts 0 Ms) (wi (b.fo+1))=some (a+lenOf m)/\(cutF a (Sl.es m.fm)).length<=1000/\
   Xg (λ(x:List G90×Int×Int)=>match x with|(v50,v51,v52)=>LF19_59 (cutsL a m) (mP (tms 0 Ms),Sl.no (sts 0 Ms)) v50 v51 v52) (s.1,s.2,1)=some (stepB (sts 0 Ms) Ms s b)/\
   Xg (λ(y:List G90×Int×Int)=>match y with|(v37,v38,v39)=>LF21_46 (Sl.no (sts 0 Ms),0) b (mM (tms 0 Ms)) v37 v38 v39) (s.1,s.2,a)=some (stepB (sts 0 Ms) Ms s b)/\
   InvB (stepB (sts 0 Ms) Ms s b) (i+1):=by
 obtain⟨m,d⟩:=gx_at (l:=Ms) j t
 have o:=ok m (Wo d)
 obtain⟨G,H⟩:=sts_all ok 0
 obtain⟨a,c⟩:=gx_at (l:=sts 0 Ms) (i:=b.fo) j (by omega)
 have v:=G a (Wo c)
 obtain⟨F,_⟩:=tms_split ok d c
 have n:gx (sts 0 Ms) (wi (b.fo+1))=some (a+lenOf m):=by rw[wi_u (by omega) (by omega)];exact F
 have k:=cut_ok ok hl d c
 obtain⟨f,g,q⟩:=marks_ok hl ok
 have J:=o.lo
 have M:=o.hi
 have z:=o.nt
 have e:stepB (sts 0 Ms) Ms s b=segF (vT (mM (tms 0 Ms))) (cutsL a m) (s.1,s.2):=by unfold stepB;rw[c,d];rfl
 have E:(cutF a (Sl.es m.fm)).length<=1000:=by
  have:(cutF a (Sl.es m.fm)).length<=(Sl.es m.fm).length:=by
   rw[cutF,List.length_map]
   exact List.length_filter_le ..
  simp only[ln]at z
  omega
 have p:=h.len
 have A:=h.at1
 have r:s.1.length<=800000:=by omega
 obtain⟨D,u,O,I,w⟩:=p_loop f g q k (S:=Sl.no (sts 0 Ms)) (l0:=s.1) (t0:=s.2) r h.inv (by omega) (by omega)
 have C:=m_loop f g q k (S:=sts 0 Ms) (x:=0) (bar:=b) (l0:=s.1) (t0:=s.2) n r h.inv (by omega) (by omega)
 have B:(cutsL a m).length=(cutF a (Sl.es m.fm)).length+2:=by simp[cutsL]
 rw[e]
 exact⟨m,a,d,o,c,v.1,by omega,n,E,D,C,u,by omega,by omega,λ_=>w (by omega)⟩
theorem new_loop' {bars:Sl G114} {s0:G27} (K:Sl.es s0.fc=Ms) (hb:ln bars<=40) (A:∀ b∈bars.es,0<=b.fo/\b.fo<Ms.length):
  Xg (λ(x:List G90×List Int×Int×Int)=>match x with|(v19,v20,v21,v22)=>LF19_29 bars (mP (tms 0 Ms),Sl.no (sts 0 Ms)) s0 v19 v20 v21 v22) ([],[0],0,0)=
   some ((stB (sts 0 Ms) Ms bars.es bars.es.length).1,bgB (sts 0 Ms) Ms bars.es (bars.es.length+1))/\
  Xg (λ(x:List G90×List Int×Int×Int)=>match x with|(v14,v15,v16,v17)=>LF21_25 bars (Sl.no (sts 0 Ms),0) (mM (tms 0 Ms)) v14 v15 v16 v17) ([],[],0,0)=
   some ((stB (sts 0 Ms) Ms bars.es bars.es.length).1,bgB (sts 0 Ms) Ms bars.es bars.es.length,(stB (sts 0 Ms) Ms bars.es bars.es.length).2)/\
  InvB (stB (sts 0 Ms) Ms bars.es bars.es.length) (ln bars):=by
 have f:InvB (stB (sts 0 Ms) Ms bars.es 0) 0:=⟨⟨Int.le_refl _,λy R=>by simp[stB]at R⟩,by simp[stB],by simp[stB],λh=>by omega⟩
 have P:ln bars=bars.es.length:=rfl
 obtain⟨z,D,rfl,O⟩:=Xs (body:=λ(x:List G90×List Int×Int×Int)=>match x with|(v19,v20,v21,v22)=>LF19_29 bars (mP (tms 0 Ms),Sl.no (sts 0 Ms)) s0 v19 v20 v21 v22)
  (I:=λx=>0<=x.2.2.2/\x.2.2.2<=ln bars/\(x.1,x.2.2.1)=stB (sts 0 Ms) Ms bars.es x.2.2.2.toNat/\x.2.1=bgB (sts 0 Ms) Ms bars.es (x.2.2.2.toNat+1)/\InvB (x.1,x.2.2.1) x.2.2.2)
  (μ:=λx=>(ln bars-x.2.2.2).toNat) (T:=λz=>z=((stB (sts 0 Ms) Ms bars.es bars.es.length).1,bgB (sts 0 Ms) Ms bars.es (bars.es.length+1))/\InvB (stB (sts 0 Ms) Ms bars.es bars.es.length) (ln bars)) (s:=([],[0],0,0)) (by
   rintro⟨l,g,t,i⟩ ⟨p,B,j,e,r⟩
   simp only at p B j e r ⊢
   unfold LF19_29
   by_cases c:i<ln bars
   ·obtain⟨b,k,d⟩:=gx_ex (l:=bars.es) p c
    obtain⟨m,a,G,o,w,a0,J,H,Q,U,_,F⟩:=bar_ok hl ok (A b d).1 (A b d).2 (s:=(l,t)) p (by omega) r
    have q:gx (Sl.es (Sl.no (sts 0 Ms))) b.fo=some a:=w
    have E:gx (Sl.es (Sl.no (sts 0 Ms))) (wi (b.fo+1))=some (a+lenOf m):=H
    rw[decide_eq_true c,cond_true,k]
    simp only[Option.bind_some]
    rw[q,K,G]
    simp only[Option.bind_some]
    rw[f88 o (M:=mP (tms 0 Ms)) (S:=sts 0 Ms) (bar:=b) w a0 J]
    simp only[Option.bind_some]
    unfold JF19_40
    rw[E]
    simp only[Option.bind_some]
    rw[gapp1 (by simp;omega)]
    simp only[Option.bind_some]
    have v:=U
    rw[show cutsL a m=(a::cutF a (Sl.es m.fm))++[a+lenOf m] from rfl]at v
    rw[v]
    simp only[Option.bind_some]
    unfold JF19_47
    rw[gapp1 (by rw[e,bgB_len];omega)]
    simp only[Option.bind_some]
    unfold JF19_34
    have u:=stB_succ (sts 0 Ms) Ms k
    rw[<-j]at u
    refine .inl ⟨_,rfl,⟨by simp only;rw[wi_u (by omega) (by omega)];omega,by simp only;rw[wi_u (by omega) (by omega)];omega,?_,?_,?_⟩,by simp only;rw[wi_u (by omega) (by omega)];omega⟩
    ·simp only
     rw[wi_u (n:=i+1) (by omega) (by omega),u]
    ·simp only
     rw[wi_u (n:=i+1) (by omega) (by omega),bgB_succ,u,show(i+1).toNat=i.toNat+1 by omega,<-e]
    ·simp only
     rw[wi_u (n:=i+1) (by omega) (by omega)]
     exact F
   ·rw[decide_eq_false c,cond_false]
    have C:i=ln bars:=by omega
    subst C
    rw[show(ln bars).toNat=bars.es.length by simp[ln]]at j e
    refine .inr ⟨_,rfl,?_,?_⟩
    ·rw[<-j,e]
    ·rw[<-j]
     exact r) ⟨Int.le_refl _,Int.natCast_nonneg _,rfl,rfl,f⟩ (by simp only;omega)
 refine⟨D,?_,O⟩
 obtain⟨z,D,rfl⟩:=Xs (body:=λ(x:List G90×List Int×Int×Int)=>match x with|(v14,v15,v16,v17)=>LF21_25 bars (Sl.no (sts 0 Ms),0) (mM (tms 0 Ms)) v14 v15 v16 v17)
  (I:=λx=>0<=x.2.2.2/\x.2.2.2<=ln bars/\(x.1,x.2.2.1)=stB (sts 0 Ms) Ms bars.es x.2.2.2.toNat/\x.2.1=bgB (sts 0 Ms) Ms bars.es x.2.2.2.toNat/\InvB (x.1,x.2.2.1) x.2.2.2)
  (μ:=λx=>(ln bars-x.2.2.2).toNat) (T:=λz=>z=((stB (sts 0 Ms) Ms bars.es bars.es.length).1,bgB (sts 0 Ms) Ms bars.es bars.es.length,(stB (sts 0 Ms) Ms bars.es bars.es.length).2)) (s:=([],[],0,0)) (by
   rintro⟨l,g,t,i⟩ ⟨p,B,j,e,r⟩
   simp only at p B j e r ⊢
   unfold LF21_25
   by_cases c:i<ln bars
   ·obtain⟨b,k,d⟩:=gx_ex (l:=bars.es) p c
    obtain⟨m,a,G,o,w,a0,J,H,Q,_,N,F⟩:=bar_ok hl ok (A b d).1 (A b d).2 (s:=(l,t)) p (by omega) r
    have q:gx (Sl.es (Sl.no (sts 0 Ms))) b.fo=some a:=w
    rw[decide_eq_true c,cond_true,k]
    simp only[Option.bind_some]
    rw[gapp1 (by rw[e,bgB_len];omega)]
    simp only[Option.bind_some]
    rw[q]
    simp only[Option.bind_some]
    rw[N]
    simp only[Option.bind_some]
    unfold JF21_30
    have u:=stB_succ (sts 0 Ms) Ms k
    rw[<-j]at u
    refine .inl ⟨_,rfl,⟨by simp only;rw[wi_u (by omega) (by omega)];omega,by simp only;rw[wi_u (by omega) (by omega)];omega,?_,?_,?_⟩,by simp only;rw[wi_u (by omega) (by omega)];omega⟩
    ·simp only
     rw[wi_u (n:=i+1) (by omega) (by omega),u]
    ·simp only
     rw[wi_u (n:=i+1) (by omega) (by omega),show(i+1).toNat=i.toNat+1 by omega,bgB_succ,<-e,<-j]
    ·simp only
     rw[wi_u (n:=i+1) (by omega) (by omega)]
     exact F
   ·rw[decide_eq_false c,cond_false]
    have C:i=ln bars:=by omega
    subst C
    rw[show(ln bars).toNat=bars.es.length by simp[ln]]at j e
    refine .inr ⟨_,rfl,?_⟩
    rw[<-j,e]) ⟨Int.le_refl _,Int.natCast_nonneg _,rfl,rfl,f⟩ (by simp only;omega)
 exact D
end
theorem f23 {a b:Sl G90} (h:a.es=b.es) (hl:a.es.length<=900000):F23 a b=some true:=by
 have e:ln a=ln b:=by simp only[ln,h]
 obtain⟨z,f,n⟩:=Xs (body:=λ(g:Int)=>LF23_9 a b g) (I:=λi=>0<=i/\i<=ln a) (μ:=λi=>(ln a-i).toNat) (T:=λz=>z=.inr ()) (s:=0) (by
   rintro i ⟨j,o⟩
   unfold LF23_9
   by_cases c:i<ln a
   ·obtain⟨x,d⟩:=gx_at (l:=a.es) j c
    have k:gx b.es i=some x:=by rw[<-h];exact d
    rw[decide_eq_true c,cond_true,d,k]
    simp only[Option.bind_some,beq_self_eq_true,Bool.and_self,Bool.not_true,cond_false]
    refine .inl ⟨_,rfl,⟨?_,?_⟩,?_⟩<;>rw[wi_u (by omega) (by simp only[ln]at c;omega)]<;>omega
   ·rw[decide_eq_false c]
    exact .inr ⟨_,rfl,rfl⟩) ⟨Int.le_refl _,Int.natCast_nonneg _⟩ (by simp only[ln];omega)
 unfold F23
 rw[show(ln a !=ln b)=false by rw[e];exact bne_self_eq_false _,cond_false,f,n]
 rfl
def badB (n:Int) (b:G114):Bool:=decide (b.fo<0)||decide (b.fo>=n)
theorem bad_iff {n:Int} {b:G114}:badB n b=false↔0<=b.fo/\b.fo<n:=by
 unfold badB
 rw[Bool.or_eq_false_iff,decide_eq_false_iff_not,decide_eq_false_iff_not]
 omega
theorem f43 {s:G27} {a:Sl G114} (hb:ln a<=40):F43_1 a s=some (a.es.any (badB (ln s.fc))):=by
 have f:∀ b,F44_1 b s=some (badB (ln s.fc) b):=λb=>by
  unfold F44_1 badB
  cases decide (b.fo<0)<;>rfl
 obtain⟨z,k,d⟩:=Xs (body:=λ(n:Int)=>LF93_1_9 a s n) (I:=λi=>0<=i/\i<=ln a/\a.es.any (badB (ln s.fc))=(a.es.drop i.toNat).any (badB (ln s.fc))) (μ:=λi=>(ln a-i).toNat)
  (T:=λz=>match z with|.inl i=>0<=i/\a.es.any (badB (ln s.fc))=true|.inr _=>a.es.any (badB (ln s.fc))=false) (s:=0) (by
   rintro i ⟨g,o,e⟩
   unfold LF93_1_9
   by_cases c:i<ln a
   ·obtain⟨x,j⟩:=gx_at (l:=a.es) g c
    rw[decide_eq_true c,cond_true,j]
    simp only[Option.bind_some]
    rw[f]
    simp only[Option.bind_some]
    rw[Wi j,List.any_cons]at e
    cases h:badB (ln s.fc) x with
    |true=>
     rw[h,Bool.true_or]at e
     exact .inr ⟨_,rfl,g,e⟩
    |false=>
     rw[h,Bool.false_or]at e
     refine .inl ⟨_,rfl,?_⟩
     rw[wi_u (by omega) (by omega)]
     exact⟨⟨by omega,by omega,e⟩,by omega⟩
   ·rw[decide_eq_false c]
    rw[List.drop_of_length_le (by simp only[ln]at c;omega)]at e
    exact .inr ⟨_,rfl,e⟩) ⟨Int.le_refl _,Int.natCast_nonneg _,rfl⟩ (by omega)
 unfold F43_1 F93_1
 rw[k]
 match z,d with
 |.inl i,d=>
  simp only[Option.bind_some]
  rw[d.2,decide_eq_true d.1]
 |.inr (),d=>
  have d:a.es.any (badB (ln s.fc))=false:=d
  simp only[Option.bind_some,JF93_1_2]
  rw[d]
  rfl
theorem f16v {a b c:Int}:F16 a b c=some (decide (b<=a/\a<=c)):=by
 unfold F16
 by_cases d:a>=b
 ·rw[decide_eq_true d,cond_true]
  congr 1
  rw[decide_eq_decide]
  omega
 ·rw[decide_eq_false d,cond_false,decide_eq_false (by omega)]
theorem f20 {s:G27} {a:Sl G114} (hl:ln s.fc<=10) (hb:ln a<=40) (g:¬ ln a=0):F20 s a=some (bif a.es.any (badB (ln s.fc))then 2 else 0):=by
 have p:0<=ln s.fc:=Int.natCast_nonneg _
 have r:wi (ln s.fc-1)=ln s.fc-1:=Xp (by omega) (by omega)
 obtain⟨z,j,d⟩:=Xs (body:=λ(k:Int)=>LF20_9 a s k) (I:=λi=>0<=i/\i<=ln a/\a.es.any (badB (ln s.fc))=(a.es.drop i.toNat).any (badB (ln s.fc))) (μ:=λi=>(ln a-i).toNat)
  (T:=λz=>match z with|.inl _=>a.es.any (badB (ln s.fc))=true|.inr _=>a.es.any (badB (ln s.fc))=false) (s:=0) (by
   rintro i ⟨o,t,e⟩
   unfold LF20_9
   by_cases c:i<ln a
   ·obtain⟨x,f⟩:=gx_at (l:=a.es) o c
    rw[decide_eq_true c,cond_true,f]
    simp only[Option.bind_some]
    rw[r,f16v]
    simp only[Option.bind_some]
    rw[Wi f,List.any_cons]at e
    cases h:badB (ln s.fc) x with
    |true=>
     have:¬ (0<=x.fo/\x.fo<=ln s.fc-1):=λq=>by
      have:=(bad_iff (n:=ln s.fc) (b:=x)).2 ⟨q.1,by omega⟩
      rw[h]at this;cases this
     rw[decide_eq_false this]
     rw[h,Bool.true_or]at e
     exact .inr ⟨_,rfl,e⟩
    |false=>
     have:=bad_iff.1 h
     rw[decide_eq_true (show 0<=x.fo/\x.fo<=ln s.fc-1 by omega)]
     rw[h,Bool.false_or]at e
     simp only[Bool.not_true,cond_false]
     refine .inl ⟨_,rfl,?_⟩
     rw[wi_u (by omega) (by omega)]
     exact⟨⟨by omega,by omega,e⟩,by omega⟩
   ·rw[decide_eq_false c]
    rw[List.drop_of_length_le (by simp only[ln]at c;omega)]at e
    exact .inr ⟨_,rfl,e⟩) ⟨Int.le_refl _,Int.natCast_nonneg _,rfl⟩ (by omega)
 unfold F20
 rw[show(ln a==0)=false from beq_eq_false_iff_ne.2 g,cond_false,j]
 match z,d with
 |.inl (),d=>
  have d:a.es.any (badB (ln s.fc))=true:=d
  rw[d];rfl
 |.inr (),d=>
  have d:a.es.any (badB (ln s.fc))=false:=d
  rw[d];rfl
theorem law5_in {s:G27} {a:Sl G114} {d:Int} (hl:ln s.fc<=10) (ok:∀ m∈Sl.es s.fc,MOk m) (g:F14 s=some true) (hb:ln a<=40):JF5_4 s a d false=some true:=by
 have F:(Sl.es s.fc).length<=10:=by simp only[ln]at hl;omega
 have P:0<=ln a:=Int.natCast_nonneg _
 have o:¬ ln a=0->F20 s a=some (bif a.es.any (badB (ln s.fc))then 2 else 0):=f20 hl hb
 have A:=f43 (s:=s) hb
 unfold JF5_4
 rw[cond_false]
 by_cases h0:ln a=0
 ·have e:F19 s a=some (none,4):=by
   unfold F19
   rw[g]
   simp only[Option.bind_some,Bool.not_true,cond_false]
   rw[h0]
   rfl
  have E:F20 s a=some 4:=by
   unfold F20
   rw[h0]
   rfl
  rw[e,g]
  simp only[Option.bind_some,Bool.not_true,cond_false]
  rw[E]
  rfl
 have O:(ln a==0)=false:=beq_eq_false_iff_ne.2 h0
 have n:F19 s a=bif a.es.any (badB (ln s.fc))then (some (none,2):Option (Option G119×Int))else (F39 s).bind λt=>(Xg (λ(x:List G90×List Int×Int×Int)=>match x with|(v19,v20,v21,v22)=>LF19_29 a t s v19 v20 v21 v22) ([],[0],0,0)).bind λC=>match C with|(v23,v24)=>JF19_16 v23 v24:=by
  unfold F19
  rw[g]
  simp only[Option.bind_some,Bool.not_true,cond_false]
  rw[O,cond_false,decide_eq_false (show ¬ ln a>8192 by omega),cond_false,A]
  rfl
 cases hbad:a.es.any (badB (ln s.fc))with
 |true=>
  rw[n,hbad,cond_true]
  simp only[Option.bind_some]
  rw[g]
  simp only[Option.bind_some,Bool.not_true,cond_false]
  rw[o h0,hbad]
  rfl
 |false=>
  have r:∀ b∈a.es,0<=b.fo/\b.fo<(Sl.es s.fc).length:=λb Q=>by
   have:=List.any_eq_false.1 hbad b Q
   exact bad_iff.1 (by simpa using this)
  obtain⟨W,X,p⟩:=new_loop' F ok (bars:=a) (s0:=s) rfl hb r
  have U:=bgB_succ (sts 0 (Sl.es s.fc)) (Sl.es s.fc) a.es a.es.length
  generalize stB (sts 0 (Sl.es s.fc)) (Sl.es s.fc) a.es a.es.length=R at *
  generalize hB:bgB (sts 0 (Sl.es s.fc)) (Sl.es s.fc) a.es=B at *
  have N:=p.len
  have M:R.1.length<=900000:=by omega
  have j:∀ x∈R.1,StOk x:=λx Y=>(p.inv.2 x Y).1
  have w:=f46 (p.ne (by omega)) M j
  have D:=f48 M j
  have K:=f39 hl ok g
  have H:(B (a.es.length+1)).length=a.es.length+1:=by rw[<-hB,bgB_len]
  have e:F19 s a=some (some ⟨.no (timS 0 R.1),.no (B (a.es.length+1))⟩,0):=by
   rw[n,hbad,cond_false,K]
   simp only[Option.bind_some]
   rw[W]
   simp only[Option.bind_some]
   unfold JF19_16
   rw[w]
   rfl
  have I:F21 s a=some (mkSl (timS 0 R.1),mkSl (B (a.es.length+1))):=by
   have u:F47 s=some (Sl.no (sts 0 (Sl.es s.fc)),0):=by
    unfold F47
    rw[g]
    simp only[Option.bind_some,Bool.not_true,cond_false]
    rw[f94 hl ok]
    rfl
   unfold F21
   rw[u]
   simp only[Option.bind_some]
   rw[f18 hl ok]
   simp only[Option.bind_some]
   rw[X]
   simp only[Option.bind_some]
   unfold JF21_9
   rw[D]
   simp only[Option.bind_some]
   rw[gapp1 (by rw[<-hB,bgB_len];simp only[ln]at hb;omega),U]
   rfl
  have G:F24 (some ⟨.no (timS 0 R.1),.no (B (a.es.length+1))⟩)=some (.no (timS 0 R.1)):=by
   have Z:=timS_len 0 R.1
   have V:=List.length_pos_iff.2 (p.ne (by omega))
   unfold F24
   simp only[Option.isNone_some,cond_false,Option.bind_some]
   have:F49 (.no (timS 0 R.1))=some (.no (timS 0 R.1)):=by
    unfold F49
    rw[show Sl.isNil (.no (timS 0 R.1))=false from rfl,cond_false,decide_eq_true (show 0<(Sl.es (.no (timS 0 R.1))).length by show 0<(timS 0 R.1).length;omega),decide_eq_true (show(Sl.es (.no (timS 0 R.1))).length*40<=140737488355328 by show(timS 0 R.1).length*40<=_;omega)]
    rfl
   rw[this]
   rfl
  have J:F23 (.no (timS 0 R.1)) (mkSl (timS 0 R.1))=some true:=f23 (mkSl_es _).symm (by show(timS 0 R.1).length<=_;rw[timS_len];omega)
  rw[e,g]
  simp only[Option.bind_some,Bool.not_true,cond_false]
  rw[o h0,hbad,I]
  simp only[Option.bind_some,cond_false]
  rw[show((0:Int) !=0)=false from rfl,cond_false,G]
  simp only[Option.bind_some]
  rw[J]
  have i:∀ q:Int×Int,JF5_23 d a q (mkSl (timS 0 R.1),mkSl (B (a.es.length+1))) (!true)=bif !(decide (0<=d/\d<=ln a))then (bif q.1==0 then some (q.2==2)else some false)else (gx (B (a.es.length+1)) d).bind λz=>bif q.1==z then some (q.2==0)else some false:=λq=>by
   unfold JF5_23
   rw[Bool.not_true,cond_false,f16v]
   simp only[Option.bind_some,mkSl_es]
  by_cases k:0<=d/\d<=ln a
  ·obtain⟨v,r⟩:=gx_at (l:=B (a.es.length+1)) k.1 (by rw[H];have:=k.2;simp only[ln]at this;omega)
   have f:F22 (some ⟨.no (timS 0 R.1),.no (B (a.es.length+1))⟩) d=some (v,0):=by
    unfold F22
    rw[Option.isNone_some,cond_false,decide_eq_false (show ¬ d<0 by omega),cond_false]
    simp only[Option.bind_some]
    rw[decide_eq_false (show ¬ d>=ln (Sl.no (B (a.es.length+1))) by show ¬ d>=((B (a.es.length+1)).length:Int);rw[H];have:=k.2;simp only[ln]at this;omega)]
    unfold JF22_4
    rw[cond_false]
    simp only[Option.bind_some]
    have:gx (Sl.es (Sl.no (B (a.es.length+1)))) d=some v:=r
    rw[this]
    rfl
   rw[f]
   simp only[Option.bind_some]
   rw[cond_false,i,decide_eq_true k,r]
   simp
  ·have f:F22 (some ⟨.no (timS 0 R.1),.no (B (a.es.length+1))⟩) d=some (0,2):=by
    unfold F22
    rw[Option.isNone_some,cond_false]
    by_cases c:d<0
    ·rw[decide_eq_true c]
     rfl
    ·rw[decide_eq_false c,cond_false]
     simp only[Option.bind_some]
     rw[decide_eq_true (show d>=ln (Sl.no (B (a.es.length+1))) by show d>=((B (a.es.length+1)).length:Int);rw[H];have:¬ d<=ln a:=λh=>k ⟨by omega,h⟩;simp only[ln]at this;omega)]
     rfl
   rw[f]
   simp only[Option.bind_some]
   rw[cond_false,i,decide_eq_false k]
   rfl
theorem f11:F11=some true:=rfl
theorem law5 {s:G27} {bars:Sl G114} {bar:Int} (hb:big27 s):F5 s bars bar=some true:=by
 obtain⟨b,g,f⟩:=sF12 hb
 have d:JF5_4 s bars bar true=some true:=rfl
 unfold F5
 rw[f11]
 simp only[Option.bind_some,Bool.not_true,cond_false]
 rw[g]
 simp only[Option.bind_some]
 cases b with
 |false=>exact d
 |true=>
  rw[Bool.not_true,cond_false]
  by_cases c:ln bars>40
  ·rw[decide_eq_true c]
   exact d
  ·rw[decide_eq_false c]
   have o:=f rfl
   obtain⟨r,er,_⟩:=tF29 o
   obtain⟨v,a⟩:∃ v,F14 s=some v:=by
    unfold F14
    rw[er]
    exact⟨_,rfl⟩
   cases v with
   |true=>exact law5_in o.fc.1 (all_ok o.fc.1 (λm e=>by have:=(o.fc.2 m e).fm.1;omega) a) a (by omega)
   |false=>
    unfold JF5_4 F19
    rw[a]
    rfl
end Go.Proofs.YtibndgdocbbbeaaGreat
