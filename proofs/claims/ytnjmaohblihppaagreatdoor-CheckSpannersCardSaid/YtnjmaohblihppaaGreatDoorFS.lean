/- A part of the proof. -/
import Derived.Test.YtnjmaohblihppaaGreatDoorFO
import Derived.Test.YtnjmaohblihppaaGreatDoorTTa
set_option linter.all false
namespace Go.Proofs.YtnjmaohblihppaaGreatDoor
open Go.PE Go.RowKit
set_option maxRecDepth 100000
set_option maxHeartbeats 4000000
theorem t_cnt {σ τ:Type} {body:σ->Option (σ⊕τ)} (idx:σ->Int) (n:Int) (hn:n<=maxLen) (I:σ->Prop) {T:τ->Prop} {s:σ} (h0:0<=idx s) (h1:idx s<=n) (hI:I s)
  (step:∀ s,I s->0<=idx s->idx s<=n->Tot (body s) λr=>match r with
   |.inl s'=>I s'/\idx s'=idx s+1/\idx s<n
   |.inr t=>T t):Tot (Xh body s) T:=by
 unfold maxLen at hn
 refine Wl (λs=>I s/\0<=idx s/\idx s<=n) (λs=>(n-idx s).toNat) T (λs hs=>?_) ⟨hI,h0,h1⟩ (by omega)
 obtain⟨r,hr,hq⟩:=step s hs.1 hs.2.1 hs.2.2
 cases r with
 |inl s'=>exact .inl ⟨s',hr,⟨hq.1,by omega,by omega⟩,by omega⟩
 |inr t=>exact .inr ⟨t,hr,hq⟩
def upto {α:Type} (x:Sl α) (B:α->Prop) (k:Int):Prop:=∀ i y,i<k->gx x.es i=some y->B y
theorem upto0 {α:Type} {x:Sl α} {B:α->Prop}:upto x B 0:=λi y hi h=>by have:=(Zu h).1;omega
theorem upto1 {α:Type} {x:Sl α} {B:α->Prop} {k:Int} {y:α} (h:upto x B k) (hy:gx x.es k=some y) (hb:B y):upto x B (k+1):=λi z hi hz=>by
 rcases Int.lt_or_le i k with h1|h1
 ·exact h i z h1 hz
 ·obtain rfl:i=k:=by omega
  cases hz.symm.trans hy
  exact hb
theorem uptoE {α:Type} {x:Sl α} {B:α->Prop} {k:Int} (h:upto x B k) (hk:ln x<=k):∀ y∈x.es,B y:=λy hy=>by
 obtain⟨i,hi⟩:=List.getElem?_of_mem hy
 have hl:=(List.getElem?_eq_some_iff.1 hi).1
 refine h (i:Nat) y (by simp only[ln]at hk;omega) ?_
 unfold gx
 rw[if_pos (by omega),show((i:Nat):Int).toNat=i by omega]
 exact hi
theorem bsx {α:Type} {B:α->Prop} {x:Sl α} {i:Int} (h:bS B x) (h0:0<=i) (h1:i<ln x):Tot (gx x.es i) λy=>B y/\gx x.es i=some y:=by
 obtain⟨y,e,hy,_⟩:=t_gx h0 h1
 exact⟨y,e,h.2 y hy,e⟩
def sOK (x:G135):Prop:=x.fH.size<=300
def eOK (x:G49):Prop:=ln x.fx<=12/\ln x.fQ<=12/\ln x.fp<=12/\∀ y∈x.fp.es,sOK y
def vOK (x:G73):Prop:=(ln x.fg<=20/\∀ y∈x.fg.es,eOK y)/\ln x.fT<=6
theorem wi1 {k n:Int} (h0:0<=k) (h1:k<n) (hn:n<=maxLen):wi (k+1)=k+1:=by unfold maxLen at hn;exact Xv (by omega) (by omega)
theorem sLF30_21 {v11:G49} {k:Int} (hb:big49 v11) (b0:0<=k) (hu:upto v11.fp sOK k):Tot (LF30_21 v11 k) (λr=>match r with
  |.inl i=>upto v11.fp sOK i/\i=k+1/\k<ln v11.fp
  |.inr (.inl _)=>True
  |.inr (.inr _)=>∀ y∈v11.fp.es,sOK y):=by
 unfold LF30_21
 refine t_bd (λc=>?_) λc=>Xd (uptoE hu (by omega))
 refine Xb (bsx hb.fp b0 c) λv23 h23=>?_
 refine t_bd (λc2=>Xd trivial) λc2=>Xd ?_
 have e:=wi1 b0 c hb.fp.1
 dsimp only
 rw[e]
 exact⟨upto1 hu h23.2 (by unfold sOK;simp only[lns]at c2;omega),rfl,c⟩
theorem sJF30_14 {v11:G49} {k n:Int} {b:Bool} (hb:big49 v11) (b0:0<=k) (b1:k<n) (hn:n<=maxLen) (h:b=false->ln v11.fx<=12/\ln v11.fQ<=12/\ln v11.fp<=12):Tot (JF30_14 v11 k b) (λr=>match r with
  |.inl i=>eOK v11/\i=k+1
  |.inr (.inl _)=>True
  |.inr (.inr _)=>False):=by
 unfold JF30_14
 refine Xc (λc=>Xd trivial) λc=>?_
 obtain⟨h1,h2,h3⟩:=h c
 refine Xb (t_cnt (λ(k:Int)=>k) (ln v11.fp) hb.fp.1 (λk=>upto v11.fp sOK k) (T:=λr=>match r with|.inl _=>True|.inr _=>∀ y∈v11.fp.es,sOK y) tB ln_nn upto0 ?_) ?_
 ·intro k hu h0 _
  refine(sLF30_21 hb h0 hu).mono ?_
  rintro(i|r|r) h<;>exact h
 ·rintro(r|r) h
  ·exact Xd trivial
  ·show Tot (JF30_10 k) _
   unfold JF30_10
   refine Xd ?_
   dsimp only
   rw[wi1 b0 b1 hn]
   exact⟨⟨h1,h2,h3,h⟩,rfl⟩
theorem sLF30_8 {v0:G73} {k:Int} (hb:big73 v0) (h0:0<=k) (hu:upto v0.fg eOK k):Tot (LF30_8 v0 k) (λr=>match r with
  |.inl i=>upto v0.fg eOK i/\i=k+1/\k<ln v0.fg
  |.inr (.inl _)=>True
  |.inr (.inr _)=>∀ y∈v0.fg.es,eOK y):=by
 unfold LF30_8
 refine t_bd (λc=>?_) λc=>Xd (uptoE hu (by omega))
 refine Xb (bsx hb.fg h0 c) λv11 h11=>?_
 have key:∀ {b:Bool},(b=false->ln v11.fx<=12/\ln v11.fQ<=12/\ln v11.fp<=12)->Tot (JF30_14 v11 k b) (λr=>match r with
   |.inl i=>upto v0.fg eOK i/\i=k+1/\k<ln v0.fg
   |.inr (.inl _)=>True
   |.inr (.inr _)=>∀ y∈v0.fg.es,eOK y):=λhq=>by
  refine(sJF30_14 h11.1 h0 c hb.fg.1 hq).mono ?_
  rintro(i|r|r) h
  ·obtain⟨h1,rfl⟩:=h
   exact⟨upto1 hu h11.2 h1,rfl,c⟩
  ·trivial
  ·exact h.elim
 refine t_bd (λc1=>key (b:=true) (by intro h;cases h)) λc1=>?_
 refine t_bd (λc2=>key (b:=true) (by intro h;cases h)) λc2=>?_
 exact key λh=>⟨by omega,by omega,by have:=of_decide_eq_false h;omega⟩
theorem sF30 {v0:G73} (hb:big73 v0):Tot (F30 v0) (λb=>b=true->vOK v0):=by
 unfold F30
 refine Xb (t_cnt (λ(k:Int)=>k) (ln v0.fg) hb.fg.1 (λk=>upto v0.fg eOK k) (T:=λr=>match r with|.inl _=>True|.inr _=>∀ y∈v0.fg.es,eOK y) (by decide) ln_nn upto0 ?_) ?_
 ·intro k hu h0 _
  refine(sLF30_8 hb h0 hu).mono ?_
  rintro(i|r|r) h<;>exact h
 ·rintro(r|r) h
  ·exact Xd (by intro h;cases h)
  ·show Tot (JF30_1 v0) _
   unfold JF30_1
   refine t_bd (λc=>Xd λh2=>⟨⟨c,h⟩,of_decide_eq_true h2⟩) λc=>Xd (by intro h;cases h)
theorem sF31 {v0:G73} (hb:big73 v0):Tot (F31 v0) (λ_=>True):=by
 unfold F31
 refine Xb (R:=λ_=>True) (t_cnt (λx=>match x with|(_,k)=>k) (ln v0.fg) hb.fg.1 (λ_=>True) (T:=λ_=>True) tB ln_nn trivial ?_) λo _=>Xd trivial
 rintro⟨v3,k⟩ _ h0 h1
 dsimp only at h0 h1 ⊢
 unfold LF31_10
 refine t_bd (λc=>?_) λc=>Xd trivial
 obtain⟨y,ey,hy⟩:=bsx hb.fg h0 c
 refine Xb (R:=λ_=>True) (t_cnt (λx=>match x with|(_,j)=>j) (ln y.fp) hy.1.fp.1 (λ_=>True) (T:=λ_=>True) tB ln_nn trivial ?_) λo _=>?_
 ·rintro⟨v14,j⟩ _ g0 g1
  dsimp only at g0 g1 ⊢
  unfold LF31_21
  rw[ey]
  simp only[Option.bind_some]
  refine t_bd (λc2=>?_) λc2=>Xd trivial
  refine Xb (bsx hy.1.fp g0 c2) λv27 _=>Xd ⟨trivial,wi1 g0 c2 hy.1.fp.1,c2⟩
 ·show Tot (JF31_13 k o) _
  unfold JF31_13
  exact Xd ⟨trivial,wi1 h0 c hb.fg.1,c⟩
def cOK (x:G69):Prop:=ln x.fM<=5/\ln x.ff<=3/\∀ y∈x.ff.es,vOK y
def mOK (x:G64):Prop:=(ln x.fe<=5/\ln x.fN<=5/\x.fam.size<=300)/\∀ y∈x.fe.es,cOK y
def pOK (x:G89):Prop:=ln x.ft<=5/\x.fap.size<=300
theorem sLF11_50 {v19:G64} {C:G69} {v26 a b k:Int} (hb:big69 C) (hC:gx v19.fe.es v26=some C) (b0:0<=k) (hu:upto C.ff vOK k):Tot (LF11_50 v19 v26 a b k) (λr=>match r with
  |.inl (_,_,i)=>upto C.ff vOK i/\i=k+1/\k<ln C.ff
  |.inr (.inl _)=>True
  |.inr (.inr _)=>∀ y∈C.ff.es,vOK y):=by
 unfold LF11_50
 rw[hC]
 simp only[Option.bind_some]
 refine t_bd (λc=>?_) λc=>Xd (uptoE hu (by omega))
 obtain⟨V,eV,hV⟩:=bsx hb.ff b0 c
 rw[eV]
 simp only[Option.bind_some]
 refine Xb (sF30 hV.1) λv58 h58=>?_
 refine Xc (λ_=>Xd trivial) λc1=>?_
 have hv:vOK V:=h58 (by simpa using c1)
 refine Xb (sF31 hV.1) λv69 _=>?_
 have key:∀ q:Bool,Tot (JF11_72 a V b v69 k q) (λr=>match r with
   |.inl (_,_,i)=>upto C.ff vOK i/\i=k+1/\k<ln C.ff
   |.inr (.inl _)=>True
   |.inr (.inr _)=>∀ y∈C.ff.es,vOK y):=λq=>by
  unfold JF11_72
  refine Xc (λ_=>Xd trivial) λ_=>Xd ?_
  dsimp only
  rw[wi1 b0 c hb.ff.1]
  exact⟨upto1 hu eV hv,rfl,c⟩
 exact Xc (λ_=>key _) λ_=>key _
theorem sJF11_39 {v19:G64} {C:G69} {v26 a b:Int} {q:Bool} (hm:big64 v19) (hb:big69 C) (hC:gx v19.fe.es v26=some C) (h:q=false->ln C.fM<=5/\ln C.ff<=3):Tot (JF11_39 v19 v26 a b q) (λr=>match r with
  |.inl (_,_,i)=>cOK C/\i=v26+1
  |.inr (.inl _)=>True
  |.inr (.inr _)=>False):=by
 unfold JF11_39
 refine Xc (λc=>Xd trivial) λc=>?_
 obtain⟨h1,h2⟩:=h c
 refine Xb (t_cnt (λx=>match x with|(_,_,k)=>k) (ln C.ff) hb.ff.1 (λx=>match x with|(_,_,k)=>upto C.ff vOK k) (T:=λr=>match r with|.inl _=>True|.inr _=>∀ y∈C.ff.es,vOK y) tB ln_nn upto0 ?_) ?_
 ·rintro⟨x,y,k⟩ hu h0 _
  refine(sLF11_50 hb hC h0 hu).mono ?_
  rintro(⟨_,_,i⟩|r|r) h<;>exact h
 ·rintro(r|⟨x,y⟩) h
  ·exact Xd trivial
  ·show Tot (JF11_37 v26 x y) _
   unfold JF11_37
   refine Xd ?_
   dsimp only
   have g:=Zu hC
   rw[wi1 g.1 (show v26<ln v19.fe from g.2) hm.fe.1]
   exact⟨⟨h1,h2,h⟩,rfl⟩
theorem sLF11_33 {v19:G64} {a b k:Int} (hm:big64 v19) (b0:0<=k) (hu:upto v19.fe cOK k):Tot (LF11_33 v19 a b k) (λr=>match r with
  |.inl (_,_,i)=>upto v19.fe cOK i/\i=k+1/\k<ln v19.fe
  |.inr (.inl _)=>True
  |.inr (.inr _)=>∀ y∈v19.fe.es,cOK y):=by
 unfold LF11_33
 refine t_bd (λc=>?_) λc=>Xd (uptoE hu (by omega))
 obtain⟨C,eC,hC⟩:=bsx hm.fe b0 c
 rw[eC]
 simp only[Option.bind_some]
 have key:∀ {q:Bool},(q=false->ln C.fM<=5/\ln C.ff<=3)->Tot (JF11_39 v19 k a b q) (λr=>match r with
   |.inl (_,_,i)=>upto v19.fe cOK i/\i=k+1/\k<ln v19.fe
   |.inr (.inl _)=>True
   |.inr (.inr _)=>∀ y∈v19.fe.es,cOK y):=λhq=>by
  refine(sJF11_39 hm hC.1 eC hq).mono ?_
  rintro(⟨_,_,i⟩|r|r) h
  ·obtain⟨h1,rfl⟩:=h
   exact⟨upto1 hu eC h1,rfl,c⟩
  ·trivial
  ·exact h.elim
 refine t_bd (λc1=>key (q:=true) (by intro h;cases h)) λc1=>?_
 exact key λh=>⟨by omega,by have:=of_decide_eq_false h;omega⟩
theorem sJF11_22 {v19:G64} {a b k n:Int} {q:Bool} (hm:big64 v19) (b0:0<=k) (b1:k<n) (hn:n<=maxLen) (h:q=false->ln v19.fe<=5/\ln v19.fN<=5/\v19.fam.size<=300):Tot (JF11_22 v19 a b k q) (λr=>match r with
  |.inl (_,_,i)=>mOK v19/\i=k+1
  |.inr (.inl _)=>True
  |.inr (.inr _)=>False):=by
 unfold JF11_22
 refine Xc (λc=>Xd trivial) λc=>?_
 have h:=h c
 refine Xb (t_cnt (λx=>match x with|(_,_,k)=>k) (ln v19.fe) hm.fe.1 (λx=>match x with|(_,_,k)=>upto v19.fe cOK k) (T:=λr=>match r with|.inl _=>True|.inr _=>∀ y∈v19.fe.es,cOK y) tB ln_nn upto0 ?_) ?_
 ·rintro⟨x,y,k⟩ hu h0 _
  refine(sLF11_33 hm h0 hu).mono ?_
  rintro(⟨_,_,i⟩|r|r) h<;>exact h
 ·rintro(r|⟨x,y⟩) h2
  ·exact Xd trivial
  ·show Tot (JF11_18 k x y) _
   unfold JF11_18
   refine Xd ?_
   dsimp only
   rw[wi1 b0 b1 hn]
   exact⟨⟨h,h2⟩,rfl⟩
theorem sLF11_14 {v0:G27} {a b k:Int} (hb:big27 v0) (b0:0<=k) (hu:upto v0.fc mOK k):Tot (LF11_14 v0 a b k) (λr=>match r with
  |.inl (_,_,i)=>upto v0.fc mOK i/\i=k+1/\k<ln v0.fc
  |.inr (.inl _)=>True
  |.inr (.inr _)=>∀ y∈v0.fc.es,mOK y):=by
 unfold LF11_14
 refine t_bd (λc=>?_) λc=>Xd (uptoE hu (by omega))
 refine Xb (bsx hb.fc b0 c) λM hM=>?_
 have key:∀ {q:Bool},(q=false->ln M.fe<=5/\ln M.fN<=5/\M.fam.size<=300)->Tot (JF11_22 M a b k q) (λr=>match r with
   |.inl (_,_,i)=>upto v0.fc mOK i/\i=k+1/\k<ln v0.fc
   |.inr (.inl _)=>True
   |.inr (.inr _)=>∀ y∈v0.fc.es,mOK y):=λhq=>by
  refine(sJF11_22 hM.1 b0 c hb.fc.1 hq).mono ?_
  rintro(⟨_,_,i⟩|r|r) h
  ·obtain⟨h1,rfl⟩:=h
   exact⟨upto1 hu hM.2 h1,rfl,c⟩
  ·trivial
  ·exact h.elim
 refine t_bd (λc1=>key (q:=true) (by intro h;cases h)) λc1=>?_
 refine t_bd (λc2=>key (q:=true) (by intro h;cases h)) λc2=>?_
 exact key λh=>⟨by omega,by omega,by have:=of_decide_eq_false h;simp only[lns]at this;omega⟩
theorem sLF11_87 {v0:G27} {k:Int} (hb:big27 v0) (b0:0<=k) (hu:upto v0.fi pOK k):Tot (LF11_87 v0 k) (λr=>match r with
  |.inl i=>upto v0.fi pOK i/\i=k+1/\k<ln v0.fi
  |.inr (.inl _)=>True
  |.inr (.inr _)=>∀ y∈v0.fi.es,pOK y):=by
 unfold LF11_87
 refine t_bd (λc=>?_) λc=>Xd (uptoE hu (by omega))
 obtain⟨p,ep,hp⟩:=bsx hb.fi b0 c
 rw[ep]
 simp only[Option.bind_some]
 have key:∀ {q:Bool},(q=false->pOK p)->Tot (JF11_90 k q) (λr=>match r with
   |.inl i=>upto v0.fi pOK i/\i=k+1/\k<ln v0.fi
   |.inr (.inl _)=>True
   |.inr (.inr _)=>∀ y∈v0.fi.es,pOK y):=λ{q} hq=>by
  unfold JF11_90
  refine Xc (λ_=>Xd trivial) λc1=>Xd ?_
  dsimp only
  rw[wi1 b0 c hb.fi.1]
  exact⟨upto1 hu ep (hq c1),rfl,c⟩
 refine t_bd (λc1=>key (q:=true) (by intro h;cases h)) λc1=>?_
 exact key λh=>⟨by omega,by have:=of_decide_eq_false h;simp only[lns]at this;omega⟩
theorem sF11 {v0:G27} (hb:big27 v0):Tot (F11 v0) (λb=>b=true->okG27 v0):=by
 unfold F11
 refine Xb (t_cnt (λ(k:Int)=>k) (ln v0.fi) hb.fi.1 (λk=>upto v0.fi pOK k) (T:=λr=>match r with|.inl _=>True|.inr _=>∀ y∈v0.fi.es,pOK y) tB ln_nn upto0 ?_) ?_
 ·intro k hu h0 _
  refine(sLF11_87 hb h0 hu).mono ?_
  rintro(i|r|r) h<;>exact h
 rintro(r|r) hp
 ·exact Xd (by intro h;cases h)
 show Tot (JF11_1 v0) _
 unfold JF11_1
 refine Xb (t_cnt (λx=>match x with|(_,_,k)=>k) (ln v0.fc) hb.fc.1 (λx=>match x with|(_,_,k)=>upto v0.fc mOK k) (T:=λr=>match r with|.inl _=>True|.inr _=>∀ y∈v0.fc.es,mOK y) tB ln_nn upto0 ?_) ?_
 ·rintro⟨x,y,k⟩ hu h0 _
  refine(sLF11_14 hb h0 hu).mono ?_
  rintro(⟨_,_,i⟩|r|r) h<;>exact h
 rintro(r|r) hm
 ·exact Xd (by intro h;cases h)
 show Tot (JF11_2 v0) _
 unfold JF11_2
 refine t_bd (λc1=>?_) λ_=>Xd (by intro h;cases h)
 refine t_bd (λc2=>?_) λ_=>Xd (by intro h;cases h)
 refine t_bd (λc3=>?_) λ_=>Xd (by intro h;cases h)
 refine t_bd (λc4=>?_) λ_=>Xd (by intro h;cases h)
 refine Xd λc5=>?_
 have c5:=of_decide_eq_true c5
 simp only[lns]at c5
 have ev:∀ x,eOK x->okG49 x:=λx h=>⟨.tr (by have:=h.1;omega),.tr (by have:=h.2.1;omega),⟨by have:=h.2.2.1;omega,λy hy=>⟨by have:=h.2.2.2 y hy;unfold sOK at this;unfold OkB;omega⟩⟩⟩
 have vo:∀ x,vOK x->okG73 x:=λx h=>⟨⟨by have:=h.1.1;omega,λy hy=>ev y (h.1.2 y hy)⟩,.tr h.2⟩
 have ce:∀ x,cOK x->okG69 x:=λx h=>⟨.tr h.1,h.2.1,λy hy=>vo y (h.2.2 y hy)⟩
 have me:∀ x∈v0.fc.es,okG64 x:=λx hx=>by
  have h:=hm x hx
  exact⟨(hb.fc.2 x hx).fO,by have:=h.1.2.2;unfold OkB;omega,.tr h.1.2.1,h.1.1,λy hy=>ce y (h.2 y hy)⟩
 exact⟨by unfold OkB;omega,⟨c1,λx hx=>⟨by have:=(hp x hx).2;unfold OkB;omega,.tr (hp x hx).1⟩⟩,⟨c2,me⟩,.tr c3,.tr c4⟩
end Go.Proofs.YtnjmaohblihppaaGreatDoor
