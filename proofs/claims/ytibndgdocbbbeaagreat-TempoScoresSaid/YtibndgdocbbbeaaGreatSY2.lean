/- A part of the proof. -/
import Derived.Test.YtibndgdocbbbeaaGreatSY1
set_option linter.all false
namespace Go.PE
open Go.RowKit
inductive Cl:PV->Prop
 |any:Cl .any
 |sc (v:Value):Cl (.sc v)
 |agg {cs:List PV} (h:∀ p∈cs,Cl p):Cl (.agg cs)
 |tup {cs:List PV} (h:∀ p∈cs,Cl p):Cl (.tup cs)
 |no {nl:Bool} {s:Nat} {es:List (List PV)} (h:∀ e∈es,∀ p∈e,Cl p):Cl (.sl nl .no s es)
 |full {nl:Bool} {s:Nat} {es:List (List PV)} (h:∀ e∈es,∀ p∈e,Cl p):Cl (.sl nl .full s es)
 |ip {cs:List PV} (h:∀ p∈cs,Cl p):Cl (.ip cs)
 |fn {f:Fn} {p q:List PV} (h:∀ x∈p,Cl x) (k:∀ x∈q,Cl x):Cl (.fn f p q)
abbrev Cls (l:List PV):Prop:=∀ p∈l,Cl p
theorem Cls.nil:Cls []:=λ_ h=>by cases h
theorem Cls.cons {p:PV} {l:List PV} (h:Cl p) (k:Cls l):Cls (p::l):=λq hq=>by
 rcases List.mem_cons.1 hq with rfl|hq
 ·exact h
 ·exact k q hq
theorem Cls.map {α:Type} {c:α->List PV} {l:List α} (h:∀ x,Cls (c x)):∀ e∈l.map c,∀ p∈e,Cl p:=λe he p hp=>by
 obtain⟨x,_,rfl⟩:=List.mem_map.1 he
 exact h x p hp
theorem RV.cl {g g2:Gh} (hC:∀ b o v,g.C b o=some v->g2.C b o=some v) {p:PV} {v:Value} (hr:RV g p v):Cl p->RV g2 p v:=by
 induction hr with
 |any v=>intro _;exact .any v
 |sc h=>intro _;exact .sc h
 |agg hn _ ih=>intro hc;cases hc with|agg hc=>exact .agg hn λi p v hp hv=>ih i p v hp hv (hc p (List.mem_of_getElem? hp))
 |tup hn _ ih=>intro hc;cases hc with|tup hc=>exact .tup hn λi p v hp hv=>ih i p v hp hv (hc p (List.mem_of_getElem? hp))
 |nilsl r s=>intro _;exact .nilsl r s
 |em r s A h=>intro _;exact .em r s A h
 |@sl r es b o cap s vf hc hm hs hC0 hR hr ih=>
  intro hcl
  have hel:∀ e∈es,∀ p∈e,Cl p:=by cases hcl<;>assumption
  refine .sl vf hc hm hs (λi j e p he hp=>hC _ _ _ (hC0 i j e p he hp)) (λi j e p he hp=>ih i j e p he hp (hel e (List.mem_of_getElem? he) p (List.mem_of_getElem? hp))) ?_
  cases hcl with
  |no _=>trivial
  |full _=>exact hr
 |ip vf hC0 _ ih=>intro hc;cases hc with|ip hc=>exact .ip vf (λj p hp=>hC _ _ _ (hC0 j p hp)) λj p hp=>ih j p hp (hc p (List.mem_of_getElem? hp))
 |bp _=>intro hc;cases hc
 |fn hn hm _ _ ih1 ih2=>intro hc;cases hc with|fn h k=>exact .fn hn hm (λi p v hp hv=>ih1 i p v hp hv (h p (List.mem_of_getElem? hp))) (λi p v hp hv=>ih2 i p v hp hv (k p (List.mem_of_getElem? hp)))
 |mp _=>intro hc;cases hc
 |bs _ _ _ _ _=>intro hc;cases hc
 |yl _=>intro hc;cases hc
 |tsn _=>intro hc;cases hc
 |ts _ _ _ _=>intro hc;cases hc
 |tp _=>intro hc;cases hc
theorem Ys {α:Type} {f:α->α} {l:List α} (h:∀ x∈l,f x=x):l.map f=l:=Vi λ_ x hx=>h x (List.mem_of_getElem? hx)
theorem Cl.strip {p:PV} (m:Nat) (h:Cl p):p.strip m=p:=by
 induction h with
 |any=>simp[PV.strip]
 |sc v=>simp[PV.strip]
 |agg h ih=>simp only[PV.strip,Xw];rw[Ys ih]
 |tup h ih=>simp only[PV.strip,Xw];rw[Ys ih]
 |no h ih=>simp only[PV.strip,Zd,Right.cut];rw[Ys λe he=>Ys (ih e he)]
 |full h ih=>simp only[PV.strip,Zd,Right.cut];rw[Ys λe he=>Ys (ih e he)]
 |ip h ih=>simp only[PV.strip,Xw];rw[Ys ih]
 |fn h k ih1 ih2=>simp only[PV.strip,Xw];rw[Ys ih1,Ys ih2]
theorem frame_cl {P:Program} {f:FuncId} {args:List PV} {r:PV} (ha:Cls args) (hr:Cl r) (h:ACall P f args [] (λr' H'=>r'=r/\H'=[])) (H:List Blk):
  ACall P f args H (λr' H'=>r'=r/\H'=H):=by
 refine⟨h.1,λg w vs hI hargs=>?_⟩
 let g0:Gh:=⟨g.C,λ_ _=>Option.none,λ_=>Option.none,λ_=>Option.none⟩
 have hI0:Inv g0 [] w:=⟨hI.C,λk x h=>by simp at h,λ_ _ h=>(nomatch h),λ_ _ h=>(nomatch h),λ_ _=>rfl,λ_ _ _=>rfl,λ_ _ h=>(nomatch h)⟩
 have hL0:LR g0 args vs:=⟨hargs.1,λi p v hp hv=>(hargs.2 i p v hp hv).cl (g:=g) (g2:=g0) (λ_ _ _ h=>h) (ha p (List.mem_of_getElem? hp))⟩
 refine(h.2 g0 w vs hI0 hL0).mono ?_
 rintro e w' ⟨u,r',H2,g',rfl,⟨rfl,rfl⟩,hS,_,hI',hru⟩
 let g2:Gh:=⟨g'.C,g.T,g.B,g.O⟩
 have hle:g.le g2:=⟨λb o v h=>hS.le.C b o v h,λ_ _ _ h=>h,λ_ _ h=>h,λ_ _ h=>h⟩
 refine⟨u,r',H,g2,rfl,⟨rfl,rfl⟩,⟨hle,λ_ _=>rfl,hS.os,hS.tape,hS.output,hS.size,λb hb _=>hS.block b hb rfl,λb k h=>.inl h,λb o _ hb=>hS.C b o rfl hb⟩,Nat.le_refl _,
  ⟨hI'.C,λk x hx=>?_,hI.own,λb k h=>Nat.lt_of_lt_of_le (hI.lt b k h) hS.size,hI.domB,hI.domT,hI.domO⟩,hru.cl (g:=g') (g2:=g2) (λ_ _ _ h=>h) hr⟩
 exact(hI.blk k x hx).keep hle rfl (λ_=>rfl) (λb hb=>⟨hS.block b (hI.lt b k hb) rfl,λq=>hS.C b q rfl (hI.lt b k hb)⟩) hI.own
def iterO {σ τ:Type} (body:σ->Option (σ⊕τ)):Nat->σ->Option τ
 |0,_=>none
 |n+1,s=>match body s with
  |some (.inl s')=>iterO body n s'
  |some (.inr t)=>some t
  |none=>none
theorem iterO_mono {σ τ:Type} {body:σ->Option (σ⊕τ)}:∀ {n m:Nat} {s:σ} {t:τ},iterO body n s=some t->n<=m->iterO body m s=some t
 |0,_,_,_,h,_=>by cases h
 |n+1,0,_,_,_,h=>by omega
 |n+1,m+1,s,t,h,hm=>by
  simp only[iterO]at h ⊢
  cases hb:body s with
  |none=>rw[hb]at h;cases h
  |some x=>
   rw[hb]at h
   cases x with
   |inl s'=>exact iterO_mono (n:=n) (m:=m) h (by omega)
   |inr t=>exact h
open Classical in
noncomputable def loopO {σ τ:Type} (body:σ->Option (σ⊕τ)) (s:σ):Option τ:=
 if h:∃ n t,iterO body n s=some t then some h.choose_spec.choose else none
theorem loopO_some {σ τ:Type} {body:σ->Option (σ⊕τ)} {s:σ} {t:τ}:loopO body s=some t↔∃ n,iterO body n s=some t:=by
 unfold loopO
 constructor
 ·intro h
  split at h
  ·rename_i hx
   cases h
   exact⟨_,hx.choose_spec.choose_spec⟩
  ·cases h
 ·rintro⟨n,h⟩
  have hx:∃ n t,iterO body n s=some t:=⟨n,t,h⟩
  rw[dif_pos hx]
  have h2:=hx.choose_spec.choose_spec
  have h3:=iterO_mono h (Nat.le_max_left n hx.choose)
  have h4:=iterO_mono h2 (Nat.le_max_right n hx.choose)
  rw[h3]at h4
  exact h4.symm
section
variable {P:Program} {H0:List Blk}
theorem AOps.mono {P:Program}:∀ {l:List AI} {env:List PV} {H:List Blk} {K K':List PV->List Blk->Prop},AOps P l env H K->(∀ e h,K e h->K' e h)->AOps P l env H K'
 |[],_,_,_,_,h,hk=>hk _ _ h
 |i::rest,env,H,K,K',h,hk=>by
  simp only[AOps]at h ⊢
  split at h
  ·exact AStep.mono h λp h' h=>AOps.mono h hk
  ·split at h
   ·split at h
    ·rename_i hc;rw[if_pos hc];exact AStep.mono h λp h' h=>AOps.mono h hk
    ·rename_i hc;rw[if_neg hc];exact AOps.mono h hk
   ·exact AOps.mono h hk
   ·exact h.elim
theorem ADr.mono {P:Program} {base:Nat}:∀ {l:List DI} {env:List PV} {F:List Blk} {c:Nat} {K K':List PV->List Blk->List (Option Tch)->Prop},ADr P base l env F c K->(∀ e h t,K e h t->K' e h t)->ADr P base l env F c K'
 |[],_,_,_,_,_,h,hk=>hk _ _ _ h
 |x::rest,env,F,c,K,K',h,hk=>by
  simp only[ADr]at h ⊢
  split at h
  ·obtain⟨p,F',t,h1,h2,h3⟩:=h
   exact⟨p,F',t,h1,h2,ADr.mono h3 λe f ts h=>hk _ _ _ h⟩
  ·exact ADr.mono h λe f ts h=>hk _ _ _ h
  ·exact h.elim
theorem AX.mono:∀ (c:AC) {env:List PV} {H:List Blk} {Q Q':Ex->List PV->List Blk->Prop},AX P H0 c env H Q->(∀ x e h,Q x e h->Q' x e h)->AX P H0 c env H Q':=by
 intro c
 induction c with
 |skip=>intro env H Q Q' h hq;exact hq _ _ _ h
 |ops l=>intro env H Q Q' h hq;simp only[AX]at h ⊢;exact AOps.mono h λe h=>hq _ e h
 |draw l tl=>intro env H Q Q' h hq;simp only[AX]at h ⊢;exact ADr.mono h λe f t ⟨h1,h2⟩=>⟨h1,AOps.mono h2 λe h=>hq _ e h⟩
 |seq a b iha ihb=>
  intro env H Q Q' h hq
  simp only[AX]at h ⊢
  refine iha h λx e h' hx=>?_
  cases x with
  |normal=>obtain⟨e2,H2,hw,h2⟩:=hx;exact⟨e2,H2,hw,ihb h2 hq⟩
  |exit i=>exact hq _ _ _ hx
  |ret=>exact hq _ _ _ hx
 |cond c a b iha ihb=>
  intro env H Q Q' h hq
  simp only[AX]at h ⊢
  split at h
  ·exact iha h hq
  ·exact ihb h hq
  ·exact h.elim
 |block id c ih=>
  intro env H Q Q' h hq
  simp only[AX]at h ⊢
  refine ih h λx e h' hx=>?_
  cases x with
  |normal=>exact hq _ _ _ hx
  |exit i=>
   simp only at hx ⊢
   split at hx
   ·rename_i hi;rw[if_pos hi];exact hq _ _ _ hx
   ·rename_i hi;rw[if_neg hi];exact hq _ _ _ hx
  |ret=>exact hq _ _ _ hx
 |loop c ih=>
  intro env H Q Q' h hq
  simp only[AX]at h ⊢
  obtain⟨n,h⟩:=h
  refine⟨n,?_⟩
  induction n generalizing env H with
  |zero=>exact h.elim
  |succ n ihn=>
   obtain⟨e2,H2,hw,h⟩:=h
   refine⟨e2,H2,hw,ih h λx e h' hx=>?_⟩
   cases x with
   |normal=>exact ihn hx
   |exit i=>exact hq _ _ _ hx
   |ret=>exact hq _ _ _ hx
 |range f ps ai bd cA cB=>
  intro env H Q Q' h hq
  simp only[AX]at h ⊢
  split at h
  ·refine ACall.mono h λr H' hx=>?_
   split at hx
   ·obtain⟨h1,x,H2,h2,h3,h4⟩:=hx
    exact⟨h1,x,H2,h2,h3,hq _ _ _ h4⟩
   ·exact hx.elim
  ·exact h.elim
 |exit id=>intro env H Q Q' h hq;exact hq _ _ _ h
 |ret=>intro env H Q Q' h hq;exact hq _ _ _ h
 |bad=>intro env H Q Q' h hq;exact h.elim
theorem ax_reg {c a b:AC} (hc:c=.seq a b) {N:Nat} {le:List (Nat×PV)} {H:List Blk} {Q:Ex->List PV->List Blk->Prop} (le':List (Nat×PV)) (H':List Blk) (n1 n2:List Nt)
  (hE:runO a N le H n1 n2 le'=some (vals le',H',n1,n2)) (h1:Nts P n1) (h2:Nts P n2) (hb:AX P H0 b (mk N le') H' Q):AX P H0 c (mk N le) H Q:=by
 subst hc
 simp only[AX]
 exact runO_sound hE h1 h2 λe hw=>⟨_,_,hw,hb⟩
theorem ax_join {c a b:AC} (hc:c=.seq a b) {φ ρ:Type} {N:Nat} {env:List PV} {H:List Blk} {Q:Ex->List PV->List Blk->Prop} (E:φ->List (Nat×PV)) (Hh:φ->List Blk) (j:φ->Option ρ) (out:ρ)
  (hJ:∀ p,j p=some out->AX P H0 b (mk N (E p)) (Hh p) Q)
  (hA:AX P H0 a env H λx e h=>match x with
   |.normal=>∃ e2 h2,WeakS H0 e h e2 h2/\∃ p,j p=some out/\e2=mk N (E p)/\h2=Hh p
   |x=>Q x e h):AX P H0 c env H Q:=by
 subst hc
 simp only[AX]
 refine AX.mono a hA λx e h hx=>?_
 cases x with
 |normal=>obtain⟨e2,h2,hw,p,hp,rfl,rfl⟩:=hx;exact⟨_,_,hw,hJ p hp⟩
 |exit i=>exact hx
 |ret=>exact hx
theorem ax_seq {c a b:AC} (hc:c=.seq a b) {env:List PV} {H:List Blk} {Q:Ex->List PV->List Blk->Prop}
  (hA:AX P H0 a env H λx e h=>match x with
   |.normal=>∃ e2 h2,WeakS H0 e h e2 h2/\AX P H0 b e2 h2 Q
   |x=>Q x e h):AX P H0 c env H Q:=by
 subst hc
 simp only[AX]
 exact hA
theorem ax_cond {c a b:AC} {o:Opd} (hc:c=.cond o a b) {env:List PV} {H:List Blk} {Q:Ex->List PV->List Blk->Prop} (t:Bool) (ho:o.ev env=.sc (.bool t)) (ha:t=true->AX P H0 a env H Q) (hb:t=false->AX P H0 b env H Q):AX P H0 c env H Q:=by
 subst hc
 simp only[AX,ho]
 cases t with
 |true=>exact ha rfl
 |false=>exact hb rfl
theorem ax_block {c b:AC} {id:Nat} (hc:c=.block id b) {env:List PV} {H:List Blk} {Q:Ex->List PV->List Blk->Prop} (h:AX P H0 b env H λx e h=>match x with
  |.exit i=>if i=id then Q .normal e h else Q (.exit i) e h
  |x=>Q x e h):AX P H0 c env H Q:=by
 subst hc
 simp only[AX]
 exact h
theorem ax_loop {c b:AC} (hc:c=.loop b) {σ τ:Type} {N:Nat} {env:List PV} {H:List Blk} {Q:Ex->List PV->List Blk->Prop} (E:σ->List (Nat×PV)) (Hh:σ->List Blk) (body:σ->Option (σ⊕τ)) {s:σ} {t:τ} (hs:loopO body s=some t)
  (h0:WeakS H0 env H (mk N (E s)) (Hh s))
  (hb:∀ s o,body s=some o->(∀ u,o=.inr u->u=t)->AX P H0 b (mk N (E s)) (Hh s) λx e h=>match o with
   |.inl s'=>x=.normal/\WeakS H0 e h (mk N (E s')) (Hh s')
   |.inr _=>match x with
    |.normal=>False
    |x=>Q x e h):AX P H0 c env H Q:=by
 subst hc
 obtain⟨n,hn⟩:=loopO_some.1 hs
 simp only[AX]
 refine⟨n,?_⟩
 induction n generalizing s env H with
 |zero=>cases hn
 |succ n ih=>
  simp only[iterO]at hn
  refine⟨_,_,h0,?_⟩
  cases hbs:body s with
  |none=>rw[hbs]at hn;cases hn
  |some o=>
   rw[hbs]at hn
   cases o with
   |inl s'=>
    refine AX.mono b (hb s _ hbs (λu e=>by cases e)) λx e h hx=>?_
    obtain⟨rfl,hw⟩:=hx
    exact ih (loopO_some.2 ⟨n,hn⟩) hw hn
   |inr u=>
    cases hn
    refine AX.mono b (hb s _ hbs (λv e=>by cases e;rfl)) λx e h hx=>?_
    cases x with
    |normal=>exact hx.elim
    |exit i=>exact hx
    |ret=>exact hx
theorem ax_call {f:FuncId} {af:AF} {args:List PV} {H:List Blk} {Q:PV->List Blk->Prop} (hmix:P.follows .mixedOrders=true) (hE:EntryOk P f af) {le:List (Nat×PV)} {Hs:List Blk}
  (hw:WeakS H (args++List.replicate (af.ntmps-args.length) (.tup [])) H (mk af.ntmps le) Hs) (h:AX P H af.body (mk af.ntmps le) Hs (Ends af.res H Q)):ACall P f args H Q:=by
 obtain⟨fn,c,hf,hname,hb,hc,hr,hn⟩:=hE
 rw[hn]at hw h
 exact ACall.of_bodyW hmix hf hname hb hc hr hw h
end
end Go.PE
