/- A part of the proof. -/
import Derived.Test.YtibndgdocbbbeaaGreatSY6
set_option linter.all false
namespace Go.PE
open Go.RowKit
inductive Wn where
 |reg (n1 n2:List Nt)
 |br (t b:Bool)
def Wn.ok (P:Program):Wn->Prop
 |.reg n1 n2=>Nts P n1/\Nts P n2
 |.br t b=>t=b
def Wns (P:Program):List Wn->Prop
 |[]=>True
 |x::l=>x.ok P/\Wns P l
theorem Wns.app {P:Program}:∀ {l m:List Wn},Wns P (l++m)->Wns P l/\Wns P m
 |[],_,h=>⟨trivial,h⟩
 |_::_,_,h=>⟨⟨h.1,(Wns.app h.2).1⟩,(Wns.app h.2).2⟩
def fl {α β:Type}:List α->(List α->β)->β
 |[],k=>k []
 |x::r,k=>fl r λr'=>k (x::r')
theorem fl_eq {α β:Type}:∀ (l:List α) (k:List α->β),fl l k=k l
 |[],_=>rfl
 |_::r,k=>by rw[fl,fl_eq r]
abbrev RC:=Option (Ex×List PV×List Blk×List Wn×List Wn)
def addW (o:List Wn):RC->RC
 |some (x,e,h,ws,o2)=>some (x,e,h,ws,o++o2)
 |none=>none
def runC:AC->List PV->List Blk->List Wn->RC
 |.skip,env,H,ws=>some (.normal,env,H,ws,[])
 |.ops l,env,H,ws=>match ws with
  |.reg n1 n2::ws=>match runA (.ops l) env H n1 n2 with
   |some (e,h,o1,o2)=>fl e λe=>fl h λh=>some (.normal,e,h,ws,[.reg o1 o2])
   |none=>none
  |_=>none
 |.draw l tl,env,H,ws=>match ws with
  |.reg n1 n2::ws=>match runA (.draw l tl) env H n1 n2 with
   |some (e,h,o1,o2)=>fl e λe=>fl h λh=>some (.normal,e,h,ws,[.reg o1 o2])
   |none=>none
  |_=>none
 |.seq a b,env,H,ws=>match runC a env H ws with
  |some (x,e,h,ws,o)=>match x with
   |.normal=>addW o (runC b e h ws)
   |x=>some (x,e,h,ws,o)
  |none=>none
 |.cond c a b,env,H,ws=>match c.ev env with
  |.sc (.bool t)=>match ws with
   |.br _ d::ws=>match d with
    |true=>addW [.br t true] (runC a env H ws)
    |false=>addW [.br t false] (runC b env H ws)
   |_=>none
  |_=>none
 |.block id c,env,H,ws=>match runC c env H ws with
  |some (x,e,h,ws,o)=>match x with
   |.exit i=>match Nat.beq i id with
    |true=>some (.normal,e,h,ws,o)
    |false=>some (.exit i,e,h,ws,o)
   |x=>some (x,e,h,ws,o)
  |none=>none
 |.exit id,env,H,ws=>some (.exit id,env,H,ws,[])
 |.ret,env,H,ws=>some (.ret,env,H,ws,[])
 |_,_,_,_=>none
section
variable {P:Program} {H0:List Blk}
theorem addW_some {o:List Wn} {r:RC} {x:Ex} {e:List PV} {h:List Blk} {ws os:List Wn} (k:addW o r=some (x,e,h,ws,os)):∃ o2,r=some (x,e,h,ws,o2)/\os=o++o2:=by
 unfold addW at k
 split at k
 ·simp only[Option.some.injEq,Prod.mk.injEq]at k
  obtain⟨rfl,rfl,rfl,rfl,rfl⟩:=k
  exact⟨_,rfl,rfl⟩
 ·cases k
theorem Vg:∀ (c:AC) {env:List PV} {H:List Blk} {ws:List Wn} {x:Ex} {e:List PV} {h:List Blk} {ws' os:List Wn},runC c env H ws=some (x,e,h,ws',os)->Wns P os->∀ {Q:Ex->List PV->List Blk->Prop},Q x e h->AX P H0 c env H Q:=by
 intro c
 induction c with
 |skip=>
  intro env H ws x e h ws' os hr _ Q hQ
  simp only[runC,Option.some.injEq,Prod.mk.injEq]at hr
  obtain⟨rfl,rfl,rfl,rfl,rfl⟩:=hr
  exact hQ
 |ops l=>
  intro env H ws x e h ws' os hr ho Q hQ
  simp only[runC]at hr
  split at hr
  ·split at hr
   ·rename_i hA
    simp only[fl_eq,Option.some.injEq,Prod.mk.injEq]at hr
    obtain⟨rfl,rfl,rfl,rfl,rfl⟩:=hr
    exact runA_sound hA ho.1.1 ho.1.2 hQ
   ·cases hr
  ·cases hr
 |draw l tl=>
  intro env H ws x e h ws' os hr ho Q hQ
  simp only[runC]at hr
  split at hr
  ·split at hr
   ·rename_i hA
    simp only[fl_eq,Option.some.injEq,Prod.mk.injEq]at hr
    obtain⟨rfl,rfl,rfl,rfl,rfl⟩:=hr
    exact runA_sound hA ho.1.1 ho.1.2 hQ
   ·cases hr
  ·cases hr
 |seq a b iha ihb=>
  intro env H ws x e h ws' os hr ho Q hQ
  simp only[runC]at hr
  simp only[AX]
  split at hr
  ·rename_i x1 e1 h1 ws1 o1 hA
   cases x1 with
   |normal=>
    simp only at hr
    obtain⟨o2,hB,rfl⟩:=addW_some hr
    obtain⟨q1,q2⟩:=Wns.app ho
    exact iha hA q1 ⟨_,_,WeakS.refl _ _ _,ihb hB q2 hQ⟩
   |exit i=>
    simp only[Option.some.injEq,Prod.mk.injEq]at hr
    obtain⟨rfl,rfl,rfl,rfl,rfl⟩:=hr
    exact iha hA ho hQ
   |ret=>
    simp only[Option.some.injEq,Prod.mk.injEq]at hr
    obtain⟨rfl,rfl,rfl,rfl,rfl⟩:=hr
    exact iha hA ho hQ
  ·cases hr
 |cond c a b iha ihb=>
  intro env H ws x e h ws' os hr ho Q hQ
  simp only[runC]at hr
  simp only[AX]
  split at hr
  ·rename_i t hc
   rw[hc]
   split at hr
   ·rename_i d ws2
    cases d with
    |true=>
     simp only at hr
     obtain⟨o2,hB,rfl⟩:=addW_some hr
     have e1:t=true:=ho.1
     subst e1
     exact iha hB ho.2 hQ
    |false=>
     simp only at hr
     obtain⟨o2,hB,rfl⟩:=addW_some hr
     have e1:t=false:=ho.1
     subst e1
     exact ihb hB ho.2 hQ
   ·cases hr
  ·cases hr
 |block id c ih=>
  intro env H ws x e h ws' os hr ho Q hQ
  simp only[runC]at hr
  simp only[AX]
  split at hr
  ·rename_i x1 e1 h1 ws1 o1 hA
   cases x1 with
   |normal=>
    simp only[Option.some.injEq,Prod.mk.injEq]at hr
    obtain⟨rfl,rfl,rfl,rfl,rfl⟩:=hr
    exact ih hA ho hQ
   |exit i=>
    simp only at hr
    split at hr
    ·rename_i hb
     simp only[Option.some.injEq,Prod.mk.injEq]at hr
     obtain⟨rfl,rfl,rfl,rfl,rfl⟩:=hr
     refine ih hA ho ?_
     simp only
     rw[if_pos (Nat.eq_of_beq_eq_true hb)]
     exact hQ
    ·rename_i hb
     simp only[Option.some.injEq,Prod.mk.injEq]at hr
     obtain⟨rfl,rfl,rfl,rfl,rfl⟩:=hr
     refine ih hA ho ?_
     simp only
     rw[if_neg (λe=>by subst e;simp at hb)]
     exact hQ
   |ret=>
    simp only[Option.some.injEq,Prod.mk.injEq]at hr
    obtain⟨rfl,rfl,rfl,rfl,rfl⟩:=hr
    exact ih hA ho hQ
  ·cases hr
 |exit id=>
  intro env H ws x e h ws' os hr _ Q hQ
  simp only[runC,Option.some.injEq,Prod.mk.injEq]at hr
  obtain⟨rfl,rfl,rfl,rfl,rfl⟩:=hr
  exact hQ
 |ret=>
  intro env H ws x e h ws' os hr _ Q hQ
  simp only[runC,Option.some.injEq,Prod.mk.injEq]at hr
  obtain⟨rfl,rfl,rfl,rfl,rfl⟩:=hr
  exact hQ
 |loop c _=>intro env H ws x e h ws' os hr;simp[runC]at hr
 |range f ps ai bd cA cB=>intro env H ws x e h ws' os hr;simp[runC]at hr
 |bad=>intro env H ws x e h ws' os hr;simp[runC]at hr
def runP:Nat->AC->List PV->List Blk->List Wn->Option (AC×List PV×List Blk×List Wn×List Wn)
 |0,.seq a b,env,H,ws=>match runC a env H ws with
  |some (x,e,h,ws,o)=>match x with
   |.normal=>some (b,e,h,ws,o)
   |_=>none
  |none=>none
 |k+1,.seq a b,env,H,ws=>match runC a env H ws with
  |some (x,e,h,ws,o)=>match x with
   |.normal=>match runP k b e h ws with
    |some (c,e,h,ws,o2)=>some (c,e,h,ws,o++o2)
    |none=>none
   |_=>none
  |none=>none
 |_,_,_,_,_=>none
theorem runP_sound:∀ (k:Nat) {c b:AC} {env:List PV} {H:List Blk} {ws:List Wn} {e:List PV} {h:List Blk} {ws' os:List Wn},runP k c env H ws=some (b,e,h,ws',os)->Wns P os->∀ {Q:Ex->List PV->List Blk->Prop},(∃ e2 h2,WeakS H0 e h e2 h2/\AX P H0 b e2 h2 Q)->AX P H0 c env H Q
 |0,c,b,env,H,ws,e,h,ws',os,hr,ho,Q,hQ=>by
  cases c with
  |seq a b'=>
   simp only[runP]at hr
   split at hr
   ·rename_i x1 e1 h1 ws1 o1 hA
    cases x1 with
    |normal=>
     simp only[Option.some.injEq,Prod.mk.injEq]at hr
     obtain⟨rfl,rfl,rfl,rfl,rfl⟩:=hr
     simp only[AX]
     exact Vg a hA ho hQ
    |exit i=>cases hr
    |ret=>cases hr
   ·cases hr
  |_=>simp[runP]at hr
 |k+1,c,b,env,H,ws,e,h,ws',os,hr,ho,Q,hQ=>by
  cases c with
  |seq a b'=>
   simp only[runP]at hr
   split at hr
   ·rename_i x1 e1 h1 ws1 o1 hA
    cases x1 with
    |normal=>
     simp only at hr
     split at hr
     ·rename_i hB
      simp only[Option.some.injEq,Prod.mk.injEq]at hr
      obtain⟨rfl,rfl,rfl,rfl,rfl⟩:=hr
      obtain⟨q1,q2⟩:=Wns.app ho
      simp only[AX]
      exact Vg a hA q1 ⟨_,_,WeakS.refl _ _ _,runP_sound k hB q2 hQ⟩
     ·cases hr
    |exit i=>cases hr
    |ret=>cases hr
   ·cases hr
  |_=>simp[runP]at hr
structure BN (P:Program) where
 nt:Nt
 ok:nt.ok P
inductive Wb (P:Program)
 |r (n1 n2:List (BN P))
 |b (t d:Bool) (h:t=d)
def Wb.raw:Wb P->Wn
 |.r n1 n2=>.reg (n1.map BN.nt) (n2.map BN.nt)
 |.b t d _=>.br t d
theorem bn_ok:∀ l:List (BN P),Nts P (l.map BN.nt)
 |[]=>trivial
 |x::l=>⟨x.ok,bn_ok l⟩
theorem wb_ok:∀ l:List (Wb P),Wns P (l.map Wb.raw)
 |[]=>trivial
 |x::l=>⟨by
  cases x with
  |r n1 n2=>exact⟨bn_ok n1,bn_ok n2⟩
  |b t d h=>exact h,wb_ok l⟩
def bE:BN P:=⟨.ev,trivial⟩
def es:Nat->List (BN P)->List (BN P)
 |0,l=>l
 |n+1,l=>bE::es n l
def bq {t b:Bool} (h:t=b):BN P:=⟨.eqb t b,h⟩
def runW (c:AC) (N:Nat) (le:List (Nat×PV)) (H:List Blk) (ws:List Wn) (sl:List (Nat×PV)):Option (Ex×List (Option PV)×List Blk×List Wn):=
 match runC c (mk N le) H ws with
 |some (x,e,h,[],o)=>match Nat.beq e.length N with
  |true=>some (x,sl.map λx=>e[x.1]?,h,o)
  |false=>none
 |_=>none
theorem Yp {c:AC} {N:Nat} {le:List (Nat×PV)} {H:List Blk} {Q:Ex->List PV->List Blk->Prop} (ws:List (Wb P)) (x:Ex) (le':List (Nat×PV)) (H':List Blk)
  (hq:∀ e,WeakS H0 e H' (mk N le') H'->Q x e H') (hE:runW c N le H (ws.map Wb.raw) le'=some (x,vals le',H',ws.map Wb.raw):=by kernel_rfl):GX P H0 c (mk N le) H Q:=⟨by
 unfold runW at hE
 split at hE
 ·rename_i hr
  split at hE
  ·rename_i hb
   simp only[Option.some.injEq,Prod.mk.injEq]at hE
   obtain⟨rfl,hv,rfl,ho⟩:=hE
   exact Vg c hr (ho▸wb_ok ws) (hq _ (weak_mk (Nat.eq_of_beq_eq_true hb) hv))
  ·cases hE
 ·cases hE⟩
theorem wm {H:List Blk} {N:Nat} {le le':List (Nat×PV)} (h:(le'.map λx=>(mk N le)[x.1]?)=le'.map λx=>some x.2:=by kernel_rfl):WeakS H0 (mk N le) H (mk N le') H:=Wc h
def Xg {σ τ:Type} (body:σ->Option (σ⊕τ)) (s:σ):Option τ:=iterO body 18446744073709551616 s
theorem g_loopF {c b:AC} (hc:c=.loop b) {σ τ:Type} {N:Nat} {env:List PV} {H:List Blk} {Q:Ex->List PV->List Blk->Prop} (E:σ->List (Nat×PV)) (Hh:σ->List Blk) (body:σ->Option (σ⊕τ)) {s:σ} {t:τ} (hs:Xg body s=some t)
  (h0:WeakS H0 env H (mk N (E s)) (Hh s))
  (hb:∀ s o,body s=some o->(∀ u,o=.inr u->u=t)->GX P H0 b (mk N (E s)) (Hh s) λx e h=>match o with
   |.inl s'=>x=.normal/\WeakS H0 e h (mk N (E s')) (Hh s')
   |.inr _=>match x with
    |.normal=>False
    |x=>Q x e h):GX P H0 c env H Q:=
 g_loop hc E Hh body (loopO_some.2 ⟨_,hs⟩) h0 hb
theorem Xs {σ τ:Type} {body:σ->Option (σ⊕τ)} (I:σ->Prop) (μ:σ->Nat) (T:τ->Prop)
  (step:∀ s,I s->(∃ s',body s=some (.inl s')/\I s'/\μ s'<μ s)\/∃ t,body s=some (.inr t)/\T t) {s:σ} (h:I s) (hm:μ s<18446744073709551616):∃ t,Xg body s=some t/\T t:=by
 have key:∀ (n:Nat) (s:σ),I s->μ s<n->∃ t,iterO body n s=some t/\T t:=by
  intro n
  induction n with
  |zero=>intro s _ h;omega
  |succ n ih=>
   intro s hI hn
   rcases step s hI with ⟨s',h1,h2,h3⟩|⟨t,h1,h2⟩
   ·obtain⟨t,h4,h5⟩:=ih s' h2 (by omega)
    exact⟨t,by simp only[iterO,h1];exact h4,h5⟩
   ·exact⟨t,by simp only[iterO,h1],h2⟩
 exact key _ _ h hm
end
end Go.PE
