/- A part of the proof. -/
import Derived.Test.YtibndgdocbbbeaaGreatPE18
set_option linter.all false
namespace Go.PE
open Go.RowKit
def Opd.cl (env:List PV) (x:Opd):Opd:=.c (x.ev env)
def AOp.close (env:List PV):AOp->AOp
 |.move x=>.move (x.cl env)
 |.pick c a b=>.pick (c.cl env) (a.cl env) (b.cl env)
 |.alloc z=>.alloc z
 |.box x=>.box (x.cl env)
 |.build z parts=>.build z (parts.map λx=>(x.1,x.2.cl env))
 |.buildSl s parts=>.buildSl s (parts.map (Opd.cl env))
 |.buildM s parts=>.buildM s (parts.map (Opd.cl env))
 |.load ag x=>.load ag (x.cl env)
 |.store n a v=>.store n (a.cl env) (v.cl env)
 |.faddr off x=>.faddr off (x.cl env)
 |.field off ag x=>.field off ag (x.cl env)
 |.iaddrS s x i=>.iaddrS s (x.cl env) (i.cl env)
 |.iaddrA s l x i=>.iaddrA s l (x.cl env) (i.cl env)
 |.idxA s l ag x i=>.idxA s l ag (x.cl env) (i.cl env)
 |.idxStr x i=>.idxStr (x.cl env) (i.cl env)
 |.slStr x lo hi=>.slStr (x.cl env) (lo.map (Opd.cl env)) (hi.map (Opd.cl env))
 |.slSl s x lo hi mx=>.slSl s (x.cl env) (lo.map (Opd.cl env)) (hi.map (Opd.cl env)) (mx.map (Opd.cl env))
 |.bin op x y=>.bin op (x.cl env) (y.cl env)
 |.eqB n x y=>.eqB n (x.cl env) (y.cl env)
 |.eqC ks n x y=>.eqC ks n (x.cl env) (y.cl env)
 |.eqN k n x y=>.eqN k n (x.cl env) (y.cl env)
 |.un op x=>.un op (x.cl env)
 |.convI k x=>.convI k (x.cl env)
 |.convS x=>.convS (x.cl env)
 |.strBytes x=>.strBytes (x.cl env)
 |.bytesStr x=>.bytesStr (x.cl env)
 |.mkSl s b z l c=>.mkSl s b z (l.cl env) (c.cl env)
 |.extract i x=>.extract i (x.cl env)
 |.mkFn f p q=>.mkFn f (p.map (Opd.cl env)) (q.map (Opd.cl env))
 |.nilCheck x=>.nilCheck (x.cl env)
 |.mkMap=>.mkMap
 |.rangeM x=>.rangeM (x.cl env)
 |.nextM x=>.nextM (x.cl env)
 |.entryM x=>.entryM (x.cl env)
 |.lookup ks st z m k ok=>.lookup ks st z (m.cl env) (k.cl env) ok
 |.mapUp ks st m k v=>.mapUp ks st (m.cl env) (k.cl env) (v.cl env)
 |.len x=>.len (x.cl env)
 |.lenStr x=>.lenStr (x.cl env)
 |.append s b x y=>.append s b (x.cl env) (y.cl env)
 |.appendM s b x y=>.appendM s b (x.cl env) (y.cl env)
 |.mm b xs=>.mm b (xs.map (Opd.cl env))
 |.call f args=>.call (f.cl env) (args.map (Opd.cl env))
 |.bad=>.bad
theorem cl_ev (env env2:List PV) (x:Opd):(x.cl env).ev env2=x.ev env:=rfl
theorem cl_map (env env2:List PV) (l:List Opd):(l.map (Opd.cl env)).map (λx=>x.ev env2)=l.map λx=>x.ev env:=by rw[List.map_map];rfl
theorem cl_omap (env env2:List PV) (l:Option Opd):(l.map (Opd.cl env)).map (λx=>x.ev env2)=l.map λx=>x.ev env:=by cases l<;>rfl
theorem aop_close (env:List PV) (H:List Blk) (op:AOp):aop [] H (op.close env)=aop env H op:=by
 cases op with
 |build z parts=>simp only[aop,AOp.close,List.map_map,Function.comp_def,cl_ev]
 |buildSl s parts=>simp only[aop,AOp.close,cl_map];congr 3;rw[List.map_map];rfl
 |buildM s parts=>simp only[aop,AOp.close,cl_map,List.length_map]
 |slStr x lo hi=>simp only[aop,AOp.close,cl_ev,cl_omap]
 |slSl s x lo hi mx=>
  cases hi with
  |none=>simp only[aop,AOp.close,cl_ev,cl_omap,Option.map_none]
  |some v=>
   simp only[aop,AOp.close,cl_ev,cl_omap,Option.map_some]
   cases x.ev env<;>try rfl
   all_goals
    simp only
    generalize bound (lo.map λx=>x.ev env) 0=A
    generalize (mx.map λx=>x.ev env)=C
    split
    ·generalize bound (some (v.ev env)) _=B
     cases A<;>cases B<;>cases C<;>try rfl
     rename_i m
     simp only
     cases bound (some m) 0<;>rfl
    ·rfl
 |mkFn f p q=>simp only[aop,AOp.close,cl_map]
 |mm b xs=>simp only[aop,AOp.close,cl_map]
 |_=>rfl
theorem AStep.mono {P:Program} {op:AOp} {env:List PV} {H:List Blk} {K K':PV->List Blk->Prop} (h:AStep P op env H K) (hk:∀ p h,K p h->K' p h):AStep P op env H K':=by
 unfold AStep at h ⊢
 split at h
 ·split at h
  ·exact XCall.mono h hk
  ·exact ARound.mono h hk
  ·exact h.elim
 ·split at h
  ·exact hk _ _ h
  ·exact h.elim
theorem Zm {P:Program} {op:AOp} {env:List PV} {H:List Blk} {K:PV->List Blk->Prop} (h:AStep P (op.close env) [] H K):AStep P op env H K:=by
 have e:=aop_close env H op
 cases op with
 |call f args=>
  simp only[AOp.close,AStep,cl_ev,cl_map]at h ⊢
  exact h
 |_=>
  simp only[AOp.close]at h e
  simp only[AStep]at h ⊢
  rw[e]at h
  exact h
inductive Nt where
 |ev
 |eqb (t b:Bool)
 |pu (op:AOp) (p:PV)
 |ca (f:FuncId) (args:List PV) (r:PV)
 |rd (op:AOp) (F:List Blk) (p:PV)
 |st (op:AOp) (F:List Blk) (p:PV) (F':List Blk) (lo:Nat)
 |fd (op:AOp) (l:List Nat) (B:List Blk) (p:PV)
 |fr (op:AOp) (l:List Nat) (B B':List Blk) (p:PV)
def putL:List Blk->List Nat->List Blk->List Blk
 |F,k::l,b::bs=>putL (F.set k b) l bs
 |F,_,_=>F
theorem putL_len:∀ (F:List Blk) (l:List Nat) (bs:List Blk),(putL F l bs).length=F.length
 |F,[],_=>by simp[putL]
 |F,_::_,[]=>by simp[putL]
 |F,k::l,b::bs=>by rw[putL,putL_len];simp
theorem Uv:∀ (F:List Blk) (l:List Nat) (bs:List Blk) {k:Nat},k∉l->(putL F l bs)[k]?=F[k]?
 |F,[],_,_,_=>by simp[putL]
 |F,_::_,[],_,_=>by simp[putL]
 |F,j::l,b::bs,k,h=>by
  rw[putL,Uv _ l bs (λe=>h (List.mem_cons_of_mem _ e)),List.getElem?_set_ne (λe=>h (by subst e;exact List.mem_cons_self ..))]
def blksAt (F:List Blk) (l:List Nat):List Blk:=l.map λk=>(F[k]?).getD (.cells [])
def allIn (n:Nat) (l:List Nat):Bool:=l.all λk=>Nat.blt k n
theorem Uz {F:List Blk}:∀ {l:List Nat},allIn F.length l=true->l.map (λk=>F[k]?)=(blksAt F l).map some
 |[],_=>rfl
 |k::l,h=>by
  simp only[allIn,List.all_cons,Bool.and_eq_true]at h
  have hk:k<F.length:=Nat.le_of_ble_eq_true h.1
  have:=Uz (F:=F) (l:=l) h.2
  simp only[blksAt,List.map_cons,List.getElem?_eq_getElem hk,Option.getD_some]at this ⊢
  rw[this]
def minL (n:Nat):List Nat->Nat
 |[]=>n
 |k::l=>min k (minL n l)
theorem minL_le {n:Nat}:∀ {l:List Nat} {k:Nat},k∈l->minL n l<=k
 |x::l,k,h=>by
  rcases List.mem_cons.1 h with rfl|h
  ·exact Nat.min_le_left _ _
  ·exact Nat.le_trans (Nat.min_le_right _ _) (minL_le h)
def Nt.ok (P:Program):Nt->Prop
 |.ev=>True
 |.eqb t b=>t=b
 |.pu op p=>aop [] [] op=some (p,[])
 |.ca f args r=>∀ F,XCall P f args F λq h=>q=r/\h=F
 |.rd op F p=>AStep P op [] F λq h=>q=p/\h=F
 |.st op F p F' lo=>(AStep P op [] F λq h=>q=p/\h=F')/\Same lo F F'
 |.fd op l B p=>∀ F,l.map (λk=>F[k]?)=B.map some->AStep P op [] F λq h=>q=p/\h=F
 |.fr op l B B' p=>∀ F,l.map (λk=>F[k]?)=B.map some->AStep P op [] F λq h=>q=p/\h=putL F l B'
def Nts (P:Program):List Nt->Prop
 |[]=>True
 |x::l=>x.ok P/\Nts P l
theorem Nts.app {P:Program}:∀ {l m:List Nt},Nts P (l++m)->Nts P l/\Nts P m
 |[],_,h=>⟨trivial,h⟩
 |_::_,_,h=>⟨⟨h.1,(Nts.app h.2).1⟩,(Nts.app h.2).2⟩
def stepR (env:List PV) (H:List Blk) (op:AOp) (nt:Nt):Option (PV×List Blk×Nt):=
 match nt with
 |.ev=>match aop env H op with
  |some (p,H')=>some (p,H',.ev)
  |none=>none
 |.pu _ p=>match Yx op with
  |true=>some (p,H,.pu (op.close env) p)
  |false=>none
 |.ca _ _ r=>match op with
  |.call f args=>match f.ev env with
   |.fn (.func n) first cap=>some (r,H,.ca n (first++args.map (·.ev env)++cap) r)
   |_=>none
  |_=>none
 |.rd _ _ p=>some (p,H,.rd (op.close env) H p)
 |.st _ _ p F' lo=>some (p,F',.st (op.close env) H p F' lo)
 |.fd _ l _ p=>match allIn H.length l with
  |true=>some (p,H,.fd (op.close env) l (blksAt H l) p)
  |false=>none
 |.fr _ l _ B' p=>match allIn H.length l with
  |true=>some (p,putL H l B',.fr (op.close env) l (blksAt H l) B' p)
  |false=>none
 |.eqb _ _=>none
theorem stepR_sound {P:Program} {env:List PV} {H H':List Blk} {op:AOp} {nt o:Nt} {p:PV} (h:stepR env H op nt=some (p,H',o)) (ho:o.ok P) {K:PV->List Blk->Prop} (hK:K p H'):AStep P op env H K:=by
 unfold stepR at h
 split at h
 ·split at h
  ·rename_i q H2 e
   simp only[Option.some.injEq,Prod.mk.injEq]at h
   obtain⟨rfl,rfl,rfl⟩:=h
   unfold AStep
   split
   ·simp[aop]at e
   ·rw[e];exact hK
  ·cases h
 ·split at h
  ·rename_i hp
   simp only[Option.some.injEq,Prod.mk.injEq]at h
   obtain⟨rfl,rfl,rfl⟩:=h
   have h1:aop env [] op=some (_,[]):=(aop_close env [] op).symm.trans ho
   have h2:=pure_any hp h1 H
   unfold AStep
   split
   ·cases hp
   ·rw[h2];exact hK
  ·cases h
 ·split at h
  ·rename_i f args
   split at h
   ·rename_i n first cap e
    simp only[Option.some.injEq,Prod.mk.injEq]at h
    obtain⟨rfl,rfl,rfl⟩:=h
    simp only[AStep,e]
    exact XCall.mono (ho H) λq h ⟨e1,e2⟩=>by rw[e1,e2];exact hK
   ·cases h
  ·cases h
 ·simp only[Option.some.injEq,Prod.mk.injEq]at h
  obtain⟨rfl,rfl,rfl⟩:=h
  exact Zm (AStep.mono ho λq h ⟨e1,e2⟩=>by rw[e1,e2];exact hK)
 ·simp only[Option.some.injEq,Prod.mk.injEq]at h
  obtain⟨rfl,rfl,rfl⟩:=h
  exact Zm (AStep.mono ho.1 λq h ⟨e1,e2⟩=>by rw[e1,e2];exact hK)
 ·split at h
  ·rename_i hl
   simp only[Option.some.injEq,Prod.mk.injEq]at h
   obtain⟨rfl,rfl,rfl⟩:=h
   exact Zm (AStep.mono (ho _ (Uz hl)) λq h ⟨e1,e2⟩=>by rw[e1,e2];exact hK)
  ·cases h
 ·split at h
  ·rename_i hl
   simp only[Option.some.injEq,Prod.mk.injEq]at h
   obtain⟨rfl,rfl,rfl⟩:=h
   exact Zm (AStep.mono (ho _ (Uz hl)) λq h ⟨e1,e2⟩=>by rw[e1,e2];exact hK)
  ·cases h
 ·cases h
def wantR (g:Option (Nat×Bool)) (m:List PV) (nts:List Nt):Option (Bool×List Nt×List Nt):=
 match g with
 |none=>some (true,nts,[])
 |some (d,b)=>match (m[d]?).getD .any with
  |.sc (.bool t)=>match nts with
   |.eqb _ b'::r=>some (b'==b,r,[.eqb t b'])
   |_=>none
  |.tup []=>some (false,nts,[])
  |_=>none
def evR:List AI->List PV->List Blk->List Nt->Option (List PV×List Blk×List Nt)
 |[],env,H,_=>some (env,H,[])
 |i::rest,env,H,nts=>
  match wantR i.guard env nts with
  |none=>none
  |some (w,nts1,o1)=>match w with
   |false=>match evR rest (putE env i.dst (.tup [])) H nts1 with
    |some (e,h,o)=>some (e,h,o1++o)
    |none=>none
   |true=>match nts1 with
    |[]=>none
    |nt::nts2=>match stepR env H i.op nt with
     |none=>none
     |some (p,H',o2)=>match evR rest (putE env i.dst p) H' nts2 with
      |some (e,h,o)=>some (e,h,o1++o2::o)
      |none=>none
theorem evR_sound {P:Program}:∀ (l:List AI) (env:List PV) (H:List Blk) (nts:List Nt) (env':List PV) (H':List Blk) (os:List Nt),evR l env H nts=some (env',H',os)->Nts P os->
  ∀ K:List PV->List Blk->Prop,K env' H'->AOps P l env H K
 |[],env,H,nts,env',H',os,h,ho,K,hK=>by
  simp only[evR,Option.some.injEq,Prod.mk.injEq]at h
  obtain⟨rfl,rfl,rfl⟩:=h
  exact hK
 |i::rest,env,H,nts,env',H',os,h,ho,K,hK=>by
  simp only[evR]at h
  split at h
  ·cases h
  rename_i w nts1 o1 hw
  have fin:(w=false->AOps P rest (putE env i.dst (.tup [])) H K)->(w=true->AStep P i.op env H λp H'=>AOps P rest (putE env i.dst p) H' K)->Nts P o1->AOps P (i::rest) env H K:=λhf ht ho1=>by
   simp only[AOps]
   unfold wantR at hw
   split at hw
   ·rename_i e
    cases hw
    rw[e]
    exact ht rfl
   ·rename_i d b e
    rw[e]
    simp only
    split at hw
    ·rename_i t ht1
     split at hw
     ·rename_i x b' r
      cases hw
      rw[ht1]
      have hb:t=b':=ho1.1
      subst hb
      simp only
      by_cases htb:t=b
      ·rw[if_pos htb];exact ht (by simp[htb])
      ·rw[if_neg htb];exact hf (by simp[htb])
     ·cases hw
    ·rename_i ht1
     cases hw
     rw[ht1]
     exact hf rfl
    ·cases hw
  cases w with
  |false=>
   simp only at h
   split at h
   ·rename_i e1 h1 o hr
    simp only[Option.some.injEq,Prod.mk.injEq]at h
    obtain⟨rfl,rfl,rfl⟩:=h
    obtain⟨q1,q2⟩:=Nts.app ho
    exact fin (λ_=>evR_sound rest _ _ _ _ _ _ hr q2 K hK) (λe=>by cases e) q1
   ·cases h
  |true=>
   simp only at h
   split at h
   ·cases h
   rename_i nt nts2
   split at h
   ·cases h
   rename_i p H1 o2 hs
   split at h
   ·rename_i e1 h1 o hr
    simp only[Option.some.injEq,Prod.mk.injEq]at h
    obtain⟨rfl,rfl,rfl⟩:=h
    obtain⟨q1,q2⟩:=Nts.app ho
    exact fin (λe=>by cases e) (λ_=>stepR_sound hs q2.1 (evR_sound rest _ _ _ _ _ _ hr q2.2 K hK)) q1
   ·cases h
def noCall:Caller:=λ_ _ _ _=>none
theorem evD_noCall {P:Program} {base:Nat} {x:DI} {more:Bool} {env:List PV} {F F':List Blk} {c:Nat} {p:PV} {lo:Nat} (hh:∀ b,Yn x.ai.op=some b->F[base+c]?=some b) (h:evD noCall base x more env F c=some (p,F',lo)):
  DGood P base x env F c p F'/\Same lo F F'/\F.length<=F'.length/\(more=true->∀ j,base+c<=j->∀ b,F[j]?=some b->F'[j]?=some b)/\TOk x.ai.op env (base+c) F F' (mkT x.ai.op env (base+c) F F' lo):=by
 unfold evD at h
 unfold DGood
 split at h
 ·rename_i z hop
  simp only[Option.some.injEq,Prod.mk.injEq]at h
  obtain⟨rfl,rfl,rfl⟩:=h
  rw[hop]
  exact⟨⟨rfl,rfl,hh _ (by rw[hop];rfl)⟩,.refl _ _,Nat.le_refl _,λ_ _ _ _ h=>h,Zj _ _ _ _⟩
 ·rename_i hop
  simp only[Option.some.injEq,Prod.mk.injEq]at h
  obtain⟨rfl,rfl,rfl⟩:=h
  rw[hop]
  exact⟨⟨rfl,rfl,hh _ (by rw[hop];rfl)⟩,.refl _ _,Nat.le_refl _,λ_ _ _ _ h=>h,Zj _ _ _ _⟩
 ·rename_i f args hop
  rw[hop]
  split at h
  case h_2=>cases h
  rename_i n first cap e
  split at h
  case h_2=>cases h
  rename_i r F1 lo1 hc
  cases hc
 ·rename_i h_1 h_2 h_3
  split at h
  ·rename_i hp
   split at h
   ·rename_i q hq
    simp only[Option.some.injEq,Prod.mk.injEq]at h
    obtain⟨rfl,rfl,rfl⟩:=h
    split
    ·rename_i hop;exact absurd hop (h_1 _)
    ·rename_i hop;exact absurd hop h_2
    ·rename_i hop;exact absurd hop (h_3 _ _)
    ·rw[if_pos hp]
     exact⟨⟨hq,rfl⟩,.refl _ _,Nat.le_refl _,λ_ _ _ _ h=>h,Zj _ _ _ _⟩
   ·cases h
  ·rename_i hp
   split at h
   case h_2=>cases h
   rename_i q F1 ha
   have hs:=aop_same ha
   have hle:=hs.1
   have fin:∀ p' F'',p'=q->(F''=F1)->(F1=F\/x.ord=true)->(match x.ai.op with
     |.alloc z=>p'=.bp (base+c) 0/\F''=F/\F[base+c]?=some (.cells z)
     |.mkMap=>p'=.mp (base+c)/\F''=F/\F[base+c]?=some (.map [] [] 0)
     |.call f args=>AStep P (.call f args) env F (λr' F3=>r'=p'/\F3=F'')/\(F''=F\/x.ord=true)/\F.length<=F''.length
     |op=>if Yx op then aop env [] op=some (p',[])/\F''=F else aop env F op=some (p',F'')/\(F''=F\/x.ord=true)/\F.length<=F''.length):=λp' F'' e1 e2 e3=>by
    subst e1;subst e2
    split
    ·rename_i hop;exact absurd hop (h_1 _)
    ·rename_i hop;exact absurd hop h_2
    ·rename_i hop;exact absurd hop (h_3 _ _)
    ·rw[if_neg hp]
     exact⟨ha,e3,hle⟩
   split at h
   ·rename_i hl
    split at h
    ·rename_i hlo
     simp only[Option.some.injEq,Prod.mk.injEq]at h
     obtain⟨rfl,rfl,rfl⟩:=h
     have e:=same_eq hs hl hlo
     exact⟨fin q F rfl e.symm (.inl e),.refl _ _,Nat.le_refl _,λ_ _ _ _ h=>h,Zj _ _ _ _⟩
    ·split at h
     ·rename_i hcond
      simp only[Option.some.injEq,Prod.mk.injEq]at h
      obtain⟨rfl,rfl,rfl⟩:=h
      exact⟨fin q F1 rfl rfl (.inr hcond.1),hs,hle,λ_ j hj b hb=>(aop_only ha hl j (by omega)).trans hb,mkT_ok hs (λ_ hl k hk=>aop_only ha hl k hk)⟩
     ·cases h
   ·split at h
    ·rename_i hcond
     simp only[Option.some.injEq,Prod.mk.injEq]at h
     obtain⟨rfl,rfl,rfl⟩:=h
     refine⟨fin q F1 rfl rfl (.inr hcond.1),hs,hle,λhm j _ b hb=>?_,mkT_ok hs (λ_ hl k hk=>aop_only ha hl k hk)⟩
     have hlo:=hcond.2.resolve_left (by rw[hm];simp)
     have hj:j<F.length:=(List.getElem?_eq_some_iff.1 hb).1
     rw[hs.2 j (by omega) hj];exact hb
    ·cases h
def stepRD (base c:Nat) (more:Bool) (x:DI) (m:List PV) (F:List Blk) (nt:Nt):Option (PV×List Blk×Tch×Nt):=
 match nt with
 |.ev=>match evD noCall base x more m F c with
  |some (p,F',lo)=>some (p,F',mkT x.ai.op m (base+c) F F' lo,.ev)
  |none=>none
 |.pu _ p=>match Yx x.ai.op with
  |true=>some (p,F,mkT x.ai.op m (base+c) F F F.length,.pu (x.ai.op.close m) p)
  |false=>none
 |.ca _ _ r=>match x.ai.op with
  |.call f args=>match f.ev m with
   |.fn (.func n) first cap=>some (r,F,mkT x.ai.op m (base+c) F F F.length,.ca n (first++args.map (·.ev m)++cap) r)
   |_=>none
  |_=>none
 |.rd _ _ p=>match Yx x.ai.op||(Yn x.ai.op).isSome with
  |false=>some (p,F,mkT x.ai.op m (base+c) F F F.length,.rd (x.ai.op.close m) F p)
  |true=>none
 |.st _ _ p F' lo=>match !Yx x.ai.op&&!(Yn x.ai.op).isSome&&x.ord&&Nat.ble F.length F'.length&&(!more||Nat.ble F.length lo)with
  |true=>some (p,F',⟨rdE x.ai.op m (base+c),some (none,min lo F.length)⟩,.st (x.ai.op.close m) F p F' lo)
  |false=>none
 |.fd _ l _ p=>match Yx x.ai.op||(Yn x.ai.op).isSome||!allIn F.length l with
  |false=>some (p,F,mkT x.ai.op m (base+c) F F F.length,.fd (x.ai.op.close m) l (blksAt F l) p)
  |true=>none
 |.fr _ l _ B' p=>match !Yx x.ai.op&&!(Yn x.ai.op).isSome&&x.ord&&allIn F.length l&&(!more||l.isEmpty)with
  |true=>some (p,putL F l B',⟨rdE x.ai.op m (base+c),some (none,minL F.length l)⟩,.fr (x.ai.op.close m) l (blksAt F l) B' p)
  |false=>none
 |.eqb _ _=>none
def evRD (base:Nat):List DI->List PV->List Blk->Nat->List Nt->List (Option Tch)->Option (List PV×List Blk×List (Option Tch)×List Nt)
 |[],env,F,_,_,ts=>some (env,F,ts.reverse,[])
 |x::rest,env,F,c,nts,ts=>
  match wantR x.ai.guard (Zg x.looks env) nts with
  |none=>none
  |some (w,nts1,o1)=>match w with
   |false=>match evRD base rest (putE env x.ai.dst (.tup [])) F (c+cntD x) nts1 (none::ts)with
    |some (e,h,t,o)=>some (e,h,t,o1++o)
    |none=>none
   |true=>match nts1 with
    |[]=>none
    |nt::nts2=>match stepRD base c (rest.any λy=>cntD y==1) x (Zg x.looks env) F nt with
     |none=>none
     |some (p,F',t,o2)=>match evRD base rest (putE env x.ai.dst p) F' (c+cntD x) nts2 (some t::ts)with
      |some (e,h,t,o)=>some (e,h,t,o1++o2::o)
      |none=>none
theorem astep_other {P:Program} {op:AOp} {env:List PV} {H:List Blk} {K:PV->List Blk->Prop} (hop:∀ f args,op≠.call f args) (h:AStep P op env H K):∃ p H',aop env H op=some (p,H')/\K p H':=by
 unfold AStep at h
 split at h
 ·exact absurd rfl (hop _ _)
 ·split at h
  ·rename_i p H' e;exact⟨p,H',e,h⟩
  ·exact h.elim
theorem dgood_of {P:Program} {base:Nat} {x:DI} {m:List PV} {F F':List Blk} {c:Nat} {p:PV} (hp:Yx x.ai.op=false) (ha:(Yn x.ai.op).isSome=false) (h:AStep P x.ai.op m F λq h=>q=p/\h=F') (ho:F'=F\/x.ord=true) (hl:F.length<=F'.length):DGood P base x m F c p F':=by
 unfold DGood
 split
 ·rename_i z e;rw[e]at ha;cases ha
 ·rename_i e;rw[e]at ha;cases ha
 ·rename_i f args e;rw[e]at h;exact⟨h,ho,hl⟩
 ·rename_i h1 h2 h3
  rw[if_neg (by rw[hp];simp)]
  obtain⟨q,H',e,rfl,rfl⟩:=astep_other h3 h
  exact⟨e,ho,hl⟩
theorem stepRD_sound {P:Program} {base c:Nat} {more:Bool} {x:DI} {m:List PV} {F F':List Blk} {nt o:Nt} {p:PV} {t:Tch} (hh:∀ b,Yn x.ai.op=some b->F[base+c]?=some b) (h:stepRD base c more x m F nt=some (p,F',t,o)) (ho:o.ok P):
  DGood P base x m F c p F'/\TOk x.ai.op m (base+c) F F' t/\(more=true->∀ j,base+c<=j->∀ b,F[j]?=some b->F'[j]?=some b):=by
 unfold stepRD at h
 split at h
 ·split at h
  ·rename_i q F1 lo hd
   simp only[Option.some.injEq,Prod.mk.injEq]at h
   obtain⟨rfl,rfl,rfl,rfl⟩:=h
   obtain⟨h1,_,_,h4,h6⟩:=evD_noCall hh hd
   exact⟨h1,h6,h4⟩
  ·cases h
 ·split at h
  ·rename_i hp
   simp only[Option.some.injEq,Prod.mk.injEq]at h
   obtain⟨rfl,rfl,rfl,rfl⟩:=h
   have h1:aop m [] x.ai.op=some (_,[]):=(aop_close m [] _).symm.trans ho
   refine⟨?_,Zj _ _ _ _,λ_ _ _ _ h=>h⟩
   unfold DGood
   split
   ·rename_i z e;rw[e]at hp;cases hp
   ·rename_i e;rw[e]at hp;cases hp
   ·rename_i f args e;rw[e]at hp;cases hp
   ·rw[if_pos hp];exact⟨h1,rfl⟩
  ·cases h
 ·split at h
  ·rename_i f args e0
   split at h
   ·rename_i n first cap e
    simp only[Option.some.injEq,Prod.mk.injEq]at h
    obtain⟨rfl,rfl,rfl,rfl⟩:=h
    refine⟨?_,Zj _ _ _ _,λ_ _ _ _ h=>h⟩
    unfold DGood
    rw[e0]
    refine⟨?_,.inl rfl,Nat.le_refl _⟩
    simp only[AStep,e]
    exact ho F
   ·cases h
  ·cases h
 ·split at h
  ·rename_i hc
   simp only[Bool.or_eq_false_iff]at hc
   simp only[Option.some.injEq,Prod.mk.injEq]at h
   obtain⟨rfl,rfl,rfl,rfl⟩:=h
   exact⟨dgood_of hc.1 hc.2 (Zm ho) (.inl rfl) (Nat.le_refl _),Zj _ _ _ _,λ_ _ _ _ h=>h⟩
  ·cases h
 ·split at h
  ·rename_i hc
   simp only[Bool.and_eq_true,Bool.not_eq_true',Bool.or_eq_true]at hc
   obtain⟨⟨⟨⟨c1,c2⟩,c3⟩,c4⟩,c5⟩:=hc
   simp only[Option.some.injEq,Prod.mk.injEq]at h
   obtain⟨rfl,rfl,rfl,rfl⟩:=h
   refine⟨dgood_of c1 c2 (Zm ho.1) (.inr c3) (Nat.le_of_ble_eq_true c4),⟨rfl,.inr ⟨_,_,rfl,λk _ hk=>ho.2.2 k (by omega) (by omega)⟩⟩,λhm j _ b hb=>?_⟩
   have hlo:=Nat.le_of_ble_eq_true (c5.resolve_left (by rw[hm];simp))
   have hj:j<F.length:=(List.getElem?_eq_some_iff.1 hb).1
   rw[ho.2.2 j (by omega) hj];exact hb
  ·cases h
 ·split at h
  ·rename_i hc
   simp only[Bool.or_eq_false_iff,Bool.not_eq_false']at hc
   simp only[Option.some.injEq,Prod.mk.injEq]at h
   obtain⟨rfl,rfl,rfl,rfl⟩:=h
   exact⟨dgood_of hc.1.1 hc.1.2 (Zm (ho _ (Uz hc.2))) (.inl rfl) (Nat.le_refl _),Zj _ _ _ _,λ_ _ _ _ h=>h⟩
  ·cases h
 ·split at h
  ·rename_i hc
   simp only[Bool.and_eq_true,Bool.not_eq_true',Bool.or_eq_true]at hc
   obtain⟨⟨⟨⟨c1,c2⟩,c3⟩,c4⟩,c5⟩:=hc
   simp only[Option.some.injEq,Prod.mk.injEq]at h
   obtain⟨rfl,rfl,rfl,rfl⟩:=h
   refine⟨dgood_of c1 c2 (Zm (ho _ (Uz c4))) (.inr c3) (Nat.le_of_eq (putL_len _ _ _).symm),⟨rfl,.inr ⟨_,_,rfl,λk _ hk=>Uv _ _ _ λhm=>?_⟩⟩,λhm j _ b hb=>?_⟩
   ·have:=minL_le (n:=F.length) hm;omega
   ·have hl:=List.isEmpty_iff.1 (c5.resolve_left (by rw[hm];simp))
    rw[hl,Uv _ _ _ (by simp)];exact hb
  ·cases h
 ·cases h
theorem evRD_sound {P:Program} {base:Nat}:∀ (l:List DI) (env:List PV) (F:List Blk) (c:Nat) (nts:List Nt) (us:List (Option Tch)) (env':List PV) (F':List Blk) (ts:List (Option Tch)) (os:List Nt),(∀ i b,(Va l)[i]?=some b->F[base+c+i]?=some b)->evRD base l env F c nts us=some (env',F',ts,os)->Nts P os->
  ∀ K:List PV->List Blk->List (Option Tch)->Prop,K env' F' ts->ADr P base l env F c (λe f vs=>K e f (us.reverse++vs))
 |[],env,F,c,nts,us,env',F',ts,os,_,h,ho,K,hK=>by
  simp only[evRD,Option.some.injEq,Prod.mk.injEq]at h
  obtain⟨rfl,rfl,rfl,rfl⟩:=h
  simp only[ADr,List.append_nil];exact hK
 |x::rest,env,F,c,nts,us,env',F',ts,os,hh,h,ho,K,hK=>by
  have hrest:∀ F1:List Blk,((rest.any λy=>cntD y==1)=true->∀ j,base+c<=j->∀ b,F[j]?=some b->F1[j]?=some b)->∀ i b,(Va rest)[i]?=some b->F1[base+(c+cntD x)+i]?=some b:=λF1 hk i b hb=>by
   have hany:(rest.any λy=>cntD y==1)=true:=by
    have hm:=List.mem_of_getElem? hb
    obtain⟨y,hy,hyb⟩:=List.mem_filterMap.1 hm
    rw[List.any_eq_true]
    exact⟨y,hy,by simp[cntD,hyb]⟩
   refine hk hany _ (by omega) b ?_
   cases hx:Yn x.ai.op with
   |none=>
    have e:cntD x=0:=by simp[cntD,hx]
    rw[e,Nat.add_zero]
    exact hh i b (by unfold Va at hb ⊢;rw[List.filterMap_cons,hx];exact hb)
   |some z=>
    have e:cntD x=1:=by simp[cntD,hx]
    rw[e,show base+(c+1)+i=base+c+(i+1) by omega]
    exact hh (i+1) b (by unfold Va at hb ⊢;rw[List.filterMap_cons,hx];simpa using hb)
  have hx0:∀ b,Yn x.ai.op=some b->F[base+c]?=some b:=λb hb=>hh 0 b (by unfold Va;rw[List.filterMap_cons,hb];rfl)
  simp only[evRD]at h
  split at h
  ·cases h
  rename_i w nts1 o1 hw
  have hwant:Nts P o1->wantD x (Zg x.looks env)=some w:=λho1=>by
   unfold wantR at hw
   unfold wantD
   split at hw
   ·rename_i e;cases hw;rw[e]
   ·rename_i d b e
    rw[e]
    simp only
    split at hw
    ·rename_i t ht1
     split at hw
     ·rename_i y b' r
      cases hw
      have hb:t=b':=ho1.1
      rw[ht1,hb]
     ·cases hw
    ·rename_i ht1;cases hw;rw[ht1]
    ·cases hw
  cases w with
  |false=>
   simp only at h
   split at h
   ·rename_i e1 h1 t1 o hr
    simp only[Option.some.injEq,Prod.mk.injEq]at h
    obtain⟨rfl,rfl,rfl,rfl⟩:=h
    obtain⟨q1,q2⟩:=Nts.app ho
    have:=evRD_sound rest _ _ _ _ _ _ _ _ _ (hrest F λ_ j _ b h=>h) hr q2 K hK
    simp only[ADr,hwant q1]
    simpa only [List.reverse_cons,List.append_assoc,List.singleton_append] using this
   ·cases h
  |true=>
   simp only at h
   split at h
   ·cases h
   rename_i nt nts2
   split at h
   ·cases h
   rename_i p F1 t o2 hs
   split at h
   ·rename_i e1 h1 t1 o hr
    simp only[Option.some.injEq,Prod.mk.injEq]at h
    obtain⟨rfl,rfl,rfl,rfl⟩:=h
    obtain⟨q1,q2⟩:=Nts.app ho
    obtain⟨k1,k2,k3⟩:=stepRD_sound hx0 hs q2.1
    have:=evRD_sound rest _ _ _ _ _ _ _ _ _ (hrest F1 k3) hr q2.2 K hK
    simp only[ADr,hwant q1]
    exact⟨p,F1,t,k1,k2,by simpa only [List.reverse_cons,List.append_assoc,List.singleton_append] using this⟩
   ·cases h
def runA (a:AC) (env:List PV) (H:List Blk) (n1 n2:List Nt):Option (List PV×List Blk×List Nt×List Nt):=
 match a with
 |.skip=>some (env,H,[],[])
 |.ops l=>match evR l env H n1 with
  |some (e,h,o)=>some (e,h,o,[])
  |none=>none
 |.draw l tl=>match evRD H.length l env (H++Va l) 0 n1 []with
  |some (e,F,ts,o)=>match sepB l ts with
   |true=>match evR tl e F n2 with
    |some (e2,F2,o2)=>some (e2,F2,o,o2)
    |none=>none
   |false=>none
  |none=>none
 |_=>none
theorem runA_sound {P:Program} {H0:List Blk} {a:AC} {env:List PV} {H:List Blk} {n1 n2 o1 o2:List Nt} {e:List PV} {h':List Blk} (h:runA a env H n1 n2=some (e,h',o1,o2)) (h1:Nts P o1) (h2:Nts P o2) {Q:Ex->List PV->List Blk->Prop} (hQ:Q .normal e h'):AX P H0 a env H Q:=by
 unfold runA at h
 split at h
 ·cases h;exact hQ
 ·split at h
  ·rename_i hr
   cases h
   simp only[AX]
   exact evR_sound _ _ _ _ _ _ _ hr h1 (Q .normal) hQ
  ·cases h
 ·split at h
  ·rename_i l tl _ e1 F ts o hr
   split at h
   ·rename_i hsep
    split at h
    ·rename_i hr2
     cases h
     simp only[AX]
     exact evRD_sound (base:=H.length) l _ _ _ _ [] _ _ _ _ (λi b hb=>by rw[List.getElem?_append_right (by omega)];rw[<-hb];congr 1;omega) hr h1 (λenv' F' ts=>sepB l ts=true/\AOps P tl env' F' (Q .normal)) ⟨hsep,evR_sound _ _ _ _ _ _ _ hr2 h2 (Q .normal) hQ⟩
    ·cases h
   ·cases h
  ·cases h
 ·cases h
def look:List (Nat×PV)->Nat->PV
 |[],_=>.any
 |(k,p)::l,n=>match Nat.beq k n with
  |true=>p
  |false=>look l n
def Wy (le:List (Nat×PV)):Nat->Nat->List PV
 |_,0=>[]
 |i,n+1=>look le i::Wy le (i+1) n
def mk (N:Nat) (le:List (Nat×PV)):List PV:=Wy le 0 N
theorem Xu (le:List (Nat×PV)):∀ n i,(Wy le i n).length=n
 |0,_=>rfl
 |n+1,i=>by simp[Wy,Xu le n]
theorem Yw (le:List (Nat×PV)):∀ n i j p,(Wy le i n)[j]?=some p->p=look le (i+j)
 |0,_,_,_,h=>by simp[Wy]at h
 |n+1,i,0,p,h=>by simp[Wy]at h;exact h.symm
 |n+1,i,j+1,p,h=>by
  have:=Yw le n (i+1) j p (by simpa [Wy] using h)
  rw[this];congr 1;omega
theorem Vv:∀ (le:List (Nat×PV)) (n:Nat),look le n=.any\/(n,look le n)∈le
 |[],_=>.inl rfl
 |(k,p)::l,n=>by
  simp only[look]
  split
  ·rename_i h;rw[Nat.eq_of_beq_eq_true h];exact .inr (List.mem_cons_self ..)
  ·exact(Vv l n).imp id (List.mem_cons_of_mem _)
theorem weak_mk {H0:List Blk} {env:List PV} {N:Nat} {H:List Blk} {le:List (Nat×PV)} (hN:env.length=N) (h:(le.map λx=>env[x.1]?)=le.map λx=>some x.2):WeakS H0 env H (mk N le) H:=by
 refine λg0 w0 a w g hI hA=>weak_sound hI hA (.inl ⟨rfl,(Xu le N 0).trans hN.symm,λi p hp=>?_⟩)
 have e:=Yw le N 0 i p hp
 rw[Nat.zero_add]at e
 rcases Vv le i with h1|h1
 ·exact .inl (e.trans h1)
 ·refine .inr ?_
  rw[<-e]at h1
  exact(List.map_inj_left.1 h) _ h1
def runO (a:AC) (N:Nat) (le:List (Nat×PV)) (H:List Blk) (n1 n2:List Nt) (sl:List (Nat×PV)):Option (List (Option PV)×List Blk×List Nt×List Nt):=
 match runA a (mk N le) H n1 n2 with
 |some (e,h,o1,o2)=>match Nat.beq e.length N with
  |true=>some (sl.map λx=>e[x.1]?,h,o1,o2)
  |false=>none
 |none=>none
abbrev vals (le:List (Nat×PV)):List (Option PV):=le.map λx=>some x.2
theorem runO_sound {P:Program} {H0:List Blk} {a:AC} {N:Nat} {le le':List (Nat×PV)} {H H':List Blk} {n1 n2:List Nt} (h:runO a N le H n1 n2 le'=some (vals le',H',n1,n2)) (h1:Nts P n1) (h2:Nts P n2) {Q:Ex->List PV->List Blk->Prop} (hQ:∀ e,WeakS H0 e H' (mk N le') H'->Q .normal e H'):AX P H0 a (mk N le) H Q:=by
 unfold runO at h
 split at h
 ·rename_i e h' o1 o2 hr
  split at h
  ·rename_i hb
   simp only[Option.some.injEq,Prod.mk.injEq]at h
   obtain⟨hv,rfl,rfl,rfl⟩:=h
   exact runA_sound hr h1 h2 (hQ _ (weak_mk (Nat.eq_of_beq_eq_true hb) hv))
  ·cases h
 ·cases h
end Go.PE
