/- A part of the proof. -/
import Derived.Test.YtibndgdocbbbeaaGreatPE17
set_option linter.all false
namespace Go.PE
open Go.RowKit
structure AF where
 ntmps:Nat
 body:AC
 res:List RP
 deriving Inhabited
def loOf (op:AOp) (env:List PV) (H:List Blk):Nat:=
 match op with
 |.store _ a _=>match a.ev env with|.bp k _=>k|.tp k _ _=>k|_=>0
 |.mapUp _ _ m _ _=>match m.ev env with|.mp k=>k|_=>0
 |.nextM x=>match x.ev env with|.bp k _=>k|_=>0
 |.append _ _ s _=>match s.ev env with|.sl _ (.own j) _ _=>j|_=>H.length
 |.appendM _ _ s _=>match s.ev env with|.ts j _ _=>j|_=>H.length
 |_=>H.length
def Same (lo:Nat) (H H':List Blk):Prop:=H.length<=H'.length/\∀ k,k<lo->k<H.length->H'[k]?=H[k]?
theorem Same.refl (lo:Nat) (H:List Blk):Same lo H H:=⟨Nat.le_refl _,λ_ _ _=>rfl⟩
theorem Same.trans {lo lo':Nat} {H H' H'':List Blk} (h:Same lo H H') (k:Same lo' H' H''):Same (min lo lo') H H'':=
 ⟨Nat.le_trans h.1 k.1,λi hi hl=>(k.2 i (by omega) (by have:=h.1;omega)).trans (h.2 i (by omega) hl)⟩
theorem Same.mono {lo lo':Nat} {H H':List Blk} (h:Same lo H H') (hl:lo'<=lo):Same lo' H H':=⟨h.1,λk hk=>h.2 k (by omega)⟩
theorem Same.app (lo:Nat) (H X:List Blk):Same lo H (H++X):=⟨by simp,λk _ hl=>List.getElem?_append_left hl⟩
theorem Same.set {lo:Nat} (H:List Blk) {k:Nat} (x:Blk) (h:lo<=k):Same lo H (H.set k x):=⟨by simp,λi hi _=>by rw[List.getElem?_set_ne (by omega)]⟩
theorem view_own {H:List Blk} {p:PV} {nl:Bool} {j s:Nat} {es:List (List PV)} (h:Zr H p=some (nl,.own j,s,es)):p=.sl nl (.own j) s es:=by
 unfold Zr at h
 (repeat' split at h)<;>simp only[Option.some.injEq,Prod.mk.injEq,reduceCtorEq]at h
 ·obtain⟨rfl,rfl,rfl,rfl⟩:=h;rfl
 all_goals exact h.2.1.elim
theorem aop_same {op:AOp} {env:List PV} {H H':List Blk} {p:PV} (h:aop env H op=some (p,H')):Same (loOf op env H) H H':=by
 cases op<;>simp only[aop,Wj,appendQ,loOf]at h ⊢<;>(repeat' split at h)<;>try simp only[Option.map_eq_some_iff,Option.some.injEq,Prod.mk.injEq,reduceCtorEq]at h
 all_goals first
  |(obtain⟨_,_,_,rfl⟩:=Qx h;simp_all only;exact Same.set _ _ (Nat.le_refl _))
  |(rcases Uc h with rfl|⟨_,rfl⟩<;>first|exact .refl _ _|exact .app _ _ _)
  |(obtain⟨_,rfl⟩:=h;first|exact .refl _ _|exact .app _ _ _|(simp_all only;exact Same.set _ _ (Nat.le_refl _))|(rename_i hv _ _ _ _ _ _;rw[view_own hv];exact Same.set _ _ (Nat.le_refl _)))
  |(obtain⟨_,_,_,rfl⟩:=h;exact .refl _ _)
inductive Tgt where
 |fn (f:FuncId) (rg:Bool)
 |rd (k:Nat)
abbrev Caller:=Bool->Tgt->List PV->List Blk->Option (PV×List Blk×Nat)
def evStep (call:Caller) (cut:Bool) (op:AOp) (env:List PV) (H:List Blk):Option (PV×List Blk×Nat):=
 match op with
 |.call f args=>match f.ev env with
  |.fn (.func n) first cap=>call cut (.fn n false) (first++args.map (·.ev env)++cap) H
  |.yl k=>call cut (.rd k) (args.map (·.ev env)) H
  |_=>none
 |op=>match aop env H op with
  |some (p,H')=>some (p,H',loOf op env H)
  |none=>none
def evOps (call:Caller):List AI->List PV->List Blk->Nat->Option (List PV×List Blk×Nat)
 |[],env,H,lo=>some (env,H,lo)
 |i::rest,env,H,lo=>
  match i.guard with
  |none=>match evStep call false i.op env H with
   |some (p,H',lo')=>evOps call rest (putE env i.dst p) H' (min lo lo')
   |none=>none
  |some (d,b)=>match (env[d]?).getD .any with
   |.sc (.bool t)=>if t=b then
     match evStep call false i.op env H with
     |some (p,H',lo')=>evOps call rest (putE env i.dst p) H' (min lo lo')
     |none=>none
    else evOps call rest (putE env i.dst (.tup [])) H lo
   |.tup []=>evOps call rest (putE env i.dst (.tup [])) H lo
   |_=>none
def evD (call:Caller) (base:Nat) (x:DI) (more:Bool) (env:List PV) (F:List Blk) (c:Nat):Option (PV×List Blk×Nat):=
 match x.ai.op with
 |.alloc _=>some (.bp (base+c) 0,F,F.length)
 |.mkMap=>some (.mp (base+c),F,F.length)
 |.call f args=>match f.ev env with
  |.fn (.func n) first cap=>match call (!x.ord) (.fn n false) (first++args.map (·.ev env)++cap) F with
   |some (r,F',lo)=>if F.length<=lo/\F'.length=F.length then some (r,F,F.length)else if x.ord=true/\F.length<=F'.length/\(more=false\/F.length<=lo)then some (r,F',lo)else none
   |none=>none
  |_=>none
 |op=>if Yx op then match aop env [] op with
   |some (p,[])=>some (p,F,F.length)
   |_=>none
  else match aop env F op with
   |some (p,F')=>if F'.length=F.length then (if F.length<=loOf op env F then some (p,F,F.length)else if x.ord=true/\loOf op env F<base+c then some (p,F',loOf op env F)else none)else if x.ord=true/\(more=false\/F.length<=loOf op env F)then some (p,F',loOf op env F)else none
   |none=>none
def isCallB (op:AOp):Bool:=match op with
 |.call ..=>true
 |_=>false
def mkT (op:AOp) (env:List PV) (b:Nat) (F F':List Blk) (lo:Nat):Tch:=
 ⟨rdE op env b,if F.length<=lo/\F'.length=F.length then none else if isCallB op=false/\F'.length=F.length then some (some lo,F.length)else some (none,min lo F.length)⟩
def evDr (call:Caller) (base:Nat):List DI->List PV->List Blk->Nat->Nat->List (Option Tch)->Option (List PV×List Blk×Nat×List (Option Tch))
 |[],env,F,_,lo,ts=>some (env,F,lo,ts.reverse)
 |x::rest,env,F,c,lo,ts=>
  match wantD x (Zg x.looks env)with
  |some true=>match evD call base x (rest.any λy=>cntD y==1) (Zg x.looks env) F c with
   |some (p,F',lo')=>evDr call base rest (putE env x.ai.dst p) F' (c+cntD x) (min lo lo') (some (mkT x.ai.op (Zg x.looks env) (base+c) F F' lo')::ts)
   |none=>none
  |some false=>evDr call base rest (putE env x.ai.dst (.tup [])) F (c+cntD x) lo (none::ts)
  |none=>none
def evLoop (round:List PV->List Blk->Nat->Option (Ex×List PV×List Blk×Nat)):Nat->List PV->List Blk->Nat->Option (Ex×List PV×List Blk×Nat)
 |0,_,_,_=>none
 |n+1,env,H,lo=>match round env H lo with
  |some (.normal,env',H',lo')=>evLoop round n env' H' lo'
  |r=>r
def evC (call:Caller) (fuel:Nat):AC->List PV->List Blk->Nat->Option (Ex×List PV×List Blk×Nat)
 |.skip,env,H,lo=>some (.normal,env,H,lo)
 |.ops l,env,H,lo=>(evOps call l env H lo).map λx=>(.normal,x)
 |.draw l tl,env,H,lo=>match evDr call H.length l env (H++Va l) 0 lo []with
  |some (env',F',lo',ts)=>if sepB l ts=true then (evOps call tl env' F' lo').map λx=>(.normal,x)else none
  |none=>none
 |.seq a b,env,H,lo=>match evC call fuel a env H lo with
  |some (.normal,env',H',lo')=>evC call fuel b env' H' lo'
  |r=>r
 |.cond c a b,env,H,lo=>match c.ev env with
  |.sc (.bool true)=>evC call fuel a env H lo
  |.sc (.bool false)=>evC call fuel b env H lo
  |_=>none
 |.block id c,env,H,lo=>match evC call fuel c env H lo with
  |some (.exit i,env',H',lo')=>if i=id then some (.normal,env',H',lo')else some (.exit i,env',H',lo')
  |r=>r
 |.loop c,env,H,lo=>evLoop (evC call fuel c) fuel env H lo
 |.exit id,env,H,lo=>some (.exit id,env,H,lo)
 |.ret,env,H,lo=>some (.ret,env,H,lo)
 |.range f ps ai bd cA cB,env,H,lo=>match f.ev env with
  |.fn (.func n) first cap=>match call false (.fn n true) (first++[.yl H.length]++cap) (H++[.loop env ps ai bd cA cB .ready none])with
   |some (_,H',lo')=>match H'[H.length]? with
    |some (.loop _ _ _ _ _ _ st pend)=>if st=.busy then none else
     match jumpEx pend,setLoop H' H.length .exhausted pend with
     |some x,some H2=>some (x,env,H2,min lo (min lo' H.length))
     |_,_=>none
    |_=>none
   |none=>none
  |_=>none
 |.bad,_,_,_=>none
 mutual
def ownIn (m:Nat):PV->Bool
 |.agg cs=>ownInL m cs
 |.tup cs=>ownInL m cs
 |.sl _ _ _ es=>ownInLL m es
 |.ip cs=>ownInL m cs
 |.bp k _=>decide (m<=k)
 |.bs k _ _ _ _=>decide (m<=k)
 |.mp k=>decide (m<=k)
 |.yl k=>decide (m<=k)
 |.ts j n _=>decide (m<=j)&&decide (n≠0)
 |.tp j _ _=>decide (m<=j)
 |.fn _ p q=>ownInL m p||ownInL m q
 |.any=>false
 |.sc _=>false
def ownInL (m:Nat):List PV->Bool
 |[]=>false
 |p::ps=>ownIn m p||ownInL m ps
def ownInLL (m:Nat):List (List PV)->Bool
 |[]=>false
 |e::es=>ownInL m e||ownInLL m es
 end
def ownTop (m:Nat):PV->Bool
 |.sl false (.own j) _ es=>decide (m<=j)||ownInLL m es
 |p=>ownIn m p
def ownRes (m:Nat):PV->Bool
 |.tup l=>l.any (ownTop m)
 |p=>ownTop m p
def memo (pre:FuncId->List PV->Option PV) (call:Caller):Caller:=λcut t args H=>match t with
 |.fn f false=>match pre f args with
  |some r=>some (r,H,H.length)
  |none=>call cut t args H
 |t=>call cut t args H
def evF (pre:FuncId->List PV->Option PV) (tab:FuncId->Option AF):Nat->Caller
 |0,_,_,_,_=>none
 |n+1,_,.rd k,args,H=>
  match H[k]? with
  |some (.loop env ps ai bd _ _ .ready none)=>
   if (ai.flat&&bd.flat&&args.length==ps.size)=true then
    match evC (memo pre (evF pre tab n)) n ai (Zu env ps.toList args) H H.length with
    |some (.normal,env1,H1,lo1)=>if isReady H1 k=true then
      match setLoop H1 k .busy none with
      |some H2=>match evC (memo pre (evF pre tab n)) n bd env1 H2 (min lo1 k)with
       |some (x,_,H3,lo2)=>match setLoop H3 k (if (Yj x).isNone then .ready else .done) (Yj x)with
        |some H4=>some (.sc (.bool (Yj x).isNone),H4,lo2)
        |none=>none
       |none=>none
      |none=>none
     else none
    |_=>none
   else none
  |_=>none
 |n+1,cut,.fn f _,args,H=>
  match tab f with
  |none=>none
  |some af=>match evC (memo pre (evF pre tab n)) n af.body (args++List.replicate (af.ntmps-args.length) (.tup [])) H H.length with
   |some (x,env,H',lo)=>if x=.normal\/x=.ret then
     match resP af.res env H' with
     |some r=>if H.length<=lo/\(cut=true\/ownRes H.length r=false)then some (r.strip H.length,H,H.length)else some (r,H',lo)
     |none=>none
    else none
   |none=>none
theorem aop_only {op:AOp} {env:List PV} {H H':List Blk} {p:PV} (h:aop env H op=some (p,H')) (hl:H'.length=H.length):∀ j,j≠loOf op env H->H'[j]?=H[j]?:=by
 cases op<;>simp only[aop,Wj,appendQ,loOf]at h ⊢<;>(repeat' split at h)<;>try simp only[Option.map_eq_some_iff,Option.some.injEq,Prod.mk.injEq,reduceCtorEq]at h
 all_goals first
  |(obtain⟨_,_,_,rfl⟩:=Qx h;intro j hj;simp_all only;rw[List.getElem?_set_ne (λe=>hj e.symm)])
  |(rcases Uc h with rfl|⟨_,rfl⟩<;>first|(intro j hj;rfl)|(simp at hl;done))
  |(obtain⟨_,rfl⟩:=h;intro j hj;first|rfl|(simp at hl;done)|(simp_all only;rw[List.getElem?_set_ne (λe=>hj e.symm)])|(rename_i hv _ _ _ _ _ _;rw[view_own hv]at hj;rw[List.getElem?_set_ne (λe=>hj e.symm)]))
  |(obtain⟨_,_,_,rfl⟩:=h;intro j hj;rfl)
theorem same_eq {lo:Nat} {H H':List Blk} (h:Same lo H H') (hl:H'.length=H.length) (hlo:H.length<=lo):H'=H:=by
 apply List.ext_getElem?
 intro k
 by_cases hk:k<H.length
 ·exact h.2 k (by omega) hk
 ·rw[List.getElem?_eq_none (by omega),List.getElem?_eq_none (by omega)]
def ACOk (P:Program):AC->Prop
 |.seq a b|.cond _ a b=>ACOk P a/\ACOk P b
 |.block _ c|.loop c=>ACOk P c
 |.range _ _ ai bd cA cB=>comp P cA=some ai/\comp P cB=some bd
 |_=>True
theorem flat_ok (P:Program):∀ {ac:AC},ac.flat=true->ACOk P ac
 |.seq a b,h|.cond _ a b,h=>by simp only[AC.flat,Bool.and_eq_true]at h;exact⟨flat_ok P h.1,flat_ok P h.2⟩
 |.block _ c,h|.loop c,h=>flat_ok P (ac:=c) h
 |.range ..,h=>by cases h
 |.skip,_|.ops _,_|.draw _ _,_|.exit _,_|.ret,_|.bad,_=>trivial
theorem comp_ok (P:Program):∀ (c:Code) {ac:AC},comp P c=some ac->ACOk P ac:=by
 intro c
 induction c with
 |skip=>intro ac h;cases h;trivial
 |region id ops draw=>
  intro ac h
  simp only[comp]at h
  split at h
  ·obtain⟨_,_,rfl,_⟩:=compDraw_sound h;trivial
  ·simp only[Option.map_eq_some_iff]at h;obtain⟨_,_,rfl⟩:=h;trivial
 |seq x y ihx ihy=>
  intro ac h
  simp only[comp,Option.bind_eq_bind,Option.bind_eq_some_iff,Option.pure_def,Option.some.injEq]at h
  obtain⟨ax,hx,ay,hy,rfl⟩:=h
  exact⟨ihx hx,ihy hy⟩
 |cond c x y ihx ihy=>
  intro ac h
  simp only[comp,Option.bind_eq_bind,Option.bind_eq_some_iff,Option.pure_def,Option.some.injEq]at h
  obtain⟨_,_,ax,hx,ay,hy,rfl⟩:=h
  exact⟨ihx hx,ihy hy⟩
 |block id c ih=>intro ac h;simp only[comp,Option.map_eq_some_iff]at h;obtain⟨a,ha,rfl⟩:=h;exact(ih ha:ACOk P a)
 |loop c ih=>intro ac h;simp only[comp,Option.map_eq_some_iff]at h;obtain⟨a,ha,rfl⟩:=h;exact(ih ha:ACOk P a)
 |rangeFunc g ps cA cB _ _=>
  intro ac h
  simp only[comp,Option.bind_eq_bind,Option.bind_eq_some_iff,Option.pure_def,Option.some.injEq]at h
  obtain⟨_,_,_,ha,_,hb,rfl⟩:=h
  exact⟨ha,hb⟩
 |exit id=>intro ac h;cases h;trivial
 |ret=>intro ac h;cases h;trivial
 |scope c ih=>intro ac h;exact ih h
 |label=>intro ac h;cases h;trivial
 |goto=>intro ac h;cases h;trivial
 |refuse=>intro ac h;cases h;trivial
def HOk (P:Program) (H:List Blk):Prop:=∀ (k:Nat) (env:List PV) (ps:Array Nat) (ai bd:AC) (cA cB:Code) (st:LoopState) (pend:Option Code),H[k]?=some (.loop env ps ai bd cA cB st pend)->comp P cA=some ai/\comp P cB=some bd
theorem HOk.app {P:Program} {H:List Blk} (h:HOk P H) {x:Blk} (hx:∀ env ps ai bd cA cB st pend,x=.loop env ps ai bd cA cB st pend->comp P cA=some ai/\comp P cB=some bd):HOk P (H++[x]):=by
 intro k env ps ai bd cA cB st pend hk
 rcases Nat.lt_or_ge k H.length with h1|h1
 ·rw[List.getElem?_append_left h1]at hk;exact h k _ _ _ _ _ _ _ _ hk
 ·rw[List.getElem?_append_right h1]at hk
  have:=List.mem_of_getElem? hk
  simp at this
  exact hx _ _ _ _ _ _ _ _ this.symm
theorem HOk.put {P:Program} {H:List Blk} (h:HOk P H) (k:Nat) {x:Blk} (hx:∀ env ps ai bd cA cB st pend,x=.loop env ps ai bd cA cB st pend->comp P cA=some ai/\comp P cB=some bd):HOk P (H.set k x):=by
 intro j env ps ai bd cA cB st pend hj
 rcases Yi hj with ⟨_,e⟩|⟨_,hj⟩
 ·exact hx _ _ _ _ _ _ _ _ e.symm
 ·exact h j _ _ _ _ _ _ _ _ hj
theorem HOk.setLoop {P:Program} {H H2:List Blk} (h:HOk P H) {k:Nat} {st:LoopState} {pend:Option Code} (hs:setLoop H k st pend=some H2):HOk P H2:=by
 unfold Go.PE.setLoop at hs
 split at hs
 case h_2=>cases hs
 rename_i hk
 cases hs
 exact h.put k λ_ _ _ _ _ _ _ _ e=>by cases e;exact h _ _ _ _ _ _ _ _ _ hk
theorem HOk.blks {P:Program}:∀ (l:List DI) {H:List Blk},HOk P H->HOk P (H++Va l)
 |l,H,h=>by
  intro k env ps ai bd cA cB st pend hk
  rcases Nat.lt_or_ge k H.length with h1|h1
  ·rw[List.getElem?_append_left h1]at hk;exact h k _ _ _ _ _ _ _ _ hk
  ·rw[List.getElem?_append_right h1]at hk
   obtain⟨x,_,hx⟩:=List.mem_filterMap.1 (List.mem_of_getElem? hk)
   unfold Yn at hx
   split at hx<;>cases hx
theorem aop_HOk {P:Program} {op:AOp} {env:List PV} {H H':List Blk} {p:PV} (h:aop env H op=some (p,H')) (h0:HOk P H):HOk P H':=by
 cases op<;>simp only[aop,Wj,appendQ]at h ⊢<;>(repeat' split at h)<;>try simp only[Option.map_eq_some_iff,Option.some.injEq,Prod.mk.injEq,reduceCtorEq]at h
 all_goals first
  |(obtain⟨_,_,_,rfl⟩:=Qx h;exact h0.put _ (λ_ _ _ _ _ _ _ _ e=>by cases e))
  |(rcases Uc h with rfl|⟨_,rfl⟩<;>first|exact h0|exact h0.app (λ_ _ _ _ _ _ _ _ e=>by cases e))
  |(obtain⟨_,rfl⟩:=h;first|exact h0|exact h0.app (λ_ _ _ _ _ _ _ _ e=>by cases e)|exact h0.put _ (λ_ _ _ _ _ _ _ _ e=>by cases e))
  |(obtain⟨_,_,_,rfl⟩:=h;exact h0)
theorem mkT_ok {op:AOp} {env:List PV} {b lo:Nat} {F F':List Blk} (hs:Same lo F F') (h1:isCallB op=false->F'.length=F.length->∀ k,k≠lo->F'[k]?=F[k]?):TOk op env b F F' (mkT op env b F F' lo):=by
 refine⟨rfl,?_⟩
 simp only[mkT]
 split
 ·rename_i h;exact .inl (same_eq hs h.2 h.1)
 ·split
  ·rename_i h
   exact .inr ⟨_,_,rfl,λk hk _=>h1 h.1 h.2 k (λe=>hk (by rw[e]))⟩
  ·exact .inr ⟨_,_,rfl,λk _ hk=>hs.2 k (by omega) (by omega)⟩
theorem Zj (op:AOp) (env:List PV) (b:Nat) (F:List Blk):TOk op env b F F (mkT op env b F F F.length):=⟨rfl,.inl rfl⟩
def TCall (P:Program):Tgt->List PV->List Blk->(PV->List Blk->Prop)->Prop
 |.fn f true,args,H,Q=>ACall P f args H Q
 |.fn f false,args,H,Q=>XCall P f args H Q
 |.rd k,args,H,Q=>ARound P k args H Q
def CallOk (P:Program) (call:Caller):Prop:=∀ cut t args H r H' lo,HOk P H->call cut t args H=some (r,H',lo)->TCall P t args H (λr' H''=>r'=r/\H''=H')/\Same lo H H'/\lo<=H.length/\HOk P H'
section
variable {P:Program} {call:Caller} (hcall:CallOk P call)
 include hcall
theorem evStep_sound {cut:Bool} {op:AOp} {env:List PV} {H H':List Blk} {p:PV} {lo:Nat} (h0:HOk P H) (h:evStep call cut op env H=some (p,H',lo)):(∀ K:PV->List Blk->Prop,K p H'->AStep P op env H K)/\Same lo H H'/\HOk P H':=by
 unfold evStep at h
 split at h
 ·rename_i f args
  split at h
  ·rename_i n first cap e
   obtain⟨h1,h2,_,h4⟩:=hcall _ _ _ _ _ _ _ h0 h
   refine⟨λK hK=>?_,h2,h4⟩
   simp only[AStep,e]
   exact XCall.mono h1 λr' H'' ⟨e1,e2⟩=>by rw[e1,e2];exact hK
  ·rename_i k e
   obtain⟨h1,h2,_,h4⟩:=hcall _ _ _ _ _ _ _ h0 h
   refine⟨λK hK=>?_,h2,h4⟩
   simp only[AStep,e]
   exact ARound.mono h1 λr' H'' ⟨e1,e2⟩=>by rw[e1,e2];exact hK
  ·cases h
 ·rename_i hne
  split at h
  ·rename_i p' H'' ha
   simp only[Option.some.injEq,Prod.mk.injEq]at h
   obtain⟨rfl,rfl,rfl⟩:=h
   refine⟨λK hK=>?_,aop_same ha,aop_HOk ha h0⟩
   unfold AStep
   split
   ·exact absurd rfl (hne _ _)
   ·rw[ha];exact hK
  ·cases h
theorem Vw:∀ (l:List AI) (env:List PV) (H:List Blk) (lo:Nat) (env':List PV) (H':List Blk) (lo':Nat),HOk P H->evOps call l env H lo=some (env',H',lo')->(∀ K:List PV->List Blk->Prop,K env' H'->AOps P l env H K)/\lo'<=lo/\Same lo' H H'/\HOk P H'
 |[],env,H,lo,env',H',lo',h0,h=>by
  simp only[evOps,Option.some.injEq,Prod.mk.injEq]at h
  obtain⟨rfl,rfl,rfl⟩:=h
  exact⟨λK hK=>hK,Nat.le_refl _,.refl _ _,h0⟩
 |i::rest,env,H,lo,env',H',lo',h0,h=>by
  have go:(match evStep call false i.op env H with
     |some (p,H',lo')=>evOps call rest (putE env i.dst p) H' (min lo lo')
     |none=>none)=some (env',H',lo')->(∀ K:List PV->List Blk->Prop,K env' H'->AStep P i.op env H λp H'=>AOps P rest (putE env i.dst p) H' K)/\lo'<=lo/\Same lo' H H'/\HOk P H':=λh=>by
   split at h
   ·rename_i p H1 lo1 hs
    obtain⟨h1,h2,hk⟩:=evStep_sound hcall h0 hs
    obtain⟨h3,h4,h5,h6⟩:=Vw rest _ _ _ _ _ _ hk h
    exact⟨λK hK=>h1 _ (h3 K hK),by omega,(h2.trans h5).mono (by omega),h6⟩
   ·cases h
  simp only[evOps]at h
  split at h
  ·rename_i hg
   obtain⟨h1,h2⟩:=go h
   exact⟨λK hK=>by simp only[AOps,hg];exact h1 K hK,h2⟩
  ·rename_i d b hg
   split at h
   ·rename_i t ht
    split at h
    ·rename_i htb
     obtain⟨h1,h2⟩:=go h
     exact⟨λK hK=>by simp only[AOps,hg,ht];rw[if_pos htb];exact h1 K hK,h2⟩
    ·rename_i htb
     obtain⟨h3,h4⟩:=Vw rest _ _ _ _ _ _ h0 h
     exact⟨λK hK=>by simp only[AOps,hg,ht];rw[if_neg htb];exact h3 K hK,h4⟩
   ·rename_i ht
    obtain⟨h3,h4⟩:=Vw rest _ _ _ _ _ _ h0 h
    exact⟨λK hK=>by simp only[AOps,hg,ht];exact h3 K hK,h4⟩
   ·cases h
theorem evD_sound {base:Nat} {x:DI} {more:Bool} {env:List PV} {F F':List Blk} {c:Nat} {p:PV} {lo:Nat} (hh:∀ b,Yn x.ai.op=some b->F[base+c]?=some b) (h0:HOk P F) (h:evD call base x more env F c=some (p,F',lo)):
  DGood P base x env F c p F'/\Same lo F F'/\F.length<=F'.length/\(more=true->∀ j,base+c<=j->∀ b,F[j]?=some b->F'[j]?=some b)/\HOk P F'/\TOk x.ai.op env (base+c) F F' (mkT x.ai.op env (base+c) F F' lo):=by
 unfold evD at h
 unfold DGood
 split at h
 ·rename_i z hop
  simp only[Option.some.injEq,Prod.mk.injEq]at h
  obtain⟨rfl,rfl,rfl⟩:=h
  rw[hop]
  exact⟨⟨rfl,rfl,hh _ (by rw[hop];rfl)⟩,.refl _ _,Nat.le_refl _,λ_ _ _ _ h=>h,h0,Zj _ _ _ _⟩
 ·rename_i hop
  simp only[Option.some.injEq,Prod.mk.injEq]at h
  obtain⟨rfl,rfl,rfl⟩:=h
  rw[hop]
  exact⟨⟨rfl,rfl,hh _ (by rw[hop];rfl)⟩,.refl _ _,Nat.le_refl _,λ_ _ _ _ h=>h,h0,Zj _ _ _ _⟩
 ·rename_i f args hop
  rw[hop]
  split at h
  case h_2=>cases h
  rename_i n first cap e
  split at h
  case h_2=>cases h
  rename_i r F1 lo1 hc
  obtain⟨h1,h2,h3,h4⟩:=hcall _ _ _ _ _ _ _ h0 hc
  have h1:XCall P n _ _ _:=h1
  split at h
  ·rename_i hcond
   simp only[Option.some.injEq,Prod.mk.injEq]at h
   obtain⟨rfl,rfl,rfl⟩:=h
   obtain rfl:=same_eq h2 hcond.2 hcond.1
   exact⟨⟨by simp only[AStep,e];exact h1,.inl rfl,Nat.le_refl _⟩,.refl _ _,Nat.le_refl _,λ_ _ _ _ h=>h,h0,Zj _ _ _ _⟩
  ·split at h
   ·rename_i hcond
    simp only[Option.some.injEq,Prod.mk.injEq]at h
    obtain⟨rfl,rfl,rfl⟩:=h
    refine⟨⟨by simp only[AStep,e];exact h1,.inr hcond.1,hcond.2.1⟩,h2,hcond.2.1,λhm j _ b hb=>?_,h4,mkT_ok h2 (λe=>(by cases e))⟩
    have hlo:=hcond.2.2.resolve_left (by rw[hm];simp)
    have hj:j<F.length:=(List.getElem?_eq_some_iff.1 hb).1
    rw[h2.2 j (by omega) hj];exact hb
   ·cases h
 ·rename_i h_1 h_2 h_3
  split at h
  ·rename_i hp
   split at h
   ·rename_i q hq
    simp only[Option.some.injEq,Prod.mk.injEq]at h
    obtain⟨rfl,rfl,rfl⟩:=h
    split
    ·rename_i hop;exact absurd hop (h_1 _)
    ·rename_i hop;exact absurd hop h_2
    ·rename_i hop;exact absurd hop (h_3 _ _)
    ·rw[if_pos hp]
     exact⟨⟨hq,rfl⟩,.refl _ _,Nat.le_refl _,λ_ _ _ _ h=>h,h0,Zj _ _ _ _⟩
   ·cases h
  ·rename_i hp
   split at h
   case h_2=>cases h
   rename_i q F1 ha
   have hs:=aop_same ha
   have hle:=hs.1
   have fin:∀ p' F'',p'=q->(F''=F1)->(F1=F\/x.ord=true)->(match x.ai.op with
     |.alloc z=>p'=.bp (base+c) 0/\F''=F/\F[base+c]?=some (.cells z)
     |.mkMap=>p'=.mp (base+c)/\F''=F/\F[base+c]?=some (.map [] [] 0)
     |.call f args=>AStep P (.call f args) env F (λr' F3=>r'=p'/\F3=F'')/\(F''=F\/x.ord=true)/\F.length<=F''.length
     |op=>if Yx op then aop env [] op=some (p',[])/\F''=F else aop env F op=some (p',F'')/\(F''=F\/x.ord=true)/\F.length<=F''.length):=λp' F'' e1 e2 e3=>by
    subst e1;subst e2
    split
    ·rename_i hop;exact absurd hop (h_1 _)
    ·rename_i hop;exact absurd hop h_2
    ·rename_i hop;exact absurd hop (h_3 _ _)
    ·rw[if_neg hp]
     exact⟨ha,e3,hle⟩
   split at h
   ·rename_i hl
    split at h
    ·rename_i hlo
     simp only[Option.some.injEq,Prod.mk.injEq]at h
     obtain⟨rfl,rfl,rfl⟩:=h
     have e:=same_eq hs hl hlo
     exact⟨fin q F rfl e.symm (.inl e),.refl _ _,Nat.le_refl _,λ_ _ _ _ h=>h,h0,Zj _ _ _ _⟩
    ·split at h
     ·rename_i hcond
      simp only[Option.some.injEq,Prod.mk.injEq]at h
      obtain⟨rfl,rfl,rfl⟩:=h
      exact⟨fin q F1 rfl rfl (.inr hcond.1),hs,hle,λ_ j hj b hb=>(aop_only ha hl j (by omega)).trans hb,aop_HOk ha h0,mkT_ok hs (λ_ hl k hk=>aop_only ha hl k hk)⟩
     ·cases h
   ·split at h
    ·rename_i hcond
     simp only[Option.some.injEq,Prod.mk.injEq]at h
     obtain⟨rfl,rfl,rfl⟩:=h
     refine⟨fin q F1 rfl rfl (.inr hcond.1),hs,hle,λhm j _ b hb=>?_,aop_HOk ha h0,mkT_ok hs (λ_ hl k hk=>aop_only ha hl k hk)⟩
     have hlo:=hcond.2.resolve_left (by rw[hm];simp)
     have hj:j<F.length:=(List.getElem?_eq_some_iff.1 hb).1
     rw[hs.2 j (by omega) hj];exact hb
    ·cases h
theorem evDr_sound {base:Nat}:∀ (l:List DI) (env:List PV) (F:List Blk) (c lo:Nat) (us:List (Option Tch)) (env':List PV) (F':List Blk) (lo':Nat) (ts:List (Option Tch)),(∀ i b,(Va l)[i]?=some b->F[base+c+i]?=some b)->HOk P F->evDr call base l env F c lo us=some (env',F',lo',ts)->
  (∀ K:List PV->List Blk->List (Option Tch)->Prop,K env' F' ts->ADr P base l env F c (λe f vs=>K e f (us.reverse++vs)))/\lo'<=lo/\Same lo' F F'/\HOk P F'
 |[],env,F,c,lo,us,env',F',lo',ts,_,h0,h=>by
  simp only[evDr,Option.some.injEq,Prod.mk.injEq]at h
  obtain⟨rfl,rfl,rfl,rfl⟩:=h
  exact⟨λK hK=>(by simp only[ADr,List.append_nil];exact hK),Nat.le_refl _,.refl _ _,h0⟩
 |x::rest,env,F,c,lo,us,env',F',lo',ts,hh,h0,h=>by
  have hrest:∀ F1:List Blk,((rest.any λy=>cntD y==1)=true->∀ j,base+c<=j->∀ b,F[j]?=some b->F1[j]?=some b)->∀ i b,(Va rest)[i]?=some b->F1[base+(c+cntD x)+i]?=some b:=λF1 hk i b hb=>by
   have hany:(rest.any λy=>cntD y==1)=true:=by
    have hm:=List.mem_of_getElem? hb
    obtain⟨y,hy,hyb⟩:=List.mem_filterMap.1 hm
    rw[List.any_eq_true]
    exact⟨y,hy,by simp[cntD,hyb]⟩
   refine hk hany _ (by omega) b ?_
   cases hx:Yn x.ai.op with
   |none=>
    have e:cntD x=0:=by simp[cntD,hx]
    rw[e,Nat.add_zero]
    exact hh i b (by unfold Va at hb ⊢;rw[List.filterMap_cons,hx];exact hb)
   |some z=>
    have e:cntD x=1:=by simp[cntD,hx]
    rw[e,show base+(c+1)+i=base+c+(i+1) by omega]
    exact hh (i+1) b (by unfold Va at hb ⊢;rw[List.filterMap_cons,hx];simpa using hb)
  simp only[evDr]at h
  split at h
  ·rename_i hw
   split at h
   case h_2=>cases h
   rename_i p F1 lo1 hd
   obtain⟨h1,h2,h3,h4,hk,hT⟩:=evD_sound hcall (λb hb=>by
    have:=hh 0 b (by unfold Va;rw[List.filterMap_cons,hb];rfl)
    simpa using this) h0 hd
   obtain⟨h5,h6,h7,h8⟩:=evDr_sound rest _ _ _ _ _ _ _ _ _ (hrest F1 h4) hk h
   refine⟨λK hK=>?_,by omega,((h2.mono (Nat.min_le_right lo lo1)).trans h7).mono (by omega),h8⟩
   simp only[ADr,hw]
   refine⟨p,F1,_,h1,hT,?_⟩
   have:=h5 K hK
   simpa only [List.reverse_cons,List.append_assoc,List.singleton_append] using this
  ·rename_i hw
   obtain⟨h5,h6,h7⟩:=evDr_sound rest _ _ _ _ _ _ _ _ _ (hrest F (λ_ _ _ _ h=>h)) h0 h
   refine⟨λK hK=>?_,h6,h7⟩
   simp only[ADr,hw]
   have:=h5 K hK
   simpa only [List.reverse_cons,List.append_assoc,List.singleton_append] using this
  ·cases h
 omit hcall in
theorem weak_refl (H0:List Blk) (env:List PV) (H:List Blk):WeakS H0 env H env H:=.refl _ _ _
theorem evC_sound (H0:List Blk) (fuel:Nat):∀ (c:AC) (env:List PV) (H:List Blk) (lo:Nat) (x:Ex) (env':List PV) (H':List Blk) (lo':Nat),ACOk P c->HOk P H->evC call fuel c env H lo=some (x,env',H',lo')->
  (∀ Q:Ex->List PV->List Blk->Prop,Q x env' H'->AX P H0 c env H Q)/\lo'<=lo/\Same lo' H H'/\HOk P H':=by
 intro c
 induction c with
 |skip=>
  intro env H lo x env' H' lo' hac h0 h
  simp only[evC,Option.some.injEq,Prod.mk.injEq]at h
  obtain⟨rfl,rfl,rfl,rfl⟩:=h
  exact⟨λQ hQ=>hQ,Nat.le_refl _,.refl _ _,h0⟩
 |ops l=>
  intro env H lo x env' H' lo' hac h0 h
  simp only[evC,Option.map_eq_some_iff,Prod.mk.injEq]at h
  obtain⟨⟨e1,H1,lo1⟩,h,rfl,rfl,rfl,rfl⟩:=h
  obtain⟨h1,h2⟩:=Vw hcall l _ _ _ _ _ _ h0 h
  exact⟨λQ hQ=>h1 _ hQ,h2⟩
 |draw l tl=>
  intro env H lo x env' H' lo' hac h0 h
  simp only[evC]at h
  split at h
  case h_2=>cases h
  rename_i e1 F1 lo1 ts hd
  split at h
  case isFalse=>cases h
  rename_i hsep
  simp only[Option.map_eq_some_iff,Prod.mk.injEq]at h
  obtain⟨⟨e2,H2,lo2⟩,h,rfl,rfl,rfl,rfl⟩:=h
  obtain⟨h4,h5,h6,hk⟩:=evDr_sound hcall l _ _ _ _ _ _ _ _ _ (λi b hb=>by rw[List.getElem?_append_right (by omega)];rw[<-hb];congr 1;omega) (HOk.blks l h0) hd
  obtain⟨h1,h2,h3,h8⟩:=Vw hcall tl _ _ _ _ _ _ hk h
  exact⟨λQ hQ=>h4 (λe f vs=>sepB l vs=true/\AOps P tl e f (Q .normal)) ⟨hsep,h1 _ hQ⟩,by omega,(((Same.app lo1 H (Va l)).trans h6).trans h3).mono (by omega),h8⟩
 |seq a b iha ihb=>
  intro env H lo x env' H' lo' hac h0 h
  simp only[evC]at h
  split at h
  ·rename_i e1 H1 lo1 ha
   obtain⟨h1,h2,h3,hk⟩:=iha _ _ _ _ _ _ _ hac.1 h0 ha
   obtain⟨h4,h5,h6,h8⟩:=ihb _ _ _ _ _ _ _ hac.2 hk h
   exact⟨λQ hQ=>by simp only[AX];exact h1 _ ⟨_,_,weak_refl _ _ _,h4 Q hQ⟩,by omega,(h3.trans h6).mono (by omega),h8⟩
  ·rename_i hne
   obtain⟨h1,h2⟩:=iha _ _ _ _ _ _ _ hac.1 h0 h
   refine⟨λQ hQ=>?_,h2⟩
   simp only[AX]
   refine h1 _ ?_
   cases x with
   |normal=>exact absurd h (hne _ _ _)
   |exit i=>exact hQ
   |ret=>exact hQ
 |cond c a b iha ihb=>
  intro env H lo x env' H' lo' hac h0 h
  simp only[evC]at h
  split at h
  ·rename_i e
   obtain⟨h1,h2⟩:=iha _ _ _ _ _ _ _ hac.1 h0 h
   exact⟨λQ hQ=>by simp only[AX,e];exact h1 Q hQ,h2⟩
  ·rename_i e
   obtain⟨h1,h2⟩:=ihb _ _ _ _ _ _ _ hac.2 h0 h
   exact⟨λQ hQ=>by simp only[AX,e];exact h1 Q hQ,h2⟩
  ·cases h
 |block id c ih=>
  intro env H lo x env' H' lo' hac h0 h
  simp only[evC]at h
  split at h
  ·rename_i i e1 H1 lo1 hc
   obtain⟨h1,h2⟩:=ih _ _ _ _ _ _ _ hac h0 hc
   split at h
   ·rename_i hi
    simp only[Option.some.injEq,Prod.mk.injEq]at h
    obtain⟨rfl,rfl,rfl,rfl⟩:=h
    exact⟨λQ hQ=>by simp only[AX];refine h1 _ ?_;simp only[if_pos hi];exact hQ,h2⟩
   ·rename_i hi
    simp only[Option.some.injEq,Prod.mk.injEq]at h
    obtain⟨rfl,rfl,rfl,rfl⟩:=h
    exact⟨λQ hQ=>by simp only[AX];refine h1 _ ?_;simp only[if_neg hi];exact hQ,h2⟩
  ·rename_i hne
   obtain⟨h1,h2⟩:=ih _ _ _ _ _ _ _ hac h0 h
   refine⟨λQ hQ=>?_,h2⟩
   simp only[AX]
   refine h1 _ ?_
   cases x with
   |normal=>exact hQ
   |exit i=>exact absurd h (hne _ _ _ _)
   |ret=>exact hQ
 |loop c ih=>
  have key:∀ (n:Nat) (env:List PV) (H:List Blk) (lo:Nat) (x:Ex) (env':List PV) (H':List Blk) (lo':Nat),ACOk P c->HOk P H->evLoop (evC call fuel c) n env H lo=some (x,env',H',lo')->
    (∀ Q:Ex->List PV->List Blk->Prop,Q x env' H'->loopN H0 (AX P H0 c) n env H Q)/\lo'<=lo/\Same lo' H H'/\HOk P H':=by
   intro n
   induction n with
   |zero=>intro env H lo x env' H' lo' hac h0 h;cases h
   |succ n ihn=>
    intro env H lo x env' H' lo' hac h0 h
    simp only[evLoop]at h
    split at h
    ·rename_i e1 H1 lo1 hc
     obtain⟨h1,h2,h3,hk⟩:=ih _ _ _ _ _ _ _ hac h0 hc
     obtain⟨h4,h5,h6,h8⟩:=ihn _ _ _ _ _ _ _ hac hk h
     exact⟨λQ hQ=>⟨env,H,weak_refl _ _ _,h1 _ (h4 Q hQ)⟩,by omega,(h3.trans h6).mono (by omega),h8⟩
    ·rename_i hne
     obtain⟨h1,h2⟩:=ih _ _ _ _ _ _ _ hac h0 h
     refine⟨λQ hQ=>⟨env,H,weak_refl _ _ _,h1 _ ?_⟩,h2⟩
     cases x with
     |normal=>exact absurd h (hne _ _ _)
     |exit i=>exact hQ
     |ret=>exact hQ
  intro env H lo x env' H' lo' hac h0 h
  simp only[evC]at h
  obtain⟨h1,h2⟩:=key _ _ _ _ _ _ _ _ hac h0 h
  exact⟨λQ hQ=>by simp only[AX];exact⟨fuel,h1 Q hQ⟩,h2⟩
 |exit id=>
  intro env H lo x env' H' lo' hac h0 h
  simp only[evC,Option.some.injEq,Prod.mk.injEq]at h
  obtain⟨rfl,rfl,rfl,rfl⟩:=h
  exact⟨λQ hQ=>hQ,Nat.le_refl _,.refl _ _,h0⟩
 |ret=>
  intro env H lo x env' H' lo' hac h0 h
  simp only[evC,Option.some.injEq,Prod.mk.injEq]at h
  obtain⟨rfl,rfl,rfl,rfl⟩:=h
  exact⟨λQ hQ=>hQ,Nat.le_refl _,.refl _ _,h0⟩
 |range f ps ai bd cA cB=>
  intro env H lo x env' H' lo' hac h0 h
  simp only[evC]at h
  split at h
  case h_2=>cases h
  rename_i n first cap e
  split at h
  case h_2=>cases h
  rename_i r1 H1 lo1 hc
  split at h
  case h_2=>cases h
  rename_i st pend hk
  split at h
  case isTrue=>cases h
  rename_i hst
  split at h
  case h_2=>cases h
  rename_i x1 H2 hj hs
  simp only[Option.some.injEq,Prod.mk.injEq]at h
  obtain⟨rfl,rfl,rfl,rfl⟩:=h
  obtain⟨h1,h2,h3,h4⟩:=hcall _ _ _ _ _ _ _ (h0.app (λ_ _ _ _ _ _ _ _ e=>by cases e;exact hac)) hc
  have h1:ACall P n _ _ _:=h1
  refine⟨λQ hQ=>?_,by omega,?_,h4.setLoop hs⟩
  ·simp only[AX,e]
   refine h1.mono ?_
   rintro r' H'' ⟨rfl,rfl⟩
   rw[hk]
   exact⟨hst,_,_,hj,hs,hQ⟩
  ·have hs2:Same H.length H1 H2:=by
    unfold setLoop at hs
    split at hs
    case h_2=>cases hs
    cases hs
    exact Same.set _ _ (Nat.le_refl _)
   exact(((Same.app lo1 H _).trans h2).trans hs2).mono (by omega)
 |bad=>intro env H lo x env' H' lo' hac h0 h;cases h
end
def TabOk (P:Program) (tab:FuncId->Option AF):Prop:=∀ f af,tab f=some af->∃ fn c,P.funcs[f]?=some fn/\fn.name≠ "runtime.NumGoroutine"/\fn.body=some c/\comp P c=some af.body/\compRes P fn=some af.res/\af.ntmps=fn.ntmps
def PreOk (P:Program) (pre:FuncId->List PV->Option PV):Prop:=∀ f args r,pre f args=some r->∀ H,XCall P f args H (λr' H'=>r'=r/\H'=H)
theorem preNone (P:Program):PreOk P (λ_ _=>none):=λ_ _ _ h=>by cases h
theorem memo_ok {P:Program} {pre:FuncId->List PV->Option PV} (hp:PreOk P pre) {call:Caller} (hc:CallOk P call):CallOk P (memo pre call):=by
 intro cut t args H r H' lo h0 h
 unfold memo at h
 split at h
 ·rename_i f
  split at h
  ·rename_i q hq
   simp only[Option.some.injEq,Prod.mk.injEq]at h
   obtain⟨rfl,rfl,rfl⟩:=h
   exact⟨hp f args q hq H,.refl _ _,Nat.le_refl _,h0⟩
  ·exact hc _ _ _ _ _ _ _ h0 h
 ·exact hc _ _ _ _ _ _ _ h0 h
theorem evF_sound {P:Program} {pre:FuncId->List PV->Option PV} {tab:FuncId->Option AF} (hmix:P.follows .mixedOrders=true) (hp:PreOk P pre) (ht:TabOk P tab):∀ n,CallOk P (evF pre tab n)
 |0=>λcut f args H r H' lo _ h=>by cases h
 |n+1=>λcut t args H r H' lo h0 h=>by
  cases t with
  |rd k=>
   simp only[evF]at h
   split at h
   case h_2=>cases h
   rename_i env ps ai bd cA cB hk
   split at h
   case isFalse=>cases h
   rename_i hcond
   simp only[Bool.and_eq_true,beq_iff_eq]at hcond
   obtain⟨⟨fa,fb⟩,hlen⟩:=hcond
   split at h
   case h_2=>cases h
   rename_i env1 H1 lo1 hev1
   split at h
   case isFalse=>cases h
   rename_i hrd
   split at h
   case h_2=>cases h
   rename_i H2 hs2
   split at h
   case h_2=>cases h
   rename_i x env2 H3 lo2 hev2
   split at h
   case h_2=>cases h
   rename_i H4 hs4
   simp only[Option.some.injEq,Prod.mk.injEq]at h
   obtain⟨rfl,rfl,rfl⟩:=h
   obtain⟨hcA,hcB⟩:=h0 _ _ _ _ _ _ _ _ _ hk
   obtain⟨h1,h2,h3,h4⟩:=evC_sound (memo_ok hp (evF_sound hmix hp ht n)) H n ai _ _ _ _ _ _ _ (flat_ok P fa) h0 hev1
   obtain⟨k1,k2,k3,k4⟩:=evC_sound (memo_ok hp (evF_sound hmix hp ht n)) H n bd _ _ _ _ _ _ _ (flat_ok P fb) (h4.setLoop hs2) hev2
   have same:∀ {A B:List Blk} {st:LoopState} {pend:Option Code},setLoop A k st pend=some B->Same k A B:=λ{A B st pend} hs=>by
    unfold setLoop at hs
    split at hs
    case h_2=>cases hs
    cases hs
    exact Same.set _ _ (Nat.le_refl _)
   refine⟨ARound.of_body hmix hk hcA hcB fa fb hlen (h1 _ ⟨rfl,hrd,H2,hs2,k1 _ ⟨H4,hs4,rfl,rfl⟩⟩),?_,by omega,k4.setLoop hs4⟩
   exact(((h3.trans (same hs2)).trans k3).trans (same hs4)).mono (by omega)
  |fn f rg=>
   have up:∀ {Q:PV->List Blk->Prop},ACall P f args H Q->TCall P (.fn f rg) args H Q:=λhq=>by
    cases rg with
    |true=>exact hq
    |false=>exact .inl hq
   simp only[evF]at h
   split at h
   case h_1=>cases h
   rename_i af haf
   obtain⟨fn,c,hf,hname,hb,hc,hr,hn⟩:=ht f af haf
   split at h
   case h_2=>cases h
   rename_i x env' H1 lo1 hev
   split at h
   case isFalse=>cases h
   rename_i hx
   split at h
   case h_2=>cases h
   rename_i r0 hr0
   obtain⟨h1,h2,h3,h4⟩:=evC_sound (memo_ok hp (evF_sound hmix hp ht n)) H n af.body _ _ _ _ _ _ _ (comp_ok P c hc) h0 hev
   rw[hn]at h1
   split at h
   ·rename_i hcond
    simp only[Option.some.injEq,Prod.mk.injEq]at h
    obtain⟨rfl,rfl,rfl⟩:=h
    refine⟨up (ACall.of_body hmix hf hname hb hc hr (h1 _ ⟨hx,_,_,.refl _ _ _,r0,hr0,.inr ⟨H.length,H,_,Nat.le_refl _,⟨rfl,λk y hk=>.inl ⟨?_,hk⟩⟩,.refl _,rfl,rfl⟩⟩)),.refl _ _,Nat.le_refl _,h0⟩
    have hlt:k<H.length:=(List.getElem?_eq_some_iff.1 hk).1
    rw[h3.2 k (by omega) hlt];exact hk
   ·simp only[Option.some.injEq,Prod.mk.injEq]at h
    obtain⟨rfl,rfl,rfl⟩:=h
    exact⟨up (ACall.of_body hmix hf hname hb hc hr (h1 _ ⟨hx,_,_,.refl _ _ _,r0,hr0,.inl ⟨rfl,rfl⟩⟩)),h3,h2,h4⟩
def EntryOk (P:Program) (f:FuncId) (af:AF):Prop:=∃ fn c,P.funcs[f]?=some fn/\fn.name≠ "runtime.NumGoroutine"/\fn.body=some c/\comp P c=some af.body/\compRes P fn=some af.res/\af.ntmps=fn.ntmps
end Go.PE
