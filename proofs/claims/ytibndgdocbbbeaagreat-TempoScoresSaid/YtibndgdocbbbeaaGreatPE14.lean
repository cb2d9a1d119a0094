/- A part of the proof. -/
import Derived.Test.YtibndgdocbbbeaaGreatPE13
import Derived.OwnWalkIn
import Derived.TacticsIn
import Derived.OrdersIn
import Derived.RangeFuncIn
import Derived.RangeFuncRecord
import Derived.RangeFuncLeaves
set_option linter.all false
namespace Go.PE
open Go.RowKit
abbrev FF (ro:Option Nat):Fence:={ Fence.wide with round:=ro }
theorem calls_FF {P:Program} {ro:Option Nat} {n:Nat} {f:FuncId} {args:Array Value} {w:World} {R:Ending->World->Prop} (h:Calls P f args w R):CallsIn (FF ro) n P f args w R:=
 callsIn_wide (n:=n).2 h
theorem sem_FF {ro:Option Nat} {P:Program} {ρ:Operand->Value} {o:Oper} {ao:AOp} (hc:Xo P o.op=some ao):o.semAt (FF ro).round ρ=execOp ρ o:=
 Oper.semAt_plain (FF ro) ρ o λc e=>by rw[e]at hc;simp[Xo]at hc
def Enters (P:Program) (f:FuncId):Prop:=∃ fn,P.funcs[f]?=some fn/\fn.name≠ "runtime.NumGoroutine"/\fn.body.isSome=true
def ACall (P:Program) (f:FuncId) (args:List PV) (H:List Blk) (Q:PV->List Blk->Prop):Prop:=
 Enters P f/\∀ (g:Gh) (w:World) (vs:Array Value),Inv g H w->LR g args vs->
  Calls P f vs w λe w'=>∃ v r H' g',e=.returned v/\Q r H'/\Step H.length g w g' w'/\H.length<=H'.length/\Inv g' H' w'/\RV g' r v
theorem ACall.mono {P:Program} {f:FuncId} {args:List PV} {H:List Blk} {Q Q':PV->List Blk->Prop} (h:ACall P f args H Q) (hq:∀ r H',Q r H'->Q' r H'):ACall P f args H Q':=
 ⟨h.1,λg w vs a b=>(h.2 g w vs a b).mono λ_ _ ⟨v,r,H',g',h1,h2,h3⟩=>⟨v,r,H',g',h1,hq _ _ h2,h3⟩⟩
def ECall (P:Program) (f:FuncId) (args:List PV) (H:List Blk) (Q:PV->List Blk->Prop):Prop:=
 ∀ (g:Gh) (w:World) (vs:Array Value),LR g args vs->∃ v r,(callFunc f vs).run P w=.ok (.value v) w/\Q r H/\RV g r v
def XCall (P:Program) (f:FuncId) (args:List PV) (H:List Blk) (Q:PV->List Blk->Prop):Prop:=ACall P f args H Q\/ECall P f args H Q
theorem XCall.mono {P:Program} {f:FuncId} {args:List PV} {H:List Blk} {Q Q':PV->List Blk->Prop} (h:XCall P f args H Q) (hq:∀ r H',Q r H'->Q' r H'):XCall P f args H Q':=
 h.imp (λh=>h.mono hq) λh g w vs a=>let ⟨v,r,h1,h2,h3⟩:=h g w vs a;⟨v,r,h1,hq _ _ h2,h3⟩
def ARound (P:Program) (k:Nat) (args:List PV) (H:List Blk) (Q:PV->List Blk->Prop):Prop:=
 ∀ (g:Gh) (w:World) (vs:Array Value) (l:Nat),Inv g H w->LR g args vs->g.B k=some l->∃ r:Loop,w.heap[l]?=some (.loop r)/\vs.size=r.params.size/\
  RoundIn (FF none) 0 P l r.fn ((r.params.zip vs).foldl (λtmps (t,a)=>tmps.setIfInBounds t a) r.tmps) r.assign r.body w
   λe w'=>∃ v r H' g',e=.returned v/\Q r H'/\Step H.length g w g' w'/\H.length<=H'.length/\Inv g' H' w'/\RV g' r v
theorem ARound.mono {P:Program} {k:Nat} {args:List PV} {H:List Blk} {Q Q':PV->List Blk->Prop} (h:ARound P k args H Q) (hq:∀ r H',Q r H'->Q' r H'):ARound P k args H Q':=
 λg w vs l a b c=>let ⟨r,h1,h2,h3⟩:=h g w vs l a b c;⟨r,h1,h2,h3.mono λ_ _ ⟨v,r,H',g',h1,h2,h3⟩=>⟨v,r,H',g',h1,hq _ _ h2,h3⟩⟩
theorem room_FF {ro:Option Nat} (m:Nat):(FF ro).room m:=λd hd=>by cases hd
theorem round_FF {P:Program} {ro:Option Nat} {n l:Nat} {f:FuncId} {tmps:Array Value} {assign body:Code} {w:World} {R:Ending->World->Prop} (h:RoundIn (FF none) 0 P l f tmps assign body w R):RoundIn (FF ro) n P l f tmps assign body w R:=
 ⟨trivial,λc cs _=>h.2 c cs (room_FF _)⟩
inductive Ex where
 |normal
 |exit (id:Nat)
 |ret
 deriving DecidableEq,Repr
def putE (env:List PV) (d:Option Nat) (p:PV):List PV:=
 match d with
 |some d=>env.set d p
 |none=>env
def AStep (P:Program) (op:AOp) (env:List PV) (H:List Blk) (K:PV->List Blk->Prop):Prop:=
 match op with
 |.call f args=>match f.ev env with
  |.fn (.func n) first cap=>XCall P n (first++args.map (·.ev env)++cap) H K
  |.yl k=>ARound P k (args.map (·.ev env)) H K
  |_=>False
 |op=>match aop env H op with
  |some (p,H')=>K p H'
  |none=>False
def AOps (P:Program):List AI->List PV->List Blk->(List PV->List Blk->Prop)->Prop
 |[],env,H,K=>K env H
 |i::rest,env,H,K=>
  match i.guard with
  |none=>AStep P i.op env H λp H'=>AOps P rest (putE env i.dst p) H' K
  |some (d,b)=>match (env[d]?).getD .any with
   |.sc (.bool t)=>if t=b then AStep P i.op env H λp H'=>AOps P rest (putE env i.dst p) H' K else AOps P rest (putE env i.dst (.tup [])) H K
   |.tup []=>AOps P rest (putE env i.dst (.tup [])) H K
   |_=>False
def DOk (g:Gh) (w0 w:World) (ds:List Deferred):Prop:=
 ∃ bs:List Nat,bs.Nodup/\ds=bs.map (λb=>({ target:=.collected b,args:=#[] }:Deferred))/\∀ b∈bs,w0.heap.size<=b/\b<w.heap.size/\g.O b=none/\w.heap[b]?=some (.deferred (some []))
theorem DOk.nil (g:Gh) (w0 w:World):DOk g w0 w []:=⟨[],List.nodup_nil,rfl,λb h=>by cases h⟩
theorem DOk.step {g g':Gh} {w0 w w':World} {ds:List Deferred} {n:Nat} (h:DOk g w0 w ds) (hS:Step n g w g' w'):DOk g' w0 w' ds:=by
 obtain⟨bs,h1,h2,h3⟩:=h
 refine⟨bs,h1,h2,λb hb=>?_⟩
 obtain⟨k1,k2,k3,k4⟩:=h3 b hb
 exact⟨k1,Nat.lt_of_lt_of_le k2 hS.size,hS.none k2 k3,(hS.block b k2 k3).trans k4⟩
structure At (g0:Gh) (H0:List Blk) (w0:World) (env:List PV) (H:List Blk) (a:Act) (w:World) (g:Gh):Prop where
 step:Step H0.length g0 w0 g w
 inv:Inv g H w
 env:LR g env a.tmps
 defers:DOk g w0 w a.defers
 len:H0.length<=H.length
def Lift (g0:Gh) (H0:List Blk) (w0:World) (Q:Ex->List PV->List Blk->Prop):Exit->Act->World->Prop
 |.normal,a,w=>∃ env H g,Q .normal env H/\At g0 H0 w0 env H a w g
 |.exit id,a,w=>∃ env H g,Q (.exit id) env H/\At g0 H0 w0 env H a w g
 |.ret,a,w=>∃ env H g,Q .ret env H/\At g0 H0 w0 env H a w g
 |_,_,_=>False
theorem put_sound {g:Gh} {env:List PV} {a:Act} (hE:LR g env a.tmps) (d:Option Nat) {p:PV} {v:Value} (h:RV g p v):LR g (putE env d p) (a.put d v).tmps:=by
 cases d with
 |none=>exact hE
 |some d=>
  refine⟨by simp[putE,Act.put,hE.1],λi q u hq hu=>?_⟩
  simp only[putE,List.getElem?_set]at hq
  simp only[Act.put,Array.getElem?_setIfInBounds]at hu
  by_cases hi:d=i
  ·rw[if_pos hi]at hq hu
   split at hq
   ·rename_i h1
    rw[if_pos (by rw[<-hE.1];exact h1)]at hu
    cases hq;cases hu;exact h
   ·cases hq
  ·rw[if_neg hi]at hq hu
   exact hE.2 i q u hq hu
theorem put_defers (a:Act) (d:Option Nat) (v:Value):(a.put d v).defers=a.defers:=by cases d<;>rfl
theorem Qx {H H':List Blk} {size bytes j n z:Nat} {xp p:PV} (h:appendT H size bytes j n z xp=some (p,H')):∃ n s cs,H'=H.set j (.tgrow n s cs):=by
 unfold appendT at h
 (repeat' split at h)<;>simp only[Option.some.injEq,Prod.mk.injEq,reduceCtorEq]at h
 exact⟨_,_,_,h.2.symm⟩
theorem Uc {H H':List Blk} {size bytes:Nat} {sp xp p:PV} (h:Vx H size bytes sp xp=some (p,H')):H'=H\/∃ cs,H'=H++[.cells cs]:=by
 unfold Vx at h
 (repeat' split at h)<;>simp only[Option.some.injEq,Prod.mk.injEq,reduceCtorEq]at h
 all_goals first|exact .inl h.2.symm|exact .inr ⟨_,h.2.symm⟩
theorem appendT_len {H H':List Blk} {size bytes j n z:Nat} {xp p:PV} (h:appendT H size bytes j n z xp=some (p,H')):H.length<=H'.length:=by
 obtain⟨_,_,_,rfl⟩:=Qx h;simp
theorem appendQ0_len {H H':List Blk} {size bytes:Nat} {sp xp p:PV} (h:Vx H size bytes sp xp=some (p,H')):H.length<=H'.length:=by
 rcases Uc h with rfl|⟨_,rfl⟩<;>simp
theorem aop_len {env:List PV} {H H':List Blk} {ao:AOp} {p:PV} (h:aop env H ao=some (p,H')):H.length<=H'.length:=by
 cases ao<;>simp only[aop,Wj,appendQ]at h<;>(repeat' split at h)<;>try simp only[Option.map_eq_some_iff,Option.some.injEq,Prod.mk.injEq,reduceCtorEq]at h
 all_goals first|exact appendT_len h|exact appendQ0_len h|(obtain⟨_,rfl⟩:=h;simp;done)|(obtain⟨_,_,_,rfl⟩:=h;simp;done)
theorem call_form {P:Program} {op:Op} {f':Opd} {args:List Opd} (hc:Xo P op=some (.call f' args)):∃ c f,op=.call c/\c.callee=.value f/\Xk f=some f'/\Vp c.args.toList=some args:=by
 cases op with
 |call c=>
  simp only[Xo]at hc
  unfold compCall at hc
  split at hc
  ·rename_i f hf
   simp[Option.bind_eq_some_iff]at hc
   exact⟨c,f,rfl,hf,hc.1,hc.2⟩
  all_goals
   exfalso
   (repeat' split at hc)<;>simp[Option.bind_eq_some_iff,Option.map_eq_some_iff]at hc
 |_=>
  exfalso
  simp only[Xo]at hc
  (repeat' split at hc)<;>(try simp[Option.bind_eq_some_iff,Option.map_eq_some_iff]at hc)
  all_goals (rename_i heq;cases heq)
section
variable {P:Program} {g0:Gh} {H0:List Blk} {w0:World} {ro:Option Nat} {nn:Nat}
theorem call_sound {g:Gh} {H:List Blk} {env:List PV} {a:Act} {w:World} {o:Oper} {c:Call} (ho:o.op=.call c) {f:Operand} (hf:c.callee=.value f) {f':Opd} {args:List Opd} (h1:Xk f=some f') (h2:Vp c.args.toList=some args)
  (hE:LR g env a.tmps) (hI:Inv g H w) {K:PV->List Blk->Prop} (h:AStep P (.call f' args) env H K) {next:Act->World->Prop} {Q:Exit->Act->World->Prop}
  (hn:∀ (v:Value) (p:PV) (H':List Blk) (w':World) (g':Gh),K p H'->RV g' p v->Step H.length g w g' w'->H.length<=H'.length->Inv g' H' w'->next (a.put o.dst v) w'):o.wpIn (FF ro) nn P a w next Q:=by
 have hv:=Xj hE h1
 have hL:=Zo hE h2
 simp only[AStep]at h
 split at h
 case h_3=>exact h.elim
 case h_2=>
  rename_i k e
  rw[e]at hv
  generalize hx:a.eval f=u at hv
  cases hv with
  |@yl _ b hb=>
   have e1:(c.args.toList.map a.eval).toArray=c.args.map a.eval:=by apply Array.ext';simp
   rw[e1]at hL
   obtain⟨r,h3,h4,h5⟩:=h g w _ b hI hL hb
   have hrun:(execOp a.eval o).run P w=.ok (.round b r.fn ((r.params.zip (c.args.map a.eval)).foldl (λtmps (t,a)=>tmps.setIfInBounds t a) r.tmps) r.assign r.body) w:=by
    have:=run_yield (P:=P) h3 h4
    simp[execOp,ho,resolve,hf,hx,Deferred.ofValue,invoke,this]
   refine⟨λ_ _=>trivial,?_⟩
   rw[Oper.semAt_plain (FF ro) _ _ (λc' e=>by rw[ho]at e;cases e),hrun,Oper.uponIn_round]
   refine⟨λe=>(by cases e),round_FF (h5.mono ?_)⟩
   rintro e w' ⟨v,r,H',g',rfl,hq,hS,hl,hI2,hr⟩
   exact hn v r H' w' g' hq hr hS hl hI2
 rename_i n first cap e
 rw[e]at hv
 generalize hx:a.eval f=u at hv
 cases hv with
 |@fn _ _ _ us cs hn1 hm k1 k2=>
  have hargs:LR g (first++args.map (·.ev env)++cap) (us++c.args.map a.eval++cs):=by
   have e1:(c.args.toList.map a.eval).toArray=c.args.map a.eval:=by apply Array.ext';simp
   rw[e1]at hL
   exact(LR.append ⟨hn1,k1⟩ hL).append ⟨hm,k2⟩
  rcases h with h|h
  case inr=>
   obtain⟨v,r,h3,h4,h5⟩:=h g w _ hargs
   have hrun:(execOp a.eval o).run P w=.ok (.value v) w:=by
    rw[Array.append_assoc]at h3
    simp[execOp,ho,resolve,hf,hx,Deferred.ofValue,invoke,h3]
   refine⟨λ_ _=>trivial,?_⟩
   rw[Oper.semAt_plain (FF ro) _ _ (λc' e=>by rw[ho]at e;cases e),hrun,Oper.uponIn_value]
   exact hn v r H w g h4 h5 (.refl _ _ _) (Nat.le_refl _) hI
  obtain⟨⟨fn,hfn,hname,hbody⟩,hcall⟩:=h
  have hrun:(execOp a.eval o).run P w=.ok (.enter n (us++c.args.map a.eval++cs)) w:=by
   have hb:fn.body≠none:=by intro e;rw[e]at hbody;cases hbody
   simp[execOp,ho,resolve,hf,hx,Deferred.ofValue,invoke,callFunc,hfn,hname,hb]
  refine⟨λ_ _=>trivial,?_⟩
  rw[Oper.semAt_plain (FF ro) _ _ (λc' e=>by rw[ho]at e;cases e),hrun,Oper.uponIn_enter]
  refine⟨λe=>(by cases e),calls_FF ((hcall g w _ hI hargs).mono ?_)⟩
  rintro e w' ⟨v,r,H',g',rfl,hq,hS,hl,hI2,hr⟩
  exact hn v r H' w' g' hq hr hS hl hI2
theorem step_sound {g:Gh} {H:List Blk} {env:List PV} {a:Act} {w:World} {o:Oper} {ao:AOp} (hc:Xo P o.op=some ao) (hE:LR g env a.tmps) (hI:Inv g H w) {K:PV->List Blk->Prop} (h:AStep P ao env H K) {next:Act->World->Prop} {Q:Exit->Act->World->Prop}
  (hn:∀ (v:Value) (p:PV) (H':List Blk) (w':World) (g':Gh),K p H'->RV g' p v->Step H.length g w g' w'->H.length<=H'.length->Inv g' H' w'->next (a.put o.dst v) w'):o.wpIn (FF ro) nn P a w next Q:=by
 have plain:(∀ f args,ao≠.call f args)->o.wpIn (FF ro) nn P a w next Q:=λhne=>by
  have h:match aop env H ao with|some (p,H')=>K p H'|none=>False:=by
   unfold AStep at h
   split at h
   ·exact absurd rfl (hne _ _)
   ·exact h
  split at h
  case h_2=>exact h.elim
  rename_i p H' hp
  obtain⟨v,w',g',h1,h2,h3,h4⟩:=aop_sound hI hE hc hp
  have hlen:H.length<=H'.length:=aop_len hp
  refine⟨λ_ _=>trivial,?_⟩
  rw[sem_FF hc]
  rcases h1 with h1|⟨h1,rfl⟩
  ·rw[h1,Oper.uponIn_value];exact hn v p H' w' g' h h4 h2 hlen h3
  ·rw[h1,Oper.uponIn_skip];exact hn undef p H' w' g' h h4 h2 hlen h3
 by_cases hcall:∃ f args,ao=.call f args
 ·obtain⟨f',args,rfl⟩:=hcall
  obtain⟨c,f,ho,hf,h1,h2⟩:∃ c f,o.op=.call c/\c.callee=.value f/\Xk f=some f'/\Vp c.args.toList=some args:=call_form hc
  exact call_sound ho hf h1 h2 hE hI h hn
 ·exact plain λf args e=>hcall ⟨f,args,e⟩
theorem compI_bad {op:Op} {ao:AOp} (h:(Xo P op).getD .bad=ao):Xo P op=some ao\/ao=.bad:=by
 cases hc:Xo P op with
 |none=>rw[hc]at h;exact .inr h.symm
 |some a=>rw[hc]at h;exact .inl (by rw[<-h];rfl)
theorem AStep_bad {env:List PV} {H:List Blk} {K:PV->List Blk->Prop} (h:AStep P .bad env H K):False:=by simp[AStep,aop]at h
theorem ops_sound {ops:Array Oper} {Q:Exit->Act->World->Prop} {K:List PV->List Blk->Prop} (hQ:∀ env H a w g,K env H->At g0 H0 w0 env H a w g->Q .normal a w):
  ∀ (l:List Oper) (ais:List AI),l.mapM (compI P ops)=some ais->∀ {g:Gh} {H:List Blk} {env:List PV} {a:Act} {w:World},At g0 H0 w0 env H a w g->AOps P ais env H K->wpListIn (FF ro) nn P ops Q l a w
 |[],ais,hc,g,H,env,a,w,hA,h=>by
  simp at hc
  subst hc
  exact hQ env H a w g h hA
 |o::l,ais,hc,g,H,env,a,w,hA,h=>by
  rw[List.mapM_cons]at hc
  simp only[Option.bind_eq_bind,Option.bind_eq_some_iff,Option.pure_def,Option.some.injEq]at hc
  obtain⟨i,hi,rest,hrest,rfl⟩:=hc
  have ih:=λ{g:Gh} {H:List Blk} {env:List PV} {a:Act} {w:World}=>ops_sound hQ l rest hrest (g:=g) (H:=H) (env:=env) (a:=a) (w:=w)
  have hnext:∀ (v:Value) (p:PV) (H':List Blk) (w':World) (g':Gh),AOps P rest (putE env i.dst p) H' K->i.dst=o.dst->RV g' p v->Step H.length g w g' w'->H.length<=H'.length->Inv g' H' w'->wpListIn (FF ro) nn P ops Q l (a.put o.dst v) w':=λv p H' w' g' hk hd hr hS hl hI'=>by
   refine ih ⟨hA.step.trans hS hA.len,hI',?_,by rw[put_defers];exact hA.defers.step hS,Nat.le_trans hA.len hl⟩ (hd▸hk)
   exact put_sound (hA.env.mono hS.le) o.dst hr
  simp only[compI,Option.bind_eq_bind]at hi
  obtain⟨ao,hao0⟩:∃ ao,(Xo P o.op).getD .bad=ao:=⟨_,rfl⟩
  rw[hao0]at hi
  have hao1:=compI_bad hao0
  unfold wpListIn
  cases hg:o.guard with
  |none=>
   rw[hg]at hi
   simp only[Option.pure_def,Option.some.injEq]at hi
   subst hi
   rw[if_pos (by simp[Region.wanted,hg])]
   simp only[AOps]at h
   rcases hao1 with hao|rfl
   case inr=>exact(AStep_bad h).elim
   exact(step_sound hao hA.env hA.inv h λv p H' w' g' hk hr hS hl hI'=>hnext v p H' w' g' hk rfl hr hS hl hI')
  |some jb=>
   obtain⟨j,b⟩:=jb
   rw[hg]at hi
   simp only[Option.bind_eq_some_iff,Option.pure_def,Option.some.injEq]at hi
   obtain⟨d,hd,rfl⟩:=hi
   simp only[AOps]at h
   split at h
   case h_3=>exact h.elim
   case h_2=>
    rename_i ht
    have hy:yielded ops a.tmps j=none:=by
     have h1:env[d]?=some (.tup []):=by
      cases he:env[d]? with
      |none=>simp[he]at ht
      |some p=>simp[he]at ht;rw[ht]
     have hlt:d<a.tmps.size:=hA.env.1▸(List.getElem?_eq_some_iff.1 h1).1
     have h2:=hA.env.2 d _ _ h1 (Array.getElem?_eq_getElem hlt)
     obtain⟨oj,hoj,hdj⟩:=hd
     generalize hu:a.tmps[d]=u at h2
     cases h2 with
     |tup hn _=>
      have h3:a.tmps[d]?=some _:=(Array.getElem?_eq_getElem hlt).trans (congrArg some hu)
      simp[yielded,hoj,hdj,h3]
    rw[if_neg (by simp[Region.wanted,hg,hy])]
    refine⟨λ_ _=>trivial,?_⟩
    exact hnext undef (.tup []) H w g h rfl (.tup rfl (λi q u hq _=>by simp at hq)) (.refl _ _ _) (Nat.le_refl _) hA.inv
   rename_i t ht
   have hy:yielded ops a.tmps j=some t:=by
    have h1:env[d]?=some (.sc (.bool t)):=by
     cases he:env[d]? with
     |none=>simp[he]at ht
     |some p=>simp[he]at ht;rw[ht]
    have hlt:d<a.tmps.size:=hA.env.1▸(List.getElem?_eq_some_iff.1 h1).1
    have h2:=(Yr (hA.env.2 d _ _ h1 (Array.getElem?_eq_getElem hlt))).1
    obtain⟨oj,hoj,hdj⟩:=hd
    have h3:a.tmps[d]?=some (.bool t):=by rw[Array.getElem?_eq_getElem hlt,h2]
    simp[yielded,hoj,hdj,h3]
   by_cases htb:t=b
   ·rw[if_pos (by simp[Region.wanted,hg,hy,htb])]
    rw[if_pos htb]at h
    rcases hao1 with hao|rfl
    case inr=>exact(AStep_bad h).elim
    exact(step_sound hao hA.env hA.inv h λv p H' w' g' hk hr hS hl hI'=>hnext v p H' w' g' hk rfl hr hS hl hI')
   ·rw[if_neg (by simp[Region.wanted,hg,hy,htb])]
    rw[if_neg htb]at h
    refine⟨λ_ _=>trivial,?_⟩
    exact hnext undef (.tup []) H w g h rfl (.tup rfl (λi q u hq _=>by simp at hq)) (.refl _ _ _) (Nat.le_refl _) hA.inv
end
end Go.PE
