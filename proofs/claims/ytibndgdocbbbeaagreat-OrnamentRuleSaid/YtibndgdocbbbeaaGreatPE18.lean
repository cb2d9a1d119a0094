/- A part of the proof. -/
import Derived.Test.YtibndgdocbbbeaaGreatPE17
set_option linter.all false
namespace Go.PE
open Go.RowKit
structure AF where
 ntmps:Nat
 body:AC
 res:List RP
 deriving Inhabited
def loOf (op:AOp) (env:List PV) (H:List Blk):Nat:=
 match op with
 |.store _ a _=>match a.ev env with|.bp k _=>k|_=>0
 |.mapUp _ _ m _ _=>match m.ev env with|.mp k=>k|_=>0
 |.nextM x=>match x.ev env with|.bp k _=>k|_=>0
 |.append _ _ s _=>match s.ev env with|.sl _ (.own j) _ _=>j|_=>H.length
 |_=>H.length
def Same (lo:Nat) (H H':List Blk):Prop:=H.length<=H'.length/\∀ k,k<lo->k<H.length->H'[k]?=H[k]?
theorem Same.refl (lo:Nat) (H:List Blk):Same lo H H:=⟨Nat.le_refl _,λ_ _ _=>rfl⟩
theorem Same.app (lo:Nat) (H X:List Blk):Same lo H (H++X):=⟨by simp,λk _ hl=>List.getElem?_append_left hl⟩
theorem Same.set {lo:Nat} (H:List Blk) {k:Nat} (x:Blk) (h:lo<=k):Same lo H (H.set k x):=⟨by simp,λi hi _=>by rw[List.getElem?_set_ne (by omega)]⟩
theorem view_own {H:List Blk} {p:PV} {nl:Bool} {j s:Nat} {es:List (List PV)} (h:Zm H p=some (nl,.own j,s,es)):p=.sl nl (.own j) s es:=by
 unfold Zm at h
 (repeat' split at h)<;>simp only[Option.some.injEq,Prod.mk.injEq,reduceCtorEq]at h
 ·obtain⟨rfl,rfl,rfl,rfl⟩:=h;rfl
 all_goals exact h.2.1.elim
theorem aop_same {op:AOp} {env:List PV} {H H':List Blk} {p:PV} (h:aop env H op=some (p,H')):Same (loOf op env H) H H':=by
 cases op<;>simp only[aop,Zs,appendQ,loOf]at h ⊢<;>(repeat' split at h)<;>simp only[Option.map_eq_some_iff,Option.some.injEq,Prod.mk.injEq,reduceCtorEq]at h
 all_goals first
  |(obtain⟨_,rfl⟩:=h;first|exact .refl _ _|exact .app _ _ _|(simp_all only;exact Same.set _ _ (Nat.le_refl _))|(rename_i hv _ _ _ _ _ _;rw[view_own hv];exact Same.set _ _ (Nat.le_refl _)))
  |(obtain⟨_,_,_,rfl⟩:=h;exact .refl _ _)
inductive Tgt where
 |fn (f:FuncId) (rg:Bool)
 |rd (k:Nat)
abbrev Caller:=Bool->Tgt->List PV->List Blk->Option (PV×List Blk×Nat)
def evStep (call:Caller) (cut:Bool) (op:AOp) (env:List PV) (H:List Blk):Option (PV×List Blk×Nat):=
 match op with
 |.call f args=>match f.ev env with
  |.fn (.func n) first cap=>call cut (.fn n false) (first++args.map (·.ev env)++cap) H
  |.yl k=>call cut (.rd k) (args.map (·.ev env)) H
  |_=>none
 |op=>match aop env H op with
  |some (p,H')=>some (p,H',loOf op env H)
  |none=>none
def evOps (call:Caller):List AI->List PV->List Blk->Nat->Option (List PV×List Blk×Nat)
 |[],env,H,lo=>some (env,H,lo)
 |i::rest,env,H,lo=>
  match i.guard with
  |none=>match evStep call false i.op env H with
   |some (p,H',lo')=>evOps call rest (putE env i.dst p) H' (min lo lo')
   |none=>none
  |some (d,b)=>match (env[d]?).getD .any with
   |.sc (.bool t)=>if t=b then
     match evStep call false i.op env H with
     |some (p,H',lo')=>evOps call rest (putE env i.dst p) H' (min lo lo')
     |none=>none
    else evOps call rest (putE env i.dst (.tup [])) H lo
   |.tup []=>evOps call rest (putE env i.dst (.tup [])) H lo
   |_=>none
def evD (call:Caller) (base:Nat) (x:DI) (more:Bool) (env:List PV) (F:List Blk) (c:Nat):Option (PV×List Blk×Nat):=
 match x.ai.op with
 |.alloc _=>some (.bp (base+c) 0,F,F.length)
 |.mkMap=>some (.mp (base+c),F,F.length)
 |.call f args=>match f.ev env with
  |.fn (.func n) first cap=>match call (!x.ord) (.fn n false) (first++args.map (·.ev env)++cap) F with
   |some (r,F',lo)=>if F.length<=lo/\F'.length=F.length then some (r,F,F.length)else if x.ord=true/\F.length<=F'.length/\(more=false\/F.length<=lo)then some (r,F',lo)else none
   |none=>none
  |_=>none
 |op=>if Yo op then match aop env [] op with
   |some (p,[])=>some (p,F,F.length)
   |_=>none
  else match aop env F op with
   |some (p,F')=>if F'.length=F.length then (if F.length<=loOf op env F then some (p,F,F.length)else if x.ord=true/\loOf op env F<base+c then some (p,F',loOf op env F)else none)else if x.ord=true/\(more=false\/F.length<=loOf op env F)then some (p,F',loOf op env F)else none
   |none=>none
def isCallB (op:AOp):Bool:=match op with
 |.call ..=>true
 |_=>false
def mkT (op:AOp) (env:List PV) (b:Nat) (F F':List Blk) (lo:Nat):Tch:=
 ⟨rdE op env b,if F.length<=lo/\F'.length=F.length then none else if isCallB op=false/\F'.length=F.length then some (some lo,F.length)else some (none,min lo F.length)⟩
theorem aop_only {op:AOp} {env:List PV} {H H':List Blk} {p:PV} (h:aop env H op=some (p,H')) (hl:H'.length=H.length):∀ j,j≠loOf op env H->H'[j]?=H[j]?:=by
 cases op<;>simp only[aop,Zs,appendQ,loOf]at h ⊢<;>(repeat' split at h)<;>simp only[Option.map_eq_some_iff,Option.some.injEq,Prod.mk.injEq,reduceCtorEq]at h
 all_goals first
  |(obtain⟨_,rfl⟩:=h;intro j hj;first|rfl|(simp at hl;done)|(simp_all only;rw[List.getElem?_set_ne (λe=>hj e.symm)])|(rename_i hv _ _ _ _ _ _;rw[view_own hv]at hj;rw[List.getElem?_set_ne (λe=>hj e.symm)]))
  |(obtain⟨_,_,_,rfl⟩:=h;intro j hj;rfl)
theorem same_eq {lo:Nat} {H H':List Blk} (h:Same lo H H') (hl:H'.length=H.length) (hlo:H.length<=lo):H'=H:=by
 apply List.ext_getElem?
 intro k
 by_cases hk:k<H.length
 ·exact h.2 k (by omega) hk
 ·rw[List.getElem?_eq_none (by omega),List.getElem?_eq_none (by omega)]
def HOk (P:Program) (H:List Blk):Prop:=∀ (k:Nat) (env:List PV) (ps:Array Nat) (ai bd:AC) (cA cB:Code) (st:LoopState) (pend:Option Code),H[k]?=some (.loop env ps ai bd cA cB st pend)->comp P cA=some ai/\comp P cB=some bd
theorem mkT_ok {op:AOp} {env:List PV} {b lo:Nat} {F F':List Blk} (hs:Same lo F F') (h1:isCallB op=false->F'.length=F.length->∀ k,k≠lo->F'[k]?=F[k]?):TOk op env b F F' (mkT op env b F F' lo):=by
 refine⟨rfl,?_⟩
 simp only[mkT]
 split
 ·rename_i h;exact .inl (same_eq hs h.2 h.1)
 ·split
  ·rename_i h
   exact .inr ⟨_,_,rfl,λk hk _=>h1 h.1 h.2 k (λe=>hk (by rw[e]))⟩
  ·exact .inr ⟨_,_,rfl,λk _ hk=>hs.2 k (by omega) (by omega)⟩
theorem Vg (op:AOp) (env:List PV) (b:Nat) (F:List Blk):TOk op env b F F (mkT op env b F F F.length):=⟨rfl,.inl rfl⟩
def TCall (P:Program):Tgt->List PV->List Blk->(PV->List Blk->Prop)->Prop
 |.fn f true,args,H,Q=>ACall P f args H Q
 |.fn f false,args,H,Q=>XCall P f args H Q
 |.rd k,args,H,Q=>ARound P k args H Q
def CallOk (P:Program) (call:Caller):Prop:=∀ cut t args H r H' lo,HOk P H->call cut t args H=some (r,H',lo)->TCall P t args H (λr' H''=>r'=r/\H''=H')/\Same lo H H'/\lo<=H.length/\HOk P H'
def EntryOk (P:Program) (f:FuncId) (af:AF):Prop:=∃ fn c,P.funcs[f]?=some fn/\fn.name≠ "runtime.NumGoroutine"/\fn.body=some c/\comp P c=some af.body/\compRes P fn=some af.res/\af.ntmps=fn.ntmps
end Go.PE
