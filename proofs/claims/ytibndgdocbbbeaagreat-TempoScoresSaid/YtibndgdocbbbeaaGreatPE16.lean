/- A part of the proof. -/
import Derived.Test.YtibndgdocbbbeaaGreatPE14
import Derived.Orders
import Derived.OrdersIn
set_option linter.all false
namespace Go.PE
open Go.RowKit
def Yn:AOp->Option Blk
 |.alloc z=>some (.cells z)
 |.mkMap=>some (.map [] [] 0)
 |_=>none
def Zg (ts:List Nat) (env:List PV):List PV:=env.mapIdx λi p=>if ts.contains i then p else .any
def DGood (P:Program) (base:Nat) (x:DI) (env:List PV) (F:List Blk) (c:Nat) (p:PV) (F':List Blk):Prop:=
 match x.ai.op with
 |.alloc z=>p=.bp (base+c) 0/\F'=F/\F[base+c]?=some (.cells z)
 |.mkMap=>p=.mp (base+c)/\F'=F/\F[base+c]?=some (.map [] [] 0)
 |.call f args=>AStep P (.call f args) env F (λr' F''=>r'=p/\F''=F')/\(F'=F\/x.ord=true)/\F.length<=F'.length
 |op=>if Yx op then aop env [] op=some (p,[])/\F'=F else aop env F op=some (p,F')/\(F'=F\/x.ord=true)/\F.length<=F'.length
structure Tch where
 rd:Option Nat
 wr:Option (Option Nat×Nat)
def rdE (op:AOp) (env:List PV) (b:Nat):Option Nat:=match op with
 |.load _ a=>match a.ev env with|.bp k _=>some k|.tp k _ _=>some k|_=>none
 |.alloc _=>some b
 |.mkMap=>some b
 |_=>none
def TOk (op:AOp) (env:List PV) (b:Nat) (F F':List Blk) (t:Tch):Prop:=
 t.rd=rdE op env b/\(F'=F\/∃ m n,t.wr=some (m,n)/\∀ k,m≠some k->k<n->F'[k]?=F[k]?)
def sepP (ti tj:Option Tch):Bool:=match ti,tj with
 |some a,some b=>match a.rd,b.wr with
  |some k,some (m,n)=>(m !=some k)&&decide (k<n)
  |_,_=>true
 |_,_=>true
def sepB (l:List DI) (ts:List (Option Tch)):Bool:=l.zipIdx.all λx=>x.1.free.all λj=>sepP ((ts[x.2]?).join) ((ts[j]?).join)
def wantD (x:DI) (env:List PV):Option Bool:=
 match x.ai.guard with
 |none=>some true
 |some (d,b)=>match (env[d]?).getD .any with
  |.sc (.bool t)=>some (t==b)
  |.tup []=>some false
  |_=>none
def cntD (x:DI):Nat:=if (Yn x.ai.op).isSome then 1 else 0
def ADr (P:Program) (base:Nat):List DI->List PV->List Blk->Nat->(List PV->List Blk->List (Option Tch)->Prop)->Prop
 |[],env,F,_,K=>K env F []
 |x::rest,env,F,c,K=>
  match wantD x (Zg x.looks env)with
  |some true=>∃ p F' t,DGood P base x (Zg x.looks env) F c p F'/\TOk x.ai.op (Zg x.looks env) (base+c) F F' t/\ADr P base rest (putE env x.ai.dst p) F' (c+cntD x) (λe f ts=>K e f (some t::ts))
  |some false=>ADr P base rest (putE env x.ai.dst (.tup [])) F (c+cntD x) (λe f ts=>K e f (none::ts))
  |none=>False
theorem pure_any {op:AOp} (hp:Yx op=true) {env:List PV} {p:PV} {H1:List Blk} (h:aop env [] op=some (p,H1)) (H:List Blk):aop env H op=some (p,H):=by
 cases op<;>simp only[Yx,Bool.false_eq_true]at hp<;>simp only[aop]at h ⊢<;>(repeat' split at h)<;>simp_all
 all_goals first
  |(obtain⟨a,h1,h2,_⟩:=h;exact⟨a,h1,h2⟩)
  |(obtain⟨a,h1,h2,_⟩:=h;subst h2;exact h1)
  |(rcases h with ⟨h1,h2,_⟩|⟨h1,h2,_⟩<;>simp[h1,h2];done)
  |(obtain⟨h1,_⟩:=h;rw[<-h1,if_neg (by omega)];done)
  |(intro x hx y hy;rename_i hh;exact(hh x hx).2 y hy)
structure Order (ops:Array Oper) (l:List DI) (anc:Nat->Nat->Prop):Prop where
 S1:∀ i j,anc i j->j<i/\∃ o,ops[i]?=some o/\∃ e∈o.after,Region.binds .any e=true/\(e.on=j\/(e.on<i/\anc e.on j))
 S2:∀ i x,l[i]?=some x->∀ t∈x.looks,∀ j y,j≠i->l[j]?=some y->y.ai.dst=some t->anc i j\/anc j i
 S3:∀ (i:Nat) (x:DI) (j:Nat) (y:DI) (t:Nat),l[i]?=some x->l[j]?=some y->x.ai.dst=some t->y.ai.dst=some t->i=j
 S4:∀ i x,l[i]?=some x->x.ord=true->∀ j y,j≠i->l[j]?=some y->Yx y.ai.op=false->anc i j\/anc j i\/(isRd y.ai.op=true/\i∈y.free)
 S5:∀ t,l.length<=t->t<ops.size->∀ j,j<t->anc t j
 S6:∀ i o,ops[i]?=some o->∀ e∈o.after,Region.binds .any e=true->e.on<i
 len:l.length<=ops.size
def Closed (ops:Array Oper) (listed:Array Bool):Prop:=∀ i o,ops[i]?=some o->listed.getD i false=true->∀ e∈o.after,Region.binds .any e=true->listed.getD e.on false=true
theorem anc_listed {ops:Array Oper} {l:List DI} {anc:Nat->Nat->Prop} (hO:Order ops l anc) {listed:Array Bool} (hc:Closed ops listed):∀ (i:Nat) (o:Oper),ops[i]?=some o->(∀ e∈o.after,Region.binds .any e=true->listed.getD e.on false=true)->∀ j,anc i j->listed.getD j false=true:=by
 intro i
 induction i using Nat.strongRecOn with
 |_ i ih=>
  intro o ho hall j hj
  obtain⟨_,o',ho',e,he,hb,h1⟩:=hO.S1 i j hj
  have:o'=o:=Option.some.inj (ho'.symm.trans ho)
  subst this
  have hon:=hall e he hb
  rcases h1 with rfl|⟨hlt,h2⟩
  ·exact hon
  ·obtain⟨_,o2,ho2,_⟩:=hO.S1 e.on j h2
   exact ih e.on hlt o2 ho2 (hc e.on o2 ho2 hon) j h2
theorem new_at {g:Gh} {F:List Blk} {w:World} (hI:Inv g F w) (k:Nat) (x:Blk) (o:Obj) (hk:F[k]?=some x) (hB:g.B k=none) (hng:∀ n s,x≠.grow n s)
  (hx:∀ g':Gh,g.le g'->g'.B k=some w.heap.size->(∀ q,g'.C w.heap.size q=none)->BOk g' (w.alloc o) k x):
  ∃ g',Step k g w g' (w.alloc o)/\Inv g' F (w.alloc o)/\g'.B k=some w.heap.size/\∀ j,j≠k->g'.B j=g.B j:=by
 have hklt:k<F.length:=(List.getElem?_eq_some_iff.1 hk).1
 let g':Gh:={ g with B:=λj=>if j=k then some w.heap.size else g.B j,O:=λb=>if b=w.heap.size then some k else g.O b }
 have hOn:g.O w.heap.size=none:=by
  cases e:g.O w.heap.size with
  |none=>rfl
  |some j=>have:=hI.lt _ _ e;omega
 have hCn:∀ b q,w.heap.size<=b->g.C b q=none:=λb q hb=>by
  cases e:g.C b q with
  |none=>rfl
  |some v=>
   have:=World.block_lt_of_cell? w _ (hI.C _ _ _ e)
   simp at this
   omega
 have hle:g.le g':=by
  refine⟨λ_ _ _ h=>h,λ_ _ _ h=>h,λj b h=>?_,λb j h=>?_⟩
  ·show(if j=k then _ else _)=_
   rw[if_neg (λe=>by rw[e,hB]at h;cases h)];exact h
  ·show(if b=w.heap.size then _ else _)=_
   rw[if_neg (λe=>by rw[e,hOn]at h;cases h)];exact h
 have hBk:g'.B k=some w.heap.size:=if_pos rfl
 have hBj:∀ j,j≠k->g'.B j=g.B j:=λj hj=>if_neg hj
 refine⟨g',⟨hle,λj hj=>hBj j (by omega),rfl,rfl,rfl,by rw[Yv];omega,λb hb _=>heap_alloc_old w o hb,λb j h=>?_,λ_ _ _ _=>rfl⟩,
  ⟨λb q v h=>cell_alloc o (hI.C b q v h),λj y hy=>?_,λj b h=>?_,λb j h=>?_,λj hj=>?_,λj n hj=>hI.domT j n hj,λb j h=>?_⟩,hBk,hBj⟩
 ·have h:(if b=w.heap.size then some k else g.O b)=some j:=h
  split at h
  ·exact .inr (by omega)
  ·exact .inl h
 ·by_cases hj:j=k
  ·subst hj
   have:y=x:=Option.some.inj (hy.symm.trans hk)
   subst this
   exact hx g' hle hBk (λq=>hCn _ q (Nat.le_refl _))
  ·exact(hI.blk j y hy).alloc hle o (hBj j hj) (λ_=>rfl) (λ_ _ _=>rfl) hI.lt hI.own
 ·have h:(if j=k then some w.heap.size else g.B j)=some b:=h
  show(if b=w.heap.size then some k else g.O b)=some j
  split at h
  ·rename_i e;cases h;rw[if_pos rfl,e]
  ·have ho:=hI.own j b h
   rw[if_neg (λe=>by rw[e,hOn]at ho;cases ho)]
   exact ho
 ·have h:(if b=w.heap.size then some k else g.O b)=some j:=h
  rw[Yv]
  split at h
  ·omega
  ·have:=hI.lt b j h;omega
 ·rw[hBj j (by omega)];exact hI.domB j hj
 ·have h:(if b=w.heap.size then some k else g.O b)=some j:=h
  split at h
  ·cases h;exact hklt
  ·exact hI.domO b j h
theorem holes {g:Gh} {H:List Blk} {w:World} (hI:Inv g H w) (zs:List Blk) (hz:∀ z∈zs,(∃ cs,z=.cells cs)\/∃ kl vs c,z=.map kl vs c):Inv g (H++zs) w:=by
 refine⟨hI.C,λk x hx=>?_,hI.own,hI.lt,λk hk=>hI.domB k (by simp at hk;omega),λk n hk=>hI.domT k n (by simp at hk;omega),λb k h=>by have:=hI.domO b k h;simp;omega⟩
 by_cases hk:k<H.length
 ·rw[List.getElem?_append_left hk]at hx;exact hI.blk k x hx
 ·rw[List.getElem?_append_right (by omega)]at hx
  have hB:=hI.domB k (by omega)
  rcases hz x (List.mem_of_getElem? hx)with ⟨cs,rfl⟩|⟨kl,vs,c,rfl⟩
  ·exact .inl hB
  ·exact .inl hB
structure Course (P:Program) (base:Nat) (l:List DI) (env0:List PV) (F0:List Blk) (K:List PV->List Blk->List (Option Tch)->Prop) (E:Nat->List PV) (Fs:Nat->List Blk) (C:Nat->Nat) (V:Nat->PV) (on:Nat->Bool) (TT:Nat->Option Tch):Prop where
 E0:E 0=env0
 F0:Fs 0=F0
 fin:K (E l.length) (Fs l.length) ((List.range l.length).map TT)
 stE:∀ i x,l[i]?=some x->E (i+1)=putE (E i) x.ai.dst (V i)
 stC:∀ i x,l[i]?=some x->C (i+1)=C i+cntD x
 want:∀ i x,l[i]?=some x->wantD x (Zg x.looks (E i))=some (on i)
 good:∀ i x,l[i]?=some x->on i=true->DGood P base x (Zg x.looks (E i)) (Fs i) (C i) (V i) (Fs (i+1))
 tok:∀ i x,l[i]?=some x->on i=true->∃ t,TT i=some t/\TOk x.ai.op (Zg x.looks (E i)) (base+C i) (Fs i) (Fs (i+1)) t
 off:∀ i x,l[i]?=some x->on i=false->V i=.tup []/\Fs (i+1)=Fs i
theorem ADr_course {P:Program} {base:Nat}:∀ (l:List DI) (env:List PV) (F:List Blk) (c:Nat) (K:List PV->List Blk->List (Option Tch)->Prop),ADr P base l env F c K->∃ E Fs C V on TT,Course P base l env F K E Fs C V on TT/\C 0=c
 |[],env,F,c,K,h=>⟨λ_=>env,λ_=>F,λ_=>c,λ_=>.any,λ_=>true,λ_=>none,⟨rfl,rfl,h,λi x h=>by simp at h,λi x h=>by simp at h,λi x h=>by simp at h,λi x h=>by simp at h,λi x h=>by simp at h,λi x h=>by simp at h⟩,rfl⟩
 |x::l,env,F,c,K,h=>by
  have build:∀ (p:PV) (F':List Blk) (b:Bool) (t:Option Tch),wantD x (Zg x.looks env)=some b->(b=true->DGood P base x (Zg x.looks env) F c p F'/\∃ u,t=some u/\TOk x.ai.op (Zg x.looks env) (base+c) F F' u)->(b=false->p=.tup []/\F'=F)->ADr P base l (putE env x.ai.dst p) F' (c+cntD x) (λe f ts=>K e f (t::ts))->
    ∃ E Fs C V on TT,Course P base (x::l) env F K E Fs C V on TT/\C 0=c:=λp F' b t hw hg ho hr=>by
   obtain⟨E,Fs,C,V,on,TT,hC,hc0⟩:=ADr_course l _ _ _ _ hr
   refine⟨λi=>match i with|0=>env|i+1=>E i,λi=>match i with|0=>F|i+1=>Fs i,λi=>match i with|0=>c|i+1=>C i,λi=>match i with|0=>p|i+1=>V i,λi=>match i with|0=>b|i+1=>on i,λi=>match i with|0=>t|i+1=>TT i,⟨rfl,rfl,?_,λi y hy=>?_,λi y hy=>?_,λi y hy=>?_,λi y hy=>?_,λi y hy=>?_,λi y hy=>?_⟩,rfl⟩
   ·have:=hC.fin
    simp only[List.length_cons,List.range_succ_eq_map,List.map_cons,List.map_map]
    exact this
   ·cases i with
    |zero=>simp at hy;subst hy;exact hC.E0
    |succ i=>exact hC.stE i y (by simpa using hy)
   ·cases i with
    |zero=>simp at hy;subst hy;exact hc0
    |succ i=>exact hC.stC i y (by simpa using hy)
   ·cases i with
    |zero=>simp at hy;subst hy;exact hw
    |succ i=>exact hC.want i y (by simpa using hy)
   ·cases i with
    |zero=>simp at hy;subst hy;intro hb;simp only[hC.F0];exact(hg hb).1
    |succ i=>exact hC.good i y (by simpa using hy)
   ·cases i with
    |zero=>simp at hy;subst hy;intro hb;simp only[hC.F0];exact(hg hb).2
    |succ i=>exact hC.tok i y (by simpa using hy)
   ·cases i with
    |zero=>simp at hy;subst hy;intro hb;simp only[hC.F0];exact ho hb
    |succ i=>exact hC.off i y (by simpa using hy)
  simp only[ADr]at h
  split at h
  ·rename_i hw
   obtain⟨p,F',t,hg,ht,hr⟩:=h
   exact build p F' true (some t) hw (λ_=>⟨hg,t,rfl,ht⟩) (λe=>by cases e) hr
  ·rename_i hw
   exact build _ F false none hw (λe=>by cases e) (λ_=>⟨rfl,rfl⟩) h
  ·exact h.elim
section
variable {P:Program} {base:Nat} {l:List DI} {env0:List PV} {F0:List Blk} {K:List PV->List Blk->List (Option Tch)->Prop} {E:Nat->List PV} {Fs:Nat->List Blk} {C:Nat->Nat} {V:Nat->PV} {on:Nat->Bool} {TT:Nat->Option Tch}
theorem DGood.len {x:DI} {env:List PV} {F F':List Blk} {c:Nat} {p:PV} (h:DGood P base x env F c p F'):F.length<=F'.length:=by
 unfold DGood at h
 split at h
 ·rw[h.2.1];exact Nat.le_refl _
 ·rw[h.2.1];exact Nat.le_refl _
 ·exact h.2.2
 ·split at h
  ·rw[h.2];exact Nat.le_refl _
  ·exact h.2.2
theorem DGood.ord {x:DI} {env:List PV} {F F':List Blk} {c:Nat} {p:PV} (h:DGood P base x env F c p F'):F'=F\/x.ord=true:=by
 unfold DGood at h
 split at h
 ·exact .inl h.2.1
 ·exact .inl h.2.1
 ·exact h.2.1
 ·split at h
  ·exact .inl h.2
  ·exact h.2.1
theorem Course.step (hC:Course P base l env0 F0 K E Fs C V on TT) {i:Nat} {x:DI} (hx:l[i]?=some x):(Fs (i+1)=Fs i\/x.ord=true)/\(Fs i).length<=(Fs (i+1)).length:=by
 cases h:on i with
 |true=>exact⟨(hC.good i x hx h).ord,(hC.good i x hx h).len⟩
 |false=>rw[(hC.off i x hx h).2];exact⟨.inl rfl,Nat.le_refl _⟩
theorem Course.length (hC:Course P base l env0 F0 K E Fs C V on TT):∀ i,i<=l.length->F0.length<=(Fs i).length
 |0,_=>by rw[hC.F0];exact Nat.le_refl _
 |i+1,h=>by
  have hx:=List.getElem?_eq_getElem (show i<l.length by omega)
  exact Nat.le_trans (hC.length i (by omega)) (hC.step hx).2
theorem Course.same (hC:Course P base l env0 F0 K E Fs C V on TT):∀ (d a:Nat),a+d<=l.length->(∀ j,a<=j->j<a+d->Fs (j+1)=Fs j)->Fs (a+d)=Fs a
 |0,a,_,_=>rfl
 |d+1,a,h,hs=>by
  rw[<-Nat.add_assoc,hs (a+d) (by omega) (by omega),hC.same d a (by omega) (λj h1 h2=>hs j h1 (by omega))]
theorem Course.cmono (hC:Course P base l env0 F0 K E Fs C V on TT):∀ (d a:Nat),a+d<=l.length->C a<=C (a+d)
 |0,a,_=>Nat.le_refl _
 |d+1,a,h=>by
  have hx:=List.getElem?_eq_getElem (show a+d<l.length by omega)
  rw[<-Nat.add_assoc,hC.stC (a+d) _ hx]
  have:=hC.cmono d a (by omega)
  omega
theorem putE_len (env:List PV) (d:Option Nat) (p:PV):(putE env d p).length=env.length:=by cases d<;>simp[putE]
theorem Course.elen (hC:Course P base l env0 F0 K E Fs C V on TT):∀ i,i<=l.length->(E i).length=env0.length
 |0,_=>by rw[hC.E0]
 |i+1,h=>by
  have hx:=List.getElem?_eq_getElem (show i<l.length by omega)
  rw[hC.stE i _ hx,putE_len,hC.elen i (by omega)]
theorem Course.slot (hC:Course P base l env0 F0 K E Fs C V on TT) (hS3:∀ (i:Nat) (x:DI) (j:Nat) (y:DI) (t:Nat),l[i]?=some x->l[j]?=some y->x.ai.dst=some t->y.ai.dst=some t->i=j) (t:Nat) (ht:t<env0.length):∀ i,i<=l.length->
  (∀ j y,l[j]?=some y->y.ai.dst=some t->j<i->(E i)[t]?=some (V j))/\((∀ j y,l[j]?=some y->y.ai.dst=some t->¬ j<i)->(E i)[t]?=env0[t]?)
 |0,_=>⟨λj y _ _ h=>by omega,λ_=>by rw[hC.E0]⟩
 |i+1,h=>by
  obtain⟨ih1,ih2⟩:=hC.slot hS3 t ht i (by omega)
  have hx:=List.getElem?_eq_getElem (show i<l.length by omega)
  have hel:=hC.elen i (by omega)
  rw[hC.stE i _ hx]
  by_cases hd:(l[i]).ai.dst=some t
  ·have e:putE (E i) (l[i]).ai.dst (V i)=(E i).set t (V i):=by rw[hd];rfl
   rw[e,List.getElem?_set_self (by omega)]
   refine⟨λj y hy hyd _=>by rw[hS3 j y i _ t hy hx hyd hd],λhno=>absurd (Nat.lt_succ_self i) (hno i _ hx hd)⟩
  ·have e:(putE (E i) (l[i]).ai.dst (V i))[t]?=(E i)[t]?:=by
    cases hdd:(l[i]).ai.dst with
    |none=>rfl
    |some d=>simp only[putE];rw[List.getElem?_set_ne (λh=>hd (by rw[hdd,h]))]
   rw[e]
   refine⟨λj y hy hyd hj=>ih1 j y hy hyd ?_,λhno=>ih2 λj y hy hyd hj=>hno j y hy hyd (by omega)⟩
   rcases Nat.lt_or_ge j i with h1|h1
   ·exact h1
   ·have:j=i:=by omega
    subst this
    have:y=l[j]:=Option.some.inj (hy.symm.trans hx)
    subst this
    exact absurd hyd hd
end
theorem alloc_form {P:Program} {op:Op} {z:List PV} (hc:Xo P op=some (.alloc z)):∃ t,op=.alloc t/\zeroP P t=some z:=by
 cases op with
 |alloc t=>simp only[Xo,Option.map_eq_some_iff]at hc;obtain⟨z',h,e⟩:=hc;cases e;exact⟨t,rfl,h⟩
 |call c=>
  exfalso
  simp only[Xo]at hc
  unfold compCall at hc
  (repeat' split at hc)<;>simp[Option.bind_eq_some_iff,Option.map_eq_some_iff]at hc
 |_=>
  exfalso
  simp only[Xo]at hc
  (repeat' split at hc)<;>(try simp[Option.bind_eq_some_iff,Option.map_eq_some_iff]at hc)
  all_goals (rename_i heq;cases heq)
theorem mkMap_form {P:Program} {op:Op} (hc:Xo P op=some .mkMap):∃ t,op=.makeMap t none:=by
 cases op with
 |makeMap t r=>cases r with
  |none=>exact⟨t,rfl⟩
  |some r=>simp[Xo]at hc
 |call c=>
  exfalso
  simp only[Xo]at hc
  unfold compCall at hc
  (repeat' split at hc)<;>simp[Option.bind_eq_some_iff,Option.map_eq_some_iff]at hc
 |next it b=>
  exfalso
  cases b<;>simp[Xo]at hc
 |_=>
  exfalso
  simp only[Xo]at hc
  (repeat' split at hc)<;>(try simp[Option.bind_eq_some_iff,Option.map_eq_some_iff]at hc)
structure Part (P:Program) (g0:Gh) (H0:List Blk) (w0:World) (base:Nat) (l:List DI) (env0:List PV) (Fs:Nat->List Blk) (C:Nat->Nat) (V:Nat->PV) (D:Nat->Bool) (a:Act) (w:World) (g:Gh) (q:Nat):Prop where
 step:Step H0.length g0 w0 g w
 inv:Inv g (Fs q) w
 defers:DOk g w0 w a.defers
 hq:q<=l.length
 heap:∀ j,j<l.length->Fs (j+1)≠Fs j->(D j=true↔j<q)
 hole:∀ i x,l[i]?=some x->cntD x=1->D i=false->g.B (base+C i)=none
 size:a.tmps.size=env0.length
 done:∀ j y t v,l[j]?=some y->y.ai.dst=some t->D j=true->a.tmps[t]?=some v->RV g (V j) v
 kept:∀ t p v,(∀ j y,l[j]?=some y->y.ai.dst=some t->D j=false)->env0[t]?=some p->a.tmps[t]?=some v->RV g p v
section
variable {P:Program} {g0:Gh} {H0:List Blk} {w0:World} {base:Nat} {l:List DI} {env0:List PV} {F0:List Blk} {K:List PV->List Blk->List (Option Tch)->Prop} {E:Nat->List PV} {Fs:Nat->List Blk} {C:Nat->Nat} {V:Nat->PV} {on:Nat->Bool} {TT:Nat->Option Tch} {ops:Array Oper} {anc:Nat->Nat->Prop} {ro:Option Nat} {nn:Nat}
theorem Part.looks (hO:Order ops l anc) (hC:Course P base l env0 F0 K E Fs C V on TT) {D:Nat->Bool} {a:Act} {w:World} {g:Gh} {q:Nat} (hp:Part P g0 H0 w0 base l env0 Fs C V D a w g q)
  {i:Nat} {x:DI} (hx:l[i]?=some x) (hDi:D i=false) (hanc:∀ j,anc i j->D j=true) (hdesc:∀ j,anc j i->D j=false):LR g (Zg x.looks (E i)) a.tmps:=by
 have hi:i<l.length:=(List.getElem?_eq_some_iff.1 hx).1
 have hel:=hC.elen i (by omega)
 refine⟨by simp[Zg,hel,hp.size],λt p v hpt hv=>?_⟩
 have htl:t<env0.length:=by
  have:=(List.getElem?_eq_some_iff.1 hpt).1
  simpa [Zg,hel] using this
 simp only[Zg,List.getElem?_mapIdx]at hpt
 rw[List.getElem?_eq_getElem (by omega)]at hpt
 simp only[Option.map_some,Option.some.injEq]at hpt
 split at hpt
 case isFalse=>rw[<-hpt];exact .any _
 rename_i htk
 have htk:t∈x.looks:=by simpa using htk
 obtain⟨s1,s2⟩:=hC.slot hO.S3 t htl i (by omega)
 by_cases hw:∃ (j:Nat) (y:DI),l[j]?=some y/\y.ai.dst=some t
 ·obtain⟨j,y,hy,hyd⟩:=hw
  by_cases hji:j<i
  ·have hDj:D j=true:=by
    rcases hO.S2 i x hx t htk j y (by omega) hy hyd with h|h
    ·exact hanc j h
    ·have:=(hO.S1 j i h).1;omega
   have:=s1 j y hy hyd hji
   rw[List.getElem?_eq_getElem (by omega)]at this
   have e:p=V j:=by rw[<-hpt];exact Option.some.inj this
   rw[e]
   exact hp.done j y t v hy hyd hDj hv
  ·have hDj:D j=false:=by
    by_cases hjj:j=i
    ·rw[hjj];exact hDi
    ·rcases hO.S2 i x hx t htk j y hjj hy hyd with h|h
     ·have:=(hO.S1 i j h).1;omega
     ·exact hdesc j h
   have hno:∀ j' y',l[j']?=some y'->y'.ai.dst=some t->j'=j:=λj' y' h1 h2=>hO.S3 j' y' j y t h1 hy h2 hyd
   have:=s2 (λj' y' h1 h2=>by rw[hno j' y' h1 h2];exact hji)
   rw[List.getElem?_eq_getElem (by omega),hpt]at this
   exact hp.kept t p v (λj' y' h1 h2=>by rw[hno j' y' h1 h2];exact hDj) this.symm hv
 ·have:=s2 (λj y h1 h2=>absurd ⟨j,y,h1,h2⟩ hw)
  rw[List.getElem?_eq_getElem (by omega),hpt]at this
  exact hp.kept t p v (λj y h1 h2=>absurd ⟨j,y,h1,h2⟩ hw) this.symm hv
theorem Part.put (hO:Order ops l anc) {D:Nat->Bool} {a:Act} {w w':World} {g g':Gh} {q q':Nat} (hp:Part P g0 H0 w0 base l env0 Fs C V D a w g q) {i:Nat} {x:DI} (hx:l[i]?=some x) {v:Value}
  (hS:Step H0.length g0 w0 g' w') (hle:g.le g') (hI:Inv g' (Fs q') w') (hq:q'<=l.length) (hDf:DOk g' w0 w' a.defers) (hv:RV g' (V i) v) (hheap:∀ j,j<l.length->Fs (j+1)≠Fs j->((D j=true\/j=i)↔j<q'))
  (hB:∀ j y,l[j]?=some y->cntD y=1->D j=false->j≠i->g'.B (base+C j)=none):
  Part P g0 H0 w0 base l env0 Fs C V (λj=>D j||decide (j=i)) (a.put x.ai.dst v) w' g' q':=by
 have hD:∀ j,(D j||decide (j=i))=true↔D j=true\/j=i:=λj=>by simp
 refine⟨hS,hI,by rw[put_defers];exact hDf,hq,λj hj hne=>by rw[hD];exact hheap j hj hne,λj y hy hc hDj=>?_,?_,λj y t u hy hyd hDj hu=>?_,λt p u hno hpt hu=>?_⟩
 ·simp at hDj;exact hB j y hy hc hDj.1 hDj.2
 ·cases hxd:x.ai.dst<;>simp[Act.put,hp.size]
 ·by_cases hji:j=i
  ·subst hji
   have:y=x:=Option.some.inj (hy.symm.trans hx)
   subst this
   rw[hyd]at hu
   simp only[Act.put,Array.getElem?_setIfInBounds,if_pos]at hu
   split at hu
   ·cases hu;exact hv
   ·cases hu
  ·have hne:x.ai.dst≠some t:=λe=>hji (hO.S3 j y i x t hy hx hyd e)
   have hu':a.tmps[t]?=some u:=by
    cases hxd:x.ai.dst with
    |none=>rw[hxd]at hu;exact hu
    |some d=>
     rw[hxd]at hu
     simp only[Act.put]at hu
     rwa [Array.getElem?_setIfInBounds,if_neg (λe=>hne (by rw[hxd,e]))]at hu
   exact(hp.done j y t u hy hyd (((hD j).1 hDj).resolve_right hji) hu').mono hle
 ·have hne:x.ai.dst≠some t:=λe=>by
   have:=hno i x hx e
   simp at this
  have hu':a.tmps[t]?=some u:=by
   cases hxd:x.ai.dst with
   |none=>rw[hxd]at hu;exact hu
   |some d=>
    rw[hxd]at hu
    simp only[Act.put]at hu
    rwa [Array.getElem?_setIfInBounds,if_neg (λe=>hne (by rw[hxd,e]))]at hu
  exact(hp.kept t p u (λj y h1 h2=>by have:=hno j y h1 h2;simp at this;exact this.1) hpt hu').mono hle
theorem Part.at_ (hO:Order ops l anc) (hC:Course P base l env0 F0 K E Fs C V on TT) {D:Nat->Bool} {a:Act} {w:World} {g:Gh} {q:Nat} (hp:Part P g0 H0 w0 base l env0 Fs C V D a w g q)
  {i:Nat} {x:DI} (hx:l[i]?=some x) (hDi:D i=false) (hanc:∀ j,anc i j->D j=true) (hdesc:∀ j,anc j i->D j=false) (hpure:Yx x.ai.op=false) (hrd:isRd x.ai.op=false):
  Fs q=Fs i/\∀ j,j<l.length->Fs (j+1)≠Fs j->j≠i->(D j=true↔j<i):=by
 have hi:i<l.length:=(List.getElem?_eq_some_iff.1 hx).1
 have key:∀ j,j<l.length->Fs (j+1)≠Fs j->j≠i->(D j=true↔j<i):=λj hj hne hji=>by
  have hy:=List.getElem?_eq_getElem hj
  have hord:=(hC.step hy).1.resolve_left hne
  rcases hO.S4 j _ hy hord i x (λe=>hji e.symm) hx hpure with h|h|⟨h,_⟩
  ·have:=(hO.S1 j i h).1
   rw[hdesc j h]
   constructor
   ·intro e;cases e
   ·intro e;omega
  ·have:=(hO.S1 i j h).1
   rw[hanc j h]
   exact⟨λ_=>this,λ_=>rfl⟩
  ·rw[hrd]at h;cases h
 refine⟨?_,key⟩
 rcases Nat.lt_or_ge q i with hqi|hqi
 ·have:=hC.same (i-q) q (by omega) (λj h1 h2=>by
   by_cases hne:Fs (j+1)=Fs j
   ·exact hne
   ·have h3:=(key j (by omega) hne (by omega)).2 (by omega)
    have:=(hp.heap j (by omega) hne).1 h3
    omega)
  rw[<-this];congr 1;omega
 ·have hq:=hp.hq
  have:=hC.same (q-i) i (by omega) (λj h1 h2=>by
   by_cases hne:Fs (j+1)=Fs j
   ·exact hne
   ·have h3:=(hp.heap j (by omega) hne).2 (by omega)
    by_cases hji:j=i
    ·rw[hji,hDi]at h3;cases h3
    ·have:=(key j (by omega) hne hji).1 h3
     omega)
  rw[show q=i+(q-i) by omega,this]
theorem Course.sameAt {k:Nat}:∀ (d a:Nat),(∀ j,a<=j->j<a+d->(Fs (j+1))[k]?=(Fs j)[k]?)->(Fs (a+d))[k]?=(Fs a)[k]?
 |0,a,_=>rfl
 |d+1,a,hs=>by
  rw[<-Nat.add_assoc,hs (a+d) (by omega) (by omega),Course.sameAt d a (λj h1 h2=>hs j h1 (by omega))]
theorem Part.rd_at (hO:Order ops l anc) (hC:Course P base l env0 F0 K E Fs C V on TT) (hsep:sepB l ((List.range l.length).map TT)=true) {D:Nat->Bool} {a:Act} {w:World} {g:Gh} {q:Nat} (hp:Part P g0 H0 w0 base l env0 Fs C V D a w g q)
  {i:Nat} {x:DI} (hx:l[i]?=some x) (hDi:D i=false) (hanc:∀ j,anc i j->D j=true) (hdesc:∀ j,anc j i->D j=false) (hon:on i=true) (hF:Fs (i+1)=Fs i) (hpure:Yx x.ai.op=false) {k:Nat} (hk:rdE x.ai.op (Zg x.looks (E i)) (base+C i)=some k):
  (Fs q)[k]?=(Fs i)[k]?:=by
 have hi:i<l.length:=(List.getElem?_eq_some_iff.1 hx).1
 obtain⟨ti,hti,htr,_⟩:=hC.tok i x hx hon
 have pair:∀ j,j<l.length->¬ anc i j->¬ anc j i->(Fs (j+1))[k]?=(Fs j)[k]?:=λj hj h1 h2=>by
  by_cases hne:Fs (j+1)=Fs j
  ·rw[hne]
  by_cases hji:j=i
  ·subst hji;exact absurd hF hne
  have hy:=List.getElem?_eq_getElem hj
  have hord:=(hC.step hy).1.resolve_left hne
  rcases hO.S4 j _ hy hord i x (λe=>hji e.symm) hx hpure with h|h|⟨_,hm⟩
  ·exact absurd h h2
  ·exact absurd h h1
  have honj:on j=true:=by
   cases h:on j with
   |true=>rfl
   |false=>exact absurd (hC.off j _ hy h).2 hne
  obtain⟨tj,htj,_,hw⟩:=hC.tok j _ hy honj
  obtain⟨m,n,hwr,hall⟩:=hw.resolve_left hne
  unfold sepB at hsep
  rw[List.all_eq_true]at hsep
  have h3:=hsep (x,i) (by rw[List.mem_zipIdx_iff_getElem?];exact hx)
  rw[List.all_eq_true]at h3
  have h4:=h3 j hm
  simp only[List.getElem?_map,List.getElem?_range hi,List.getElem?_range hj,Option.map_some,Option.join_some,hti,htj,sepP,htr,hk,hwr,Bool.and_eq_true,bne_iff_ne,decide_eq_true_eq]at h4
  exact hall k h4.1 h4.2
 rcases Nat.lt_or_ge q i with hqi|hqi
 ·have:=Course.sameAt (Fs:=Fs) (k:=k) (i-q) q (λj h1 h2=>by
   by_cases hne:Fs (j+1)=Fs j
   ·rw[hne]
   refine pair j (by omega) (λh=>?_) (λh=>?_)
   ·have:=(hp.heap j (by omega) hne).1 (hanc j h);omega
   ·have:=(hO.S1 j i h).1;omega)
  rw[show q+(i-q)=i by omega]at this
  exact this.symm
 ·have hq:=hp.hq
  have:=Course.sameAt (Fs:=Fs) (k:=k) (q-i) i (λj h1 h2=>by
   by_cases hne:Fs (j+1)=Fs j
   ·rw[hne]
   have hDj:=(hp.heap j (by omega) hne).2 (by omega)
   refine pair j (by omega) (λh=>?_) (λh=>?_)
   ·have:=(hO.S1 i j h).1;omega
   ·rw[hdesc j h]at hDj;cases hDj)
  rw[show i+(q-i)=q by omega]at this
  exact this
theorem load_at {ag:Option Nat} {y:Opd} {env:List PV} {H H2 H':List Blk} {p:PV} (h:aop env H (.load ag y)=some (p,H')) (hk:∀ k off,y.ev env=.bp k off->H2[k]?=H[k]?) (hk2:∀ k n off,y.ev env=.tp k n off->H2[k]?=H[k]?):aop env H2 (.load ag y)=some (p,H2)/\H'=H:=by
 have pair:∀ (z:Option PV) (A:List Blk),z.map (λq=>(q,A))=some (p,H')->z=some p/\H'=A:=λz A hz=>by
  cases z with
  |none=>cases hz
  |some q=>simp only[Option.map_some,Option.some.injEq,Prod.mk.injEq]at hz;exact⟨by rw[hz.1],hz.2.symm⟩
 simp only[aop]at h ⊢
 cases e:y.ev env with
 |ip cs=>
  rw[e]at h
  obtain⟨h1,h2⟩:=pair _ _ h
  exact⟨by simp only[h1,Option.map_some],h2⟩
 |bp k off=>
  rw[e]at h
  simp only at h ⊢
  rw[hk k off e]
  split at h
  ·obtain⟨h1,h2⟩:=pair _ _ h
   exact⟨by simp only[h1,Option.map_some],h2⟩
  ·cases h
 |tp k n off=>
  rw[e]at h
  simp only at h ⊢
  rw[hk2 k n off e]
  split at h
  ·split at h
   ·rename_i hn
    rw[if_pos hn]
    obtain⟨h1,h2⟩:=pair _ _ h
    exact⟨by simp only[h1,Option.map_some],h2⟩
   ·cases h
  ·cases h
 |_=>rw[e]at h;cases h
theorem Part.run (hO:Order ops l anc) (hops:∀ (i:Nat) (x:DI),l[i]?=some x->∃ o,ops[i]?=some o/\compI P ops o=some x.ai) (hbase:H0.length<=base) (hF:base+C l.length<=F0.length) (hC:Course P base l env0 F0 K E Fs C V on TT) (hsep:sepB l ((List.range l.length).map TT)=true)
  {D:Nat->Bool} {a:Act} {w:World} {g:Gh} {q:Nat} (hp:Part P g0 H0 w0 base l env0 Fs C V D a w g q)
  {i:Nat} {x:DI} (hx:l[i]?=some x) (hDi:D i=false) (hanc:∀ j,anc i j->D j=true) (hdesc:∀ j,anc j i->D j=false)
  {Q:Exit->Act->World->Prop} {next:Act->World->Prop} (hn:∀ a' w' g' q',Part P g0 H0 w0 base l env0 Fs C V (λj=>D j||decide (j=i)) a' w' g' q'->next a' w'):wpOpIn (FF ro) nn P ops Q i next a w:=by
 have hi:i<l.length:=(List.getElem?_eq_some_iff.1 hx).1
 obtain⟨o,ho,hco⟩:=hops i x hx
 have hL:=hp.looks hO hC hx hDi hanc hdesc
 simp only[compI,Option.bind_eq_bind]at hco
 obtain⟨ao,hao0⟩:∃ ao,(Xo P o.op).getD .bad=ao:=⟨_,rfl⟩
 rw[hao0]at hco
 have hao1:=compI_bad hao0
 have hai:x.ai.op=ao/\x.ai.dst=o.dst:=by
  cases hg:o.guard with
  |none=>rw[hg]at hco;simp at hco;rw[<-hco];exact⟨rfl,rfl⟩
  |some jb=>rw[hg]at hco;simp[Option.bind_eq_some_iff]at hco;obtain⟨d,_,hco⟩:=hco;rw[<-hco];exact⟨rfl,rfl⟩
 have hwant:Region.wanted o (yielded ops a.tmps)=on i:=by
  have hw:=hC.want i x hx
  cases hg:o.guard with
  |none=>
   rw[hg]at hco;simp at hco
   unfold wantD at hw
   rw[<-hco]at hw
   simp at hw
   simp[Region.wanted,hg,hw]
  |some jb=>
   obtain⟨j,b⟩:=jb
   rw[hg]at hco
   simp only[Option.bind_eq_some_iff,Option.pure_def,Option.some.injEq]at hco
   obtain⟨d,hd,hco⟩:=hco
   unfold wantD at hw
   rw[<-hco]at hw
   simp only at hw
   split at hw
   case h_3=>cases hw
   case h_2=>
    rename_i ht
    have h1:(Zg x.looks (E i))[d]?=some (.tup []):=by
     cases he:(Zg x.looks (E i))[d]? with
     |none=>simp[he]at ht
     |some p=>simp[he]at ht;rw[ht]
    have hlt:d<a.tmps.size:=hL.1▸(List.getElem?_eq_some_iff.1 h1).1
    have h2:=hL.2 d _ _ h1 (Array.getElem?_eq_getElem hlt)
    obtain⟨oj,hoj,hdj⟩:=hd
    have hy:yielded ops a.tmps j=none:=by
     generalize hu:a.tmps[d]=u at h2
     cases h2 with
     |tup hn _=>
      have h3:a.tmps[d]?=some _:=(Array.getElem?_eq_getElem hlt).trans (congrArg some hu)
      simp[yielded,hoj,hdj,h3]
    simp only[Option.some.injEq]at hw
    simp[Region.wanted,hg,hy,<-hw]
   rename_i t ht
   have h1:(Zg x.looks (E i))[d]?=some (.sc (.bool t)):=by
    cases he:(Zg x.looks (E i))[d]? with
    |none=>simp[he]at ht
    |some p=>simp[he]at ht;rw[ht]
   have hlt:d<a.tmps.size:=hL.1▸(List.getElem?_eq_some_iff.1 h1).1
   have h2:=(Yr (hL.2 d _ _ h1 (Array.getElem?_eq_getElem hlt))).1
   obtain⟨oj,hoj,hdj⟩:=hd
   have h3:a.tmps[d]?=some (.bool t):=by rw[Array.getElem?_eq_getElem hlt,h2]
   have hy:yielded ops a.tmps j=some t:=by simp[yielded,hoj,hdj,h3]
   simp only[Option.some.injEq]at hw
   simp[Region.wanted,hg,hy,<-hw]
 unfold wpOpIn
 simp only[ho]
 rw[hwant]
 cases hon:on i with
 |false=>
  rw[if_neg (by simp)]
  refine⟨λ_ _=>trivial,?_⟩
  obtain⟨hV,hF⟩:=hC.off i x hx hon
  rw[<-hai.2]
  refine hn _ w g q (hp.put hO hx hp.step (.refl g) hp.inv hp.hq hp.defers (by rw[hV];exact .tup rfl (λi q u hq _=>by simp at hq)) (λj hj hne=>?_) (λj y hy hc hDj _=>hp.hole j y hy hc hDj))
  have hji:j≠i:=λe=>hne (by rw[e];exact hF)
  rw[<-hp.heap j hj hne]
  simp[hji]
 |true=>
  rw[if_pos rfl]
  have hgood:=hC.good i x hx hon
  have hao:Xo P o.op=some ao:=by
   rcases hao1 with h|h
   ·exact h
   ·exfalso
    rw[h]at hai
    unfold DGood at hgood
    rw[hai.1]at hgood
    simp[Yx,aop]at hgood
  have hB0:∀ j y,l[j]?=some y->cntD y=1->D j=false->j≠i->g.B (base+C j)=none:=λj y hy hc hDj _=>hp.hole j y hy hc hDj
  have after:∀ (v:Value) (w':World) (g':Gh),Yx x.ai.op=false->Fs q=Fs i->(∀ j,j<l.length->Fs (j+1)≠Fs j->j≠i->(D j=true↔j<i))->Step H0.length g w g' w'->Inv g' (Fs (i+1)) w'->RV g' (V i) v->
    (∀ j y,l[j]?=some y->cntD y=1->D j=false->j≠i->g'.B (base+C j)=none)->next (a.put o.dst v) w':=λv w' g' _ hFq hkey hS hI hv hB=>by
   rw[<-hai.2]
   refine hn _ w' g' (i+1) (hp.put hO hx (hp.step.trans hS (Nat.le_refl _)) hS.le hI (by omega) (hp.defers.step hS) hv (λj hj hne=>?_) hB)
   by_cases hji:j=i
   ·simp[hji]
   ·have:=hkey j hj hne hji
    constructor
    ·rintro(h|h)
     ·have:=this.1 h;omega
     ·exact absurd h hji
    ·intro h;exact .inl (this.2 (by omega))
  have hlq:F0.length<=(Fs q).length:=hC.length q hp.hq
  have hole_lt:∀ j y,l[j]?=some y->cntD y=1->base+C j<F0.length:=λj y hy hc=>by
   have hj:j<l.length:=(List.getElem?_eq_some_iff.1 hy).1
   have h1:=hC.stC j y hy
   have h2:=hC.cmono (l.length-(j+1)) (j+1) (by omega)
   rw[show j+1+(l.length-(j+1))=l.length by omega]at h2
   omega
  have hcm:∀ j k y,l[j]?=some y->cntD y=1->j<k->k<l.length->C j<C k:=λj k y hy hc hjk hk=>by
   have h1:=hC.stC j y hy
   have h2:=hC.cmono (k-(j+1)) (j+1) (by omega)
   rw[show j+1+(k-(j+1))=k by omega]at h2
   omega
  have hlen:H0.length<=(Fs q).length:=by omega
  by_cases hpure:Yx x.ai.op=true
  ·
   have hg2:aop (Zg x.looks (E i)) [] x.ai.op=some (V i,[])/\Fs (i+1)=Fs i:=by
    unfold DGood at hgood
    split at hgood
    ·rename_i hop;rw[hop]at hpure;cases hpure
    ·rename_i hop;rw[hop]at hpure;cases hpure
    ·rename_i hop;rw[hop]at hpure;cases hpure
    ·rw[if_pos hpure]at hgood;exact hgood
   have hrun:=pure_any hpure hg2.1 (Fs q)
   rw[hai.1]at hrun
   obtain⟨v,w',g',h1,h2,h3,h4⟩:=aop_sound hp.inv hL hao hrun
   have fin:next (a.put o.dst v) w':=by
    rw[<-hai.2]
    refine hn _ w' g' q (hp.put hO hx (hp.step.trans h2 hlen) h2.le h3 hp.hq (hp.defers.step h2) h4 (λj hj hne=>?_) (λj y hy hc hDj hji=>?_))
    ·have hji:j≠i:=λe=>hne (by rw[e];exact hg2.2)
     rw[<-hp.heap j hj hne]
     simp[hji]
    ·rw[h2.B _ (by have:=hole_lt j y hy hc;omega)]
     exact hp.hole j y hy hc hDj
   refine⟨λ_ _=>trivial,?_⟩
   rw[sem_FF hao]
   rcases h1 with h1|⟨h1,rfl⟩
   ·rw[h1,Oper.uponIn_value];exact fin
   ·rw[h1,Oper.uponIn_skip];exact fin
  ·have hpf:Yx x.ai.op=false:=by simpa using hpure
   have low:∀ {n:Nat} {g':Gh} {w':World},Step n g w g' w'->H0.length<=n->Step H0.length g w g' w':=λhS hn=>⟨hS.le,λk hk=>hS.B k (by omega),hS.os,hS.tape,hS.output,hS.size,hS.block,hS.O,hS.C⟩
   have hli:F0.length<=(Fs i).length:=hC.length i (by omega)
   have hinj:∀ j y,l[j]?=some y->cntD y=1->j≠i->cntD x=1->base+C j≠base+C i:=λj y hy hc hji hcx=>by
    have hj:j<l.length:=(List.getElem?_eq_some_iff.1 hy).1
    rcases Nat.lt_or_ge j i with h|h
    ·have:=hcm j i y hy hc h hi;omega
    ·have:=hcm i j x hx hcx (by omega) hj;omega
   have still:∀ (v:Value) (w':World) (g':Gh),Fs (i+1)=Fs i->Step H0.length g w g' w'->Inv g' (Fs q) w'->RV g' (V i) v->
     (∀ j y,l[j]?=some y->cntD y=1->D j=false->j≠i->g'.B (base+C j)=none)->next (a.put o.dst v) w':=λv w' g' hFi hS hI hv hB=>by
    rw[<-hai.2]
    refine hn _ w' g' q (hp.put hO hx (hp.step.trans hS (Nat.le_refl _)) hS.le hI hp.hq (hp.defers.step hS) hv (λj hj hne=>?_) hB)
    have hji:j≠i:=λe=>hne (by rw[e];exact hFi)
    rw[<-hp.heap j hj hne]
    simp[hji]
   unfold DGood at hgood
   split at hgood
   ·rename_i z hop
    obtain⟨hV,hF',hk⟩:=hgood
    have hcx:cntD x=1:=by simp[cntD,hop,Yn]
    obtain⟨t,hot,hz⟩:=alloc_form (hop▸hai.1▸hao)
    obtain⟨zv,hz1,hz2⟩:=Qt hz
    have hkq:=(hp.rd_at hO hC hsep hx hDi hanc hdesc hon hF' hpf (k:=base+C i) (by rw[hop];rfl)).trans hk
    obtain⟨g',hS,hI',hBk,hBj⟩:=new_at hp.inv (base+C i) (.cells z) (.cells zv.cells t) hkq (hp.hole i x hx hcx hDi) (λn s e=>by cases e) (λg' _ hB hCn=>.inr ⟨_,zv.cells,t,hB,heap_alloc_new w _,(hz2 g').lp,hCn⟩)
    have hrun:(execOp a.eval o).run P w=.ok (.value (.pointer (some ⟨w.heap.size,0,none⟩))) (w.alloc (.cells zv.cells t)):=by
     simp[execOp,hot,Instr.alloc,hz1,newVar,newRow]
    refine⟨λ_ _=>trivial,?_⟩
    rw[sem_FF hao,hrun,Oper.uponIn_value]
    refine still _ _ g' hF' (low hS (by omega)) hI' (hV▸.bp hBk) (λj y hy hc hDj hji=>?_)
    rw[hBj _ (hinj j y hy hc hji hcx)]
    exact hp.hole j y hy hc hDj
   ·rename_i hop
    obtain⟨hV,hF',hk⟩:=hgood
    have hcx:cntD x=1:=by simp[cntD,hop,Yn]
    obtain⟨t,hot⟩:=mkMap_form (hop▸hai.1▸hao)
    have hkq:=(hp.rd_at hO hC hsep hx hDi hanc hdesc hon hF' hpf (k:=base+C i) (by rw[hop];rfl)).trans hk
    obtain⟨g',hS,hI',hBk,hBj⟩:=new_at hp.inv (base+C i) (.map [] [] 0) (.map #[] 0) hkq (hp.hole i x hx hcx hDi) (λn s e=>by cases e) (λg' _ hB hCn=>.inr ⟨_,#[],hB,heap_alloc_new w _,by simp,by simp,λi p v h _=>by simp at h⟩)
    have hrun:(execOp a.eval o).run P w=.ok (.value (.map (some w.heap.size))) (w.alloc (.map #[] 0)):=by
     simp[execOp,hot,Instr.makeMap]
    refine⟨λ_ _=>trivial,?_⟩
    rw[sem_FF hao,hrun,Oper.uponIn_value]
    refine still _ _ g' hF' (low hS (by omega)) hI' (hV▸.mp hBk) (λj y hy hc hDj hji=>?_)
    rw[hBj _ (hinj j y hy hc hji hcx)]
    exact hp.hole j y hy hc hDj
   ·rename_i f args hop
    obtain⟨hcall,_,hFl⟩:=hgood
    obtain⟨hFq,hkey⟩:=hp.at_ hO hC hx hDi hanc hdesc hpf (by rw[hop];rfl)
    have hI:Inv g (Fs i) w:=hFq▸hp.inv
    have hstep:AStep P ao (Zg x.looks (E i)) (Fs i) λr' F''=>r'=V i/\F''=Fs (i+1):=by
     rw[<-hai.1,hop]
     exact hcall
    refine step_sound hao hL hI hstep λv p H' w' g' hk hr hS hl hI'=>?_
    obtain⟨rfl,rfl⟩:=hk
    refine after v w' g' hpf hFq hkey (low hS (by omega)) hI' hr (λj y hy hc hDj hji=>?_)
    rw[hS.B _ (by have:=hole_lt j y hy hc;omega)]
    exact hp.hole j y hy hc hDj
   ·rename_i hnc
    rw[if_neg hpure]at hgood
    by_cases hld:∃ ag y,x.ai.op=.load ag y
    ·obtain⟨ag,y,hop⟩:=hld
     have hFi:Fs (i+1)=Fs i:=(load_at (hop▸hgood.1) (λ_ _ _=>rfl) (λ_ _ _ _=>rfl)).2
     have hst:aop (Zg x.looks (E i)) (Fs q) ao=some (V i,Fs q):=by
      rw[<-hai.1,hop]
      exact(load_at (hop▸hgood.1) (λk off e=>hp.rd_at hO hC hsep hx hDi hanc hdesc hon hFi hpf (by rw[hop];simp only[rdE,e])) (λk n off e=>hp.rd_at hO hC hsep hx hDi hanc hdesc hon hFi hpf (by rw[hop];simp only[rdE,e]))).1
     obtain⟨v,w',g',h1,h2,h3,h4⟩:=aop_sound hp.inv hL hao hst
     have fin:=still v w' g' hFi (low h2 hlen) h3 h4 (λj y hy hc hDj hji=>by
      rw[h2.B _ (by have:=hole_lt j y hy hc;omega)]
      exact hp.hole j y hy hc hDj)
     refine⟨λ_ _=>trivial,?_⟩
     rw[sem_FF hao]
     rcases h1 with h1|⟨h1,rfl⟩
     ·rw[h1,Oper.uponIn_value];exact fin
     ·rw[h1,Oper.uponIn_skip];exact fin
    have hrd:isRd x.ai.op=false:=by
     cases hop:x.ai.op with
     |load ag y=>exact absurd ⟨ag,y,hop⟩ hld
     |alloc z=>rename_i h1 _;exact absurd hop (h1 z)
     |mkMap=>rename_i _ h2;exact absurd hop h2
     |_=>rfl
    obtain⟨hFq,hkey⟩:=hp.at_ hO hC hx hDi hanc hdesc hpf hrd
    have hI:Inv g (Fs i) w:=hFq▸hp.inv
    have hstep:AStep P ao (Zg x.looks (E i)) (Fs i) λr' F''=>r'=V i/\F''=Fs (i+1):=by
     rw[<-hai.1]
     unfold AStep
     split
     ·rename_i f args hop;exact absurd hop (hnc f args)
     ·rw[hgood.1];exact⟨rfl,rfl⟩
    refine step_sound hao hL hI hstep λv p H' w' g' hk hr hS hl hI'=>?_
    obtain⟨rfl,rfl⟩:=hk
    refine after v w' g' hpf hFq hkey (low hS (by omega)) hI' hr (λj y hy hc hDj hji=>?_)
    rw[hS.B _ (by have:=hole_lt j y hy hc;omega)]
    exact hp.hole j y hy hc hDj
def Va (l:List DI):List Blk:=l.filterMap λx=>Yn x.ai.op
theorem blksD_len:∀ l:List DI,(Va l).length=(l.map cntD).sum
 |[]=>rfl
 |x::l=>by
  have ih:=blksD_len l
  unfold Va at ih ⊢
  rw[List.filterMap_cons]
  cases h:Yn x.ai.op with
  |none=>simp[cntD,h,ih]
  |some b=>simp[cntD,h,ih];omega
theorem blksD_form (l:List DI):∀ z∈Va l,(∃ cs,z=.cells cs)\/∃ kl vs c,z=.map kl vs c:=by
 intro z hz
 obtain⟨x,_,hx⟩:=List.mem_filterMap.1 hz
 unfold Yn at hx
 split at hx
 ·cases hx;exact .inl ⟨_,rfl⟩
 ·cases hx;exact .inr ⟨_,_,_,rfl⟩
 ·cases hx
theorem Course.cnt (hC:Course P base l env0 F0 K E Fs C V on TT):∀ i,i<=l.length->C i=C 0+((l.take i).map cntD).sum
 |0,_=>by simp
 |i+1,h=>by
  have hx:=List.getElem?_eq_getElem (show i<l.length by omega)
  have e:l.take (i+1)=l.take i++[l[i]]:=by rw[List.take_succ_eq_append_getElem (by omega)]
  rw[hC.stC i _ hx,hC.cnt i (by omega),e,List.map_append,List.sum_append]
  simp only[List.map_cons,List.map_nil,List.sum_cons,List.sum_nil]
  omega
theorem Part.ended (hO:Order ops l anc) (hC:Course P base l env0 F0 K E Fs C V on TT) {D:Nat->Bool} {a:Act} {w:World} {g:Gh} {q:Nat} (hp:Part P g0 H0 w0 base l env0 Fs C V D a w g q)
  (hall:∀ j,j<l.length->D j=true) (hlen:H0.length<=F0.length):At g0 H0 w0 (E l.length) (Fs l.length) a w g:=by
 have hFq:Fs q=Fs l.length:=by
  have:=hC.same (l.length-q) q (by have:=hp.hq;omega) (λj h1 h2=>by
   by_cases hne:Fs (j+1)=Fs j
   ·exact hne
   ·have:=(hp.heap j (by have:=hp.hq;omega) hne).1 (hall j (by have:=hp.hq;omega))
    omega)
  rw[<-this];congr 1;have:=hp.hq;omega
 have hel:=hC.elen l.length (Nat.le_refl _)
 refine⟨hp.step,hFq▸hp.inv,⟨by rw[hel,hp.size],λt p v hpt hv=>?_⟩,hp.defers,Nat.le_trans hlen (hC.length _ (Nat.le_refl _))⟩
 have htl:t<env0.length:=by rw[<-hp.size];exact(Array.getElem?_eq_some_iff.1 hv).1
 obtain⟨s1,s2⟩:=hC.slot hO.S3 t htl l.length (Nat.le_refl _)
 by_cases hw:∃ (j:Nat) (y:DI),l[j]?=some y/\y.ai.dst=some t
 ·obtain⟨j,y,hy,hyd⟩:=hw
  have hj:j<l.length:=(List.getElem?_eq_some_iff.1 hy).1
  have:=s1 j y hy hyd hj
  rw[hpt]at this
  cases this
  exact hp.done j y t v hy hyd (hall j hj) hv
 ·have:=s2 (λj y h1 h2=>absurd ⟨j,y,h1,h2⟩ hw)
  rw[hpt]at this
  exact hp.kept t p v (λj y h1 h2=>absurd ⟨j,y,h1,h2⟩ hw) this.symm hv
theorem Uy {listed:Array Bool} {i:Nat} (h:listed.getD i true=false):listed.getD i false=false:=by
 rcases Nat.lt_or_ge i listed.size with h'|h'
 ·simp[h']at h ⊢;exact h
 ·simp[Array.getElem?_eq_none h']at h
theorem Za (m j:Nat):(Array.replicate m false).getD j false=false:=by
 rcases Nat.lt_or_ge j m with h|h
 ·simp[h]
 ·simp[h]
theorem getD_in {listed:Array Bool} {i:Nat} (hi:i<listed.size) (h:listed.getD i false=false):listed.getD i true=false:=by
 simp[hi]at h ⊢;exact h
def Wu (listed:Array Bool) (n:Nat):Nat:=(List.range n).countP λi=>!listed.getD i false
theorem unlisted_set {listed:Array Bool} {n i:Nat} (hi:i<n) (hs:listed.size=n) (h:listed.getD i true=false):Wu (listed.setIfInBounds i true) n+1<=Wu listed n:=by
 unfold Wu
 have key:∀ (l:List Nat),l.Nodup->i∈l->(∀ j∈l,j<n)->l.countP (λj=>!(listed.setIfInBounds i true).getD j false)+1<=l.countP λj=>!listed.getD j false:=by
  intro l
  induction l with
  |nil=>intro _ h;cases h
  |cons x l ih=>
   intro hnd hm hlt
   rw[List.nodup_cons]at hnd
   by_cases hx:x=i
   ·subst hx
    have e1:listed.getD x false=false:=Uy h
    have e2:(listed.setIfInBounds x true).getD x false=true:=by simp[hs,hlt x (by simp)]
    have e3:l.countP (λj=>!(listed.setIfInBounds x true).getD j false)=l.countP λj=>!listed.getD j false:=by
     apply List.countP_congr
     intro j hj
     have:x≠j:=λe=>hnd.1 (e▸hj)
     rw[getD_set_ne false this]
    simp only[List.countP_cons,e1,e2,e3]
    simp
   ·have ih':=ih hnd.2 (by cases hm with|head=>exact absurd rfl hx|tail _ h=>exact h) (λj hj=>hlt j (by simp[hj]))
    have e1:(listed.setIfInBounds i true).getD x false=listed.getD x false:=getD_set_ne false (λe=>hx e.symm)
    simp only[List.countP_cons,e1]
    omega
 exact key _ List.nodup_range (List.mem_range.2 hi) (λj hj=>List.mem_range.1 hj)
theorem closed_set {listed:Array Bool} (hc:Closed ops listed) {i:Nat} (hr:i∈Region.ready .any ops listed):Closed ops (listed.setIfInBounds i true):=by
 obtain⟨_,oi,hoi,hall⟩:=mem_ready.1 hr
 intro j o ho hl e he hb
 by_cases hij:i=j
 ·subst hij
  have:o=oi:=Option.some.inj (ho.symm.trans hoi)
  subst this
  exact getD_set_true (hall e he hb)
 ·rw[getD_set_ne false hij]at hl
  exact getD_set_true (hc j o ho hl e he hb)
theorem tail_any (hO:Order ops l anc) {Q:Exit->Act->World->Prop}:∀ (fuel t:Nat) (listed:Array Bool) (a:Act) (w:World),l.length<=t->t<=ops.size->listed.size=ops.size->(∀ j,listed.getD j false=true↔j<t)->ops.size-t<=fuel->
  wpListIn (FF ro) nn P ops Q (ops.toList.drop t) a w->wpAnyIn (FF ro) nn P .any ops Q fuel listed a w:=by
 have none_ready:∀ (t:Nat) (listed:Array Bool),ops.size<=t->(∀ j,listed.getD j false=true↔j<t)->Region.ready .any ops listed=[]:=λt listed ht hl=>by
  rw[List.eq_nil_iff_forall_not_mem]
  intro j hj
  obtain⟨h0,o,ho,_⟩:=mem_ready.1 hj
  have hj':j<ops.size:=(Array.getElem?_eq_some_iff.1 ho).1
  have:=(hl j).2 (by omega)
  rw[Uy h0]at this;cases this
 intro fuel
 induction fuel with
 |zero=>
  intro t listed a w hlt hts hsz hl hf h
  have ht:t=ops.size:=by omega
  refine⟨none_ready t listed (by omega) hl,?_⟩
  rw[List.drop_eq_nil_of_le (by simp;omega)]at h
  exact h
 |succ fuel ih=>
  intro t listed a w hlt hts hsz hl hf h
  by_cases ht:t=ops.size
  ·rw[List.drop_eq_nil_of_le (by simp;omega)]at h
   have hr:=none_ready t listed (by omega) hl
   exact⟨λ_=>h,λi hi=>(by rw[hr]at hi;cases hi)⟩
  ·have htl:t<ops.size:=by omega
   have hdrop:ops.toList.drop t=ops[t]::ops.toList.drop (t+1):=by
    rw[List.drop_eq_getElem_cons (by simpa using htl)];simp
   have ho:ops[t]?=some ops[t]:=Array.getElem?_eq_getElem htl
   have hready:t∈Region.ready .any ops listed:=by
    refine mem_ready.2 ⟨?_,ops[t],ho,λe he hb=>(hl e.on).2 (hO.S6 t _ ho e he hb)⟩
    have:listed.getD t false=false:=by
     cases hh:listed.getD t false with
     |false=>rfl
     |true=>have:=(hl t).1 hh;omega
    exact getD_in (by omega) this
   refine⟨λh0=>(by rw[h0]at hready;cases hready),λi hi=>?_⟩
   obtain⟨h0,oi,hoi,hall⟩:=mem_ready.1 hi
   have hil:i<ops.size:=(Array.getElem?_eq_some_iff.1 hoi).1
   have hit:i=t:=by
    rcases Nat.lt_trichotomy i t with h1|h1|h1
    ·have:=(hl i).2 h1;rw[Uy h0]at this;cases this
    ·exact h1
    ·have hc:Closed ops listed:=λj o ho hlj e he hb=>(hl e.on).2 (by have:=hO.S6 j o ho e he hb;have:=(hl j).1 hlj;omega)
     have:=anc_listed hO hc i oi hoi hall t (hO.S5 i (by omega) hil t h1)
     have:=(hl t).1 this;omega
   subst hit
   rw[hdrop]at h
   have hw:wpOpIn (FF ro) nn P ops Q i (wpListIn (FF ro) nn P ops Q (ops.toList.drop (i+1))) a w:=by unfold wpOpIn;simp only[ho];exact h
   refine wpOpIn_mono (λa' w' h'=>ih (i+1) _ a' w' (by omega) (by omega) (by simp[hsz]) (λj=>?_) (by omega) h') hw
   by_cases hji:i=j
   ·subst hji;simp[hsz,htl]
   ·rw[getD_set_ne false hji,hl j];omega
theorem head_any (hO:Order ops l anc) (hops:∀ (i:Nat) (x:DI),l[i]?=some x->∃ o,ops[i]?=some o/\compI P ops o=some x.ai) (hbase:H0.length<=base) (hF:base+C l.length<=F0.length) (hC:Course P base l env0 F0 K E Fs C V on TT) (hsep:sepB l ((List.range l.length).map TT)=true)
  {Q:Exit->Act->World->Prop} (hlen:H0.length<=F0.length) (htail:∀ a w g,At g0 H0 w0 (E l.length) (Fs l.length) a w g->wpListIn (FF ro) nn P ops Q (ops.toList.drop l.length) a w):
  ∀ (fuel:Nat) (listed:Array Bool) (a:Act) (w:World) (g:Gh) (q:Nat),listed.size=ops.size->Closed ops listed->(∀ t,l.length<=t->listed.getD t false=false)->Wu listed ops.size<=fuel->
  Part P g0 H0 w0 base l env0 Fs C V (λj=>listed.getD j false) a w g q->wpAnyIn (FF ro) nn P .any ops Q fuel listed a w:=by
 have full:∀ (fuel:Nat) (listed:Array Bool) (a:Act) (w:World) (g:Gh) (q:Nat),listed.size=ops.size->(∀ t,l.length<=t->listed.getD t false=false)->Wu listed ops.size<=fuel->
   Part P g0 H0 w0 base l env0 Fs C V (λj=>listed.getD j false) a w g q->(∀ j,j<l.length->listed.getD j false=true)->wpAnyIn (FF ro) nn P .any ops Q fuel listed a w:=λfuel listed a w g q hsz hnt hf hp hall=>by
  have hl:∀ j,listed.getD j false=true↔j<l.length:=λj=>by
   rcases Nat.lt_or_ge j l.length with h|h
   ·exact⟨λ_=>h,λ_=>hall j h⟩
   ·rw[hnt j h];exact⟨λe=>(by cases e),λe=>(by omega)⟩
  refine tail_any hO fuel l.length listed a w (Nat.le_refl _) hO.len hsz hl ?_ (htail a w g (hp.ended hO hC hall hlen))
  refine Nat.le_trans ?_ hf
  unfold Wu
  have:(List.range ops.size).countP (λi=>!listed.getD i false)=(List.range ops.size).countP λi=>decide (l.length<=i):=by
   apply List.countP_congr
   intro j _
   rcases Nat.lt_or_ge j l.length with h|h
   ·rw[hall j h];simp;omega
   ·rw[hnt j h];simp;omega
  rw[this]
  have cnt:∀ n m:Nat,(List.range n).countP (λi=>decide (m<=i))=n-m:=by
   intro n m
   induction n with
   |zero=>simp
   |succ n ih=>
    rw[List.range_succ,List.countP_append,ih]
    by_cases h:m<=n
    ·simp[h];omega
    ·simp[h];omega
  rw[cnt]
  exact Nat.le_refl _
 intro fuel
 induction fuel with
 |zero=>
  intro listed a w g q hsz hc hnt hf hp
  refine full 0 listed a w g q hsz hnt hf hp λj hj=>?_
  have h0:Wu listed ops.size=0:=by omega
  unfold Wu at h0
  rw[List.countP_eq_zero]at h0
  have:=h0 j (List.mem_range.2 (by have:=hO.len;omega))
  simpa using this
 |succ fuel ih=>
  intro listed a w g q hsz hc hnt hf hp
  by_cases hall:∀ j,j<l.length->listed.getD j false=true
  ·exact full _ listed a w g q hsz hnt hf hp hall
  ·have hne:∃ j,j<l.length/\listed.getD j false=false:=by
    by_cases h:∃ j,j<l.length/\listed.getD j false=false
    ·exact h
    ·refine absurd (λj hj=>?_) hall
     cases hh:listed.getD j false with
     |true=>rfl
     |false=>exact absurd ⟨j,hj,hh⟩ h
   refine⟨λh0=>?_,λi hi=>?_⟩
   ·exfalso
    have first:∀ j,j<l.length->listed.getD j false=false->False:=by
     intro j
     induction j using Nat.strongRecOn with
     |_ j ihj=>
      intro hj hjl
      have hjs:j<ops.size:=by have:=hO.len;omega
      have ho:ops[j]?=some ops[j]:=Array.getElem?_eq_getElem hjs
      have:j∈Region.ready .any ops listed:=by
       refine mem_ready.2 ⟨getD_in (by omega) hjl,_,ho,λe he hb=>?_⟩
       have hlt:=hO.S6 j _ ho e he hb
       cases hh:listed.getD e.on false with
       |true=>rfl
       |false=>exact(ihj e.on hlt (by omega) hh).elim
      rw[h0]at this;cases this
    obtain⟨j,hj,hjl⟩:=hne
    exact first j hj hjl
   ·obtain⟨hun,oi,hoi,halli⟩:=mem_ready.1 hi
    have hil:i<ops.size:=(Array.getElem?_eq_some_iff.1 hoi).1
    have hin:i<l.length:=by
     rcases Nat.lt_or_ge i l.length with h|h
     ·exact h
     ·refine absurd (λj hj=>?_) hall
      exact anc_listed hO hc i oi hoi halli j (hO.S5 i h hil j (by omega))
    have hx:=List.getElem?_eq_getElem hin
    refine hp.run hO hops hbase hF hC hsep hx (Uy hun) (λj hj=>anc_listed hO hc i oi hoi halli j hj) (λj hj=>?_) (λa' w' g' q' hp'=>?_)
    ·cases hh:listed.getD j false with
     |false=>rfl
     |true=>
      obtain⟨_,oj,hoj,_⟩:=hO.S1 j i hj
      have:=anc_listed hO hc j oj hoj (hc j oj hoj hh) i hj
      rw[Uy hun]at this;cases this
    ·refine ih (listed.setIfInBounds i true) a' w' g' q' (by simp[hsz]) (closed_set hc hi) (λt ht=>by rw[getD_set_ne false (by omega)];exact hnt t ht) (by have:=unlisted_set hil hsz hun;omega) ?_
     have e:(λj=>(listed.setIfInBounds i true).getD j false)=λj=>listed.getD j false||decide (j=i):=by
      funext j
      by_cases hji:i=j
      ·subst hji;simp[hsz,hil]
      ·rw[getD_set_ne false hji];simp[show j≠i from λe=>hji e.symm]
     rw[e]
     exact hp'
theorem draw_sound (hm:P.follows .mixedOrders=true) (hO:Order ops l anc) (hops:∀ (i:Nat) (x:DI),l[i]?=some x->∃ o,ops[i]?=some o/\compI P ops o=some x.ai) {tail:List AI} (htl:(ops.toList.drop l.length).mapM (compI P ops)=some tail)
  {g:Gh} {H:List Blk} {a:Act} {w:World} (hA:At g0 H0 w0 env0 H a w g) {Q:Exit->Act->World->Prop} {K:List PV->List Blk->Prop} (hQ:∀ env H a w g,K env H->At g0 H0 w0 env H a w g->Q .normal a w)
  (h:ADr P H.length l env0 (H++Va l) 0 λenv' F' ts=>sepB l ts=true/\AOps P tail env' F' K) {id:Nat}:(Code.region id ops true).wpIn (FF ro) nn P Q a w:=by
 obtain⟨E,Fs,C,V,on,TT,hC,hc0⟩:=ADr_course l _ _ _ _ h
 have hcl:=hC.cnt l.length (Nat.le_refl _)
 rw[List.take_length,hc0,<-blksD_len]at hcl
 refine wpIn_region_any hm (head_any hO hops hA.len (by rw[hcl];simp) hC hC.fin.1 (by have:=hA.len;simp;omega) (λa w g hA=>ops_sound hQ _ tail htl hA hC.fin.2) ops.size (Array.replicate ops.size false) a _ g 0 (by simp) ?_ ?_ ?_ ?_)
 ·intro i o _ hl
  rw[Za]at hl;cases hl
 ·intro t _;exact Za _ _
 ·unfold Wu
  refine Nat.le_trans (List.countP_le_length) (by simp)
 ·refine⟨step_drew hA.step _,?_,hA.defers.step (step_drew (.refl 0 g w) _),Nat.zero_le _,λj hj hne=>?_,λi x hx hc hD=>?_,by rw[<-hA.env.1],λj y t v hy hyd hD=>?_,λt p v _ hpt hv=>hA.env.2 t p v hpt hv⟩
  ·rw[hC.F0];exact inv_drew (holes hA.inv _ (blksD_form l)) _
  ·rw[Za]
   exact⟨λe=>(by cases e),λe=>(by omega)⟩
  ·exact hA.inv.domB _ (by omega)
  ·rw[Za]at hD;cases hD
end
end Go.PE
