/- A part of the proof. -/
import Derived.Test.YtibndgdocbbbeaaGreatPE16
set_option linter.all false
namespace Go.PE
open Go.RowKit
section
variable {P:Program} {g:Gh} {H:List Blk} {w:World}
theorem C_none_of (hI:Inv g H w) {b:Nat} (h:∀ vs e fr,w.heap[b]?≠some (.cells vs e fr)) (q:Nat):g.C b q=none:=by
 cases e:g.C b q with
 |none=>rfl
 |some v=>
  have:=hI.C b q v e
  unfold World.cell? at this
  split at this
  ·rename_i c t fr hb;exact absurd hb (h _ _ _)
  ·cases this
theorem O_none_new (hI:Inv g H w) {b:Nat} (h:w.heap.size<=b):g.O b=none:=by
 cases e:g.O b with
 |none=>rfl
 |some k=>have:=hI.lt b k e;omega
theorem alloc_other (hI:Inv g H w) (n:Nat) (o:Obj):Inv g H (w.alloc o)/\Step n g w g (w.alloc o):=by
 refine⟨⟨λb q v h=>cell_alloc o (hI.C b q v h),λk x hx=>(hI.blk k x hx).alloc (.refl g) o rfl (λ_=>rfl) (λ_ _ _=>rfl) hI.lt hI.own,hI.own,λb k h=>?_,hI.domB,hI.domT,hI.domO⟩,
  ⟨.refl g,λ_ _=>rfl,rfl,rfl,rfl,by rw[Yv];omega,λb hb _=>heap_alloc_old w o hb,λb k h=>.inl h,λ_ _ _ _=>rfl⟩⟩
 have:=hI.lt b k h
 rw[Yv];omega
theorem cell_putObj {b:Nat} {o:Obj} {c q:Nat} {v:Value} (h:w.cell? ⟨c,q,none⟩=some v) (hc:c≠b):(w.putObj b o).cell? ⟨c,q,none⟩=some v:=by
 unfold World.cell? at h ⊢
 simp only at h ⊢
 rw[World.putObj_heap_other hc]
 exact h
theorem put_other (hI:Inv g H w) {b:Nat} (hO:g.O b=none) (hc:∀ vs e fr,w.heap[b]?≠some (.cells vs e fr)) (o:Obj):Inv g H (w.putObj b o):=by
 refine⟨λc q v h=>?_,λk x hx=>?_,hI.own,λc k h=>by rw[World.putObj_size];exact hI.lt c k h,hI.domB,hI.domT,hI.domO⟩
 ·refine cell_putObj (hI.C c q v h) (λe=>?_)
  subst e
  rw[C_none_of hI hc q]at h;cases h
 ·refine(hI.blk k x hx).keep (.refl g) rfl (λ_=>rfl) (λc hck=>⟨World.putObj_heap_other (λe=>?_),λ_=>rfl⟩) hI.own
  subst e;rw[hO]at hck;cases hck
theorem Uu (hI:Inv g H w) {k l:Nat} {env:List PV} {ps:Array Nat} {ai bd:AC} {cA cB:Code} {st:LoopState} {pend:Option Code} (hk:H[k]?=some (.loop env ps ai bd cA cB st pend)) (hl:g.B k=some l):
  ∃ r:Loop,w.heap[l]?=some (.loop r)/\r.params=ps/\r.assign=cA/\r.body=cB/\r.state=st/\r.pending=pend/\LR g env r.tmps/\
   ∀ st' pend',Inv g (H.set k (.loop env ps ai bd cA cB st' pend')) (w.putObj l (.loop { r with state:=st',pending:=pend' }))/\∀ n,Step n g w g (w.putObj l (.loop { r with state:=st',pending:=pend' })):=by
 rcases hI.blk k _ hk with h|⟨b,r,h1,h2,h3,h4,h5,h6,h7,h8⟩
 ·rw[hl]at h;cases h
 rw[hl]at h1;cases h1
 refine⟨r,h2,h3,h4,h5,h6,h7,h8,λst' pend'=>?_⟩
 have hO:=hI.own k l hl
 have hlt:=hI.lt l k hO
 have hc:∀ vs e fr,w.heap[l]?≠some (.cells vs e fr):=λvs e fr e2=>by rw[h2]at e2;cases e2
 refine⟨⟨λc q v h=>?_,λj x hx=>?_,hI.own,λc j h=>by rw[World.putObj_size];exact hI.lt c j h,λj hj=>hI.domB j (by simpa using hj),λj n hj=>hI.domT j n (by simpa using hj),λc j h=>by simpa using hI.domO c j h⟩,
  λn=>⟨.refl g,λ_ _=>rfl,rfl,rfl,rfl,by simp,λc hcl h=>World.putObj_heap_other (λe=>by subst e;rw[hO]at h;cases h),λc j h=>.inl h,λ_ _ _ _=>rfl⟩⟩
 ·refine cell_putObj (hI.C c q v h) (λe=>?_)
  subst e
  rw[C_none_of hI hc q]at h;cases h
 ·rcases Yi hx with ⟨rfl,rfl⟩|⟨hne,hx⟩
  ·exact .inr ⟨l,_,hl,World.putObj_heap_same hlt,h3,h4,h5,rfl,rfl,h8⟩
  ·refine(hI.blk j x hx).keep (.refl g) rfl (λ_=>rfl) (λc hcj=>⟨World.putObj_heap_other (λe=>?_),λ_=>rfl⟩) hI.own
   subst e;rw[hO]at hcj;exact hne (Option.some.inj hcj).symm
theorem leave_marks {g0:Gh} {w0:World} {n:Nat} {F:Fence} {m:Nat} {fn:Func} {tmps:Array Value} {R:Ending->World->Prop}:∀ (bs:List Nat) (w:World),bs.Nodup->
  (∀ b∈bs,w0.heap.size<=b/\b<w.heap.size/\g.O b=none/\w.heap[b]?=some (.deferred (some [])))->Inv g H w->Step n g0 w0 g w->
  (∀ w',Inv g H w'->Step n g0 w0 g w'->∃ v,(results fn tmps).run P w'=.ok v w'/\R (.returned v) w')->
  LeavesInM F m P fn tmps R (bs.map λb=>({ target:=.collected b,args:=#[] }:Deferred)) .returning w
 |[],w,_,_,hI,hS,hR=>hR w hI hS
 |b::bs,w,hn,hb,hI,hS,hR=>by
  obtain⟨h1,h2,h3,h4⟩:=hb b (List.mem_cons_self ..)
  refine⟨(by intro e;cases e),.inl ⟨b,_,rfl,run_takeDeferred h4,?_⟩⟩
  have hI':Inv g H (w.putObj b (.deferred none)):=put_other hI h3 (λvs e fr e2=>by rw[h4]at e2;cases e2) _
  have hS':Step n g0 w0 g (w.putObj b (.deferred none)):=⟨hS.le,hS.B,hS.os,hS.tape,hS.output,by rw[World.putObj_size];exact hS.size,λc hc ho=>(World.putObj_heap_other (by omega)).trans (hS.block c hc ho),hS.O,hS.C⟩
  refine leave_marks bs _ (List.nodup_cons.1 hn).2 (λc hc=>?_) hI' hS' hR
  obtain⟨k1,k2,k3,k4⟩:=hb c (List.mem_cons_of_mem _ hc)
  refine⟨k1,by rw[World.putObj_size];exact k2,k3,(World.putObj_heap_other (λe=>?_)).trans k4⟩
  subst e;exact(List.nodup_cons.1 hn).1 hc
def Zu (env:List PV):List Nat->List PV->List PV
 |t::ts,p::ps=>Zu (env.set t p) ts ps
 |_,_=>env
theorem putArgs_LR:∀ (ts:List Nat) (ps:List PV) (vs:List Value) (env:List PV) (tmps:Array Value),LR g env tmps->LR g ps vs.toArray->
  LR g (Zu env ts ps) ((ts.zip vs).foldl (λtmps (t,a)=>tmps.setIfInBounds t a) tmps)
 |[],ps,vs,env,tmps,h,_=>by simpa [Zu] using h
 |t::ts,[],vs,env,tmps,h,hL=>by
  have:vs=[]:=List.eq_nil_of_length_eq_zero (by simpa using hL.1.symm)
  subst this
  simpa [Zu] using h
 |t::ts,p::ps,[],env,tmps,h,hL=>by simp[LR]at hL
 |t::ts,p::ps,v::vs,env,tmps,h,hL=>by
  simp only[Zu,List.zip_cons_cons,List.foldl_cons]
  refine putArgs_LR ts ps vs _ _ ?_ ⟨by simpa using hL.1,λi q u hq hu=>hL.2 (i+1) q u (by simpa using hq) (by simpa using hu)⟩
  exact put_sound (a:={ tmps:=tmps,defers:=[] }) h (some t) (hL.2 0 p v rfl rfl)
end
end Go.PE
