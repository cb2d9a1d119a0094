/- A part of the proof. -/
import Derived.Test.YtnjmaohblihppaaGreatDoorOP1
set_option linter.all false
namespace Go.PE
open Go.RowKit
def frR:Right->Right
 |.own _=>.no
 |r=>r
def frz:Nat->List Blk->PV->PV
 |0,_,_=>.any
 |d+1,H,p=>match p with
  |.sc v=>.sc v
  |.agg cs=>.agg (cs.map (frz d H))
  |.sl nl r s es=>.sl nl (frR r) s (es.map λe=>e.map (frz d H))
  |.bs k off n s full=>match H[k]? with
   |some (.cells cs)=>if off+n*s<=cs.length then .sl false (if full then .full else .no) s ((List.range n).map λi=>((cs.drop (off+i*s)).take s).map (frz d H))else .any
   |_=>.any
  |.bp k off=>match H[k]? with
   |some (.cells cs)=>.ip ((cs.drop off).map (frz d H))
   |_=>.any
  |_=>.any
theorem frz_sound {g G:Gh} {H:List Blk} {w:World} (hI:Inv g H w) (hC:∀ b o v,g.C b o=some v->G.C b o=some v) (hB:∀ k b o v,g.B k=some b->w.cell? ⟨b,o,none⟩=some v->G.C b o=some v):∀ (d:Nat) {p:PV} {v:Value},RV g p v->RV G (frz d H p) v
 |0,p,v,_=>.any _
 |d+1,p,v,h=>by
  have ih:=λ{p v} h=>frz_sound hI hC hB d (p:=p) (v:=v) h
  cases h with
  |any v=>exact .any _
  |sc h=>exact .sc h
  |agg hn hk=>exact .agg (by simpa using hn) λi p v hp hv=>by obtain⟨q,hq,rfl⟩:=Xw hp;exact ih (hk i q v hq hv)
  |tup hn hk=>exact .any _
  |nilsl r s=>exact .nilsl _ _
  |em r s A hr=>exact .em _ _ _ (by cases r<;>first|rfl|cases hr)
  |@sl r es b o cap s vf hc hm hs hC0 hR hr=>
   show RV G (.sl false (frR r) s (es.map λe=>e.map (frz d H))) _
   have hl:(es.map λe=>e.map (frz d H)).length=es.length:=by simp
   rw[<-hl]
   refine .sl vf (by rw[hl];exact hc) hm (λi e he=>?_) (λi j e p he hp=>?_) (λi j e p he hp=>?_) ?_
   ·obtain⟨e0,h0,rfl⟩:=Xw he
    simpa using hs i e0 h0
   ·obtain⟨e0,h0,rfl⟩:=Xw he
    obtain⟨p0,h1,rfl⟩:=Xw hp
    exact hC _ _ _ (hC0 i j e0 p0 h0 h1)
   ·obtain⟨e0,h0,rfl⟩:=Xw he
    obtain⟨p0,h1,rfl⟩:=Xw hp
    exact ih (hR i j e0 p0 h0 h1)
   ·rw[hl]
    cases r with
    |no=>trivial
    |full=>exact hr
    |own j=>trivial
  |ip vf hC0 hR=>exact .any _
  |@bp k off b hb=>
   show RV G (match H[k]? with|some (.cells cs)=>.ip ((cs.drop off).map (frz d H))|_=>.any) _
   split
   ·rename_i cs hk
    rcases hI.blk k _ hk with h1|⟨b',vs,e,h1,h2,h3,_⟩
    ·rw[hb]at h1;cases h1
    ·rw[hb]at h1
     obtain rfl:=Option.some.inj h1
     have key:∀ (j:Nat) (p:PV),((cs.drop off).map (frz d H))[j]?=some p->∃ q v,vs[off+j]?=some v/\RV g q v/\p=frz d H q:=λj p hp=>by
      obtain⟨q,hq,rfl⟩:=Xw hp
      rw[List.getElem?_drop]at hq
      have hlt:off+j<vs.size:=Nat.lt_of_lt_of_le (List.getElem?_eq_some_iff.1 hq).1 h3.1
      exact⟨q,_,Array.getElem?_eq_getElem hlt,h3.2 _ q _ hq (Array.getElem?_eq_getElem hlt),rfl⟩
     refine .ip (λj=>(vs[off+j]?).getD (.bool true)) (λj p hp=>?_) (λj p hp=>?_)
     ·obtain⟨q,v,e1,_,_⟩:=key j p hp
      exact hB k b _ _ hb (by rw[Yr h2,e1];rfl)
     ·obtain⟨q,v,e1,e2,rfl⟩:=key j p hp
      rw[e1]
      exact ih e2
   ·exact .any _
  |fn=>exact .any _
  |mp=>exact .any _
  |@bs k off n s b o cap full hb hn hm hf ho=>
   show RV G (match H[k]? with|some (.cells cs)=>(if off+n*s<=cs.length then .sl false (if full then .full else .no) s ((List.range n).map λi=>((cs.drop (off+i*s)).take s).map (frz d H))else .any)|_=>.any) _
   split
   ·rename_i cs hk
    split
    ·rename_i hfit
     rcases hI.blk k _ hk with h1|⟨b',vs,e,h1,h2,h3,_⟩
     ·rw[hb]at h1;cases h1
     ·rw[hb]at h1
      obtain rfl:=Option.some.inj h1
      have hl:((List.range n).map λi=>((cs.drop (off+i*s)).take s).map (frz d H)).length=n:=by simp
      have key:∀ (i j:Nat) (e:List PV) (p:PV),((List.range n).map λi=>((cs.drop (off+i*s)).take s).map (frz d H))[i]?=some e->e[j]?=some p->i<n/\j<s/\∃ q v,vs[off+i*s+j]?=some v/\RV g q v/\p=frz d H q:=λi j e p he hp=>by
       obtain⟨i',hi,rfl⟩:=Xw he
       have hin:i'=i/\i<n:=by
        have h1:=(List.getElem?_eq_some_iff.1 hi)
        obtain⟨h1,h2⟩:=h1
        simp at h1 h2
        exact⟨h2.symm,h1⟩
       obtain⟨rfl,hin⟩:=hin
       obtain⟨q,hq,rfl⟩:=Xw hp
       have hj:j<s:=by
        have:=(List.getElem?_eq_some_iff.1 hq).1
        rw[List.length_take]at this
        omega
       rw[List.getElem?_take_of_lt hj,List.getElem?_drop]at hq
       have hlt:off+i'*s+j<vs.size:=Nat.lt_of_lt_of_le (List.getElem?_eq_some_iff.1 hq).1 h3.1
       exact⟨hin,hj,q,_,Array.getElem?_eq_getElem hlt,h3.2 _ q _ hq (Array.getElem?_eq_getElem hlt),rfl⟩
      have hres:RV G (.sl false (if full then .full else .no) s ((List.range n).map λi=>((cs.drop (off+i*s)).take s).map (frz d H))) (.slice (some ⟨b,o,none⟩) ((List.range n).map λi=>((cs.drop (off+i*s)).take s).map (frz d H)).length cap):=by
       refine .sl (λi j=>(vs[off+i*s+j]?).getD (.bool true)) (by rw[hl];exact hn) hm (λi e he=>?_) (λi j e p he hp=>?_) (λi j e p he hp=>?_) ?_
       ·obtain⟨i',hi,rfl⟩:=Xw he
        have hin:i'<n:=by simpa using List.mem_of_getElem? hi
        have:off+i'*s+s<=off+n*s:=by
         have:(i'+1)*s<=n*s:=Nat.mul_le_mul_right _ (by omega)
         rw[Nat.add_mul]at this;omega
        simp only[List.length_map,List.length_take,List.length_drop]
        omega
       ·obtain⟨h4,h5,q,v,e1,_,_⟩:=key i j e p he hp
        rw[ho (by omega)]
        exact hB k b _ _ hb (by rw[Yr h2,e1];rfl)
       ·obtain⟨_,_,q,v,e1,e2,rfl⟩:=key i j e p he hp
        rw[e1]
        exact ih e2
       ·cases full with
        |true=>simp only[if_true];show cap=_;rw[hl];exact hf rfl
        |false=>trivial
      rw[hl]at hres
      exact hres
    ·exact .any _
   ·exact .any _
  |yl=>exact .any _
def cellsB:Blk->Bool
 |.cells _=>true
 |_=>false
theorem step_ghw {g:Gh} {H:List Blk} {w w':World} {n:Nat} (hS:Step 0 (ghw w) w g w') (g0:Gh):Step n g0 w g0 w':=⟨.refl g0,λ_ _=>rfl,hS.os,hS.tape,hS.output,hS.size,λb hb _=>hS.block b hb rfl,λb k h=>.inl h,λ_ _ _ _=>rfl⟩
theorem lt_of_cell {w:World} {b o:Nat} {v:Value} (h:w.cell? ⟨b,o,none⟩=some v):b<w.heap.size:=World.block_lt_of_cell? w ⟨b,o,none⟩ h
theorem call_frz {P:Program} {f:FuncId} {args:List PV} {H:List Blk} {x:Value} (d:Nat) {args0:List PV} (h:ACall P f args0 [] λq k=>q=.sc x/\k=[]) (ha:args.map (frz d H)=args0:=by kernel_rfl) (hH:H.all cellsB=true:=by rfl):ACall P f args H λq k=>q=.sc x/\k=H:=by
 subst ha
 refine⟨h.1,λg w vs hI hL=>(h.2 (ghw w) w vs (inv_ghw w) ⟨by simpa using hL.1,λi p v hp hv=>?_⟩).mono λe w' ⟨v,r,H',g2,he,⟨hr,_⟩,hS,_,_,hv⟩=>?_⟩
 ·obtain⟨q,hq,rfl⟩:=Xw hp
  exact frz_sound hI (λb o v h=>hI.C b o v h) (λk b o v _ h=>h) d (hL.2 i q v hq hv)
 ·subst hr
  have hv':RV g (.sc x) v:=by cases hv with|sc h=>exact .sc h
  have hb:∀ b,b<w.heap.size->w'.heap[b]?=w.heap[b]?:=λb h=>hS.block b h rfl
  refine⟨v,_,H,g,he,⟨rfl,rfl⟩,step_ghw (H:=H) hS g,Nat.le_refl _,⟨λb o v h=>?_,λk y hy=>?_,hI.own,λb k h=>Nat.lt_of_lt_of_le (hI.lt b k h) hS.size,hI.domB,hI.domT,hI.domO⟩,hv'⟩
  ·have h1:=hI.C b o v h
   exact(World.cell?_of_block (w:=w) (hb b (lt_of_cell h1))).trans h1
  ·have hc:=List.all_eq_true.1 hH y (List.mem_of_getElem? hy)
   cases y with
   |cells cs=>
    rcases hI.blk k _ hy with h1|⟨b,vs,e,h1,h2,h3⟩
    ·exact .inl h1
    ·exact .inr ⟨b,vs,e,h1,(hb b (by rw[Array.getElem?_eq_some_iff]at h2;exact h2.1)).trans h2,h3⟩
   |_=>cases hc
theorem weak_frz {N:Nat} {le:List (Nat×PV)} {H:List Blk} (d:Nat) (le':List (Nat×PV)) (hv:(le'.map λx=>((mk N le).map (frz d H))[x.1]?)=vals le':=by kernel_rfl):WeakS [] (mk N le) H (mk N le') []:=by
 refine WeakS.trans (env2:=(mk N le).map (frz d H)) (H2:=[]) (λg0 w0 a w g hI hA=>?_) (weak_mk (by simp[mk,Yk]) hv)
 have hO0:∀ b,g0.O b=none:=λb=>by
  cases h:g0.O b with
  |none=>rfl
  |some k=>exact absurd (hI.domO b k h) (by simp)
 have hO:∀ b k,g.O b=some k->w0.heap.size<=b:=λb k h=>(hA.step.O b k h).resolve_left (by rw[hO0];simp)
 let G:Gh:=⟨λb o=>if b<w0.heap.size then g0.C b o else w.cell? ⟨b,o,none⟩,λ_ _=>none,λ_=>none,λ_=>none⟩
 have hGC:∀ b o v,g.C b o=some v->G.C b o=some v:=λb o v h=>by
  show(if b<w0.heap.size then g0.C b o else w.cell? ⟨b,o,none⟩)=some v
  split
  ·rename_i hb
   rw[<-hA.step.C b o (hO0 b) hb];exact h
  ·exact hA.inv.C b o v h
 have hGB:∀ k b o v,g.B k=some b->w.cell? ⟨b,o,none⟩=some v->G.C b o=some v:=λk b o v h hv=>by
  have:=hO b k (hA.inv.own k b h)
  show(if b<w0.heap.size then g0.C b o else w.cell? ⟨b,o,none⟩)=some v
  rw[if_neg (by omega)]
  exact hv
 have none0:∀ {α:Type} {x:Option α},(∀ y,x=some y->False)->x=none:=λ{α x} h=>by cases x with|none=>rfl|some y=>exact(h y rfl).elim
 refine⟨G,⟨⟨λb o v h=>?_,λj n x h=>?_,λk b h=>?_,λb k h=>?_⟩,λk hk=>by simp at hk,hA.step.os,hA.step.tape,hA.step.output,hA.step.size,hA.step.block,λb k h=>(nomatch h),λb o _ hb=>?_⟩,
  ⟨λb o v h=>?_,λk x h=>by simp at h,λk b h=>(nomatch h),λb k h=>(nomatch h),λ_ _=>rfl,λ_ _ _=>rfl,λb k h=>(nomatch h)⟩,⟨by simpa using hA.env.1,λi p v hp hv=>?_⟩,?_,Nat.le_refl _⟩
 ·exact hGC b o v (hA.step.le.C b o v h)
 ·rw[hI.domT j n (Nat.zero_le _)]at h;cases h
 ·rw[hI.domB k (Nat.zero_le _)]at h;cases h
 ·rw[hO0]at h;cases h
 ·show(if b<w0.heap.size then g0.C b o else w.cell? ⟨b,o,none⟩)=_
  rw[if_pos hb]
 ·have h:(if b<w0.heap.size then g0.C b o else w.cell? ⟨b,o,none⟩)=some v:=h
  split at h
  ·exact hA.inv.C b o v (hA.step.le.C b o v h)
  ·exact h
 ·obtain⟨q,hq,rfl⟩:=Xw hp
  exact frz_sound hA.inv hGC hGB d (hA.env.2 i q v hq hv)
 ·obtain⟨bs,h1,h2,h3⟩:=hA.defers
  exact⟨bs,h1,h2,λb hb=>by obtain⟨k1,k2,k3,k4⟩:=h3 b hb;exact⟨k1,k2,rfl,k4⟩⟩
end Go.PE
