/- A part of the proof. -/
import Derived.Test.YtibndgdocbbbeaaGreatSY10
set_option linter.all false
namespace Go.PE
variable {P:Program}
def PSubK (k:Nat) (p q:PV):Prop:=∀ (g:Gh) (v:Value),(∃ x,g.T k 0=some x)->RV g p v->RV g q v
theorem Xy {k:Nat} (p:PV):PSubK k p p:=λ_ _ _ h=>h
theorem pk_lit {α:Type} {c:α->List PV} {s k:Nat} {a:α} {l:List α}:PSubK k (eS s c (.full (a::l))) (nP k s c (a::l)):=λg v hx h=>by
 show RV g (.sl false (.own k) s (List.map c (a::l))) v
 have h:RV g (.sl false .full s (List.map c (a::l))) v:=h
 generalize hes:List.map c (a::l)=es at h ⊢
 cases h with
 |em=>cases hes
 |sl vf h1 h2 h3 h4 h5 h6=>exact .sl vf h1 h2 h3 h4 h5 (.inl ⟨h6,hx⟩)
def SubKE (k:Nat) (le:List (Nat×PV)):List (Nat×PV)->Prop
 |[]=>True
 |x::l=>PSubK k (look le x.1) x.2/\SubKE k le l
theorem kc {k:Nat} {le l:List (Nat×PV)} {n:Nat} {q:PV} (h:PSubK k (look le n) q) (hl:SubKE k le l):SubKE k le ((n,q)::l):=⟨h,hl⟩
theorem ke {k:Nat} {le:List (Nat×PV)}:SubKE k le []:=trivial
theorem SubKE.mem {k:Nat} {le:List (Nat×PV)}:∀ {l:List (Nat×PV)},SubKE k le l->∀ x∈l,PSubK k (look le x.1) x.2
 |[],_,x,h=>by cases h
 |y::l,h,x,hx=>by
  rcases List.mem_cons.1 hx with rfl|hx
  ·exact h.1
  ·exact SubKE.mem h.2 x hx
theorem weak_lit {H0 H:List Blk} {N:Nat} {le le':List (Nat×PV)} (n s:Nat) (h:SubKE H.length le le'):WeakS H0 (mk N le) H (mk N le') (H++[.grow (n+1) s]):=by
 intro g0 w0 a w g hI hA
 have hT:∀ i,g.T H.length i=none:=λi=>hA.inv.domT _ _ (Nat.le_refl _)
 let g':Gh:={ g with T:=λk i=>if k=H.length/\i=0 then some (0,0)else g.T k i }
 have hle:g.le g':=⟨λ_ _ _ h=>h,λk i x hx=>by
  show(if k=H.length/\i=0 then _ else _)=_
  rw[if_neg (λq=>by rw[q.1,hT]at hx;cases hx)];exact hx,λ_ _ h=>h,λ_ _ h=>h⟩
 have hS:=hA.step
 refine⟨g',⟨hS.le.trans hle,hS.B,hS.os,hS.tape,hS.output,hS.size,hS.block,hS.O,hS.C⟩,⟨hA.inv.C,λk x hk=>?_,hA.inv.own,hA.inv.lt,λk hk=>hA.inv.domB k (by simp at hk;omega),λk n hk=>?_,λb k hk=>by have:=hA.inv.domO b k hk;simp;omega⟩,⟨?_,λi p v hp hv=>?_⟩,hA.defers,by have:=hA.len;simp;omega⟩
 ·rcases Nat.lt_or_ge k H.length with h1|h1
  ·rw[List.getElem?_append_left h1]at hk
   exact(hA.inv.blk k x hk).keep hle rfl (λi=>by show(if k=H.length/\i=0 then _ else _)=_;rw[if_neg (λq=>by omega)]) (λc hc=>⟨rfl,λ_=>rfl⟩) hA.inv.own
  ·rw[List.getElem?_append_right h1]at hk
   have h2:=List.mem_of_getElem? hk
   simp at h2
   subst h2
   refine⟨λn' hn=>?_,λb cap ht=>?_⟩
   ·show(if k=H.length/\n'=0 then _ else _)=_
    rw[if_neg (λq=>by omega)];exact hA.inv.domT k n' h1
   ·have ht:(if k=H.length/\n+1=0 then some (0,0)else g.T k (n+1))=some (b,cap):=ht
    rw[if_neg (λq=>by omega),hA.inv.domT k _ h1]at ht;cases ht
 ·show(if k=H.length/\n=0 then _ else _)=_
  simp at hk
  rw[if_neg (λq=>by omega)]
  exact hA.inv.domT k n (by omega)
 ·rw[<-hA.env.1];simp[mk,Xu]
 ·have e:=Yw le' N 0 i p hp
  have hi:i<N:=by have:=(List.getElem?_eq_some_iff.1 hp).1;simpa [mk,Xu] using this
  have hq:(mk N le)[i]?=some (look le i):=by have:=Wr le N 0 i hi;simpa [mk] using this
  rw[Nat.zero_add]at e
  rcases Vv le' i with h1|h1
  ·rw[e,h1];exact .any _
  ·rw[<-e]at h1
   exact h.mem _ h1 _ _ ⟨_,if_pos ⟨rfl,rfl⟩⟩ ((hA.env.2 i _ v hq hv).mono hle)
end Go.PE
namespace Go.PE
open Go.RowKit
variable {P:Program}
inductive Fzr {α:Type} (k s:Nat) (c:α->List PV) (l:List α):PV->PV->Prop
 |cl {p:PV} (h:Cl p):Fzr k s c l p p
 |bp {j o:Nat} (h:j≠k):Fzr k s c l (.bp j o) (.bp j o)
 |row {full:Bool} {n:Nat} (h:n<=l.length):Fzr k s c l (.bs k 0 n s full) (.sl false .no s ((l.take n).map c))
 |ptr:Fzr k s c l (.bp k 0) (.ip ((l.map c).flatten))
def FzrE {α:Type} (k s:Nat) (c:α->List PV) (l:List α) (le:List (Nat×PV)):List (Nat×PV)->Prop
 |[]=>True
 |x::r=>Fzr k s c l (look le x.1) x.2/\FzrE k s c l le r
theorem FzrE.mem {α:Type} {k s:Nat} {c:α->List PV} {l:List α} {le:List (Nat×PV)}:∀ {r:List (Nat×PV)},FzrE k s c l le r->∀ x∈r,Fzr k s c l (look le x.1) x.2
 |[],_,x,h=>by cases h
 |y::r,h,x,hx=>by
  rcases List.mem_cons.1 hx with rfl|hx
  ·exact h.1
  ·exact FzrE.mem h.2 x hx
theorem FzrE.look {α:Type} {k s:Nat} {c:α->List PV} {l:List α} {le le':List (Nat×PV)} (h:FzrE k s c l le le') (i:Nat):Go.PE.look le' i=.any\/Fzr k s c l (Go.PE.look le i) (Go.PE.look le' i):=by
 rcases Vv le' i with h1|h1
 ·exact .inl h1
 ·exact .inr (h.mem _ h1)
def FzrL {α:Type} (k s:Nat) (c:α->List PV) (l:List α):List PV->List PV->Prop
 |[],[]=>True
 |p::ps,q::qs=>Fzr k s c l p q/\FzrL k s c l ps qs
 |_,_=>False
theorem FzrL.len {α:Type} {k s:Nat} {c:α->List PV} {l:List α}:∀ {ps qs:List PV},FzrL k s c l ps qs->ps.length=qs.length
 |[],[],_=>rfl
 |_::_,_::_,h=>by simp[FzrL.len h.2]
 |[],_::_,h=>h.elim
 |_::_,[],h=>h.elim
theorem FzrL.get {α:Type} {k s:Nat} {c:α->List PV} {l:List α}:∀ {ps qs:List PV},FzrL k s c l ps qs->∀ (i:Nat) (q:PV),qs[i]?=some q->∃ p,ps[i]?=some p/\Fzr k s c l p q
 |[],[],_,i,q,hq=>by simp at hq
 |p::ps,q::qs,h,0,q',hq=>by simp at hq;subst hq;exact⟨p,rfl,h.1⟩
 |p::ps,q::qs,h,i+1,q',hq=>FzrL.get h.2 i q' hq
 |[],_::_,h,_,_,_=>h.elim
 |_::_,[],h,_,_,_=>h.elim
def FzrB {α:Type} (k s:Nat) (c:α->List PV) (l:List α):Nat->List Blk->List Blk->Prop
 |_,[],[]=>True
 |i,x::H,y::H'=>((i=k/\y=.cells [])\/(∃ cs cs',x=.cells cs/\y=.cells cs'/\FzrL k s c l cs cs')\/(BCl x/\x=y))/\FzrB k s c l (i+1) H H'
 |_,_,_=>False
theorem FzrB.len {α:Type} {k s:Nat} {c:α->List PV} {l:List α}:∀ {i:Nat} {H H':List Blk},FzrB k s c l i H H'->H.length=H'.length
 |_,[],[],_=>rfl
 |_,_::_,_::_,h=>by simp[FzrB.len h.2]
 |_,[],_::_,h=>h.elim
 |_,_::_,[],h=>h.elim
theorem FzrB.get {α:Type} {k s:Nat} {c:α->List PV} {l:List α}:∀ {i:Nat} {H H':List Blk},FzrB k s c l i H H'->∀ (j:Nat) (y:Blk),H'[j]?=some y->∃ x,H[j]?=some x/\((i+j=k/\y=.cells [])\/(∃ cs cs',x=.cells cs/\y=.cells cs'/\FzrL k s c l cs cs')\/(BCl x/\x=y))
 |_,[],[],_,j,y,hy=>by simp at hy
 |i,x::H,y::H',h,0,y',hy=>by simp at hy;subst hy;exact⟨x,rfl,h.1⟩
 |i,x::H,y::H',h,j+1,y',hy=>by
  obtain⟨z,hz,hr⟩:=FzrB.get h.2 j y' hy
  exact⟨z,hz,by rw[show i+(j+1)=i+1+j by omega];exact hr⟩
 |_,[],_::_,h,_,_,_=>h.elim
 |_,_::_,[],h,_,_,_=>h.elim
theorem weak_frzG {H0 H H':List Blk} {N:Nat} {le le':List (Nat×PV)} {α:Type} {c:α->List PV} {l:List α} {s k:Nat} (hk:H0.length<=k) (hH:H[k]?=some (.cells ((l.map c).flatten))) (hc:∀ x,(c x).length=s) (hcl:∀ x,Cls (c x)) (hle:FzrE k s c l le le') (hB:FzrB k s c l 0 H H'):
  WeakS H0 (mk N le) H (mk N le') H':=by
 have hHl:=hB.len
 refine λg0 w0 a w g hI hA=>?_
 have hkl:k<H.length:=(List.getElem?_eq_some_iff.1 hH).1
 rcases hA.inv.blk k _ hH with hb|⟨b,vs,e,hb,hheap,hL,hC0⟩
 ·
  have key:∀ {p q:PV} {v:Value},Fzr k s c l p q->RV g p v->RV g q v:=λ{p q v} h hv=>by
   cases h with
   |cl h=>exact hv
   |bp h=>exact hv
   |row _=>cases hv with|bs h _ _ _ _=>rw[hb]at h;cases h
   |ptr=>cases hv with|bp h=>rw[hb]at h;cases h
  refine⟨g,hA.step,⟨hA.inv.C,λi x hx=>?_,hA.inv.own,hA.inv.lt,λi hi=>hA.inv.domB i (by omega),λi n hi=>hA.inv.domT i n (by omega),λb i hi=>by have:=hA.inv.domO b i hi;omega⟩,⟨?_,λi p v hp hv=>?_⟩,hA.defers,by have:=hA.len;omega⟩
  ·obtain⟨y,hy,hr⟩:=hB.get i x hx
   rw[Nat.zero_add]at hr
   rcases hr with ⟨rfl,rfl⟩|⟨cs,cs',rfl,rfl,hq⟩|⟨_,rfl⟩
   ·exact .inl hb
   ·rcases hA.inv.blk i _ hy with h1|⟨b1,vs1,e1,k1,k2,k3,k4⟩
    ·exact .inl h1
    ·exact .inr ⟨b1,vs1,e1,k1,k2,⟨hq.len▸k3.1,λj q v hq' hv=>by obtain⟨p,hp,hpq⟩:=hq.get j q hq';exact key hpq (k3.2 j p v hp hv)⟩,k4⟩
   ·exact hA.inv.blk i _ hy
  ·rw[<-hA.env.1];simp[mk,Xu]
  ·have e1:=Yw le' N 0 i p hp
   have hi:i<N:=by have:=(List.getElem?_eq_some_iff.1 hp).1;simpa [mk,Xu] using this
   have hq:(mk N le)[i]?=some (look le i):=by have:=Wr le N 0 i hi;simpa [mk] using this
   rw[Nat.zero_add]at e1
   subst e1
   have hv1:=hA.env.2 i _ v hq hv
   rcases hle.look i with h2|h2
   ·rw[h2];exact .any _
   ·exact key h2 hv1
 ·have hO:=hA.inv.own k b hb
  have hbw:w0.heap.size<=b:=by
   rcases hA.step.O b k hO with h1|h1
   ·have:=hI.domO b k h1;omega
   ·exact h1
  have hg0:g0.O b=none:=by
   cases h1:g0.O b with
   |none=>rfl
   |some j=>have:=hI.lt b j h1;omega
  let g2:Gh:=⟨λb' o=>if b'=b then vs[o]? else g.C b' o,g.T,λj=>if j=k then none else g.B j,λb'=>if b'=b then none else g.O b'⟩
  have hCle:∀ b' o v,g.C b' o=some v->g2.C b' o=some v:=λb' o v h=>by
   show(if b'=b then vs[o]? else g.C b' o)=some v
   by_cases e1:b'=b
   ·subst e1;rw[hC0 o]at h;cases h
   ·rw[if_neg e1];exact h
  have hcl2:∀ {p v},RV g p v->Cl p->RV g2 p v:=λh hp=>h.cl hCle hp
  have hBo:∀ j b',g2.B j=some b'->j≠k/\g.B j=some b':=λj b' h=>by
   have h:(if j=k then none else g.B j)=some b':=h
   split at h
   ·cases h
   ·rename_i e1;exact⟨e1,h⟩
  have hbne:∀ j b',j≠k->g.O b'=some j->b'≠b:=λj b' hj h e1=>by
   subst e1;rw[hO]at h;cases h;exact hj rfl
  have key:∀ {p q:PV} {v:Value},Fzr k s c l p q->RV g p v->RV g2 q v:=λ{p q v} h hv1=>by
   cases h with
   |cl h=>exact hcl2 hv1 h
   |bp hj=>cases hv1 with|bp h=>exact .bp ((if_neg hj:(if _=k then none else g.B _)=g.B _).trans h)
   |ptr=>
    cases hv1 with
    |@bp _ _ b1 hb1=>
     rw[hb]at hb1
     cases hb1
     have at':∀ (j:Nat) (p:PV),((l.map c).flatten)[j]?=some p->vs[j]?=some ((vs[j]?).getD .nilFunc):=λj p hp=>by
      have hlt:j<vs.size:=Nat.lt_of_lt_of_le (List.getElem?_eq_some_iff.1 hp).1 hL.1
      rw[Array.getElem?_eq_getElem hlt];rfl
     refine .ip (λj=>(vs[j]?).getD .nilFunc) (λj p hp=>?_) (λj p hp=>?_)
     ·show(if b=b then vs[0+j]? else _)=some _
      rw[if_pos rfl,Nat.zero_add]
      exact at' j p hp
     ·refine hcl2 (hL.2 j p _ hp (at' j p hp)) ?_
      obtain⟨e,he,hpe⟩:=List.mem_flatten.1 (List.mem_of_getElem? hp)
      obtain⟨x,_,rfl⟩:=List.mem_map.1 he
      exact hcl x p hpe
   |@row full n hln=>
    cases hv1 with
    |@bs _ _ _ _ b1 o1 cap1 _ hb1 hn hm hf ho=>
     rw[hb]at hb1
     cases hb1
     have hlen:((l.take n).map c).length=n:=by simp;omega
     have hget:∀ {i:Nat} {e:List PV},((l.take n).map c)[i]?=some e->(l.map c)[i]?=some e:=λ{i e} he=>by
      obtain⟨x,hx,rfl⟩:=Yu he
      have hi:i<n:=by have:=(List.getElem?_eq_some_iff.1 hx).1;simp at this;omega
      rw[List.getElem?_take_of_lt hi]at hx
      simp[hx]
     have out:RV g2 (.sl false .no s ((l.take n).map c)) (.slice (some ⟨b,o1,none⟩) ((l.take n).map c).length cap1):=by
      refine .sl (λi j=>(vs[i*s+j]?).getD .nilFunc) (by rw[hlen];exact hn) hm (λi e he=>?_) (λi j e p he hp=>?_) (λi j e p he hp=>?_) trivial
      ·obtain⟨x,_,rfl⟩:=Yu he;exact hc x
      ·have hil:i<n:=by have:=(List.getElem?_eq_some_iff.1 he).1;simp at this;omega
       have h0:o1=0:=ho (by omega)
       subst h0
       have hf:=rowf_get hc (hget he) hp
       have hlt:i*s+j<vs.size:=Nat.lt_of_lt_of_le (List.getElem?_eq_some_iff.1 hf).1 hL.1
       show(if b=b then vs[0+i*s+j]? else _)=some _
       rw[if_pos rfl,Nat.zero_add,Array.getElem?_eq_getElem hlt]
       rfl
      ·have hf:=rowf_get hc (hget he) hp
       have hlt:i*s+j<vs.size:=Nat.lt_of_lt_of_le (List.getElem?_eq_some_iff.1 hf).1 hL.1
       rw[Array.getElem?_eq_getElem hlt]
       refine hcl2 (hL.2 _ p _ hf (Array.getElem?_eq_getElem hlt)) ?_
       obtain⟨x,_,rfl⟩:=Yu he
       exact hcl x p (List.mem_of_getElem? hp)
     rw[hlen]at out
     exact out
  refine⟨g2,⟨⟨λb' o v h=>hCle b' o v (hA.step.le.C b' o v h),hA.step.le.T,λj b' h=>?_,λb' j h=>?_⟩,λj hj=>?_,hA.step.os,hA.step.tape,hA.step.output,hA.step.size,hA.step.block,λb' j h=>?_,λb' o ho hb'=>?_⟩,
   ⟨λb' o v h=>?_,λi x hx=>?_,λj b' h=>?_,λb' j h=>?_,λj hj=>?_,λj n hj=>hA.inv.domT j n (by omega),λb' j h=>?_⟩,⟨?_,λi p v hp hv=>?_⟩,?_,by have:=hA.len;omega⟩
  ·show(if j=k then none else g.B j)=some b'
   have hj:j<H0.length:=by
    rcases Nat.lt_or_ge j H0.length with h1|h1
    ·exact h1
    ·rw[hI.domB j h1]at h;cases h
   rw[if_neg (by omega)]
   exact hA.step.le.B j b' h
  ·show(if b'=b then none else g.O b')=some j
   rw[if_neg (λe1=>by subst e1;rw[hg0]at h;cases h)]
   exact hA.step.le.O b' j h
  ·show(if j=k then none else g.B j)=g0.B j
   rw[if_neg (by omega)]
   exact hA.step.B j hj
  ·have h:(if b'=b then none else g.O b')=some j:=h
   split at h
   ·cases h
   ·exact hA.step.O b' j h
  ·show(if b'=b then vs[o]? else g.C b' o)=g0.C b' o
   rw[if_neg (by omega)]
   exact hA.step.C b' o ho hb'
  ·have h2:(if b'=b then vs[o]? else g.C b' o)=some v:=h
   by_cases e1:b'=b
   ·rw[if_pos e1]at h2
    subst e1
    rw[Yt hheap];exact h2
   ·rw[if_neg e1]at h2
    exact hA.inv.C b' o v h2
  ·obtain⟨y,hy,hr⟩:=hB.get i x hx
   rw[Nat.zero_add]at hr
   rcases hr with ⟨rfl,rfl⟩|⟨cs,cs',rfl,rfl,hq⟩|⟨hbc,rfl⟩
   ·exact .inl (if_pos rfl)
   ·by_cases ek:i=k
    ·subst ek;exact .inl (if_pos rfl)
    have hBi:g2.B i=g.B i:=if_neg ek
    rcases hA.inv.blk i _ hy with h1|⟨b1,vs1,e1,k1,k2,k3,k4⟩
    ·exact .inl (hBi.trans h1)
    ·have hne:=hbne i b1 ek (hA.inv.own i b1 k1)
     exact .inr ⟨b1,vs1,e1,hBi.trans k1,k2,⟨hq.len▸k3.1,λj q v hq' hv=>by obtain⟨p,hp,hpq⟩:=hq.get j q hq';exact key hpq (k3.2 j p v hp hv)⟩,λo=>by show(if b1=b then vs[o]? else g.C b1 o)=none;rw[if_neg hne];exact k4 o⟩
   ·by_cases ek:i=k
    ·subst ek
     rw[hH]at hy
     cases hy
     exact .inl (if_pos rfl)
    have hBi:g2.B i=g.B i:=if_neg ek
    have hx:=hy
    cases y with
    |cells cs=>
     rcases hA.inv.blk i _ hx with h1|⟨b1,vs1,e1,k1,k2,k3,k4⟩
     ·exact .inl (hBi.trans h1)
     ·have hne:=hbne i b1 ek (hA.inv.own i b1 k1)
      exact .inr ⟨b1,vs1,e1,hBi.trans k1,k2,⟨k3.1,λj p v hp hv=>hcl2 (k3.2 j p v hp hv) (hbc p (List.mem_of_getElem? hp))⟩,λo=>by show(if b1=b then vs[o]? else g.C b1 o)=none;rw[if_neg hne];exact k4 o⟩
    |grow n z=>
     obtain⟨k1,k2⟩:=hA.inv.blk i _ hx
     refine⟨k1,λb1 cap ht=>?_⟩
     obtain⟨q1,q2,q3,q4,q5⟩:=k2 b1 cap ht
     have hne:=hbne i b1 ek q1
     exact⟨by show(if b1=b then none else g.O b1)=some i;rw[if_neg hne];exact q1,q2,q3,q4,λo ho=>by show(if b1=b then vs[o]? else g.C b1 o)=none;rw[if_neg hne];exact q5 o ho⟩
    |tgrow n z cs=>
     obtain⟨k1,c1,c2,k2⟩:=hA.inv.blk i _ hx
     refine⟨k1,c1,c2,λb1 cap ht=>?_⟩
     obtain⟨q1,⟨vs1,e1,q2,q3,q6⟩,q4,q5,q7⟩:=k2 b1 cap ht
     have hne:=hbne i b1 ek q1
     exact⟨by show(if b1=b then none else g.O b1)=some i;rw[if_neg hne];exact q1,⟨vs1,e1,q2,q3,q6.sc c2⟩,q4,q5,λo=>by show(if b1=b then vs[o]? else g.C b1 o)=none;rw[if_neg hne];exact q7 o⟩
    |map ks vals clock=>
     rcases hA.inv.blk i _ hx with h1|⟨b1,es,k1,k2,k3,k4⟩
     ·exact .inl (hBi.trans h1)
     ·exact .inr ⟨b1,es,hBi.trans k1,k2,k3,⟨k4.1,λj p v hp hv=>hcl2 (k4.2 j p v hp hv) (hbc p (List.mem_of_getElem? hp))⟩⟩
    |iter _ _ _ _=>exact hbc.elim
    |loop _ _ _ _ _ _ _ _=>exact hbc.elim
  ·obtain⟨h1,h2⟩:=hBo j b' h
   have h3:=hA.inv.own j b' h2
   show(if b'=b then none else g.O b')=some j
   rw[if_neg (hbne j b' h1 h3)]
   exact h3
  ·have h:(if b'=b then none else g.O b')=some j:=h
   split at h
   ·cases h
   ·exact hA.inv.lt b' j h
  ·show(if j=k then none else g.B j)=none
   split
   ·rfl
   ·exact hA.inv.domB j (by omega)
  ·have h:(if b'=b then none else g.O b')=some j:=h
   split at h
   ·cases h
   ·have:=hA.inv.domO b' j h;omega
  ·rw[<-hA.env.1];simp[mk,Xu]
  ·have e1:=Yw le' N 0 i p hp
   have hi:i<N:=by have:=(List.getElem?_eq_some_iff.1 hp).1;simpa [mk,Xu] using this
   have hq:(mk N le)[i]?=some (look le i):=by have:=Wr le N 0 i hi;simpa [mk] using this
   rw[Nat.zero_add]at e1
   subst e1
   have hv1:=hA.env.2 i _ v hq hv
   rcases hle.look i with h2|h2
   ·rw[h2];exact .any _
   ·exact key h2 hv1
  ·obtain⟨bs,d1,d2,d3⟩:=hA.defers
   refine⟨bs,d1,d2,λb' hb'=>?_⟩
   obtain⟨k1,k2,k3,k4⟩:=d3 b' hb'
   refine⟨k1,k2,?_,k4⟩
   show(if b'=b then none else g.O b')=none
   split
   ·rfl
   ·exact k3
theorem fd_loadR {α:Type} {c:α->List PV} {l:List α} {k s off:Nat} {i:Int} {x:α} {p:PV} (h:gx l i=some x) (hc:∀ x,(c x).length=s) (hp:(c x)[off]?=some p):Nt.ok P (.fd (.load none (.c (.bp k (0+i.toNat*s+off)))) [k] [.cells ((l.map c).flatten)] p):=λF hF=>by
 have hF:F[k]?=some (.cells ((l.map c).flatten)):=get_of hF
 unfold gx at h
 split at h
 case isFalse=>cases h
 have he:(l.map c)[i.toNat]?=some (c x):=by simp[h]
 have:=rowf_get hc he hp
 simp only[AStep,aop,Opd.ev,hF,Yy,Nat.zero_add,List.head?_drop,this,Option.map_some]
 exact⟨trivial,trivial⟩
theorem flat_set {α:Type} {c:α->List PV} {s off:Nat} (hc:∀ x,(c x).length=s) (ho:off<s) {x:α} {vp:PV}:∀ (l:List α) (i:Nat),(∀ y,l[i]?=some y->c x=(c y).set off vp)->i<l.length->((l.set i x).map c).flatten=((l.map c).flatten).set (i*s+off) vp
 |[],i,_,h=>by simp at h
 |y::l,0,h,_=>by
  have e:=h y rfl
  simp only[List.set_cons_zero,List.map_cons,List.flatten_cons,Nat.zero_mul,Nat.zero_add,e]
  rw[List.set_append_left _ _ (by rw[hc];exact ho)]
 |y::l,i+1,h,hi=>by
  have ih:=flat_set hc ho l i (λz hz=>h z (by simpa using hz)) (by simpa using hi)
  simp only[List.set_cons_succ,List.map_cons,List.flatten_cons,ih]
  rw[List.set_append_right _ _ (by rw[hc,Nat.add_mul];omega),hc,show(i+1)*s+off-s=i*s+off by rw[Nat.add_mul];omega]
theorem fr_storeR {α:Type} {c:α->List PV} {l q:List α} {k s off:Nat} {i:Int} {x:α} {vp:PV} (h:gset l i x=some q) (hc:∀ x,(c x).length=s) (hv:∀ y,gx l i=some y->c x=(c y).set off vp) (ho:off<s) (h1:vp.cells=[vp]) (h2:vp.cellP=true):
  Nt.ok P (.fr (.store 1 (.c (.bp k (0+i.toNat*s+off))) (.c vp)) [k] [.cells ((l.map c).flatten)] [.cells ((q.map c).flatten)] (.tup [])):=λF hF=>by
 have hF:F[k]?=some (.cells ((l.map c).flatten)):=get_of hF
 unfold gset at h
 split at h
 case isFalse=>cases h
 rename_i h0
 cases h
 have hi:i.toNat<l.length:=by omega
 have hlen:((l.map c).flatten).length=l.length*s:=rowf_len hc l
 have hlt:i.toNat*s+off<((l.map c).flatten).length:=by
  rw[hlen]
  have:(i.toNat+1)*s<=l.length*s:=Nat.mul_le_mul_right _ (by omega)
  rw[Nat.add_mul]at this
  omega
 have e:=flat_set (x:=x) (vp:=vp) hc ho l i.toNat (λy hy=>hv y (by unfold gx;rw[if_pos h0.1,hy])) hi
 simp only[AStep,aop,Opd.ev,hF,Nat.zero_add,h1]
 rw[if_pos ⟨rfl,by omega,by simp[h2]⟩]
 refine⟨rfl,?_⟩
 show F.set k _=putL F [k] _
 simp only[putL,e]
 congr 2
 rw[List.set_eq_take_append_cons_drop,if_pos hlt]
 simp
end Go.PE
namespace Go.PE
open Go.RowKit
variable {P:Program}
theorem strip_ts {m j n s:Nat} (h:Nat.blt j m=true):(PV.ts j n s).strip m=.ts j n s:=by
 simp only[PV.strip]
 rw[if_pos (.inr (Nat.le_of_ble_eq_true h))]
instance {m j n s:Nat} [h:BltI j m]:StP m (.ts j n s):=⟨strip_ts h.h⟩
instance {m n s:Nat} {cs:List PV}:BlkI m (.tgrow n s cs):=⟨rfl⟩
instance {l:List Nat} {i k n s:Nat} [h:GetI l i k]:RnI l (.ts i n s) (.ts k n s):=⟨rn_ts h.h⟩
instance {l:List Nat} {n s:Nat} {cs:List PV}:RnBI l (.tgrow n s cs) (.tgrow n s cs):=⟨⟨rfl,rfl,rfl⟩⟩
abbrev tsP {α:Type} (j s:Nat) (l:List α):PV:=.ts j (List.length l) s
abbrev tgB {α:Type} (s:Nat) (c:α->List PV) (l:List α):Blk:=.tgrow (List.length l) s ((List.map c l).flatten)
theorem weak_tgrow {H0 H:List Blk} {env:List PV} (s:Nat):WeakS H0 env H env (H++[.tgrow 0 s []]):=by
 refine λg0 w0 a w g hI hA=>⟨g,hA.step,⟨hA.inv.C,λk x hk=>?_,hA.inv.own,hA.inv.lt,λk hk=>hA.inv.domB k (by simp at hk;omega),λk n hk=>hA.inv.domT k n (by simp at hk;omega),λb k hk=>by have:=hA.inv.domO b k hk;simp;omega⟩,hA.env,hA.defers,by have:=hA.len;simp;omega⟩
 rcases Nat.lt_or_ge k H.length with h1|h1
 ·rw[List.getElem?_append_left h1]at hk;exact hA.inv.blk k x hk
 ·rw[List.getElem?_append_right h1]at hk
  have:=List.mem_of_getElem? hk
  simp at this
  subst this
  refine⟨λn' _=>hA.inv.domT k n' h1,by simp,rfl,λb cap ht=>?_⟩
  rw[hA.inv.domT k 0 h1]at ht;cases ht
theorem psub_tnil {α:Type} {c:α->List PV} {s j z:Nat}:PSub (eS s c .nil) (.ts j 0 z):=λg v hv=>by
 cases hv with
 |nilsl=>exact .tsn rfl
theorem gCT {f:FuncId} {fn:Func} {args:List PV} {Q:PV->List Blk->Prop} (s:Nat) (hf:P.funcs[f]?=some fn) (h:GX P [] (acOf P fn) (mk fn.ntmps (Vk 0 args)) [.tgrow 0 s []] (Ends (rsOf P fn) [] Q)) (hok:okF P fn=true:=by kernel_rfl) (hmix:P.follows .mixedOrders=true:=by kernel_rfl) (hl:Nat.ble args.length fn.ntmps=true:=by kernel_rfl):ACall P f args [] Q:=by
 have hE:=entry (P:=P) hf hok
 refine g_call hmix hE (le:=Vk 0 args) (Hs:=[.tgrow 0 s []]) (WeakS.trans (λg0 w0 a w g hI hA=>weak_sound hI hA (.inl ⟨rfl,?_,λi p hp=>?_⟩)) (weak_tgrow (H:=[]) s)) h
 ·have:=Nat.le_of_ble_eq_true hl
  simp[mk,Xu];omega
 ·have e:=Yw _ fn.ntmps 0 i p hp
  rw[Nat.zero_add]at e
  have k:=look_args args 0 i
  rw[Nat.zero_add]at k
  rcases k with h1|h1
  ·exact .inl (e.trans h1)
  ·right
   rw[<-e]at h1
   rw[List.getElem?_append_left (List.getElem?_eq_some_iff.1 h1).1];exact h1
theorem gx_in {α:Type} {l:List α} {i:Int} {x:α} (h:gx l i=some x):0<=i/\i<l.length:=by
 unfold gx at h
 split at h
 ·have:=(List.getElem?_eq_some_iff.1 h).1;omega
 ·cases h
def kTL {α:Type} (j s:Nat) (l:List α):BN P:=⟨.pu (.len (.c (tsP j s l))) (iP (lnl l)),rfl⟩
def kTX {α:Type} (j s:Nat) {l:List α} {i:Int} {x:α} (h:gx l i=some x):BN P:=⟨.pu (.iaddrS s (.c (tsP j s l)) (.c (iP i))) (.tp j (List.length l) (i.toNat*s)),by
 have:=gx_in h
 simp only[Nt.ok,aop,Opd.ev,PV.asI]
 rw[if_pos ⟨this.1,this.2,trivial⟩]⟩
theorem fd_ldT {α:Type} {c:α->List PV} {l:List α} {j s off:Nat} {i:Int} {x:α} {p:PV} (h:gx l i=some x) (hc:∀ x,(c x).length=s) (hp:(c x)[off]?=some p):Nt.ok P (.fd (.load none (.c (.tp j (List.length l) (i.toNat*s+off)))) [j] [tgB s c l] p):=λF hF=>by
 have hF:F[j]?=some (tgB s c l):=get_of hF
 unfold gx at h
 split at h
 case isFalse=>cases h
 have he:(l.map c)[i.toNat]?=some (c x):=by simp[h]
 have:=rowf_get hc he hp
 simp only[AStep,aop,Opd.ev,hF,Yy,List.head?_drop,this,Option.map_some,if_true]
 exact⟨trivial,trivial⟩
def kTR {α:Type} (j s off:Nat) (c:α->List PV) {l:List α} {i:Int} {x:α} {p:PV} (h:gx l i=some x) (hc:∀ x,(c x).length=s:=by intro _;rfl) (hp:(c x)[off]?=some p:=by rfl):BN P:=⟨.fd (.load none (.c (.tp j (List.length l) (i.toNat*s+off)))) [j] [tgB s c l] p,fd_ldT h hc hp⟩
theorem fr_stT {α:Type} {c:α->List PV} {l q:List α} {j s off:Nat} {i:Int} {x:α} {vp:PV} (h:gset l i x=some q) (hc:∀ x,(c x).length=s) (hv:∀ y,gx l i=some y->c x=(c y).set off vp) (ho:off<s) (h1:vp.cells=[vp]) (h2:scL [vp]=true):
  Nt.ok P (.fr (.store 1 (.c (.tp j (List.length l) (i.toNat*s+off))) (.c vp)) [j] [tgB s c l] [tgB s c q] (.tup [])):=λF hF=>by
 have hF:F[j]?=some (tgB s c l):=get_of hF
 unfold gset at h
 split at h
 case isFalse=>cases h
 rename_i h0
 cases h
 have hi:i.toNat<l.length:=by omega
 have hlen:((l.map c).flatten).length=l.length*s:=rowf_len hc l
 have hlt:i.toNat*s+off<((l.map c).flatten).length:=by
  rw[hlen]
  have:(i.toNat+1)*s<=l.length*s:=Nat.mul_le_mul_right _ (by omega)
  rw[Nat.add_mul]at this
  omega
 have e:=flat_set (x:=x) (vp:=vp) hc ho l i.toNat (λy hy=>hv y (by unfold gx;rw[if_pos h0.1,hy])) hi
 have e3:((l.map c).flatten).take (i.toNat*s+off)++[vp]++((l.map c).flatten).drop (i.toNat*s+off+1)=(((l.set i.toNat x).map c).flatten):=by
  rw[e,List.set_eq_take_append_cons_drop,if_pos hlt,List.append_assoc]
  rfl
 have h3:aop [] F (.store 1 (.c (.tp j (List.length l) (i.toNat*s+off))) (.c vp))=some (.tup [],F.set j (tgB s c (l.set i.toNat x))):=by
  simp only[aop,Opd.ev,hF]
  rw[if_pos ⟨trivial,by rw[h1];rfl,by omega,by rw[h1];exact h2⟩,h1,e3,tgB,List.length_set]
 simp only[AStep,h3]
 exact⟨trivial,rfl⟩
def kTW {α:Type} (j s off:Nat) (c:α->List PV) {l q:List α} {i:Int} {x y:α} (vp:PV) (hy:gx l i=some y) (h:gset l i x=some q) (hv:c x=(c y).set off vp:=by rfl) (hc:∀ x,(c x).length=s:=by intro _;rfl) (ho:Nat.blt off s=true:=by rfl) (h1:vp.cells=[vp]:=by rfl) (h2:scL [vp]=true:=by rfl):BN P:=
 ⟨.fr (.store 1 (.c (.tp j (List.length l) (i.toNat*s+off))) (.c vp)) [j] [tgB s c l] [tgB s c q] (.tup []),fr_stT h hc (λz hz=>by cases hy.symm.trans hz;exact hv) (Nat.le_of_ble_eq_true ho) h1 h2⟩
theorem fr_apT {α:Type} {c:α->List PV} {l m q:List α} {j s bytes:Nat} (h:gapp bytes l m=some q) (hm:m.isEmpty=false) (h0:0<bytes) (hs:∀ x,scL (c x)=true):
  Nt.ok P (.fr (.appendM s bytes (.c (tsP j s l)) (.c (eS s c (.full m)))) [j] [tgB s c l] [tgB s c q] (tsP j s q)):=λF hF=>by
 have hF:F[j]?=some (tgB s c l):=get_of hF
 unfold gapp at h
 split at h
 case isFalse=>cases h
 rename_i hb
 cases h
 have hsc:scL ((m.map c).flatten)=true:=List.all_eq_true.2 λp hp=>by
  obtain⟨e,he,hpe⟩:=List.mem_flatten.1 hp
  obtain⟨x,_,rfl⟩:=List.mem_map.1 he
  exact List.all_eq_true.1 (hs x) p hpe
 have hme:(m.map c).isEmpty=false:=by cases m with
  |nil=>cases hm
  |cons a l=>rfl
 have e1:aop [] F (.appendM s bytes (.c (tsP j s l)) (.c (eS s c (.full m))))=some (tsP j s (l++m),F.set j (tgB s c (l++m))):=by
  have e2:((s==s)&&(s==s)&&!(m.map c).isEmpty&&decide ((l.length+(m.map c).length)*bytes<=140737488355328)&&decide (0<bytes)&&scL ((m.map c).flatten))=true:=by
   rw[hme,hsc,List.length_map,decide_eq_true hb,decide_eq_true h0]
   simp
  show appendT F s bytes j l.length s (.sl false .full s (m.map c))=_
  simp only[appendT,Zr]
  rw[if_pos e2,hF]
  simp only[and_self,if_true,List.length_map,tsP,tgB,List.length_append,List.map_append,List.flatten_append]
 simp only[AStep,e1]
 exact⟨trivial,rfl⟩
def kTA {α:Type} (j s:Nat) {bytes:Nat} (c:α->List PV) {l m q:List α} (h:gapp bytes l m=some q) (hm:m.isEmpty=false:=by rfl) (h0:Nat.blt 0 bytes=true:=by rfl) (hs:∀ x,scL (c x)=true:=by intro _;rfl):BN P:=
 ⟨.fr (.appendM s bytes (.c (tsP j s l)) (.c (eS s c (.full m)))) [j] [tgB s c l] [tgB s c q] (tsP j s q),fr_apT h hm (Nat.le_of_ble_eq_true h0) hs⟩
theorem gset_len {α:Type} {l q:List α} {i:Int} {x:α} (h:gset l i x=some q):List.length l=List.length q:=by
 unfold gset at h
 split at h
 ·cases h;simp
 ·cases h
def FzT {α:Type} (k s:Nat) (c:α->List PV) (l:List α) (le:List (Nat×PV)):List (Nat×PV)->Prop
 |[]=>True
 |x::r=>(look le x.1=x.2\/look le x.1=tsP k s l/\x.2=oP k s c l)/\FzT k s c l le r
theorem ft {α:Type} {k s n:Nat} {c:α->List PV} {l:List α} {le r:List (Nat×PV)} {p:PV} (h:look le n=p) (hr:FzT k s c l le r):FzT k s c l le ((n,p)::r):=⟨.inl h,hr⟩
theorem ftr {α:Type} {k s n:Nat} {c:α->List PV} {l:List α} {le r:List (Nat×PV)} (h:look le n=tsP k s l) (hr:FzT k s c l le r):FzT k s c l le ((n,oP k s c l)::r):=⟨.inr ⟨h,rfl⟩,hr⟩
theorem fte {α:Type} {k s:Nat} {c:α->List PV} {l:List α} {le:List (Nat×PV)}:FzT k s c l le []:=trivial
theorem FzT.mem {α:Type} {k s:Nat} {c:α->List PV} {l:List α} {le:List (Nat×PV)}:∀ {r:List (Nat×PV)},FzT k s c l le r->∀ x∈r,look le x.1=x.2\/look le x.1=tsP k s l/\x.2=oP k s c l
 |[],_,x,h=>by cases h
 |y::r,h,x,hx=>by
  rcases List.mem_cons.1 hx with rfl|hx
  ·exact h.1
  ·exact FzT.mem h.2 x hx
theorem weak_frzT {H0 H:List Blk} {N:Nat} {le le':List (Nat×PV)} {α:Type} {c:α->List PV} {l:List α} {s:Nat} (k:Nat) (hk:H0.length<=k) (hH:H[k]?=some (tgB s c l)) (hc:∀ x,(c x).length=s) (hle:FzT k s c l le le'):
  WeakS H0 (mk N le) H (mk N le') (H.set k (.grow (List.length l) s)):=by
 intro g0 w0 a w g hI hA
 obtain⟨hTn,hcl,hsc,hB⟩:=hA.inv.blk k _ hH
 have hlen:((l.map c).flatten).length=l.length*s:=rowf_len hc l
 have fin:∀ g2:Gh,g.le g2->(∀ i,g2.B i=g.B i)->(∀ i n,g2.T i n=g.T i n)->(∀ b,g2.O b=g.O b)->(∀ b o,(∀ n,g.O b≠some n\/n≠k)->g2.C b o=g.C b o)->(∀ b o v,g2.C b o=some v->w.cell? ⟨b,o,none⟩=some v)->BOk g2 w k (.grow (List.length l) s)->(∀ v,RV g (tsP k s l) v->RV g2 (oP k s c l) v)->
   ∃ g',At g0 H0 w0 (mk N le') (H.set k (.grow (List.length l) s)) a w g':=λg2 hg2 hB2 hT2 hO2 hC2 hcell hk2 hrow=>by
  have hS:=hA.step
  refine⟨g2,⟨hS.le.trans hg2,λi hi=>(hB2 i).trans (hS.B i hi),hS.os,hS.tape,hS.output,hS.size,hS.block,λb i h=>hS.O b i ((hO2 b).symm.trans h),λb o ho hb=>(hC2 b o λn=>?_).trans (hS.C b o ho hb)⟩,
   ⟨hcell,λi x hx=>?_,λi b h=>(hO2 b).trans (hA.inv.own i b ((hB2 i).symm.trans h)),λb i h=>hA.inv.lt b i ((hO2 b).symm.trans h),λi hi=>(hB2 i).trans (hA.inv.domB i (by simpa using hi)),λi n hi=>(hT2 i n).trans (hA.inv.domT i n (by simpa using hi)),λb i h=>by simpa using hA.inv.domO b i ((hO2 b).symm.trans h)⟩,⟨?_,λi p v hp hv=>?_⟩,?_,by simpa using hA.len⟩
  ·by_cases e:g.O b=some n
   ·right
    rcases hS.O b n e with h1|h1
    ·rw[ho]at h1;cases h1
    ·omega
   ·exact .inl e
  ·rcases Yi hx with ⟨rfl,rfl⟩|⟨hne,hx⟩
   ·exact hk2
   ·exact(hA.inv.blk i x hx).keep hg2 (hB2 i) (hT2 i) (λb hb=>⟨rfl,λq=>hC2 b q λn=>by
     by_cases e:n=k
     ·left;rw[hb];intro h;cases h;exact hne e
     ·exact .inr e⟩) hA.inv.own
  ·rw[<-hA.env.1];simp[mk,Xu]
  ·have e:=Yw le' N 0 i p hp
   have hi:i<N:=by have:=(List.getElem?_eq_some_iff.1 hp).1;simpa [mk,Xu] using this
   have hq:(mk N le)[i]?=some (look le i):=by have:=Wr le N 0 i hi;simpa [mk] using this
   rw[Nat.zero_add]at e
   rcases Vv le' i with h1|h1
   ·rw[e,h1];exact .any _
   ·rw[<-e]at h1
    have hv1:=hA.env.2 i _ v hq hv
    rcases hle.mem _ h1 with h2|⟨h2,h3⟩
    ·have h2:look le i=p:=h2
     rw[h2]at hv1
     exact hv1.mono hg2
    ·have h2:look le i=_:=h2
     have h3:p=_:=h3
     rw[h2]at hv1
     rw[h3]
     exact hrow v hv1
  ·obtain⟨bs,d1,d2,d3⟩:=hA.defers
   refine⟨bs,d1,d2,λb hb=>?_⟩
   obtain⟨k1,k2,k3,k4⟩:=d3 b hb
   exact⟨k1,k2,(hO2 b).trans k3,k4⟩
 cases eT:g.T k (List.length l)with
 |none=>
  refine fin g (.refl g) (λ_=>rfl) (λ_ _=>rfl) (λ_=>rfl) (λ_ _ _=>rfl) hA.inv.C ⟨hTn,λb cap h=>by rw[eT]at h;cases h⟩ λv hv=>?_
  cases hv with
  |tsn h=>
   have:l=[]:=List.length_eq_zero_iff.1 h
   subst this
   exact .nilsl _ _
  |ts h _ _ _=>rw[eT]at h;cases h
 |some x=>
  obtain⟨b,cap⟩:=x
  obtain⟨hO,⟨vs,e,hh,hvs,hL⟩,hn,hcap,hC⟩:=hB b cap eT
  have hle2:=hL.1
  let g2:Gh:={ g with C:=λb' o=>if b'=b/\o<l.length*s then vs[o]? else g.C b' o }
  have hg2:g.le g2:=⟨λb' o v h=>by
   show(if b'=b/\o<l.length*s then _ else _)=_
   rw[if_neg (λq=>by rw[q.1,hC]at h;cases h)];exact h,λ_ _ _ h=>h,λ_ _ h=>h,λ_ _ h=>h⟩
  refine fin g2 hg2 (λ_=>rfl) (λ_ _=>rfl) (λ_=>rfl) (λb' o h=>?_) (λb' o v h=>?_) ⟨hTn,λb' cap' h=>?_⟩ λv hv=>?_
  ·show(if b'=b/\o<l.length*s then _ else _)=_
   rw[if_neg (λq=>by rw[q.1]at h;rcases h k with h|h;exact h hO;exact h rfl)]
  ·have h:(if b'=b/\o<l.length*s then vs[o]? else g.C b' o)=some v:=h
   split at h
   ·rename_i q
    rw[q.1,Yt hh];exact h
   ·exact hA.inv.C b' o v h
  ·have h:g.T k (List.length l)=some (b',cap'):=h
   rw[eT]at h
   cases h
   refine⟨hO,⟨vs,e,hh,hvs⟩,hn,hcap,λo ho=>?_⟩
   show(if b=b/\o<l.length*s then _ else _)=_
   rw[if_neg (λq=>by omega)];exact hC o
  ·cases hv with
   |tsn h=>
    have:l=[]:=List.length_eq_zero_iff.1 h
    subst this
    exact .nilsl _ _
   |@ts _ _ _ b1 cap1 hT hp _ _=>
    rw[eT]at hT
    cases hT
    have hne:List.isEmpty l=false:=by cases l<;>first|(simp at hp;done)|rfl
    rw[show oP k s c l=.sl false (.own k) s (l.map c) by show PV.sl (List.isEmpty l) _ _ _=_;rw[hne]]
    have hml:(l.map c).length=l.length:=by simp
    have res:RV g2 (.sl false (.own k) s (l.map c)) (.slice (some ⟨b,0,none⟩) (l.map c).length cap):=by
     refine sl_of (vs:=vs.extract 0 (l.length*s)) (by rw[hml];exact hn) hcap (λi e he=>?_) ⟨by simp[hlen];omega,λq p u hq hu=>?_⟩ (λq u hu=>?_) (.inr ⟨rfl,by rw[hml];exact eT⟩)
     ·obtain⟨x,_,rfl⟩:=Yu he;exact hc x
     ·have hlt:q<l.length*s:=by rw[<-hlen];exact(List.getElem?_eq_some_iff.1 hq).1
      rw[Array.getElem?_extract,if_pos (by omega),Nat.zero_add]at hu
      exact(hL.2 q p u hq hu).mono hg2
     ·have hlt:q<l.length*s:=by
       have:=(Array.getElem?_eq_some_iff.1 hu).1
       simp at this;omega
      rw[Array.getElem?_extract,if_pos (by omega),Nat.zero_add]at hu
      rw[Nat.zero_add]
      show(if b=b/\q<l.length*s then vs[q]? else _)=some u
      rw[if_pos ⟨rfl,hlt⟩];exact hu
    rw[hml]at res
    exact res
theorem psub_own {α:Type} {c:α->List PV} {l:List α} {j s:Nat}:PSub (oP j s c l) (eS s c (mkSl l)):=psub_acc0
theorem psub_ts {m j n s:Nat} (h:Nat.blt j m=true):PSub ((PV.ts j n s).strip m) (.ts j n s):=by
 rw[strip_ts h];exact .refl _
theorem acall_push {f:FuncId} {args cs:List PV} {H1:List Blk} {r0 r1:PV} (j:Nat) (F:List Blk) (h:ACall P f args [] λq k=>q=r0/\k=H1) (hj:H1[j]?=some (.cells cs)) (hr:∀ (g':Gh) (u:Value),RV g' r0 u->∃ bl,g'.B j=some bl/\∀ g2:Gh,g2.B F.length=some bl->RV g2 r1 u) (ha:Cls args) (hcs:Cls cs):ACall P f args F λq k=>q=r1/\k=F++[.cells cs]:=by
 refine⟨h.1,λg w vs hI hL=>?_⟩
 let g1:Gh:=⟨g.C,λ_ _=>none,λ_=>none,λ_=>none⟩
 have hI1:Inv g1 [] w:=⟨hI.C,λk x h=>by simp at h,λ_ _ h=>(nomatch h),λ_ _ h=>(nomatch h),λ_ _=>rfl,λ_ _ _=>rfl,λ_ _ h=>(nomatch h)⟩
 have hL1:LR g1 args vs:=⟨hL.1,λi p v hp hv=>RV.cl (g:=g) (g2:=g1) (λb o v h=>h) (hL.2 i p v hp hv) (ha p (List.mem_of_getElem? hp))⟩
 refine(h.2 g1 w vs hI1 hL1).mono ?_
 rintro e w' ⟨u,r,H',g',rfl,⟨rfl,rfl⟩,hS,_,hI',hu⟩
 obtain⟨bl,hb0,hfin⟩:=hr g' u hu
 have hO:=hI'.own j bl hb0
 have hge:w.heap.size<=bl:=by
  rcases hS.O bl j hO with h1|h1
  ·cases h1
  ·exact h1
 have hbl:=hI'.lt bl j hO
 obtain⟨ws,et,hheap,hrow,hCn⟩:∃ ws et,w'.heap[bl]?=some (.cells ws et (0,0))/\LP g' cs ws/\∀ o,g'.C bl o=none:=by
  rcases hI'.blk j _ hj with h1|⟨b,ws,et,h1,h2,h3,h4⟩
  ·rw[hb0]at h1;cases h1
  ·rw[hb0]at h1;cases h1;exact⟨ws,et,h2,h3,h4⟩
 have hOlt:∀ b k,g.O b=some k->b<w.heap.size:=λb k h=>hI.lt b k h
 have hOne:∀ b k,g.O b=some k->b≠bl:=λb k h e=>by have:=hOlt b k h;omega
 let g2:Gh:=⟨g'.C,g.T,λk=>if k=F.length then some bl else g.B k,λb=>if b=bl then some F.length else g.O b⟩
 have hle:g.le g2:=⟨λb o v h=>hS.le.C b o v h,λ_ _ _ h=>h,λk b h=>by
   show(if k=F.length then some bl else g.B k)=some b
   rw[if_neg (λe=>by rw[e,hI.domB _ (Nat.le_refl _)]at h;cases h)];exact h,λb k h=>by
   show(if b=bl then some F.length else g.O b)=some k
   rw[if_neg (hOne b k h)];exact h⟩
 refine⟨_,r1,F++[.cells cs],g2,rfl,⟨rfl,rfl⟩,⟨hle,λk hk=>?_,hS.os,hS.tape,hS.output,hS.size,λb hlt _=>hS.block b hlt rfl,λb k h=>?_,λb o _ hlt=>hS.C b o rfl hlt⟩,by simp,
  ⟨hI'.C,λk x h=>?_,λk b h=>?_,λb k h=>?_,λk hk=>?_,λk n hk=>hI.domT k n (by simp at hk;omega),λb k h=>?_⟩,hfin g2 (if_pos rfl)⟩
 ·show(if k=F.length then some bl else g.B k)=g.B k
  rw[if_neg (by omega)]
 ·have h:(if b=bl then some F.length else g.O b)=some k:=h
  split at h
  ·right;omega
  ·exact .inl h
 ·rcases Nat.lt_or_ge k F.length with h1|h1
  ·rw[List.getElem?_append_left h1]at h
   refine(hI.blk k x h).keep hle (if_neg (by omega)) (λi=>rfl) (λc hc=>?_) hI.own
   have hlt:=hOlt c k hc
   exact⟨hS.block c hlt rfl,λq=>hS.C c q rfl hlt⟩
  ·rw[List.getElem?_append_right h1]at h
   have h2:x=.cells cs:=by
    have:=List.mem_of_getElem? h
    simpa using this
   have hk:k=F.length:=by
    have:=(List.getElem?_eq_some_iff.1 h).1
    simp at this
    omega
   subst h2 hk
   exact .inr ⟨bl,ws,et,if_pos rfl,hheap,⟨hrow.1,λi p v hp hv=>RV.cl (g:=g') (g2:=g2) (λ_ _ _ h=>h) (hrow.2 i p v hp hv) (hcs p (List.mem_of_getElem? hp))⟩,hCn⟩
 ·have h:(if k=F.length then some bl else g.B k)=some b:=h
  show(if b=bl then some F.length else g.O b)=some k
  split at h
  ·rename_i e
   cases h
   rw[if_pos rfl,e]
  ·have:=hI.own k b h
   rw[if_neg (hOne b k this)]
   exact this
 ·have h:(if b=bl then some F.length else g.O b)=some k:=h
  split at h
  ·rename_i e;rw[e];exact hbl
  ·have:=hOlt b k h
   have:=hS.size
   omega
 ·show(if k=F.length then some bl else g.B k)=none
  simp at hk
  rw[if_neg (by omega)]
  exact hI.domB k (by omega)
 ·have h:(if b=bl then some F.length else g.O b)=some k:=h
  split at h
  ·cases h;simp
  ·have:=hI.domO b k h
   simp;omega
theorem push_bp {j o n:Nat}:∀ (g':Gh) (u:Value),RV g' (.bp j o) u->∃ bl,g'.B j=some bl/\∀ g2:Gh,g2.B n=some bl->RV g2 (.bp n o) u:=λg' u h=>by
 cases h with
 |bp h=>exact⟨_,h,λg2 h2=>.bp h2⟩
theorem fd_loadRA {α:Type} {c:α->List PV} {l:List α} {k s:Nat} {i:Int} {x:α} (h:gx l i=some x) (hc:∀ x,(c x).length=s):Nt.ok P (.fd (.load (some s) (.c (.bp k (0+i.toNat*s)))) [k] [.cells ((l.map c).flatten)] (.agg (c x))):=λF hF=>by
 have hF:F[k]?=some (.cells ((l.map c).flatten)):=get_of hF
 unfold gx at h
 split at h
 case isFalse=>cases h
 have h1:=flat_at hc l i.toNat x h
 have h2:s<=(((l.map c).flatten).drop (i.toNat*s)).length:=by
  have:=congrArg List.length h1
  rw[List.length_take,hc]at this
  omega
 simp only[AStep,aop,Opd.ev,hF,Yy,Nat.zero_add,if_pos h2,h1,Option.map_some]
 exact⟨trivial,trivial⟩
end Go.PE
namespace Go.PE
def mem1:Nat->List Nat->Bool
 |_,[]=>false
 |n,x::l=>match Nat.beq x n with
  |true=>true
  |false=>mem1 n l
def mem2:Nat->List (Nat×PV)->Bool
 |_,[]=>false
 |n,x::l=>match Nat.beq x.1 n with
  |true=>true
  |false=>mem2 n l
def upd (dr:List Nat) (d:List (Nat×PV)):List (Nat×PV)->List (Nat×PV)
 |[]=>d
 |x::l=>match mem1 x.1 dr with
  |true=>upd dr d l
  |false=>match mem2 x.1 d with
   |true=>upd dr d l
   |false=>x::upd dr d l
theorem upd_all {m:Nat} {dr:List Nat} {d:List (Nat×PV)} (hd:AllS m d):∀ {l:List (Nat×PV)},(∀ x∈l,mem1 x.1 dr=false->x.2.strip m=x.2)->AllS m (upd dr d l)
 |[],_=>hd
 |x::l,h=>by
  have k:=upd_all (dr:=dr) hd λy hy=>h y (List.mem_cons_of_mem _ hy)
  unfold upd
  split
  ·exact k
  ·rename_i hm
   split
   ·exact k
   ·exact⟨h x List.mem_cons_self hm,k⟩
theorem upd_mem {dr:List Nat} {d:List (Nat×PV)} {x:Nat×PV}:∀ {l:List (Nat×PV)},x∈upd dr d l->x∈d\/(x∈l/\mem1 x.1 dr=false)
 |[],h=>.inl h
 |y::l,h=>by
  unfold upd at h
  split at h
  ·rcases upd_mem h with h|h
   ·exact .inl h
   ·exact .inr ⟨List.mem_cons_of_mem _ h.1,h.2⟩
  ·rename_i hm
   split at h
   ·rcases upd_mem h with h|h
    ·exact .inl h
    ·exact .inr ⟨List.mem_cons_of_mem _ h.1,h.2⟩
   ·rcases List.mem_cons.1 h with rfl|h
    ·exact .inr ⟨List.mem_cons_self,hm⟩
    ·rcases upd_mem h with h|h
     ·exact .inl h
     ·exact .inr ⟨List.mem_cons_of_mem _ h.1,h.2⟩
class MemI (n:Nat) (l:List Nat):Prop where h:mem1 n l=true
instance {n:Nat} {l:List Nat}:MemI n (n::l):=⟨by simp[mem1]⟩
instance {n x:Nat} {l:List Nat} [k:MemI n l]:MemI n (x::l):=⟨by
 unfold mem1
 split
 ·rfl
 ·exact k.h⟩
class AllSX (m:Nat) (dr:List Nat) (l:List (Nat×PV)):Prop where h:∀ x∈l,mem1 x.1 dr=false->x.2.strip m=x.2
instance {m:Nat} {dr:List Nat}:AllSX m dr []:=⟨λ_ h=>by cases h⟩
instance {m n:Nat} {dr:List Nat} {p:PV} {l:List (Nat×PV)} [h:MemI n dr] [k:AllSX m dr l]:AllSX m dr ((n,p)::l):=⟨λx hx hm=>by
 rcases List.mem_cons.1 hx with rfl|hx
 ·simp only[h.h]at hm;cases hm
 ·exact k.h x hx hm⟩
instance {m n:Nat} {dr:List Nat} {p:PV} {l:List (Nat×PV)} [h:StP m p] [k:AllSX m dr l]:AllSX m dr ((n,p)::l):=⟨λx hx hm=>by
 rcases List.mem_cons.1 hx with rfl|hx
 ·exact h.h
 ·exact k.h x hx hm⟩
instance {m:Nat} {dr dr2:List Nat} {d l:List (Nat×PV)} [h:AllSX m dr d] [k:AllSX m (dr2++dr) l]:AllSX m dr (upd dr2 d l):=⟨λx hx hm=>by
 rcases upd_mem hx with hx|⟨hx,h2⟩
 ·exact h.h x hx hm
 ·refine k.h x hx ?_
  have:∀ a:List Nat,mem1 x.1 a=false->mem1 x.1 (a++dr)=false:=by
   intro a
   induction a with
   |nil=>intro _;exact hm
   |cons y a ih=>
    intro h
    simp only[List.cons_append,mem1]at h ⊢
    split at h
    ·cases h
    ·exact ih h
  exact this _ h2⟩
instance {n:Nat} {a b:List Nat} [h:MemI n b]:MemI n (a++b):=⟨by
 induction a with
 |nil=>exact h.h
 |cons y a ih=>
  simp only[List.cons_append,mem1]
  split
  ·rfl
  ·exact ih⟩
instance {n:Nat} {a b:List Nat} [h:MemI n a]:MemI n (a++b):=⟨by
 have h:=h.h
 induction a with
 |nil=>cases h
 |cons y a ih=>
  simp only[List.cons_append,mem1]at h ⊢
  split at h
  ·rfl
  ·exact ih h⟩
instance {m i:Nat} {dr:List Nat}:AllSX m dr (Vk i []):=⟨λ_ h=>by cases h⟩
instance {m i:Nat} {dr:List Nat} {p:PV} {l:List PV} [k:AllSX m dr ((i,p)::Vk (i+1) l)]:AllSX m dr (Vk i (p::l)):=⟨k.h⟩
instance {m:Nat} {dr:List Nat} {d l:List (Nat×PV)} [h:AllSI m d] [k:AllSX m dr l]:AllSI m (upd dr d l):=⟨upd_all h.h k.h⟩
theorem take_all {m:Nat}:∀ (n:Nat) {l:List Blk},AllB m l->AllB m (l.take n)
 |0,_,_=>by simp[AllB]
 |_+1,[],_=>by simp[AllB]
 |n+1,_::_,h=>⟨h.1,take_all n h.2⟩
instance {m n:Nat} {l:List Blk} [h:AllBI m l]:AllBI m (l.take n):=⟨take_all n h.h⟩
variable {P:Program} {H0:List Blk}
theorem gD {c:AC} {N:Nat} {le:List (Nat×PV)} {H:List Blk} {Q:Ex->List PV->List Blk->Prop} (k:Nat) (ws:List (Wb P)) (dr:List Nat) (d:List (Nat×PV)) (n:Nat) (t:List Blk)
  (hb:GX P H0 (c.dr k) (mk N (upd dr d le)) (H.take n++t) Q) (hE:runQ2 k c N le H (ws.map Wb.raw) (upd dr d le)=some (vals (upd dr d le),H.take n++t,ws.map Wb.raw):=by kernel_rfl):GX P H0 c (mk N le) H Q:=
 gP k ws _ _ hb hE
theorem gd {c:AC} {N:Nat} {le:List (Nat×PV)} {H:List Blk} {Q:Ex->List PV->List Blk->Prop} (k:Nat) (ws:List (Wb P)) (dr:List Nat) (d:List (Nat×PV))
  (hb:GX P H0 (c.dr k) (mk N (upd dr d le)) H Q) (hE:runQ2 k c N le H (ws.map Wb.raw) (upd dr d le)=some (vals (upd dr d le),H,ws.map Wb.raw):=by kernel_rfl):GX P H0 c (mk N le) H Q:=
 gP k ws _ _ hb hE
theorem gMq {c:AC} {φ ρ:Type} {N:Nat} {le:List (Nat×PV)} {H:List Blk} {Q:Ex->List PV->List Blk->Prop} (T:φ->List (Nat×PV)×List Blk×Option ρ) (out:ρ)
  (hJ:∀ p,(T p).2.2=some out->GX P H0 c.r (mk N (T p).1) (T p).2.1 Q)
  (hA:GX P H0 c.l (mk N le) H λx e h=>match x with
   |.normal=>∃ p,(T p).2.2=some out/\WeakS H0 e h (mk N (T p).1) (T p).2.1
   |x=>Q x e h) (hc:c.isS=true:=by kernel_rfl):GX P H0 c (mk N le) H Q:=
 gM T out hJ ⟨AX.mono _ hA.ax λx e h hx=>by
  cases x with
  |normal=>obtain⟨p,hp,hw⟩:=hx;exact⟨_,_,hw,p,hp,rfl,rfl⟩
  |_=>exact hx⟩ hc
theorem gMD {c:AC} {φ ρ:Type} {N:Nat} {le:List (Nat×PV)} {H:List Blk} {Q:Ex->List PV->List Blk->Prop} (dr:List Nat) (n:Nat) (T:φ->List (Nat×PV)×List Blk×Option ρ) (out:ρ)
  (hJ:∀ p,(T p).2.2=some out->GX P H0 c.r (mk N (upd dr (T p).1 le)) (H.take n++(T p).2.1) Q)
  (hA:GX P H0 c.l (mk N le) H λx e h=>match x with
   |.normal=>∃ p,(T p).2.2=some out/\WeakS H0 e h (mk N (upd dr (T p).1 le)) (H.take n++(T p).2.1)
   |x=>Q x e h) (hc:c.isS=true:=by kernel_rfl):GX P H0 c (mk N le) H Q:=
 gMq (λp=>(upd dr (T p).1 le,H.take n++(T p).2.1,(T p).2.2)) out hJ hA hc
theorem gMd {c:AC} {φ ρ:Type} {N:Nat} {le:List (Nat×PV)} {H:List Blk} {Q:Ex->List PV->List Blk->Prop} (dr:List Nat) (T:φ->List (Nat×PV)×Option ρ) (out:ρ)
  (hJ:∀ p,(T p).2=some out->GX P H0 c.r (mk N (upd dr (T p).1 le)) H Q)
  (hA:GX P H0 c.l (mk N le) H λx e h=>match x with
   |.normal=>∃ p,(T p).2=some out/\WeakS H0 e h (mk N (upd dr (T p).1 le)) H
   |x=>Q x e h) (hc:c.isS=true:=by kernel_rfl):GX P H0 c (mk N le) H Q:=
 gMq (λp=>(upd dr (T p).1 le,H,(T p).2)) out hJ hA hc
theorem gPL {c:AC} {σ τ:Type} {N:Nat} {le:List (Nat×PV)} {H:List Blk} {Q:Ex->List PV->List Blk->Prop} {body:σ->Option (σ⊕τ)} {s:σ} {t:τ} (k:Nat) (ws:List (Wb P)) (id:Nat) (hs:Xg body s=some t) (dr:List Nat) (n:Nat) (T:σ->List (Nat×PV)×List Blk)
  (hb:∀ s o,body s=some o->(∀ u,o=.inr u->u=t)->GX P H0 (c.dr k).b.b (mk N (upd dr (T s).1 le)) (H.take n++(T s).2) λx e h=>match o with
   |.inl s'=>x=.normal/\WeakS H0 e h (mk N (upd dr (T s').1 le)) (H.take n++(T s').2)
   |.inr _=>match x with
    |.normal=>False
    |x=>match x with
     |.exit i=>if i=id then Q .normal e h else Q (.exit i) e h
     |x=>Q x e h)
  (hE:runQ2 k c N le H (ws.map Wb.raw) (upd dr (T s).1 le)=some (vals (upd dr (T s).1 le),H.take n++(T s).2,ws.map Wb.raw):=by kernel_rfl) (hc:(c.dr k).isB id=true:=by kernel_rfl) (hl:(c.dr k).b.isL=true:=by kernel_rfl):GX P H0 c (mk N le) H Q:=
 gP k ws _ _ (gB id (gL hs (λs=>(upd dr (T s).1 le,H.take n++(T s).2)) (WeakS.refl _ _ _) hb hl) hc) hE
theorem gPl {c:AC} {σ τ:Type} {N:Nat} {le:List (Nat×PV)} {H:List Blk} {Q:Ex->List PV->List Blk->Prop} {body:σ->Option (σ⊕τ)} {s:σ} {t:τ} (k:Nat) (ws:List (Wb P)) (id:Nat) (hs:Xg body s=some t) (dr:List Nat) (T:σ->List (Nat×PV))
  (hb:∀ s o,body s=some o->(∀ u,o=.inr u->u=t)->GX P H0 (c.dr k).b.b (mk N (upd dr (T s) le)) H λx e h=>match o with
   |.inl s'=>x=.normal/\WeakS H0 e h (mk N (upd dr (T s') le)) H
   |.inr _=>match x with
    |.normal=>False
    |x=>match x with
     |.exit i=>if i=id then Q .normal e h else Q (.exit i) e h
     |x=>Q x e h)
  (hE:runQ2 k c N le H (ws.map Wb.raw) (upd dr (T s) le)=some (vals (upd dr (T s) le),H,ws.map Wb.raw):=by kernel_rfl) (hc:(c.dr k).isB id=true:=by kernel_rfl) (hl:(c.dr k).b.isL=true:=by kernel_rfl):GX P H0 c (mk N le) H Q:=
 gP k ws _ _ (gB id (gL hs (λs=>(upd dr (T s) le,H)) (WeakS.refl _ _ _) hb hl) hc) hE
theorem gND {c:AC} {N:Nat} {le:List (Nat×PV)} {H:List Blk} {Q:Ex->List PV->List Blk->Prop} {A:List PV->List Blk->Prop} (ws:List (Wb P)) (dr:List Nat) (d:List (Nat×PV)) (n:Nat) (t:List Blk)
  (hb:A (mk N (upd dr d le)) (H.take n++t)) (hQ:∀ e,(∃ e2 h2,WeakS H0 e (H.take n++t) e2 h2/\A e2 h2)->Q .normal e (H.take n++t):=by exact λ_ h=>h)
  (hE:runW c N le H (ws.map Wb.raw) (upd dr d le)=some (.normal,vals (upd dr d le),H.take n++t,ws.map Wb.raw):=by kernel_rfl):GX P H0 c (mk N le) H Q:=
 Yp ws .normal _ _ (λe hw=>hQ e ⟨_,_,hw,hb⟩) hE
theorem gNd {c:AC} {N:Nat} {le:List (Nat×PV)} {H:List Blk} {Q:Ex->List PV->List Blk->Prop} {A:List PV->List Blk->Prop} (ws:List (Wb P)) (dr:List Nat) (d:List (Nat×PV))
  (hb:A (mk N (upd dr d le)) H) (hQ:∀ e,(∃ e2 h2,WeakS H0 e H e2 h2/\A e2 h2)->Q .normal e H:=by exact λ_ h=>h)
  (hE:runW c N le H (ws.map Wb.raw) (upd dr d le)=some (.normal,vals (upd dr d le),H,ws.map Wb.raw):=by kernel_rfl):GX P H0 c (mk N le) H Q:=
 Yp ws .normal _ _ (λe hw=>hQ e ⟨_,_,hw,hb⟩) hE
theorem gj {c:AC} {N:Nat} {le le':List (Nat×PV)} {H H':List Blk} {Q:Ex->List PV->List Blk->Prop} (ws:List (Wb P)) (hQ:∀ e,WeakS H0 e H' (mk N le') H'->Q .normal e H':=by exact λ_ hw=>⟨rfl,hw⟩)
  (hE:runW c N le H (ws.map Wb.raw) le'=some (.normal,vals le',H',ws.map Wb.raw):=by kernel_rfl):GX P H0 c (mk N le) H Q:=Yp ws _ le' H' hQ hE
theorem ge {c:AC} {N:Nat} {le le':List (Nat×PV)} {H H':List Blk} {Q:Ex->List PV->List Blk->Prop} (i:Nat) (ws:List (Wb P)) (hQ:∀ e,WeakS H0 e H' (mk N le') H'->Q (.exit i) e H')
  (hE:runW c N le H (ws.map Wb.raw) le'=some (.exit i,vals le',H',ws.map Wb.raw):=by kernel_rfl):GX P H0 c (mk N le) H Q:=Yp ws _ le' H' hQ hE
theorem gk {c:AC} {N:Nat} {le le':List (Nat×PV)} {H H':List Blk} {Q:Ex->List PV->List Blk->Prop} (m:Nat) (ws:List (Wb P)) (hQ:∀ e h,WeakS H0 e h (mk N le') H'->Q .normal e h:=by exact λ_ _ hw=>⟨rfl,hw⟩) [AllSI m le'] [AllBI m H']
  (hE:runT m c N le H (ws.map Wb.raw) le'=some (.normal,vals le',H',ws.map Wb.raw):=by kernel_rfl) (hm:H'.length=m:=by rfl) (h0:Nat.ble H0.length m=true:=by rfl):GX P H0 c (mk N le) H Q:=g_tc m ws _ hQ hE hm h0
theorem gke {c:AC} {N:Nat} {le le':List (Nat×PV)} {H H':List Blk} {Q:Ex->List PV->List Blk->Prop} (m i:Nat) (ws:List (Wb P)) (hQ:∀ e h,WeakS H0 e h (mk N le') H'->Q (.exit i) e h) [AllSI m le'] [AllBI m H']
  (hE:runT m c N le H (ws.map Wb.raw) le'=some (.exit i,vals le',H',ws.map Wb.raw):=by kernel_rfl) (hm:H'.length=m:=by rfl) (h0:Nat.ble H0.length m=true:=by rfl):GX P H0 c (mk N le) H Q:=g_tc m ws _ hQ hE hm h0
theorem gH {c:AC} {N:Nat} {le:List (Nat×PV)} {H H3:List Blk} {Q:Ex->List PV->List Blk->Prop} {rs:List RP} {r:PV} (m:Nat) (ws:List (Wb P)) (hQ:∀ e h,resP rs e h=some r->h.take m=H3->Q .ret e h:=by exact λ_ _ k j=>hr k j)
  (hE:runR c N le H (ws.map Wb.raw) rs m=some (.ret,some r,H3,ws.map Wb.raw):=by kernel_rfl):GX P H0 c (mk N le) H Q:=g_rh m ws _ hQ hE
theorem gHn {c:AC} {N:Nat} {le:List (Nat×PV)} {H H3:List Blk} {Q:Ex->List PV->List Blk->Prop} {rs:List RP} {r:PV} (m:Nat) (ws:List (Wb P)) (hQ:∀ e h,resP rs e h=some r->h.take m=H3->Q .normal e h:=by exact λ_ _ k j=>hn k j)
  (hE:runR c N le H (ws.map Wb.raw) rs m=some (.normal,some r,H3,ws.map Wb.raw):=by kernel_rfl):GX P H0 c (mk N le) H Q:=g_rh m ws _ hQ hE
abbrev rs (n:Nat) (l:List (BN P)):Wb P:=.r (es n l) []
abbrev rk (n:Nat) (b:BN P) (m:Nat):Wb P:=.r (es n (b::es m [])) []
abbrev rQ (n:Nat) {t b:Bool} (h:t=b) (l:List (BN P)):List (BN P):=rq n (bq h) l
abbrev rP (n:Nat) {t b:Bool} (h:t=b) (l:List (BN P)):List (BN P):=rp n (bq h) l
abbrev kF {t:Bool} (a b:Bool) (h:t=false):BN P:=kPf (bP a) (bP b) h
abbrev kT {t:Bool} (a b:Bool) (h:t=true):BN P:=kPt (bP a) (bP b) h
abbrev kU {t:Bool} (h:t=true):BN P:=kPt (bP true) (.tup []) h
abbrev kV {t:Bool} (h:t=false):BN P:=kPf (.tup []) (bP false) h
end Go.PE
