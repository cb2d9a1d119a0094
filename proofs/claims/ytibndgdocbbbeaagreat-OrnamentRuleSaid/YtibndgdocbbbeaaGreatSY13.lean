/- A part of the proof. -/
import Derived.Test.YtibndgdocbbbeaaGreatSY10
set_option linter.all false
namespace Go.PE
variable {P:Program}
theorem psub_nilsl {α:Type} {c:α->List PV} {s k:Nat}:PSub (.sl true .full 0 []) (.sl (List.isEmpty ([]:List α)) (.own k) s (List.map c [])):=λg v hv=>by
 cases hv with
 |nilsl=>exact .nilsl _ _
theorem psub_nile {α:Type} {c:α->List PV} {s:Nat}:PSub (.sl true .full 0 []) (eS s c .nil):=λg v hv=>by
 cases hv with
 |nilsl=>exact .nilsl _ _
theorem n_appE0 {α:Type} {c:α->List PV} {m:Sl α} {F:List Blk} {s s0 bytes lo:Nat} {nl:Bool} (h:m.es.isEmpty=true):Nt.ok P (.st (.append s bytes (.c (.sl nl .full s0 [])) (.c (eS s c m))) F (.sl nl .full s0 []) F lo):=by
 have e:m.es=[]:=List.isEmpty_iff.1 h
 refine⟨?_,Same.refl _ _⟩
 simp[AStep,aop,Opd.ev,Zs,Zm,eS,e]
theorem n_appN0 {α:Type} {c:α->List PV} {m:Sl α} {l:List α} {F:List Blk} {s s0 bytes lo:Nat} {nl:Bool} (hl:gapp bytes [] m.es=some l) (h:m.es.isEmpty=false) (h0:0<bytes) (hc:∀ x,(c x).all PV.cellP=true):
  Nt.ok P (.st (.append s bytes (.c (.sl nl .full s0 [])) (.c (eS s c m))) F (.sl l.isEmpty (.own F.length) s (l.map c)) (F++[.grow l.length s]) lo):=by
 unfold gapp at hl
 split at hl
 case isFalse=>cases hl
 rename_i hb
 cases hl
 refine⟨?_,by simp,λk _ hk=>List.getElem?_append_left hk⟩
 have hn:¬ (m.es.map c).isEmpty=true:=by
  cases he:m.es with
  |nil=>rw[he]at h;cases h
  |cons x l=>simp
 have hsz:m.size s=s:=by
  cases m with
  |nil=>cases h
  |no l=>rfl
  |full l=>rfl
 have hcond:(s==s&&(s0==s||([]:List (List PV)).isEmpty)&&decide ((([]:List (List PV)).length+(m.es.map c).length)*bytes<=140737488355328)&&decide (0<bytes)&&(m.es.map c).all λe=>e.all PV.cellP)=true:=by
  simp only[beq_self_eq_true,List.isEmpty_nil,Bool.or_true,Bool.and_true,Bool.true_and,List.length_map,List.length_nil]at hb ⊢
  simp only[hb,h0,decide_true,List.all_map,Bool.true_and,List.all_eq_true]
  intro y _
  exact hc y
 simp only[AStep,aop,Opd.ev,Zs,Zm,eS,hsz,List.nil_append]
 rw[if_neg hn,if_pos hcond]
 cases nl<;>simp[h]
end Go.PE
namespace Go.PE
open Go.RowKit
variable {P:Program}
inductive Fzr {α:Type} (k s:Nat) (c:α->List PV) (l:List α):PV->PV->Prop
 |cl {p:PV} (h:Cl p):Fzr k s c l p p
 |bp {j o:Nat} (h:j≠k):Fzr k s c l (.bp j o) (.bp j o)
 |row {full:Bool} {n:Nat} (h:n<=l.length):Fzr k s c l (.bs k 0 n s full) (.sl false .no s ((l.take n).map c))
def FzrE {α:Type} (k s:Nat) (c:α->List PV) (l:List α) (le:List (Nat×PV)):List (Nat×PV)->Prop
 |[]=>True
 |x::r=>Fzr k s c l (look le x.1) x.2/\FzrE k s c l le r
theorem FzrE.mem {α:Type} {k s:Nat} {c:α->List PV} {l:List α} {le:List (Nat×PV)}:∀ {r:List (Nat×PV)},FzrE k s c l le r->∀ x∈r,Fzr k s c l (look le x.1) x.2
 |[],_,x,h=>by cases h
 |y::r,h,x,hx=>by
  rcases List.mem_cons.1 hx with rfl|hx
  ·exact h.1
  ·exact FzrE.mem h.2 x hx
theorem FzrE.look {α:Type} {k s:Nat} {c:α->List PV} {l:List α} {le le':List (Nat×PV)} (h:FzrE k s c l le le') (i:Nat):Go.PE.look le' i=.any\/Fzr k s c l (Go.PE.look le i) (Go.PE.look le' i):=by
 rcases look_mem le' i with h1|h1
 ·exact .inl h1
 ·exact .inr (h.mem _ h1)
def FzrL {α:Type} (k s:Nat) (c:α->List PV) (l:List α):List PV->List PV->Prop
 |[],[]=>True
 |p::ps,q::qs=>Fzr k s c l p q/\FzrL k s c l ps qs
 |_,_=>False
theorem FzrL.len {α:Type} {k s:Nat} {c:α->List PV} {l:List α}:∀ {ps qs:List PV},FzrL k s c l ps qs->ps.length=qs.length
 |[],[],_=>rfl
 |_::_,_::_,h=>by simp[FzrL.len h.2]
 |[],_::_,h=>h.elim
 |_::_,[],h=>h.elim
theorem FzrL.get {α:Type} {k s:Nat} {c:α->List PV} {l:List α}:∀ {ps qs:List PV},FzrL k s c l ps qs->∀ (i:Nat) (q:PV),qs[i]?=some q->∃ p,ps[i]?=some p/\Fzr k s c l p q
 |[],[],_,i,q,hq=>by simp at hq
 |p::ps,q::qs,h,0,q',hq=>by simp at hq;subst hq;exact⟨p,rfl,h.1⟩
 |p::ps,q::qs,h,i+1,q',hq=>FzrL.get h.2 i q' hq
 |[],_::_,h,_,_,_=>h.elim
 |_::_,[],h,_,_,_=>h.elim
def FzrB {α:Type} (k s:Nat) (c:α->List PV) (l:List α):Nat->List Blk->List Blk->Prop
 |_,[],[]=>True
 |i,x::H,y::H'=>((i=k/\y=.cells [])\/(∃ cs cs',x=.cells cs/\y=.cells cs'/\FzrL k s c l cs cs')\/(BCl x/\x=y))/\FzrB k s c l (i+1) H H'
 |_,_,_=>False
theorem FzrB.len {α:Type} {k s:Nat} {c:α->List PV} {l:List α}:∀ {i:Nat} {H H':List Blk},FzrB k s c l i H H'->H.length=H'.length
 |_,[],[],_=>rfl
 |_,_::_,_::_,h=>by simp[FzrB.len h.2]
 |_,[],_::_,h=>h.elim
 |_,_::_,[],h=>h.elim
theorem FzrB.get {α:Type} {k s:Nat} {c:α->List PV} {l:List α}:∀ {i:Nat} {H H':List Blk},FzrB k s c l i H H'->∀ (j:Nat) (y:Blk),H'[j]?=some y->∃ x,H[j]?=some x/\((i+j=k/\y=.cells [])\/(∃ cs cs',x=.cells cs/\y=.cells cs'/\FzrL k s c l cs cs')\/(BCl x/\x=y))
 |_,[],[],_,j,y,hy=>by simp at hy
 |i,x::H,y::H',h,0,y',hy=>by simp at hy;subst hy;exact⟨x,rfl,h.1⟩
 |i,x::H,y::H',h,j+1,y',hy=>by
  obtain⟨z,hz,hr⟩:=FzrB.get h.2 j y' hy
  exact⟨z,hz,by rw[show i+(j+1)=i+1+j by omega];exact hr⟩
 |_,[],_::_,h,_,_,_=>h.elim
 |_,_::_,[],h,_,_,_=>h.elim
theorem weak_frzG {H0 H H':List Blk} {N:Nat} {le le':List (Nat×PV)} {α:Type} {c:α->List PV} {l:List α} {s k:Nat} (hk:H0.length<=k) (hH:H[k]?=some (.cells ((l.map c).flatten))) (hc:∀ x,(c x).length=s) (hcl:∀ x,Cls (c x)) (hle:FzrE k s c l le le') (hB:FzrB k s c l 0 H H'):
  WeakS H0 (mk N le) H (mk N le') H':=by
 have hHl:=hB.len
 refine λg0 w0 a w g hI hA=>?_
 have hkl:k<H.length:=(List.getElem?_eq_some_iff.1 hH).1
 rcases hA.inv.blk k _ hH with hb|⟨b,vs,e,hb,hheap,hL,hC0⟩
 ·
  have key:∀ {p q:PV} {v:Value},Fzr k s c l p q->RV g p v->RV g q v:=λ{p q v} h hv=>by
   cases h with
   |cl h=>exact hv
   |bp h=>exact hv
   |row _=>cases hv with|bs h _ _ _ _=>rw[hb]at h;cases h
  refine⟨g,hA.step,⟨hA.inv.C,λi x hx=>?_,hA.inv.own,hA.inv.lt,λi hi=>hA.inv.domB i (by omega),λi n hi=>hA.inv.domT i n (by omega),λb i hi=>by have:=hA.inv.domO b i hi;omega⟩,⟨?_,λi p v hp hv=>?_⟩,hA.defers,by have:=hA.len;omega⟩
  ·obtain⟨y,hy,hr⟩:=hB.get i x hx
   rw[Nat.zero_add]at hr
   rcases hr with ⟨rfl,rfl⟩|⟨cs,cs',rfl,rfl,hq⟩|⟨_,rfl⟩
   ·exact .inl hb
   ·rcases hA.inv.blk i _ hy with h1|⟨b1,vs1,e1,k1,k2,k3,k4⟩
    ·exact .inl h1
    ·exact .inr ⟨b1,vs1,e1,k1,k2,⟨hq.len▸k3.1,λj q v hq' hv=>by obtain⟨p,hp,hpq⟩:=hq.get j q hq';exact key hpq (k3.2 j p v hp hv)⟩,k4⟩
   ·exact hA.inv.blk i _ hy
  ·rw[<-hA.env.1];simp[mk,Yf]
  ·have e1:=Ze le' N 0 i p hp
   have hi:i<N:=by have:=(List.getElem?_eq_some_iff.1 hp).1;simpa [mk,Yf] using this
   have hq:(mk N le)[i]?=some (look le i):=by have:=Vn le N 0 i hi;simpa [mk] using this
   rw[Nat.zero_add]at e1
   subst e1
   have hv1:=hA.env.2 i _ v hq hv
   rcases hle.look i with h2|h2
   ·rw[h2];exact .any _
   ·exact key h2 hv1
 ·have hO:=hA.inv.own k b hb
  have hbw:w0.heap.size<=b:=by
   rcases hA.step.O b k hO with h1|h1
   ·have:=hI.domO b k h1;omega
   ·exact h1
  have hg0:g0.O b=none:=by
   cases h1:g0.O b with
   |none=>rfl
   |some j=>have:=hI.lt b j h1;omega
  let g2:Gh:=⟨λb' o=>if b'=b then vs[o]? else g.C b' o,g.T,λj=>if j=k then none else g.B j,λb'=>if b'=b then none else g.O b'⟩
  have hCle:∀ b' o v,g.C b' o=some v->g2.C b' o=some v:=λb' o v h=>by
   show(if b'=b then vs[o]? else g.C b' o)=some v
   by_cases e1:b'=b
   ·subst e1;rw[hC0 o]at h;cases h
   ·rw[if_neg e1];exact h
  have hcl2:∀ {p v},RV g p v->Cl p->RV g2 p v:=λh hp=>h.cl hCle hp
  have hBo:∀ j b',g2.B j=some b'->j≠k/\g.B j=some b':=λj b' h=>by
   have h:(if j=k then none else g.B j)=some b':=h
   split at h
   ·cases h
   ·rename_i e1;exact⟨e1,h⟩
  have hbne:∀ j b',j≠k->g.O b'=some j->b'≠b:=λj b' hj h e1=>by
   subst e1;rw[hO]at h;cases h;exact hj rfl
  have key:∀ {p q:PV} {v:Value},Fzr k s c l p q->RV g p v->RV g2 q v:=λ{p q v} h hv1=>by
   cases h with
   |cl h=>exact hcl2 hv1 h
   |bp hj=>cases hv1 with|bp h=>exact .bp ((if_neg hj:(if _=k then none else g.B _)=g.B _).trans h)
   |@row full n hln=>
    cases hv1 with
    |@bs _ _ _ _ b1 o1 cap1 _ hb1 hn hm hf ho=>
     rw[hb]at hb1
     cases hb1
     have hlen:((l.take n).map c).length=n:=by simp;omega
     have hget:∀ {i:Nat} {e:List PV},((l.take n).map c)[i]?=some e->(l.map c)[i]?=some e:=λ{i e} he=>by
      obtain⟨x,hx,rfl⟩:=Yk he
      have hi:i<n:=by have:=(List.getElem?_eq_some_iff.1 hx).1;simp at this;omega
      rw[List.getElem?_take_of_lt hi]at hx
      simp[hx]
     have out:RV g2 (.sl false .no s ((l.take n).map c)) (.slice (some ⟨b,o1,none⟩) ((l.take n).map c).length cap1):=by
      refine .sl (λi j=>(vs[i*s+j]?).getD .nilFunc) (by rw[hlen];exact hn) hm (λi e he=>?_) (λi j e p he hp=>?_) (λi j e p he hp=>?_) trivial
      ·obtain⟨x,_,rfl⟩:=Yk he;exact hc x
      ·have hil:i<n:=by have:=(List.getElem?_eq_some_iff.1 he).1;simp at this;omega
       have h0:o1=0:=ho (by omega)
       subst h0
       have hf:=rowf_get hc (hget he) hp
       have hlt:i*s+j<vs.size:=Nat.lt_of_lt_of_le (List.getElem?_eq_some_iff.1 hf).1 hL.1
       show(if b=b then vs[0+i*s+j]? else _)=some _
       rw[if_pos rfl,Nat.zero_add,Array.getElem?_eq_getElem hlt]
       rfl
      ·have hf:=rowf_get hc (hget he) hp
       have hlt:i*s+j<vs.size:=Nat.lt_of_lt_of_le (List.getElem?_eq_some_iff.1 hf).1 hL.1
       rw[Array.getElem?_eq_getElem hlt]
       refine hcl2 (hL.2 _ p _ hf (Array.getElem?_eq_getElem hlt)) ?_
       obtain⟨x,_,rfl⟩:=Yk he
       exact hcl x p (List.mem_of_getElem? hp)
     rw[hlen]at out
     exact out
  refine⟨g2,⟨⟨λb' o v h=>hCle b' o v (hA.step.le.C b' o v h),hA.step.le.T,λj b' h=>?_,λb' j h=>?_⟩,λj hj=>?_,hA.step.os,hA.step.tape,hA.step.output,hA.step.size,hA.step.block,λb' j h=>?_,λb' o ho hb'=>?_⟩,
   ⟨λb' o v h=>?_,λi x hx=>?_,λj b' h=>?_,λb' j h=>?_,λj hj=>?_,λj n hj=>hA.inv.domT j n (by omega),λb' j h=>?_⟩,⟨?_,λi p v hp hv=>?_⟩,?_,by have:=hA.len;omega⟩
  ·show(if j=k then none else g.B j)=some b'
   have hj:j<H0.length:=by
    rcases Nat.lt_or_ge j H0.length with h1|h1
    ·exact h1
    ·rw[hI.domB j h1]at h;cases h
   rw[if_neg (by omega)]
   exact hA.step.le.B j b' h
  ·show(if b'=b then none else g.O b')=some j
   rw[if_neg (λe1=>by subst e1;rw[hg0]at h;cases h)]
   exact hA.step.le.O b' j h
  ·show(if j=k then none else g.B j)=g0.B j
   rw[if_neg (by omega)]
   exact hA.step.B j hj
  ·have h:(if b'=b then none else g.O b')=some j:=h
   split at h
   ·cases h
   ·exact hA.step.O b' j h
  ·show(if b'=b then vs[o]? else g.C b' o)=g0.C b' o
   rw[if_neg (by omega)]
   exact hA.step.C b' o ho hb'
  ·have h2:(if b'=b then vs[o]? else g.C b' o)=some v:=h
   by_cases e1:b'=b
   ·rw[if_pos e1]at h2
    subst e1
    rw[Zb hheap];exact h2
   ·rw[if_neg e1]at h2
    exact hA.inv.C b' o v h2
  ·obtain⟨y,hy,hr⟩:=hB.get i x hx
   rw[Nat.zero_add]at hr
   rcases hr with ⟨rfl,rfl⟩|⟨cs,cs',rfl,rfl,hq⟩|⟨hbc,rfl⟩
   ·exact .inl (if_pos rfl)
   ·by_cases ek:i=k
    ·subst ek;exact .inl (if_pos rfl)
    have hBi:g2.B i=g.B i:=if_neg ek
    rcases hA.inv.blk i _ hy with h1|⟨b1,vs1,e1,k1,k2,k3,k4⟩
    ·exact .inl (hBi.trans h1)
    ·have hne:=hbne i b1 ek (hA.inv.own i b1 k1)
     exact .inr ⟨b1,vs1,e1,hBi.trans k1,k2,⟨hq.len▸k3.1,λj q v hq' hv=>by obtain⟨p,hp,hpq⟩:=hq.get j q hq';exact key hpq (k3.2 j p v hp hv)⟩,λo=>by show(if b1=b then vs[o]? else g.C b1 o)=none;rw[if_neg hne];exact k4 o⟩
   ·by_cases ek:i=k
    ·subst ek
     rw[hH]at hy
     cases hy
     exact .inl (if_pos rfl)
    have hBi:g2.B i=g.B i:=if_neg ek
    have hx:=hy
    cases y with
    |cells cs=>
     rcases hA.inv.blk i _ hx with h1|⟨b1,vs1,e1,k1,k2,k3,k4⟩
     ·exact .inl (hBi.trans h1)
     ·have hne:=hbne i b1 ek (hA.inv.own i b1 k1)
      exact .inr ⟨b1,vs1,e1,hBi.trans k1,k2,⟨k3.1,λj p v hp hv=>hcl2 (k3.2 j p v hp hv) (hbc p (List.mem_of_getElem? hp))⟩,λo=>by show(if b1=b then vs[o]? else g.C b1 o)=none;rw[if_neg hne];exact k4 o⟩
    |grow n z=>
     obtain⟨k1,k2⟩:=hA.inv.blk i _ hx
     refine⟨k1,λb1 cap ht=>?_⟩
     obtain⟨q1,q2,q3,q4,q5⟩:=k2 b1 cap ht
     have hne:=hbne i b1 ek q1
     exact⟨by show(if b1=b then none else g.O b1)=some i;rw[if_neg hne];exact q1,q2,q3,q4,λo ho=>by show(if b1=b then vs[o]? else g.C b1 o)=none;rw[if_neg hne];exact q5 o ho⟩
    |map ks vals clock=>
     rcases hA.inv.blk i _ hx with h1|⟨b1,es,k1,k2,k3,k4⟩
     ·exact .inl (hBi.trans h1)
     ·exact .inr ⟨b1,es,hBi.trans k1,k2,k3,⟨k4.1,λj p v hp hv=>hcl2 (k4.2 j p v hp hv) (hbc p (List.mem_of_getElem? hp))⟩⟩
    |iter _ _ _ _=>exact hbc.elim
    |loop _ _ _ _ _ _ _ _=>exact hbc.elim
  ·obtain⟨h1,h2⟩:=hBo j b' h
   have h3:=hA.inv.own j b' h2
   show(if b'=b then none else g.O b')=some j
   rw[if_neg (hbne j b' h1 h3)]
   exact h3
  ·have h:(if b'=b then none else g.O b')=some j:=h
   split at h
   ·cases h
   ·exact hA.inv.lt b' j h
  ·show(if j=k then none else g.B j)=none
   split
   ·rfl
   ·exact hA.inv.domB j (by omega)
  ·have h:(if b'=b then none else g.O b')=some j:=h
   split at h
   ·cases h
   ·have:=hA.inv.domO b' j h;omega
  ·rw[<-hA.env.1];simp[mk,Yf]
  ·have e1:=Ze le' N 0 i p hp
   have hi:i<N:=by have:=(List.getElem?_eq_some_iff.1 hp).1;simpa [mk,Yf] using this
   have hq:(mk N le)[i]?=some (look le i):=by have:=Vn le N 0 i hi;simpa [mk] using this
   rw[Nat.zero_add]at e1
   subst e1
   have hv1:=hA.env.2 i _ v hq hv
   rcases hle.look i with h2|h2
   ·rw[h2];exact .any _
   ·exact key h2 hv1
  ·obtain⟨bs,d1,d2,d3⟩:=hA.defers
   refine⟨bs,d1,d2,λb' hb'=>?_⟩
   obtain⟨k1,k2,k3,k4⟩:=d3 b' hb'
   refine⟨k1,k2,?_,k4⟩
   show(if b'=b then none else g.O b')=none
   split
   ·rfl
   ·exact k3
theorem fd_loadR {α:Type} {c:α->List PV} {l:List α} {k s off:Nat} {i:Int} {x:α} {p:PV} (h:gx l i=some x) (hc:∀ x,(c x).length=s) (hp:(c x)[off]?=some p):Nt.ok P (.fd (.load none (.c (.bp k (0+i.toNat*s+off)))) [k] [.cells ((l.map c).flatten)] p):=λF hF=>by
 have hF:F[k]?=some (.cells ((l.map c).flatten)):=get_of hF
 unfold gx at h
 split at h
 case isFalse=>cases h
 have he:(l.map c)[i.toNat]?=some (c x):=by simp[h]
 have:=rowf_get hc he hp
 simp only[AStep,aop,Opd.ev,hF,Zd,Nat.zero_add,List.head?_drop,this,Option.map_some]
 exact⟨trivial,trivial⟩
theorem n_slBh {k n s:Nat} {kk:IntKind} {h:Int} (h0:0<=h) (h1:h<=n):Nt.ok P (.pu (.slSl s (.c (.bs k 0 n s false)) none (some (.c (.sc (.int kk h)))) none) (.bs k 0 h.toNat s false)):=by
 simp only[Nt.ok,aop,Opd.ev,Option.map_none,Option.map_some,Wh,PV.asI]
 rw[if_pos trivial,if_pos h0]
 simp only[]
 rw[if_pos ⟨Nat.zero_le _,by omega⟩]
 simp
theorem flat_set {α:Type} {c:α->List PV} {s off:Nat} (hc:∀ x,(c x).length=s) (ho:off<s) {x:α} {vp:PV}:∀ (l:List α) (i:Nat),(∀ y,l[i]?=some y->c x=(c y).set off vp)->i<l.length->((l.set i x).map c).flatten=((l.map c).flatten).set (i*s+off) vp
 |[],i,_,h=>by simp at h
 |y::l,0,h,_=>by
  have e:=h y rfl
  simp only[List.set_cons_zero,List.map_cons,List.flatten_cons,Nat.zero_mul,Nat.zero_add,e]
  rw[List.set_append_left _ _ (by rw[hc];exact ho)]
 |y::l,i+1,h,hi=>by
  have ih:=flat_set hc ho l i (λz hz=>h z (by simpa using hz)) (by simpa using hi)
  simp only[List.set_cons_succ,List.map_cons,List.flatten_cons,ih]
  rw[List.set_append_right _ _ (by rw[hc,Nat.add_mul];omega),hc,show(i+1)*s+off-s=i*s+off by rw[Nat.add_mul];omega]
theorem fr_storeR {α:Type} {c:α->List PV} {l q:List α} {k s off:Nat} {i:Int} {x:α} {vp:PV} (h:gset l i x=some q) (hc:∀ x,(c x).length=s) (hv:∀ y,gx l i=some y->c x=(c y).set off vp) (ho:off<s) (h1:vp.cells=[vp]) (h2:vp.cellP=true):
  Nt.ok P (.fr (.store 1 (.c (.bp k (0+i.toNat*s+off))) (.c vp)) [k] [.cells ((l.map c).flatten)] [.cells ((q.map c).flatten)] (.tup [])):=λF hF=>by
 have hF:F[k]?=some (.cells ((l.map c).flatten)):=get_of hF
 unfold gset at h
 split at h
 case isFalse=>cases h
 rename_i h0
 cases h
 have hi:i.toNat<l.length:=by omega
 have hlen:((l.map c).flatten).length=l.length*s:=rowf_len hc l
 have hlt:i.toNat*s+off<((l.map c).flatten).length:=by
  rw[hlen]
  have:(i.toNat+1)*s<=l.length*s:=Nat.mul_le_mul_right _ (by omega)
  rw[Nat.add_mul]at this
  omega
 have e:=flat_set (x:=x) (vp:=vp) hc ho l i.toNat (λy hy=>hv y (by unfold gx;rw[if_pos h0.1,hy])) hi
 simp only[AStep,aop,Opd.ev,hF,Nat.zero_add,h1]
 rw[if_pos ⟨rfl,by omega,by simp[h2]⟩]
 refine⟨rfl,?_⟩
 show F.set k _=putL F [k] _
 simp only[putL,e]
 congr 2
 rw[List.set_eq_take_append_cons_drop,if_pos hlt]
 simp
end Go.PE
