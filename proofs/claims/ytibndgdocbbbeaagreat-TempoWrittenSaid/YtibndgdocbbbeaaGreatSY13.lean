/- A part of the proof. -/
import Derived.Test.YtibndgdocbbbeaaGreatSY10
set_option linter.all false
namespace Go.PE
variable {P:Program}
theorem psub_nilsl {α:Type} {c:α->List PV} {s k:Nat}:PSub (.sl true .full 0 []) (.sl (List.isEmpty ([]:List α)) (.own k) s (List.map c [])):=λg v hv=>by
 cases hv with
 |nilsl=>exact .nilsl _ _
theorem psub_nile {α:Type} {c:α->List PV} {s:Nat}:PSub (.sl true .full 0 []) (eS s c .nil):=λg v hv=>by
 cases hv with
 |nilsl=>exact .nilsl _ _
theorem n_appE0 {α:Type} {c:α->List PV} {m:Sl α} {F:List Blk} {s s0 bytes lo:Nat} {nl:Bool} (h:m.es.isEmpty=true):Nt.ok P (.st (.append s bytes (.c (.sl nl .full s0 [])) (.c (eS s c m))) F (.sl nl .full s0 []) F lo):=by
 have e:m.es=[]:=List.isEmpty_iff.1 h
 refine⟨?_,Same.refl _ _⟩
 simp[AStep,aop,Opd.ev,Zk,Zl,eS,e]
theorem n_appN0 {α:Type} {c:α->List PV} {m:Sl α} {l:List α} {F:List Blk} {s s0 bytes lo:Nat} {nl:Bool} (hl:gapp bytes [] m.es=some l) (h:m.es.isEmpty=false) (h0:0<bytes) (hc:∀ x,(c x).all PV.cellP=true):
  Nt.ok P (.st (.append s bytes (.c (.sl nl .full s0 [])) (.c (eS s c m))) F (.sl l.isEmpty (.own F.length) s (l.map c)) (F++[.grow l.length s]) lo):=by
 unfold gapp at hl
 split at hl
 case isFalse=>cases hl
 rename_i hb
 cases hl
 refine⟨?_,by simp,λk _ hk=>List.getElem?_append_left hk⟩
 have hn:¬ (m.es.map c).isEmpty=true:=by
  cases he:m.es with
  |nil=>rw[he]at h;cases h
  |cons x l=>simp
 have hsz:m.size s=s:=by
  cases m with
  |nil=>cases h
  |no l=>rfl
  |full l=>rfl
 have hcond:(s==s&&(s0==s||([]:List (List PV)).isEmpty)&&decide ((([]:List (List PV)).length+(m.es.map c).length)*bytes<=140737488355328)&&decide (0<bytes)&&(m.es.map c).all λe=>e.all PV.cellP)=true:=by
  simp only[beq_self_eq_true,List.isEmpty_nil,Bool.or_true,Bool.and_true,Bool.true_and,List.length_map,List.length_nil]at hb ⊢
  simp only[hb,h0,decide_true,List.all_map,Bool.true_and,List.all_eq_true]
  intro y _
  exact hc y
 simp only[AStep,aop,Opd.ev,Zk,Zl,eS,hsz,List.nil_append]
 rw[if_neg hn,if_pos hcond]
 cases nl<;>simp[h]
def PSubK (k:Nat) (p q:PV):Prop:=∀ (g:Gh) (v:Value),(∃ x,g.T k 0=some x)->RV g p v->RV g q v
theorem Vq {k:Nat} (p:PV):PSubK k p p:=λ_ _ _ h=>h
theorem pk_lit {α:Type} {c:α->List PV} {s k:Nat} {a:α} {l:List α}:PSubK k (eS s c (.full (a::l))) (nP k s c (a::l)):=λg v hx h=>by
 show RV g (.sl false (.own k) s (List.map c (a::l))) v
 have h:RV g (.sl false .full s (List.map c (a::l))) v:=h
 generalize hes:List.map c (a::l)=es at h ⊢
 cases h with
 |em=>cases hes
 |sl vf h1 h2 h3 h4 h5 h6=>exact .sl vf h1 h2 h3 h4 h5 (.inl ⟨h6,hx⟩)
def SubKE (k:Nat) (le:List (Nat×PV)):List (Nat×PV)->Prop
 |[]=>True
 |x::l=>PSubK k (look le x.1) x.2/\SubKE k le l
theorem kc {k:Nat} {le l:List (Nat×PV)} {n:Nat} {q:PV} (h:PSubK k (look le n) q) (hl:SubKE k le l):SubKE k le ((n,q)::l):=⟨h,hl⟩
theorem ke {k:Nat} {le:List (Nat×PV)}:SubKE k le []:=trivial
theorem SubKE.mem {k : Nat} {le : List (Nat × PV)} : ∀ {l : List (Nat × PV)}, SubKE k le l → ∀ x ∈ l, PSubK k (look le x.1) x.2
  | [], _, x, h => by cases h
  | y :: l, h, x, hx => by
    rcases List.mem_cons.1 hx with rfl | hx
    · exact h.1
    · exact SubKE.mem h.2 x hx
theorem weak_lit {H0 H:List Blk} {N:Nat} {le le':List (Nat×PV)} (n s:Nat) (h:SubKE H.length le le'):WeakS H0 (mk N le) H (mk N le') (H++[.grow (n+1) s]):=by
 intro g0 w0 a w g hI hA
 have hT:∀ i,g.T H.length i=none:=λi=>hA.inv.domT _ _ (Nat.le_refl _)
 let g':Gh:={ g with T:=λk i=>if k=H.length/\i=0 then some (0,0)else g.T k i }
 have hle:g.le g':=⟨λ_ _ _ h=>h,λk i x hx=>by
  show(if k=H.length/\i=0 then _ else _)=_
  rw[if_neg (λq=>by rw[q.1,hT]at hx;cases hx)];exact hx,λ_ _ h=>h,λ_ _ h=>h⟩
 have hS:=hA.step
 refine⟨g',⟨hS.le.trans hle,hS.B,hS.os,hS.tape,hS.output,hS.size,hS.block,hS.O,hS.C⟩,⟨hA.inv.C,λk x hk=>?_,hA.inv.own,hA.inv.lt,λk hk=>hA.inv.domB k (by simp at hk;omega),λk n hk=>?_,λb k hk=>by have:=hA.inv.domO b k hk;simp;omega⟩,⟨?_,λi p v hp hv=>?_⟩,hA.defers,by have:=hA.len;simp;omega⟩
 ·rcases Nat.lt_or_ge k H.length with h1|h1
  ·rw[List.getElem?_append_left h1]at hk
   exact(hA.inv.blk k x hk).keep hle rfl (λi=>by show(if k=H.length/\i=0 then _ else _)=_;rw[if_neg (λq=>by omega)]) (λc hc=>⟨rfl,λ_=>rfl⟩) hA.inv.own
  ·rw[List.getElem?_append_right h1]at hk
   have h2:=List.mem_of_getElem? hk
   simp at h2
   subst h2
   refine⟨λn' hn=>?_,λb cap ht=>?_⟩
   ·show(if k=H.length/\n'=0 then _ else _)=_
    rw[if_neg (λq=>by omega)];exact hA.inv.domT k n' h1
   ·have ht:(if k=H.length/\n+1=0 then some (0,0)else g.T k (n+1))=some (b,cap):=ht
    rw[if_neg (λq=>by omega),hA.inv.domT k _ h1]at ht;cases ht
 ·show(if k=H.length/\n=0 then _ else _)=_
  simp at hk
  rw[if_neg (λq=>by omega)]
  exact hA.inv.domT k n (by omega)
 ·rw[<-hA.env.1];simp[mk,Ym]
 ·have e:=Zn le' N 0 i p hp
  have hi:i<N:=by have:=(List.getElem?_eq_some_iff.1 hp).1;simpa [mk,Ym] using this
  have hq:(mk N le)[i]?=some (look le i):=by have:=mkFrom_at le N 0 i hi;simpa [mk] using this
  rw[Nat.zero_add]at e
  rcases look_mem le' i with h1|h1
  ·rw[e,h1];exact .any _
  ·rw[<-e]at h1
   exact h.mem _ h1 _ _ ⟨_,if_pos ⟨rfl,rfl⟩⟩ ((hA.env.2 i _ v hq hv).mono hle)
end Go.PE
