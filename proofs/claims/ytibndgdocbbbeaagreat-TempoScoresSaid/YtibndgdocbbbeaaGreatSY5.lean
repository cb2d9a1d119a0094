/- A part of the proof. -/
import Derived.Test.YtibndgdocbbbeaaGreatSY4
set_option linter.all false
namespace Go.PE
open Go.RowKit
variable {P:Program}
def gby (s:ByteArray):Option (Sl Int):=if s.size<=1000000000 then some (.no (s.data.toList.map λb=>(b.toNat:Int)))else none
theorem n_strBytes {s:ByteArray} {x:Sl Int} {F:List Blk} (h:gby s=some x):Nt.ok P (.rd (.strBytes (.c (.sc (.string s)))) F (eS 1 (cK .u8) x)):=by
 unfold gby at h
 split at h
 ·rename_i h0
  cases h
  simp only[Nt.ok,AStep,aop,Opd.ev,h0,if_true,eS,Sl.isNil,Sl.right,Sl.size,Sl.es,List.map_map,and_true]
  rfl
 ·cases h
theorem flat_at {α:Type} {c:α->List PV} {s:Nat} (hc:∀ x,(c x).length=s):∀ (l:List α) (i:Nat) (x:α),l[i]?=some x->(((l.map c).flatten).drop (i*s)).take s=c x
 |[],i,x,h=>by simp at h
 |y::l,0,x,h=>by
  simp at h
  subst h
  simp only[List.map_cons,List.flatten_cons,Nat.zero_mul,List.drop_zero]
  rw[<-hc y,List.take_left]
 |y::l,i+1,x,h=>by
  have h:l[i]?=some x:=by simpa using h
  have e:(i+1)*s=(c y).length+i*s:=by rw[hc y,Nat.add_mul,Nat.one_mul,Nat.add_comm]
  simp only[List.map_cons,List.flatten_cons]
  rw[e,<-List.drop_drop,List.drop_left]
  exact flat_at hc l i x h
theorem n_idxA {α:Type} {c:α->List PV} {s len:Nat} {l:List α} {k:IntKind} {i:Int} {x:α} (h:gx l i=some x) (hc:∀ x,(c x).length=s) (hl:l.length=len):
  Nt.ok P (.pu (.idxA s len (some s) (.c (.agg ((l.map c).flatten))) (.c (.sc (.int k i)))) (.agg (c x))):=by
 unfold gx at h
 split at h
 ·rename_i h0
  have hi:=(List.getElem?_eq_some_iff.1 h).1
  have h1:i<(len:Int):=by omega
  have e:=flat_at hc l _ x h
  have hlen:s<=(((l.map c).flatten).drop (i.toNat*s)).length:=by
   have:=congrArg List.length e
   rw[hc x,List.length_take]at this
   omega
  simp only[Nt.ok,aop,Opd.ev,PV.asI,h0,h1,and_self,if_true,Yy]
  rw[if_pos hlen,e]
  rfl
 ·cases h
theorem n_idxA1 {α:Type} {f:α->PV} {len:Nat} {l:List α} {k:IntKind} {i:Int} {x:α} (h:gx l i=some x) (hl:l.length=len):
  Nt.ok P (.pu (.idxA 1 len none (.c (.agg ((l.map λx=>[f x]).flatten))) (.c (.sc (.int k i)))) (f x)):=by
 unfold gx at h
 split at h
 ·rename_i h0
  have hi:=(List.getElem?_eq_some_iff.1 h).1
  have h1:i<(len:Int):=by omega
  have e:=flat_at (c:=λx=>[f x]) (s:=1) (λ_=>rfl) l _ x h
  have e2:((((l.map λx=>[f x]).flatten).drop (i.toNat*1)).head?)=some (f x):=by
   cases hd:((l.map λx=>[f x]).flatten).drop (i.toNat*1)with
   |nil=>rw[hd]at e;simp at e
   |cons a r=>rw[hd]at e;simp at e;simp[e]
  simp only[Nt.ok,aop,Opd.ev,PV.asI,h0,h1,and_self,if_true,Yy]
  rw[e2]
  rfl
 ·cases h
theorem n_appE {α:Type} {c:α->List PV} {m:Sl α} {F:List Blk} {s bytes lo:Nat} {nl:Bool} (h:m.es.isEmpty=true):Nt.ok P (.st (.append s bytes (.c (.sl nl .full s [])) (.c (eS s c m))) F (.sl nl .full s []) F lo):=by
 have e:m.es=[]:=List.isEmpty_iff.1 h
 refine⟨?_,Same.refl _ _⟩
 simp[AStep,aop,Opd.ev,Wj,Zr,eS,e]
theorem n_appN {α:Type} {c:α->List PV} {m:Sl α} {l:List α} {F:List Blk} {s bytes lo:Nat} {nl:Bool} (hl:gapp bytes [] m.es=some l) (h:m.es.isEmpty=false) (h0:0<bytes) (hc:∀ x,(c x).all PV.cellP=true):
  Nt.ok P (.st (.append s bytes (.c (.sl nl .full s [])) (.c (eS s c m))) F (.sl l.isEmpty (.own F.length) s (l.map c)) (F++[.grow l.length s]) lo):=by
 unfold gapp at hl
 split at hl
 case isFalse=>cases hl
 rename_i hb
 cases hl
 refine⟨?_,by simp,λk _ hk=>List.getElem?_append_left hk⟩
 have hn:¬ (m.es.map c).isEmpty=true:=by
  cases he:m.es with
  |nil=>rw[he]at h;cases h
  |cons x l=>simp
 have hsz:m.size s=s:=by
  cases m with
  |nil=>cases h
  |no l=>rfl
  |full l=>rfl
 have hcond:(s==s&&(s==s||([]:List (List PV)).isEmpty)&&decide ((([]:List (List PV)).length+(m.es.map c).length)*bytes<=140737488355328)&&decide (0<bytes)&&(m.es.map c).all λe=>e.all PV.cellP)=true:=by
  simp only[beq_self_eq_true,Bool.true_or,Bool.and_true,Bool.true_and,List.length_map,List.length_nil]at hb ⊢
  simp only[hb,h0,decide_true,List.all_map,Bool.true_and,List.all_eq_true]
  intro y _
  exact hc y
 simp only[AStep,aop,Opd.ev,Wj,Zr,eS,hsz,List.nil_append]
 rw[if_neg hn,if_pos hcond]
 cases nl<;>simp[h]
theorem Wx {α:Type} {c:α->List PV} {x:Sl α} {s:Nat} {z:PV} (hz:z=.sl true .full 0 []):Nt.ok P (.pu (.eqN .sl false (.c (eS s c x)) (.c z)) (.sc (.bool x.isNil))):=by
 subst hz
 cases x<;>simp[Nt.ok,aop,Opd.ev,eS,nilEq,Zi,Sl.isNil]
theorem weak_blk {H0 H:List Blk} {env cs cs':List PV} (k:Nat) (hk:H[k]?=some (.cells cs)) (hs:PSubL cs cs'):WeakS H0 env H env (H.set k (.cells cs')):=by
 refine λg0 w0 a w g hI hA=>⟨g,hA.step,⟨hA.inv.C,λi x hi=>?_,hA.inv.own,hA.inv.lt,λi hi=>hA.inv.domB i (by simpa using hi),λi n hi=>hA.inv.domT i n (by simpa using hi),λb i hi=>by simpa using hA.inv.domO b i hi⟩,hA.env,hA.defers,by simpa using hA.len⟩
 by_cases e:k=i
 ·subst e
  rw[List.getElem?_set_self (List.getElem?_eq_some_iff.1 hk).1]at hi
  cases hi
  rcases hA.inv.blk k _ hk with h|⟨b,vs,e,h1,h2,h3,h4⟩
  ·exact .inl h
  ·obtain⟨l1,l2⟩:=hs.lr (g:=g)
   refine .inr ⟨b,vs,e,h1,h2,⟨l1▸h3.1,λi q v hq hv=>?_⟩,h4⟩
   obtain⟨p,hp,hpq⟩:=l2 i q hq
   exact hpq _ _ (h3.2 i p v hp hv)
 ·rw[List.getElem?_set_ne e]at hi
  exact hA.inv.blk i x hi
end Go.PE
