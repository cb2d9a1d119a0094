/- A part of the proof. -/
import Derived.Test.YtibndgdocbbbeaaGreatSY2
set_option linter.all false
namespace Go.PE
open Go.RowKit
inductive Sl (α:Type) where
 |nil
 |no (l:List α)
 |full (l:List α)
instance {α:Type}:Inhabited (Sl α):=⟨.nil⟩
def Sl.es {α:Type}:Sl α->List α
 |.nil=>[]
 |.no l=>l
 |.full l=>l
def Sl.isNil {α:Type}:Sl α->Bool
 |.nil=>true
 |_=>false
def Sl.right {α:Type}:Sl α->Right
 |.no _=>.no
 |_=>.full
def Sl.size {α:Type} (s:Nat):Sl α->Nat
 |.nil=>0
 |_=>s
def eS {α:Type} (s:Nat) (c:α->List PV) (x:Sl α):PV:=.sl x.isNil x.right (x.size s) (x.es.map c)
def mkSl {α:Type}:List α->Sl α
 |[]=>.nil
 |l=>.no l
theorem mkSl_es {α:Type} (l:List α):(mkSl l).es=l:=by cases l<;>rfl
def cI (x:Int):List PV:=[.sc (.int .i64 x)]
def cB (x:Bool):List PV:=[.sc (.bool x)]
def cS (x:ByteArray):List PV:=[.sc (.string x)]
def cK (k:IntKind) (x:Int):List PV:=[.sc (.int k x)]
def cL {α:Type} (s:Nat) (c:α->List PV) (x:Sl α):List PV:=[eS s c x]
theorem cl_eS {α:Type} {s:Nat} {c:α->List PV} {x:Sl α} (h:∀ x,Cls (c x)):Cl (eS s c x):=by
 cases x with
 |nil=>exact .full (Cls.map h)
 |no l=>exact .no (Cls.map h)
 |full l=>exact .full (Cls.map h)
theorem cl_cL {α:Type} {s:Nat} {c:α->List PV} (h:∀ x,Cls (c x)) (x:Sl α):Cls (cL s c x):=.cons (cl_eS h) .nil
theorem cl_cI (x:Int):Cls (cI x):=.cons (.sc _) .nil
theorem cl_cB (x:Bool):Cls (cB x):=.cons (.sc _) .nil
theorem cl_cS (x:ByteArray):Cls (cS x):=.cons (.sc _) .nil
theorem cl_cK (k:IntKind) (x:Int):Cls (cK k x):=.cons (.sc _) .nil
theorem cond_t {α:Type} {t:Bool} {x y o:α} (ht:t=true) (h:(bif t then x else y)=o):x=o:=by subst ht;exact h
theorem cond_f {α:Type} {t:Bool} {x y o:α} (ht:t=false) (h:(bif t then x else y)=o):y=o:=by subst ht;exact h
theorem Xa {α β:Type} {x:Option α} {f:α->Option β} {o:β} (h:x.bind f=some o):∃ a,x=some a/\f a=some o:=Option.bind_eq_some_iff.1 h
theorem Xh {id:Nat} {A B:Prop} (h:A):if id=id then A else B:=by rw[if_pos rfl];exact h
theorem q_miss {i id:Nat} {A B:Prop} (hi:Nat.beq i id=false) (h:B):if i=id then A else B:=by rw[if_neg (λe=>by subst e;simp at hi)];exact h
def gx {α:Type} (l:List α) (i:Int):Option α:=if 0<=i then l[i.toNat]? else none
def gq (k:IntKind) (a b:Int):Option Int:=if b=0 then none else some (k.wrap (a.tdiv b))
def gr (a b:Int):Option Int:=if b=0 then none else some (a.tmod b)
def gshl (k:IntKind) (a b:Int):Option Int:=if b<0 then none else some (k.wrap (a*2^(min b.toNat k.bits)))
def gshr (k:IntKind) (a b:Int):Option Int:=if b<0 then none else some (a.fdiv (2^(min b.toNat k.bits)))
def gch (s:ByteArray) (i:Int):Option UInt8:=if 0<=i then s[i.toNat]? else none
def gslR {α:Type} (x:Sl α) (l h:Int):Option (Sl α):=
 if 0<=l/\0<=h/\l.toNat<=h.toNat/\h.toNat<=x.es.length then
  match x with
  |.nil=>some .nil
  |.no s=>some (.no ((s.take h.toNat).drop l.toNat))
  |.full s=>some (if h.toNat=s.length then .full ((s.take h.toNat).drop l.toNat)else .no ((s.take h.toNat).drop l.toNat))
 else none
def gapp {α:Type} (bytes:Nat) (l m:List α):Option (List α):=if (l.length+m.length)*bytes<=140737488355328 then some (l++m)else none
abbrev iand (k:IntKind) (a b:Int):Int:=k.wrap (BitVec.ofInt k.bits a &&& BitVec.ofInt k.bits b).toNat
abbrev ior (k:IntKind) (a b:Int):Int:=k.wrap (BitVec.ofInt k.bits a ||| BitVec.ofInt k.bits b).toNat
section
variable {P:Program}
theorem n_len {α:Type} {c:α->List PV} {x:Sl α} {s:Nat}:Nt.ok P (.pu (.len (.c (eS s c x))) (.sc (.int .i64 x.es.length))):=by
 simp only[Nt.ok,aop,Opd.ev,eS,List.length_map]
theorem n_lenA {α:Type} {c:α->List PV} {l:List α} {nl:Bool} {r:Right} {s:Nat}:Nt.ok P (.pu (.len (.c (.sl nl r s (l.map c)))) (.sc (.int .i64 l.length))):=by
 simp only[Nt.ok,aop,Opd.ev,List.length_map]
theorem n_ixA {α:Type} {c:α->List PV} {l:List α} {nl:Bool} {r:Right} {s:Nat} {k:IntKind} {i:Int} {x:α} (h:gx l i=some x):Nt.ok P (.pu (.iaddrS s (.c (.sl nl r s (l.map c))) (.c (.sc (.int k i)))) (.ip (c x))):=by
 unfold gx at h
 split at h
 ·rename_i h0
  simp only[Nt.ok,aop,Opd.ev,PV.asI,List.getElem?_map,h,h0,Option.map_some,and_self,if_true]
 ·cases h
theorem n_ix {α:Type} {c:α->List PV} {x:Sl α} {s:Nat} {k:IntKind} {i:Int} {y:α} (h:gx x.es i=some y):Nt.ok P (.pu (.iaddrS s (.c (eS s c x)) (.c (.sc (.int k i)))) (.ip (c y))):=by
 cases x with
 |nil=>
  unfold gx at h
  split at h
  ·simp[Sl.es]at h
  ·cases h
 |no l=>exact n_ixA h
 |full l=>exact n_ixA h
theorem n_quo {k:IntKind} {a b q:Int} (h:gq k a b=some q):Nt.ok P (.pu (.bin .quo (.c (.sc (.int k a))) (.c (.sc (.int k b)))) (.sc (.int k q))):=by
 unfold gq at h
 split at h
 ·cases h
 ·rename_i h0
  cases h
  simp[Nt.ok,aop,Opd.ev,binV,h0]
theorem n_rem {k:IntKind} {a b q:Int} (h:gr a b=some q):Nt.ok P (.pu (.bin .rem (.c (.sc (.int k a))) (.c (.sc (.int k b)))) (.sc (.int k q))):=by
 unfold gr at h
 split at h
 ·cases h
 ·rename_i h0
  cases h
  simp[Nt.ok,aop,Opd.ev,binV,h0]
theorem n_shl {k k':IntKind} {a b q:Int} (h:gshl k a b=some q):Nt.ok P (.pu (.bin .shl (.c (.sc (.int k a))) (.c (.sc (.int k' b)))) (.sc (.int k q))):=by
 unfold gshl at h
 split at h
 ·cases h
 ·rename_i h0
  cases h
  simp[Nt.ok,aop,Opd.ev,binV,h0]
theorem n_shr {k k':IntKind} {a b q:Int} (h:gshr k a b=some q):Nt.ok P (.pu (.bin .shr (.c (.sc (.int k a))) (.c (.sc (.int k' b)))) (.sc (.int k q))):=by
 unfold gshr at h
 split at h
 ·cases h
 ·rename_i h0
  cases h
  simp[Nt.ok,aop,Opd.ev,binV,h0]
theorem n_ch {s:ByteArray} {k:IntKind} {i:Int} {b:UInt8} (h:gch s i=some b):Nt.ok P (.pu (.idxStr (.c (.sc (.string s))) (.c (.sc (.int k i)))) (.sc (.int .u8 b.toNat))):=by
 unfold gch at h
 split at h
 ·rename_i h0
  simp only[Nt.ok,aop,Opd.ev,PV.asI,h0,if_true,h,Option.map_some]
 ·cases h
theorem n_sl {α:Type} {c:α->List PV} {x y:Sl α} {z:Nat} {k k':IntKind} {l h:Int} (e:gslR x l h=some y):Nt.ok P (.pu (.slSl z (.c (eS z c x)) (some (.c (.sc (.int k l)))) (some (.c (.sc (.int k' h)))) none) (eS z c y)):=by
 unfold gslR at e
 split at e
 case isFalse=>cases e
 rename_i h0
 cases x with
 |nil=>
  cases e
  have h1:h.toNat=0:=by have:=h0.2.2.2;simpa [Sl.es] using this
  have h2:l.toNat=0:=by have:=h0.2.2.1;omega
  simp[Nt.ok,aop,Opd.ev,eS,Sl.isNil,Sl.right,Sl.size,Sl.es,bound,PV.asI,h0.1,h0.2.1,h1,h2,Us]
 |no s=>
  cases e
  simp only[Nt.ok,aop,Opd.ev,eS,Sl.isNil,Sl.right,Sl.size,Sl.es,Option.map_some,Option.map_none,bound,PV.asI,h0.1,h0.2.1,if_true,List.length_map,Us]
  have h3:l.toNat<=h.toNat/\h.toNat<=s.length:=h0.2.2
  rw[if_pos (by simp),if_pos h3]
  simp[List.map_take,List.map_drop]
 |full s=>
  cases e
  simp only[Nt.ok,aop,Opd.ev,eS,Sl.isNil,Sl.right,Sl.size,Sl.es,Option.map_some,Option.map_none,bound,PV.asI,h0.1,h0.2.1,if_true,List.length_map,Us]
  have h3:l.toNat<=h.toNat/\h.toNat<=s.length:=h0.2.2
  rw[if_pos (by simp),if_pos h3]
  by_cases hh:h.toNat=s.length
  ·simp only[if_pos hh];simp[List.map_take,List.map_drop]
  ·simp only[if_neg hh];simp[List.map_take,List.map_drop]
theorem n_sll {α:Type} {c:α->List PV} {x y:Sl α} {z:Nat} {k':IntKind} {h:Int} (e:gslR x 0 h=some y):Nt.ok P (.pu (.slSl z (.c (eS z c x)) none (some (.c (.sc (.int k' h)))) none) (eS z c y)):=n_sl (k:=.i64) (P:=P) (c:=c) (k':=k') e
theorem n_slh {α:Type} {c:α->List PV} {x y:Sl α} {z:Nat} {k:IntKind} {l:Int} (e:gslR x l x.es.length=some y):Nt.ok P (.pu (.slSl z (.c (eS z c x)) (some (.c (.sc (.int k l)))) none none) (eS z c y)):=by
 have h:=n_sl (k:=k) (P:=P) (c:=c) (k':=.i64) (z:=z) e
 have h0:0<=l:=by
  unfold gslR at e
  split at e
  ·rename_i hh;exact hh.1
  ·cases e
 have hz:(x.isNil||x.size z==z)=true:=by cases x<;>simp[Sl.isNil,Sl.size]
 have hn:(0:Int)<=(x.es.length:Nat):=by omega
 simp only[Nt.ok,aop,Opd.ev,eS,Option.map_some,Option.map_none,bound,PV.asI,List.length_map,hz,h0,hn,if_true,Int.toNat_natCast]at h ⊢
 exact h
theorem n_app {α:Type} {c:α->List PV} {l m q:List α} {F F':List Blk} {j s bytes:Nat} {nl2:Bool} {r2:Right} (h:gapp bytes l m=some q) (hF:F[j]?=some (.grow l.length s)) (hF':F.set j (.grow q.length s)=F') (h0:0<bytes) (hc:∀ x,(c x).all PV.cellP=true):
  Nt.ok P (.st (.append s bytes (.c (.sl l.isEmpty (.own j) s (l.map c))) (.c (.sl nl2 r2 s (m.map c)))) F (.sl q.isEmpty (.own j) s (q.map c)) F' j):=by
 unfold gapp at h
 split at h
 case isFalse=>cases h
 rename_i hb
 cases h
 subst hF'
 refine⟨?_,Same.set _ _ (Nat.le_refl _)⟩
 simp only[AStep,aop,Opd.ev,Wj,Zr]
 cases m with
 |nil=>
  simp only[List.map_nil,List.isEmpty_nil,if_true,List.append_nil]
  refine⟨trivial,?_⟩
  apply List.ext_getElem?
  intro i
  by_cases hi:j=i
  ·subst hi
   rw[List.getElem?_set_self (List.getElem?_eq_some_iff.1 hF).1,hF]
  ·rw[List.getElem?_set_ne hi]
 |cons x m=>
  rw[if_neg (by simp)]
  have hcond:(s==s&&(s==s||(l.map c).isEmpty)&&decide (((l.map c).length+((x::m).map c).length)*bytes<=140737488355328)&&decide (0<bytes)&&((x::m).map c).all λe=>e.all PV.cellP)=true:=by
   simp only[beq_self_eq_true,Bool.true_or,Bool.and_true,Bool.true_and,List.length_map,hb,h0,decide_true,List.all_map,List.all_eq_true]
   intro y _
   exact hc y
  rw[if_pos hcond]
  cases l with
  |nil=>
   simp only[List.isEmpty_nil,List.length_nil]at hF ⊢
   rw[hF]
   simp
  |cons y l=>
   simp only[List.isEmpty_cons,List.length_map]
   rw[hF]
   simp[Nat.add_assoc]
   congr 2;omega
theorem n_call {f:FuncId} {args:List PV} {r:PV} (h:ACall P f args [] λq h=>q=r/\h=[]) (ha:Cls args) (hr:Cl r):Nt.ok P (.ca f args r):=λF=>.inl (frame_cl ha hr h F)
theorem RV.no {g:Gh} {nl:Bool} {r:Right} {s:Nat} {es:List (List PV)} {v:Value} (h:RV g (.sl nl r s es) v):RV g (.sl nl .no s es) v:=by
 cases h with
 |nilsl=>exact .nilsl _ _
 |em r s A h=>exact .em _ _ _ rfl
 |sl vf hc hm hs hC hR hr=>exact .sl vf hc hm hs hC hR trivial
theorem psub_cl {p:PV} {m:Nat} (h:Cl p):PSub (p.strip m) p:=by rw[h.strip];exact .refl _
theorem We {α:Type} {c:α->List PV} {l:List α} {j s m:Nat} (h:∀ x,Cls (c x)):PSub ((PV.sl l.isEmpty (.own j) s (l.map c)).strip m) (eS s c (mkSl l)):=λg v hv=>by
 simp only[PV.strip,Zd]at hv
 rw[Ys λe he=>Ys λp hp=>(Cls.map h e he p hp).strip m]at hv
 cases l with
 |nil=>cases hv with|nilsl=>exact .nilsl _ _
 |cons x l=>exact hv.no
theorem psub_acc0 {α:Type} {c:α->List PV} {l:List α} {j s:Nat}:PSub (PV.sl l.isEmpty (.own j) s (l.map c)) (eS s c (mkSl l)):=λg v hv=>by
 cases l with
 |nil=>cases hv with|nilsl=>exact .nilsl _ _
 |cons x l=>exact hv.no
def PSubs:List PV->List PV->Prop
 |[],[]=>True
 |p::ps,q::qs=>PSub p q/\PSubs ps qs
 |_,_=>False
theorem PSubs.len:∀ {ps qs:List PV},PSubs ps qs->ps.length=qs.length
 |[],[],_=>rfl
 |_::_,_::_,h=>by simp[PSubs.len h.2]
 |[],_::_,h=>h.elim
 |_::_,[],h=>h.elim
theorem PSubs.get:∀ {ps qs:List PV},PSubs ps qs->∀ (i:Nat) (q:PV),qs[i]?=some q->∃ p,ps[i]?=some p/\PSub p q
 |[],[],_,i,q,hq=>by simp at hq
 |p::ps,q::qs,h,0,q',hq=>by simp at hq;subst hq;exact⟨p,rfl,h.1⟩
 |p::ps,q::qs,h,i+1,q',hq=>PSubs.get h.2 i q' hq
 |[],_::_,h,_,_,_=>h.elim
 |_::_,[],h,_,_,_=>h.elim
theorem psub_tup {ps qs:List PV} {m:Nat} (h:PSubs (ps.map (PV.strip m)) qs):PSub ((PV.tup ps).strip m) (.tup qs):=λg v hv=>by
 simp only[PV.strip,Xw]at hv
 cases hv with
 |tup hn hk=>
  refine .tup (h.len▸hn) λi q v hq hv=>?_
  obtain⟨p,hp,hs⟩:=h.get i q hq
  exact hs _ _ (hk i p v hp hv)
theorem Zf {rs:List RP} {Q:PV->List Blk->Prop} {env e2:List PV} {H':List Blk} {x:Ex} {r r2:PV} (hx:x=.normal\/x=.ret) (hw:WeakS [] env H' e2 H') (hr:resP rs e2 H'=some r) (hs:PSub (r.strip 0) r2) (hq:Q r2 []):Ends rs [] Q x env H':=
 ⟨hx,e2,H',hw,r,hr,.inr ⟨0,[],r2,Nat.le_refl _,⟨rfl,λk y hk=>by simp at hk⟩,hs,hq⟩⟩
theorem Wc {H0 H:List Blk} {N:Nat} {le le':List (Nat×PV)} (h:(le'.map λx=>(mk N le)[x.1]?)=le'.map λx=>some x.2):WeakS H0 (mk N le) H (mk N le') H:=
 weak_mk (Xu le N 0) h
def AllS (m:Nat):List (Nat×PV)->Prop
 |[]=>True
 |x::l=>x.2.strip m=x.2/\AllS m l
def AllB (m:Nat):List Blk->Prop
 |[]=>True
 |x::l=>x.strip m=x/\AllB m l
theorem AllS.mem {m:Nat}:∀ {l:List (Nat×PV)},AllS m l->∀ x∈l,x.2.strip m=x.2
 |[],_,x,h=>by cases h
 |y::l,h,x,hx=>by
  rcases List.mem_cons.1 hx with rfl|hx
  ·exact h.1
  ·exact AllS.mem h.2 x hx
theorem AllB.mem {m:Nat}:∀ {l:List Blk},AllB m l->∀ x∈l,x.strip m=x
 |[],_,x,h=>by cases h
 |y::l,h,x,hx=>by
  rcases List.mem_cons.1 hx with rfl|hx
  ·exact h.1
  ·exact AllB.mem h.2 x hx
theorem weak_cut {H0 H H':List Blk} (X:List Blk) {N:Nat} {le:List (Nat×PV)} (hH:H'=H++X) (hm:H0.length<=H.length) (hle:AllS H.length le) (hB:AllB H.length H):WeakS H0 (mk N le) H' (mk N le) H:=by
 subst hH
 refine λg0 w0 a w g hI hA=>weak_sound hI hA (.inr ⟨hm,⟨rfl,λk x hx=>.inr ⟨x,?_,(hB.mem x (List.mem_of_getElem? hx)).symm⟩⟩,rfl,λi p hp=>?_⟩)
 ·rw[List.getElem?_append_left (List.getElem?_eq_some_iff.1 hx).1];exact hx
 ·have e:=Yw le N 0 i p hp
  rw[Nat.zero_add]at e
  rcases Vv le i with h1|h1
  ·exact .inl (e.trans h1)
  ·rw[<-e]at h1
   exact .inr ⟨p,hp,(hle.mem _ h1).symm⟩
theorem strip_own {nl:Bool} {j s m:Nat} {es:List (List PV)} (hj:Nat.blt j m=true) (h:∀ e∈es,∀ p∈e,Cl p):(PV.sl nl (.own j) s es).strip m=.sl nl (.own j) s es:=by
 simp only[PV.strip,Zd]
 rw[Ys λe he=>Ys λp hp=>(h e he p hp).strip m]
 have:j<m:=Nat.le_of_ble_eq_true hj
 simp[Right.cut,this]
theorem nc {x:Nt} {l:List Nt} (h:x.ok P) (k:Nts P l):Nts P (x::l):=⟨h,k⟩
theorem sa {m n:Nat} {p:PV} {l:List (Nat×PV)} (h:p.strip m=p) (k:AllS m l):AllS m ((n,p)::l):=⟨h,k⟩
theorem se {m:Nat}:AllS m []:=trivial
theorem ba {m:Nat} {b:Blk} {l:List Blk} (h:b.strip m=b) (k:AllB m l):AllB m (b::l):=⟨h,k⟩
theorem be {m:Nat}:AllB m []:=trivial
theorem pc {p q:PV} {ps qs:List PV} {m:Nat} (h:PSub (p.strip m) q) (k:PSubs (ps.map (PV.strip m)) qs):PSubs ((p::ps).map (PV.strip m)) (q::qs):=⟨h,k⟩
theorem pe {m:Nat}:PSubs (([]:List PV).map (PV.strip m)) []:=trivial
theorem n_pickt {t:Bool} {a b:PV} (h:t=true):Nt.ok P (.pu (.pick (.c (.sc (.bool t))) (.c a) (.c b)) a):=by subst h;rfl
theorem n_pickf {t:Bool} {a b:PV} (h:t=false):Nt.ok P (.pu (.pick (.c (.sc (.bool t))) (.c a) (.c b)) b):=by subst h;rfl
theorem n_appS {α:Type} {c:α->List PV} {l q:List α} {m:Sl α} {F F':List Blk} {j s bytes:Nat} (h:gapp bytes l m.es=some q) (hF:F[j]?=some (.grow l.length s)) (hF':F.set j (.grow q.length s)=F') (h0:0<bytes) (hc:∀ x,(c x).all PV.cellP=true):
  Nt.ok P (.st (.append s bytes (.c (.sl l.isEmpty (.own j) s (l.map c))) (.c (eS s c m))) F (.sl q.isEmpty (.own j) s (q.map c)) F' j):=by
 cases m with
 |nil=>
  have h1:=n_app (P:=P) (c:=c) (m:=[]) (nl2:=true) (r2:=.full) h hF hF' h0 hc
  simp only[Nt.ok,AStep,aop,Opd.ev,Wj,Zr,eS,Sl.es,List.map_nil,List.isEmpty_nil,if_true]at h1 ⊢
  exact h1
 |no m=>exact n_app h hF hF' h0 hc
 |full m=>exact n_app h hF hF' h0 hc
def PSubL:List PV->List PV->Prop
 |[],[]=>True
 |p::ps,q::qs=>PSub p q/\PSubL ps qs
 |_,_=>False
theorem qc {p q:PV} {ps qs:List PV} (h:PSub p q) (k:PSubL ps qs):PSubL (p::ps) (q::qs):=⟨h,k⟩
theorem qe:PSubL [] []:=trivial
theorem PSubL.lr {g:Gh}:∀ {ps qs:List PV},PSubL ps qs->ps.length=qs.length/\∀ (i:Nat) (q:PV),qs[i]?=some q->∃ p,ps[i]?=some p/\PSub p q
 |[],[],_=>⟨rfl,λi q hq=>by simp at hq⟩
 |p::ps,q::qs,h=>by
  obtain⟨h1,h2⟩:=PSubL.lr (g:=g) h.2
  refine⟨by simp[h1],λi r hr=>?_⟩
  cases i with
  |zero=>simp at hr;subst hr;exact⟨p,rfl,h.1⟩
  |succ i=>exact h2 i r hr
 |[],_::_,h=>h.elim
 |_::_,[],h=>h.elim
theorem ax_ret {H0:List Blk} {c:AC} (hc:c=.ret) {env:List PV} {H:List Blk} {Q:Ex->List PV->List Blk->Prop} (h:Q .ret env H):AX P H0 c env H Q:=by subst hc;exact h
def SubLE (le:List (Nat×PV)):List (Nat×PV)->Prop
 |[]=>True
 |x::l=>PSub (look le x.1) x.2/\SubLE le l
theorem wc {le l:List (Nat×PV)} {n:Nat} {q:PV} (h:PSub (look le n) q) (k:SubLE le l):SubLE le ((n,q)::l):=⟨h,k⟩
theorem we {le:List (Nat×PV)}:SubLE le []:=trivial
theorem SubLE.mem {le:List (Nat×PV)}:∀ {l:List (Nat×PV)},SubLE le l->∀ x∈l,PSub (look le x.1) x.2
 |[],_,x,h=>by cases h
 |y::l,h,x,hx=>by
  rcases List.mem_cons.1 hx with rfl|hx
  ·exact h.1
  ·exact SubLE.mem h.2 x hx
theorem Wr (le:List (Nat×PV)):∀ n i j,j<n->(Wy le i n)[j]?=some (look le (i+j))
 |0,_,_,h=>by omega
 |n+1,i,0,_=>by simp[Wy]
 |n+1,i,j+1,h=>by
  have:=Wr le n (i+1) j (by omega)
  simp only[Wy,List.getElem?_cons_succ,this]
  congr 2;omega
theorem Uq {H0 H:List Blk} {N:Nat} {le le':List (Nat×PV)} (h:SubLE le le'):WeakS H0 (mk N le) H (mk N le') H:=by
 refine λg0 w0 a w g hI hA=>⟨g,hA.step,hA.inv,⟨?_,λi p v hp hv=>?_⟩,hA.defers,hA.len⟩
 ·rw[<-hA.env.1];simp[mk,Xu]
 ·have e:=Yw le' N 0 i p hp
  have hi:i<N:=by have:=(List.getElem?_eq_some_iff.1 hp).1;simpa [mk,Xu] using this
  have hq:(mk N le)[i]?=some (look le i):=by have:=Wr le N 0 i hi;simpa [mk] using this
  rw[Nat.zero_add]at e
  rcases Vv le' i with h1|h1
  ·rw[e,h1];exact .any _
  ·rw[<-e]at h1
   exact h.mem _ h1 _ _ (hA.env.2 i _ v hq hv)
theorem Uj {H0 H:List Blk} {env:List PV} (s:Nat):WeakS H0 env H env (H++[.grow 0 s]):=by
 refine λg0 w0 a w g hI hA=>⟨g,hA.step,⟨hA.inv.C,λk x hk=>?_,hA.inv.own,hA.inv.lt,λk hk=>hA.inv.domB k (by simp at hk;omega),λk n hk=>hA.inv.domT k n (by simp at hk;omega),λb k hk=>by have:=hA.inv.domO b k hk;simp;omega⟩,hA.env,hA.defers,by have:=hA.len;simp;omega⟩
 rcases Nat.lt_or_ge k H.length with h1|h1
 ·rw[List.getElem?_append_left h1]at hk;exact hA.inv.blk k x hk
 ·rw[List.getElem?_append_right h1]at hk
  have:=List.mem_of_getElem? hk
  simp at this
  subst this
  refine⟨λn' _=>hA.inv.domT k n' h1,λb cap ht=>?_⟩
  rw[hA.inv.domT k 0 h1]at ht;cases ht
theorem Uk {α:Type} {c:α->List PV} {s k:Nat}:PSub (eS s c .nil) (.sl (List.isEmpty ([]:List α)) (.own k) s (List.map c [])):=λg v hv=>by
 cases hv with
 |nilsl=>exact .nilsl _ _
structure GX (P:Program) (H0:List Blk) (c:AC) (env:List PV) (H:List Blk) (Q:Ex->List PV->List Blk->Prop):Prop where
 ax:AX P H0 c env H Q
variable {H0:List Blk}
theorem g_reg {c a b:AC} (hc:c=.seq a b) {N:Nat} {le:List (Nat×PV)} {H:List Blk} {Q:Ex->List PV->List Blk->Prop} (le':List (Nat×PV)) (H':List Blk) (n1 n2:List Nt)
  (hE:runO a N le H n1 n2 le'=some (vals le',H',n1,n2)) (h1:Nts P n1) (h2:Nts P n2) (hb:GX P H0 b (mk N le') H' Q):GX P H0 c (mk N le) H Q:=
 ⟨ax_reg hc le' H' n1 n2 hE h1 h2 hb.ax⟩
theorem g_join {c a b:AC} (hc:c=.seq a b) {φ ρ:Type} {N:Nat} {env:List PV} {H:List Blk} {Q:Ex->List PV->List Blk->Prop} (E:φ->List (Nat×PV)) (Hh:φ->List Blk) (j:φ->Option ρ) (out:ρ)
  (hJ:∀ p,j p=some out->GX P H0 b (mk N (E p)) (Hh p) Q)
  (hA:GX P H0 a env H λx e h=>match x with
   |.normal=>∃ e2 h2,WeakS H0 e h e2 h2/\∃ p,j p=some out/\e2=mk N (E p)/\h2=Hh p
   |x=>Q x e h):GX P H0 c env H Q:=⟨ax_join hc E Hh j out (λp hp=>(hJ p hp).ax) hA.ax⟩
theorem g_seq {c a b:AC} (hc:c=.seq a b) {env:List PV} {H:List Blk} {Q:Ex->List PV->List Blk->Prop}
  (hA:GX P H0 a env H λx e h=>match x with
   |.normal=>∃ e2 h2,WeakS H0 e h e2 h2/\GX P H0 b e2 h2 Q
   |x=>Q x e h):GX P H0 c env H Q:=
 ⟨ax_seq hc (AX.mono a hA.ax λx e h hx=>by
  cases x with
  |normal=>obtain⟨e2,h2,hw,k⟩:=hx;exact⟨e2,h2,hw,k.ax⟩
  |exit i=>exact hx
  |ret=>exact hx)⟩
theorem g_cond {c a b:AC} {o:Opd} (hc:c=.cond o a b) {env:List PV} {H:List Blk} {Q:Ex->List PV->List Blk->Prop} (t:Bool) (ho:o.ev env=.sc (.bool t)) (ha:t=true->GX P H0 a env H Q) (hb:t=false->GX P H0 b env H Q):GX P H0 c env H Q:=
 ⟨ax_cond hc t ho (λh=>(ha h).ax) (λh=>(hb h).ax)⟩
theorem g_block {c b:AC} {id:Nat} (hc:c=.block id b) {env:List PV} {H:List Blk} {Q:Ex->List PV->List Blk->Prop} (h:GX P H0 b env H λx e h=>match x with
  |.exit i=>if i=id then Q .normal e h else Q (.exit i) e h
  |x=>Q x e h):GX P H0 c env H Q:=⟨ax_block hc h.ax⟩
theorem g_loop {c b:AC} (hc:c=.loop b) {σ τ:Type} {N:Nat} {env:List PV} {H:List Blk} {Q:Ex->List PV->List Blk->Prop} (E:σ->List (Nat×PV)) (Hh:σ->List Blk) (body:σ->Option (σ⊕τ)) {s:σ} {t:τ} (hs:loopO body s=some t)
  (h0:WeakS H0 env H (mk N (E s)) (Hh s))
  (hb:∀ s o,body s=some o->(∀ u,o=.inr u->u=t)->GX P H0 b (mk N (E s)) (Hh s) λx e h=>match o with
   |.inl s'=>x=.normal/\WeakS H0 e h (mk N (E s')) (Hh s')
   |.inr _=>match x with
    |.normal=>False
    |x=>Q x e h):GX P H0 c env H Q:=⟨ax_loop hc E Hh body hs h0 λs o h1 h2=>(hb s o h1 h2).ax⟩
theorem g_ret {c:AC} (hc:c=.ret) {env:List PV} {H:List Blk} {Q:Ex->List PV->List Blk->Prop} (h:Q .ret env H):GX P H0 c env H Q:=⟨ax_ret hc h⟩
theorem g_call {f:FuncId} {af:AF} {args:List PV} {H:List Blk} {Q:PV->List Blk->Prop} (hmix:P.follows .mixedOrders=true) (hE:EntryOk P f af) {le:List (Nat×PV)} {Hs:List Blk}
  (hw:WeakS H (args++List.replicate (af.ntmps-args.length) (.tup [])) H (mk af.ntmps le) Hs) (h:GX P H af.body (mk af.ntmps le) Hs (Ends af.res H Q)):ACall P f args H Q:=ax_call hmix hE hw h.ax
end
end Go.PE
