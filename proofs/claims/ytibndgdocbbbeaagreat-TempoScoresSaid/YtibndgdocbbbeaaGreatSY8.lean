/- A part of the proof. -/
import Derived.Test.YtibndgdocbbbeaaGreatSY7
set_option linter.all false
namespace Go.PE
open Go.RowKit
abbrev iP (x:Int):PV:=.sc (.int .i64 x)
abbrev bP (x:Bool):PV:=.sc (.bool x)
abbrev sP (x:ByteArray):PV:=.sc (.string x)
abbrev ln {α:Type} (x:Sl α):Int:=((List.length (Sl.es x):Nat):Int)
abbrev lnl {α:Type} (l:List α):Int:=((List.length l:Nat):Int)
abbrev lns (x:ByteArray):Int:=((ByteArray.size x:Nat):Int)
abbrev wi (x:Int):Int:=IntKind.wrap .i64 x
abbrev oP {α:Type} (j s:Nat) (c:α->List PV) (l:List α):PV:=.sl (List.isEmpty l) (.own j) s (List.map c l)
abbrev nP {α:Type} (j s:Nat) (c:α->List PV) (l:List α):PV:=.sl false (.own j) s (List.map c l)
class ClsC {α:Type} (c:α->List PV):Prop where h:∀ x,Cls (c x)
class ClP (p:PV):Prop where h:Cl p
class ClL (l:List PV):Prop where h:Cls l
class ClLL (l:List (List PV)):Prop where h:∀ e∈l,∀ p∈e,Cl p
instance:ClsC cI:=⟨cl_cI⟩
instance:ClsC cB:=⟨cl_cB⟩
instance:ClsC cS:=⟨cl_cS⟩
instance {k:IntKind}:ClsC (cK k):=⟨cl_cK k⟩
instance {α:Type} {s:Nat} {c:α->List PV} [ClsC c]:ClsC (cL s c):=⟨cl_cL ClsC.h⟩
instance:ClP .any:=⟨.any⟩
instance {v:Value}:ClP (.sc v):=⟨.sc v⟩
instance {l:List PV} [ClL l]:ClP (.agg l):=⟨.agg ClL.h⟩
instance {l:List PV} [ClL l]:ClP (.tup l):=⟨.tup ClL.h⟩
instance {l:List PV} [ClL l]:ClP (.ip l):=⟨.ip ClL.h⟩
instance {nl:Bool} {s:Nat} {es:List (List PV)} [ClLL es]:ClP (.sl nl .full s es):=⟨.full ClLL.h⟩
instance {nl:Bool} {s:Nat} {es:List (List PV)} [ClLL es]:ClP (.sl nl .no s es):=⟨.no ClLL.h⟩
instance {f:Fn} {p q:List PV} [ClL p] [ClL q]:ClP (.fn f p q):=⟨.fn ClL.h ClL.h⟩
instance {α:Type} {s:Nat} {c:α->List PV} {x:Sl α} [ClsC c]:ClP (eS s c x):=⟨cl_eS ClsC.h⟩
instance:ClL []:=⟨Cls.nil⟩
instance {p:PV} {l:List PV} [ClP p] [ClL l]:ClL (p::l):=⟨Cls.cons ClP.h ClL.h⟩
instance {a b:List PV} [ClL a] [ClL b]:ClL (a++b):=⟨λp hp=>(List.mem_append.1 hp).elim (ClL.h p) (ClL.h p)⟩
instance {a:List PV} {n:Nat} [ClL a]:ClL (List.drop n a):=⟨λp hp=>ClL.h p (List.mem_of_mem_drop hp)⟩
instance {α:Type} {c:α->List PV} {l:List α} [ClsC c]:ClL ((List.map c l).flatten):=⟨cls_flat ClsC.h l⟩
instance:ClLL []:=⟨λ_ h=>by cases h⟩
instance {e:List PV} {l:List (List PV)} [ClL e] [ClLL l]:ClLL (e::l):=⟨lc ClL.h ClLL.h⟩
instance {α:Type} {c:α->List PV} {l:List α} [ClsC c]:ClLL (List.map c l):=⟨Cls.map ClsC.h⟩
class BltI (k m:Nat):Prop where h:Nat.blt k m=true
instance {m:Nat}:BltI 0 (m+1):=⟨by simp[Nat.blt]⟩
instance {k m:Nat} [h:BltI k m]:BltI (k+1) (m+1):=⟨by have:=h.h;simp[Nat.blt]at this ⊢;omega⟩
class StP (m:Nat) (p:PV):Prop where h:p.strip m=p
class StLI (m:Nat) (l:List PV):Prop where h:StL m l
class StLLI (m:Nat) (l:List (List PV)):Prop where h:StLL m l
theorem stl_of {m:Nat}:∀ {l:List PV},l.map (PV.strip m)=l->StL m l
 |[],_=>trivial
 |p::l,h=>by
  simp only[List.map_cons,List.cons.injEq]at h
  exact⟨h.1,stl_of h.2⟩
theorem stl_cls {m:Nat} {l:List PV} (h:Cls l):StL m l:=stl_of (Ys λp hp=>(h p hp).strip m)
theorem stl_app {m:Nat}:∀ {a b:List PV},StL m a->StL m b->StL m (a++b)
 |[],_,_,h=>h
 |_::_,_,h,k=>⟨h.1,stl_app h.2 k⟩
instance {m k o:Nat} [h:BltI k m]:StP m (.bp k o):=⟨strip_bp h.h⟩
instance {m k:Nat} [h:BltI k m]:StP m (.mp k):=⟨strip_mp h.h⟩
instance {m k o n s:Nat} {full:Bool} [h:BltI k m]:StP m (.bs k o n s full):=⟨strip_bs h.h⟩
instance {m j s:Nat} {nl:Bool} {es:List (List PV)} [h:BltI j m] [ClLL es]:StP m (.sl nl (.own j) s es):=⟨strip_own h.h ClLL.h⟩
instance {m:Nat} {f:Fn} {p q:List PV} [StLI m p] [StLI m q]:StP m (.fn f p q):=⟨strip_fn StLI.h StLI.h⟩
instance {m:Nat} {p:List PV} [StLI m p]:StP m (.agg p):=⟨strip_agg StLI.h⟩
instance {m s:Nat} {es:List (List PV)} [StLLI m es]:StP m (.sl false .full s es):=⟨strip_lst StLLI.h⟩
instance {m:Nat} {p:PV} [ClP p]:StP m p:=⟨Cl.strip _ ClP.h⟩
instance {m:Nat}:StLI m []:=⟨ste⟩
instance {m:Nat} {p:PV} {l:List PV} [StP m p] [StLI m l]:StLI m (p::l):=⟨stc StP.h StLI.h⟩
instance {m:Nat} {a b:List PV} [StLI m a] [StLI m b]:StLI m (a++b):=⟨stl_app StLI.h StLI.h⟩
instance {m:Nat} {l:List PV} [ClL l]:StLI m l:=⟨stl_cls ClL.h⟩
instance {m:Nat}:StLLI m []:=⟨sle⟩
instance {m:Nat} {e:List PV} {l:List (List PV)} [StLI m e] [StLLI m l]:StLLI m (e::l):=⟨slc StLI.h StLLI.h⟩
class AllSI (m:Nat) (l:List (Nat×PV)):Prop where h:AllS m l
instance {m:Nat}:AllSI m []:=⟨se⟩
instance {m n:Nat} {p:PV} {l:List (Nat×PV)} [StP m p] [AllSI m l]:AllSI m ((n,p)::l):=⟨sa StP.h AllSI.h⟩
class BlkI (m:Nat) (b:Blk):Prop where h:b.strip m=b
instance {m:Nat} {cs:List PV} [StLI m cs]:BlkI m (.cells cs):=⟨strip_cells2 StLI.h⟩
instance {m n s:Nat}:BlkI m (.grow n s):=⟨rfl⟩
instance {m:Nat} {K V:Type} {kv:K->Value} {pv:V->PV} {x:GM K V} [ClsC λv=>[pv v]]:BlkI m (gmB kv pv x):=⟨strip_mapB (gm_cls λv=>(ClsC.h (c:=λv=>[pv v]) v) _ (List.mem_cons_self ..))⟩
instance {α:Type} {f:α->PV} [h:∀ x,ClP (f x)]:ClsC (λv=>[f v]):=⟨λx=>Cls.cons (h x).h Cls.nil⟩
class AllBI (m:Nat) (l:List Blk):Prop where h:AllB m l
instance {m:Nat}:AllBI m []:=⟨be⟩
instance {m:Nat} {b:Blk} {l:List Blk} [BlkI m b] [AllBI m l]:AllBI m (b::l):=⟨ba BlkI.h AllBI.h⟩
theorem weak_cutI {H0 H H':List Blk} (m:Nat) {N:Nat} {le:List (Nat×PV)} [AllSI m le] [AllBI m H] (hH:H'.take m=H:=by kernel_rfl) (hm:H.length=m:=by kernel_rfl) (h0:Nat.ble H0.length m=true:=by kernel_rfl):WeakS H0 (mk N le) H' (mk N le) H:=by
 subst hm
 have e:H'=H++H'.drop H.length:=by
  have:=(List.take_append_drop H.length H').symm
  rwa [hH]at this
 exact weak_cut (H'.drop H.length) e (Nat.le_of_ble_eq_true h0) AllSI.h AllBI.h
theorem ends_cl {rs:List RP} {env e2:List PV} {H':List Blk} {x:Ex} {r:PV} (hx:x=.normal\/x=.ret) (hw:WeakS [] env H' e2 H') [h:ClP r] (hr:resP rs e2 H'=some r:=by kernel_rfl):Ends rs [] (λq h=>q=r/\h=[]) x env H':=
 Zf hx hw hr (psub_cl h.h) ⟨rfl,rfl⟩
theorem ends_clH {rs:List RP} {env e2:List PV} {H0 H' H2 H3:List Blk} {x:Ex} {r:PV} (hx:x=.normal\/x=.ret) (hw:WeakS H0 env H' e2 H2) (m:Nat) [h:ClP r] [AllBI m H3] (hH:H2.take m=H3:=by kernel_rfl) (hm:H0.length=m:=by rfl) (hm3:H3.length=m:=by rfl) (hr:resP rs e2 H2=some r:=by kernel_rfl):Ends rs H0 (λq h=>q=r/\h=H3) x env H':=by
 subst hm3
 have e:H2=H3++H2.drop H3.length:=by
  have:=(List.take_append_drop H3.length H2).symm
  rwa [hH]at this
 exact ends_cutH (X:=H2.drop H3.length) hx hw e hm hr AllBI.h (psub_cl h.h) ⟨rfl,rfl⟩
def Vk:Nat->List PV->List (Nat×PV)
 |_,[]=>[]
 |i,p::l=>(i,p)::Vk (i+1) l
theorem look_args:∀ (args:List PV) (i n:Nat),look (Vk i args) (i+n)=.any\/args[n]?=some (look (Vk i args) (i+n))
 |[],i,n=>.inl rfl
 |p::l,i,0=>by right;simp[Vk,look]
 |p::l,i,n+1=>by
  have h1:Nat.beq i (i+(n+1))=false:=by
   cases h:Nat.beq i (i+(n+1))with
   |false=>rfl
   |true=>have:=Nat.eq_of_beq_eq_true h;omega
  have:=look_args l (i+1) n
  simp only[Vk,look,h1,List.getElem?_cons_succ]
  rwa [show i+(n+1)=i+1+n by omega]
variable {P:Program}
theorem g_callI {f:FuncId} {af:AF} {args:List PV} {H:List Blk} {Q:PV->List Blk->Prop} (hmix:P.follows .mixedOrders=true) (hE:EntryOk P f af) (h:GX P H af.body (mk af.ntmps (Vk 0 args)) H (Ends af.res H Q)) (hl:Nat.ble args.length af.ntmps=true:=by rfl):ACall P f args H Q:=by
 refine g_call hmix hE (le:=Vk 0 args) (Hs:=H) (λg0 w0 a w g hI hA=>weak_sound hI hA (.inl ⟨rfl,?_,λi p hp=>?_⟩)) h
 ·have:=Nat.le_of_ble_eq_true hl
  simp[mk,Xu];omega
 ·have e:=Yw _ af.ntmps 0 i p hp
  rw[Nat.zero_add]at e
  have k:=look_args args 0 i
  rw[Nat.zero_add]at k
  rcases k with h1|h1
  ·exact .inl (e.trans h1)
  ·right
   rw[<-e]at h1
   rw[List.getElem?_append_left (List.getElem?_eq_some_iff.1 h1).1];exact h1
class GetI (l:List Nat) (i:Nat) (k:outParam Nat):Prop where h:l[i]?=some k
instance {l:List Nat} {k:Nat}:GetI (k::l) 0 k:=⟨rfl⟩
instance {l:List Nat} {i k x:Nat} [h:GetI l i k]:GetI (x::l) (i+1) k:=⟨by simpa using h.h⟩
class RnI (l:List Nat) (p:PV) (q:outParam PV):Prop where h:Rn l p q
class RnLI (l:List Nat) (p:List PV) (q:outParam (List PV)):Prop where h:RnL l p q
theorem rnl_cls {l:List Nat}:∀ {a:List PV},Cls a->RnL l a a
 |[],_=>trivial
 |p::_,h=>⟨rn_cl (h p (List.mem_cons_self ..)),rnl_cls λq hq=>h q (List.mem_cons_of_mem _ hq)⟩
theorem rnl_app {l:List Nat}:∀ {a b c d:List PV},RnL l a b->RnL l c d->RnL l (a++c) (b++d)
 |[],[],_,_,_,h=>h
 |_::_,_::_,_,_,h,k=>⟨h.1,rnl_app h.2 k⟩
 |[],_::_,_,_,h,_=>h.elim
 |_::_,[],_,_,h,_=>h.elim
instance {l:List Nat} {i k o:Nat} [h:GetI l i k]:RnI l (.bp i o) (.bp k o):=⟨rn_bp h.h⟩
instance {l:List Nat} {i k:Nat} [h:GetI l i k]:RnI l (.mp i) (.mp k):=⟨rn_mp h.h⟩
instance {l:List Nat} {i k s:Nat} {nl:Bool} {es:List (List PV)} [h:GetI l i k] [ClLL es]:RnI l (.sl nl (.own i) s es) (.sl nl (.own k) s es):=⟨rn_acc h.h ClLL.h⟩
instance {l:List Nat} {f:Fn} {a b c d:List PV} [RnLI l a c] [RnLI l b d]:RnI l (.fn f a b) (.fn f c d):=⟨rn_fn RnLI.h RnLI.h⟩
instance {l:List Nat} {a c:List PV} [RnLI l a c]:RnI l (.agg a) (.agg c):=⟨rn_agg RnLI.h⟩
instance {l:List Nat} {a c:List PV} [RnLI l a c]:RnI l (.tup a) (.tup c):=⟨rn_tup RnLI.h⟩
instance {l:List Nat} {p:PV} [h:ClP p]:RnI l p p:=⟨rn_cl h.h⟩
instance {l:List Nat}:RnLI l [] []:=⟨rne⟩
instance {l:List Nat} {p q:PV} {ps qs:List PV} [RnI l p q] [RnLI l ps qs]:RnLI l (p::ps) (q::qs):=⟨rnl RnI.h RnLI.h⟩
instance {l:List Nat} {a b c d:List PV} [RnLI l a b] [RnLI l c d]:RnLI l (a++c) (b++d):=⟨rnl_app RnLI.h RnLI.h⟩
instance {l:List Nat} {a:List PV} [h:ClL a]:RnLI l a a:=⟨rnl_cls h.h⟩
class RnBI (l:List Nat) (p:Blk) (q:outParam Blk):Prop where h:RnB l p q
instance {l:List Nat} {a b:List PV} [h:RnLI l a b]:RnBI l (.cells a) (.cells b):=⟨h.h⟩
instance {l:List Nat} {n s:Nat}:RnBI l (.grow n s) (.grow n s):=⟨⟨rfl,rfl⟩⟩
instance {l:List Nat} {K V:Type} {kv:K->Value} {pv:V->PV} {x:GM K V} [ClsC λv=>[pv v]]:RnBI l (gmB kv pv x) (gmB kv pv x):=⟨⟨rfl,rfl,gm_rnl λv=>(ClsC.h (c:=λv=>[pv v]) v) _ (List.mem_cons_self ..)⟩⟩
class RnBsI (l:List Nat) (p:List Blk) (q:outParam (List Blk)):Prop where h:RnBs l p q
instance {l:List Nat}:RnBsI l [] []:=⟨rbe⟩
instance {l:List Nat} {a b:Blk} {p q:List Blk} [h:RnBI l a b] [k:RnBsI l p q]:RnBsI l (a::p) (b::q):=⟨⟨h.h,k.h⟩⟩
class RnALI (l:List Nat) (js:List (Option Nat)) (p:List PV) (q:outParam (List PV)):Prop where h:RnAL l p q
instance {l:List Nat} {js:List (Option Nat)}:RnALI l js [] []:=⟨rae⟩
instance {l:List Nat} {p q:PV} {ps qs:List PV} [RnI l p q] [RnALI l [] ps qs]:RnALI l [] (p::ps) (q::qs):=⟨raf RnI.h (RnALI.h [])⟩
instance {l:List Nat} {js:List (Option Nat)} {p q:PV} {ps qs:List PV} [RnI l p q] [RnALI l js ps qs]:RnALI l (none::js) (p::ps) (q::qs):=⟨raf RnI.h (RnALI.h js)⟩
instance {l:List Nat} {js:List (Option Nat)} {α:Type} {c:α->List PV} {x:List α} {j s:Nat} {ps qs:List PV} [ClsC c] [RnALI l js ps qs]:RnALI l (some j::js) (eS s c (mkSl x)::ps) (.sl (List.isEmpty x) (.own j) s (List.map c x)::qs):=⟨ras ClsC.h (RnALI.h js)⟩
instance {l:List Nat} {js:List (Option Nat)} {α:Type} {c:α->List PV} {x:List α} {j s:Nat} {ps qs:List PV} [ClsC c] [RnALI l js ps qs]:RnALI l (some j::js) (eS s c (.no x)::ps) (.sl false (.own j) s (List.map c x)::qs):=⟨rasn ClsC.h (RnALI.h js)⟩
theorem putL_same:∀ {F:List Blk} {l:List Nat} {B:List Blk},l.map (λk=>F[k]?)=B.map some->putL F l B=F
 |F,[],_,_=>by simp[putL]
 |F,_::_,[],h=>by simp at h
 |F,k::l,b::B,h=>by
  simp only[List.map_cons,List.cons.injEq]at h
  have e:F.set k b=F:=by
   apply List.ext_getElem?
   intro i
   by_cases hi:k=i
   ·subst hi;rw[List.getElem?_set_self (List.getElem?_eq_some_iff.1 h.1).1,h.1]
   ·rw[List.getElem?_set_ne hi]
  rw[putL,e,putL_same h.2]
theorem lt_of_map {F:List Blk}:∀ {l:List Nat} {B:List Blk},l.map (λk=>F[k]?)=B.map some->∀ k∈l,k<F.length
 |[],_,_,k,hk=>by cases hk
 |_::_,[],h,_,_=>by simp at h
 |x::l,b::B,h,k,hk=>by
  simp only[List.map_cons,List.cons.injEq]at h
  rcases List.mem_cons.1 hk with rfl|hk
  ·exact(List.getElem?_eq_some_iff.1 h.1).1
  ·exact lt_of_map h.2 k hk
theorem RnALI.len {l:List Nat} {p q:List PV} (h:RnAL l p q):p.length=q.length:=RnAL.len h
def callOp (f:FuncId) (args:List PV) (nf nc:Nat):AOp:=.call (.c (.fn (.func f) (args.take nf) (args.drop (args.length-nc)))) (((args.drop nf).take (args.length-nc-nf)).map .c)
theorem callOp_args (args:List PV) (nf nc:Nat) (h:nf+nc<=args.length):args.take nf++((args.drop nf).take (args.length-nc-nf))++args.drop (args.length-nc)=args:=by
 have e:(args.drop nf).take (args.length-nc-nf)=(args.take (args.length-nc)).drop nf:=by rw[List.drop_take]
 rw[e]
 have e2:args.take nf=(args.take (args.length-nc)).take nf:=by rw[List.take_take];congr 1;omega
 rw[e2,List.take_append_drop,List.take_append_drop]
theorem fr_call {f:FuncId} {args0 args:List PV} {H0 H1 B0 B1:List Blk} {r0 r:PV} {l:List Nat} {nf nc:Nat} (h:ACall P f args0 H0 λq h=>q=r0/\h=H1) (hl:nodupN l=true) (hn1:H1.length=H0.length) (hB0:RnBs l H0 B0) (hB1:RnBs l H1 B1) (ha:RnAL l args0 args) (hr:Rn l r0 r) (hlen:nf+nc<=args0.length):
  Nt.ok P (.fr (callOp f args nf nc) l B0 B1 r):=λF hF=>by
 have hlen2:nf+nc<=args.length:=by rw[<-ha.len];exact hlen
 have hll:l.length=H0.length:=by
  have:=congrArg List.length hF
  simp only[List.length_map]at this
  rw[this,hB0.len]
 simp only[callOp,AStep,Opd.ev]
 have e:((((args.drop nf).take (args.length-nc-nf)).map Opd.c).map λx=>x.ev [])=(args.drop nf).take (args.length-nc-nf):=by rw[List.map_map];exact List.map_id _
 show XCall P f (args.take nf++((((args.drop nf).take (args.length-nc-nf)).map Opd.c).map λx=>x.ev [])++args.drop (args.length-nc)) F _
 rw[e,callOp_args _ _ _ hlen2]
 exact .inl (acall_frame h (nodupN_sound hl) (lt_of_map hF) hll hn1 hF hB0 hB1 ha hr)
def kK (l:List Nat) (js:List (Option Nat)) (nf nc:Nat) {f:FuncId} {args0 args:List PV} {H0 H1 B0 B1:List Blk} {r0 r:PV} (h:ACall P f args0 H0 λq h=>q=r0/\h=H1) [RnBsI l H0 B0] [RnBsI l H1 B1] [RnALI l js args0 args] [RnI l r0 r] (hl:nodupN l=true:=by rfl) (hn1:H1.length=H0.length:=by rfl) (hlen:Nat.ble (nf+nc) args0.length=true:=by rfl):BN P:=
 ⟨.fr (callOp f args nf nc) l B0 B1 r,fr_call h hl hn1 RnBsI.h RnBsI.h (RnALI.h js) RnI.h (Nat.le_of_ble_eq_true hlen)⟩
def kQ (l:List Nat) (js:List (Option Nat)) (nf nc:Nat) {f:FuncId} {args0 args:List PV} {H0 B0:List Blk} {r0 r:PV} (h:ACall P f args0 H0 λq h=>q=r0/\h=H0) [RnBsI l H0 B0] [RnALI l js args0 args] [RnI l r0 r] (hl:nodupN l=true:=by rfl) (hlen:Nat.ble (nf+nc) args0.length=true:=by rfl):BN P:=
 ⟨.fd (callOp f args nf nc) l B0 r,λF hF=>by
  have:=fr_call (l:=l) h hl rfl RnBsI.h RnBsI.h (RnALI.h js) RnI.h (Nat.le_of_ble_eq_true hlen) F hF
  rwa [putL_same hF]at this⟩
def kC {f:FuncId} {args:List PV} {r:PV} (h:ACall P f args [] λq h=>q=r/\h=[]) [a:ClL args] [c:ClP r]:BN P:=⟨.ca f args r,n_call h a.h c.h⟩
class PSJ (js:List (Option Nat)) (q:List PV) (p:outParam (List PV)):Prop where h:PSubL p q
instance {js:List (Option Nat)}:PSJ js [] []:=⟨qe⟩
instance {js:List (Option Nat)} {p:PV} {ps qs:List PV} [k:PSJ js qs ps]:PSJ (none::js) (p::qs) (p::ps):=⟨qc (.refl _) k.h⟩
instance {js:List (Option Nat)} {α:Type} {c:α->List PV} {x:List α} {j s:Nat} {ps qs:List PV} [k:PSJ js qs ps]:PSJ (some j::js) (eS s c (mkSl x)::qs) (.sl (List.isEmpty x) (.own j) s (List.map c x)::ps):=⟨qc psub_acc0 k.h⟩
instance {js:List (Option Nat)} {α:Type} {c:α->List PV} {x:List α} {j s:Nat} {ps qs:List PV} [k:PSJ js qs ps]:PSJ (some j::js) (eS s c (.no x)::qs) (.sl false (.own j) s (List.map c x)::ps):=⟨qc psub_accn0 k.h⟩
def kX {α:Type} (s:Nat) (c:α->List PV) {x:Sl α} {i:Int} {y:α} (h:gx x.es i=some y):BN P:=⟨.pu (.iaddrS s (.c (eS s c x)) (.c (iP i))) (.ip (c y)),n_ix h⟩
def kXA {α:Type} (j s:Nat) (c:α->List PV) {l:List α} {i:Int} {x:α} (h:gx l i=some x):BN P:=⟨.pu (.iaddrS s (.c (oP j s c l)) (.c (iP i))) (.ip (c x)),n_ixA h⟩
def kXN {α:Type} (j s:Nat) (c:α->List PV) {l:List α} {i:Int} {x:α} (h:gx l i=some x):BN P:=⟨.pu (.iaddrS s (.c (nP j s c l)) (.c (iP i))) (.ip (c x)),n_ixA h⟩
def kL {α:Type} (s:Nat) (c:α->List PV) (x:Sl α):BN P:=⟨.pu (.len (.c (eS s c x))) (iP (ln x)),n_len⟩
def kLA {α:Type} (j s:Nat) (c:α->List PV) (l:List α):BN P:=⟨.pu (.len (.c (oP j s c l))) (iP (lnl l)),n_lenA⟩
def kLN {α:Type} (j s:Nat) (c:α->List PV) (l:List α):BN P:=⟨.pu (.len (.c (nP j s c l))) (iP (lnl l)),n_lenA⟩
theorem get_of {F:List Blk} {j:Nat} {b:Blk} (h:[j].map (λk=>F[k]?)=[b].map some):F[j]?=some b:=by simpa using h
def kA {α:Type} (j s:Nat) {bytes:Nat} (c:α->List PV) {l q:List α} {m:Sl α} (h:gapp bytes l m.es=some q) (h0:Nat.blt 0 bytes=true:=by rfl) (hc:∀ x,(c x).all PV.cellP=true:=by intro _;rfl):BN P:=
 ⟨.fr (.append s bytes (.c (oP j s c l)) (.c (eS s c m))) [j] [.grow (List.length l) s] [.grow (List.length q) s] (oP j s c q),λ_ hF=>(n_appS h (get_of hF) rfl (Nat.le_of_ble_eq_true h0) hc).1⟩
def kAN {α:Type} (j s:Nat) {bytes:Nat} (c:α->List PV) {l q:List α} {m:Sl α} (h:gapp bytes l m.es=some q) (h0:Nat.blt 0 bytes=true:=by rfl) (hc:∀ x,(c x).all PV.cellP=true:=by intro _;rfl):BN P:=
 ⟨.fr (.append s bytes (.c (nP j s c l)) (.c (eS s c m))) [j] [.grow (List.length l) s] [.grow (List.length q) s] (nP j s c q),λ_ hF=>(n_appNN h (get_of hF) rfl (Nat.le_of_ble_eq_true h0) hc).1⟩
theorem fd_lookup {K V:Type} {kv:K->Value} {pv:V->PV} {eq:K->K->Bool} {m:GM K V} {k:K} {z x:V} {key zp:PV} {ks:List Knd} {st:Bool} {b:Nat} (h:gmGet eq m k z=some x) (hz:zp=pv z) (hk:toV key=some (kv k)) (hs:isAggV (kv k)=st/\(kv k).cells.size=ks.length)
  (heq:∀ a b,Wf ks st (kv a) (kv b)=some (eq a b)):Nt.ok P (.fd (.lookup ks st zp (.c (.mp b)) (.c key) false) [b] [gmB kv pv m] (pv x)):=λ_ hF=>n_lookup (P:=P) h hz hk hs heq (get_of hF)
theorem fr_mapUp {K V:Type} {kv:K->Value} {pv:V->PV} {eq:K->K->Bool} {m:GM K V} {k:K} {v:V} {key vp:PV} {ks:List Knd} {st:Bool} {b:Nat} (hv:vp=pv v) (hk:toV key=some (kv k)) (hs:isAggV (kv k)=st/\(kv k).cells.size=ks.length)
  (heq:∀ a b,Wf ks st (kv a) (kv b)=some (eq a b)):Nt.ok P (.fr (.mapUp ks st (.c (.mp b)) (.c key) (.c vp)) [b] [gmB kv pv m] [gmB kv pv (gmPut eq m k v)] (.tup [])):=λ_ hF=>(n_mapUp hv hk hs heq (get_of hF) rfl).1
theorem fd_loadB {α:Type} {f:α->PV} {l:List α} {k:Nat} {i:Int} {x:α} (h:gx l i=some x):Nt.ok P (.fd (.load none (.c (.bp k (0+i.toNat*1)))) [k] [.cells ((l.map λx=>[f x]).flatten)] (f x)):=λ_ hF=>n_loadB (P:=P) h (get_of hF)
theorem fr_storeB {α:Type} {f:α->PV} {l q:List α} {k:Nat} {i:Int} {x:α} {vp:PV} (h:gset l i x=some q) (hv:vp=f x) (hc:∀ x,(f x).cells=[f x]/\(f x).cellP=true):
  Nt.ok P (.fr (.store 1 (.c (.bp k (0+i.toNat*1))) (.c vp)) [k] [.cells ((l.map λx=>[f x]).flatten)] [.cells ((q.map λx=>[f x]).flatten)] (.tup [])):=λ_ hF=>(n_storeB h hv hc (get_of hF) rfl).1
theorem fd_strBytes {s:ByteArray} {x:Sl Int} (h:gby s=some x):Nt.ok P (.fd (.strBytes (.c (.sc (.string s)))) [] [] (eS 1 (cK .u8) x)):=λ_ _=>n_strBytes (P:=P) h
def rp {α:Type}:Nat->α->List α->List α
 |0,_,l=>l
 |n+1,x,l=>x::rp n x l
def rq:Nat->BN P->List (BN P)->List (BN P)
 |0,_,l=>l
 |n+1,x,l=>x::bE::rq n x l
def kPt {t:Bool} (a b:PV) (h:t=true):BN P:=⟨.pu (.pick (.c (bP t)) (.c a) (.c b)) a,n_pickt h⟩
def kPf {t:Bool} (a b:PV) (h:t=false):BN P:=⟨.pu (.pick (.c (bP t)) (.c a) (.c b)) b,n_pickf h⟩
abbrev ai (d:Nat) (op:AOp):AI:=⟨some d,none,op⟩
abbrev a0 (op:AOp):AI:=⟨none,none,op⟩
abbrev d0 (l:List Nat) (x:AI):DI:=⟨false,l,[],x⟩
instance {m:Nat} {a b:List Blk} [h:AllBI m a] [k:AllBI m b]:AllBI m (a++b):=⟨by
 have key:∀ {a:List Blk},AllB m a->AllB m (a++b):=by
  intro a
  induction a with
  |nil=>intro _;exact k.h
  |cons x a ih=>intro h;exact⟨h.1,ih h.2⟩
 exact key h.h⟩
theorem rnbs_app {l:List Nat}:∀ {a b c d:List Blk},RnBs l a b->RnBs l c d->RnBs l (a++c) (b++d)
 |[],[],_,_,_,h=>h
 |_::_,_::_,_,_,h,k=>⟨h.1,rnbs_app h.2 k⟩
 |[],_::_,_,_,h,_=>h.elim
 |_::_,[],_,_,h,_=>h.elim
instance {l:List Nat} {a b c d:List Blk} [h:RnBsI l a b] [k:RnBsI l c d]:RnBsI l (a++c) (b++d):=⟨rnbs_app h.h k.h⟩
theorem cor {α:Type} {t:Bool} {x y o:α} (h:(bif t then x else y)=o):(t=true/\x=o)\/(t=false/\y=o):=by
 cases t with
 |true=>exact .inl ⟨rfl,h⟩
 |false=>exact .inr ⟨rfl,h⟩
abbrev bb {t d:Bool} (h:t=d):Wb P:=.b t d h
abbrev bT:Wb P:=.b true true rfl
abbrev bF:Wb P:=.b false false rfl
end Go.PE
