/- A part of the proof. -/
import Derived.Test.YtibndgdocbbbeaaGreatSY5
set_option linter.all false
namespace Go.PE
open Go.RowKit
variable {P:Program}
def BCl:Blk->Prop
 |.cells cs=>Cls cs
 |.grow _ _=>True
 |.tgrow _ _ _=>True
 |.map _ vs _=>Cls vs
 |_=>False
inductive Frz {α:Type} (k s:Nat) (c:α->List PV) (l:List α):PV->PV->Prop
 |cl {p:PV} (h:Cl p):Frz k s c l p p
 |row {full:Bool} {n:Nat} (h:l.length=n):Frz k s c l (.bs k 0 n s full) (.sl false .no s (l.map c))
def FrzL {α:Type} (k s:Nat) (c:α->List PV) (l:List α):List (Nat×PV)->List (Nat×PV)->Prop
 |[],[]=>True
 |x::a,y::b=>x.1=y.1/\Frz k s c l x.2 y.2/\FrzL k s c l a b
 |_,_=>False
theorem fzc {α:Type} {k s n:Nat} {c:α->List PV} {l:List α} {p q:PV} {a b:List (Nat×PV)} (h:Frz k s c l p q) (r:FrzL k s c l a b):FrzL k s c l ((n,p)::a) ((n,q)::b):=⟨rfl,h,r⟩
theorem fze {α:Type} {k s:Nat} {c:α->List PV} {l:List α}:FrzL k s c l [] []:=trivial
theorem FrzL.look {α:Type} {k s:Nat} {c:α->List PV} {l:List α}:∀ {a b:List (Nat×PV)},FrzL k s c l a b->∀ n,(look a n=.any/\look b n=.any)\/Frz k s c l (look a n) (look b n)
 |[],[],_,_=>.inl ⟨rfl,rfl⟩
 |x::a,y::b,h,n=>by
  obtain⟨h1,h2,h3⟩:=h
  have e:∀ (z:Nat×PV) (r:List (Nat×PV)),Go.PE.look (z::r) n=match Nat.beq z.1 n with|true=>z.2|false=>Go.PE.look r n:=λz r=>rfl
  rw[e,e,<-h1]
  cases Nat.beq x.1 n with
  |true=>exact .inr h2
  |false=>exact FrzL.look h3 n
 |[],_::_,h,_=>h.elim
 |_::_,[],h,_=>h.elim
def AllBut (k:Nat):Nat->List Blk->Prop
 |_,[]=>True
 |i,x::H=>(i=k\/BCl x)/\AllBut k (i+1) H
theorem AllBut.get {k:Nat}:∀ {i:Nat} {H:List Blk},AllBut k i H->∀ (j:Nat) (x:Blk),H[j]?=some x->i+j=k\/BCl x
 |i,[],_,j,x,h=>by simp at h
 |i,y::H,h,0,x,hx=>by simp at hx;subst hx;exact h.1
 |i,y::H,h,j+1,x,hx=>by
  rcases AllBut.get h.2 j x (by simpa using hx)with h1|h1
  ·left;omega
  ·exact .inr h1
theorem abk {k i:Nat} {x:Blk} {H:List Blk} (h:Nat.beq i k=true) (r:AllBut k (i+1) H):AllBut k i (x::H):=⟨.inl (Nat.eq_of_beq_eq_true h),r⟩
theorem abe {k i:Nat}:AllBut k i []:=trivial
theorem rowf_len {α:Type} {c:α->List PV} {s:Nat} (hc:∀ x,(c x).length=s):∀ l:List α,((l.map c).flatten).length=l.length*s
 |[]=>by simp
 |x::l=>by rw[List.map_cons,List.flatten_cons,List.length_append,hc,rowf_len hc l,List.length_cons,Nat.add_mul];omega
theorem rowf_get {α:Type} {c:α->List PV} {s:Nat} (hc:∀ x,(c x).length=s) {l:List α} {i j:Nat} {e:List PV} {p:PV} (he:(l.map c)[i]?=some e) (hp:e[j]?=some p):((l.map c).flatten)[i*s+j]?=some p:=by
 obtain⟨x,hx,rfl⟩:=Yu he
 have h1:=flat_at hc l i x hx
 have hj:j<s:=by have:=(List.getElem?_eq_some_iff.1 hp).1;rwa [hc]at this
 rw[<-h1,List.getElem?_take_of_lt hj,List.getElem?_drop]at hp
 exact hp
theorem weak_freeze {H0 H:List Blk} {N:Nat} {le le':List (Nat×PV)} {α:Type} {c:α->List PV} {l:List α} {s k:Nat} (hk:H0.length<=k) (hH:H[k]?=some (.cells ((l.map c).flatten))) (hc:∀ x,(c x).length=s) (hcl:∀ x,Cls (c x)) (hle:FrzL k s c l le le') (hB:AllBut k 0 H):
  WeakS H0 (mk N le) H (mk N le') (H.set k (.cells [])):=by
 refine λg0 w0 a w g hI hA=>?_
 have hkl:k<H.length:=(List.getElem?_eq_some_iff.1 hH).1
 rcases hA.inv.blk k _ hH with hb|⟨b,vs,e,hb,hheap,hL,hC0⟩
 ·
  refine⟨g,hA.step,⟨hA.inv.C,λi x hx=>?_,hA.inv.own,hA.inv.lt,λi hi=>hA.inv.domB i (by simpa using hi),λi n hi=>hA.inv.domT i n (by simpa using hi),λb i hi=>by simpa using hA.inv.domO b i hi⟩,⟨?_,λi p v hp hv=>?_⟩,hA.defers,by simpa using hA.len⟩
  ·by_cases ek:k=i
   ·subst ek
    rw[List.getElem?_set_self hkl]at hx
    cases hx
    exact .inl hb
   ·rw[List.getElem?_set_ne ek]at hx
    exact hA.inv.blk i x hx
  ·rw[<-hA.env.1];simp[mk,Xu]
  ·have e1:=Yw le' N 0 i p hp
   have hi:i<N:=by have:=(List.getElem?_eq_some_iff.1 hp).1;simpa [mk,Xu] using this
   have hq:(mk N le)[i]?=some (look le i):=by have:=Wr le N 0 i hi;simpa [mk] using this
   rw[Nat.zero_add]at e1
   subst e1
   have hv1:=hA.env.2 i _ v hq hv
   rcases hle.look i with ⟨_,h2⟩|h2
   ·rw[h2];exact .any _
   ·generalize look le i=p1 at *
    generalize look le' i=p2 at *
    cases h2 with
    |cl h=>exact hv1
    |row _=>cases hv1 with|bs h _ _ _ _=>rw[hb]at h;cases h
 ·have hO:=hA.inv.own k b hb
  have hbw:w0.heap.size<=b:=by
   rcases hA.step.O b k hO with h1|h1
   ·have:=hI.domO b k h1;omega
   ·exact h1
  have hg0:g0.O b=none:=by
   cases h1:g0.O b with
   |none=>rfl
   |some j=>have:=hI.lt b j h1;omega
  let g2:Gh:=⟨λb' o=>if b'=b then vs[o]? else g.C b' o,g.T,λj=>if j=k then none else g.B j,λb'=>if b'=b then none else g.O b'⟩
  have hCle:∀ b' o v,g.C b' o=some v->g2.C b' o=some v:=λb' o v h=>by
   show(if b'=b then vs[o]? else g.C b' o)=some v
   by_cases e1:b'=b
   ·subst e1;rw[hC0 o]at h;cases h
   ·rw[if_neg e1];exact h
  have hcl2:∀ {p v},RV g p v->Cl p->RV g2 p v:=λh hp=>h.cl hCle hp
  have hBo:∀ j b',g2.B j=some b'->j≠k/\g.B j=some b':=λj b' h=>by
   have h:(if j=k then none else g.B j)=some b':=h
   split at h
   ·cases h
   ·rename_i e1;exact⟨e1,h⟩
  have hbne:∀ j b',j≠k->g.O b'=some j->b'≠b:=λj b' hj h e1=>by
   subst e1;rw[hO]at h;cases h;exact hj rfl
  refine⟨g2,⟨⟨λb' o v h=>hCle b' o v (hA.step.le.C b' o v h),hA.step.le.T,λj b' h=>?_,λb' j h=>?_⟩,λj hj=>?_,hA.step.os,hA.step.tape,hA.step.output,hA.step.size,hA.step.block,λb' j h=>?_,λb' o ho hb'=>?_⟩,
   ⟨λb' o v h=>?_,λi x hx=>?_,λj b' h=>?_,λb' j h=>?_,λj hj=>?_,λj n hj=>hA.inv.domT j n (by simpa using hj),λb' j h=>?_⟩,⟨?_,λi p v hp hv=>?_⟩,?_,by simpa using hA.len⟩
  ·show(if j=k then none else g.B j)=some b'
   have hj:j<H0.length:=by
    rcases Nat.lt_or_ge j H0.length with h1|h1
    ·exact h1
    ·rw[hI.domB j h1]at h;cases h
   rw[if_neg (by omega)]
   exact hA.step.le.B j b' h
  ·show(if b'=b then none else g.O b')=some j
   rw[if_neg (λe1=>by subst e1;rw[hg0]at h;cases h)]
   exact hA.step.le.O b' j h
  ·show(if j=k then none else g.B j)=g0.B j
   rw[if_neg (by omega)]
   exact hA.step.B j hj
  ·have h:(if b'=b then none else g.O b')=some j:=h
   split at h
   ·cases h
   ·exact hA.step.O b' j h
  ·show(if b'=b then vs[o]? else g.C b' o)=g0.C b' o
   rw[if_neg (by omega)]
   exact hA.step.C b' o ho hb'
  ·have h2:(if b'=b then vs[o]? else g.C b' o)=some v:=h
   by_cases e1:b'=b
   ·rw[if_pos e1]at h2
    subst e1
    rw[Yt hheap];exact h2
   ·rw[if_neg e1]at h2
    exact hA.inv.C b' o v h2
  ·by_cases ek:k=i
   ·subst ek
    rw[List.getElem?_set_self hkl]at hx
    cases hx
    exact .inl (if_pos rfl)
   ·rw[List.getElem?_set_ne ek]at hx
    have hbc:BCl x:=by
     rcases hB.get i x hx with h1|h1
     ·omega
     ·exact h1
    have hBi:g2.B i=g.B i:=if_neg (λe1=>ek e1.symm)
    cases x with
    |cells cs=>
     rcases hA.inv.blk i _ hx with h1|⟨b1,vs1,e1,k1,k2,k3,k4⟩
     ·exact .inl (hBi.trans h1)
     ·have hne:=hbne i b1 (λe=>ek e.symm) (hA.inv.own i b1 k1)
      exact .inr ⟨b1,vs1,e1,hBi.trans k1,k2,⟨k3.1,λj p v hp hv=>hcl2 (k3.2 j p v hp hv) (hbc p (List.mem_of_getElem? hp))⟩,λo=>by show(if b1=b then vs[o]? else g.C b1 o)=none;rw[if_neg hne];exact k4 o⟩
    |grow n z=>
     obtain⟨k1,k2⟩:=hA.inv.blk i _ hx
     refine⟨k1,λb1 cap ht=>?_⟩
     obtain⟨q1,q2,q3,q4,q5⟩:=k2 b1 cap ht
     have hne:=hbne i b1 (λe=>ek e.symm) q1
     exact⟨by show(if b1=b then none else g.O b1)=some i;rw[if_neg hne];exact q1,q2,q3,q4,λo ho=>by show(if b1=b then vs[o]? else g.C b1 o)=none;rw[if_neg hne];exact q5 o ho⟩
    |tgrow n z cs=>
     obtain⟨k1,c1,c2,k2⟩:=hA.inv.blk i _ hx
     refine⟨k1,c1,c2,λb1 cap ht=>?_⟩
     obtain⟨q1,⟨vs1,e1,q2,q3,q6⟩,q4,q5,q7⟩:=k2 b1 cap ht
     have hne:=hbne i b1 (λe=>ek e.symm) q1
     exact⟨by show(if b1=b then none else g.O b1)=some i;rw[if_neg hne];exact q1,⟨vs1,e1,q2,q3,q6.sc c2⟩,q4,q5,λo=>by show(if b1=b then vs[o]? else g.C b1 o)=none;rw[if_neg hne];exact q7 o⟩
    |map ks vals clock=>
     rcases hA.inv.blk i _ hx with h1|⟨b1,es,k1,k2,k3,k4⟩
     ·exact .inl (hBi.trans h1)
     ·exact .inr ⟨b1,es,hBi.trans k1,k2,k3,⟨k4.1,λj p v hp hv=>hcl2 (k4.2 j p v hp hv) (hbc p (List.mem_of_getElem? hp))⟩⟩
    |iter _ _ _ _=>exact hbc.elim
    |loop _ _ _ _ _ _ _ _=>exact hbc.elim
  ·obtain⟨h1,h2⟩:=hBo j b' h
   have h3:=hA.inv.own j b' h2
   show(if b'=b then none else g.O b')=some j
   rw[if_neg (hbne j b' h1 h3)]
   exact h3
  ·have h:(if b'=b then none else g.O b')=some j:=h
   split at h
   ·cases h
   ·exact hA.inv.lt b' j h
  ·show(if j=k then none else g.B j)=none
   split
   ·rfl
   ·exact hA.inv.domB j (by simpa using hj)
  ·have h:(if b'=b then none else g.O b')=some j:=h
   split at h
   ·cases h
   ·simpa using hA.inv.domO b' j h
  ·rw[<-hA.env.1];simp[mk,Xu]
  ·have e1:=Yw le' N 0 i p hp
   have hi:i<N:=by have:=(List.getElem?_eq_some_iff.1 hp).1;simpa [mk,Xu] using this
   have hq:(mk N le)[i]?=some (look le i):=by have:=Wr le N 0 i hi;simpa [mk] using this
   rw[Nat.zero_add]at e1
   subst e1
   have hv1:=hA.env.2 i _ v hq hv
   rcases hle.look i with ⟨_,h2⟩|h2
   ·rw[h2];exact .any _
   ·generalize look le i=p1 at *
    generalize look le' i=p2 at *
    cases h2 with
    |cl h=>exact hcl2 hv1 h
    |row hln=>
     subst hln
     cases hv1 with
     |@bs _ _ _ _ b1 o1 cap1 _ hb1 hn hm hf ho=>
      rw[hb]at hb1
      cases hb1
      have hlen:(l.map c).length=l.length:=by simp
      rw[<-hlen]
      refine .sl (λi j=>(vs[i*s+j]?).getD .nilFunc) (by rw[hlen];exact hn) hm (λi e he=>?_) (λi j e p he hp=>?_) (λi j e p he hp=>?_) trivial
      ·obtain⟨x,_,rfl⟩:=Yu he;exact hc x
      ·have hil:i<l.length:=by have:=(List.getElem?_eq_some_iff.1 he).1;simpa using this
       have h0:o1=0:=ho (by omega)
       subst h0
       have hf:=rowf_get hc he hp
       have hlt:i*s+j<vs.size:=Nat.lt_of_lt_of_le (List.getElem?_eq_some_iff.1 hf).1 hL.1
       show(if b=b then vs[0+i*s+j]? else _)=some _
       rw[if_pos rfl,Nat.zero_add,Array.getElem?_eq_getElem hlt]
       rfl
      ·have hf:=rowf_get hc he hp
       have hlt:i*s+j<vs.size:=Nat.lt_of_lt_of_le (List.getElem?_eq_some_iff.1 hf).1 hL.1
       rw[Array.getElem?_eq_getElem hlt]
       refine hcl2 (hL.2 _ p _ hf (Array.getElem?_eq_getElem hlt)) ?_
       obtain⟨x,_,rfl⟩:=Yu he
       exact hcl x p (List.mem_of_getElem? hp)
  ·obtain⟨bs,d1,d2,d3⟩:=hA.defers
   refine⟨bs,d1,d2,λb' hb'=>?_⟩
   obtain⟨k1,k2,k3,k4⟩:=d3 b' hb'
   refine⟨k1,k2,?_,k4⟩
   show(if b'=b then none else g.O b')=none
   split
   ·rfl
   ·exact k3
theorem flat1 {α:Type} {f:α->PV}:∀ l:List α,(l.map λx=>[f x]).flatten=l.map f
 |[]=>rfl
 |x::l=>by simp[flat1 l]
def gmk (bytes:Nat) (n:Int):Option Nat:=if 0<n/\bytes*n<=281474976710656/\n<=9223372036854775807 then some n.toNat else none
theorem n_mkRow {α:Type} {f:α->PV} {d:α} {bytes m lo:Nat} {n:Int} {k k':IntKind} {z:List PV} {F:List Blk} (h:gmk bytes n=some m) (hz:z=[f d]):
  Nt.ok P (.st (.mkSl 1 bytes z (.c (.sc (.int k n))) (.c (.sc (.int k' n)))) F (.bs F.length 0 m 1 true) (F++[.cells (((List.replicate m d).map λx=>[f x]).flatten)]) lo):=by
 subst hz
 unfold gmk at h
 split at h
 case isFalse=>cases h
 rename_i h0
 cases h
 refine⟨?_,by simp,λj _ hj=>List.getElem?_append_left hj⟩
 have e1:(0<=n/\n<=n/\(bytes:Int)*n<=281474976710656/\n<=9223372036854775807):=⟨by omega,Int.le_refl _,h0.2.1,h0.2.2⟩
 simp only[AStep,aop,Opd.ev,PV.asI]
 rw[if_pos e1,if_neg (by omega)]
 refine⟨?_,?_⟩
 ·simp
 ·rw[flat1,List.map_replicate]
  congr 3
  rw[Nat.mul_one,List.eq_replicate_iff]
  refine⟨by simp,λp hp=>?_⟩
  obtain⟨i,_,rfl⟩:=List.mem_map.1 hp
  simp[Nat.mod_one]
theorem n_mk0 {s bytes lo:Nat} {n:Int} {k k':IntKind} {z:List PV} {F:List Blk} (h:(n==0)=true):
  Nt.ok P (.st (.mkSl s bytes z (.c (.sc (.int k n))) (.c (.sc (.int k' n)))) F (.sl false (.own F.length) s []) (F++[.grow 0 s]) lo):=by
 have h:n=0:=by simpa using h
 subst h
 refine⟨?_,by simp,λj _ hj=>List.getElem?_append_left hj⟩
 simp only[AStep,aop,Opd.ev,PV.asI]
 rw[if_pos (by simp),if_pos trivial]
 exact⟨rfl,rfl⟩
def gin (i:Int) (n:Nat):Option Unit:=if 0<=i/\i<n then some ()else none
theorem n_iaddrB {k n s:Nat} {full:Bool} {kk:IntKind} {i:Int} {u:Unit} (h:gin i n=some u):Nt.ok P (.pu (.iaddrS s (.c (.bs k 0 n s full)) (.c (.sc (.int kk i)))) (.bp k (0+i.toNat*s))):=by
 unfold gin at h
 split at h
 ·rename_i h0
  simp only[Nt.ok,aop,Opd.ev,PV.asI]
  rw[if_pos ⟨h0.1,h0.2,trivial⟩]
 ·cases h
theorem n_loadB {α:Type} {f:α->PV} {l:List α} {k:Nat} {i:Int} {x:α} {F:List Blk} (h:gx l i=some x) (hF:F[k]?=some (.cells ((l.map λx=>[f x]).flatten))):Nt.ok P (.rd (.load none (.c (.bp k (0+i.toNat*1)))) F (f x)):=by
 unfold gx at h
 split at h
 case isFalse=>cases h
 simp only[Nt.ok,AStep,aop,Opd.ev,hF,flat1,Yy,Nat.zero_add,Nat.mul_one,List.head?_drop,List.getElem?_map,h,Option.map_some]
 exact⟨trivial,trivial⟩
def gset {α:Type} (l:List α) (i:Int) (x:α):Option (List α):=if 0<=i/\i<l.length then some (l.set i.toNat x)else none
theorem n_storeB {α:Type} {f:α->PV} {l q:List α} {k:Nat} {i:Int} {x:α} {vp:PV} {F F':List Blk} (h:gset l i x=some q) (hv:vp=f x) (hc:∀ x,(f x).cells=[f x]/\(f x).cellP=true) (hF:F[k]?=some (.cells ((l.map λx=>[f x]).flatten))) (hF':F.set k (.cells ((q.map λx=>[f x]).flatten))=F'):
  Nt.ok P (.st (.store 1 (.c (.bp k (0+i.toNat*1))) (.c vp)) F (.tup []) F' k):=by
 subst hv
 subst hF'
 unfold gset at h
 split at h
 case isFalse=>cases h
 rename_i h0
 cases h
 refine⟨?_,Same.set _ _ (Nat.le_refl _)⟩
 have hi:i.toNat<(l.map f).length:=by simp;omega
 simp only[AStep,aop,Opd.ev,hF,flat1,Nat.zero_add,Nat.mul_one,(hc x).1]
 rw[if_pos ⟨rfl,by simp at hi ⊢;omega,by simp[(hc x).2]⟩]
 refine⟨rfl,?_⟩
 congr 2
 rw[List.map_set,List.set_eq_take_append_cons_drop,if_pos hi]
 simp
def gfz {α:Type} (n:Nat) (l:List α):Option Unit:=if l.length=n then some ()else none
theorem gfz_len {α:Type} {n:Nat} {l:List α} {u:Unit} (h:gfz n l=some u):l.length=n:=by
 unfold gfz at h
 split at h
 ·assumption
 ·cases h
theorem strip_bs {m k o n s:Nat} {full:Bool} (h:Nat.blt k m=true):(PV.bs k o n s full).strip m=.bs k o n s full:=by
 have:k<m:=Nat.le_of_ble_eq_true h
 simp[PV.strip,this]
theorem cls_flat {α:Type} {c:α->List PV} (h:∀ x,Cls (c x)) (l:List α):Cls ((l.map c).flatten):=λp hp=>by
 obtain⟨e,he,hpe⟩:=List.mem_flatten.1 hp
 obtain⟨x,_,rfl⟩:=List.mem_map.1 he
 exact h x p hpe
theorem n_lenB {k n s:Nat} {full:Bool}:Nt.ok P (.pu (.len (.c (.bs k 0 n s full))) (.sc (.int .i64 n))):=rfl
theorem psub_row {α:Type} {c:α->List PV} {l:List α} {s m:Nat} (h:∀ x,Cls (c x)):PSub ((PV.sl false .no s (l.map c)).strip m) (eS s c (.no l)):=by
 have:(eS s c (.no l))=PV.sl false .no s (l.map c):=rfl
 rw[this,(Cl.no (Cls.map h)).strip]
 exact .refl _
theorem n_appNN {α:Type} {c:α->List PV} {l q:List α} {m:Sl α} {F F':List Blk} {j s bytes:Nat} (h:gapp bytes l m.es=some q) (hF:F[j]?=some (.grow l.length s)) (hF':F.set j (.grow q.length s)=F') (h0:0<bytes) (hc:∀ x,(c x).all PV.cellP=true):
  Nt.ok P (.st (.append s bytes (.c (.sl false (.own j) s (l.map c))) (.c (eS s c m))) F (.sl false (.own j) s (q.map c)) F' j):=by
 unfold gapp at h
 split at h
 case isFalse=>cases h
 rename_i hb
 cases h
 subst hF'
 refine⟨?_,Same.set _ _ (Nat.le_refl _)⟩
 simp only[AStep,aop,Opd.ev,Wj,Zr,eS]
 cases hm:m.es with
 |nil=>
  simp only[List.map_nil,List.isEmpty_nil,if_true,List.append_nil]
  refine⟨trivial,?_⟩
  apply List.ext_getElem?
  intro i
  by_cases hi:j=i
  ·subst hi
   rw[List.getElem?_set_self (List.getElem?_eq_some_iff.1 hF).1,hF]
  ·rw[List.getElem?_set_ne hi]
 |cons x r=>
  have hsz:m.size s=s:=by cases m with
   |nil=>cases hm
   |no l=>rfl
   |full l=>rfl
  rw[hm]at hb
  rw[if_neg (by simp),hsz]
  have hcond:(s==s&&(s==s||(l.map c).isEmpty)&&decide (((l.map c).length+((x::r).map c).length)*bytes<=140737488355328)&&decide (0<bytes)&&((x::r).map c).all λe=>e.all PV.cellP)=true:=by
   simp only[beq_self_eq_true,Bool.true_or,Bool.and_true,Bool.true_and,List.length_map,hb,h0,decide_true,List.all_map,List.all_eq_true]
   intro y _
   exact hc y
  rw[if_pos hcond]
  simp only[hF,List.length_map,and_self,if_true]
  refine⟨by simp,by simp⟩
theorem Ul {α:Type} {c:α->List PV} {l:List α} {j s m:Nat} (h:∀ x,Cls (c x)):PSub ((PV.sl false (.own j) s (l.map c)).strip m) (eS s c (.no l)):=λg v hv=>by
 simp only[PV.strip,Zd]at hv
 rw[Ys λe he=>Ys λp hp=>(Cls.map h e he p hp).strip m]at hv
 exact hv.no
theorem psub_accn0 {α:Type} {c:α->List PV} {l:List α} {j s:Nat}:PSub (PV.sl false (.own j) s (l.map c)) (eS s c (.no l)):=λ_ _ hv=>hv.no
theorem rasn {l:List Nat} {α:Type} {c:α->List PV} {x:List α} {j s:Nat} {ps qs:List PV} (h:∀ x,Cls (c x)) (k:RnAL l ps qs):RnAL l (eS s c (.no x)::ps) (.sl false (.own j) s (x.map c)::qs):=
 ⟨λg g0 hr v hv=>(psub_accn0 g v hv).cl (g2:=g0) (λb o _ e=>(hr.C b o).trans e) (cl_eS h),k⟩
def gmc (bytes:Nat) (n:Int):Option Unit:=if 0<=n/\bytes*n<=281474976710656/\n<=9223372036854775807 then some ()else none
theorem n_mkC {s bytes lo:Nat} {n:Int} {k k':IntKind} {z:List PV} {F:List Blk} {u:Unit} (h:gmc bytes n=some u):
  Nt.ok P (.st (.mkSl s bytes z (.c (.sc (.int k (0)))) (.c (.sc (.int k' n)))) F (.sl false (.own F.length) s []) (F++[.grow 0 s]) lo):=by
 unfold gmc at h
 split at h
 case isFalse=>cases h
 rename_i h0
 refine⟨?_,by simp,λj _ hj=>List.getElem?_append_left hj⟩
 simp only[AStep,aop,Opd.ev,PV.asI]
 rw[if_pos ⟨by omega,h0.1,h0.2.1,h0.2.2⟩,if_pos trivial]
 exact⟨rfl,rfl⟩
theorem ends_cutF {rs:List RP} {Q:PV->List Blk->Prop} {env e2:List PV} {H' H2:List Blk} {x:Ex} {r r2:PV} (hx:x=.normal\/x=.ret) (hw:WeakS [] env H' e2 H2) (hr:resP rs e2 H2=some r) (hs:PSub (r.strip 0) r2) (hq:Q r2 []):Ends rs [] Q x env H':=
 ⟨hx,e2,H2,hw,r,hr,.inr ⟨0,[],r2,Nat.le_refl _,⟨rfl,λk y hk=>by simp at hk⟩,hs,hq⟩⟩
end Go.PE
