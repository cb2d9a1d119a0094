/- A part of the proof. -/
import Derived.Test.YtibndgdocbbbeaaGreatSY3
set_option linter.all false
namespace Go.PE
open Go.RowKit
structure RelG (l:List Nat) (g g0:Gh):Prop where
 C:∀ b o,g0.C b o=g.C b o
 B:∀ (i k:Nat),l[i]?=some k->g0.B i=g.B k
 T:∀ (i k n:Nat),l[i]?=some k->g0.T i n=g.T k n
def Rn (l:List Nat) (p q:PV):Prop:=∀ g g0:Gh,RelG l g g0->∀ v,RV g0 p v↔RV g q v
theorem rn_cl {l:List Nat} {p:PV} (h:Cl p):Rn l p p:=λ_ _ hr _=>
 ⟨λk=>k.cl (λb o _ e=>(hr.C b o).symm.trans e) h,λk=>k.cl (λb o _ e=>(hr.C b o).trans e) h⟩
theorem rn_bp {l:List Nat} {i k o:Nat} (h:l[i]?=some k):Rn l (.bp i o) (.bp k o):=λ_ _ hr _=>
 ⟨λe=>by cases e with|bp e=>exact .bp ((hr.B i k h).symm.trans e),λe=>by cases e with|bp e=>exact .bp ((hr.B i k h).trans e)⟩
theorem rn_ts {l:List Nat} {i k n s:Nat} (h:l[i]?=some k):Rn l (.ts i n s) (.ts k n s):=λ_ _ hr _=>
 ⟨λe=>by cases e with|tsn e=>exact .tsn e|ts e a b c=>exact .ts ((hr.T i k n h).symm.trans e) a b c,λe=>by cases e with|tsn e=>exact .tsn e|ts e a b c=>exact .ts ((hr.T i k n h).trans e) a b c⟩
theorem rn_mp {l:List Nat} {i k:Nat} (h:l[i]?=some k):Rn l (.mp i) (.mp k):=λ_ _ hr _=>
 ⟨λe=>by cases e with|mp e=>exact .mp ((hr.B i k h).symm.trans e),λe=>by cases e with|mp e=>exact .mp ((hr.B i k h).trans e)⟩
theorem rn_acc {l:List Nat} {i k s:Nat} {nl:Bool} {es:List (List PV)} (h:l[i]?=some k) (hes:∀ e∈es,∀ p∈e,Cl p):Rn l (.sl nl (.own i) s es) (.sl nl (.own k) s es):=λ_ _ hr _=>by
 constructor
 ·intro e
  cases e with
  |nilsl=>exact .nilsl _ _
  |em _ _ _ h=>cases h
  |sl vf hc hm hs hC hR ho=>
   exact .sl vf hc hm hs (λi j e p a b=>(hr.C _ _).symm.trans (hC i j e p a b)) (λi j e p a b=>(hR i j e p a b).cl (λb o _ e=>(hr.C b o).symm.trans e) (hes e (List.mem_of_getElem? a) p (List.mem_of_getElem? b))) (ho.imp (λq=>⟨q.1,q.2.imp λ_ e=>(hr.T i k _ h).symm.trans e⟩) λq=>⟨q.1,(hr.T i k _ h).symm.trans q.2⟩)
 ·intro e
  cases e with
  |nilsl=>exact .nilsl _ _
  |em _ _ _ h=>cases h
  |sl vf hc hm hs hC hR ho=>
   exact .sl vf hc hm hs (λi j e p a b=>(hr.C _ _).trans (hC i j e p a b)) (λi j e p a b=>(hR i j e p a b).cl (λb o _ e=>(hr.C b o).trans e) (hes e (List.mem_of_getElem? a) p (List.mem_of_getElem? b))) (ho.imp (λq=>⟨q.1,q.2.imp λ_ e=>(hr.T i k _ h).trans e⟩) λq=>⟨q.1,(hr.T i k _ h).trans q.2⟩)
def RnL (l:List Nat):List PV->List PV->Prop
 |[],[]=>True
 |p::ps,q::qs=>Rn l p q/\RnL l ps qs
 |_,_=>False
theorem RnL.len {l:List Nat}:∀ {ps qs:List PV},RnL l ps qs->ps.length=qs.length
 |[],[],_=>rfl
 |_::_,_::_,h=>by simp[RnL.len h.2]
 |[],_::_,h=>h.elim
 |_::_,[],h=>h.elim
theorem RnL.get {l:List Nat}:∀ {ps qs:List PV},RnL l ps qs->∀ (i:Nat) (p q:PV),ps[i]?=some p->qs[i]?=some q->Rn l p q
 |[],[],_,i,p,q,hp,_=>by simp at hp
 |x::ps,y::qs,h,0,p,q,hp,hq=>by simp at hp hq;subst hp;subst hq;exact h.1
 |x::ps,y::qs,h,i+1,p,q,hp,hq=>RnL.get h.2 i p q (by simpa using hp) (by simpa using hq)
 |[],_::_,h,_,_,_,_,_=>h.elim
 |_::_,[],h,_,_,_,_,_=>h.elim
theorem RnL.at {l:List Nat} {ps qs:List PV} (h:RnL l ps qs) {i:Nat} {q:PV} (hq:qs[i]?=some q):∃ p,ps[i]?=some p/\Rn l p q:=by
 have hi:=(List.getElem?_eq_some_iff.1 hq).1
 have hp:=List.getElem?_eq_getElem (show i<ps.length by rw[h.len];exact hi)
 exact⟨_,hp,h.get i _ q hp hq⟩
theorem RnL.at' {l:List Nat} {ps qs:List PV} (h:RnL l ps qs) {i:Nat} {p:PV} (hp:ps[i]?=some p):∃ q,qs[i]?=some q/\Rn l p q:=by
 have hi:=(List.getElem?_eq_some_iff.1 hp).1
 have hq:=List.getElem?_eq_getElem (show i<qs.length by rw[<-h.len];exact hi)
 exact⟨_,hq,h.get i p _ hp hq⟩
theorem rnl {l:List Nat} {p q:PV} {ps qs:List PV} (h:Rn l p q) (k:RnL l ps qs):RnL l (p::ps) (q::qs):=⟨h,k⟩
theorem rne {l:List Nat}:RnL l [] []:=trivial
theorem RnL.iff {l:List Nat} {ps qs:List PV} {g g0:Gh} (hr:RelG l g g0) (h:RnL l ps qs) {vs:Array Value}:
  (∀ (i:Nat) (p:PV) (v:Value),ps[i]?=some p->vs[i]?=some v->RV g0 p v)↔∀ (i:Nat) (p:PV) (v:Value),qs[i]?=some p->vs[i]?=some v->RV g p v:=by
 constructor
 ·intro k i q v hq hv
  obtain⟨p,hp,e⟩:=h.at hq
  exact(e g g0 hr v).1 (k i p v hp hv)
 ·intro k i p v hp hv
  obtain⟨q,hq,e⟩:=h.at' hp
  exact(e g g0 hr v).2 (k i q v hq hv)
theorem RnL.lr {l:List Nat} {ps qs:List PV} {g g0:Gh} (hr:RelG l g g0) (h:RnL l ps qs) {vs:Array Value}:LR g0 ps vs↔LR g qs vs:=by
 unfold LR;rw[h.iff hr,h.len]
theorem RnL.lp {l:List Nat} {ps qs:List PV} {g g0:Gh} (hr:RelG l g g0) (h:RnL l ps qs) {vs:Array Value}:LP g0 ps vs↔LP g qs vs:=by
 unfold LP;rw[h.iff hr,h.len]
theorem rn_fn {l:List Nat} {f:Fn} {a b c d:List PV} (h:RnL l a c) (k:RnL l b d):Rn l (.fn f a b) (.fn f c d):=λ_ _ hr _=>by
 constructor
 ·intro e
  cases e with
  |fn hn hm x y=>exact .fn (h.len.symm.trans hn) (k.len.symm.trans hm) ((h.iff hr).1 x) ((k.iff hr).1 y)
 ·intro e
  cases e with
  |fn hn hm x y=>exact .fn (h.len.trans hn) (k.len.trans hm) ((h.iff hr).2 x) ((k.iff hr).2 y)
theorem rn_agg {l:List Nat} {a c:List PV} (h:RnL l a c):Rn l (.agg a) (.agg c):=λ_ _ hr _=>by
 constructor
 ·intro e
  cases e with
  |agg hn x=>exact .agg (h.len.symm.trans hn) ((h.iff hr).1 x)
 ·intro e
  cases e with
  |agg hn x=>exact .agg (h.len.trans hn) ((h.iff hr).2 x)
theorem rn_tup {l:List Nat} {a c:List PV} (h:RnL l a c):Rn l (.tup a) (.tup c):=λ_ _ hr _=>by
 constructor
 ·intro e
  cases e with
  |tup hn x=>exact .tup (h.len.symm.trans hn) ((h.iff hr).1 x)
 ·intro e
  cases e with
  |tup hn x=>exact .tup (h.len.trans hn) ((h.iff hr).2 x)
def RnB (l:List Nat):Blk->Blk->Prop
 |.cells a,.cells b=>RnL l a b
 |.grow n s,.grow n' s'=>n=n'/\s=s'
 |.tgrow n s cs,.tgrow n' s' cs'=>n=n'/\s=s'/\cs=cs'
 |.map ks vs c,.map ks' vs' c'=>ks=ks'/\c=c'/\RnL l vs vs'
 |_,_=>False
def RnBs (l:List Nat):List Blk->List Blk->Prop
 |[],[]=>True
 |p::ps,q::qs=>RnB l p q/\RnBs l ps qs
 |_,_=>False
theorem rbe {l:List Nat}:RnBs l [] []:=trivial
theorem RnBs.len {l:List Nat}:∀ {ps qs:List Blk},RnBs l ps qs->ps.length=qs.length
 |[],[],_=>rfl
 |_::_,_::_,h=>by simp[RnBs.len h.2]
 |[],_::_,h=>h.elim
 |_::_,[],h=>h.elim
theorem RnBs.get {l:List Nat}:∀ {ps qs:List Blk},RnBs l ps qs->∀ (i:Nat) (p:Blk),ps[i]?=some p->∃ q,qs[i]?=some q/\RnB l p q
 |[],[],_,i,p,hp=>by simp at hp
 |x::ps,y::qs,h,0,p,hp=>by simp at hp;subst hp;exact⟨y,rfl,h.1⟩
 |x::ps,y::qs,h,i+1,p,hp=>RnBs.get h.2 i p (by simpa using hp)
 |[],_::_,h,_,_,_=>h.elim
 |_::_,[],h,_,_,_=>h.elim
theorem LP.sc {g g':Gh} {cs:List PV} {vs:Array Value} (h:LP g cs vs) (hs:scL cs=true):LP g' cs vs:=⟨h.1,λi p v hp hv=>by
 obtain⟨u,rfl,_⟩:=scL_get hs hp
 cases h.2 i _ v hp hv with|sc h=>exact .sc h⟩
theorem bok_iff {l:List Nat} {g g0:Gh} (hr:RelG l g g0) {i k:Nat} (hik:l[i]?=some k) {w:World} (hO:∀ b,g.O b=some k↔g0.O b=some i) {x y:Blk} (h:RnB l x y):BOk g0 w i x↔BOk g w k y:=by
 cases x<;>cases y<;>try exact h.elim
 ·simp only[BOk,hr.B i k hik]
  simp only[RnL.lp hr (show RnL l _ _ from h),hr.C]
 ·obtain⟨rfl,rfl,h⟩:=h
  simp only[BOk,hr.B i k hik]
  simp only[RnL.lr hr (show RnL l _ _ from h)]
 ·obtain⟨rfl,rfl⟩:=h
  simp only[BOk,hr.T i k _ hik,hr.C,hO]
 ·obtain⟨rfl,rfl,rfl⟩:=h
  simp only[BOk,hr.T i k _ hik,hr.C,hO]
  constructor
  ·rintro⟨a,b,c,d⟩
   exact⟨a,b,c,λb' cap h=>let ⟨x,⟨vs,e,y1,y2,y3⟩,z⟩:=d b' cap h;⟨x,⟨vs,e,y1,y2,y3.sc c⟩,z⟩⟩
  ·rintro⟨a,b,c,d⟩
   exact⟨a,b,c,λb' cap h=>let ⟨x,⟨vs,e,y1,y2,y3⟩,z⟩:=d b' cap h;⟨x,⟨vs,e,y1,y2,y3.sc c⟩,z⟩⟩
def idxL:List Nat->Nat->Option Nat
 |[],_=>none
 |x::l,k=>if x=k then some 0 else (idxL l k).map (·+1)
theorem Ux:∀ {l:List Nat} {k i:Nat},idxL l k=some i->l[i]?=some k
 |[],_,_,h=>by cases h
 |x::l,k,i,h=>by
  simp only[idxL]at h
  split at h
  ·rename_i e;cases h;subst e;rfl
  ·cases e:idxL l k with
   |none=>rw[e]at h;cases h
   |some j=>rw[e]at h;cases h;simpa using Ux e
theorem idxL_at:∀ {l:List Nat} {k i:Nat},l.Nodup->l[i]?=some k->idxL l k=some i
 |[],_,_,_,h=>by simp at h
 |x::l,k,0,_,h=>by simp at h;subst h;simp[idxL]
 |x::l,k,i+1,hn,h=>by
  have h:l[i]?=some k:=by simpa using h
  have hx:x≠k:=λe=>(List.nodup_cons.1 hn).1 (e▸List.mem_of_getElem? h)
  simp only[idxL,if_neg hx,idxL_at (List.nodup_cons.1 hn).2 h,Option.map_some]
theorem idxL_none {l:List Nat} {k:Nat} (h:idxL l k=none) (hn:l.Nodup):k∉l:=λhk=>by
 obtain⟨i,hi⟩:=List.mem_iff_getElem?.1 hk
 rw[idxL_at hn hi]at h;cases h
theorem putL_at:∀ (F:List Blk) (l:List Nat) (bs:List Blk) {i k:Nat} {b:Blk},l.Nodup->l[i]?=some k->k<F.length->bs[i]?=some b->(putL F l bs)[k]?=some b
 |F,[],_,i,k,b,_,h,_,_=>by simp at h
 |F,_::_,[],i,k,b,_,_,_,h=>by simp at h
 |F,j::l,b::bs,0,k,c,hn,hi,hk,hb=>by
  simp at hi hb
  subst hi;subst hb
  rw[putL,Uv _ l bs (List.nodup_cons.1 hn).1,List.getElem?_set_self hk]
 |F,j::l,b::bs,i+1,k,c,hn,hi,hk,hb=>by
  rw[putL]
  exact putL_at _ l bs (List.nodup_cons.1 hn).2 (by simpa using hi) (by simpa using hk) (by simpa using hb)
def RnA (l:List Nat) (p q:PV):Prop:=∀ g g0:Gh,RelG l g g0->∀ v,RV g q v->RV g0 p v
def RnAL (l:List Nat):List PV->List PV->Prop
 |[],[]=>True
 |p::ps,q::qs=>RnA l p q/\RnAL l ps qs
 |_,_=>False
theorem raf {l:List Nat} {p q:PV} {ps qs:List PV} (h:Rn l p q) (k:RnAL l ps qs):RnAL l (p::ps) (q::qs):=⟨λg g0 hr v=>(h g g0 hr v).2,k⟩
theorem ras {l:List Nat} {α:Type} {c:α->List PV} {x:List α} {j s:Nat} {ps qs:List PV} (h:∀ x,Cls (c x)) (k:RnAL l ps qs):RnAL l (eS s c (mkSl x)::ps) (.sl x.isEmpty (.own j) s (x.map c)::qs):=
 ⟨λg g0 hr v hv=>(psub_acc0 g v hv).cl (g2:=g0) (λb o _ e=>(hr.C b o).trans e) (cl_eS h),k⟩
theorem rae {l:List Nat}:RnAL l [] []:=trivial
theorem RnAL.len {l:List Nat}:∀ {ps qs:List PV},RnAL l ps qs->ps.length=qs.length
 |[],[],_=>rfl
 |_::_,_::_,h=>by simp[RnAL.len h.2]
 |[],_::_,h=>h.elim
 |_::_,[],h=>h.elim
theorem RnAL.at {l:List Nat}:∀ {ps qs:List PV},RnAL l ps qs->∀ (i:Nat) (p:PV),ps[i]?=some p->∃ q,qs[i]?=some q/\RnA l p q
 |[],[],_,i,p,hp=>by simp at hp
 |x::ps,y::qs,h,0,p,hp=>by simp at hp;subst hp;exact⟨y,rfl,h.1⟩
 |x::ps,y::qs,h,i+1,p,hp=>RnAL.at h.2 i p (by simpa using hp)
 |[],_::_,h,_,_,_=>h.elim
 |_::_,[],h,_,_,_=>h.elim
theorem RnAL.lr {l:List Nat} {ps qs:List PV} {g g0:Gh} (hr:RelG l g g0) (h:RnAL l ps qs) {vs:Array Value} (k:LR g qs vs):LR g0 ps vs:=
 ⟨h.len.trans k.1,λi p v hp hv=>by
  obtain⟨q,hq,e⟩:=h.at i p hp
  exact e g g0 hr v (k.2 i q v hq hv)⟩
variable {P:Program}
theorem acall_frame {f:FuncId} {args0 args:List PV} {H0 H1 B0 B1 F:List Blk} {r0 r:PV} {l:List Nat} (h:ACall P f args0 H0 λq h=>q=r0/\h=H1) (hl:l.Nodup) (hlt:∀ k∈l,k<F.length)
  (hn:l.length=H0.length) (hn1:H1.length=H0.length) (hF:l.map (λk=>F[k]?)=B0.map some) (hB0:RnBs l H0 B0) (hB1:RnBs l H1 B1) (ha:RnAL l args0 args) (hr:Rn l r0 r):
  ACall P f args F λq h=>q=r/\h=putL F l B1:=by
 refine⟨h.1,λg w vs hI hargs=>?_⟩
 let g0:Gh:=⟨g.C,λi n=>(l[i]?).bind λk=>g.T k n,λi=>(l[i]?).bind g.B,λb=>(g.O b).bind (idxL l)⟩
 have hR:RelG l g g0:=⟨λ_ _=>rfl,λi k e=>by show(l[i]?).bind g.B=_;rw[e];rfl,λi k n e=>by show(l[i]?).bind _=_;rw[e];rfl⟩
 have hO0:∀ b i k,l[i]?=some k->(g.O b=some k↔g0.O b=some i):=λb i k e=>by
  show _↔(g.O b).bind (idxL l)=some i
  constructor
  ·intro h;rw[h];exact idxL_at hl e
  ·intro h
   obtain⟨k',h1,h2⟩:=Option.bind_eq_some_iff.1 h
   rw[h1]
   have:=Ux h2
   rw[e]at this
   exact this.symm
 have hatF:∀ (i k:Nat),l[i]?=some k->∃ y:Blk,F[k]?=some y/\B0[i]?=some y:=λi k e=>by
  have h1:(l.map λk=>F[k]?)[i]?=some F[k]?:=by rw[List.getElem?_map,e];rfl
  rw[hF,List.getElem?_map]at h1
  cases hb:B0[i]? with
  |none=>rw[hb]at h1;cases h1
  |some y=>rw[hb]at h1;exact⟨y,(Option.some.inj h1).symm,rfl⟩
 have hlen:∀ i:Nat,i<H0.length->∃ k:Nat,l[i]?=some k:=λi hi=>⟨_,List.getElem?_eq_getElem (by omega)⟩
 have hI0:Inv g0 H0 w:=by
  refine⟨hI.C,λi x hx=>?_,λi b hb=>?_,λb i hb=>?_,λi hi=>?_,λi n hi=>?_,λb i hb=>?_⟩
  ·obtain⟨k,hk⟩:=hlen i (List.getElem?_eq_some_iff.1 hx).1
   obtain⟨y,hy,hy2⟩:=hatF i k hk
   obtain⟨y',hy',hrn⟩:=hB0.get i x hx
   rw[hy2]at hy'
   cases hy'
   exact(bok_iff hR hk (λb=>hO0 b i k hk) hrn).2 (hI.blk k y hy)
  ·obtain⟨k,h1,h2⟩:=Option.bind_eq_some_iff.1 hb
   exact(hO0 b i k h1).1 (hI.own k b h2)
  ·obtain⟨k,h1,h2⟩:=Option.bind_eq_some_iff.1 hb
   exact hI.lt b k h1
  ·show(l[i]?).bind g.B=none
   rw[List.getElem?_eq_none (by omega)];rfl
  ·show(l[i]?).bind _=none
   rw[List.getElem?_eq_none (by omega)];rfl
  ·obtain⟨k,h1,h2⟩:=Option.bind_eq_some_iff.1 hb
   have:=(List.getElem?_eq_some_iff.1 (Ux h2)).1
   omega
 refine(h.2 g0 w vs hI0 (ha.lr hR hargs)).mono ?_
 rintro e w' ⟨u,r',H2,g',rfl,⟨rfl,rfl⟩,hS,_,hI',hru⟩
 let g2:Gh:=⟨g'.C,λk n=>match idxL l k with
  |some i=>g'.T i n
  |none=>g.T k n,g.B,λb=>match g'.O b with
  |some i=>l[i]?
  |none=>g.O b⟩
 have hR2:RelG l g2 g':=by
  refine⟨λ_ _=>rfl,λi k e=>?_,λi k n e=>?_⟩
  ·have hi:=(List.getElem?_eq_some_iff.1 e).1
   exact(hS.B i (by omega)).trans (hR.B i k e)
  ·show _=match idxL l k with|some i=>g'.T i n|none=>g.T k n
   rw[idxL_at hl e]
 have oL:∀ b i:Nat,g'.O b=some i->∃ k:Nat,l[i]?=some k:=λb i e=>hlen i (by have:=hI'.domO b i e;omega)
 have oS:∀ b i k:Nat,g'.O b=some i->l[i]?=some k->g.O b=some k\/w.heap.size<=b:=λb i k e ek=>(hS.O b i e).imp (λe0=>(hO0 b i k ek).2 e0) id
 have oN:∀ b k,g.O b=some k->g'.O b=none->idxL l k=none:=λb k e en=>by
  cases hi:idxL l k with
  |none=>rfl
  |some i=>
   have:=hS.le.O b i ((hO0 b i k (Ux hi)).1 e)
   rw[en]at this;cases this
 have o0:∀ b k,g.O b=some k->idxL l k=none->g0.O b=none:=λb k e ek=>by
  show(g.O b).bind (idxL l)=none
  rw[e];exact ek
 have hle:g.le g2:=by
  refine⟨hS.le.C,λk n x hx=>?_,λ_ _ h=>h,λb k hb=>?_⟩
  ·show(match idxL l k with|some i=>g'.T i n|none=>g.T k n)=some x
   cases hi:idxL l k with
   |none=>exact hx
   |some i=>exact hS.le.T i n x ((hR.T i k n (Ux hi)).trans hx)
  ·show(match g'.O b with|some i=>l[i]?|none=>g.O b)=some k
   cases ho:g'.O b with
   |none=>exact hb
   |some i=>
    obtain⟨k',hk'⟩:=oL b i ho
    rcases oS b i k' ho hk' with h1|h1
    ·rw[hb]at h1;cases h1;exact hk'
    ·have:=hI.lt b k hb;omega
 have hB0n:∀ b,g.O b=none->g0.O b=none:=λb h=>by show(g.O b).bind (idxL l)=none;rw[h];rfl
 refine⟨u,r,_,g2,rfl,⟨rfl,rfl⟩,⟨hle,λ_ _=>rfl,hS.os,hS.tape,hS.output,hS.size,λb hb ho=>hS.block b hb (hB0n b ho),λb k hk=>?_,λb o ho hb=>hS.C b o (hB0n b ho) hb⟩,by rw[putL_len];exact Nat.le_refl _,?_,(hr g2 g' hR2 u).1 hru⟩
 ·have hk:(match g'.O b with|some i=>l[i]?|none=>g.O b)=some k:=hk
  cases ho:g'.O b with
  |none=>rw[ho]at hk;exact .inl hk
  |some i=>rw[ho]at hk;exact oS b i k ho hk
 ·refine⟨hI'.C,λk x hx=>?_,λk b hb=>hle.O b k (hI.own k b hb),λb k hk=>?_,λk hk=>hI.domB k (by rw[putL_len]at hk;exact hk),λk n hk=>?_,λb k hk=>?_⟩
  ·cases hi:idxL l k with
   |none=>
    rw[Uv _ _ _ (idxL_none hi hl)]at hx
    refine(hI.blk k x hx).keep hle rfl (λn=>?_) (λb hb=>⟨hS.block b (hI.lt b k hb) (o0 b k hb hi),λq=>hS.C b q (o0 b k hb hi) (hI.lt b k hb)⟩) hI.own
    show(match idxL l k with|some i=>g'.T i n|none=>g.T k n)=g.T k n
    rw[hi]
   |some i=>
    have hik:=Ux hi
    have hi1:i<H2.length:=by have:=(List.getElem?_eq_some_iff.1 hik).1;omega
    obtain⟨y,hy,hrn⟩:=hB1.get i _ (List.getElem?_eq_getElem hi1)
    rw[putL_at F l B1 hl hik (hlt k (List.mem_of_getElem? hik)) hy]at hx
    cases hx
    refine(bok_iff hR2 hik (λb=>?_) hrn).1 (hI'.blk i _ (List.getElem?_eq_getElem hi1))
    show(match g'.O b with|some i=>l[i]?|none=>g.O b)=some k↔g'.O b=some i
    cases ho:g'.O b with
    |none=>
     constructor
     ·intro h1
      have:=oN b k h1 ho
      rw[hi]at this;cases this
     ·intro h1;cases h1
    |some j=>
     constructor
     ·intro h1
      have e1:=idxL_at hl h1
      rw[hi]at e1;exact e1.symm
     ·intro h1;cases h1;exact hik
  ·have hk:(match g'.O b with|some i=>l[i]?|none=>g.O b)=some k:=hk
   cases ho:g'.O b with
   |none=>rw[ho]at hk;exact Nat.lt_of_lt_of_le (hI.lt b k hk) hS.size
   |some i=>exact hI'.lt b i ho
  ·rw[putL_len]at hk
   show(match idxL l k with|some i=>g'.T i n|none=>g.T k n)=none
   cases hi:idxL l k with
   |none=>exact hI.domT k n hk
   |some i=>have:=hlt k (List.mem_of_getElem? (Ux hi));omega
  ·rw[putL_len]
   have hk:(match g'.O b with|some i=>l[i]?|none=>g.O b)=some k:=hk
   cases ho:g'.O b with
   |none=>rw[ho]at hk;exact hI.domO b k hk
   |some i=>rw[ho]at hk;exact hlt k (List.mem_of_getElem? hk)
def nodupN:List Nat->Bool
 |[]=>true
 |x::l=>(l.all λy=>!Nat.beq x y)&&nodupN l
theorem nodupN_sound:∀ {l:List Nat},nodupN l=true->l.Nodup
 |[],_=>List.nodup_nil
 |x::l,h=>by
  simp only[nodupN,Bool.and_eq_true,List.all_eq_true,Bool.not_eq_true']at h
  refine List.nodup_cons.2 ⟨λhm=>?_,nodupN_sound h.2⟩
  have:=h.1 x hm
  simp at this
theorem ends_cutH {rs:List RP} {Q:PV->List Blk->Prop} {env e2:List PV} {H0 H' H2 H3 X:List Blk} {x:Ex} {r r2:PV} (hx:x=.normal\/x=.ret) (hw:WeakS H0 env H' e2 H2) (hH:H2=H3++X) (hm:H0.length=H3.length) (hr:resP rs e2 H2=some r) (hB:AllB H3.length H3) (hs:PSub (r.strip H3.length) r2) (hq:Q r2 H3):Ends rs H0 Q x env H':=by
 subst hH
 refine⟨hx,e2,_,hw,r,hr,.inr ⟨H3.length,H3,r2,Nat.le_of_eq hm,⟨rfl,λk y hk=>.inr ⟨y,?_,(hB.mem y (List.mem_of_getElem? hk)).symm⟩⟩,hs,hq⟩⟩
 rw[List.getElem?_append_left (List.getElem?_eq_some_iff.1 hk).1];exact hk
def StL (m:Nat):List PV->Prop
 |[]=>True
 |p::l=>p.strip m=p/\StL m l
theorem stc {m:Nat} {p:PV} {l:List PV} (h:p.strip m=p) (k:StL m l):StL m (p::l):=⟨h,k⟩
theorem ste {m:Nat}:StL m []:=trivial
theorem StL.map {m:Nat}:∀ {l:List PV},StL m l->l.map (PV.strip m)=l
 |[],_=>rfl
 |_::_,h=>by rw[List.map_cons,h.1,StL.map h.2]
theorem strip_bp {m k o:Nat} (h:Nat.blt k m=true):(PV.bp k o).strip m=.bp k o:=by
 have:k<m:=Nat.le_of_ble_eq_true h
 simp[PV.strip,this]
theorem strip_mp {m k:Nat} (h:Nat.blt k m=true):(PV.mp k).strip m=.mp k:=by
 have:k<m:=Nat.le_of_ble_eq_true h
 simp[PV.strip,this]
theorem strip_fn {m:Nat} {f:Fn} {p q:List PV} (h:StL m p) (k:StL m q):(PV.fn f p q).strip m=.fn f p q:=by simp only[PV.strip,Xw,h.map,k.map]
theorem strip_agg {m:Nat} {p:List PV} (h:StL m p):(PV.agg p).strip m=.agg p:=by simp only[PV.strip,Xw,h.map]
theorem strip_cells2 {m:Nat} {cs:List PV} (h:StL m cs):(Blk.cells cs).strip m=.cells cs:=by simp only[Blk.strip,h.map]
theorem strip_mapB {m:Nat} {ks:List (Value×Nat)} {vs:List PV} {c:Nat} (h:Cls vs):(Blk.map ks vs c).strip m=.map ks vs c:=by
 simp only[Blk.strip]
 rw[Ys λp hp=>(h p hp).strip m]
theorem lc {e:List PV} {es:List (List PV)} (h:Cls e) (k:∀ e∈es,∀ p∈e,Cl p):∀ e'∈e::es,∀ p∈e',Cl p:=λe' he p hp=>by
 rcases List.mem_cons.1 he with rfl|he
 ·exact h p hp
 ·exact k e' he p hp
def StLL (m:Nat):List (List PV)->Prop
 |[]=>True
 |p::l=>StL m p/\StLL m l
theorem slc {m:Nat} {p:List PV} {l:List (List PV)} (h:StL m p) (k:StLL m l):StLL m (p::l):=⟨h,k⟩
theorem sle {m:Nat}:StLL m []:=trivial
theorem StLL.map {m:Nat}:∀ {l:List (List PV)},StLL m l->l.map (λe=>e.map (PV.strip m))=l
 |[],_=>rfl
 |_::_,h=>by rw[List.map_cons,h.1.map,StLL.map h.2]
theorem strip_lst {m s:Nat} {es:List (List PV)} (h:StLL m es):(PV.sl false .full s es).strip m=.sl false .full s es:=by
 simp only[PV.strip,Zd,h.map,Right.cut]
structure GL (P:Program) (H0:List Blk) (b:AC) (n:Nat) (env:List PV) (H:List Blk) (Q:Ex->List PV->List Blk->Prop):Prop where
 ax:loopN H0 (AX P H0 b) n env H Q
variable {H0:List Blk}
theorem loopN_weak {step:List PV->List Blk->(Ex->List PV->List Blk->Prop)->Prop}:∀ {n:Nat} {env env2:List PV} {H H2:List Blk} {Q:Ex->List PV->List Blk->Prop},WeakS H0 env H env2 H2->loopN H0 step n env2 H2 Q->loopN H0 step n env H Q
 |0,_,_,_,_,_,_,h=>h
 |_+1,_,_,_,_,_,hw,⟨e,h,w,k⟩=>⟨e,h,hw.trans w,k⟩
theorem g_unroll {c b:AC} (hc:c=.loop b) (n:Nat) {env e2:List PV} {H h2:List Blk} {Q:Ex->List PV->List Blk->Prop} (hw:WeakS H0 env H e2 h2) (h:GL P H0 b n e2 h2 Q):GX P H0 c env H Q:=
 ⟨by subst hc;simp only[AX];exact⟨n,loopN_weak hw h.ax⟩⟩
theorem Zb {b:AC} {n:Nat} {env:List PV} {H:List Blk} {Q:Ex->List PV->List Blk->Prop} (h:GX P H0 b env H λx e h=>match x with
  |.normal=>∃ e2 h2,WeakS H0 e h e2 h2/\GL P H0 b n e2 h2 Q
  |x=>Q x e h):GL P H0 b (n+1) env H Q:=
 ⟨⟨env,H,WeakS.refl _ _ _,AX.mono b h.ax λx e h' hx=>by
  cases x with
  |normal=>obtain⟨e2,h2,hw,k⟩:=hx;exact loopN_weak hw k.ax
  |exit i=>exact hx
  |ret=>exact hx⟩⟩
structure GM (K V:Type) where
 ks:List (K×Nat)
 vs:List V
 clock:Nat
instance {K V:Type}:Inhabited (GM K V):=⟨⟨[],[],0⟩⟩
def gmB {K V:Type} (kv:K->Value) (pv:V->PV) (m:GM K V):Blk:=.map (m.ks.map λe=>(kv e.1,e.2)) (m.vs.map pv) m.clock
def gfind {K:Type} (eq:K->K->Bool) (k:K):List (K×Nat)->Nat->Option Nat
 |[],_=>none
 |e::es,i=>bif eq k e.1 then some i else gfind eq k es (i+1)
theorem findI_gm {K:Type} {kv:K->Value} {eq:K->K->Bool} {ks:List Knd} {st:Bool} (heq:∀ a b,Wf ks st (kv a) (kv b)=some (eq a b)) (k:K):∀ (l:List (K×Nat)) (i:Nat),findI ks st (kv k) (l.map λe=>(kv e.1,e.2)) i=some (gfind eq k l i)
 |[],_=>rfl
 |e::es,i=>by
  simp only[List.map_cons,findI,heq,gfind]
  cases eq k e.1 with
  |true=>rfl
  |false=>exact findI_gm heq k es (i+1)
def gmGet {K V:Type} (eq:K->K->Bool) (m:GM K V) (k:K) (z:V):Option V:=match gfind eq k m.ks 0 with
 |some i=>m.vs[i]?
 |none=>some z
def gmPut {K V:Type} (eq:K->K->Bool) (m:GM K V) (k:K) (v:V):GM K V:=match gfind eq k m.ks 0 with
 |some i=>⟨m.ks,m.vs.set i v,m.clock⟩
 |none=>⟨m.ks++[(k,m.clock)],m.vs++[v],m.clock+1⟩
theorem n_lookup {K V:Type} {kv:K->Value} {pv:V->PV} {eq:K->K->Bool} {m:GM K V} {k:K} {z x:V} {key zp:PV} {ks:List Knd} {st:Bool} {F:List Blk} {b:Nat} (h:gmGet eq m k z=some x) (hz:zp=pv z) (hk:toV key=some (kv k)) (hs:isAggV (kv k)=st/\(kv k).cells.size=ks.length)
  (heq:∀ a b,Wf ks st (kv a) (kv b)=some (eq a b)) (hF:F[b]?=some (gmB kv pv m)):Nt.ok P (.rd (.lookup ks st zp (.c (.mp b)) (.c key) false) F (pv x)):=by
 subst hz
 simp only[Nt.ok,AStep,aop,Opd.ev,hk]
 rw[if_pos hs,hF]
 simp only[gmB,findI_gm heq]
 unfold gmGet at h
 cases hg:gfind eq k m.ks 0 with
 |none=>rw[hg]at h;cases h;simp
 |some i=>rw[hg]at h;simp only[]at h;simp[h]
theorem n_mapUp {K V:Type} {kv:K->Value} {pv:V->PV} {eq:K->K->Bool} {m:GM K V} {k:K} {v:V} {key vp:PV} {ks:List Knd} {st:Bool} {F F':List Blk} {b:Nat} (hv:vp=pv v) (hk:toV key=some (kv k)) (hs:isAggV (kv k)=st/\(kv k).cells.size=ks.length)
  (heq:∀ a b,Wf ks st (kv a) (kv b)=some (eq a b)) (hF:F[b]?=some (gmB kv pv m)) (hF':F.set b (gmB kv pv (gmPut eq m k v))=F'):Nt.ok P (.st (.mapUp ks st (.c (.mp b)) (.c key) (.c vp)) F (.tup []) F' b):=by
 subst hv
 subst hF'
 refine⟨?_,Same.set _ _ (Nat.le_refl _)⟩
 simp only[AStep,aop,Opd.ev,hk]
 rw[if_pos hs,hF]
 simp only[gmB,findI_gm heq,gmPut]
 cases hg:gfind eq k m.ks 0 with
 |none=>simp
 |some i=>simp[List.map_set]
theorem gm_cls {V:Type} {pv:V->PV} {l:List V} (h:∀ x,Cl (pv x)):Cls (l.map pv):=λp hp=>by
 obtain⟨x,_,rfl⟩:=List.mem_map.1 hp
 exact h x
theorem gm_rnl {V:Type} {pv:V->PV} {k:List Nat} (h:∀ x,Cl (pv x)):∀ {l:List V},RnL k (l.map pv) (l.map pv)
 |[]=>trivial
 |x::_=>⟨rn_cl (h x),gm_rnl h⟩
end Go.PE
