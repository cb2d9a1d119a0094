/- A part of the proof. -/
import Derived.Test.YtibndgdocbbbeaaGreatPE3
import Derived.Deep.AppendSrc
set_option linter.all false
namespace Go.PE
open Go.RowKit
theorem BOk.keep {g g':Gh} {w w':World} (hg:g.le g') {k:Nat} {x:Blk} (h:BOk g w k x) (hB:g'.B k=g.B k) (hT:∀ n,g'.T k n=g.T k n)
  (hh:∀ b,g.O b=some k->w'.heap[b]?=w.heap[b]?/\∀ q,g'.C b q=g.C b q) (hown:∀ k b,g.B k=some b->g.O b=some k):BOk g' w' k x:=by
 cases x with
 |cells cs=>
  rcases h with h|⟨b,vs,e,h1,h2,h3,h4⟩
  ·exact .inl (hB.trans h)
  ·obtain⟨u1,u2⟩:=hh b (hown k b h1)
   exact .inr ⟨b,vs,e,hB.trans h1,u1.trans h2,h3.mono hg,λq=>(u2 q).trans (h4 q)⟩
 |map kl vals c=>
  rcases h with h|⟨b,es,h1,h2,h3,h4⟩
  ·exact .inl (hB.trans h)
  ·exact .inr ⟨b,es,hB.trans h1,(hh b (hown k b h1)).1.trans h2,h3,h4.mono hg⟩
 |iter m since seen last=>
  rcases h with h|⟨b,bm,h1,h2,h3,h4⟩
  ·exact .inl (hB.trans h)
  ·exact .inr ⟨b,bm,hB.trans h1,h2,hg.B _ _ h3,(hh b (hown k b h1)).1.trans h4⟩
 |grow n s=>
  refine⟨λn' hn=>(hT n').trans (h.1 n' hn),?_⟩
  intro b cap h1
  rw[hT]at h1
  obtain⟨h2,⟨vs,e,h3,h4⟩,h5,h6,h7⟩:=h.2 b cap h1
  obtain⟨u1,u2⟩:=hh b h2
  exact⟨hg.O _ _ h2,⟨vs,e,u1.trans h3,h4⟩,h5,h6,λq hq=>(u2 q).trans (h7 q hq)⟩
 |tgrow n s cs=>
  refine⟨λn' hn=>(hT n').trans (h.1 n' hn),h.2.1,h.2.2.1,?_⟩
  intro b cap h1
  rw[hT]at h1
  obtain⟨h2,⟨vs,e,h3,h4,h8⟩,h5,h6,h7⟩:=h.2.2.2 b cap h1
  obtain⟨u1,u2⟩:=hh b h2
  exact⟨hg.O _ _ h2,⟨vs,e,u1.trans h3,h4,h8.mono hg⟩,h5,h6,λq=>(u2 q).trans (h7 q)⟩
 |loop env ps ai bd cA cB st pend=>
  rcases h with h|⟨b,r,h1,h2,h3,h4,h5,h6,h7,h8⟩
  ·exact .inl (hB.trans h)
  ·exact .inr ⟨b,r,hB.trans h1,(hh b (hown k b h1)).1.trans h2,h3,h4,h5,h6,h7,h8.mono hg⟩
theorem Yi {α:Type} {l:List α} {k j:Nat} {x y:α} (h:(l.set k x)[j]?=some y):(j=k/\y=x)\/(j≠k/\l[j]?=some y):=by
 rw[List.getElem?_set]at h
 split at h
 ·rename_i e
  split at h
  ·cases h;exact .inl ⟨e.symm,rfl⟩
  ·cases h
 ·rename_i e
  exact .inr ⟨λq=>e q.symm,h⟩
theorem Qw (w:World) {b:Nat} {old:Array Value} {t:TypeId} {fr:Nat×Nat} (hg:w.heap[b]?=some (.cells old t fr)) (cs:Array Value) {c o:Nat} {v:Value}
  (h:w.cell? ⟨c,o,none⟩=some v) (hs:c=b->cs[o]?=some v):(w.setRow b cs).cell? ⟨c,o,none⟩=some v:=by
 by_cases hc:c=b
 ·rw[hc,cell_setRow_same w b o old cs t fr hg];exact hs hc
 ·rw[cell_setRow_other w b cs _ hc];exact h
theorem store_blk {g:Gh} {H:List Blk} {w:World} (hI:Inv g H w) {k:Nat} {cs cs':List PV} {b:Nat} {old vs':Array Value} {e:TypeId} (hk:H[k]?=some (.cells cs)) (hb:g.B k=some b)
  (ho:w.heap[b]?=some (.cells old e (0,0))) (hl:LP g cs' vs'):Step H.length g w g (w.setRow b vs')/\Inv g (H.set k (.cells cs')) (w.setRow b vs'):=by
 have hO:=hI.own k b hb
 have hC:∀ q,g.C b q=none:=by
  rcases hI.blk k _ hk with h|⟨b',vs,e',h1,_,_,h4⟩
  ·rw[hb]at h;cases h
  ·rw[hb]at h1;cases h1;exact h4
 refine⟨⟨.refl g,λ_ _=>rfl,rfl,rfl,rfl,by simp,λc hc h=>setRow_other w b c vs' (λe=>by subst e;rw[hO]at h;cases h),λc k h=>.inl h,λ_ _ _ _=>rfl⟩,
  ⟨λc o v h=>?_,λj x hx=>?_,hI.own,λc j h=>by simpa using hI.lt c j h,λj hj=>hI.domB j (by simpa using hj),λj n hj=>hI.domT j n (by simpa using hj),λc j h=>by simpa using hI.domO c j h⟩⟩
 ·refine Qw w ho vs' (hI.C c o v h) (λe=>?_)
  subst e;rw[hC]at h;cases h
 ·rcases Yi hx with ⟨rfl,rfl⟩|⟨hne,hx⟩
  ·exact .inr ⟨b,vs',e,hb,setRow_heap w b old vs' e (0,0) ho,hl,hC⟩
  ·refine(hI.blk j x hx).keep (.refl g) rfl (λ_=>rfl) (λc hc=>⟨setRow_other w b c vs' (λe=>?_),λ_=>rfl⟩) hI.own
   subst e;rw[hO]at hc;exact hne (Option.some.inj hc).symm
theorem Ze:∀ {es:List (List PV)} {s:Nat},(∀ (i:Nat) (e:List PV),es[i]?=some e->e.length=s)->es.flatten.length=es.length*s
 |[],s,_=>by simp
 |e::es,s,h=>by
  have h0:=h 0 e rfl
  have ih:=Ze (es:=es) (s:=s) (λi x hx=>h (i+1) x hx)
  simp[ih,h0,Nat.add_mul];omega
theorem flat_get:∀ {es:List (List PV)} {s:Nat},(∀ (i:Nat) (e:List PV),es[i]?=some e->e.length=s)->∀ (q:Nat) (p:PV),es.flatten[q]?=some p->∃ i j e,es[i]?=some e/\e[j]?=some p/\q=i*s+j
 |[],s,_,q,p,h=>by simp at h
 |e::es,s,hs,q,p,h=>by
  have h0:=hs 0 e rfl
  rw[List.flatten_cons]at h
  by_cases hq:q<e.length
  ·rw[List.getElem?_append_left hq]at h
   exact⟨0,q,e,rfl,h,by simp⟩
  ·rw[List.getElem?_append_right (by omega)]at h
   obtain⟨i,j,x,h1,h2,h3⟩:=flat_get (es:=es) (s:=s) (λi x hx=>hs (i+1) x hx) _ _ h
   exact⟨i+1,j,x,h1,h2,by rw[Nat.add_mul];omega⟩
theorem flat_put:∀ {es:List (List PV)} {s:Nat},(∀ (i:Nat) (e:List PV),es[i]?=some e->e.length=s)->∀ (i j:Nat) (e:List PV) (p:PV),es[i]?=some e->e[j]?=some p->es.flatten[i*s+j]?=some p
 |[],s,_,i,j,e,p,h,_=>by simp at h
 |x::es,s,hs,i,j,e,p,h,hp=>by
  have h0:=hs 0 x rfl
  rw[List.flatten_cons]
  cases i with
  |zero=>
   simp at h;subst h
   have:j<x.length:=(List.getElem?_eq_some_iff.1 hp).1
   rw[List.getElem?_append_left (by omega)]
   simpa using hp
  |succ i=>
   rw[List.getElem?_append_right (by rw[Nat.add_mul];omega)]
   have:=flat_put (es:=es) (s:=s) (λi x hx=>hs (i+1) x hx) i j e p (by simpa using h) hp
   rw[<-this];congr 1;rw[Nat.add_mul];omega
theorem sl_cells {g:Gh} {r:Right} {s:Nat} {es:List (List PV)} {v:Value} (h:RV g (.sl false r s es) v):(es=[]/\r.isOwn=false/\∃ A,v=.slice (some A) 0 0)\/∃ b o cap vs,v=.slice (some ⟨b,o,none⟩) es.length cap/\es.length<=cap/\cap<=maxLen/\
  (∀ (i:Nat) (e:List PV),es[i]?=some e->e.length=s)/\LR g es.flatten vs/\(∀ q u,vs[q]?=some u->g.C b (o+q)=some u)/\rightOk g r b o es.length cap:=by
 cases h with
 |em r s A h=>exact .inl ⟨rfl,h,A,rfl⟩
 |sl vf hc hm hs hC hR hr=>
  right
  rename_i b o cap
  have hl:=Ze hs
  have hp:∀ q p,es.flatten[q]?=some p->∃ u,g.C b (o+q)=some u/\RV g p u:=λq p hq=>by
   obtain⟨i,j,e,h1,h2,rfl⟩:=flat_get hs q p hq
   exact⟨_,by rw[<-Nat.add_assoc];exact hC i j e p h1 h2,hR i j e p h1 h2⟩
  refine⟨b,o,cap,((List.range es.flatten.length).map λq=>(g.C b (o+q)).getD undef).toArray,rfl,hc,hm,hs,⟨by simp,λq p u hq hu=>?_⟩,λq u hu=>?_,hr⟩
  ·obtain⟨u',h1,h2⟩:=hp q p hq
   have hlt:q<es.flatten.length:=(List.getElem?_eq_some_iff.1 hq).1
   simp only[List.getElem?_toArray,List.getElem?_map,List.getElem?_range hlt,Option.map_some,h1,Option.getD_some,Option.some.injEq]at hu
   subst hu;exact h2
  ·have hlt:q<es.flatten.length:=by
    have:=(Array.getElem?_eq_some_iff.1 hu).1
    simpa using this
   obtain⟨u',h1,h2⟩:=hp q _ (List.getElem?_eq_getElem hlt)
   simp only[List.getElem?_toArray,List.getElem?_map,List.getElem?_range hlt,Option.map_some,h1,Option.getD_some,Option.some.injEq]at hu
   subst hu;exact h1
theorem sl_of {g:Gh} {r:Right} {s:Nat} {es:List (List PV)} {b o cap:Nat} {vs:Array Value} (hc:es.length<=cap) (hm:cap<=maxLen) (hs:∀ (i:Nat) (e:List PV),es[i]?=some e->e.length=s)
  (hl:LR g es.flatten vs) (hC:∀ q u,vs[q]?=some u->g.C b (o+q)=some u) (hr:rightOk g r b o es.length cap):RV g (.sl false r s es) (.slice (some ⟨b,o,none⟩) es.length cap):=by
 have key:∀ (i j:Nat) (e:List PV) (p:PV),es[i]?=some e->e[j]?=some p->∃ u,vs[i*s+j]?=some u:=λi j e p h1 h2=>by
  have:=flat_put hs i j e p h1 h2
  have hlt:i*s+j<vs.size:=hl.1▸(List.getElem?_eq_some_iff.1 this).1
  exact⟨_,Array.getElem?_eq_getElem hlt⟩
 refine .sl (λi j=>(vs[i*s+j]?).getD undef) hc hm hs (λi j e p h1 h2=>?_) (λi j e p h1 h2=>?_) hr
 ·obtain⟨u,hu⟩:=key i j e p h1 h2
  rw[hu,Nat.add_assoc]
  exact hC _ _ hu
 ·obtain⟨u,hu⟩:=key i j e p h1 h2
  rw[hu]
  exact hl.2 _ _ _ (flat_put hs i j e p h1 h2) hu
theorem LR.append {g:Gh} {a b:List PV} {u v:Array Value} (h:LR g a u) (k:LR g b v):LR g (a++b) (u++v):=by
 refine⟨by simp[h.1,k.1],λi p x hp hx=>?_⟩
 by_cases hi:i<a.length
 ·rw[List.getElem?_append_left hi]at hp
  rw[Array.getElem?_append_left (by rw[<-h.1];exact hi)]at hx
  exact h.2 i p x hp hx
 ·rw[List.getElem?_append_right (by omega)]at hp
  rw[Array.getElem?_append_right (by rw[<-h.1];omega),<-h.1]at hx
  exact k.2 _ p x hp hx
theorem LR.one {g:Gh} {a:List PV} {u:Array Value} (h:LR g a u) (ha:a.all PV.cellP=true):∀ v∈u.toList,v.oneCell'=true:=by
 intro v hv
 obtain⟨i,hi,rfl⟩:=List.mem_iff_getElem.1 hv
 have hi':i<u.size:=by simpa using hi
 have hia:i<a.length:=h.1▸hi'
 have:=h.2 i a[i] u[i] (List.getElem?_eq_getElem hia) (Array.getElem?_eq_getElem hi')
 have e:u.toList[i]=u[i]:=by simp
 rw[e]
 exact this.one (List.all_eq_true.1 ha _ (List.getElem_mem hia))
theorem grow_in {g:Gh} {H:List Blk} {w:World} (hI:Inv g H w) {j n m s b cap:Nat} (hj:H[j]?=some (.grow n s)) (hT:g.T j n=some (b,cap)) {vs:Array Value} (hv:vs.size=m*s) (hm:0<m) (hc:n+m<=cap):
  ∃ (cur:Array Value) (e:TypeId) (cur':Array Value) (g':Gh),w.heap[b]?=some (.cells cur e (0,0))/\n*s+vs.size<=cur.size/\cur'=(cur.toList.take (n*s)++vs.toList++cur.toList.drop (n*s+vs.size)).toArray/\
   Step H.length g w g' (w.setRow b cur')/\Inv g' (H.set j (.grow (n+m) s)) (w.setRow b cur')/\g'.T j (n+m)=some (b,cap)/\(∀ q u,vs[q]?=some u->g'.C b (n*s+q)=some u):=by
 have hB:=hI.blk j _ hj
 obtain⟨hTn,hB⟩:=hB
 obtain⟨hO,⟨cur,e,hh,hcur⟩,hn,hcap,hC⟩:=hB b cap hT
 have hfit:n*s+vs.size<=cur.size:=by
  rw[hcur,hv,<-Nat.add_mul];exact Nat.mul_le_mul_right _ hc
 let cur':=(cur.toList.take (n*s)++vs.toList++cur.toList.drop (n*s+vs.size)).toArray
 have hsz:cur'.size=cur.size:=by simp[cur'];omega
 have hget:∀ q,q<n*s->cur'[q]?=cur[q]?:=λq hq=>by
  simp[cur']
  rw[List.getElem?_append_left (by simp;omega),List.getElem?_take,if_pos hq];simp
 have hnew:∀ q u,vs[q]?=some u->cur'[n*s+q]?=some u:=λq u hu=>by
  have hq:q<vs.size:=(Array.getElem?_eq_some_iff.1 hu).1
  simp[cur']
  rw[List.getElem?_append_right (by simp;omega),List.length_take,Array.length_toList,Nat.min_eq_left (by omega),show n*s+q-n*s=q by omega,List.getElem?_append_left (by simpa using hq)]
  simpa using hu
 let g':Gh:={ g with C:=λc o=>if c=b/\n*s<=o then (if o<n*s+vs.size then vs[o-n*s]? else none)else g.C c o,T:=λk i=>if k=j/\i=n+m then some (b,cap)else g.T k i }
 have hCn:∀ o,n*s<=o->g.C b o=none:=hC
 have hle:g.le g':=by
  refine⟨λc o v h=>?_,λk i x h=>?_,λ_ _ h=>h,λ_ _ h=>h⟩
  ·show(if c=b/\n*s<=o then _ else _)=_
   rw[if_neg (λq=>by rw[q.1,hCn o q.2]at h;cases h)];exact h
  ·show(if k=j/\i=n+m then _ else _)=_
   rw[if_neg (λq=>by rw[q.1,q.2,hTn _ (by omega)]at h;cases h)];exact h
 have hC':∀ q u,vs[q]?=some u->g'.C b (n*s+q)=some u:=λq u hu=>by
  have hq:q<vs.size:=(Array.getElem?_eq_some_iff.1 hu).1
  show(if b=b/\n*s<=n*s+q then _ else _)=_
  rw[if_pos ⟨rfl,by omega⟩,if_pos (by omega),show n*s+q-n*s=q by omega];exact hu
 refine⟨cur,e,cur',g',hh,hfit,rfl,⟨hle,λ_ _=>rfl,rfl,rfl,rfl,by simp,λc hc h=>setRow_other w b c cur' (λe=>by subst e;rw[hO]at h;cases h),λc k h=>.inl h,λc o h _=>?_⟩,
  ⟨λc o v h=>?_,λk x hx=>?_,hI.own,λc k h=>by simpa using hI.lt c k h,λk hk=>hI.domB k (by simpa using hk),λk i hk=>?_,λc k h=>by simpa using hI.domO c k h⟩,?_,hC'⟩
 ·show(if c=b/\n*s<=o then _ else _)=_
  rw[if_neg (λq=>by rw[q.1,hO]at h;cases h)]
 ·have h:(if c=b/\n*s<=o then (if o<n*s+vs.size then vs[o-n*s]? else none)else g.C c o)=some v:=h
  split at h
  ·rename_i hq
   obtain⟨ec,hq⟩:=hq
   split at h
   ·rw[ec,cell_setRow_same w b o cur cur' e (0,0) hh]
    have:=hnew _ _ h
    rwa [show n*s+(o-n*s)=o by omega]at this
   ·cases h
  ·rename_i hq
   refine Qw w hh cur' (hI.C c o v h) (λec=>?_)
   have ho:o<n*s:=by
    rcases Nat.lt_or_ge o (n*s)with h1|h1
    ·exact h1
    ·exact absurd ⟨ec,h1⟩ hq
   rw[hget o ho]
   have:=hI.C c o v h
   rwa [ec,Yt hh]at this
 ·rcases Yi hx with ⟨rfl,rfl⟩|⟨hne,hx⟩
  ·refine⟨λn' hn'=>?_,λb' cap' h=>?_⟩
   ·show(if k=k/\n'=n+m then _ else _)=_
    rw[if_neg (by omega)];exact hTn n' (by omega)
   ·have h:(if k=k/\n+m=n+m then some (b,cap)else g.T k (n+m))=some (b',cap'):=h
    rw[if_pos ⟨rfl,rfl⟩]at h
    cases h
    refine⟨hO,⟨cur',e,setRow_heap w b cur cur' e (0,0) hh,by rw[hsz,hcur]⟩,hc,hcap,λo ho=>?_⟩
    show(if b=b/\n*s<=o then _ else _)=_
    have:n*s+vs.size<=o:=by rw[hv,<-Nat.add_mul];exact ho
    rw[if_pos ⟨rfl,by omega⟩,if_neg (by omega)]
  ·refine(hI.blk k x hx).keep hle rfl (λi=>?_) (λc hc=>?_) hI.own
   ·show(if k=j/\i=n+m then _ else _)=_
    rw[if_neg (λq=>hne q.1)]
   ·have hcb:c≠b:=λec=>by subst ec;rw[hO]at hc;exact hne (Option.some.inj hc).symm
    refine⟨setRow_other w b c cur' hcb,λq=>?_⟩
    show(if c=b/\n*s<=q then _ else _)=_
    rw[if_neg (λq=>hcb q.1)]
 ·show(if k=j/\i=n+m then _ else _)=_
  simp at hk
  have:j<H.length:=(List.getElem?_eq_some_iff.1 hj).1
  rw[if_neg (by omega)]
  exact hI.domT k i hk
 ·show(if j=j/\n+m=n+m then _ else _)=_
  rw[if_pos ⟨rfl,rfl⟩]
theorem grow_new {g:Gh} {H H':List Blk} {w:World} (hI:Inv g H w) {j n s cap:Nat} {vs:Array Value} (e:TypeId)
  (hj:(j=H.length/\H'=H++[.grow n s])\/(∃ n0,H[j]?=some (.grow n0 s)/\n0<n/\H'=H.set j (.grow n s)))
  (hn:n<=cap) (hcap:cap<=maxLen) (hv:vs.size=cap*s):
  ∃ g',Step H.length g w g' (w.drew.alloc (.cells vs e))/\Inv g' H' (w.drew.alloc (.cells vs e))/\g'.T j n=some (w.heap.size,cap)/\(∀ q u,q<n*s->vs[q]?=some u->g'.C w.heap.size q=some u):=by
 have hTn:∀ i,n<=i->g.T j i=none:=λi hi=>by
  rcases hj with ⟨rfl,_⟩|⟨n0,h1,h2,_⟩
  ·exact hI.domT _ _ (Nat.le_refl _)
  ·exact(hI.blk j _ h1).1 i (by omega)
 have hOn:g.O w.heap.size=none:=by
  cases e:g.O w.heap.size with
  |none=>rfl
  |some k=>have:=hI.lt _ _ e;omega
 have hCn:∀ q,g.C w.heap.size q=none:=λq=>by
  cases e:g.C w.heap.size q with
  |none=>rfl
  |some v=>
   have:=World.block_lt_of_cell? w _ (hI.C _ _ _ e)
   simp at this
 let g':Gh:={ g with C:=λc o=>if c=w.heap.size then (if o<n*s then vs[o]? else none)else g.C c o,T:=λk i=>if k=j/\i=n then some (w.heap.size,cap)else g.T k i,O:=λb=>if b=w.heap.size then some j else g.O b }
 have hle:g.le g':=by
  refine⟨λc o v h=>?_,λk i x h=>?_,λ_ _ h=>h,λc k h=>?_⟩
  ·show(if c=w.heap.size then _ else _)=_
   rw[if_neg (λq=>by rw[q,hCn o]at h;cases h)];exact h
  ·show(if k=j/\i=n then _ else _)=_
   rw[if_neg (λq=>by rw[q.1,q.2,hTn _ (Nat.le_refl _)]at h;cases h)];exact h
  ·show(if c=w.heap.size then _ else _)=_
   rw[if_neg (λq=>by rw[q,hOn]at h;cases h)];exact h
 have hold:∀ c,c<w.heap.size->(w.drew.alloc (.cells vs e)).heap[c]?=w.heap[c]?:=λc hc=>heap_alloc_old w.drew _ hc
 have hnew:(w.drew.alloc (.cells vs e)).heap[w.heap.size]?=some (.cells vs e (0,0)):=heap_alloc_new w.drew _
 have hsize:(w.drew.alloc (.cells vs e)).heap.size=w.heap.size+1:=Yv w.drew _
 have hlen:H.length<=H'.length/\j<H'.length:=by
  rcases hj with ⟨rfl,rfl⟩|⟨n0,h1,h2,rfl⟩
  ·simp
  ·simp;exact(List.getElem?_eq_some_iff.1 h1).1
 refine⟨g',⟨hle,λ_ _=>rfl,rfl,rfl,rfl,by rw[hsize];omega,λc hc _=>hold c hc,λc k h=>?_,λc o _ hc=>?_⟩,
  ⟨λc o v h=>?_,λk x hx=>?_,λk c h=>?_,λc k h=>?_,λk hk=>hI.domB k (by omega),λk i hk=>?_,λc k h=>?_⟩,?_,λq u hq hu=>?_⟩
 ·have h:(if c=w.heap.size then some j else g.O c)=some k:=h
  split at h
  ·exact .inr (by omega)
  ·exact .inl h
 ·show(if c=w.heap.size then _ else _)=_
  rw[if_neg (by omega)]
 ·have h:(if c=w.heap.size then (if o<n*s then vs[o]? else none)else g.C c o)=some v:=h
  split at h
  ·rename_i ec
   split at h
   ·rw[ec,Yt hnew];exact h
   ·cases h
  ·have h1:=hI.C c o v h
   have hlt:=World.block_lt_of_cell? w _ h1
   exact(World.cell?_of_block (w:=w) (w':=w.drew.alloc (.cells vs e)) (a:=⟨c,o,none⟩) (hold c hlt)).trans h1
 ·have hx':(k=j/\x=.grow n s)\/(k≠j/\H[k]?=some x):=by
   rcases hj with ⟨rfl,rfl⟩|⟨n0,h1,h2,rfl⟩
   ·by_cases hk:k=H.length
    ·subst hk;simp at hx;exact .inl ⟨rfl,hx.symm⟩
    ·have:k<H.length:=by
      have:=(List.getElem?_eq_some_iff.1 hx).1
      simp at this;omega
     rw[List.getElem?_append_left this]at hx
     exact .inr ⟨hk,hx⟩
   ·rcases Yi hx with ⟨rfl,rfl⟩|h
    ·exact .inl ⟨rfl,rfl⟩
    ·exact .inr h
  rcases hx' with ⟨rfl,rfl⟩|⟨hne,hx⟩
  ·refine⟨λn' hn'=>?_,λb' cap' h=>?_⟩
   ·show(if k=k/\n'=n then _ else _)=_
    rw[if_neg (by omega)];exact hTn n' (by omega)
   ·have h:(if k=k/\n=n then some (w.heap.size,cap)else g.T k n)=some (b',cap'):=h
    rw[if_pos ⟨rfl,rfl⟩]at h
    cases h
    refine⟨?_,⟨vs,e,hnew,hv⟩,hn,hcap,λo ho=>?_⟩
    ·show(if w.heap.size=w.heap.size then _ else _)=_
     rw[if_pos rfl]
    ·show(if w.heap.size=w.heap.size then _ else _)=_
     rw[if_pos rfl,if_neg (by omega)]
  ·refine(hI.blk k x hx).keep hle rfl (λi=>?_) (λc hc=>?_) hI.own
   ·show(if k=j/\i=n then _ else _)=_
    rw[if_neg (λq=>hne q.1)]
   ·have hlt:=hI.lt c k hc
    refine⟨hold c hlt,λq=>?_⟩
    show(if c=w.heap.size then _ else _)=_
    rw[if_neg (by omega)]
 ·show(if c=w.heap.size then _ else _)=_
  have h:g.B k=some c:=h
  have ho:=hI.own k c h
  rw[if_neg (λq=>by rw[q,hOn]at ho;cases ho)];exact ho
 ·have h:(if c=w.heap.size then some j else g.O c)=some k:=h
  rw[hsize]
  split at h
  ·omega
  ·have:=hI.lt c k h;omega
 ·show(if k=j/\i=n then _ else _)=_
  rw[if_neg (by omega)]
  exact hI.domT k i (by omega)
 ·have h:(if c=w.heap.size then some j else g.O c)=some k:=h
  split at h
  ·cases h;exact hlen.2
  ·have:=hI.domO c k h;omega
 ·show(if j=j/\n=n then _ else _)=_
  rw[if_pos ⟨rfl,rfl⟩]
 ·show(if w.heap.size=w.heap.size then _ else _)=_
  rw[if_pos rfl,if_pos hq];exact hu
theorem store_tgrow {g:Gh} {H:List Blk} {w:World} (hI:Inv g H w) {j n s b cap:Nat} {cs cs':List PV} {old vs':Array Value} {e:TypeId} (hj:H[j]?=some (.tgrow n s cs)) (hT:g.T j n=some (b,cap))
  (ho:w.heap[b]?=some (.cells old e (0,0))) (hl:LP g cs' vs') (hlen:cs'.length=cs.length) (hs:scL cs'=true) (hsz:vs'.size=old.size):Step H.length g w g (w.setRow b vs')/\Inv g (H.set j (.tgrow n s cs')) (w.setRow b vs'):=by
 obtain⟨hTn,hcl,_,hB⟩:=hI.blk j _ hj
 obtain⟨hO,⟨cur,e',hh,hcur,_⟩,hn,hcap,hC⟩:=hB b cap hT
 rw[ho]at hh
 cases hh
 refine⟨⟨.refl g,λ_ _=>rfl,rfl,rfl,rfl,by simp,λc hc h=>setRow_other w b c vs' (λe=>by subst e;rw[hO]at h;cases h),λc k h=>.inl h,λ_ _ _ _=>rfl⟩,
  ⟨λc o v h=>?_,λk x hx=>?_,hI.own,λc k h=>by simpa using hI.lt c k h,λk hk=>hI.domB k (by simpa using hk),λk i hk=>hI.domT k i (by simpa using hk),λc k h=>by simpa using hI.domO c k h⟩⟩
 ·refine Qw w ho vs' (hI.C c o v h) (λe=>?_)
  subst e;rw[hC]at h;cases h
 ·rcases Yi hx with ⟨rfl,rfl⟩|⟨hne,hx⟩
  ·refine⟨hTn,hlen.trans hcl,hs,λb' cap' h=>?_⟩
   rw[hT]at h
   cases h
   exact⟨hO,⟨vs',e,setRow_heap w b old vs' e (0,0) ho,hsz.trans hcur,hl⟩,hn,hcap,hC⟩
  ·refine(hI.blk k x hx).keep (.refl g) rfl (λ_=>rfl) (λc hc=>⟨setRow_other w b c vs' (λe=>?_),λ_=>rfl⟩) hI.own
   subst e;rw[hO]at hc;exact hne (Option.some.inj hc).symm
theorem scL_app {a b:List PV} (ha:scL a=true) (hb:scL b=true):scL (a++b)=true:=by
 unfold scL at *
 rw[List.all_append,ha,hb];rfl
theorem LP.app {g:Gh} {cs xs:List PV} {cur vs:Array Value} {cur':Array Value} (h:LP g cs cur) (k:LR g xs vs) (h1:∀ q,q<cs.length->cur'[q]?=cur[q]?) (h2:∀ q u,vs[q]?=some u->cur'[cs.length+q]?=some u) (hsz:cs.length+vs.size<=cur'.size):LP g (cs++xs) cur':=by
 refine⟨by simp[k.1];omega,λi p v hp hv=>?_⟩
 by_cases hi:i<cs.length
 ·rw[List.getElem?_append_left hi]at hp
  rw[h1 i hi]at hv
  exact h.2 i p v hp hv
 ·rw[List.getElem?_append_right (by omega)]at hp
  have hlt:i-cs.length<vs.size:=k.1▸(List.getElem?_eq_some_iff.1 hp).1
  have e:=h2 _ _ (Array.getElem?_eq_getElem hlt)
  rw[show cs.length+(i-cs.length)=i by omega,hv]at e
  cases e
  exact k.2 _ p _ hp (Array.getElem?_eq_getElem hlt)
theorem tgrow_in {g:Gh} {H:List Blk} {w:World} (hI:Inv g H w) {j n m s b cap:Nat} {cs xs:List PV} (hj:H[j]?=some (.tgrow n s cs)) (hT:g.T j n=some (b,cap)) {vs:Array Value} (hv:vs.size=m*s) (hm:0<m) (hc:n+m<=cap) (hx:LR g xs vs) (hs:scL xs=true):
  ∃ (cur:Array Value) (e:TypeId) (cur':Array Value) (g':Gh),w.heap[b]?=some (.cells cur e (0,0))/\n*s+vs.size<=cur.size/\cur'=(cur.toList.take (n*s)++vs.toList++cur.toList.drop (n*s+vs.size)).toArray/\
   Step H.length g w g' (w.setRow b cur')/\Inv g' (H.set j (.tgrow (n+m) s (cs++xs))) (w.setRow b cur')/\g'.T j (n+m)=some (b,cap):=by
 obtain⟨hTn,hcl,hsc,hB⟩:=hI.blk j _ hj
 obtain⟨hO,⟨cur,e,hh,hcur,hL⟩,hn,hcap,hC⟩:=hB b cap hT
 have hfit:n*s+vs.size<=cur.size:=by
  rw[hcur,hv,<-Nat.add_mul];exact Nat.mul_le_mul_right _ hc
 let cur':=(cur.toList.take (n*s)++vs.toList++cur.toList.drop (n*s+vs.size)).toArray
 have hsz:cur'.size=cur.size:=by simp[cur'];omega
 have hget:∀ q,q<n*s->cur'[q]?=cur[q]?:=λq hq=>by
  simp[cur']
  rw[List.getElem?_append_left (by simp;omega),List.getElem?_take,if_pos hq];simp
 have hnew:∀ q u,vs[q]?=some u->cur'[n*s+q]?=some u:=λq u hu=>by
  have hq:q<vs.size:=(Array.getElem?_eq_some_iff.1 hu).1
  simp[cur']
  rw[List.getElem?_append_right (by simp;omega),List.length_take,Array.length_toList,Nat.min_eq_left (by omega),show n*s+q-n*s=q by omega,List.getElem?_append_left (by simpa using hq)]
  simpa using hu
 let g':Gh:={ g with T:=λk i=>if k=j/\i=n+m then some (b,cap)else g.T k i }
 have hle:g.le g':=by
  refine⟨λc o v h=>h,λk i x h=>?_,λ_ _ h=>h,λ_ _ h=>h⟩
  show(if k=j/\i=n+m then _ else _)=_
  rw[if_neg (λq=>by rw[q.1,q.2,hTn _ (by omega)]at h;cases h)];exact h
 refine⟨cur,e,cur',g',hh,hfit,rfl,⟨hle,λ_ _=>rfl,rfl,rfl,rfl,by simp,λc hc h=>setRow_other w b c cur' (λe=>by subst e;rw[hO]at h;cases h),λc k h=>.inl h,λc o h _=>rfl⟩,
  ⟨λc o v h=>?_,λk x hx=>?_,hI.own,λc k h=>by simpa using hI.lt c k h,λk hk=>hI.domB k (by simpa using hk),λk i hk=>?_,λc k h=>by simpa using hI.domO c k h⟩,?_⟩
 ·refine Qw w hh cur' (hI.C c o v h) (λec=>?_)
  subst ec;rw[hC]at h;cases h
 ·rcases Yi hx with ⟨rfl,rfl⟩|⟨hne,hx⟩
  ·refine⟨λn' hn'=>?_,by rw[List.length_append,hcl,‹LR g xs vs›.1,hv,Nat.add_mul],scL_app hsc hs,λb' cap' h=>?_⟩
   ·show(if k=k/\n'=n+m then _ else _)=_
    rw[if_neg (by omega)];exact hTn n' (by omega)
   ·have h:(if k=k/\n+m=n+m then some (b,cap)else g.T k (n+m))=some (b',cap'):=h
    rw[if_pos ⟨rfl,rfl⟩]at h
    cases h
    refine⟨hO,⟨cur',e,setRow_heap w b cur cur' e (0,0) hh,by rw[hsz,hcur],LP.mono hle (hL.app ‹LR g xs vs› (by rw[hcl];exact hget) (by rw[hcl];exact hnew) (by rw[hcl,hsz];exact hfit))⟩,hc,hcap,hC⟩
  ·refine(hI.blk k x hx).keep hle rfl (λi=>?_) (λc hc=>?_) hI.own
   ·show(if k=j/\i=n+m then _ else _)=_
    rw[if_neg (λq=>hne q.1)]
   ·have hcb:c≠b:=λec=>by subst ec;rw[hO]at hc;exact hne (Option.some.inj hc).symm
    exact⟨setRow_other w b c cur' hcb,λq=>rfl⟩
 ·show(if k=j/\i=n+m then _ else _)=_
  simp at hk
  have:j<H.length:=(List.getElem?_eq_some_iff.1 hj).1
  rw[if_neg (by omega)]
  exact hI.domT k i hk
 ·show(if j=j/\n+m=n+m then _ else _)=_
  rw[if_pos ⟨rfl,rfl⟩]
theorem tgrow_new {g:Gh} {H:List Blk} {w:World} (hI:Inv g H w) {j n0 n s cap:Nat} {cs0 cs:List PV} {vs:Array Value} (e:TypeId)
  (hj:H[j]?=some (.tgrow n0 s cs0)) (hn0:n0<n) (hn:n<=cap) (hcap:cap<=maxLen) (hv:vs.size=cap*s) (hcl:cs.length=n*s) (hsc:scL cs=true) (hL:LP g cs vs):
  ∃ g',Step H.length g w g' (w.drew.alloc (.cells vs e))/\Inv g' (H.set j (.tgrow n s cs)) (w.drew.alloc (.cells vs e))/\g'.T j n=some (w.heap.size,cap):=by
 have hTn:∀ i,n<=i->g.T j i=none:=λi hi=>(hI.blk j _ hj).1 i (by omega)
 have hjl:j<H.length:=(List.getElem?_eq_some_iff.1 hj).1
 have hOn:g.O w.heap.size=none:=by
  cases e:g.O w.heap.size with
  |none=>rfl
  |some k=>have:=hI.lt _ _ e;omega
 have hCn:∀ q,g.C w.heap.size q=none:=λq=>by
  cases e:g.C w.heap.size q with
  |none=>rfl
  |some v=>
   have:=World.block_lt_of_cell? w _ (hI.C _ _ _ e)
   simp at this
 let g':Gh:={ g with T:=λk i=>if k=j/\i=n then some (w.heap.size,cap)else g.T k i,O:=λb=>if b=w.heap.size then some j else g.O b }
 have hle:g.le g':=by
  refine⟨λc o v h=>h,λk i x h=>?_,λ_ _ h=>h,λc k h=>?_⟩
  ·show(if k=j/\i=n then _ else _)=_
   rw[if_neg (λq=>by rw[q.1,q.2,hTn _ (Nat.le_refl _)]at h;cases h)];exact h
  ·show(if c=w.heap.size then _ else _)=_
   rw[if_neg (λq=>by rw[q,hOn]at h;cases h)];exact h
 have hold:∀ c,c<w.heap.size->(w.drew.alloc (.cells vs e)).heap[c]?=w.heap[c]?:=λc hc=>heap_alloc_old w.drew _ hc
 have hnew:(w.drew.alloc (.cells vs e)).heap[w.heap.size]?=some (.cells vs e (0,0)):=heap_alloc_new w.drew _
 have hsize:(w.drew.alloc (.cells vs e)).heap.size=w.heap.size+1:=Yv w.drew _
 refine⟨g',⟨hle,λ_ _=>rfl,rfl,rfl,rfl,by rw[hsize];omega,λc hc _=>hold c hc,λc k h=>?_,λc o _ hc=>rfl⟩,
  ⟨λc o v h=>?_,λk x hx=>?_,λk c h=>?_,λc k h=>?_,λk hk=>hI.domB k (by simpa using hk),λk i hk=>?_,λc k h=>?_⟩,?_⟩
 ·have h:(if c=w.heap.size then some j else g.O c)=some k:=h
  split at h
  ·exact .inr (by omega)
  ·exact .inl h
 ·have h1:=hI.C c o v h
  have hlt:=World.block_lt_of_cell? w _ h1
  exact(World.cell?_of_block (w:=w) (w':=w.drew.alloc (.cells vs e)) (a:=⟨c,o,none⟩) (hold c hlt)).trans h1
 ·rcases Yi hx with ⟨rfl,rfl⟩|⟨hne,hx⟩
  ·refine⟨λn' hn'=>?_,hcl,hsc,λb' cap' h=>?_⟩
   ·show(if k=k/\n'=n then _ else _)=_
    rw[if_neg (by omega)];exact hTn n' (by omega)
   ·have h:(if k=k/\n=n then some (w.heap.size,cap)else g.T k n)=some (b',cap'):=h
    rw[if_pos ⟨rfl,rfl⟩]at h
    cases h
    refine⟨?_,⟨vs,e,hnew,hv,hL.mono hle⟩,hn,hcap,λo=>hCn o⟩
    show(if w.heap.size=w.heap.size then _ else _)=_
    rw[if_pos rfl]
  ·refine(hI.blk k x hx).keep hle rfl (λi=>?_) (λc hc=>?_) hI.own
   ·show(if k=j/\i=n then _ else _)=_
    rw[if_neg (λq=>hne q.1)]
   ·have hlt:=hI.lt c k hc
    exact⟨hold c hlt,λq=>rfl⟩
 ·show(if c=w.heap.size then _ else _)=_
  have h:g.B k=some c:=h
  have ho:=hI.own k c h
  rw[if_neg (λq=>by rw[q,hOn]at ho;cases ho)];exact ho
 ·have h:(if c=w.heap.size then some j else g.O c)=some k:=h
  rw[hsize]
  split at h
  ·omega
  ·have:=hI.lt c k h;omega
 ·show(if k=j/\i=n then _ else _)=_
  simp at hk
  rw[if_neg (by omega)]
  exact hI.domT k i hk
 ·have h:(if c=w.heap.size then some j else g.O c)=some k:=h
  simp
  split at h
  ·cases h;exact hjl
  ·have:=hI.domO c k h;omega
 ·show(if j=j/\n=n then _ else _)=_
  rw[if_pos ⟨rfl,rfl⟩]
end Go.PE
