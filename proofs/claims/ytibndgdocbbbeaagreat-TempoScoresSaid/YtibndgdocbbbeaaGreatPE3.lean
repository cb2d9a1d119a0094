/- A part of the proof. -/
import Derived.Test.YtibndgdocbbbeaaGreatPE2
set_option linter.all false
namespace Go.PE
open Go.RowKit
theorem Ub {g:Gh} {v:Value} {p:PV} (h:ofCell v=some p):RV g p v:=by
 unfold ofCell at h
 by_cases hp:plainV v=true
 ·rw[if_pos hp]at h;cases h;exact .sc hp
 ·rw[if_neg hp]at h
  split at h
  ·cases h;exact .nilsl _ _
  ·cases h
theorem Wz {α β:Type} {f:α->Option β}:∀ {l:List α} {r:List β},l.mapM f=some r->l.length=r.length/\∀ (i:Nat) (a:α) (b:β),l[i]?=some a->r[i]?=some b->f a=some b
 |[],r,h=>by simp at h;subst h;simp
 |x::l,r,h=>by
  rw[List.mapM_cons]at h
  cases hx:f x with
  |none=>simp[hx]at h
  |some y=>
   cases hl:l.mapM f with
   |none=>simp[hx,hl]at h
   |some t=>
    simp[hx,hl]at h
    subst h
    obtain⟨h1,h2⟩:=Wz hl
    refine⟨by simp[h1],λi a b ha hb=>?_⟩
    cases i with
    |zero=>simp at ha hb;rw[<-ha,<-hb];exact hx
    |succ i=>simp at ha hb;exact h2 i a b ha hb
theorem ofV_sound {g:Gh} {v:Value} {p:PV} (h:ofV v=some p):RV g p v:=by
 unfold ofV at h
 split at h
 ·rename_i cs
  cases hm:cs.toList.mapM ofCell with
  |none=>simp[hm]at h
  |some l=>
   simp[hm]at h
   subst h
   obtain⟨h1,h2⟩:=Wz hm
   exact .agg (by simpa using h1.symm) λi p v hp hv=>Ub (h2 i v p (by simpa using hv) hp)
 ·cases h;exact .tup (by simp) (λi p v hp _=>by simp at hp)
 ·exact Ub h
def Xk:Operand->Option Opd
 |.tmp t=>some (.t t)
 |.const v=>(ofV v).map .c
 |.func f=>some (.c (.fn (.func f) [] []))
 |.global _=>none
theorem Xj {g:Gh} {env:List PV} {a:Act} (hE:LR g env a.tmps) {x:Operand} {y:Opd} (h:Xk x=some y):RV g (y.ev env) (a.eval x):=by
 cases x with
 |tmp t=>
  cases h
  simp only[Opd.ev,Act.eval]
  by_cases ht:t<env.length
  ·have h2:t<a.tmps.size:=hE.1▸ht
   rw[List.getElem?_eq_getElem ht]
   simp only[Option.getD_some,Array.getD,dif_pos h2]
   exact hE.2 t _ _ (List.getElem?_eq_getElem ht) (Array.getElem?_eq_getElem h2)
  ·rw[List.getElem?_eq_none (Nat.le_of_not_lt ht)]
   exact .any _
 |const v=>
  cases hv:ofV v with
  |none=>simp[Xk,hv]at h
  |some p=>simp[Xk,hv]at h;subst h;exact ofV_sound hv
 |func f=>cases h;exact .fn rfl rfl (λi x v h _=>by simp at h) (λi x v h _=>by simp at h)
 |global g=>cases h
theorem RV.one {g:Gh} {p:PV} {v:Value} (h:RV g p v) (hp:p.cellP=true):v.oneCell'=true:=by
 cases h with
 |sc h=>revert h;unfold plainV Value.oneCell';split<;>simp
 |any=>cases hp
 |agg=>cases hp
 |tup=>cases hp
 |_=>rfl
theorem RV.cellsLR {g:Gh} {p:PV} {v:Value} (h:RV g p v) (hp:p≠.any):LR g p.cells v.cells:=by
 have one:∀ {p:PV} {v:Value},RV g p v->LR g [p] #[v]:=λ{p v} h=>⟨rfl,λi q u hq hu=>by
  cases i with
  |zero=>simp at hq hu;subst hq;subst hu;exact h
  |succ i=>simp at hq⟩
 cases h with
 |any=>exact absurd rfl hp
 |agg hn h=>exact⟨hn,h⟩
 |sc h=>
  have:v.cells=#[v]:=by revert h;unfold plainV;split<;>simp[Value.cells]
  rw[this];exact one (.sc h)
 |tup hn h=>exact one (.tup hn h)
 |nilsl r s=>exact one (.nilsl r s)
 |em r s A h=>exact one (.em r s A h)
 |sl vf a b c d e f=>exact one (.sl vf a b c d e f)
 |ip vf a b=>exact one (.ip vf a b)
 |bp a=>exact one (.bp a)
 |fn a b c d=>exact one (.fn a b c d)
 |mp a=>exact one (.mp a)
 |bs a b c d e=>exact one (.bs a b c d e)
 |yl a=>exact one (.yl a)
 |tsn a=>exact one (.tsn a)
 |ts a p b c=>exact one (.ts a p b c)
 |tp a=>exact one (.tp a)
def Reads (g:Gh) (w:World) (b o:Nat) (cs:List PV):Prop:=∃ vf:Nat->Value,∀ j p,cs[j]?=some p->w.cell? ⟨b,o+j,none⟩=some (vf j)/\RV g p (vf j)
theorem Reads.drop {g:Gh} {w:World} {b o:Nat} {cs:List PV} (h:Reads g w b o cs) (n:Nat):Reads g w b (o+n) (cs.drop n):=by
 obtain⟨vf,h⟩:=h
 refine⟨λj=>vf (n+j),λj p hp=>?_⟩
 rw[List.getElem?_drop]at hp
 have:=h _ _ hp
 rwa [show o+n+j=o+(n+j) by omega]
theorem reads_ip {g:Gh} {H:List Blk} {w:World} (hI:Inv g H w) {cs:List PV} {v:Value} (h:RV g (.ip cs) v):∃ b o,v=.pointer (some ⟨b,o,none⟩)/\Reads g w b o cs:=by
 cases h with
 |ip vf hC hR=>exact⟨_,_,rfl,vf,λj p hp=>⟨hI.C _ _ _ (hC j p hp),hR j p hp⟩⟩
theorem Yt {w:World} {b o:Nat} {vs:Array Value} {e:TypeId} {fr:Nat×Nat} (h:w.heap[b]?=some (.cells vs e fr)):w.cell? ⟨b,o,none⟩=vs[o]?:=by simp[World.cell?,h]
theorem reads_bp {g:Gh} {H:List Blk} {w:World} (hI:Inv g H w) {k off:Nat} {cs:List PV} (hk:H[k]?=some (.cells cs)) {v:Value} (h:RV g (.bp k off) v):
  ∃ b,v=.pointer (some ⟨b,off,none⟩)/\Reads g w b off (cs.drop off):=by
 cases h with
 |bp hb=>
  refine⟨_,rfl,?_⟩
  rename_i b
  rcases hI.blk k _ hk with h1|⟨b',vs,e,h1,h2,h3,_⟩
  ·rw[hb]at h1;cases h1
  ·rw[hb]at h1
   obtain rfl:=Option.some.inj h1
   have:Reads g w b 0 cs:=by
    refine⟨λj=>(vs[j]?).getD undef,λj p hp=>?_⟩
    have hj:j<vs.size:=Nat.lt_of_lt_of_le (List.getElem?_eq_some_iff.1 hp).1 h3.1
    have e:vs[j]?=some ((vs[j]?).getD undef):=by rw[Array.getElem?_eq_getElem hj];rfl
    rw[Nat.zero_add,Yt h2]
    exact⟨e,h3.2 j p _ hp e⟩
   simpa using this.drop off
theorem scL_get {cs:List PV} (h:scL cs=true) {i:Nat} {p:PV} (hp:cs[i]?=some p):∃ v,p=.sc v/\plainV v=true:=by
 have:=List.all_eq_true.1 h p (List.mem_of_getElem? hp)
 cases p<;>first|exact⟨_,rfl,this⟩|cases this
theorem reads_tp {g:Gh} {H:List Blk} {w:World} (hI:Inv g H w) {k n s off:Nat} {cs:List PV} (hk:H[k]?=some (.tgrow n s cs)) {v:Value} (h:RV g (.tp k n off) v):
  ∃ b,v=.pointer (some ⟨b,off,none⟩)/\Reads g w b off (cs.drop off):=by
 cases h with
 |tp hb=>
  refine⟨_,rfl,?_⟩
  rename_i b cap
  obtain⟨_,_,_,h1⟩:=hI.blk k _ hk
  obtain⟨_,⟨vs,e,h2,_,h3⟩,_⟩:=h1 _ _ hb
  have:Reads g w b 0 cs:=by
   refine⟨λj=>(vs[j]?).getD undef,λj p hp=>?_⟩
   have hj:j<vs.size:=Nat.lt_of_lt_of_le (List.getElem?_eq_some_iff.1 hp).1 h3.1
   have e:vs[j]?=some ((vs[j]?).getD undef):=by rw[Array.getElem?_eq_getElem hj];rfl
   rw[Nat.zero_add,Yt h2]
   exact⟨e,h3.2 j p _ hp e⟩
  simpa using this.drop off
def agOf (P:Program) (t:TypeId):Option (Option Nat):=
 match P.underlying t with
 |some (.struct _)|some (.array _ _)=>(P.info? t).map λi=>some i.size
 |some _=>some none
 |none=>none
theorem isAgg_run {P:Program} {t:TypeId} {ag:Option Nat} (h:agOf P t=some ag) (w:World):(isAgg t).run P w=.ok ag.isSome w/\∀ n,ag=some n->(sizeOf t).run P w=.ok n w:=by
 unfold agOf at h
 unfold isAgg
 cases hu:P.underlying t with
 |none=>simp[hu]at h
 |some d=>
  rw[Sem.run_bind,run_underlying hu]
  cases hi:P.info? t with
  |none=>cases d<;>simp[hu,hi]at h<;>subst h<;>simp
  |some i=>cases d<;>simp[hu,hi]at h<;>subst h<;>simp[sizeOf,typeInfo,hi]
theorem Zz (b o n:Nat):(⟨b,o,none⟩:Addr).add n=⟨b,o+n,none⟩:=by unfold Addr.add;split<;>simp_all
theorem load_reads {P:Program} {g:Gh} {w:World} {b o:Nat} {cs:List PV} (h:Reads g w b o cs) {t:TypeId} {ag:Option Nat} (ha:agOf P t=some ag) {p:PV} (hp:Yy ag cs=some p):
  ∃ v,(loadVar t ⟨b,o,none⟩).run P w=.ok v w/\RV g p v:=by
 obtain⟨vf,h⟩:=h
 obtain⟨h1,h2⟩:=isAgg_run ha w
 cases ag with
 |none=>
  cases cs with
  |nil=>simp[Yy]at hp
  |cons c cs=>
   simp[Yy]at hp
   subst hp
   obtain⟨h3,h4⟩:=h 0 c rfl
   simp only[Nat.add_zero]at h3
   exact⟨_,by simp[loadVar,h1,h3],h4⟩
 |some n=>
  simp only[Yy]at hp
  split at hp
  case isFalse=>cases hp
  rename_i hn
  cases hp
  have hl:=run_loadCells (P:=P) w ⟨b,o,none⟩ n vf (λj hj=>by rw[Zz];exact(h j _ (List.getElem?_eq_getElem (show j<cs.length by omega))).1)
  refine⟨.agg ((List.range n).map vf).toArray,by simp[loadVar,h1,h2 n rfl,hl],.agg (by simp;omega) λi q v hq hv=>?_⟩
  have hi:i<n:=by
   rcases Nat.lt_or_ge i n with h|h
   ·exact h
   ·rw[List.getElem?_take,if_neg (by omega)]at hq;cases hq
  rw[List.getElem?_take,if_pos hi]at hq
  simp[hi]at hv
  subst hv
  exact(h i q hq).2
theorem LR.nil {g:Gh}:LR g [] #[]:=⟨rfl,λi p v h _=>by simp at h⟩
theorem cell_alloc {w:World} (o:Obj) {a:Addr} {v:Value} (h:w.cell? a=some v):(w.alloc o).cell? a=some v:=by
 have hlt:=World.block_lt_of_cell? w a h
 exact(World.cell?_of_block (heap_alloc_old w o hlt)).trans h
theorem BOk.alloc {g g':Gh} {w:World} (hg:g.le g') (o:Obj) {k:Nat} {x:Blk} (h:BOk g w k x) (hB:g'.B k=g.B k) (hT:∀ n,g'.T k n=g.T k n)
  (hC:∀ b o,b<w.heap.size->g'.C b o=g.C b o) (hlt:∀ b j,g.O b=some j->b<w.heap.size) (hown:∀ k b,g.B k=some b->g.O b=some k):BOk g' (w.alloc o) k x:=by
 cases x with
 |cells cs=>
  rcases h with h|⟨b,vs,e,h1,h2,h3,h4⟩
  ·exact .inl (hB.trans h)
  ·have hb:=hlt b k (hown k b h1)
   exact .inr ⟨b,vs,e,hB.trans h1,(heap_alloc_old w o hb).trans h2,h3.mono hg,λq=>(hC b q hb).trans (h4 q)⟩
 |map kl vals c=>
  rcases h with h|⟨b,es,h1,h2,h3,h4⟩
  ·exact .inl (hB.trans h)
  ·exact .inr ⟨b,es,hB.trans h1,(heap_alloc_old w o (hlt b k (hown k b h1))).trans h2,h3,h4.mono hg⟩
 |iter m since seen last=>
  rcases h with h|⟨b,bm,h1,h2,h3,h4⟩
  ·exact .inl (hB.trans h)
  ·exact .inr ⟨b,bm,hB.trans h1,h2,hg.B _ _ h3,(heap_alloc_old w o (hlt b k (hown k b h1))).trans h4⟩
 |grow n s=>
  refine⟨λn' hn=>(hT n').trans (h.1 n' hn),?_⟩
  intro b cap h1
  rw[hT]at h1
  obtain⟨h2,⟨vs,e,h3,h4⟩,h5,h6,h7⟩:=h.2 b cap h1
  have hb:=hlt b k h2
  exact⟨hg.O _ _ h2,⟨vs,e,(heap_alloc_old w o hb).trans h3,h4⟩,h5,h6,λq hq=>(hC b q hb).trans (h7 q hq)⟩
 |tgrow n s cs=>
  refine⟨λn' hn=>(hT n').trans (h.1 n' hn),h.2.1,h.2.2.1,?_⟩
  intro b cap h1
  rw[hT]at h1
  obtain⟨h2,⟨vs,e,h3,h4,h8⟩,h5,h6,h7⟩:=h.2.2.2 b cap h1
  have hb:=hlt b k h2
  exact⟨hg.O _ _ h2,⟨vs,e,(heap_alloc_old w o hb).trans h3,h4,h8.mono hg⟩,h5,h6,λq=>(hC b q hb).trans (h7 q)⟩
 |loop env ps ai bd cA cB st pend=>
  rcases h with h|⟨b,r,h1,h2,h3,h4,h5,h6,h7,h8⟩
  ·exact .inl (hB.trans h)
  ·exact .inr ⟨b,r,hB.trans h1,(heap_alloc_old w o (hlt b k (hown k b h1))).trans h2,h3,h4,h5,h6,h7,h8.mono hg⟩
theorem Yv (w:World) (o:Obj):(w.alloc o).heap.size=w.heap.size+1:=by show(w.heap.push o).size=_;simp
theorem new_blk {g:Gh} {H:List Blk} {w:World} (hI:Inv g H w) (x:Blk) (o:Obj)
  (hx:∀ g':Gh,g.le g'->g'.B H.length=some w.heap.size->(∀ q,g'.C w.heap.size q=none)->BOk g' (w.alloc o) H.length x):
  ∃ g',Step H.length g w g' (w.alloc o)/\Inv g' (H++[x]) (w.alloc o)/\g'.B H.length=some w.heap.size:=by
 let g':Gh:={ g with B:=λk=>if k=H.length then some w.heap.size else g.B k,O:=λb=>if b=w.heap.size then some H.length else g.O b }
 have hOn:g.O w.heap.size=none:=by
  cases e:g.O w.heap.size with
  |none=>rfl
  |some k=>have:=hI.lt _ _ e;omega
 have hCn:∀ b q,w.heap.size<=b->g.C b q=none:=λb q hb=>by
  cases e:g.C b q with
  |none=>rfl
  |some v=>
   have:=World.block_lt_of_cell? w _ (hI.C _ _ _ e)
   simp at this
   omega
 have hle:g.le g':=by
  refine⟨λ_ _ _ h=>h,λ_ _ _ h=>h,λk b h=>?_,λb k h=>?_⟩
  ·show(if k=H.length then _ else _)=_
   rw[if_neg (λe=>by rw[hI.domB k (by omega)]at h;cases h)];exact h
  ·show(if b=w.heap.size then _ else _)=_
   rw[if_neg (λe=>by subst e;rw[hOn]at h;cases h)];exact h
 have hB:g'.B H.length=some w.heap.size:=by show(if _ then _ else _)=_;rw[if_pos rfl]
 refine⟨g',⟨hle,λk hk=>(if_neg (by omega):(if k=H.length then some w.heap.size else g.B k)=g.B k),rfl,rfl,rfl,by rw[Yv];omega,λb hb _=>heap_alloc_old w o hb,λb k h=>?_,λ_ _ _ _=>rfl⟩,⟨λb q v h=>cell_alloc o (hI.C b q v h),λk y hy=>?_,λk b h=>?_,λb k h=>?_,λk hk=>?_,λk n hk=>?_,λb k h=>?_⟩,hB⟩
 ·have h:(if b=w.heap.size then some H.length else g.O b)=some k:=h
  split at h
  ·exact .inr (by omega)
  ·exact .inl h
 ·by_cases hk:k=H.length
  ·subst hk
   simp at hy
   subst hy
   exact hx g' hle hB (λq=>hCn _ q (Nat.le_refl _))
  ·have hlt:k<H.length:=by
    have:=(List.getElem?_eq_some_iff.1 hy).1
    simp at this
    omega
   rw[List.getElem?_append_left hlt]at hy
   exact(hI.blk k y hy).alloc hle o (by show(if k=H.length then _ else _)=_;rw[if_neg hk]) (λ_=>rfl) (λ_ _ _=>rfl) hI.lt hI.own
 ·have h:(if k=H.length then some w.heap.size else g.B k)=some b:=h
  show(if b=w.heap.size then some H.length else g.O b)=some k
  split at h
  ·rename_i e;cases h;rw[if_pos rfl,e]
  ·have ho:=hI.own k b h
   rw[if_neg (λe=>by subst e;rw[hOn]at ho;cases ho)]
   exact ho
 ·have h:(if b=w.heap.size then some H.length else g.O b)=some k:=h
  rw[Yv]
  split at h
  ·omega
  ·have:=hI.lt b k h;omega
 ·show(if k=H.length then some w.heap.size else g.B k)=none
  simp at hk
  rw[if_neg (by omega)]
  exact hI.domB k (by omega)
 ·simp at hk;exact hI.domT k n (by omega)
 ·have h:(if b=w.heap.size then some H.length else g.O b)=some k:=h
  simp
  split at h
  ·cases h;omega
  ·have:=hI.domO b k h;omega
theorem new_cells {g:Gh} {H:List Blk} {w:World} (hI:Inv g H w) {cs:List PV} {vs:Array Value} (h:LR g cs vs) (e:TypeId):
  ∃ g',Step H.length g w g' (w.alloc (.cells vs e))/\Inv g' (H++[.cells cs]) (w.alloc (.cells vs e))/\g'.B H.length=some w.heap.size:=
 new_blk hI _ _ (λ_ hg hB hC=>.inr ⟨_,vs,e,hB,heap_alloc_new w _,(h.mono hg).lp,hC⟩)
theorem new_cellsP {g:Gh} {H:List Blk} {w:World} (hI:Inv g H w) {cs:List PV} {vs:Array Value} (h:LP g cs vs) (e:TypeId):
  ∃ g',Step H.length g w g' (w.alloc (.cells vs e))/\Inv g' (H++[.cells cs]) (w.alloc (.cells vs e))/\g'.B H.length=some w.heap.size:=
 new_blk hI _ _ (λ_ hg hB hC=>.inr ⟨_,vs,e,hB,heap_alloc_new w _,h.mono hg,hC⟩)
theorem new_map {g:Gh} {H:List Blk} {w:World} (hI:Inv g H w):
  ∃ g',Step H.length g w g' (w.alloc (.map #[] 0))/\Inv g' (H++[.map [] [] 0]) (w.alloc (.map #[] 0))/\g'.B H.length=some w.heap.size:=
 new_blk hI _ _ (λ_ _ hB _=>.inr ⟨_,#[],hB,heap_alloc_new w _,by simp,by simp,λi p v h _=>by simp at h⟩)
theorem new_iter {g:Gh} {H:List Blk} {w:World} (hI:Inv g H w) {m bm:Nat} (hm:m<H.length) (hb:g.B m=some bm) (since last:Nat):
  ∃ g',Step H.length g w g' (w.alloc (.mapIter (some bm) since #[] last))/\Inv g' (H++[.iter m since [] last]) (w.alloc (.mapIter (some bm) since #[] last))/\g'.B H.length=some w.heap.size:=
 new_blk hI _ _ (λ_ hg hB _=>.inr ⟨_,bm,hB,hm,hg.B _ _ hb,heap_alloc_new w _⟩)
theorem new_loop {g:Gh} {H:List Blk} {w:World} (hI:Inv g H w) {env:List PV} (r:Loop) (ai bd:AC) (h:LR g env r.tmps):
  ∃ g',Step H.length g w g' (w.alloc (.loop r))/\Inv g' (H++[.loop env r.params ai bd r.assign r.body r.state r.pending]) (w.alloc (.loop r))/\g'.B H.length=some w.heap.size:=
 new_blk hI _ _ (λ_ hg hB _=>.inr ⟨_,r,hB,heap_alloc_new w _,rfl,rfl,rfl,rfl,rfl,h.mono hg⟩)
theorem new_row {g:Gh} {H:List Blk} {w:World} (hI:Inv g H w) (vs:Array Value) (e:TypeId):
  ∃ g',Step H.length g w g' (w.alloc (.cells vs e))/\Inv g' H (w.alloc (.cells vs e))/\∀ q,g'.C w.heap.size q=vs[q]?:=by
 let g':Gh:={ g with C:=λb q=>if b=w.heap.size then vs[q]? else g.C b q }
 have hOn:g.O w.heap.size=none:=by
  cases e:g.O w.heap.size with
  |none=>rfl
  |some k=>have:=hI.lt _ _ e;omega
 have hle:g.le g':=by
  refine⟨λb q v h=>?_,λ_ _ _ h=>h,λk b h=>h,λb k h=>h⟩
  show(if b=w.heap.size then _ else _)=_
  rw[if_neg (λe=>?_)]
  ·exact h
  ·have:=World.block_lt_of_cell? w _ (hI.C _ _ _ h)
   simp at this
   omega
 refine⟨g',⟨hle,λ_ _=>rfl,rfl,rfl,rfl,by rw[Yv];omega,λb hb _=>heap_alloc_old w _ hb,λb k h=>.inl h,λb q _ hb=>?_⟩,⟨λb q v h=>?_,λk y hy=>?_,hI.own,λb k h=>?_,hI.domB,hI.domT,hI.domO⟩,λq=>?_⟩
 ·show(if b=w.heap.size then _ else _)=_
  rw[if_neg (by omega)]
 ·have h:(if b=w.heap.size then vs[q]? else g.C b q)=some v:=h
  split at h
  ·rename_i eb
   rw[eb,Yt (heap_alloc_new w _)];exact h
  ·exact cell_alloc _ (hI.C b q v h)
 ·exact(hI.blk k y hy).alloc hle _ rfl (λ_=>rfl) (λb q hb=>by show(if b=w.heap.size then _ else _)=_;rw[if_neg (by omega)]) hI.lt hI.own
 ·have:=hI.lt b k h
  rw[Yv]
  omega
 ·show(if w.heap.size=w.heap.size then _ else _)=_
  rw[if_pos rfl]
end Go.PE
