/- A part of the proof. -/
import Derived.Test.YtibndgdocbbbeaaGreatPE5
set_option linter.all false
namespace Go.PE
open Go.RowKit
section
variable {P:Program} {g:Gh} {H:List Blk} {w:World} {t tx ty e:TypeId} {i:TypeInfo} {z:Value}
theorem map_get' {α β:Type} {f:α->β} {l:List α} {i:Nat} {y:β} (h:(l.map f)[i]?=some y):∃ x,l[i]?=some x/\f x=y:=by
 rw[List.getElem?_map]at h
 cases hx:l[i]? with
 |none=>simp[hx]at h
 |some x=>simp[hx]at h;exact⟨x,rfl,h⟩
def ViewOk (g:Gh) (w:World) (v:Value) (nl:Bool) (r:Right) (s:Nat) (es:List (List PV)):Prop:=
 (nl=true/\es=[]/\v=.slice none 0 0)\/(nl=false/\es=[]/\r.isOwn=false/\∃ A,v=.slice (some A) 0 0)\/(nl=false/\∃ b o cap vs,v=.slice (some ⟨b,o,none⟩) es.length cap/\es.length<=cap/\cap<=maxLen/\(∀ (i:Nat) (e:List PV),es[i]?=some e->e.length=s)/\LR g es.flatten vs/\
  (∀ q u,vs[q]?=some u->w.cell? ⟨b,o+q,none⟩=some u)/\(match r with|.no=>True|.full=>cap=es.length|.own j=>RV g (.sl false (.own j) s es) v))
theorem chunk_flat {cs:List PV} {off s:Nat}:∀ {n:Nat},off+n*s<=cs.length->((List.range n).map λi=>(cs.drop (off+i*s)).take s).flatten=(cs.drop off).take (n*s)
 |0,_=>by simp
 |n+1,h=>by
  rw[List.range_succ,List.map_append,List.flatten_append,chunk_flat (n:=n) (by rw[Nat.add_mul]at h;omega)]
  simp only[List.map_cons,List.map_nil,List.flatten_cons,List.flatten_nil,List.append_nil]
  rw[Nat.add_mul,Nat.one_mul,List.take_add,List.drop_drop]
theorem Vf (hI:Inv g H w) {p:PV} {v:Value} (h:RV g p v) {nl:Bool} {r:Right} {s:Nat} {es:List (List PV)} (hv:Zr H p=some (nl,r,s,es)):ViewOk g w v nl r s es:=by
 unfold Zr at hv
 split at hv
 ·rename_i nl' r' s' es'
  simp only[Option.some.injEq,Prod.mk.injEq]at hv
  obtain⟨rfl,rfl,rfl,rfl⟩:=hv
  cases nl' with
  |true=>cases h with|nilsl=>exact .inl ⟨rfl,rfl,rfl⟩
  |false=>
   rcases sl_cells h with ⟨rfl,hro,A,rfl⟩|⟨b,o,cap,vs,rfl,h1,h2,hs,hl,hC,hr⟩
   ·exact .inr (.inl ⟨rfl,rfl,hro,A,rfl⟩)
   refine .inr (.inr ⟨rfl,b,o,cap,vs,rfl,h1,h2,hs,hl,λq u hu=>hI.C _ _ _ (hC q u hu),?_⟩)
   cases r' with
   |no=>trivial
   |full=>exact hr
   |own j=>exact h
 ·rename_i k off n s' full
  split at hv
  case h_2=>cases hv
  rename_i cs hk
  split at hv
  case isFalse=>cases hv
  rename_i hfit
  simp only[Option.some.injEq,Prod.mk.injEq]at hv
  obtain⟨rfl,rfl,rfl,rfl⟩:=hv
  cases h with
  |@bs _ _ _ _ b o cap _ hb hn hm hf ho=>
   have hlen:((List.range n).map λi=>(cs.drop (off+i*s')).take s').length=n:=by simp
   rcases hI.blk k _ hk with h1|⟨b',vs,e,h1,h2,h3,_⟩
   ·rw[hb]at h1;cases h1
   ·rw[hb]at h1
    obtain rfl:=Option.some.inj h1
    refine .inr (.inr ⟨rfl,b,o,cap,(vs.extract off (off+n*s')),by rw[hlen],by rw[hlen];exact hn,hm,λi e he=>?_,?_,λq u hu=>?_,?_⟩)
    ·obtain⟨j,hj,rfl⟩:=map_get' he
     have hji:j<n:=by have:=List.mem_of_getElem? hj;simpa using this
     have:off+j*s'+s'<=off+n*s':=by
      have:(j+1)*s'<=n*s':=Nat.mul_le_mul_right _ (by omega)
      rw[Nat.add_mul]at this;omega
     simp;omega
    ·rw[chunk_flat hfit]
     have hle:=h3.1
     have hm1:min (n*s') (cs.length-off)=n*s':=by omega
     have hm2:min (off+n*s') vs.size-off=n*s':=by omega
     refine⟨by simp[hm1,hm2],λi p u hp hu=>?_⟩
     have hi:i<n*s':=by
      rcases Nat.lt_or_ge i (n*s')with h|h
      ·exact h
      ·rw[List.getElem?_take,if_neg (by omega)]at hp;cases hp
     rw[List.getElem?_take,if_pos hi,List.getElem?_drop]at hp
     rw[Array.getElem?_extract,if_pos (by omega)]at hu
     exact h3.2 _ p u hp hu
    ·have hq:q<(vs.extract off (off+n*s')).size:=(Array.getElem?_eq_some_iff.1 hu).1
     have hn0:0<n:=by
      rcases Nat.eq_zero_or_pos n with h0|h0
      ·subst h0;simp at hq;omega
      ·exact h0
     rw[ho hn0,Yt h2]
     rw[Array.getElem?_extract,if_pos (by simp at hq;omega)]at hu
     exact hu
    ·cases full with
     |false=>trivial
     |true=>simp only[if_true];rw[hlen];exact hf rfl
 ·cases hv
theorem sl_src (htx:∃ e',P.underlying tx=some (.slice e')) {r:Right} {s:Nat} {xs:List (List PV)} {v:Value} (h:ViewOk g w v false r s xs) (hc:xs.all (·.all PV.cellP)=true):
  ∃ news:Array Value,Src P s tx v xs.length news.toList w/\LR g xs.flatten news:=by
 rcases h with ⟨h,_⟩|⟨_,rfl,_,A,rfl⟩|⟨_,b,o,cap,vs,rfl,h1,h2,hs,hl,hC,_⟩
 ·cases h
 ·have f0:=λw=>run_firstCells_some (P:=P) w s 0 A 0 0 [] (by simp) (λj u hu=>by simp at hu)
  exact⟨#[],⟨.inl htx,λw'=>rfl,f0 w,f0 w.drew,by simp,λu hu=>by simp at hu⟩,LR.nil⟩
 have hlen:vs.toList.length=xs.length*s:=by rw[Array.length_toList,<-hl.1,Ze hs]
 have hcell:∀ j u,vs.toList[j]?=some u->w.cell? ((⟨b,o,none⟩:Addr).add j)=some u:=λj u hu=>by
  rw[Zz];exact hC j u (by simpa using hu)
 refine⟨vs,⟨.inl htx,λw'=>rfl,run_firstCells_some w s xs.length _ _ _ vs.toList hlen hcell,run_firstCells_some w.drew s xs.length _ _ _ vs.toList hlen hcell,hlen,hl.one ?_⟩,hl⟩
 rw[List.all_eq_true]at hc ⊢
 intro p hp
 obtain⟨x,hx,hp⟩:=List.mem_flatten.1 hp
 exact List.all_eq_true.1 (hc x hx) p hp
theorem run_append_in (ht:P.underlying t=some (.slice e)) (hi:P.info? e=some i) {x:Value} {n:Nat} {news:List Value} (hs:Src P i.size tx x n news w)
  {b sLen sCap:Nat} {cur:Array Value} {e':TypeId} (hg:w.heap[b]?=some (.cells cur e' (0,0))) (hroom:sLen+n<=sCap) (hfit:sLen*i.size+news.length<=cur.size):
  (Builtin.append_ #[t,tx] ty #[.slice (some ⟨b,0,none⟩) sLen sCap,x]).run P w =
   .ok (.slice (some ⟨b,0,none⟩) (sLen+n) sCap) (w.setRow b (cur.toList.take (sLen*i.size)++news++cur.toList.drop (sLen*i.size+news.length)).toArray):=by
 have hst:=run_storeCells_at (P:=P) b (sLen*i.size) e' news 0 cur w hg (by simpa using hfit) hs.one
 simp only[Nat.add_zero]at hst
 rcases hs.kind with ⟨e',hk⟩|hk<;>simp[Builtin.append_,run_underlying ht,run_underlying hk,sizeOf,typeInfo,hi,hs.len,hroom,hs.cells,Addr.add_lit,hst]
theorem run_append_zero (ht:P.underlying t=some (.slice e)) (htx:∃ e',P.underlying tx=some (.slice e')) (hi:P.info? e=some i) {base:Option Addr} {n cap:Nat} (hc:n<=cap) {a:Option Addr} {c:Nat}:
  (Builtin.append_ #[t,tx] ty #[.slice base n cap,.slice a 0 c]).run P w=.ok (.slice base n cap) w:=by
 obtain⟨e',hk⟩:=htx
 have hf:(Builtin.firstCells i.size 0 (.slice a 0 c)).run P w=.ok #[] w:=by
  cases a with
  |none=>exact run_firstCells_none w _ _ _ _
  |some a=>exact run_firstCells_some w i.size 0 a 0 c [] (by simp) (by simp)
 cases base with
 |none=>simp[Builtin.append_,run_underlying ht,run_underlying hk,sizeOf,typeInfo,hi,Builtin.lenOf,hc,hf]
 |some b=>simp[Builtin.append_,run_underlying ht,run_underlying hk,sizeOf,typeInfo,hi,Builtin.lenOf,hc,hf,storeCells]
theorem flat_app {s:Nat} {es xs:List (List PV)} (h:∀ (i:Nat) (e:List PV),es[i]?=some e->e.length=s) (k:∀ (i:Nat) (e:List PV),xs[i]?=some e->e.length=s):∀ (i:Nat) (e:List PV),(es++xs)[i]?=some e->e.length=s:=by
 intro i e he
 by_cases hi:i<es.length
 ·rw[List.getElem?_append_left hi]at he;exact h i e he
 ·rw[List.getElem?_append_right (by omega)]at he;exact k _ e he
theorem append_new (hI:Inv g H w) (ht:P.underlying t=some (.slice e)) (hi:P.info? e=some i) (hz:i.zero=some z) (hzs:z.cells.size=i.size)
  {es xs:List (List PV)} {base:Option Addr} {cap:Nat} {olds:Array Value} (hold:LR g es.flatten olds) (hes:∀ (i':Nat) (e:List PV),es[i']?=some e->e.length=i.size)
  (hcells:(Builtin.firstCells i.size es.length (.slice base es.length cap)).run P w.drew=.ok olds w.drew)
  {x:Value} {news:Array Value} (hx:Src P i.size tx x xs.length news.toList w) (hl:LR g xs.flatten news) (hxs:∀ (i':Nat) (e:List PV),xs[i']?=some e->e.length=i.size)
  (hg:cap<es.length+xs.length) (hb:(es.length+xs.length)*i.bytes<=140737488355328) (hb0:0<i.bytes) {j:Nat} {H':List Blk}
  (hj:(j=H.length/\H'=H++[.grow (es.length+xs.length) i.size])\/(∃ n0,H[j]?=some (.grow n0 i.size)/\n0<es.length+xs.length/\H'=H.set j (.grow (es.length+xs.length) i.size))):
  ∃ v w' g',(Builtin.append_ #[t,tx] ty #[.slice base es.length cap,x]).run P w=.ok v w'/\Step H.length g w g' w'/\Inv g' H' w'/\RV g' (.sl false (.own j) i.size (es++xs)) v:=by
 have h63:es.length+xs.length<=140737488355328:=Nat.le_trans (Nat.le_mul_of_pos_right _ hb0) hb
 have hrun:=run_append_grow_src (P:=P) w t tx ty e i z ht hi hz base es.length cap olds.toList (by simpa using hcells) x xs.length news.toList hx hg (by omega)
  (growslice_fits hg (by omega))
 have hge:=grownCap_ge w (es.length+xs.length) cap e
 have hle:=grownCap_le_maxLen w (es.length+xs.length) cap e (by unfold maxLen;omega)
 generalize hcap:grownCap w (es.length+xs.length) cap e=C at *
 have hsz:((olds.toList++news.toList).toArray++Builtin.zeroCells z.cells (C-(es.length+xs.length))).size=C*i.size:=by
  rw[Array.size_append,size_zeroCells,hzs]
  have h1:(olds.toList++news.toList).toArray.size=(es.length+xs.length)*i.size:=by
   simp only[List.size_toArray,List.length_append,Array.length_toList]
   rw[<-hold.1,<-hl.1,Ze hes,Ze hxs,Nat.add_mul]
  rw[h1,<-Nat.add_mul];congr 1;omega
 obtain⟨g',hS,hI',hT,hC⟩:=grow_new hI e hj hge hle hsz
 refine⟨_,_,g',hrun,hS,hI',?_⟩
 have hlen:(es++xs).length=es.length+xs.length:=List.length_append
 have hfl:(olds++news).size=(es.length+xs.length)*i.size:=by
  rw[Array.size_append,<-hold.1,<-hl.1,Ze hes,Ze hxs,Nat.add_mul]
 rw[<-hlen]
 refine sl_of (vs:=olds++news) (by omega) hle (flat_app hes hxs) ?_ (λq u hu=>?_) (.inr ⟨rfl,by rw[hlen];exact hT⟩)
 ·rw[List.flatten_append];exact(hold.append hl).mono hS.le
 ·have hq:q<(olds++news).size:=(Array.getElem?_eq_some_iff.1 hu).1
  rw[Nat.zero_add]
  refine hC q u (by omega) ?_
  rw[Array.getElem?_append_left (by simp at hq ⊢;omega)]
  have e1:(olds.toList++news.toList).toArray=olds++news:=by apply Array.ext';simp
  rw[e1];exact hu
theorem append_sound (hI:Inv g H w) (ht:P.underlying t=some (.slice e)) (htx:∃ e',P.underlying tx=some (.slice e')) (hi:P.info? e=some i) (hz:i.zero=some z) (hzs:z.cells.size=i.size)
  {sp xp p:PV} {sv xv:Value} {H':List Blk} (hs:RV g sp sv) (hx:RV g xp xv) (h:Wj H i.size i.bytes sp xp=some (p,H')):
  ∃ v w' g',(Builtin.append_ #[t,tx] ty #[sv,xv]).run P w=.ok v w'/\Step H.length g w g' w'/\Inv g' H' w'/\RV g' p v:=by
 unfold Wj at h
 split at h
 case h_2=>cases h
 rename_i nl r sz es nl' r' sx xs hvs hvx
 have hVs:=Vf hI hs hvs
 have hVx:=Vf hI hx hvx
 split at h
 ·rename_i he
  have he:xs=[]:=by simpa using he
  subst he
  cases h
  have hxv:∃ a c,xv=.slice a 0 c:=by
   rcases hVx with ⟨_,_,rfl⟩|⟨_,_,_,A,rfl⟩|⟨_,b,o,cap,vs,rfl,_⟩<;>exact⟨_,_,rfl⟩
  obtain⟨a,c,rfl⟩:=hxv
  have hsv:∃ base n cap,sv=.slice base n cap/\n<=cap:=by
   rcases hVs with ⟨_,_,rfl⟩|⟨_,_,_,A,rfl⟩|⟨_,b,o,cap,vs,rfl,hc,_⟩
   ·exact⟨_,_,_,rfl,Nat.le_refl _⟩
   ·exact⟨_,_,_,rfl,Nat.le_refl _⟩
   ·exact⟨_,_,_,rfl,hc⟩
  obtain⟨base,n,cap,rfl,hc⟩:=hsv
  exact⟨_,w,g,run_append_zero ht htx hi hc,.refl _ g w,hI,hs⟩
 rename_i hne
 split at h
 case isFalse=>cases h
 rename_i hc
 simp only[Bool.and_eq_true,beq_iff_eq,decide_eq_true_eq,Bool.or_eq_true]at hc
 obtain⟨⟨⟨⟨rfl,hsz⟩,hb⟩,hb0⟩,hall⟩:=hc
 have hpos:0<xs.length:=by cases xs<;>simp at hne ⊢
 have hnl':nl'=false:=by
  rcases hVx with ⟨_,h0,_⟩|⟨h0,_⟩|⟨h0,_⟩
  ·subst h0;simp at hpos
  ·exact h0
  ·exact h0
 subst hnl'
 obtain⟨news,hsrc,hl⟩:=sl_src (P:=P) htx hVx hall
 have hxs:∀ (i':Nat) (e:List PV),xs[i']?=some e->e.length=i.size:=by
  rcases hVx with ⟨h0,_⟩|⟨_,h0,_⟩|⟨_,b,o,cap,vs,_,_,_,h0,_⟩
  ·cases h0
  ·subst h0;simp at hpos
  ·exact h0
 cases nl with
 |true=>
  rcases hVs with ⟨_,rfl,rfl⟩|⟨h0,_⟩|⟨h0,_⟩
  case inr.inl=>cases h0
  case inr.inr=>cases h0
  have key:∀ (j:Nat) (H':List Blk),((j=H.length/\H'=H++[.grow xs.length i.size])\/(∃ n0,H[j]?=some (.grow n0 i.size)/\n0<xs.length/\H'=H.set j (.grow xs.length i.size)))->
    ∃ v w' g',(Builtin.append_ #[t,tx] ty #[.slice none 0 0,xv]).run P w=.ok v w'/\Step H.length g w g' w'/\Inv g' H' w'/\RV g' (.sl false (.own j) i.size xs) v:=by
   intro j H' hj
   have:=append_new (P:=P) (ty:=ty) (base:=none) (cap:=0) (es:=[]) (olds:=#[]) hI ht hi hz hzs LR.nil (λi e h=>by simp at h) (run_firstCells_none w.drew _ _ _ _) hsrc hl hxs (by simpa using hpos) (by simpa using hb) hb0 (j:=j) (H':=H') (by simpa using hj)
   simpa using this
  cases r with
  |own j=>
   simp only at h
   split at h
   case h_2=>cases h
   rename_i n s' hj
   split at h
   case isFalse=>cases h
   rename_i hn
   obtain⟨rfl,rfl⟩:=hn
   cases h
   exact key j _ (.inr ⟨0,hj,hpos,rfl⟩)
  |no=>cases h;exact key _ _ (.inl ⟨rfl,rfl⟩)
  |full=>cases h;exact key _ _ (.inl ⟨rfl,rfl⟩)
 |false=>
  rcases hVs with ⟨h0,_⟩|⟨_,rfl,hro,A,rfl⟩|⟨_,b,o,cap,olds,rfl,h1,h2,hes0,hlo,hC,hr⟩
  ·cases h0
  ·cases r with
   |no=>simp at h
   |own j=>cases hro
   |full=>
    simp only at h
    cases h
    have:=append_new (P:=P) (ty:=ty) (base:=some A) (cap:=0) (es:=[]) (olds:=#[]) hI ht hi hz hzs LR.nil (λi e h=>by simp at h) (run_firstCells_some (P:=P) w.drew i.size 0 A 0 0 [] (by simp) (λj u hu=>by simp at hu)) hsrc hl hxs (by simpa using hpos) (by simpa using hb) hb0 (j:=H.length) (H':=_) (.inl ⟨rfl,rfl⟩)
    simpa using this
  have hes:∀ (i':Nat) (e:List PV),es[i']?=some e->e.length=i.size:=by
   rcases hsz with rfl|h0
   ·exact hes0
   ·have:es=[]:=by simpa using h0
    subst this;intro i e h;simp at h
  have hcells:(Builtin.firstCells i.size es.length (.slice (some ⟨b,o,none⟩) es.length cap)).run P w.drew=.ok olds w.drew:=by
   have:=run_firstCells_some (P:=P) w.drew i.size es.length ⟨b,o,none⟩ es.length cap olds.toList (by rw[Array.length_toList,<-hlo.1,Ze hes]) (λj u hu=>by
    rw[Zz];exact hC j u (by simpa using hu))
   simpa using this
  have key:=λ(hg:cap<es.length+xs.length) j H' hj=>append_new (P:=P) (ty:=ty) (base:=some ⟨b,o,none⟩) (cap:=cap) (es:=es) (olds:=olds) hI ht hi hz hzs hlo hes hcells hsrc hl hxs hg hb hb0 (j:=j) (H':=H') hj
  cases r with
  |no=>simp at h
  |full=>
   simp only at h
   cases h
   have hr:cap=es.length:=hr
   exact key (by omega) _ _ (.inl ⟨rfl,rfl⟩)
  |own j=>
   simp only at h
   split at h
   case h_2=>cases h
   rename_i n s' hj
   split at h
   case isFalse=>cases h
   rename_i hn
   obtain⟨rfl,rfl⟩:=hn
   cases h
   rcases sl_cells hr with ⟨_,h0,_⟩|⟨b',o',cap',olds',e',h1',h2',_,hlo',hC',hr'⟩
   ·cases h0
   simp only[Value.slice.injEq,Option.some.injEq,Addr.mk.injEq,and_true,true_and]at e'
   obtain⟨⟨rfl,rfl⟩,rfl⟩:=e'
   rcases hr' with ⟨hr',_⟩|⟨rfl,hT⟩
   ·exact key (by omega) _ _ (.inr ⟨es.length,hj,by omega,rfl⟩)
   by_cases hroom:es.length+xs.length<=cap
   ·have hnews:news.size=xs.length*i.size:=by rw[<-hl.1,Ze hxs]
    obtain⟨cur,e',cur',g',hh,hfit,hcur',hS,hI',hT',hC2⟩:=grow_in hI hj hT hnews hpos hroom
    have hrun:=run_append_in (P:=P) (ty:=ty) ht hi hsrc hh hroom (by simpa using hfit)
    refine⟨_,_,g',hrun,?_⟩
    have e1:(cur.toList.take (es.length*i.size)++news.toList++cur.toList.drop (es.length*i.size+news.toList.length)).toArray=cur':=by rw[hcur'];simp
    rw[e1]
    refine⟨hS,hI',?_⟩
    have hlen:(es++xs).length=es.length+xs.length:=List.length_append
    rw[<-hlen]
    refine sl_of (vs:=olds'++news) (by omega) h2 (flat_app hes hxs) (by rw[List.flatten_append];exact(hlo'.append hl).mono hS.le) (λq u hu=>?_) (.inr ⟨rfl,by rw[hlen];exact hT'⟩)
    by_cases hq:q<olds'.size
    ·rw[Array.getElem?_append_left hq]at hu
     exact hS.le.C _ _ _ (hC' q u hu)
    ·rw[Array.getElem?_append_right (by omega)]at hu
     have:=hC2 _ _ hu
     rw[<-Ze hes,hlo'.1,show olds'.size+(q-olds'.size)=q by omega]at this
     rwa [Nat.zero_add]
   ·exact key (by omega) _ _ (.inr ⟨es.length,hj,by omega,rfl⟩)
theorem appendM_new (hI:Inv g H w) (ht:P.underlying t=some (.slice e)) (hi:P.info? e=some i) (hz:i.zero=some z) (hzs:z.cells.size=i.size)
  {es xs:List (List PV)} {base:Option Addr} {cap:Nat} {olds:Array Value} (hold:LR g es.flatten olds) (hes:∀ (i':Nat) (e:List PV),es[i']?=some e->e.length=i.size)
  (hcells:(Builtin.firstCells i.size es.length (.slice base es.length cap)).run P w.drew=.ok olds w.drew)
  {x:Value} {news:Array Value} (hx:Src P i.size tx x xs.length news.toList w) (hl:LR g xs.flatten news) (hxs:∀ (i':Nat) (e:List PV),xs[i']?=some e->e.length=i.size)
  (hg:cap<es.length+xs.length) (hb:(es.length+xs.length)*i.bytes<=140737488355328) (hb0:0<i.bytes):
  ∃ v w' g',(Builtin.append_ #[t,tx] ty #[.slice base es.length cap,x]).run P w=.ok v w'/\Step H.length g w g' w'/\Inv g' (H++[.cells (es++xs).flatten]) w'/\RV g' (.bs H.length 0 (es.length+xs.length) i.size false) v:=by
 have h63:es.length+xs.length<=140737488355328:=Nat.le_trans (Nat.le_mul_of_pos_right _ hb0) hb
 have hrun:=run_append_grow_src (P:=P) w t tx ty e i z ht hi hz base es.length cap olds.toList (by simpa using hcells) x xs.length news.toList hx hg (by omega)
  (growslice_fits hg (by omega))
 have hge:=grownCap_ge w (es.length+xs.length) cap e
 have hle:=grownCap_le_maxLen w (es.length+xs.length) cap e (by unfold maxLen;omega)
 generalize hcap:grownCap w (es.length+xs.length) cap e=C at *
 have hI1:Inv g H w.drew:=⟨hI.C,λk x hx=>by
  have:=hI.blk k x hx
  cases x<;>exact this,hI.own,hI.lt,hI.domB,hI.domT,hI.domO⟩
 have hS1:Step H.length g w g w.drew:=⟨.refl g,λ_ _=>rfl,rfl,rfl,rfl,Nat.le_refl _,λ_ _ _=>rfl,λ_ _ h=>.inl h,λ_ _ _ _=>rfl⟩
 have e1:(olds.toList++news.toList).toArray=olds++news:=by apply Array.ext';simp
 have hLR:LR g (es++xs).flatten (olds++news):=by rw[List.flatten_append];exact hold.append hl
 have hLP:LP g (es++xs).flatten ((olds.toList++news.toList).toArray++Builtin.zeroCells z.cells (C-(es.length+xs.length))):=by
  rw[e1]
  refine⟨by rw[hLR.1];simp,λq p v hp hv=>hLR.2 q p v hp ?_⟩
  have hq:q<(olds++news).size:=hLR.1▸(List.getElem?_eq_some_iff.1 hp).1
  rwa [Array.getElem?_append_left hq]at hv
 obtain⟨g',hS,hI',hB⟩:=new_cellsP hI1 hLP e
 refine⟨_,_,g',hrun,hS1.trans hS (Nat.le_refl _),hI',?_⟩
 exact .bs hB hge hle (λh=>by cases h) (λ_=>rfl)
theorem appendM_sound0 (hI:Inv g H w) (ht:P.underlying t=some (.slice e)) (htx:∃ e',P.underlying tx=some (.slice e')) (hi:P.info? e=some i) (hz:i.zero=some z) (hzs:z.cells.size=i.size)
  {sp xp p:PV} {sv xv:Value} {H':List Blk} (hs:RV g sp sv) (hx:RV g xp xv) (h:Vx H i.size i.bytes sp xp=some (p,H')):
  ∃ v w' g',(Builtin.append_ #[t,tx] ty #[sv,xv]).run P w=.ok v w'/\Step H.length g w g' w'/\Inv g' H' w'/\RV g' p v:=by
 unfold Vx at h
 split at h
 case h_2=>cases h
 rename_i nl r sz es nl' r' sx xs hvs hvx
 have hVs:=Vf hI hs hvs
 have hVx:=Vf hI hx hvx
 split at h
 ·rename_i he
  have he:xs=[]:=by simpa using he
  subst he
  cases h
  have hxv:∃ a c,xv=.slice a 0 c:=by
   rcases hVx with ⟨_,_,rfl⟩|⟨_,_,_,A,rfl⟩|⟨_,b,o,cap,vs,rfl,_⟩<;>exact⟨_,_,rfl⟩
  obtain⟨a,c,rfl⟩:=hxv
  have hsv:∃ base n cap,sv=.slice base n cap/\n<=cap:=by
   rcases hVs with ⟨_,_,rfl⟩|⟨_,_,_,A,rfl⟩|⟨_,b,o,cap,vs,rfl,hc,_⟩
   ·exact⟨_,_,_,rfl,Nat.le_refl _⟩
   ·exact⟨_,_,_,rfl,Nat.le_refl _⟩
   ·exact⟨_,_,_,rfl,hc⟩
  obtain⟨base,n,cap,rfl,hc⟩:=hsv
  exact⟨_,w,g,run_append_zero ht htx hi hc,.refl _ g w,hI,hs⟩
 rename_i hne
 split at h
 case isFalse=>cases h
 rename_i hc
 simp only[Bool.and_eq_true,beq_iff_eq,decide_eq_true_eq,Bool.or_eq_true]at hc
 obtain⟨⟨⟨⟨⟨rfl,hsz⟩,hb⟩,hb0⟩,_⟩,hall⟩:=hc
 have hpos:0<xs.length:=by cases xs<;>simp at hne ⊢
 have hnl':nl'=false:=by
  rcases hVx with ⟨_,h0,_⟩|⟨h0,_⟩|⟨h0,_⟩
  ·subst h0;simp at hpos
  ·exact h0
  ·exact h0
 subst hnl'
 obtain⟨news,hsrc,hl⟩:=sl_src (P:=P) htx hVx hall
 have hxs:∀ (i':Nat) (e:List PV),xs[i']?=some e->e.length=i.size:=by
  rcases hVx with ⟨h0,_⟩|⟨_,h0,_⟩|⟨_,b,o,cap,vs,_,_,_,h0,_⟩
  ·cases h0
  ·subst h0;simp at hpos
  ·exact h0
 cases nl with
 |true=>
  rcases hVs with ⟨_,rfl,rfl⟩|⟨h0,_⟩|⟨h0,_⟩
  case inr.inl=>cases h0
  case inr.inr=>cases h0
  cases h
  have:=appendM_new (P:=P) (ty:=ty) (base:=none) (cap:=0) (es:=[]) (olds:=#[]) hI ht hi hz hzs LR.nil (λi e h=>by simp at h) (run_firstCells_none w.drew _ _ _ _) hsrc hl hxs (by simpa using hpos) (by simpa using hb) hb0
  simpa using this
 |false=>
  rcases hVs with ⟨h0,_⟩|⟨_,rfl,hro,A,rfl⟩|⟨_,b,o,cap,olds,rfl,h1,h2,hes0,hlo,hC,hr⟩
  ·cases h0
  ·cases r with
   |no=>cases h
   |own j=>cases h
   |full=>
    cases h
    have:=appendM_new (P:=P) (ty:=ty) (base:=some A) (cap:=0) (es:=[]) (olds:=#[]) hI ht hi hz hzs LR.nil (λi e h=>by simp at h) (run_firstCells_some (P:=P) w.drew i.size 0 A 0 0 [] (by simp) (λj u hu=>by simp at hu)) hsrc hl hxs (by simpa using hpos) (by simpa using hb) hb0
    simpa using this
  have hes:∀ (i':Nat) (e:List PV),es[i']?=some e->e.length=i.size:=by
   rcases hsz with rfl|h0
   ·exact hes0
   ·have:es=[]:=by simpa using h0
    subst this;intro i e h;simp at h
  have hcells:(Builtin.firstCells i.size es.length (.slice (some ⟨b,o,none⟩) es.length cap)).run P w.drew=.ok olds w.drew:=by
   have:=run_firstCells_some (P:=P) w.drew i.size es.length ⟨b,o,none⟩ es.length cap olds.toList (by rw[Array.length_toList,<-hlo.1,Ze hes]) (λj u hu=>by
    rw[Zz];exact hC j u (by simpa using hu))
   simpa using this
  cases r with
  |full=>
   cases h
   have hr:cap=es.length:=hr
   exact appendM_new (P:=P) (ty:=ty) (base:=some ⟨b,o,none⟩) (cap:=cap) (es:=es) (olds:=olds) hI ht hi hz hzs hlo hes hcells hsrc hl hxs (by omega) hb hb0
  |no=>cases h
  |own j=>cases h
theorem scL_cellP {cs:List PV} (h:scL cs=true):cs.all PV.cellP=true:=List.all_eq_true.2 λp hp=>by
 have:=List.all_eq_true.1 h p hp
 cases p<;>first|rfl|cases this
theorem appendT_new (hI:Inv g H w) (ht:P.underlying t=some (.slice e)) (hi:P.info? e=some i) (hz:i.zero=some z) (hzs:z.cells.size=i.size) {n j:Nat}
  {cs:List PV} {xs:List (List PV)} {base:Option Addr} {cap:Nat} {olds:Array Value} (hold:LR g cs olds) (hcs:cs.length=n*i.size) (hsc:scL cs=true)
  (hcells:(Builtin.firstCells i.size n (.slice base n cap)).run P w.drew=.ok olds w.drew)
  {x:Value} {news:Array Value} (hx:Src P i.size tx x xs.length news.toList w) (hl:LR g xs.flatten news) (hxs:∀ (i':Nat) (e:List PV),xs[i']?=some e->e.length=i.size) (hsx:scL xs.flatten=true)
  (hg:cap<n+xs.length) (hb:(n+xs.length)*i.bytes<=140737488355328) (hb0:0<i.bytes) (hpos:0<xs.length) (hj:H[j]?=some (.tgrow n i.size cs)):
  ∃ v w' g',(Builtin.append_ #[t,tx] ty #[.slice base n cap,x]).run P w=.ok v w'/\Step H.length g w g' w'/\Inv g' (H.set j (.tgrow (n+xs.length) i.size (cs++xs.flatten))) w'/\RV g' (.ts j (n+xs.length) i.size) v:=by
 have h63:n+xs.length<=140737488355328:=Nat.le_trans (Nat.le_mul_of_pos_right _ hb0) hb
 have hrun:=run_append_grow_src (P:=P) w t tx ty e i z ht hi hz base n cap olds.toList (by simpa using hcells) x xs.length news.toList hx hg (by omega)
  (growslice_fits hg (by omega))
 have hge:=grownCap_ge w (n+xs.length) cap e
 have hle:=grownCap_le_maxLen w (n+xs.length) cap e (by unfold maxLen;omega)
 generalize hcap:grownCap w (n+xs.length) cap e=C at *
 have e1:(olds.toList++news.toList).toArray=olds++news:=by apply Array.ext';simp
 have h1:(olds.toList++news.toList).toArray.size=(n+xs.length)*i.size:=by
  rw[e1,Array.size_append,<-hold.1,<-hl.1,hcs,Ze hxs,Nat.add_mul]
 have hsz:((olds.toList++news.toList).toArray++Builtin.zeroCells z.cells (C-(n+xs.length))).size=C*i.size:=by
  rw[Array.size_append,size_zeroCells,hzs,h1,<-Nat.add_mul];congr 1;omega
 have hLR:LR g (cs++xs.flatten) (olds++news):=hold.append hl
 have hLP:LP g (cs++xs.flatten) ((olds.toList++news.toList).toArray++Builtin.zeroCells z.cells (C-(n+xs.length))):=by
  rw[e1]
  refine⟨by simp[hLR.1]<;>omega,λq p v hp hv=>hLR.2 q p v hp ?_⟩
  have hq:q<(olds++news).size:=hLR.1▸(List.getElem?_eq_some_iff.1 hp).1
  rwa [Array.getElem?_append_left hq]at hv
 obtain⟨g',hS,hI',hT⟩:=tgrow_new (cs:=cs++xs.flatten) hI e hj (by omega) hge hle hsz (by rw[List.length_append,hcs,Ze hxs,Nat.add_mul]) (scL_app hsc hsx) hLP
 exact⟨_,_,g',hrun,hS,hI',.ts hT (by omega) hge hle⟩
theorem appendT_sound (hI:Inv g H w) (ht:P.underlying t=some (.slice e)) (htx:∃ e',P.underlying tx=some (.slice e')) (hi:P.info? e=some i) (hz:i.zero=some z) (hzs:z.cells.size=i.size) {j n zz:Nat}
  {xp p:PV} {sv xv:Value} {H':List Blk} (hs:RV g (.ts j n zz) sv) (hx:RV g xp xv) (h:appendT H i.size i.bytes j n zz xp=some (p,H')):
  ∃ v w' g',(Builtin.append_ #[t,tx] ty #[sv,xv]).run P w=.ok v w'/\Step H.length g w g' w'/\Inv g' H' w'/\RV g' p v:=by
 unfold appendT at h
 split at h
 case h_2=>cases h
 rename_i nl r sx xs hvx
 split at h
 case isFalse=>cases h
 rename_i hc
 simp only[Bool.and_eq_true,beq_iff_eq,decide_eq_true_eq,Bool.not_eq_true']at hc
 obtain⟨⟨⟨⟨⟨rfl,rfl⟩,hne⟩,hb⟩,hb0⟩,hsx⟩:=hc
 split at h
 case h_2=>cases h
 rename_i n' s' cs hj
 split at h
 case isFalse=>cases h
 rename_i hn'
 obtain⟨rfl,rfl⟩:=hn'
 cases h
 have hVx:=Vf hI hx hvx
 have hpos:0<xs.length:=by cases xs<;>simp at hne ⊢
 have hnl:nl=false:=by
  rcases hVx with ⟨_,h0,_⟩|⟨h0,_⟩|⟨h0,_⟩
  ·subst h0;simp at hpos
  ·exact h0
  ·exact h0
 subst hnl
 have hall:xs.all (·.all PV.cellP)=true:=by
  have:=scL_cellP hsx
  rw[List.all_eq_true]at this ⊢
  intro e he
  rw[List.all_eq_true]
  intro p hp
  exact this p (List.mem_flatten.2 ⟨e,he,hp⟩)
 obtain⟨news,hsrc,hl⟩:=sl_src (P:=P) htx hVx hall
 have hxs:∀ (i':Nat) (e:List PV),xs[i']?=some e->e.length=i.size:=by
  rcases hVx with ⟨h0,_⟩|⟨_,h0,_⟩|⟨_,b,o,cap,vs,_,_,_,h0,_⟩
  ·cases h0
  ·subst h0;simp at hpos
  ·exact h0
 obtain⟨_,hcl,hsc,hB⟩:=hI.blk j _ hj
 cases hs with
 |tsn h0=>
  subst h0
  have hcs:cs=[]:=by simpa using hcl
  subst hcs
  exact appendT_new (P:=P) (ty:=ty) (base:=none) (cap:=0) (olds:=#[]) hI ht hi hz hzs LR.nil (by simp) rfl (run_firstCells_none w.drew _ _ _ _) hsrc hl hxs hsx (by omega) hb hb0 hpos hj
 |@ts _ _ _ b cap hT hp hn hm=>
  obtain⟨_,⟨vs,e2,hh,hvs,hL⟩,_,_,_⟩:=hB b cap hT
  by_cases hroom:n'+xs.length<=cap
  ·have hnews:news.size=xs.length*i.size:=by rw[<-hl.1,Ze hxs]
   obtain⟨cur,e',cur',g',hh',hfit,hcur',hS,hI',hT'⟩:=tgrow_in hI hj hT hnews hpos hroom hl hsx
   have hrun:=run_append_in (P:=P) (ty:=ty) ht hi hsrc hh' hroom (by simpa using hfit)
   refine⟨_,_,g',hrun,?_⟩
   have e1:(cur.toList.take (n'*i.size)++news.toList++cur.toList.drop (n'*i.size+news.toList.length)).toArray=cur':=by rw[hcur'];simp
   rw[e1]
   exact⟨hS,hI',.ts hT' (by omega) hroom hm⟩
  ·have hle:=hL.1
   have hcells:(Builtin.firstCells i.size n' (.slice (some ⟨b,0,none⟩) n' cap)).run P w.drew=.ok (vs.extract 0 cs.length) w.drew:=by
    have:=run_firstCells_some (P:=P) w.drew i.size n' ⟨b,0,none⟩ n' cap (vs.extract 0 cs.length).toList (by simp;omega) (λq u hu=>by
     rw[Zz,Nat.zero_add]
     show w.cell? ⟨b,q,none⟩=some u
     rw[Yt hh]
     have hq:q<cs.length:=by
      have:=(List.getElem?_eq_some_iff.1 hu).1
      simp at this;omega
     rw[Array.getElem?_toList,Array.getElem?_extract,if_pos (by omega),Nat.zero_add]at hu
     exact hu)
    rwa [Array.toArray_toList]at this
   refine appendT_new (P:=P) (ty:=ty) (olds:=vs.extract 0 cs.length) hI ht hi hz hzs ⟨by simp;omega,λq p u hp hu=>?_⟩ hcl hsc hcells hsrc hl hxs hsx (by omega) hb hb0 hpos hj
   have hq:q<cs.length:=(List.getElem?_eq_some_iff.1 hp).1
   rw[Array.getElem?_extract,if_pos (by omega),Nat.zero_add]at hu
   exact hL.2 q p u hp hu
theorem appendM_sound (hI:Inv g H w) (ht:P.underlying t=some (.slice e)) (htx:∃ e',P.underlying tx=some (.slice e')) (hi:P.info? e=some i) (hz:i.zero=some z) (hzs:z.cells.size=i.size)
  {sp xp p:PV} {sv xv:Value} {H':List Blk} (hs:RV g sp sv) (hx:RV g xp xv) (h:appendQ H i.size i.bytes sp xp=some (p,H')):
  ∃ v w' g',(Builtin.append_ #[t,tx] ty #[sv,xv]).run P w=.ok v w'/\Step H.length g w g' w'/\Inv g' H' w'/\RV g' p v:=by
 cases sp<;>first|exact appendT_sound hI ht htx hi hz hzs hs hx h|exact appendM_sound0 hI ht htx hi hz hzs hs hx h
end
end Go.PE
