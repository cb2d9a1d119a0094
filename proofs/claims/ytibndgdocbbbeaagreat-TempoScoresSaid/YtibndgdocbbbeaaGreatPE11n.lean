/- A part of the proof. -/
import Derived.Test.YtibndgdocbbbeaaGreatPE11m
import Derived.Laws.IdiomStrings
import Derived.Laws.MakeOwn
set_option linter.all false
namespace Go.PE
open Go.RowKit
section
variable {P:Program} {g:Gh} {H:List Blk} {w:World}
theorem inv_drew {g:Gh} {H:List Blk} {w:World} (hI:Inv g H w) (n:Nat):Inv g H { w with drawn:=n }:=by
 refine⟨hI.C,λk x hx=>?_,hI.own,hI.lt,hI.domB,hI.domT,hI.domO⟩
 have:=hI.blk k x hx
 cases x<;>exact this
theorem step_drew {m:Nat} {g g':Gh} {w w':World} (h:Step m g w g' w') (n:Nat):Step m g w g' { w' with drawn:=n }:=⟨h.le,h.B,h.os,h.tape,h.output,h.size,h.block,h.O,h.C⟩
theorem new_rowF (hI:Inv g H w) (vs:Array Value) (e:TypeId) (fr:Nat×Nat):
  ∃ g',Step H.length g w g' (w.drew.alloc (.cells vs e fr))/\Inv g' H (w.drew.alloc (.cells vs e fr))/\∀ q,g'.C w.heap.size q=vs[q]?:=by
 let g':Gh:={ g with C:=λb q=>if b=w.heap.size then vs[q]? else g.C b q }
 have hle:g.le g':=by
  refine⟨λb q v h=>?_,λ_ _ _ h=>h,λk b h=>h,λb k h=>h⟩
  show(if b=w.heap.size then _ else _)=_
  rw[if_neg (λe=>?_)]
  ·exact h
  ·have:=World.block_lt_of_cell? w _ (hI.C _ _ _ h)
   simp at this
   omega
 have hold:∀ c,c<w.heap.size->(w.drew.alloc (.cells vs e fr)).heap[c]?=w.heap[c]?:=λc hc=>heap_alloc_old w.drew _ hc
 have hnew:(w.drew.alloc (.cells vs e fr)).heap[w.heap.size]?=some (.cells vs e fr):=heap_alloc_new w.drew _
 have hsize:(w.drew.alloc (.cells vs e fr)).heap.size=w.heap.size+1:=Yv w.drew _
 refine⟨g',⟨hle,λ_ _=>rfl,rfl,rfl,rfl,by rw[hsize];omega,λb hb _=>hold b hb,λb k h=>.inl h,λb q _ hb=>?_⟩,⟨λb q v h=>?_,λk y hy=>?_,hI.own,λb k h=>?_,hI.domB,hI.domT,hI.domO⟩,λq=>?_⟩
 ·show(if b=w.heap.size then _ else _)=_
  rw[if_neg (by omega)]
 ·have h:(if b=w.heap.size then vs[q]? else g.C b q)=some v:=h
  split at h
  ·rename_i eb
   rw[eb,Yt hnew];exact h
  ·have h1:=hI.C b q v h
   exact(World.cell?_of_block (w:=w) (w':=w.drew.alloc (.cells vs e fr)) (a:=⟨b,q,none⟩) (hold b (World.block_lt_of_cell? w _ h1))).trans h1
 ·refine(hI.blk k y hy).keep hle rfl (λ_=>rfl) (λb hb=>⟨hold b (hI.lt b k hb),λq=>?_⟩) hI.own
  show(if b=w.heap.size then _ else _)=_
  rw[if_neg (by have:=hI.lt b k hb;omega)]
 ·have:=hI.lt b k h
  rw[hsize]
  omega
 ·show(if w.heap.size=w.heap.size then _ else _)=_
  rw[if_pos rfl]
theorem out_strBytes (hI:Inv g H w) {src dst e:TypeId} {s:ByteArray} (hs:P.underlying src=some .string) (hd:P.underlying dst=some (.slice e)) (he:P.underlying e=some (.int .u8)) (hl:s.size<=1000000000):
  ∃ v w' g',(convert src dst (.string s)).run P w=.ok v w'/\Step H.length g w g' w'/\Inv g' H w'/\RV g' (.sl false .no 1 (s.data.toList.map λb=>[.sc (.int .u8 b.toNat)])) v:=by
 have hrun:=run_bytes_of_string (P:=P) w src dst e s hs hd he
 have hge:=grownCap_ge w s.size 0 e
 have hle:=grownCap_le_maxLen w s.size 0 e (by unfold maxLen;omega)
 generalize grownCap w s.size 0 e=cap at *
 obtain⟨g',h1,h2,h3⟩:=new_rowF hI (bytesRow s cap) e ((bytesRow s cap).size,(bytesRow s cap).size+1)
 have hlen:(s.data.toList.map λb=>[PV.sc (.int .u8 b.toNat)]).length=s.size:=by simp
 refine⟨_,_,g',hrun,h1,h2,?_⟩
 rw[<-hlen]
 refine .sl (s:=1) (λi j=>((s.data.toList[i]?).map λb=>Value.int .u8 b.toNat).getD undef) (by rw[hlen];exact hge) hle (λi e he=>?_) (λi j e p he hp=>?_) (λi j e p he hp=>?_) trivial
 ·obtain⟨b,_,rfl⟩:=map_get' he;rfl
 ·obtain⟨b,hb,rfl⟩:=map_get' he
  have hj:j=0:=by have:=(List.getElem?_eq_some_iff.1 hp).1;simpa using this
  subst hj
  have hi:i<s.data.size:=by have:=(List.getElem?_eq_some_iff.1 hb).1;simpa using this
  rw[h3,hb]
  simp only[Option.map_some,Option.getD_some,Nat.mul_one,Nat.add_zero,Nat.zero_add]
  unfold bytesRow
  rw[Array.getElem?_append_left (by simpa using hi)]
  have hb':s.data[i]?=some b:=by simpa using hb
  simp[hb']
 ·obtain⟨b,hb,rfl⟩:=map_get' he
  have hj:j=0:=by have:=(List.getElem?_eq_some_iff.1 hp).1;simpa using this
  subst hj
  simp at hp
  subst hp
  rw[hb]
  exact .sc rfl
theorem byteP_form {e:List PV} {b:UInt8} (h:byteP e=some b):e=[.sc (.int .u8 b.toNat)]:=by
 unfold byteP at h
 split at h
 ·rename_i n
  split at h
  ·rename_i hn
   cases h
   have:(UInt8.ofNat n.toNat).toNat=n.toNat:=by
    rw[UInt8.toNat_ofNat'];omega
   rw[this]
   congr 3
   omega
  ·cases h
 ·cases h
theorem out_bytesStr (hI:Inv g H w) {src dst e:TypeId} (hs:P.underlying src=some (.slice e)) (he:P.underlying e=some (.int .u8)) (hd:P.underlying dst=some .string) {p:PV} {v:Value} (h:RV g p v) {nl:Bool} {r:Right} {sz:Nat} {es:List (List PV)} (hv:Zr H p=some (nl,r,sz,es)) {l:List UInt8} (hl:es.mapM byteP=some l):
  (convert src dst v).run P w=.ok (.string ⟨l.toArray⟩) w:=by
 obtain⟨m1,m2⟩:=Wz hl
 rcases Vf hI h hv with ⟨_,rfl,rfl⟩|⟨_,rfl,_,A,rfl⟩|⟨_,b,o,cap,vs,rfl,h1,h2,h3,h4,h5,_⟩
 ·have:l=[]:=List.eq_nil_of_length_eq_zero (by simpa using m1.symm)
  subst this
  simp[convert,run_underlying hs,run_underlying hd,run_underlying he,Conv.bytesToString]
  rfl
 ·have:l=[]:=List.eq_nil_of_length_eq_zero (by simpa using m1.symm)
  subst this
  exact run_convert_bytes_back (P:=P) w src dst e A 0 [] hs he hd λj hj=>by simp at hj
 ·rw[m1]
  have hone:∀ (i:Nat) (e:List PV),es[i]?=some e->e.length=1:=λi e he=>by
   have hi:i<l.length:=m1▸(List.getElem?_eq_some_iff.1 he).1
   rw[byteP_form (m2 i e _ he (List.getElem?_eq_getElem hi))];rfl
  refine run_convert_bytes_back (P:=P) w src dst e ⟨b,o,none⟩ cap l hs he hd λj hj=>?_
  have hje:j<es.length:=m1▸hj
  have hb:=byteP_form (m2 j es[j] l[j] (List.getElem?_eq_getElem hje) (List.getElem?_eq_getElem hj))
  have hp:=flat_put hone j 0 es[j] (.sc (.int .u8 l[j].toNat)) (List.getElem?_eq_getElem hje) (by rw[hb];rfl)
  simp only[Nat.mul_one,Nat.add_zero]at hp
  have hjv:j<vs.size:=h4.1▸(List.getElem?_eq_some_iff.1 hp).1
  have:=(Yr (h4.2 j _ vs[j] hp (Array.getElem?_eq_getElem hjv))).1
  rw[Zz,h5 j vs[j] (Array.getElem?_eq_getElem hjv),this]
theorem made_LR {z:List PV} {zv:Array Value} (h:LR g z zv) (n:Nat):LR g ((List.range n).map λi=>(z[i%z.length]?).getD .any) (madeCells zv n):=by
 refine⟨by simp[madeCells],λi p v hp hv=>?_⟩
 obtain⟨j,hj,rfl⟩:=map_get' hp
 have hji:j=i/\i<n:=by
  rw[List.getElem?_range]at hj
  ·simp at hj;have:=(List.getElem?_eq_some_iff.1 hp).1;simp at this;exact⟨hj.symm,this⟩
  ·have:=(List.getElem?_eq_some_iff.1 hp).1;simpa using this
 obtain⟨rfl,hin⟩:=hji
 cases hz:z[j%z.length]? with
 |none=>exact .any _
 |some q=>
  have hlt:j%z.length<zv.size:=h.1▸(List.getElem?_eq_some_iff.1 hz).1
  simp only[madeCells,Array.getElem?_map]at hv
  rw[Array.getElem?_range]at hv
  simp only[hin,if_true,Option.map_some,Option.some.injEq]at hv
  subst hv
  rw[<-h.1,getElem!_pos zv _ hlt]
  exact h.2 _ q _ hz (Array.getElem?_eq_getElem hlt)
theorem out_mkSl (hI:Inv g H w) {t e:TypeId} {i:TypeInfo} {zv:Value} {z:List PV} (ht:P.underlying t=some (.slice e)) (hi:P.info? e=some i) (hz:i.zero=some zv) (hzc:∀ g,LR g z zv.cells) (hzs:zv.cells.size=i.size) {lp cp:PV} {lv cv:Value} {l c:Int}
  (hl:RV g lp lv) (hc:RV g cp cv) (hl':lp.asI=some l) (hc':cp.asI=some c) (h0:0<=l) (hlc:l<=c) (hb:(i.bytes:Int)*c<=281474976710656) (h63:c<=9223372036854775807):
  ∃ v w' g',(Instr.makeSlice t lv cv).run P w=.ok v w'/\Step H.length g w g' w'/\
   (if l=0 then Inv g' (H++[.grow 0 i.size]) w'/\RV g' (.sl false (.own H.length) i.size []) v
    else Inv g' (H++[.cells ((List.range (c.toNat*i.size)).map λj=>(z[j%z.length]?).getD .any)]) w'/\RV g' (.bs H.length 0 l.toNat i.size (l==c)) v):=by
 obtain⟨kl,rfl⟩:=Zp hl hl'
 obtain⟨kc,rfl⟩:=Zp hc hc'
 have hrun:=run_make (P:=P) w t e i zv ht hi hz kl kc l c h0 hlc hb h63
 have hcm:c.toNat<=maxLen:=by unfold maxLen;omega
 by_cases hl0:l=0
 ·subst hl0
  obtain⟨g',h1,h2,h3,_⟩:=grow_new hI (j:=H.length) (n:=0) (s:=i.size) (cap:=c.toNat) (vs:=madeCells zv.cells (c.toNat*i.size)) e (.inl ⟨rfl,rfl⟩) (Nat.zero_le _) hcm (by simp[madeCells])
  refine⟨_,_,g',hrun,step_drew h1 w.drawn,?_⟩
  rw[if_pos rfl]
  refine⟨inv_drew h2 w.drawn,?_⟩
  exact sl_of (es:=[]) (vs:=#[]) (Nat.zero_le _) hcm (λi e h=>by simp at h) LR.nil (λq u hu=>by simp at hu) (.inr ⟨rfl,h3⟩)
 ·obtain⟨g',h1,h2,h3⟩:=new_cells hI (made_LR (hzc g) (c.toNat*i.size)) e
  refine⟨_,_,g',hrun,h1,?_⟩
  rw[if_neg hl0]
  exact⟨h2,.bs h3 (by omega) hcm (λh=>by rw[show l=c by simpa using h]) (λ_=>rfl)⟩
theorem out_iaddrB {t e:TypeId} {s:Nat} (ht:P.underlying t=some (.slice e)) (hs:Zh P e=some s) {k off m:Nat} {full:Bool} {p:PV} {v u:Value} {n:Int} (h:RV g (.bs k off m s full) v) (hi:RV g p u) (hn:p.asI=some n) (h0:0<=n) (h1:n<m):
  ∃ y,(Instr.indexAt t v u).run P w=.ok y w/\RV g (.bp k (off+n.toNat*s)) y:=by
 obtain⟨kk,rfl⟩:=Zp hi hn
 cases h with
 |@bs _ _ _ _ b o cap _ hb hnc hm hf ho=>
  obtain rfl:=ho (by omega)
  exact⟨.pointer (some ⟨b,o+n.toNat*s,none⟩),by simp[Instr.indexAt,asIntOf,run_underlying ht,h0,h1,Zc hs,Zz],.bp hb⟩
theorem out_iaddrT {t e:TypeId} {s:Nat} (ht:P.underlying t=some (.slice e)) (hs:Zh P e=some s) {k m:Nat} {p:PV} {v u:Value} {n:Int} (h:RV g (.ts k m s) v) (hi:RV g p u) (hn:p.asI=some n) (h0:0<=n) (h1:n<m):
  ∃ y,(Instr.indexAt t v u).run P w=.ok y w/\RV g (.tp k m (n.toNat*s)) y:=by
 obtain⟨kk,rfl⟩:=Zp hi hn
 cases h with
 |tsn h=>omega
 |@ts _ _ _ b cap hT hp hnc hm=>
  exact⟨.pointer (some ⟨b,n.toNat*s,none⟩),by simp[Instr.indexAt,asIntOf,run_underlying ht,h0,h1,Zc hs,Zz],.tp hT⟩
theorem out_slB {t e:TypeId} {s:Nat} (ht:P.underlying t=some (.slice e)) (hs:Zh P e=some s) {k off n:Nat} {full:Bool} {v:Value} (hv:RV g (.bs k off n s full) v)
  {lo hi:Option Value} {l h:Nat} (hl:(lo=none/\l=0)\/∃ k i,lo=some (.int k i)/\0<=i/\i.toNat=l) (hh:(hi=none/\h=n)\/∃ k i,hi=some (.int k i)/\0<=i/\i.toNat=h) (h1:l<=h) (h2:h<=n):
  ∃ u,(Instr.sliceAt t v lo hi none).run P w=.ok u w/\RV g (.bs k (off+l*s) (h-l) s (full&&h==n)) u:=by
 have hsz:=Zc hs w
 cases hv with
 |@bs _ _ _ _ b o cap _ hb hnc hm hf ho=>
  have hbd:=Ut (P:=P) (w:=w) (isSlice:=true) (len:=n) (cap:=cap) hl hh h1 (by omega)
  refine⟨_,by simp[Instr.sliceAt,Instr.slice,run_underlying ht,hbd,hsz,Zz];rfl,?_⟩
  have e1:(if cap=l then some (⟨b,o,none⟩:Addr)else some ⟨b,o+l*s,none⟩)=some ⟨b,if cap=l then o else o+l*s,none⟩:=by split<;>rfl
  rw[e1]
  refine .bs hb (by omega) (by omega) (λhq=>?_) (λhpos=>?_)
  ·simp only[Bool.and_eq_true,beq_iff_eq]at hq
   have:=hf hq.1
   omega
  ·rw[if_neg (by omega),ho (by omega)]
theorem out_slB3 {t e:TypeId} {s:Nat} (ht:P.underlying t=some (.slice e)) (hs:Zh P e=some s) {k off n:Nat} {full:Bool} {v:Value} (hv:RV g (.bs k off n s full) v)
  {lo:Option Value} {l h m:Nat} {kk kk':IntKind} {i j:Int} (hl:(lo=none/\l=0)\/∃ k i,lo=some (.int k i)/\0<=i/\i.toNat=l) (hi:0<=i) (hh:i.toNat=h) (hj:0<=j) (hm:j.toNat=m) (h1:l<=h) (h2:h<=m) (h3:m<=n):
  ∃ u,(Instr.sliceAt t v lo (some (.int kk i)) (some (.int kk' j))).run P w=.ok u w/\RV g (.bs k (off+l*s) (h-l) s (h==m)) u:=by
 have hsz:=Zc hs w
 cases hv with
 |@bs _ _ _ _ b o cap _ hb hnc hmx hf ho=>
  have hbd:=Qv (P:=P) (w:=w) (isSlice:=true) (len:=n) (cap:=cap) (k:=kk) (k':=kk') hl hi hh hj hm h1 h2 (by omega)
  refine⟨_,by simp[Instr.sliceAt,Instr.slice,run_underlying ht,hbd,hsz,Zz];rfl,?_⟩
  have e1:(if m=l then some (⟨b,o,none⟩:Addr)else some ⟨b,o+l*s,none⟩)=some ⟨b,if m=l then o else o+l*s,none⟩:=by split<;>rfl
  rw[e1]
  refine .bs hb (by omega) (by omega) (λhq=>?_) (λhpos=>?_)
  ·have:h=m:=by simpa using hq
   omega
  ·rw[if_neg (by omega),ho (by omega)]
end
end Go.PE
