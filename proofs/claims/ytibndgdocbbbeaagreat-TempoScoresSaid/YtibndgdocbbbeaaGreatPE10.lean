/- A part of the proof. -/
import Derived.Test.YtibndgdocbbbeaaGreatPE9
set_option linter.all false
namespace Go.PE
open Go.RowKit
section
variable {P:Program} {g:Gh} {H:List Blk} {w:World}
theorem sub_len {es:List (List PV)} {l h:Nat} (h1:l<=h) (h2:h<=es.length):((es.take h).drop l).length=h-l:=by simp;omega
theorem sub_get {es:List (List PV)} {l h i:Nat} {e:List PV} (he:((es.take h).drop l)[i]?=some e):es[l+i]?=some e:=by
 rw[List.getElem?_drop,List.getElem?_take]at he
 split at he
 ·exact he
 ·cases he
theorem sl_sub {r r':Right} {s:Nat} {es:List (List PV)} {b o cap l h m:Nat} (hv:RV g (.sl false r s es) (.slice (some ⟨b,o,none⟩) es.length cap)) (h1:l<=h) (h2:h<=es.length) (h3:h<=m) (h4:m<=maxLen)
  (hr:rightOk g r' b (if m=l then o else o+l*s) (h-l) (m-l)):
  RV g (.sl false r' s ((es.take h).drop l)) (.slice (some (if m=l then ⟨b,o,none⟩ else ⟨b,o+l*s,none⟩)) (h-l) (m-l)):=by
 cases hv with
 |em _ _ _ _=>
  obtain rfl:h=0:=by simpa using h2
  obtain rfl:l=0:=by omega
  have e:(if m=0 then (⟨b,o,none⟩:Addr)else ⟨b,o+0*s,none⟩)=⟨b,if m=0 then o else o+0*s,none⟩:=by split<;>rfl
  rw[e]
  exact .sl (es:=[]) (λ_ _=>.bool true) (Nat.zero_le _) (by omega) (λi e he=>by simp at he) (λi j e p he=>by simp at he) (λi j e p he=>by simp at he) (by simpa using hr)
 |sl vf hc hm hs hC hR _=>
  have hlen:=sub_len h1 h2
  have e:(if m=l then (⟨b,o,none⟩:Addr)else ⟨b,o+l*s,none⟩)=⟨b,if m=l then o else o+l*s,none⟩:=by split<;>rfl
  rw[e,<-hlen]
  refine .sl (λi j=>vf (l+i) j) (by rw[hlen];omega) (by omega) (λi e he=>hs _ e (sub_get he)) (λi j e p he hp=>?_) (λi j e p he hp=>hR _ j e p (sub_get he) hp) (by rw[hlen];exact hr)
  have hlt:i<h-l:=by
   have:=(List.getElem?_eq_some_iff.1 he).1
   rwa [hlen]at this
  rw[if_neg (by omega)]
  have:=hC _ j e p (sub_get he) hp
  rw[Nat.add_mul]at this
  rwa [show o+l*s+i*s+j=o+(l*s+i*s)+j by omega]
theorem out_slSl {t e:TypeId} {size:Nat} (ht:P.underlying t=some (.slice e)) (hs:Zh P e=some size) {nl:Bool} {r:Right} {s:Nat} {es:List (List PV)} {v:Value} (hv:RV g (.sl nl r s es) v) (hz:(nl||s==size)=true)
  {lo hi:Option Value} {l h:Nat} (hl:(lo=none/\l=0)\/∃ k i,lo=some (.int k i)/\0<=i/\i.toNat=l) (hh:(hi=none/\h=es.length)\/∃ k i,hi=some (.int k i)/\0<=i/\i.toNat=h) (h1:l<=h) (h2:h<=es.length):
  ∃ u,(Instr.sliceAt t v lo hi none).run P w=.ok u w/\
   RV g (.sl nl (Us r l h es.length) s ((es.take h).drop l)) u:=by
 have hsz:=Zc hs w
 cases nl with
 |true=>
  cases hv with
  |nilsl=>
   simp at h2
   subst h2
   obtain rfl:l=0:=by omega
   have:=Ut (P:=P) (w:=w) (isSlice:=true) (len:=0) (cap:=0) hl hh h1 (Nat.le_refl _)
   exact⟨.slice none 0 0,by simp[Instr.sliceAt,Instr.slice,run_underlying ht,this,hsz],by simpa using .nilsl _ _⟩
 |false=>
  have hz:s=size:=by simpa using hz
  subst hz
  rcases sl_cells hv with ⟨rfl,hro,A,rfl⟩|⟨b,o,cap,vs,rfl,hc,hm,_,_,_,hr⟩
  ·simp at h2
   subst h2
   obtain rfl:l=0:=by omega
   have:=Ut (P:=P) (w:=w) (isSlice:=true) (len:=0) (cap:=0) hl hh h1 (Nat.le_refl _)
   exact⟨.slice (some A) 0 0,by simp[Instr.sliceAt,Instr.slice,run_underlying ht,this,hsz],by simpa using .em _ _ A (by cases r<;>first|rfl|cases hro)⟩
  have hb:=Ut (P:=P) (w:=w) (isSlice:=true) (len:=es.length) (cap:=cap) hl hh h1 (by omega)
  refine⟨_,by simp[Instr.sliceAt,Instr.slice,run_underlying ht,hb,hsz,Zz];rfl,?_⟩
  have e:(if cap=l then some (⟨b,o,none⟩:Addr)else some ⟨b,o+l*s,none⟩)=some (if cap=l then ⟨b,o,none⟩ else ⟨b,o+l*s,none⟩):=by split<;>rfl
  rw[e]
  refine sl_sub hv h1 h2 (by omega) hm ?_
  cases r with
  |no=>trivial
  |full=>
   unfold Us
   simp only
   have hr:cap=es.length:=hr
   split
   ·rename_i hx;show cap-l=h-l;omega
   ·trivial
  |own j=>
   unfold Us
   simp only
   split
   ·rename_i hx
    obtain⟨rfl,rfl⟩:=hx
    rcases hr with hr|hr
    ·exact .inl ⟨by show cap-0=es.length-0;omega,hr.2⟩
    ·refine .inr ⟨?_,by simpa using hr.2⟩
     rw[hr.1];simp
   ·trivial
theorem out_slSl3 {t e:TypeId} {size:Nat} (ht:P.underlying t=some (.slice e)) (hs:Zh P e=some size) {nl:Bool} {r:Right} {s:Nat} {es:List (List PV)} {v:Value} (hv:RV g (.sl nl r s es) v) (hz:(nl||s==size)=true)
  {lo:Option Value} {l h m:Nat} {k k':IntKind} {i j:Int} (hl:(lo=none/\l=0)\/∃ k i,lo=some (.int k i)/\0<=i/\i.toNat=l) (hi:0<=i) (hh:i.toNat=h) (hj:0<=j) (hm:j.toNat=m) (h1:l<=h) (h2:h<=m) (h3:m<=es.length):
  ∃ u,(Instr.sliceAt t v lo (some (.int k i)) (some (.int k' j))).run P w=.ok u w/\RV g (.sl nl (if h=m then .full else .no) s ((es.take h).drop l)) u:=by
 have hsz:=Zc hs w
 cases nl with
 |true=>
  cases hv with
  |nilsl=>
   simp at h3
   subst h3
   obtain rfl:h=0:=by omega
   obtain rfl:l=0:=by omega
   have:=Qv (P:=P) (w:=w) (isSlice:=true) (len:=0) (cap:=0) (k:=k) (k':=k') hl hi hh hj hm h1 (Nat.le_refl _) (Nat.le_refl _)
   exact⟨.slice none 0 0,by simp[Instr.sliceAt,Instr.slice,run_underlying ht,this,hsz],by simpa using .nilsl _ _⟩
 |false=>
  have hz:s=size:=by simpa using hz
  subst hz
  rcases sl_cells hv with ⟨rfl,hro,A,rfl⟩|⟨b,o,cap,vs,rfl,hc,hmx,_,_,_,hr⟩
  ·simp at h3
   subst h3
   obtain rfl:h=0:=by omega
   obtain rfl:l=0:=by omega
   have:=Qv (P:=P) (w:=w) (isSlice:=true) (len:=0) (cap:=0) (k:=k) (k':=k') hl hi hh hj hm h1 (Nat.le_refl _) (Nat.le_refl _)
   exact⟨.slice (some A) 0 0,by simp[Instr.sliceAt,Instr.slice,run_underlying ht,this,hsz],by simpa using .em _ _ A rfl⟩
  have hb:=Qv (P:=P) (w:=w) (isSlice:=true) (len:=es.length) (cap:=cap) (k:=k) (k':=k') hl hi hh hj hm h1 h2 (by omega)
  refine⟨_,by simp[Instr.sliceAt,Instr.slice,run_underlying ht,hb,hsz,Zz];rfl,?_⟩
  have e:(if m=l then some (⟨b,o,none⟩:Addr)else some ⟨b,o+l*s,none⟩)=some (if m=l then ⟨b,o,none⟩ else ⟨b,o+l*s,none⟩):=by split<;>rfl
  rw[e]
  refine sl_sub hv h1 (by omega) h2 (by omega) ?_
  split
  ·rename_i hx;show m-l=h-l;omega
  ·trivial
theorem out_slStr {t:TypeId} (ht:P.underlying t=some .string) {s:ByteArray} {lo hi:Option Value} {l h:Nat} (hl:(lo=none/\l=0)\/∃ k i,lo=some (.int k i)/\0<=i/\i.toNat=l) (hh:(hi=none/\h=s.size)\/∃ k i,hi=some (.int k i)/\0<=i/\i.toNat=h) (h1:l<=h) (h2:h<=s.size):
  (Instr.sliceAt t (.string s) lo hi none).run P w=.ok (.string (s.extract l h)) w:=by
 have hb:=Ut (P:=P) (w:=w) (isSlice:=false) (len:=s.size) (cap:=s.size) hl hh h1 h2
 simp[Instr.sliceAt,Instr.slice,run_underlying ht,hb]
end
end Go.PE
