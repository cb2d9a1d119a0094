/- A part of the proof. -/
import Derived.Test.YtibndgdocbbbeaaGreatPE8
set_option linter.all false
namespace Go.PE
open Go.RowKit
def Out (P:Program) (s:Sem Next) (n:Nat) (g:Gh) (w:World) (p:PV) (H':List Blk):Prop:=
 ∃ v w' g',(s.run P w=.ok (.value v) w'\/(s.run P w=.ok .skip w'/\v=undef))/\Step n g w g' w'/\Inv g' H' w'/\RV g' p v
section
variable {P:Program} {g:Gh} {H:List Blk} {w:World} {env:List PV} {a:Act}
theorem Xm (hI:Inv g H w) {s:Sem Value} {p:PV} (h:∃ v,s.run P w=.ok v w/\RV g p v):Out P (do pure (.value (<-s))) H.length g w p H:=by
 obtain⟨v,h1,h2⟩:=h
 exact⟨v,w,g,.inl (by simp[h1]),.refl _ g w,hI,h2⟩
theorem Ww {n:Nat} {s:Sem Value} {p:PV} {H':List Blk} (h:∃ v w' g',s.run P w=.ok v w'/\Step n g w g' w'/\Inv g' H' w'/\RV g' p v):Out P (do pure (.value (<-s))) n g w p H':=by
 obtain⟨v,w',g',h1,h2⟩:=h
 exact⟨v,w',g',.inl (by simp[h1]),h2⟩
theorem Zo (hE:LR g env a.tmps) {xs:List Operand} {ys:List Opd} (h:Vp xs=some ys):LR g (ys.map (·.ev env)) (xs.map a.eval).toArray:=by
 obtain⟨h1,h2⟩:=Wz h
 refine⟨by simp[h1],λi p v hp hv=>?_⟩
 rw[List.getElem?_map]at hp
 simp only[List.getElem?_toArray,List.getElem?_map]at hv
 cases hy:ys[i]? with
 |none=>simp[hy]at hp
 |some y=>
  cases hx:xs[i]? with
  |none=>simp[hx]at hv
  |some x=>
   simp[hy]at hp;simp[hx]at hv
   subst hp;subst hv
   exact Xj hE (h2 i x y hx hy)
theorem Qt {t:TypeId} {z:List PV} (h:zeroP P t=some z):∃ zv,(∀ w,(zeroValue t).run P w=.ok zv w)/\∀ g,LR g z zv.cells:=by
 unfold zeroP at h
 cases hi:P.info? t with
 |none=>simp[hi]at h
 |some i=>
  cases hz:i.zero with
  |none=>simp[hi,hz]at h
  |some zv=>
   simp[hi,hz]at h
   obtain⟨h1,h2⟩:=Wz h
   exact⟨zv,λw=>run_zeroValue hi hz w,λg=>⟨by simpa using h1.symm,λj p v hp hv=>Ub (h2 j v p (by simpa using hv) hp)⟩⟩
theorem out_box (hI:Inv g H w) {p:PV} {v:Value} (h:RV g p v) (hp:p≠.any) (e:TypeId):∃ u w' g',(Instr.box e v).run P w=.ok u w'/\Step H.length g w g' w'/\Inv g' (H++[.cells p.cells]) w'/\RV g' (.bp H.length 0) u:=by
 obtain⟨g',h1,h2,h3⟩:=new_cells hI (h.cellsLR hp) e
 exact⟨_,_,g',by simp[Instr.box,newVar,newRow],h1,h2,.bp h3⟩
theorem out_alloc (hI:Inv g H w) {t:TypeId} {z:List PV} (h:zeroP P t=some z):∃ u w' g',(Instr.alloc t true (.tuple #[])).run P w=.ok u w'/\Step H.length g w g' w'/\Inv g' (H++[.cells z]) w'/\RV g' (.bp H.length 0) u:=by
 obtain⟨zv,h1,h2⟩:=Qt h
 obtain⟨g',h3,h4,h5⟩:=new_cells hI (h2 g) t
 exact⟨_,_,g',by simp[Instr.alloc,h1,newVar,newRow],h3,h4,.bp h5⟩
theorem out_load (hI:Inv g H w) {t:TypeId} {ag:Option Nat} (ha:agOf P t=some ag) {p q:PV} {v:Value} (h:RV g p v)
  (hq:(∃ cs,p=.ip cs/\Yy ag cs=some q)\/(∃ k off cs,p=.bp k off/\H[k]?=some (.cells cs)/\Yy ag (cs.drop off)=some q)\/(∃ k n off z cs,p=.tp k n off/\H[k]?=some (.tgrow n z cs)/\Yy ag (cs.drop off)=some q)):∃ u,(Instr.loadAt t v).run P w=.ok u w/\RV g q u:=by
 rcases hq with ⟨cs,rfl,hq⟩|⟨k,off,cs,rfl,hk,hq⟩|⟨k,n,off,z,cs,rfl,hk,hq⟩
 ·obtain⟨b,o,rfl,hr⟩:=reads_ip hI h
  obtain⟨u,h1,h2⟩:=load_reads (P:=P) hr ha hq
  exact⟨u,by simp[Instr.loadAt,Instr.sureAddr,h1],h2⟩
 ·obtain⟨b,rfl,hr⟩:=reads_bp hI hk h
  obtain⟨u,h1,h2⟩:=load_reads (P:=P) hr ha hq
  exact⟨u,by simp[Instr.loadAt,Instr.sureAddr,h1],h2⟩
 ·obtain⟨b,rfl,hr⟩:=reads_tp hI hk h
  obtain⟨u,h1,h2⟩:=load_reads (P:=P) hr ha hq
  exact⟨u,by simp[Instr.loadAt,Instr.sureAddr,h1],h2⟩
theorem out_store (hI:Inv g H w) {t:TypeId} {n:Nat} (ht:Zh P t=some n) {k off:Nat} {cs:List PV} (hk:H[k]?=some (.cells cs)) {p:PV} {v u:Value} (h:RV g p v) (ha:RV g (.bp k off) u)
  (hn:p.cells.length=n) (hl:off+n<=cs.length) (hc:p.cells.all PV.cellP=true):
  ∃ w' ,(Instr.storeAt t u v).run P w=.ok () w'/\Step H.length g w g w'/\Inv g (H.set k (.cells (cs.take off++p.cells++cs.drop (off+n)))) w':=by
 have hp:p≠.any:=by rintro rfl;simp[PV.cells,PV.cellP]at hc
 have hL:=h.cellsLR hp
 cases ha with
 |bp hb=>
  rename_i b
  rcases hI.blk k _ hk with h1|⟨b',vs,e,h1,h2,h3,_⟩
  ·rw[hb]at h1;cases h1
  ·rw[hb]at h1
   obtain rfl:=Option.some.inj h1
   have hsz:(sizeOf t).run P w=.ok n w:=by
    unfold Zh at ht
    cases hi:P.info? t with
    |none=>simp[hi]at ht
    |some i=>simp[hi]at ht;rw[<-ht];exact Wm hi w
   have hvn:v.cells.size=n:=by rw[<-hL.1,hn]
   have hle:=h3.1
   have hst:=run_storeCells_at (P:=P) b off e v.cells.toList 0 vs w h2 (by simp[hvn];omega) (hL.one hc)
   obtain⟨hS,hI'⟩:=store_blk hI (cs':=cs.take off++p.cells++cs.drop (off+n)) (vs':=(vs.toList.take off++v.cells.toList++vs.toList.drop (off+n)).toArray) hk hb h2 (by
    refine⟨by simp[hn,hvn];omega,λi q x hq hx=>?_⟩
    simp only[List.getElem?_toArray]at hx
    rw[List.append_assoc]at hq hx
    by_cases h1:i<off
    ·rw[List.getElem?_append_left (by simp;omega),List.getElem?_take,if_pos h1]at hq
     rw[List.getElem?_append_left (by simp;omega),List.getElem?_take,if_pos h1]at hx
     exact h3.2 i q x hq (by simpa using hx)
    ·rw[List.getElem?_append_right (by simp;omega),List.length_take,Nat.min_eq_left (by omega)]at hq
     rw[List.getElem?_append_right (by simp;omega),List.length_take,Array.length_toList,Nat.min_eq_left (by omega)]at hx
     by_cases h2:i-off<n
     ·rw[List.getElem?_append_left (by omega)]at hq
      rw[List.getElem?_append_left (by simp;omega)]at hx
      exact hL.2 _ q x hq (by simpa using hx)
     ·rw[List.getElem?_append_right (by omega),List.getElem?_drop]at hq
      rw[List.getElem?_append_right (by simp;omega),List.getElem?_drop]at hx
      rw[hn]at hq
      simp[hvn]at hx
      exact h3.2 _ q x hq hx)
   refine⟨_,?_,hS,hI'⟩
   simp only[Instr.storeAt,Instr.sureAddr,storeVar,Sem.run_bind,Sem.run_pure,Result.andThen_ok,hsz]
   rw[if_neg (by simp[hvn])]
   have hlen:v.cells.toList.length=n:=by simp[hvn]
   rw[hst,hlen]
   simp
theorem out_storeT (hI:Inv g H w) {t:TypeId} {n:Nat} (ht:Zh P t=some n) {k m z off:Nat} {cs:List PV} (hk:H[k]?=some (.tgrow m z cs)) {p:PV} {v u:Value} (h:RV g p v) (ha:RV g (.tp k m off) u)
  (hn:p.cells.length=n) (hl:off+n<=cs.length) (hc:scL p.cells=true):
  ∃ w' ,(Instr.storeAt t u v).run P w=.ok () w'/\Step H.length g w g w'/\Inv g (H.set k (.tgrow m z (cs.take off++p.cells++cs.drop (off+n)))) w':=by
 have hp:p≠.any:=by rintro rfl;simp[PV.cells,scL]at hc
 have hL:=h.cellsLR hp
 have hc1:p.cells.all PV.cellP=true:=scL_cellP hc
 cases ha with
 |@tp _ _ _ b cap hT=>
  obtain⟨_,_,hs0,h1⟩:=hI.blk k _ hk
  obtain⟨_,⟨vs,e,h2,hvs,h3⟩,_⟩:=h1 _ _ hT
  have hsz:(sizeOf t).run P w=.ok n w:=by
   unfold Zh at ht
   cases hi:P.info? t with
   |none=>simp[hi]at ht
   |some i=>simp[hi]at ht;rw[<-ht];exact Wm hi w
  have hvn:v.cells.size=n:=by rw[<-hL.1,hn]
  have hle:=h3.1
  have hst:=run_storeCells_at (P:=P) b off e v.cells.toList 0 vs w h2 (by simp[hvn];omega) (hL.one hc1)
  obtain⟨hS,hI'⟩:=store_tgrow hI (cs':=cs.take off++p.cells++cs.drop (off+n)) (vs':=(vs.toList.take off++v.cells.toList++vs.toList.drop (off+n)).toArray) hk hT h2 (by
   refine⟨by simp[hn,hvn];omega,λi q x hq hx=>?_⟩
   simp only[List.getElem?_toArray]at hx
   rw[List.append_assoc]at hq hx
   by_cases h1:i<off
   ·rw[List.getElem?_append_left (by simp;omega),List.getElem?_take,if_pos h1]at hq
    rw[List.getElem?_append_left (by simp;omega),List.getElem?_take,if_pos h1]at hx
    exact h3.2 i q x hq (by simpa using hx)
   ·rw[List.getElem?_append_right (by simp;omega),List.length_take,Nat.min_eq_left (by omega)]at hq
    rw[List.getElem?_append_right (by simp;omega),List.length_take,Array.length_toList,Nat.min_eq_left (by omega)]at hx
    by_cases h2:i-off<n
    ·rw[List.getElem?_append_left (by omega)]at hq
     rw[List.getElem?_append_left (by simp;omega)]at hx
     exact hL.2 _ q x hq (by simpa using hx)
    ·rw[List.getElem?_append_right (by omega),List.getElem?_drop]at hq
     rw[List.getElem?_append_right (by simp;omega),List.getElem?_drop]at hx
     rw[hn]at hq
     simp[hvn]at hx
     exact h3.2 _ q x hq hx) (by simp[hn];omega) (scL_app (scL_app (List.all_eq_true.2 λp hp=>List.all_eq_true.1 hs0 p (List.mem_of_mem_take hp)) hc) (List.all_eq_true.2 λp hp=>List.all_eq_true.1 hs0 p (List.mem_of_mem_drop hp))) (by simp[hvn];omega)
  refine⟨_,?_,hS,hI'⟩
  simp only[Instr.storeAt,Instr.sureAddr,storeVar,Sem.run_bind,Sem.run_pure,Result.andThen_ok,hsz]
  rw[if_neg (by simp[hvn])]
  have hlen:v.cells.toList.length=n:=by simp[hvn]
  rw[hst,hlen]
  simp
theorem Zp {p:PV} {v:Value} {n:Int} (h:RV g p v) (hp:p.asI=some n):∃ k,v=.int k n:=by
 cases h with
 |sc hv=>cases v<;>simp[PV.asI]at hp;subst hp;exact⟨_,rfl⟩
 |_=>simp[PV.asI]at hp
theorem part_sound {t:TypeId} {ag:Option Nat} (ha:agOf P t=some ag) {cs:List PV} {vs:Array Value} (h:LR g cs vs) {off:Nat} {p:PV} (hp:Yy ag (cs.drop off)=some p):∃ v,(part t vs off).run P w=.ok v w/\RV g p v:=by
 obtain⟨h1,h2⟩:=isAgg_run ha w
 cases ag with
 |none=>
  simp only[Yy,List.head?_drop]at hp
  have hlt:off<vs.size:=h.1▸(List.getElem?_eq_some_iff.1 hp).1
  exact⟨vs[off],by simp[part,h1,hlt],h.2 off p _ hp (Array.getElem?_eq_getElem hlt)⟩
 |some n=>
  simp only[Yy]at hp
  split at hp
  case isFalse=>cases hp
  rename_i hn
  cases hp
  simp at hn
  refine⟨.agg (vs.extract off (off+n)),by simp[part,h1,h2 n rfl],.agg ?_ λi q u hq hu=>?_⟩
  ·simp[<-h.1];omega
  ·have hi:i<n:=by
    rcases Nat.lt_or_ge i n with h|h
    ·exact h
    ·rw[List.getElem?_take,if_neg (by omega)]at hq;cases hq
   rw[List.getElem?_take,if_pos hi,List.getElem?_drop]at hq
   rw[Array.getElem?_extract,if_pos (by rw[<-h.1];omega)]at hu
   exact h.2 _ q u hq hu
theorem ip_drop {cs:List PV} {b o:Nat} (h:RV g (.ip cs) (.pointer (some ⟨b,o,none⟩))) (n:Nat):RV g (.ip (cs.drop n)) (.pointer (some ⟨b,o+n,none⟩)):=by
 cases h with
 |ip vf hC hR=>
  refine .ip (λj=>vf (n+j)) (λj p hp=>?_) (λj p hp=>?_)
  ·rw[List.getElem?_drop]at hp
   have:=hC _ _ hp
   rwa [<-Nat.add_assoc]at this
  ·rw[List.getElem?_drop]at hp;exact hR _ _ hp
theorem place_add {p q:PV} {v:Value} {n:Nat} (h:RV g p v) (hq:(∃ cs,p=.ip cs/\q=.ip (cs.drop n))\/(∃ k o,p=.bp k o/\q=.bp k (o+n))\/∃ k m o,p=.tp k m o/\q=.tp k m (o+n)):
  ∃ b o,v=.pointer (some ⟨b,o,none⟩)/\RV g q (.pointer (some ((⟨b,o,none⟩:Addr).add n))):=by
 rcases hq with ⟨cs,rfl,rfl⟩|⟨k,o,rfl,rfl⟩|⟨k,m,o,rfl,rfl⟩
 ·cases h with
  |ip vf hC hR=>exact⟨_,_,rfl,by rw[Zz];exact ip_drop (.ip vf hC hR) n⟩
 ·cases h with
  |bp hb=>exact⟨_,_,rfl,by rw[Zz];exact .bp hb⟩
 ·cases h with
  |tp hb=>exact⟨_,_,rfl,by rw[Zz];exact .tp hb⟩
theorem out_faddr {t:TypeId} {fs:Array Field} {f:Nat} {fd:Field} {s:Nat} (ht:P.underlying t=some (.struct fs)) (hf:fs[f]?=some fd) (hs:Zh P fd.type=some s) (h0:s≠0) {p q:PV} {v:Value} (h:RV g p v)
  (hq:(∃ cs,p=.ip cs/\q=.ip (cs.drop fd.offset))\/(∃ k o,p=.bp k o/\q=.bp k (o+fd.offset))\/∃ k m o,p=.tp k m o/\q=.tp k m (o+fd.offset)):∃ u,(Instr.fieldAt t v f).run P w=.ok u w/\RV g q u:=by
 obtain⟨b,o,rfl,h2⟩:=place_add h hq
 have hsz:(sizeOf fd.type).run P w=.ok s w:=by
  unfold Zh at hs
  cases hi:P.info? fd.type with
  |none=>simp[hi]at hs
  |some i=>simp[hi]at hs;rw[<-hs];exact Wm hi w
 exact⟨_,by simp[Instr.fieldAt,run_underlying ht,hf,Instr.sureAddr,fieldPlace,hsz,h0],h2⟩
theorem Zc {t:TypeId} {s:Nat} (h:Zh P t=some s) (w:World):(sizeOf t).run P w=.ok s w:=by
 unfold Zh at h
 cases hi:P.info? t with
 |none=>simp[hi]at h
 |some i=>simp[hi]at h;rw[<-h];exact Wm hi w
theorem out_iaddrA {t e:TypeId} {len s:Nat} (ht:P.underlying t=some (.array len e)) (hs:Zh P e=some s) {p q r:PV} {v u:Value} {n:Int} (h:RV g p v) (hi:RV g r u) (hn:r.asI=some n) (h0:0<=n) (h1:n<len)
  (hq:(∃ cs,p=.ip cs/\q=.ip (cs.drop (n.toNat*s)))\/(∃ k o,p=.bp k o/\q=.bp k (o+n.toNat*s))\/∃ k m o,p=.tp k m o/\q=.tp k m (o+n.toNat*s)):∃ x,(Instr.indexAt t v u).run P w=.ok x w/\RV g q x:=by
 obtain⟨b,o,rfl,h2⟩:=place_add h hq
 obtain⟨k,rfl⟩:=Zp hi hn
 exact⟨_,by simp[Instr.indexAt,asIntOf,run_underlying ht,Instr.sureAddr,h0,h1,Zc hs],h2⟩
theorem out_iaddrS {t e:TypeId} {s:Nat} (ht:P.underlying t=some (.slice e)) (hs:Zh P e=some s) {nl:Bool} {r:Right} {es:List (List PV)} {p:PV} {v u:Value} {n:Int} (h:RV g (.sl nl r s es) v) (hi:RV g p u) (hn:p.asI=some n) (h0:0<=n)
  {x:List PV} (hx:es[n.toNat]?=some x):∃ y,(Instr.indexAt t v u).run P w=.ok y w/\RV g (.ip x) y:=by
 obtain⟨k,rfl⟩:=Zp hi hn
 have hlt:n.toNat<es.length:=(List.getElem?_eq_some_iff.1 hx).1
 have hlt':n<(es.length:Int):=by omega
 cases h with
 |nilsl=>simp at hx
 |em=>simp at hx
 |sl vf hc hm hs' hC hR hr=>
  rename_i b o cap
  refine⟨.pointer (some ⟨b,o+n.toNat*s,none⟩),by simp[Instr.indexAt,asIntOf,run_underlying ht,h0,hlt',Zc hs,Zz],?_⟩
  exact .ip (λj=>vf n.toNat j) (λj p hp=>hC _ j x p hx hp) (λj p hp=>hR _ j x p hx hp)
theorem out_idxA {t e:TypeId} {len s:Nat} {ag:Option Nat} (ht:P.underlying t=some (.array len e)) (hs:Zh P e=some s) (ha:agOf P e=some ag) {cs:List PV} {q r:PV} {v u:Value} {n:Int} (h:RV g (.agg cs) v) (hi:RV g r u) (hn:r.asI=some n) (h0:0<=n) (h1:n<len)
  (hq:Yy ag (cs.drop (n.toNat*s))=some q):∃ x,(Instr.index t v u).run P w=.ok x w/\RV g q x:=by
 obtain⟨k,rfl⟩:=Zp hi hn
 cases h with
 |agg hl h=>
  obtain⟨x,h2,h3⟩:=part_sound (P:=P) (w:=w) ha ⟨hl,h⟩ hq
  exact⟨x,by simp[Instr.index,asIntOf,run_underlying ht,h0,h1,Zc hs,h2],h3⟩
theorem out_idxStr {t:TypeId} (ht:P.underlying t=some .string) {s:ByteArray} {r:PV} {u:Value} {n:Int} (hi:RV g r u) (hn:r.asI=some n) (h0:0<=n) {b:UInt8} (hb:s[n.toNat]?=some b):(Instr.index t (.string s) u).run P w=.ok (.int .u8 b.toNat) w:=by
 obtain⟨k,rfl⟩:=Zp hi hn
 simp[Instr.index,asIntOf,run_underlying ht,h0,hb]
theorem Yl {x:Option PV} {v:Option Value} {d n:Nat} (h:match x,v with|none,none=>True|some p,some u=>RV g p u|_,_=>False) (hb:bound x d=some n):
  (v=none/\n=d)\/∃ k i,v=some (.int k i)/\0<=i/\i.toNat=n:=by
 cases x with
 |none=>
  cases v with
  |none=>simp[bound]at hb;exact .inl ⟨rfl,hb.symm⟩
  |some=>exact h.elim
 |some p=>
  cases v with
  |none=>exact h.elim
  |some u=>
   simp only[bound]at hb
   cases hp:p.asI with
   |none=>simp[hp]at hb
   |some i=>
    simp[hp]at hb
    obtain⟨k,rfl⟩:=Zp h hp
    exact .inr ⟨k,i,rfl,hb.1,hb.2⟩
theorem Xr (hE:LR g env a.tmps) {x:Option Operand} {y:Option Opd} (h:Vo x=some y):match y.map (·.ev env),x.map a.eval with|none,none=>True|some p,some u=>RV g p u|_,_=>False:=by
 cases x with
 |none=>cases h;trivial
 |some x=>
  cases hx:Xk x with
  |none=>simp[Vo,hx]at h
  |some z=>simp[Vo,hx]at h;subst h;exact Xj hE hx
theorem Ut {isSlice:Bool} {len cap:Nat} {lo hi:Option Value} {l h:Nat} (hl:(lo=none/\l=0)\/∃ k i,lo=some (.int k i)/\0<=i/\i.toNat=l) (hh:(hi=none/\h=len)\/∃ k i,hi=some (.int k i)/\0<=i/\i.toNat=h) (h1:l<=h) (h2:h<=cap):
  (Instr.sliceBounds isSlice len cap lo hi none).run P w=.ok (l,h,cap) w:=by
 rcases hl with ⟨rfl,rfl⟩|⟨k,i,rfl,hi0,rfl⟩<;>rcases hh with ⟨rfl,rfl⟩|⟨k',i',rfl,hi0',rfl⟩
 ·simp[Instr.sliceBounds]
 ·have:i'<=(cap:Int):=by omega
  simp[Instr.sliceBounds,Instr.sliceBound,asIntOf,hi0',this]
 ·have:i<=(h:Int):=by omega
  simp[Instr.sliceBounds,Instr.sliceBound,asIntOf,hi0,this]
 ·have e1:i'<=(cap:Int):=by omega
  have e2:i<=max i' 0:=by omega
  simp[Instr.sliceBounds,Instr.sliceBound,asIntOf,hi0,hi0',e1,e2]
theorem Qv {isSlice:Bool} {len cap:Nat} {lo:Option Value} {l h m:Nat} {k k':IntKind} {i j:Int} (hl:(lo=none/\l=0)\/∃ k i,lo=some (.int k i)/\0<=i/\i.toNat=l) (hi:0<=i) (hh:i.toNat=h) (hj:0<=j) (hm:j.toNat=m) (h1:l<=h) (h2:h<=m) (h3:m<=cap):
  (Instr.sliceBounds isSlice len cap lo (some (.int k i)) (some (.int k' j))).run P w=.ok (l,h,m) w:=by
 subst hh;subst hm
 have e1:j<=(cap:Int):=by omega
 have e2:i<=max j 0:=by omega
 rcases hl with ⟨rfl,rfl⟩|⟨k,i',rfl,hi0,rfl⟩
 ·simp[Instr.sliceBounds,Instr.sliceBound,asIntOf,hi,hj,e1,e2]
 ·have e3:i'<=max i 0:=by omega
  simp[Instr.sliceBounds,Instr.sliceBound,asIntOf,hi,hj,hi0,e1,e2,e3]
end
end Go.PE
