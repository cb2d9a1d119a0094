/- A part of the proof. -/
import Derived.Test.YtibndgdocbbbeaaGreatHF
import Derived.Test.YtibndgdocbbbeaaGreatFB
import Derived.Test.YtibndgdocbbbeaaGreatTC
import Derived.Test.YtibndgdocbbbeaaGreatOP3
import Derived.Test.YtibndgdocbbbeaaGreatSY13
import Derived.Test.YtibndgdocbbbeaaGreatTU2
set_option linter.all false
namespace Go.Proofs.YtibndgdocbbbeaaGreat
open Go.PE Go.RowKit
def valP:PV->Value
 |.sc v=>v
 |_=>.bool true
def Za {α:Type} (c:α->List PV) (l:List α):List Value:=l.flatMap λx=>(c x).map valP
def Flat {α:Type} (c:α->List PV) (s:Nat):Prop:=∀ x,(c x).length=s/\∀ p∈c x,∃ v,p=.sc v/\plainV v=true/\v.oneCell'=true
variable {α:Type} {c:α->List PV} {s:Nat}
theorem Wd (h:Flat c s):∀ l:List α,(Za c l).length=l.length*s
 |[]=>by simp[Za]
 |x::l=>by
  have:=Wd h l
  simp only[Za,List.flatMap_cons,List.length_append,List.length_map,List.length_cons]at this ⊢
  rw[this,(h x).1,Nat.add_mul];omega
theorem cellsG_get (h:Flat c s):∀ (l:List α) (i j:Nat) (x:α) (p:PV),l[i]?=some x->(c x)[j]?=some p->(Za c l)[i*s+j]?=some (valP p)
 |[],i,j,x,p,hx,_=>by simp at hx
 |y::l,0,j,x,p,hx,hp=>by
  simp at hx;subst hx
  have hj:j<(c y).length:=(List.getElem?_eq_some_iff.1 hp).1
  simp only[Za,List.flatMap_cons,Nat.zero_mul,Nat.zero_add]
  rw[List.getElem?_append_left (by simpa using hj),List.getElem?_map,hp];rfl
 |y::l,i+1,j,x,p,hx,hp=>by
  have ih:=cellsG_get h l i j x p (by simpa using hx) hp
  simp only[Za,List.flatMap_cons]at ih ⊢
  rw[List.getElem?_append_right (by simp[(h y).1,Nat.add_mul];omega)]
  simp only[List.length_map,(h y).1]
  rw[show(i+1)*s+j-s=i*s+j by rw[Nat.add_mul];omega]
  exact ih
theorem cellsG_one (h:Flat c s) (l:List α):∀ u∈Za c l,u.oneCell'=true:=λu hu=>by
 obtain⟨x,_,hx⟩:=List.mem_flatMap.1 hu
 obtain⟨p,hp,rfl⟩:=List.mem_map.1 hx
 obtain⟨v,rfl,_,h3⟩:=(h x).2 p hp
 exact h3
theorem sl_form (hf:Flat c s) (hs:0<s) {g:Gh} {w:World} (hI:Inv g [] w) {x:Sl α} {v:Value} (hv:RV g (eS s c x) v):(x=.nil/\v=.slice none 0 0)\/(x≠.nil/\∃ A cap,v=.slice (some A) x.es.length cap/\x.es.length<=cap/\cap<=maxLen/\
  (0<x.es.length->∃ b o,A=⟨b,o,none⟩/\b<w.heap.size/\∀ j u,(Za c x.es)[j]?=some u->w.cell? ((⟨b,o,none⟩:Addr).add j)=some u)):=by
 have key:∀ (r:Right) (es:List α),RV g (.sl false r s (es.map c)) v->∃ A cap,v=.slice (some A) es.length cap/\es.length<=cap/\cap<=maxLen/\
  (0<es.length->∃ b o,A=⟨b,o,none⟩/\b<w.heap.size/\∀ j u,(Za c es)[j]?=some u->w.cell? ((⟨b,o,none⟩:Addr).add j)=some u):=by
  intro r es h
  have hl:(es.map c).length=es.length:=List.length_map ..
  generalize hq:es.map c=q at h
  cases h with
  |em r s A hr=>exact⟨A,0,by simp[show es=[] by simpa using hq],by simp[show es=[] by simpa using hq],by unfold maxLen;omega,λh=>by simp[show es=[] by simpa using hq]at h⟩
  |@sl _ _ b o cap _ vf hc hm hs' hC hR hr=>
   have hql:q.length=es.length:=by rw[<-hq];exact hl
   rw[hql]
   refine⟨⟨b,o,none⟩,cap,rfl,by rw[hql]at hc;exact hc,hm,λh0=>?_⟩
   have cell:∀ j u,(Za c es)[j]?=some u->w.cell? ((⟨b,o,none⟩:Addr).add j)=some u:=by
    intro j u hu
    have hjl:j<es.length*s:=by rw[<-Wd hf];exact(List.getElem?_eq_some_iff.1 hu).1
    have hi:j / s<es.length:=Nat.div_lt_of_lt_mul (by rw[Nat.mul_comm];exact hjl)
    have hj:j%s<s:=Nat.mod_lt _ hs
    have hj2:j%s<(c es[j / s]).length:=by rw[(hf _).1];exact hj
    have e1:(es.map c)[j / s]?=some (c es[j / s]):=by simp[hi]
    have e2:(c es[j / s])[j%s]?=some ((c es[j / s])[j%s]'hj2):=List.getElem?_eq_getElem hj2
    have e3:=cellsG_get hf es (j / s) (j%s) _ _ (List.getElem?_eq_getElem hi) e2
    have ej:j / s*s+j%s=j:=by rw[Nat.mul_comm];exact Nat.div_add_mod j s
    rw[ej,hu]at e3
    have h1:=hC (j / s) (j%s) _ _ (hq▸e1) e2
    have h2:=hR (j / s) (j%s) _ _ (hq▸e1) e2
    obtain⟨z,hz,_,_⟩:=(hf es[j / s]).2 _ (List.getElem_mem hj2)
    rw[hz]at h2 e3
    cases h2 with
    |sc _=>
     have h3:=hI.C _ _ _ h1
     rw[op_add]
     rw[Nat.add_assoc,ej]at h3
     cases e3
     exact h3
   have hb:b<w.heap.size:=by
    have hlen:0<(Za c es).length:=by rw[Wd hf];exact Nat.mul_pos h0 hs
    have:=cell 0 _ (List.getElem?_eq_getElem hlen)
    exact World.block_lt_of_cell? w _ this
   exact⟨b,o,rfl,hb,cell⟩
 cases x with
 |nil=>
  left
  cases hv with
  |nilsl=>exact⟨rfl,rfl⟩
 |no es=>exact .inr ⟨by simp,key _ es hv⟩
 |full es=>exact .inr ⟨by simp,key _ es hv⟩
def Cln (w w':World) (e:TypeId) (s:Nat) (c:α->List PV) (x:Sl α) (u:Value):Prop:=
 (x=.nil/\u=.slice none 0 0)\/(x≠.nil/\∃ b cap,u=.slice (some ⟨b,0,none⟩) x.es.length cap/\w.heap.size<=b/\b<w'.heap.size/\w'.ownsRow w.heap.size e s (.slice (some ⟨b,0,none⟩) x.es.length cap) x.es.length (Za c x.es))
theorem rv_cut (hf:Flat c s) {g:Gh} {w:World} {base e b n cap:Nat} {l:List α} (h:w.ownsRow base e s (.slice (some ⟨b,0,none⟩) n cap) n (Za c l)) (hn:l.length=n) (hC:∀ o v,w.cell? ⟨b,o,none⟩=some v->g.C b o=some v) {k:Nat} (hk:k<=n):RV g (.sl false .no s ((l.take k).map c)) (.slice (some ⟨b,0,none⟩) k cap):=by
 rcases h.2 with ⟨h2,_⟩|⟨g',cap',cur,hv,hg,hheap,hnc,hm,hs,ht⟩
 ·cases h2
 cases hv
 have e1:((l.take k).map c).length=k:=by rw[List.length_map,List.length_take];omega
 have key:∀ (i j:Nat) (e:List PV) (p:PV),((l.take k).map c)[i]?=some e->e[j]?=some p->∃ v,p=.sc v/\w.cell? ⟨b,0+i*s+j,none⟩=some v/\plainV v=true:=by
  intro i j e p he hp
  obtain⟨x,hx,rfl⟩:=Yk he
  have hx2:l[i]?=some x:=by
   have hi:i<k:=by have:=(List.getElem?_eq_some_iff.1 hx).1;rw[List.length_take]at this;omega
   rwa [List.getElem?_take_of_lt hi]at hx
  have e3:=cellsG_get hf l i j x p hx2 hp
  obtain⟨z,rfl,h1,_⟩:=(hf x).2 p (List.mem_of_getElem? hp)
  have hlt:i*s+j<n*s:=by
   have:=(List.getElem?_eq_some_iff.1 e3).1
   rwa [Wd hf,hn]at this
  have hc:=h.cellAt (i*s+j) hlt
  rw[e3]at hc
  exact⟨z,rfl,by rw[Nat.zero_add];exact hc,h1⟩
 have out:RV g (.sl false .no s ((l.take k).map c)) (.slice (some ⟨b,0,none⟩) ((l.take k).map c).length cap):=by
  refine .sl (λi j=>(w.cell? ⟨b,0+i*s+j,none⟩).getD default) (by rw[e1];omega) hm (λi e he=>?_) (λi j e p he hp=>?_) (λi j e p he hp=>?_) trivial
  ·obtain⟨x,_,rfl⟩:=Yk he
   exact(hf x).1
  ·obtain⟨v,rfl,hv,_⟩:=key i j e p he hp
   rw[hv]
   exact hC _ _ hv
  ·obtain⟨v,rfl,hv,hp⟩:=key i j e p he hp
   rw[hv]
   exact .sc hp
 rw[e1]at out
 exact out
theorem acall_via {f:FuncId} {fn:Func} {args:List PV} {r:PV} (hf:Tryz.prog.funcs[f]?=some fn) (hn:(fn.name != "runtime.NumGoroutine"&&fn.body.isSome)=true)
  (h:∀ (g:Gh) (w:World) (vs:Array Value),Inv g [] w->LR g args vs->Calls Tryz.prog f vs w λe w'=>Below w.heap.size w w'/\∃ u,e=.returned u/\∀ g':Gh,(∀ b o v,b<w.heap.size->g.C b o=some v->g'.C b o=some v)->(∀ b o v,w.heap.size<=b->w'.cell? ⟨b,o,none⟩=some v->g'.C b o=some v)->RV g' r u):ACall Tryz.prog f args [] λq k=>q=r/\k=[]:=by
 simp only[Bool.and_eq_true,bne_iff_ne,ne_eq]at hn
 refine⟨⟨fn,hf,hn.1,hn.2⟩,λg w vs hI hL=>?_⟩
 have hO:∀ b,g.O b=none:=λb=>by
  cases h1:g.O b with
  |none=>rfl
  |some k=>have:=hI.domO b k h1;simp at this
 have hB:∀ k,g.B k=none:=λk=>hI.domB k (Nat.zero_le _)
 have hT:∀ k n,g.T k n=none:=λk n=>hI.domT k n (Nat.zero_le _)
 refine(h g w vs hI hL).mono ?_
 rintro e w' ⟨hb,u,rfl,hu⟩
 let g2:Gh:=⟨λb o=>if b<w.heap.size then g.C b o else w'.cell? ⟨b,o,none⟩,λ_ _=>none,λ_=>none,λ_=>none⟩
 refine⟨u,r,[],g2,rfl,⟨rfl,rfl⟩,⟨⟨λb o v h=>?_,λj n x h=>(by rw[hT]at h;cases h),λk b h=>(by rw[hB]at h;cases h),λb k h=>(by rw[hO]at h;cases h)⟩,λk hk=>absurd hk (Nat.not_lt_zero k),hb.os,hb.tape,hb.output,hb.size,λb hlt _=>hb.block b hlt,λb k h=>(nomatch h),λb o _ hlt=>if_pos hlt⟩,Nat.zero_le _,
  ⟨λb o v h=>?_,λk x h=>(by simp at h),λ_ _ h=>(nomatch h),λ_ _ h=>(nomatch h),λ_ _=>rfl,λ_ _ _=>rfl,λ_ _ h=>(nomatch h)⟩,hu g2 (λb o v hlt hc=>(if_pos hlt:(if b<w.heap.size then g.C b o else _)=_).trans hc) λb o v hge hc=>?_⟩
 ·have:=World.block_lt_of_cell? w _ (hI.C b o v h)
  show(if b<w.heap.size then g.C b o else _)=some v
  rw[if_pos this,h]
 ·have h:(if b<w.heap.size then g.C b o else w'.cell? ⟨b,o,none⟩)=some v:=h
  split at h
  ·rename_i hlt
   exact(hb.cell (p:=⟨b,o,none⟩) hlt).trans (hI.C b o v h)
  ·exact h
 ·show(if b<w.heap.size then g.C b o else _)=some v
  rw[if_neg (by omega)]
  exact hc
theorem flat182:Flat c182 5:=λx=>⟨rfl,λp hp=>by
 simp only[c182,List.mem_cons,List.not_mem_nil,or_false]at hp
 rcases hp with rfl|rfl|rfl|rfl|rfl<;>exact⟨_,rfl,rfl,rfl⟩⟩
theorem flat245:Flat c245 5:=λx=>⟨rfl,λp hp=>by
 simp only[c245,List.mem_cons,List.not_mem_nil,or_false]at hp
 rcases hp with rfl|rfl|rfl|rfl|rfl<;>exact⟨_,rfl,rfl,rfl⟩⟩
theorem flat171:Flat c171 2:=λx=>⟨rfl,λp hp=>by
 simp only[c171,List.mem_cons,List.not_mem_nil,or_false]at hp
 rcases hp with rfl|rfl<;>exact⟨_,rfl,rfl,rfl⟩⟩
theorem info182:(Tryz.prog.info? 182).map (λi=>(i.zero,i.size,i.bytes))=some (some (.agg #[.int .i64 0,.int .i64 0,.int .i64 0,.bool false,.int .i64 0]),5,40):=by kernel_rfl
set_option maxHeartbeats 2000000 in
set_option maxRecDepth 100000 in
theorem clone288 (A:Option Addr) (cp n:Nat) (xs:List Value) (w:World) (h0:0<n) (hl:n<=3518437208883) (b o:Nat) (hA:A=some ⟨b,o,none⟩) (hlen:xs.length=n*5) (hone:∀ u∈xs,u.oneCell'=true) (hb:b<w.heap.size) (hcl:∀ j u,xs[j]?=some u->w.cell? ((⟨b,o,none⟩:Addr).add j)=some u):
  Calls Tryz.prog 288 #[.slice A n cp] w λe w'=>∃ g c',e=.returned (.slice (some ⟨g,0,none⟩) n c')/\w.heap.size<=g/\g<w'.heap.size/\w'.ownsRow w.heap.size 182 5 (.slice (some ⟨g,0,none⟩) n c') n xs/\Below w.heap.size w w':=by
 subst hA
 obtain⟨i0,hi,hi0,hi1,hi2⟩:=info_parts info182
 have hi:=Lib.hid hi
 have q22:∀ (w:World) (a:Option Addr) (n c n' c':Nat),(binOp .eql 143 (.slice a n c) (.slice none n' c')).run Tryz.prog w=.ok (.bool a.isNone) w:=λw a n c n' c'=>Lib.run_eql_slice_nil w _ _ a n c n' c' Tryz.underlying143
 have hcl:=Lib.hid (λ(w':World) (h:Below w.heap.size w w') j u hu=>((h.cell (p:=(⟨b,o,none⟩:Addr).add j) (by rw[op_add];exact hb)).trans (hcl j u hu):w'.cell? ((⟨b,o,none⟩:Addr).add j)=some u))
 go_enter Tryz.func288,Tryz.ntmps288
 go_wp2_with (at_builtin;refine wpList_append_lies _ rfl _ _ 143 rfl w.heap.size 182 i0 (.agg #[.int .i64 0,.int .i64 0,.int .i64 0,.bool false,.int .i64 0]) 5 40 Tryz.underlying143 hi.out hi0 hi1 hi2 rfl (by omega) _ _ _ (by rfl) (World.ownsRow_made w #[] 0 (Nat.le_refl _) (Nat.zero_le _) rfl) ⟨b,o,none⟩ n cp xs (by rfl) hlen (hcl.out _ ((Below.refl _ w).alloc (Nat.le_refl _) (.cells #[] 182))) hone h0 ?_ ?_ ?_ (w.heap.size+1) ?_ ?_)
 ·unfold maxLen;omega
 ·omega
 ·simp
 ·simp
 ·intro g cap w9 hown9 hgrow hat hlt1
  go_wp2_with fail
  go_ret
  have hown9':w9.ownsRow w.heap.size 182 5 (.slice (some ⟨g,0,none⟩) n cap) n xs:=by simpa using hown9
  have hlt:=hown9'.lt g rfl
  exact⟨g,cap,by simp,hlt.1,hlt.2,hown9',((Below.refl _ w).alloc (Nat.le_refl _) _).grown hgrow (by simp) (by intro k hk;simp[Value.ownBlock]at hk;omega)⟩
set_option maxHeartbeats 2000000 in
set_option maxRecDepth 100000 in
theorem cloneE288 (A:Addr) (cp:Nat) (w:World):Calls Tryz.prog 288 #[.slice (some A) 0 cp] w λe w'=>e=.returned (.slice (some ⟨w.heap.size,0,none⟩) 0 0)/\w'=w.alloc (.cells #[] 182):=by
 have q22:∀ (w:World) (a:Option Addr) (n c n' c':Nat),(binOp .eql 143 (.slice a n c) (.slice none n' c')).run Tryz.prog w=.ok (.bool a.isNone) w:=λw a n c n' c'=>Lib.run_eql_slice_nil w _ _ a n c n' c' Tryz.underlying143
 go_enter Tryz.func288,Tryz.ntmps288
 go_wp2_with fail
 go_ret
 exact⟨rfl,rfl⟩
set_option maxRecDepth 100000 in
theorem cloneN288 (w:World):Calls Tryz.prog 288 #[.slice none 0 0] w λe w'=>e=.returned (.slice none 0 0)/\w'=w:=by
 have q22:∀ (w:World) (a:Option Addr) (n c n' c':Nat),(binOp .eql 143 (.slice a n c) (.slice none n' c')).run Tryz.prog w=.ok (.bool a.isNone) w:=λw a n c n' c'=>Lib.run_eql_slice_nil w _ _ a n c n' c' Tryz.underlying143
 go_enter Tryz.func288,Tryz.ntmps288
 go_wp2_with fail
 go_ret
 exact⟨rfl,rfl⟩
theorem cln288 {g:Gh} {w:World} (hI:Inv g [] w) {x:Sl G182} {v:Value} (hv:RV g (eS 5 c182 x) v) (hl:x.es.length<=3518437208883):Calls Tryz.prog 288 #[v] w λe w'=>∃ u,e=.returned u/\Below w.heap.size w w'/\Cln w w' 182 5 c182 x u:=by
 rcases sl_form flat182 (by omega) hI hv with ⟨rfl,rfl⟩|⟨hx,A,cap,rfl,_,_,h⟩
 ·refine(cloneN288 w).mono ?_
  rintro e w1 ⟨rfl,rfl⟩
  exact⟨_,rfl,.refl _ _,.inl ⟨rfl,rfl⟩⟩
 ·by_cases h0:0<x.es.length
  ·obtain⟨b,o,rfl,hb,hc⟩:=h h0
   refine(clone288 _ cap _ (Za c182 x.es) w h0 hl b o rfl (Wd flat182 _) (cellsG_one flat182 _) hb hc).mono ?_
   rintro e w1 ⟨g',c',rfl,h1,h2,h3,h4⟩
   exact⟨_,rfl,h4,.inr ⟨hx,g',c',rfl,h1,h2,h3⟩⟩
  ·have e0:x.es.length=0:=by omega
   have e1:x.es=[]:=List.eq_nil_of_length_eq_zero e0
   rw[e0]
   refine(cloneE288 A cap w).mono ?_
   rintro e w1 ⟨rfl,rfl⟩
   refine⟨_,rfl,(Below.refl _ w).alloc (Nat.le_refl _) _,.inr ⟨hx,w.heap.size,0,by rw[e0],Nat.le_refl _,by rw[Xx];omega,?_⟩⟩
   rw[e1]
   exact World.ownsRow_made w #[] 0 (Nat.le_refl _) (Nat.zero_le _) rfl
theorem info245:(Tryz.prog.info? 245).map (λi=>(i.zero,i.size,i.bytes))=some (some (.agg #[.int .i64 0,.int .i64 0,.int .i64 0,.int .i64 0,.bool false]),5,40):=by kernel_rfl
set_option maxHeartbeats 2000000 in
set_option maxRecDepth 100000 in
theorem clone289 (A:Option Addr) (cp n:Nat) (xs:List Value) (w:World) (h0:0<n) (hl:n<=3518437208883) (b o:Nat) (hA:A=some ⟨b,o,none⟩) (hlen:xs.length=n*5) (hone:∀ u∈xs,u.oneCell'=true) (hb:b<w.heap.size) (hcl:∀ j u,xs[j]?=some u->w.cell? ((⟨b,o,none⟩:Addr).add j)=some u):
  Calls Tryz.prog 289 #[.slice A n cp] w λe w'=>∃ g c',e=.returned (.slice (some ⟨g,0,none⟩) n c')/\w.heap.size<=g/\g<w'.heap.size/\w'.ownsRow w.heap.size 245 5 (.slice (some ⟨g,0,none⟩) n c') n xs/\Below w.heap.size w w':=by
 subst hA
 obtain⟨i0,hi,hi0,hi1,hi2⟩:=info_parts info245
 have hi:=Lib.hid hi
 have q22:∀ (w:World) (a:Option Addr) (n c n' c':Nat),(binOp .eql 144 (.slice a n c) (.slice none n' c')).run Tryz.prog w=.ok (.bool a.isNone) w:=λw a n c n' c'=>Lib.run_eql_slice_nil w _ _ a n c n' c' Tryz.underlying144
 have hcl:=Lib.hid (λ(w':World) (h:Below w.heap.size w w') j u hu=>((h.cell (p:=(⟨b,o,none⟩:Addr).add j) (by rw[op_add];exact hb)).trans (hcl j u hu):w'.cell? ((⟨b,o,none⟩:Addr).add j)=some u))
 go_enter Tryz.func289,Tryz.ntmps289
 go_wp2_with (at_builtin;refine wpList_append_lies _ rfl _ _ 144 rfl w.heap.size 245 i0 (.agg #[.int .i64 0,.int .i64 0,.int .i64 0,.int .i64 0,.bool false]) 5 40 Tryz.underlying144 hi.out hi0 hi1 hi2 rfl (by omega) _ _ _ (by rfl) (World.ownsRow_made w #[] 0 (Nat.le_refl _) (Nat.zero_le _) rfl) ⟨b,o,none⟩ n cp xs (by rfl) hlen (hcl.out _ ((Below.refl _ w).alloc (Nat.le_refl _) (.cells #[] 245))) hone h0 ?_ ?_ ?_ (w.heap.size+1) ?_ ?_)
 ·unfold maxLen;omega
 ·omega
 ·simp
 ·simp
 ·intro g cap w9 hown9 hgrow hat hlt1
  go_wp2_with fail
  go_ret
  have hown9':w9.ownsRow w.heap.size 245 5 (.slice (some ⟨g,0,none⟩) n cap) n xs:=by simpa using hown9
  have hlt:=hown9'.lt g rfl
  exact⟨g,cap,by simp,hlt.1,hlt.2,hown9',((Below.refl _ w).alloc (Nat.le_refl _) _).grown hgrow (by simp) (by intro k hk;simp[Value.ownBlock]at hk;omega)⟩
set_option maxHeartbeats 2000000 in
set_option maxRecDepth 100000 in
theorem cloneE289 (A:Addr) (cp:Nat) (w:World):Calls Tryz.prog 289 #[.slice (some A) 0 cp] w λe w'=>e=.returned (.slice (some ⟨w.heap.size,0,none⟩) 0 0)/\w'=w.alloc (.cells #[] 245):=by
 have q22:∀ (w:World) (a:Option Addr) (n c n' c':Nat),(binOp .eql 144 (.slice a n c) (.slice none n' c')).run Tryz.prog w=.ok (.bool a.isNone) w:=λw a n c n' c'=>Lib.run_eql_slice_nil w _ _ a n c n' c' Tryz.underlying144
 go_enter Tryz.func289,Tryz.ntmps289
 go_wp2_with fail
 go_ret
 exact⟨rfl,rfl⟩
set_option maxRecDepth 100000 in
theorem cloneN289 (w:World):Calls Tryz.prog 289 #[.slice none 0 0] w λe w'=>e=.returned (.slice none 0 0)/\w'=w:=by
 have q22:∀ (w:World) (a:Option Addr) (n c n' c':Nat),(binOp .eql 144 (.slice a n c) (.slice none n' c')).run Tryz.prog w=.ok (.bool a.isNone) w:=λw a n c n' c'=>Lib.run_eql_slice_nil w _ _ a n c n' c' Tryz.underlying144
 go_enter Tryz.func289,Tryz.ntmps289
 go_wp2_with fail
 go_ret
 exact⟨rfl,rfl⟩
theorem cln289 {g:Gh} {w:World} (hI:Inv g [] w) {x:Sl G245} {v:Value} (hv:RV g (eS 5 c245 x) v) (hl:x.es.length<=3518437208883):Calls Tryz.prog 289 #[v] w λe w'=>∃ u,e=.returned u/\Below w.heap.size w w'/\Cln w w' 245 5 c245 x u:=by
 rcases sl_form flat245 (by omega) hI hv with ⟨rfl,rfl⟩|⟨hx,A,cap,rfl,_,_,h⟩
 ·refine(cloneN289 w).mono ?_
  rintro e w1 ⟨rfl,rfl⟩
  exact⟨_,rfl,.refl _ _,.inl ⟨rfl,rfl⟩⟩
 ·by_cases h0:0<x.es.length
  ·obtain⟨b,o,rfl,hb,hc⟩:=h h0
   refine(clone289 _ cap _ (Za c245 x.es) w h0 hl b o rfl (Wd flat245 _) (cellsG_one flat245 _) hb hc).mono ?_
   rintro e w1 ⟨g',c',rfl,h1,h2,h3,h4⟩
   exact⟨_,rfl,h4,.inr ⟨hx,g',c',rfl,h1,h2,h3⟩⟩
  ·have e0:x.es.length=0:=by omega
   have e1:x.es=[]:=List.eq_nil_of_length_eq_zero e0
   rw[e0]
   refine(cloneE289 A cap w).mono ?_
   rintro e w1 ⟨rfl,rfl⟩
   refine⟨_,rfl,(Below.refl _ w).alloc (Nat.le_refl _) _,.inr ⟨hx,w.heap.size,0,by rw[e0],Nat.le_refl _,by rw[Xx];omega,?_⟩⟩
   rw[e1]
   exact World.ownsRow_made w #[] 0 (Nat.le_refl _) (Nat.zero_le _) rfl
theorem info171:(Tryz.prog.info? 171).map (λi=>(i.zero,i.size,i.bytes))=some (some (.agg #[.string ⟨#[]⟩,.int .i64 0]),2,24):=by kernel_rfl
set_option maxHeartbeats 2000000 in
set_option maxRecDepth 100000 in
theorem clone290 (A:Option Addr) (cp n:Nat) (xs:List Value) (w:World) (h0:0<n) (hl:n<=5864062014805) (b o:Nat) (hA:A=some ⟨b,o,none⟩) (hlen:xs.length=n*2) (hone:∀ u∈xs,u.oneCell'=true) (hb:b<w.heap.size) (hcl:∀ j u,xs[j]?=some u->w.cell? ((⟨b,o,none⟩:Addr).add j)=some u):
  Calls Tryz.prog 290 #[.slice A n cp] w λe w'=>∃ g c',e=.returned (.slice (some ⟨g,0,none⟩) n c')/\w.heap.size<=g/\g<w'.heap.size/\w'.ownsRow w.heap.size 171 2 (.slice (some ⟨g,0,none⟩) n c') n xs/\Below w.heap.size w w':=by
 subst hA
 obtain⟨i0,hi,hi0,hi1,hi2⟩:=info_parts info171
 have hi:=Lib.hid hi
 have q22:∀ (w:World) (a:Option Addr) (n c n' c':Nat),(binOp .eql 145 (.slice a n c) (.slice none n' c')).run Tryz.prog w=.ok (.bool a.isNone) w:=λw a n c n' c'=>Lib.run_eql_slice_nil w _ _ a n c n' c' Tryz.underlying145
 have hcl:=Lib.hid (λ(w':World) (h:Below w.heap.size w w') j u hu=>((h.cell (p:=(⟨b,o,none⟩:Addr).add j) (by rw[op_add];exact hb)).trans (hcl j u hu):w'.cell? ((⟨b,o,none⟩:Addr).add j)=some u))
 go_enter Tryz.func290,Tryz.ntmps290
 go_wp2_with (at_builtin;refine wpList_append_lies _ rfl _ _ 145 rfl w.heap.size 171 i0 (.agg #[.string ⟨#[]⟩,.int .i64 0]) 2 24 Tryz.underlying145 hi.out hi0 hi1 hi2 rfl (by omega) _ _ _ (by rfl) (World.ownsRow_made w #[] 0 (Nat.le_refl _) (Nat.zero_le _) rfl) ⟨b,o,none⟩ n cp xs (by rfl) hlen (hcl.out _ ((Below.refl _ w).alloc (Nat.le_refl _) (.cells #[] 171))) hone h0 ?_ ?_ ?_ (w.heap.size+1) ?_ ?_)
 ·unfold maxLen;omega
 ·omega
 ·simp
 ·simp
 ·intro g cap w9 hown9 hgrow hat hlt1
  go_wp2_with fail
  go_ret
  have hown9':w9.ownsRow w.heap.size 171 2 (.slice (some ⟨g,0,none⟩) n cap) n xs:=by simpa using hown9
  have hlt:=hown9'.lt g rfl
  exact⟨g,cap,by simp,hlt.1,hlt.2,hown9',((Below.refl _ w).alloc (Nat.le_refl _) _).grown hgrow (by simp) (by intro k hk;simp[Value.ownBlock]at hk;omega)⟩
set_option maxHeartbeats 2000000 in
set_option maxRecDepth 100000 in
theorem cloneE290 (A:Addr) (cp:Nat) (w:World):Calls Tryz.prog 290 #[.slice (some A) 0 cp] w λe w'=>e=.returned (.slice (some ⟨w.heap.size,0,none⟩) 0 0)/\w'=w.alloc (.cells #[] 171):=by
 have q22:∀ (w:World) (a:Option Addr) (n c n' c':Nat),(binOp .eql 145 (.slice a n c) (.slice none n' c')).run Tryz.prog w=.ok (.bool a.isNone) w:=λw a n c n' c'=>Lib.run_eql_slice_nil w _ _ a n c n' c' Tryz.underlying145
 go_enter Tryz.func290,Tryz.ntmps290
 go_wp2_with fail
 go_ret
 exact⟨rfl,rfl⟩
set_option maxRecDepth 100000 in
theorem cloneN290 (w:World):Calls Tryz.prog 290 #[.slice none 0 0] w λe w'=>e=.returned (.slice none 0 0)/\w'=w:=by
 have q22:∀ (w:World) (a:Option Addr) (n c n' c':Nat),(binOp .eql 145 (.slice a n c) (.slice none n' c')).run Tryz.prog w=.ok (.bool a.isNone) w:=λw a n c n' c'=>Lib.run_eql_slice_nil w _ _ a n c n' c' Tryz.underlying145
 go_enter Tryz.func290,Tryz.ntmps290
 go_wp2_with fail
 go_ret
 exact⟨rfl,rfl⟩
theorem cln290 {g:Gh} {w:World} (hI:Inv g [] w) {x:Sl G171} {v:Value} (hv:RV g (eS 2 c171 x) v) (hl:x.es.length<=5864062014805):Calls Tryz.prog 290 #[v] w λe w'=>∃ u,e=.returned u/\Below w.heap.size w w'/\Cln w w' 171 2 c171 x u:=by
 rcases sl_form flat171 (by omega) hI hv with ⟨rfl,rfl⟩|⟨hx,A,cap,rfl,_,_,h⟩
 ·refine(cloneN290 w).mono ?_
  rintro e w1 ⟨rfl,rfl⟩
  exact⟨_,rfl,.refl _ _,.inl ⟨rfl,rfl⟩⟩
 ·by_cases h0:0<x.es.length
  ·obtain⟨b,o,rfl,hb,hc⟩:=h h0
   refine(clone290 _ cap _ (Za c171 x.es) w h0 hl b o rfl (Wd flat171 _) (cellsG_one flat171 _) hb hc).mono ?_
   rintro e w1 ⟨g',c',rfl,h1,h2,h3,h4⟩
   exact⟨_,rfl,h4,.inr ⟨hx,g',c',rfl,h1,h2,h3⟩⟩
  ·have e0:x.es.length=0:=by omega
   have e1:x.es=[]:=List.eq_nil_of_length_eq_zero e0
   rw[e0]
   refine(cloneE290 A cap w).mono ?_
   rintro e w1 ⟨rfl,rfl⟩
   refine⟨_,rfl,(Below.refl _ w).alloc (Nat.le_refl _) _,.inr ⟨hx,w.heap.size,0,by rw[e0],Nat.le_refl _,by rw[Xx];omega,?_⟩⟩
   rw[e1]
   exact World.ownsRow_made w #[] 0 (Nat.le_refl _) (Nat.zero_le _) rfl
end Go.Proofs.YtibndgdocbbbeaaGreat
namespace Go.Proofs.YtibndgdocbbbeaaGreat
open Go.PE Go.RowKit
abbrev evV (x:G147) (h gr ly:Value):Value:=.agg #[.int .i64 x.fID.fO,.int .i64 x.fID.fT,.int .i64 x.fm,.int .i64 x.fy.fF,.int .i64 x.fy.fL,h,gr,.int .i64 x.f8,.int .i64 x.fae,.int .i64 x.fab,ly,.int .i64 x.faj,.int .i64 x.fas]
theorem rv_int {g:Gh} {n:Int} {v:Value} (h:RV g (iP n) v):v=.int .i64 n:=by cases h;rfl
theorem form147 {g:Gh} {x:G147} {v:Value} (h:RV g (.agg (c147 x)) v):∃ h gr ly,v=evV x h gr ly/\RV g (eS 5 c182 x.fp) h/\RV g (eS 5 c245 x.fA) gr/\RV g (eS 2 c171 x.fq) ly:=by
 generalize hq:c147 x=q at h
 cases h with
 |@agg _ vs hn hk=>
  subst hq
  have hn:vs.size=13:=hn.symm
  have k:∀ i (hi:i<13) p,(c147 x)[i]?=some p->RV g p (vs[i]'(by omega)):=λi hi p hp=>hk i p _ hp (Array.getElem?_eq_getElem _)
  refine⟨vs[5]'(by omega),vs[6]'(by omega),vs[10]'(by omega),?_,k 5 (by omega) _ rfl,k 6 (by omega) _ rfl,k 10 (by omega) _ rfl⟩
  have e0:=rv_int (k 0 (by omega) _ rfl)
  have e1:=rv_int (k 1 (by omega) _ rfl)
  have e2:=rv_int (k 2 (by omega) _ rfl)
  have e3:=rv_int (k 3 (by omega) _ rfl)
  have e4:=rv_int (k 4 (by omega) _ rfl)
  have e7:=rv_int (k 7 (by omega) _ rfl)
  have e8:=rv_int (k 8 (by omega) _ rfl)
  have e9:=rv_int (k 9 (by omega) _ rfl)
  have e11:=rv_int (k 11 (by omega) _ rfl)
  have e12:=rv_int (k 12 (by omega) _ rfl)
  unfold evV
  congr 1
  apply Array.ext (by simpa using hn)
  intro i hi hj
  match i,hi with
  |0,_=>exact e0
  |1,_=>exact e1
  |2,_=>exact e2
  |3,_=>exact e3
  |4,_=>exact e4
  |5,_=>rfl
  |6,_=>rfl
  |7,_=>exact e7
  |8,_=>exact e8
  |9,_=>exact e9
  |10,_=>rfl
  |11,_=>exact e11
  |12,_=>exact e12
  |i+13,hi=>omega
theorem inv_below {g:Gh} {w w':World} (hI:Inv g [] w) (h:Below w.heap.size w w'):Inv g [] w':=by
 have hO:∀ b,g.O b=none:=λb=>by
  cases h1:g.O b with
  |none=>rfl
  |some k=>have:=hI.domO b k h1;simp at this
 exact⟨λb o v hc=>(h.cell (p:=⟨b,o,none⟩) (World.block_lt_of_cell? w _ (hI.C b o v hc))).trans (hI.C b o v hc),λk x hk=>by simp at hk,hI.own,λb k hk=>(by rw[hO b]at hk;cases hk),hI.domB,hI.domT,hI.domO⟩
theorem own_low {w:World} {a b e s n:Nat} {v:Value} {xs:List Value} (h:w.ownsRow a e s v n xs) (hb:b<=a):w.ownsRow b e s v n xs:=by
 refine⟨h.1,h.2.imp id ?_⟩
 rintro⟨g,cap,cur,h1,h2,h3⟩
 exact⟨g,cap,cur,h1,by omega,h3⟩
theorem Cln.sl {α:Type} {c:α->List PV} {e s:Nat} {x:Sl α} {u:Value} {w1 w:World} (h:Cln w1 w e s c x u):∃ A n cp,u=.slice A n cp:=by
 rcases h with ⟨_,rfl⟩|⟨_,b,cap,rfl,_⟩<;>exact⟨_,_,_,rfl⟩
theorem calls_sl {α:Type} {c:α->List PV} {e s:Nat} {x:Sl α} {f:FuncId} {vs:Array Value} {w:World} (h:Calls Tryz.prog f vs w λr w'=>∃ u,r=.returned u/\Below w.heap.size w w'/\Cln w w' e s c x u):
  Calls Tryz.prog f vs w λr w'=>∃ A n cp,r=.returned (.slice A n cp)/\Below w.heap.size w w'/\Cln w w' e s c x (.slice A n cp):=h.mono λr w' ⟨u,hr,hb,hc⟩=>by
 obtain⟨A,n,cp,rfl⟩:=hc.sl
 exact⟨A,n,cp,hr,hb,hc⟩
def Own3 {α:Type} (w':World) (base lo hi:Nat) (e:TypeId) (s:Nat) (c:α->List PV) (x:Sl α) (u:Value):Prop:=
 (x=.nil/\u=.slice none 0 0)\/(x≠.nil/\∃ b cap,u=.slice (some ⟨b,0,none⟩) x.es.length cap/\lo<=b/\b<hi/\w'.ownsRow base e s (.slice (some ⟨b,0,none⟩) x.es.length cap) x.es.length (Za c x.es))
theorem results_cell1 {fn:Func} {p:Tmp} {ty:TypeId} (h:fn.results=#[.cell p ty]) (tmps:Array Value) (P:Program) (w:World):
  (results fn tmps).run P w=((asAddr (tmps.getD p undef)).run P w).andThen λa w₁=>(loadVar ty a).run P w₁:=by
 simp only[results,h]
 simp[Sem.run_bind,Result.andThen]
def Tt (B S:Nat) (w w3 W:World):Prop:=Below B w W/\W.heap.size=w3.heap.size/\∀ b,S<=b->W.heap[b]?=w3.heap[b]?
theorem tset {B S:Nat} {w w3 W:World} (h:Tt B S w w3 W) {b o:Nat} {v:Value} (hb:B<=b) (hS:b<S):Tt B S w w3 (W.setCell ⟨b,o,none⟩ v):=
 ⟨h.1.setCell hb v,by rw[World.size_setCell];exact h.2.1,λc hc=>(heap_setCell_other W _ c v (by show c≠b;omega)).trans (h.2.2 c hc)⟩
theorem own_heap {w w':World} {base e s n b cap:Nat} {xs:List Value} (h:w.ownsRow base e s (.slice (some ⟨b,0,none⟩) n cap) n xs) (hh:w'.heap[b]?=w.heap[b]?):w'.ownsRow base e s (.slice (some ⟨b,0,none⟩) n cap) n xs:=by
 refine⟨h.1,h.2.imp id ?_⟩
 rintro⟨g,c',cur,h1,h2,h3,h4⟩
 cases h1
 exact⟨b,cap,cur,rfl,h2,hh.trans h3,h4⟩
theorem cln_own {α:Type} {c:α->List PV} {e s B S:Nat} {x:Sl α} {u:Value} {w w1 w2 w3 W:World} (h:Cln w1 w2 e s c x u) (hb:Below w2.heap.size w2 w3) (hT:Tt B S w w3 W) (h1:B<=S) (h2:S<=w1.heap.size):Own3 W B w1.heap.size w2.heap.size e s c x u:=by
 rcases h with h|⟨h,b,cap,rfl,h3,h4,h5⟩
 ·exact .inl h
 ·refine .inr ⟨h,b,cap,rfl,h3,h4,own_heap (own_heap (own_low h5 (by omega)) (hb.block b h4)) (hT.2.2 b (by omega))⟩
theorem Own3.wide {α:Type} {c:α->List PV} {e s B l1 l2 h1 h2:Nat} {x:Sl α} {u:Value} {W:World} (h:Own3 W B l1 h1 e s c x u) (hl:l2<=l1) (hh:h1<=h2):Own3 W B l2 h2 e s c x u:=by
 rcases h with h|⟨h,b,cap,rfl,h3,h4,h5⟩
 ·exact .inl h
 ·exact .inr ⟨h,b,cap,rfl,by omega,by omega,h5⟩
set_option maxHeartbeats 8000000 in
set_option maxRecDepth 100000 in
theorem cloneEv {g:Gh} {w:World} (hI:Inv g [] w) {x:G147} {h gr ly:Value} (rh:RV g (eS 5 c182 x.fp) h) (rg:RV g (eS 5 c245 x.fA) gr) (rl:RV g (eS 2 c171 x.fq) ly)
  (b1:x.fp.es.length<=3518437208883) (b2:x.fA.es.length<=3518437208883) (b3:x.fq.es.length<=5864062014805):
  Calls Tryz.prog 228 #[evV x h gr ly] w λe w'=>Below w.heap.size w w'/\∃ uh ug ul mid,e=.returned (evV x uh ug ul)/\w.heap.size<=mid/\mid<=w'.heap.size/\
   Own3 w' w.heap.size w.heap.size mid 182 5 c182 x.fp uh/\Own3 w' w.heap.size w.heap.size mid 245 5 c245 x.fA ug/\Own3 w' w.heap.size mid w'.heap.size 171 2 c171 x.fq ul:=by
 have k1:=λ(W:World) (hB:Below w.heap.size w W)=>calls_sl (cln288 (inv_below hI hB) rh b1)
 have k2:=λ(W:World) (hB:Below w.heap.size w W)=>calls_sl (cln289 (inv_below hI hB) rg b2)
 have k3:=λ(W:World) (hB:Below w.heap.size w W)=>calls_sl (cln290 (inv_below hI hB) rl b3)
 clear hI rh rg rl b1 b2 b3
 obtain⟨⟨x0,x1⟩,x2,⟨x3,x4⟩,xh,xg,x7,x8,x9,xl,x11,x12⟩:=x
 dsimp only at k1 k2 k3
 unfold evV
 dsimp only
 go_enter Tryz.func228,Tryz.ntmps228
 go_upto_region 1 with (fail)
 obtain⟨W0,hW⟩:∃ W:World,W=((w.alloc (.cells #[.int .i64 x0,.int .i64 x1,.int .i64 x2,.int .i64 x3,.int .i64 x4,h,gr,.int .i64 x7,.int .i64 x8,.int .i64 x9,ly,.int .i64 x11,.int .i64 x12] 147)).alloc (.cells #[.int .i64 0,.int .i64 0,.int .i64 0,.int .i64 0,.int .i64 0,.slice none 0 0,.slice none 0 0,.int .i64 0,.int .i64 0,.int .i64 0,.slice none 0 0,.int .i64 0,.int .i64 0] 147)):=⟨_,rfl⟩
 rw[<-hW]
 have hB0:Below w.heap.size w W0:=by rw[hW];go_grown
 have c0:W0.cell? ⟨w.heap.size,0,none⟩=some (.int .i64 x0):=by rw[hW];simp[go_sem]
 have c1:W0.cell? ⟨w.heap.size,1,none⟩=some (.int .i64 x1):=by rw[hW];simp[go_sem]
 have c2:W0.cell? ⟨w.heap.size,2,none⟩=some (.int .i64 x2):=by rw[hW];simp[go_sem]
 have c3:W0.cell? ⟨w.heap.size,3,none⟩=some (.int .i64 x3):=by rw[hW];simp[go_sem]
 have c4:W0.cell? ⟨w.heap.size,4,none⟩=some (.int .i64 x4):=by rw[hW];simp[go_sem]
 have c5:W0.cell? ⟨w.heap.size,5,none⟩=some h:=by rw[hW];simp[go_sem]
 have c6:W0.cell? ⟨w.heap.size,6,none⟩=some gr:=by rw[hW];simp[go_sem]
 have c7:W0.cell? ⟨w.heap.size,7,none⟩=some (.int .i64 x7):=by rw[hW];simp[go_sem]
 have c8:W0.cell? ⟨w.heap.size,8,none⟩=some (.int .i64 x8):=by rw[hW];simp[go_sem]
 have c9:W0.cell? ⟨w.heap.size,9,none⟩=some (.int .i64 x9):=by rw[hW];simp[go_sem]
 have c10:W0.cell? ⟨w.heap.size,10,none⟩=some ly:=by rw[hW];simp[go_sem]
 have c11:W0.cell? ⟨w.heap.size,11,none⟩=some (.int .i64 x11):=by rw[hW];simp[go_sem]
 have c12:W0.cell? ⟨w.heap.size,12,none⟩=some (.int .i64 x12):=by rw[hW];simp[go_sem]
 have z0:W0.cell? ⟨w.heap.size+1,0,none⟩=some (.int .i64 0):=by rw[hW];simp[go_sem]
 have z1:W0.cell? ⟨w.heap.size+1,1,none⟩=some (.int .i64 0):=by rw[hW];simp[go_sem]
 have z2:W0.cell? ⟨w.heap.size+1,2,none⟩=some (.int .i64 0):=by rw[hW];simp[go_sem]
 have z3:W0.cell? ⟨w.heap.size+1,3,none⟩=some (.int .i64 0):=by rw[hW];simp[go_sem]
 have z4:W0.cell? ⟨w.heap.size+1,4,none⟩=some (.int .i64 0):=by rw[hW];simp[go_sem]
 have z5:W0.cell? ⟨w.heap.size+1,5,none⟩=some (.slice none 0 0):=by rw[hW];simp[go_sem]
 have z6:W0.cell? ⟨w.heap.size+1,6,none⟩=some (.slice none 0 0):=by rw[hW];simp[go_sem]
 have z7:W0.cell? ⟨w.heap.size+1,7,none⟩=some (.int .i64 0):=by rw[hW];simp[go_sem]
 have z8:W0.cell? ⟨w.heap.size+1,8,none⟩=some (.int .i64 0):=by rw[hW];simp[go_sem]
 have z9:W0.cell? ⟨w.heap.size+1,9,none⟩=some (.int .i64 0):=by rw[hW];simp[go_sem]
 have z10:W0.cell? ⟨w.heap.size+1,10,none⟩=some (.slice none 0 0):=by rw[hW];simp[go_sem]
 have z11:W0.cell? ⟨w.heap.size+1,11,none⟩=some (.int .i64 0):=by rw[hW];simp[go_sem]
 have z12:W0.cell? ⟨w.heap.size+1,12,none⟩=some (.int .i64 0):=by rw[hW];simp[go_sem]
 have fz:∀ o,W0.frozen? ⟨w.heap.size,o,none⟩=false:=λo=>by rw[hW];simp[go_sem]
 have fz2:∀ o,W0.frozen? ⟨w.heap.size+1,o,none⟩=false:=λo=>by rw[hW];simp[go_sem]
 have hz0:W0.heap.size=w.heap.size+2:=by rw[hW,Xx,Xx]
 clear hW
 have key:∀ w1,Below W0.heap.size W0 w1->w1.cell? ⟨w.heap.size,0,none⟩=some (.int .i64 x0)/\w1.cell? ⟨w.heap.size,1,none⟩=some (.int .i64 x1)/\w1.cell? ⟨w.heap.size,2,none⟩=some (.int .i64 x2)/\w1.cell? ⟨w.heap.size,3,none⟩=some (.int .i64 x3)/\w1.cell? ⟨w.heap.size,4,none⟩=some (.int .i64 x4)/\w1.cell? ⟨w.heap.size,5,none⟩=some h/\w1.cell? ⟨w.heap.size,6,none⟩=some gr/\w1.cell? ⟨w.heap.size,7,none⟩=some (.int .i64 x7)/\w1.cell? ⟨w.heap.size,8,none⟩=some (.int .i64 x8)/\w1.cell? ⟨w.heap.size,9,none⟩=some (.int .i64 x9)/\w1.cell? ⟨w.heap.size,10,none⟩=some ly/\w1.cell? ⟨w.heap.size,11,none⟩=some (.int .i64 x11)/\w1.cell? ⟨w.heap.size,12,none⟩=some (.int .i64 x12):=λw1 hb=>by
  have t:=λo=>hb.cell (p:=⟨w.heap.size,o,none⟩) (show w.heap.size<_ by omega)
  exact⟨(t 0).trans c0,(t 1).trans c1,(t 2).trans c2,(t 3).trans c3,(t 4).trans c4,(t 5).trans c5,(t 6).trans c6,(t 7).trans c7,(t 8).trans c8,(t 9).trans c9,(t 10).trans c10,(t 11).trans c11,(t 12).trans c12⟩
 have keyZ:∀ w1,Below W0.heap.size W0 w1->w1.cell? ⟨w.heap.size+1,0,none⟩=some (.int .i64 0)/\w1.cell? ⟨w.heap.size+1,1,none⟩=some (.int .i64 0)/\w1.cell? ⟨w.heap.size+1,2,none⟩=some (.int .i64 0)/\w1.cell? ⟨w.heap.size+1,3,none⟩=some (.int .i64 0)/\w1.cell? ⟨w.heap.size+1,4,none⟩=some (.int .i64 0)/\w1.cell? ⟨w.heap.size+1,5,none⟩=some (.slice none 0 0)/\w1.cell? ⟨w.heap.size+1,6,none⟩=some (.slice none 0 0)/\w1.cell? ⟨w.heap.size+1,7,none⟩=some (.int .i64 0)/\w1.cell? ⟨w.heap.size+1,8,none⟩=some (.int .i64 0)/\w1.cell? ⟨w.heap.size+1,9,none⟩=some (.int .i64 0)/\w1.cell? ⟨w.heap.size+1,10,none⟩=some (.slice none 0 0)/\w1.cell? ⟨w.heap.size+1,11,none⟩=some (.int .i64 0)/\w1.cell? ⟨w.heap.size+1,12,none⟩=some (.int .i64 0):=λw1 hb=>by
  have t:=λo=>hb.cell (p:=⟨w.heap.size+1,o,none⟩) (show w.heap.size+1<_ by omega)
  exact⟨(t 0).trans z0,(t 1).trans z1,(t 2).trans z2,(t 3).trans z3,(t 4).trans z4,(t 5).trans z5,(t 6).trans z6,(t 7).trans z7,(t 8).trans z8,(t 9).trans z9,(t 10).trans z10,(t 11).trans z11,(t 12).trans z12⟩
 have keyF:∀ w1,Below W0.heap.size W0 w1->∀ o,w1.frozen? ⟨w.heap.size+1,o,none⟩=false:=λw1 hb o=>(hb.frozen (p:=⟨w.heap.size+1,o,none⟩) (show w.heap.size+1<_ by omega)).trans (fz2 o)
 have hKZ:=Lib.hid keyZ
 have hKF:=Lib.hid keyF
 clear keyZ keyF z0 z1 z2 z3 z4 z5 z6 z7 z8 z9 z10 z11 z12 fz2
 clear c0 c1 c2 c3 c4 c7 c8 c9 c11 c12
 have hK:=Lib.hid key
 clear key
 have hB:=Lib.hid hB0
 clear hB0
 go_cut [14] (λs wx=>s=.pointer (some ⟨w.heap.size,10,none⟩)/\∃ (A1 A2 A3:Option Addr) (n1 p1 n2 p2 n3 p3:Nat) (w1 w2 w3 v1 v2:World),Below v1.heap.size v1 w1/\W0.heap.size<=v1.heap.size/\Below w1.heap.size w1 w2/\Below w2.heap.size w2 w3/\Below W0.heap.size W0 w3/\Cln v1 w1 182 5 c182 xh (.slice A1 n1 p1)/\Cln w1 w2 245 5 c245 xg (.slice A2 n2 p2)/\Cln w2 w3 171 2 c171 xl (.slice A3 n3 p3)/\v1=v2/\wx=((w3.setCell ⟨w.heap.size,5,none⟩ (.slice A1 n1 p1)).setCell ⟨w.heap.size,6,none⟩ (.slice A2 n2 p2)).setCell ⟨w.heap.size,10,none⟩ (.slice A3 n3 p3))
 case first=>
  go_region_with
   (first
   |(go_at_call 290
     refine(k3 _ (hB.out.trans (hb2.mono hB.out.size))).mono ?_
     rintro e w3 ⟨A3,n3,p3,rfl,hb3',hc3⟩
     have hb3:=hb2.trans (hb3'.mono hb2.size)
     have f3:=λo=>(hb3.frozen (p:=⟨w.heap.size,o,none⟩) (show w.heap.size<_ by omega)).trans (fz o)
     have cC1:=(hK.out _ hb3).2.2.2.2.2.1
     have cC2:=(hK.out _ hb3).2.2.2.2.2.2.1
     have cC3:=(hK.out _ hb3).2.2.2.2.2.2.2.2.2.2.1)
   |(go_at_call 289
     refine(k2 _ (hB.out.trans (hb1.mono hB.out.size))).mono ?_
     rintro e w2 ⟨A2,n2,p2,rfl,hb2',hc2⟩
     have hb2:=hb1.trans (hb2'.mono hb1.size)
     have f2:=λo=>(hb2.frozen (p:=⟨w.heap.size,o,none⟩) (show w.heap.size<_ by omega)).trans (fz o)
     have cB1:=(hK.out _ hb2).2.2.2.2.2.1
     have cB2:=(hK.out _ hb2).2.2.2.2.2.2.1
     have cB3:=(hK.out _ hb2).2.2.2.2.2.2.2.2.2.2.1)
   |(go_at_call 288
     refine(k1 _ hB.out.drew).mono ?_
     rintro e w1 ⟨A1,n1,p1,rfl,hb1',hc1⟩
     have hb1:Below W0.heap.size W0 w1:=(Below.refl _ W0).drew.trans hb1'
     have f1:=λo=>(hb1.frozen (p:=⟨w.heap.size,o,none⟩) (show w.heap.size<_ by omega)).trans (fz o)
     have cA1:=(hK.out _ hb1).2.2.2.2.2.1
     have cA2:=(hK.out _ hb1).2.2.2.2.2.2.1
     have cA3:=(hK.out _ hb1).2.2.2.2.2.2.2.2.2.2.1))
  all_goals (
   go_wp2_with fail
   go_meet
   exact⟨rfl,_,_,_,_,_,_,_,_,_,_,_,_,_,_,hb1',Nat.le_refl _,hb2',hb3',hb3,hc1,hc2,hc3,rfl,rfl⟩)
 case rest=>
  obtain⟨rfl,A1,A2,A3,n1,p1,n2,p2,n3,p3,w1,w2,w3,v1,_,g1,g0,g2,g3,g4,q1,q2,q3,_,rfl⟩:=hcut
  obtain⟨d0,d1,d2,d3,d4,d5,d6,d7,d8,d9,d10,d11,d12⟩:=hK.out _ g4
  obtain⟨y0,y1,y2,y3,y4,y5,y6,y7,y8,y9,y10,y11,y12⟩:=hKZ.out _ g4
  have f4:=hKF.out _ g4
  have hHB:=Lib.hid (And.intro g0 (And.intro g1 (And.intro g2 (And.intro g3 g4))))
  have hcc:=Lib.hid (And.intro q1 (And.intro q2 q3))
  clear k1 k2 k3 c5 c6 c10 fz hK hKZ hKF g0 g1 g2 g3 g4 q1 q2 q3
  go_wp2_with fail
  obtain⟨g0,g1,g2,g3,g4⟩:=hHB.out
  obtain⟨q1,q2,q3⟩:=hcc.out
  have s1:=g1.size
  have s2:=g2.size
  have s3:=g3.size
  have hT:∀ W,Tt w.heap.size W0.heap.size w w3 W->Below w.heap.size w W/\∃ uh ug ul mid,(Ending.returned (.agg #[.int .i64 x0,.int .i64 x1,.int .i64 x2,.int .i64 x3,.int .i64 x4,.slice A1 n1 p1,.slice A2 n2 p2,.int .i64 x7,.int .i64 x8,.int .i64 x9,.slice A3 n3 p3,.int .i64 x11,.int .i64 x12]):Ending)=.returned (.agg #[.int .i64 x0,.int .i64 x1,.int .i64 x2,.int .i64 x3,.int .i64 x4,uh,ug,.int .i64 x7,.int .i64 x8,.int .i64 x9,ul,.int .i64 x11,.int .i64 x12])/\w.heap.size<=mid/\mid<=W.heap.size/\
    Own3 W w.heap.size w.heap.size mid 182 5 c182 xh uh/\Own3 W w.heap.size w.heap.size mid 245 5 c245 xg ug/\Own3 W w.heap.size mid W.heap.size 171 2 c171 xl ul:=λW hT=>by
   refine⟨hT.1,_,_,_,w2.heap.size,rfl,by omega,by rw[hT.2.1];omega,?_,?_,?_⟩
   ·exact(cln_own q1 (g2.trans (g3.mono g2.size)) hT (by omega) (by omega)).wide (by omega) (by omega)
   ·exact(cln_own q2 g3 hT (by omega) (by omega)).wide (by omega) (by omega)
   ·rw[hT.2.1]
    exact cln_own q3 (Below.refl _ w3) hT (by omega) (by omega)
  refine bodyPost_ret (v:=.agg #[.int .i64 x0,.int .i64 x1,.int .i64 x2,.int .i64 x3,.int .i64 x4,.slice A1 n1 p1,.slice A2 n2 p2,.int .i64 x7,.int .i64 x8,.int .i64 x9,.slice A3 n3 p3,.int .i64 x11,.int .i64 x12]) ?_ rfl (hT _ ?_)
  ·rw[results_cell1 rfl]
   simp[go_sem,y0,y1,y2,y3,y4,y5,y6,y7,y8,y9,y10,y11,y12]
  ·iterate 16 refine tset ?_ (by omega) (by omega)
   exact⟨hB.out.trans (g4.mono hB.out.size),rfl,λ_ _=>rfl⟩
end Go.Proofs.YtibndgdocbbbeaaGreat
namespace Go.Proofs.YtibndgdocbbbeaaGreat
open Go.PE Go.RowKit
theorem acall_bs {f:FuncId} {fn:Func} {args:List PV} {F:List Blk} {r:PV} {rows:List PV} (hf:Tryz.prog.funcs[f]?=some fn) (hn:(fn.name != "runtime.NumGoroutine"&&fn.body.isSome)=true) (hcl:Cls args)
  (h:∀ (g:Gh) (w:World) (vs:Array Value),Inv g [] w->LR g args vs->Calls Tryz.prog f vs w λe w'=>Below w.heap.size w w'/\∃ u bl ws et,e=.returned u/\w.heap.size<=bl/\w'.heap[bl]?=some (.cells ws et (0,0))/\
   (rows.length<=ws.size/\∀ (i:Nat) (p:PV) (v:Value),rows[i]?=some p->ws[i]?=some v->p=.sc v/\plainV v=true)/\
   ∀ g2:Gh,(∀ b o v,b<w.heap.size->g.C b o=some v->g2.C b o=some v)->(∀ b o v,w.heap.size<=b->b≠bl->w'.cell? ⟨b,o,none⟩=some v->g2.C b o=some v)->g2.B F.length=some bl->RV g2 r u):
  ACall Tryz.prog f args F λq k=>q=r/\k=F++[.cells rows]:=by
 simp only[Bool.and_eq_true,bne_iff_ne,ne_eq]at hn
 refine⟨⟨fn,hf,hn.1,hn.2⟩,λg w vs hI hL=>?_⟩
 let g1:Gh:=⟨g.C,λ_ _=>none,λ_=>none,λ_=>none⟩
 have hI1:Inv g1 [] w:=⟨hI.C,λk x h=>by simp at h,λ_ _ h=>(nomatch h),λ_ _ h=>(nomatch h),λ_ _=>rfl,λ_ _ _=>rfl,λ_ _ h=>(nomatch h)⟩
 have hL1:LR g1 args vs:=⟨hL.1,λi p v hp hv=>RV.cl (g:=g) (g2:=g1) (λb o v h=>h) (hL.2 i p v hp hv) (hcl p (List.mem_of_getElem? hp))⟩
 refine(h g1 w vs hI1 hL1).mono ?_
 rintro e w' ⟨hb,u,bl,ws,et,rfl,hge,hheap,⟨hlen,hrow⟩,hu⟩
 have hOlt:∀ b k,g.O b=some k->b<w.heap.size:=λb k h=>hI.lt b k h
 have hOne:∀ b k,g.O b=some k->b≠bl:=λb k h e=>by have:=hOlt b k h;omega
 have hbl:bl<w'.heap.size:=(Array.getElem?_eq_some_iff.1 hheap).1
 have hClt:∀ b o v,g.C b o=some v->b<w.heap.size:=λb o v h=>World.block_lt_of_cell? w ⟨b,o,none⟩ (hI.C b o v h)
 let g2:Gh:=⟨λb o=>if b<w.heap.size then g.C b o else if b=bl then none else w'.cell? ⟨b,o,none⟩,g.T,λk=>if k=F.length then some bl else g.B k,λb=>if b=bl then some F.length else g.O b⟩
 have hle:g.le g2:=⟨λb o v h=>(if_pos (hClt b o v h):(if b<w.heap.size then g.C b o else _)=_).trans h,λ_ _ _ h=>h,λk b h=>by
   show(if k=F.length then some bl else g.B k)=some b
   rw[if_neg (λe=>by rw[e,hI.domB _ (Nat.le_refl _)]at h;cases h)];exact h,λb k h=>by
   show(if b=bl then some F.length else g.O b)=some k
   rw[if_neg (hOne b k h)];exact h⟩
 refine⟨u,r,F++[.cells rows],g2,rfl,⟨rfl,rfl⟩,⟨hle,λk hk=>?_,hb.os,hb.tape,hb.output,hb.size,λb hlt _=>hb.block b hlt,λb k h=>?_,λb o _ hlt=>if_pos hlt⟩,by simp,
  ⟨λb o v h=>?_,λk x h=>?_,λk b h=>?_,λb k h=>?_,λk hk=>?_,λk n hk=>hI.domT k n (by simp at hk;omega),λb k h=>?_⟩,hu g2 (λb o v hlt hc=>(if_pos hlt:(if b<w.heap.size then g.C b o else _)=_).trans hc) (λb o v hge' hne hc=>?_) (if_pos rfl)⟩
 ·show(if k=F.length then some bl else g.B k)=g.B k
  rw[if_neg (by omega)]
 ·have h:(if b=bl then some F.length else g.O b)=some k:=h
  split at h
  ·right;omega
  ·exact .inl h
 ·have h:(if b<w.heap.size then g.C b o else if b=bl then none else w'.cell? ⟨b,o,none⟩)=some v:=h
  split at h
  ·rename_i hlt
   exact(hb.cell (p:=⟨b,o,none⟩) hlt).trans (hI.C b o v h)
  ·split at h
   ·cases h
   ·exact h
 ·rcases Nat.lt_or_ge k F.length with h1|h1
  ·rw[List.getElem?_append_left h1]at h
   refine(hI.blk k x h).keep hle (if_neg (by omega)) (λi=>rfl) (λc hc=>?_) hI.own
   have hlt:=hOlt c k hc
   exact⟨hb.block c hlt,λq=>if_pos hlt⟩
  ·rw[List.getElem?_append_right h1]at h
   have h2:x=.cells rows:=by
    have:=List.mem_of_getElem? h
    simpa using this
   have hk:k=F.length:=by
    have:=(List.getElem?_eq_some_iff.1 h).1
    simp at this
    omega
   subst h2 hk
   refine .inr ⟨bl,ws,et,if_pos rfl,hheap,⟨hlen,λi p v hp hv=>?_⟩,λo=>?_⟩
   ·obtain⟨rfl,hpl⟩:=hrow i p v hp hv
    exact .sc hpl
   ·show(if bl<w.heap.size then g.C bl o else if bl=bl then none else _)=none
    rw[if_neg (by omega),if_pos rfl]
 ·have h:(if k=F.length then some bl else g.B k)=some b:=h
  show(if b=bl then some F.length else g.O b)=some k
  split at h
  ·rename_i e
   cases h
   rw[if_pos rfl,e]
  ·have:=hI.own k b h
   rw[if_neg (hOne b k this)]
   exact this
 ·have h:(if b=bl then some F.length else g.O b)=some k:=h
  split at h
  ·rename_i e;rw[e];exact hbl
  ·have:=hOlt b k h
   have:=hb.size
   omega
 ·show(if k=F.length then some bl else g.B k)=none
  simp at hk
  rw[if_neg (by omega)]
  exact hI.domB k (by omega)
 ·have h:(if b=bl then some F.length else g.O b)=some k:=h
  split at h
  ·cases h;simp
  ·have:=hI.domO b k h
   simp;omega
 ·show(if b<w.heap.size then g.C b o else if b=bl then none else w'.cell? ⟨b,o,none⟩)=some v
  rw[if_neg (by omega),if_neg hne]
  exact hc
def fzS {α:Type}:Sl α->Sl α
 |.nil=>.nil
 |x=>.no x.es
abbrev evP (x:G147) (h gr ly:PV):PV:=.agg [iP x.fID.fO,iP x.fID.fT,iP x.fm,iP x.fy.fF,iP x.fy.fL,h,gr,iP x.f8,iP x.fae,iP x.fab,ly,iP x.faj,iP x.fas]
theorem rv_ev {g:Gh} {x:G147} {h gr ly:Value} {p q r:PV} (h1:RV g p h) (h2:RV g q gr) (h3:RV g r ly):RV g (evP x p q r) (evV x h gr ly):=.agg rfl λi a v ha hv=>by
 match i,ha,hv with
 |0,ha,hv=>simp at ha hv;subst ha hv;exact .sc rfl
 |1,ha,hv=>simp at ha hv;subst ha hv;exact .sc rfl
 |2,ha,hv=>simp at ha hv;subst ha hv;exact .sc rfl
 |3,ha,hv=>simp at ha hv;subst ha hv;exact .sc rfl
 |4,ha,hv=>simp at ha hv;subst ha hv;exact .sc rfl
 |5,ha,hv=>simp at ha hv;subst ha hv;exact h1
 |6,ha,hv=>simp at ha hv;subst ha hv;exact h2
 |7,ha,hv=>simp at ha hv;subst ha hv;exact .sc rfl
 |8,ha,hv=>simp at ha hv;subst ha hv;exact .sc rfl
 |9,ha,hv=>simp at ha hv;subst ha hv;exact .sc rfl
 |10,ha,hv=>simp at ha hv;subst ha hv;exact h3
 |11,ha,hv=>simp at ha hv;subst ha hv;exact .sc rfl
 |12,ha,hv=>simp at ha hv;subst ha hv;exact .sc rfl
 |i+13,ha,hv=>simp at ha
theorem own_rv {α:Type} {c:α->List PV} {s e B lo hi bl:Nat} {x:Sl α} {u:Value} {w0 w':World} {g2:Gh} (hf:Flat c s) (h:Own3 w' B lo hi e s c x u) (hlo:w0.heap.size<=lo) (hbl:hi<=bl) (hC:∀ b o v,w0.heap.size<=b->b≠bl->w'.cell? ⟨b,o,none⟩=some v->g2.C b o=some v):RV g2 (eS s c (fzS x)) u:=by
 rcases h with ⟨rfl,rfl⟩|⟨hx,b,cap,rfl,h1,h2,h3⟩
 ·exact .nilsl _ _
 ·have:=rv_cut hf (g:=g2) h3 rfl (λo v hv=>hC b o v (by omega) (by omega) hv) (Nat.le_refl _)
  rw[List.take_length]at this
  cases x with
  |nil=>exact absurd rfl hx
  |no l=>exact this
  |full l=>exact this
theorem one_arg {g:Gh} {p:PV} {vs:Array Value} (h:LR g [p] vs):∃ v,vs=#[v]/\RV g p v:=by
 have hn:vs.size=1:=h.1.symm
 refine⟨vs[0]'(by omega),?_,h.2 0 p _ rfl (Array.getElem?_eq_getElem _)⟩
 apply Array.ext (by simpa using hn)
 intro i hi hj
 match i,hi with
 |0,_=>rfl
 |i+1,hi=>omega
theorem CF228m {x:G147} (b1:x.fp.es.length<=3518437208883) (b2:x.fA.es.length<=3518437208883) (b3:x.fq.es.length<=5864062014805) (hl:x.fq≠.nil) {F:List Blk}:
  ACall Tryz.prog 228 [.agg (c147 x)] F λq k=>q=evP x (eS 5 c182 (fzS x.fp)) (eS 5 c245 (fzS x.fA)) (.bs F.length 0 x.fq.es.length 2 false)/\k=F++[.cells ((x.fq.es.map c171).flatten)]:=by
 refine acall_bs Tryz.func228 (by kernel_rfl) (Cls.cons (.agg (cl147 x)) Cls.nil) λg w vs hI hL=>?_
 obtain⟨v,rfl,hv⟩:=one_arg hL
 obtain⟨h,gr,ly,rfl,rh,rg,rl⟩:=form147 hv
 refine(cloneEv hI rh rg rl b1 b2 b3).mono ?_
 rintro e w' ⟨hb,uh,ug,ul,mid,rfl,hm1,hm2,o1,o2,o3⟩
 refine⟨hb,?_⟩
 rcases o3 with ⟨h0,_⟩|⟨_,bl,cap,rfl,h1,h2,h3⟩
 ·exact absurd h0 hl
 rcases h3.2 with ⟨h4,_⟩|⟨g',cap',cur,h4,h5,h6,h7,h8,h9,h10⟩
 ·cases h4
 cases h4
 refine⟨_,bl,cur,171,rfl,by omega,h6,⟨?_,λi p v hp hv=>?_⟩,λg2 _ hC hB=>rv_ev (own_rv flat182 o1 (w0:=w) (Nat.le_refl _) h1 hC) (own_rv flat245 o2 (w0:=w) (Nat.le_refl _) h1 hC) ?_⟩
 ·rw[rowf_len (c:=c171) (s:=2) (λx=>rfl),h9]
  exact Nat.mul_le_mul_right _ h7
 ·have hlt:i<x.fq.es.length*2:=by
   have:=(List.getElem?_eq_some_iff.1 hp).1
   rwa [rowf_len (c:=c171) (s:=2) (λx=>rfl)]at this
  have hc:(Za c171 x.fq.es)[i]?=some v:=by
   rw[<-h10,List.getElem?_take_of_lt hlt,Array.getElem?_toList]
   exact hv
  have e1:Za c171 x.fq.es=((x.fq.es.map c171).flatten).map valP:=by
   unfold Za
   rw[List.map_flatten,List.map_map,List.flatMap_def]
   rfl
  rw[e1,List.getElem?_map,hp]at hc
  obtain⟨e,he,hpe⟩:=List.mem_flatten.1 (List.mem_of_getElem? hp)
  obtain⟨y,_,rfl⟩:=List.mem_map.1 he
  obtain⟨z,rfl,hz,_⟩:=(flat171 y).2 p hpe
  cases hc
  exact⟨rfl,hz⟩
 ·exact .bs hB h7 h8 (λh=>by cases h) (λ_=>rfl)
theorem CF228n {x:G147} (b1:x.fp.es.length<=3518437208883) (b2:x.fA.es.length<=3518437208883) (hl:x.fq=.nil):
  ACall Tryz.prog 228 [.agg (c147 x)] [] λq k=>q=evP x (eS 5 c182 (fzS x.fp)) (eS 5 c245 (fzS x.fA)) (eS 2 c171 .nil)/\k=[]:=by
 refine acall_via Tryz.func228 (by kernel_rfl) λg w vs hI hL=>?_
 obtain⟨v,rfl,hv⟩:=one_arg hL
 obtain⟨h,gr,ly,rfl,rh,rg,rl⟩:=form147 hv
 refine(cloneEv hI rh rg rl b1 b2 (by rw[hl];simp[Sl.es])).mono ?_
 rintro e w' ⟨hb,uh,ug,ul,mid,rfl,hm1,hm2,o1,o2,o3⟩
 refine⟨hb,_,rfl,λg2 _ hC=>?_⟩
 rcases o3 with ⟨_,rfl⟩|⟨h0,_⟩
 ·exact rv_ev (own_rv flat182 o1 (w0:=w) (Nat.le_refl _) (Nat.le_refl _) λb o v h _=>hC b o v h) (own_rv flat245 o2 (w0:=w) (Nat.le_refl _) (Nat.le_refl _) λb o v h _=>hC b o v h) (.nilsl _ _)
 ·exact absurd hl h0
end Go.Proofs.YtibndgdocbbbeaaGreat
namespace Go.Proofs.YtibndgdocbbbeaaGreat
open Go.PE Go.RowKit
set_option maxRecDepth 100000
set_option maxHeartbeats 4000000
theorem gcut {α:Type} (n:Nat) (k:Int) (hk:k=n) (x:Sl α):gslR (fzS x) 0 (if k<ln (fzS x)then k else ln (fzS x))=some (Yn n x):=by
 subst hk
 have key:∀ es:List α,gslR (.no es) 0 (if (n:Int)<((es.length:Nat):Int)then (n:Int)else ((es.length:Nat):Int))=some (.no (es.take n)):=λes=>by
  unfold gslR
  by_cases h:(n:Int)<((es.length:Nat):Int)
  ·rw[if_pos h,if_pos ⟨by omega,by omega,by simp,by simp[Sl.es];omega⟩]
   simp
  ·rw[if_neg h,if_pos ⟨by omega,by omega,by simp,by simp[Sl.es]⟩]
   simp
   rw[List.take_of_length_le (by omega)]
 cases x with
 |nil=>
  show gslR (.nil:Sl α) 0 (if (n:Int)<((0:Nat):Int)then _ else ((0:Nat):Int))=_
  rw[if_neg (by omega)]
  rfl
 |no es=>exact key es
 |full es=>exact key es
def shortB (m:Nat) (s:Int×List G171):Option ((Int×List G171)⊕List G171):=match s with
 |(i,l)=>bif decide (i<(m:Int))then (gin i m).bind λ_=>(gx l i).bind λy=>(gsub y.fD 0 (if (30)<lns y.fD then (30)else lns y.fD)).bind λt=>(gset l i ⟨t,y.fah⟩).bind λl'=>some (.inl (wi (i+1),l'))else some (.inr l)
theorem short_loop (l:List G171) (m:Nat) (hm:m<=l.length) (h5:m<=5):Xj (shortB m) (0,l)=some ((l.take m).map cutT++l.drop m):=by
 have step:∀ s:Int×List G171,(∃ k:Nat,s.1=k/\k<=m/\s.2=(l.take k).map cutT++l.drop k)->(∃ s',shortB m s=some (.inl s')/\(∃ k:Nat,s'.1=k/\k<=m/\s'.2=(l.take k).map cutT++l.drop k)/\m-s'.1.toNat<m-s.1.toNat)\/∃ t,shortB m s=some (.inr t)/\t=(l.take m).map cutT++l.drop m:=λs hs=>by
  obtain⟨i,q⟩:=s
  obtain⟨k,hi,hk,hq⟩:=hs
  dsimp only at hi hq
  subst hi hq
  by_cases hlt:k<m
  ·left
   have hkl:k<l.length:=by omega
   have hx:gx ((l.take k).map cutT++l.drop k) (k:Int)=some l[k]:=by
    unfold gx
    rw[if_pos (by omega),Int.toNat_natCast,List.getElem?_append_right (by simp;omega)]
    simp[Nat.min_eq_left (Nat.le_of_lt hkl)]
   have hsb:gsub (l[k]).fD 0 (if (30)<lns (l[k]).fD then (30)else lns (l[k]).fD)=some (cutT l[k]).fD:=by
    unfold gsub cutT
    by_cases h:(30:Int)<lns (l[k]).fD
    ·have h':30<(l[k]).fD.size:=by simp only[lns]at h;omega
     rw[if_pos h,if_pos ⟨by omega,by omega,by simp,by simp;omega⟩]
     simp[Nat.min_eq_right (Nat.le_of_lt h')]
    ·have h':¬ 30<(l[k]).fD.size:=by simp only[lns]at h;omega
     rw[if_neg h,if_pos ⟨by omega,by simp only[lns];omega,by simp,by simp[lns]⟩]
     simp only[lns,Int.toNat_natCast,Nat.min_eq_left (Nat.le_of_not_lt h')]
     rfl
   have hst:gset ((l.take k).map cutT++l.drop k) (k:Int) ⟨(cutT l[k]).fD,(l[k]).fah⟩=some ((l.take (k+1)).map cutT++l.drop (k+1)):=by
    unfold gset
    rw[if_pos ⟨by omega,by simp;omega⟩,Int.toNat_natCast]
    congr 1
    rw[List.set_append_right _ _ (by simp;omega)]
    have e1:k-((l.take k).map cutT).length=0:=by simp;omega
    rw[e1,List.drop_eq_getElem_cons hkl,List.set_cons_zero]
    have e2:l.take (k+1)=l.take k++[l[k]]:=by rw[List.take_succ_eq_append_getElem hkl]
    rw[e2,List.map_append,List.append_assoc]
    rfl
   refine⟨(wi ((k:Int)+1),(l.take (k+1)).map cutT++l.drop (k+1)),?_,⟨k+1,?_,by omega,rfl⟩,?_⟩
   ·show shortB m ((k:Int),_)=_
    unfold shortB
    simp only[show decide ((k:Int)<(m:Int))=true from decide_eq_true (by omega),cond_true,hx,Option.bind_some,hsb,hst]
    rw[show gin (k:Int) m=some () by unfold gin;rw[if_pos ⟨by omega,by omega⟩]]
    rfl
   ·show wi ((k:Int)+1)=((k+1:Nat):Int)
    rw[Yc (by omega) (by omega)]
    rfl
   ·show m-(wi ((k:Int)+1)).toNat<m-((k:Int)).toNat
    rw[Yc (by omega) (by omega)]
    omega
  ·right
   obtain rfl:k=m:=by omega
   refine⟨_,?_,rfl⟩
   show shortB k ((k:Int),_)=_
   unfold shortB
   simp only[show decide ((k:Int)<(k:Int))=false from decide_eq_false (by omega),cond_false]
 obtain⟨t,ht,e⟩:=Zi (body:=shortB m) (λs=>∃ k:Nat,s.1=k/\k<=m/\s.2=(l.take k).map cutT++l.drop k) (λs=>m-s.1.toNat) (λt=>t=(l.take m).map cutT++l.drop m) step (s:=(0,l)) ⟨0,rfl,by omega,by simp⟩ (by show m-_<_;omega)
 rw[ht,e]
def Z147:List PV:=[iP 0,iP 0,iP 0,iP 0,iP 0,(.sl true .full 0 []),(.sl true .full 0 []),iP 0,iP 0,iP 0,(.sl true .full 0 []),iP 0,iP 0]
abbrev aS (x:G147) (p q r:PV):List PV:=[iP x.fID.fO,iP x.fID.fT,iP x.fm,iP x.fy.fF,iP x.fy.fL,p,q,iP x.f8,iP x.fae,iP x.fab,r,iP x.faj,iP x.fas]
abbrev rowsY (l:List G171):Blk:=.cells ((l.map c171).flatten)
theorem CF201 {v0 out} (hF:F201 v0=some out):A0 201 [(.agg (c147 v0))] (.agg (c147 out)):=by
 unfold F201 at hF
 rcases cor hF with ⟨c,hF⟩|⟨_,hF⟩
 ·obtain rfl:=soj hF
  simp only[Bool.and_eq_true,decide_eq_true_eq]at c
  obtain⟨⟨b1,b2⟩,b3⟩:=c
  have q1:=gcut 5 5 rfl v0.fp
  have q2:=gcut 4 4 rfl v0.fA
  by_cases hl:v0.fq=.nil
  ·have e:S201 v0={ v0 with fp:=Yn 5 v0.fp,fA:=Yn 4 v0.fA,fq:=.nil }:=by
    unfold S201
    rw[hl]
    rfl
   rw[e]
   have hloop:Xj (λi:Int=>bif decide (i<ln (Sl.nil:Sl G171))then none else some (.inr ():Int⊕Unit)) 0=some ():=by
    obtain⟨t,ht,_⟩:=Zi (body:=λi:Int=>bif decide (i<ln (Sl.nil:Sl G171))then none else some (.inr ():Int⊕Unit)) (λi=>i=0) (λ_=>0) (λ_=>True) (λi hi=>.inr ⟨(),by subst hi;rfl,trivial⟩) (s:=0) rfl (by omega)
    exact ht
   refine gC Tryz.func201 ?_
   refine gP 2 [re 2,.r (es 1 (kC (CF228n b1 b2 hl)::es 1 [])) [],
    .r (es 4 (kL 5 c182 (fzS v0.fp)::es 1 (⟨.pu (.slSl 5 (.c (eS 5 c182 (fzS v0.fp))) none (some (.c (iP (if (5)<ln (fzS v0.fp)then (5)else ln (fzS v0.fp))))) none) (eS 5 c182 (Yn 5 v0.fp)),Wg q1⟩ ::
     es 4 (kL 5 c245 (fzS v0.fA)::es 1 (⟨.pu (.slSl 5 (.c (eS 5 c245 (fzS v0.fA))) none (some (.c (iP (if (4)<ln (fzS v0.fA)then (4)else ln (fzS v0.fA))))) none) (eS 5 c245 (Yn 4 v0.fA)),Wg q2⟩ ::
     es 4 (kL 2 c171 .nil::es 1 (⟨.pu (.slSl 2 (.c (eS 2 c171 .nil)) none (some (.c (iP (if (5)<ln (Sl.nil:Sl G171)then (5)else ln (Sl.nil:Sl G171))))) none) (eS 2 c171 .nil),Wg (gcut 5 5 rfl .nil)⟩::es 4 [])))))))
     (es 2 [])] [(1,(.bp 0 0)),(2,(.bp 1 0))] [.cells (aS v0 (eS 5 c182 (Yn 5 v0.fp)) (eS 5 c245 (Yn 4 v0.fA)) (eS 2 c171 .nil)),.cells Z147] ?_
   refine gS ?_
   refine gP 0 [re 1] [(1,(.bp 0 0)),(2,(.bp 1 0)),(3,iP 0)] [.cells (aS v0 (eS 5 c182 (Yn 5 v0.fp)) (eS 5 c245 (Yn 4 v0.fA)) (eS 2 c171 .nil)),.cells Z147] ?_
   refine gB 0 ?_
   refine gL hloop (λi=>([(1,(.bp 0 0)),(2,(.bp 1 0)),(3,iP i)],[.cells (aS v0 (eS 5 c182 (Yn 5 v0.fp)) (eS 5 c245 (Yn 4 v0.fA)) (eS 2 c171 .nil)),.cells Z147])) wm ?_
   rintro i o hs hu
   rcases cor hs with ⟨h1,hs⟩|⟨h1,hs⟩
   ·cases hs
   ·cases hs
    refine Xi [.r (es 3 (kL 2 c171 .nil::es 1 [])) [],bb h1] (.exit 0) [(1,(.bp 0 0)),(2,(.bp 1 0))] [.cells (aS v0 (eS 5 c182 (Yn 5 v0.fp)) (eS 5 c245 (Yn 4 v0.fA)) (eS 2 c171 .nil)),.cells Z147] (λe hw=>?_)
    refine Xh ⟨_,_,hw,?_⟩
    exact gE [re 2]
  ·let L:=v0.fq.es
   let m:Nat:=(if (5:Int)<((v0.fq.es.length:Nat):Int)then (5:Int)else ((v0.fq.es.length:Nat):Int)).toNat
   have hm:m<=v0.fq.es.length:=by show(if (5:Int)<_ then _ else _:Int).toNat<=_;split<;>omega
   have hm5:m<=5:=by show(if (5:Int)<_ then _ else _:Int).toNat<=_;split<;>omega
   have hloop:=short_loop v0.fq.es m hm hm5
   have e:S201 v0={ v0 with fp:=Yn 5 v0.fp,fA:=Yn 4 v0.fA,fq:=.no (((v0.fq.es.take m).map cutT++v0.fq.es.drop m).take m) }:=by
    have e1:((v0.fq.es.take m).map cutT++v0.fq.es.drop m).take m=(v0.fq.es.take 5).map cutT:=by
     have e2:((v0.fq.es.take m).map cutT).length=m:=by simp;omega
     rw[List.take_append_of_le_length (by omega),List.take_of_length_le (by omega)]
     congr 1
     show v0.fq.es.take (if (5:Int)<((v0.fq.es.length:Nat):Int)then (5:Int)else ((v0.fq.es.length:Nat):Int)).toNat=_
     split
     ·rfl
     ·rw[List.take_of_length_le (by omega),List.take_of_length_le (by omega)]
    rw[e1]
    unfold S201
    congr 1
    generalize v0.fq=x at *
    cases x with
    |nil=>exact absurd rfl hl
    |no es=>rfl
    |full es=>rfl
   rw[e]
   generalize hR:(v0.fq.es.take m).map cutT++v0.fq.es.drop m=R at *
   have hmR:m<=R.length:=by rw[<-hR];simp;omega
   refine gC Tryz.func201 ?_
   refine gP 2 [re 2,.r (es 1 (⟨.st (.call (.c (.fn (.func 228) [] [])) [.c (.agg (c147 v0))]) [.cells (c147 v0),.cells Z147] (evP v0 (eS 5 c182 (fzS v0.fp)) (eS 5 c245 (fzS v0.fA)) (.bs 2 0 v0.fq.es.length 2 false)) [.cells (c147 v0),.cells Z147,rowsY v0.fq.es] 2,⟨by
     show XCall Tryz.prog 228 [.agg (c147 v0)] [.cells (c147 v0),.cells Z147] _
     exact .inl (CF228m b1 b2 b3 hl),Same.app _ _ _⟩⟩::es 1 [])) [],
    .r (es 4 (kL 5 c182 (fzS v0.fp)::es 1 (⟨.pu (.slSl 5 (.c (eS 5 c182 (fzS v0.fp))) none (some (.c (iP (if (5)<ln (fzS v0.fp)then (5)else ln (fzS v0.fp))))) none) (eS 5 c182 (Yn 5 v0.fp)),Wg q1⟩ ::
     es 4 (kL 5 c245 (fzS v0.fA)::es 1 (⟨.pu (.slSl 5 (.c (eS 5 c245 (fzS v0.fA))) none (some (.c (iP (if (4)<ln (fzS v0.fA)then (4)else ln (fzS v0.fA))))) none) (eS 5 c245 (Yn 4 v0.fA)),Wg q2⟩ ::
     es 4 (⟨.pu (.len (.c (.bs 2 0 v0.fq.es.length 2 false))) (iP ((v0.fq.es.length:Nat):Int)),n_lenB⟩::es 1 (⟨.pu (.slSl 2 (.c (.bs 2 0 v0.fq.es.length 2 false)) none (some (.c (iP (if (5)<((v0.fq.es.length:Nat):Int)then (5)else ((v0.fq.es.length:Nat):Int))))) none) (.bs 2 0 m 2 false),n_slBh (by split<;>omega) (by split<;>omega)⟩::es 4 [])))))))
     (es 2 [])] [(1,(.bp 0 0)),(2,(.bp 1 0))] [.cells (aS v0 (eS 5 c182 (Yn 5 v0.fp)) (eS 5 c245 (Yn 4 v0.fA)) (.bs 2 0 m 2 false)),.cells Z147,rowsY v0.fq.es] ?_
   refine gS ?_
   refine gP 0 [re 1] [(1,(.bp 0 0)),(2,(.bp 1 0)),(3,iP 0)] [.cells (aS v0 (eS 5 c182 (Yn 5 v0.fp)) (eS 5 c245 (Yn 4 v0.fA)) (.bs 2 0 m 2 false)),.cells Z147,rowsY v0.fq.es] ?_
   refine gB 0 ?_
   refine gL hloop (λ(i,l)=>([(1,(.bp 0 0)),(2,(.bp 1 0)),(3,iP i)],[.cells (aS v0 (eS 5 c182 (Yn 5 v0.fp)) (eS 5 c245 (Yn 4 v0.fA)) (.bs 2 0 m 2 false)),.cells Z147,rowsY l])) wm ?_
   rintro⟨i,l⟩ o hs hu
   unfold shortB at hs
   rcases cor hs with ⟨h1,hs⟩|⟨h1,hs⟩
   ·obtain⟨u,h2,y,h3,t,h4,hs⟩:=bs3 hs
    obtain⟨l2,h5,hs⟩:=Xa hs
    cases hs
    refine g_to [.r (es 3 (⟨.pu (.len (.c (.bs 2 0 m 2 false))) (iP ((m:Nat):Int)),n_lenB⟩::es 1 [])) [],bb h1,
     .r (es 6 (⟨.pu (.iaddrS 2 (.c (.bs 2 0 m 2 false)) (.c (iP i))) (.bp 2 (0+Int.toNat i*2)),n_iaddrB h2⟩::es 1 (⟨.fd (.load none (.c (.bp 2 (0+Int.toNat i*2+0)))) [2] [rowsY l] (sP y.fD),fd_loadR h3 (λ_=>rfl) rfl⟩ ::
      es 3 (⟨.pu (.iaddrS 2 (.c (.bs 2 0 m 2 false)) (.c (iP i))) (.bp 2 (0+Int.toNat i*2)),n_iaddrB h2⟩::es 1 (⟨.fd (.load none (.c (.bp 2 (0+Int.toNat i*2+0)))) [2] [rowsY l] (sP y.fD),fd_loadR h3 (λ_=>rfl) rfl⟩ ::
      es 2 (⟨.pu (.slStr (.c (sP y.fD)) none (some (.c (iP (if (30)<lns y.fD then (30)else lns y.fD))))) (sP t),n_subl h4⟩::[]))))))
      (⟨.pu (.iaddrS 2 (.c (.bs 2 0 m 2 false)) (.c (iP i))) (.bp 2 (0+Int.toNat i*2)),n_iaddrB h2⟩::es 1 (⟨.fr (.store 1 (.c (.bp 2 (0+Int.toNat i*2+0))) (.c (sP t))) [2] [rowsY l] [rowsY l2] (.tup []),fr_storeR h5 (λ_=>rfl) (λz hz=>by cases h3.symm.trans hz;rfl) (by decide) rfl rfl⟩::[])),re 3] .normal λ_ hw=>⟨rfl,hw⟩
   ·cases hs
    obtain rfl:=hu _ rfl
    refine Xi [.r (es 3 (⟨.pu (.len (.c (.bs 2 0 m 2 false))) (iP ((m:Nat):Int)),n_lenB⟩::es 1 [])) [],bb h1] (.exit 0) [(1,(.bp 0 0)),(2,(.bp 1 0))] [.cells (aS v0 (eS 5 c182 (Yn 5 v0.fp)) (eS 5 c245 (Yn 4 v0.fA)) (.bs 2 0 m 2 false)),.cells Z147,rowsY l] (λe hw=>?_)
    have cl:∀ {p:PV} [ClP p],Fzr 2 2 c171 l p p:=λ{p} h=>.cl h.h
    refine Xh ⟨_,_,hw.trans (weak_frzG (l:=l) (c:=c171) (s:=2) (k:=2) (le':=[(1,(.bp 0 0)),(2,(.bp 1 0))])
     (H':=[.cells (aS v0 (eS 5 c182 (Yn 5 v0.fp)) (eS 5 c245 (Yn 4 v0.fA)) (.sl false .no 2 ((l.take m).map c171))),.cells Z147,.cells []]) (Nat.zero_le _) rfl (λ_=>rfl) cl171 ⟨.bp (by decide),.bp (by decide),trivial⟩
     ⟨.inr (.inl ⟨_,_,rfl,rfl,⟨cl,cl,cl,cl,cl,cl,cl,cl,cl,cl,.row hmR,cl,cl,trivial⟩⟩),.inr (.inr ⟨(by show Cls Z147;unfold Z147;exact ClL.h),rfl⟩),.inl ⟨rfl,rfl⟩,trivial⟩),?_⟩
    exact gE [re 2]
 ·cases hF
end Go.Proofs.YtibndgdocbbbeaaGreat
