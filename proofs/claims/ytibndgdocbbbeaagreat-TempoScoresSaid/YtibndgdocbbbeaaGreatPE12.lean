/- A part of the proof. -/
import Derived.Test.YtibndgdocbbbeaaGreatPE11n
set_option linter.all false
namespace Go.PE
open Go.RowKit
section
variable {P:Program} {g:Gh} {H H':List Blk} {w:World} {env:List PV} {a:Act} {p:PV}
theorem out_move (hI:Inv g H w) {v:Value} (h:RV g p v):Out P (pure (.value v)) H.length g w p H:=⟨v,w,g,.inl rfl,.refl _ g w,hI,h⟩
theorem asBool_sc {b:Bool} {v:Value} (h:RV g (.sc (.bool b)) v):v=.bool b:=(Yr h).1
theorem Zl {c:Call} {b:Builtin} {ty:TypeId} {s:Sem Value} (hcal:c.callee=.builtin b) (h:Out P (do pure (.value (<-s))) H.length g w p H') (hb:builtin b c.argTypes ty (c.args.map fun|.const _=>true|_=>false) (c.args.map a.eval)=(do pure (.value (<-s)))):
  Out P (do let d <-resolve a.eval c ty;invoke d.target d.args) H.length g w p H':=by
 have e:(do let d <-resolve a.eval c ty;invoke d.target d.args:Sem Next)=(do pure (.value (<-s))):=by
  rw[<-hb]
  simp only[resolve,hcal,invoke]
  rfl
 rw[e];exact h
theorem two_ints {k k':IntKind} {n m:Int} {l:List Value} (h:LR g [.sc (.int k n),.sc (.int k' m)] l.toArray):l=[.int k n,.int k' m]:=by
 match l,h with
 |[],h=>simp[LR]at h
 |[_],h=>simp[LR]at h
 |[u,v],h=>
  have h1:=(Yr (h.2 0 _ u rfl rfl)).1
  have h2:=(Yr (h.2 1 _ v rfl rfl)).1
  rw[h1,h2]
 |_::_::_::_,h=>simp[LR]at h
theorem flat_LR:∀ {ps:List PV} {vs:List Value},LR g ps vs.toArray->ps.all (λp=>p.cells.all PV.cellP)=true->LR g (ps.flatMap PV.cells) (vs.flatMap λv=>v.cells.toList).toArray
 |[],[],_,_=>LR.nil
 |[],_::_,h,_=>by simp[LR]at h
 |_::_,[],h,_=>by simp[LR]at h
 |p::ps,v::vs,h,hc=>by
  simp only[List.all_cons,Bool.and_eq_true]at hc
  have h0:RV g p v:=h.2 0 p v rfl rfl
  have hp:p≠.any:=by rintro rfl;simp[PV.cells,PV.cellP]at hc
  have h1:=h0.cellsLR hp
  have h2:=flat_LR (ps:=ps) (vs:=vs) ⟨by simpa using h.1,λi q u hq hu=>h.2 (i+1) q u (by simpa using hq) (by simpa using hu)⟩ hc.2
  have:=h1.append h2
  have e:(v.cells.toList++vs.flatMap λv=>v.cells.toList).toArray=v.cells++(vs.flatMap λv=>v.cells.toList).toArray:=by apply Array.ext';simp
  rw[List.flatMap_cons,List.flatMap_cons,e]
  exact this
theorem out_buildSl (hI:Inv g H w) {t e:TypeId} {s len:Nat} {zv:Value} (hu:P.underlying t=some (.slice e)) (hs:Zh P e=some s) (hz:∀ w,(zeroValue e).run P w=.ok zv w) {ps:List PV} {vs:List Value} (hL:LR g ps vs.toArray)
  (hall:ps.all (λp=>p.cells.length==s&&p.cells.all PV.cellP)=true) (hlen:ps.length=len) (h1:len*s<=16777216) (h2:len<=16777216) {parts:Array (Nat×Value)} (hparts:parts.toList=(vs.zipIdx 0).map λx=>(x.2,x.1)):
  ∃ v w' g',(Instr.buildSlice t len parts).run P w=.ok v w'/\Step H.length g w g' w'/\Inv g' H w'/\RV g' (.sl false .full s (ps.map PV.cells)) v:=by
 have hc1:ps.all (λp=>p.cells.all PV.cellP)=true:=by
  rw[List.all_eq_true]at hall ⊢
  intro p hp
  have:=hall p hp
  simp only[Bool.and_eq_true]at this
  exact this.2
 have hsz:∀ p∈ps,p.cells.length=s:=λp hp=>by
  have:=List.all_eq_true.1 hall p hp
  simp only[Bool.and_eq_true,beq_iff_eq]at this
  exact this.1
 have hvl:vs.length=len:=by rw[<-hlen];simpa using hL.1.symm
 have hvs:∀ v∈vs,v.cells.size=s:=λv hv=>by
  obtain⟨i,hi,rfl⟩:=List.mem_iff_getElem.1 hv
  have hip:i<ps.length:=by omega
  have h0:=hL.2 i ps[i] vs[i] (List.getElem?_eq_getElem hip) (by simp[hi])
  have hp:ps[i]≠.any:=by
   intro e
   have:=List.all_eq_true.1 hc1 _ (List.getElem_mem hip)
   rw[e]at this;simp[PV.cells,PV.cellP]at this
  rw[<-(h0.cellsLR hp).1]
  exact hsz _ (List.getElem_mem hip)
 have hF:=flat_LR hL hc1
 let Z:Array Value:=if len*s=0 then #[] else zv.cells
 have hfill:=fill_all (size:=s) vs 0 [] ((Array.range (len*s)).map λi=>Z[i%Z.size]!) hvs (by simp) (by simp[hvl]) (by simp)
 obtain⟨g',hS,hI',hC⟩:=new_row hI (vs.flatMap λv=>v.cells.toList).toArray e
 refine⟨.slice (some ⟨w.heap.size,0,none⟩) len len,_,g',?_,hS,hI',?_⟩
 ·simp only[List.nil_append]at hfill
  simp only[Instr.buildSlice,Sem.run_bind,run_underlying hu,Result.andThen_ok,Zc hs,if_neg (show ¬ len*s>2^24 by omega),hparts]
  by_cases h0:len*s=0
  ·simp only[Z,if_pos h0]at hfill
   simp only[if_pos h0,Sem.run_bind,Sem.run_pure,Result.andThen_ok,hfill,newRow,run_newObj]
   rfl
  ·simp only[Z,if_neg h0]at hfill
   simp only[if_neg h0,Sem.run_bind,hz,Sem.run_pure,Result.andThen_ok,hfill,newRow,run_newObj]
   rfl
 ·have hl:(ps.map PV.cells).length=len:=by simpa using hlen
  rw[<-hl]
  refine sl_of (vs:=(vs.flatMap λv=>v.cells.toList).toArray) (Nat.le_refl _) (by rw[hl];unfold maxLen;omega) (λi x hx=>?_) ?_ (λq u hq=>by rw[Nat.zero_add,hC];exact hq) rfl
  ·rw[List.getElem?_map]at hx
   cases hp:ps[i]? with
   |none=>simp[hp]at hx
   |some p=>simp[hp]at hx;subst hx;exact hsz p (List.mem_of_getElem? hp)
  ·have:=hF.mono hS.le
   rwa [<-List.flatMap_def]
theorem out_buildM (hI:Inv g H w) {t e:TypeId} {s len:Nat} {zv:Value} (hu:P.underlying t=some (.slice e)) (hs:Zh P e=some s) (hz:∀ w,(zeroValue e).run P w=.ok zv w) {ps:List PV} {vs:List Value} (hL:LR g ps vs.toArray)
  (hall:ps.all (λp=>p.cells.length==s&&p.cells.all PV.cellP)=true) (hlen:ps.length=len) (h1:len*s<=16777216) (h2:len<=16777216) {parts:Array (Nat×Value)} (hparts:parts.toList=(vs.zipIdx 0).map λx=>(x.2,x.1)):
  ∃ v w' g',(Instr.buildSlice t len parts).run P w=.ok v w'/\Step H.length g w g' w'/\Inv g' (H++[.cells (ps.flatMap PV.cells)]) w'/\RV g' (.bs H.length 0 len s true) v:=by
 have hc1:ps.all (λp=>p.cells.all PV.cellP)=true:=by
  rw[List.all_eq_true]at hall ⊢
  intro p hp
  have:=hall p hp
  simp only[Bool.and_eq_true]at this
  exact this.2
 have hsz:∀ p∈ps,p.cells.length=s:=λp hp=>by
  have:=List.all_eq_true.1 hall p hp
  simp only[Bool.and_eq_true,beq_iff_eq]at this
  exact this.1
 have hvl:vs.length=len:=by rw[<-hlen];simpa using hL.1.symm
 have hvs:∀ v∈vs,v.cells.size=s:=λv hv=>by
  obtain⟨i,hi,rfl⟩:=List.mem_iff_getElem.1 hv
  have hip:i<ps.length:=by omega
  have h0:=hL.2 i ps[i] vs[i] (List.getElem?_eq_getElem hip) (by simp[hi])
  have hp:ps[i]≠.any:=by
   intro e
   have:=List.all_eq_true.1 hc1 _ (List.getElem_mem hip)
   rw[e]at this;simp[PV.cells,PV.cellP]at this
  rw[<-(h0.cellsLR hp).1]
  exact hsz _ (List.getElem_mem hip)
 have hF:=flat_LR hL hc1
 let Z:Array Value:=if len*s=0 then #[] else zv.cells
 have hfill:=fill_all (size:=s) vs 0 [] ((Array.range (len*s)).map λi=>Z[i%Z.size]!) hvs (by simp) (by simp[hvl]) (by simp)
 obtain⟨g',hS,hI',hC⟩:=new_cells hI hF e
 refine⟨.slice (some ⟨w.heap.size,0,none⟩) len len,_,g',?_,hS,hI',?_⟩
 ·simp only[List.nil_append]at hfill
  simp only[Instr.buildSlice,Sem.run_bind,run_underlying hu,Result.andThen_ok,Zc hs,if_neg (show ¬ len*s>2^24 by omega),hparts]
  by_cases h0:len*s=0
  ·simp only[Z,if_pos h0]at hfill
   simp only[if_pos h0,Sem.run_bind,Sem.run_pure,Result.andThen_ok,hfill,newRow,run_newObj]
   rfl
  ·simp only[Z,if_neg h0]at hfill
   simp only[if_neg h0,Sem.run_bind,hz,Sem.run_pure,Result.andThen_ok,hfill,newRow,run_newObj]
   rfl
 ·exact .bs hC (Nat.le_refl _) (by unfold maxLen;omega) (λ_=>rfl) (λ_=>rfl)
set_option maxHeartbeats 1000000 in
theorem aop_sound (hI:Inv g H w) (hE:LR g env a.tmps) {o:Oper} {ao:AOp} (hc:Xo P o.op=some ao) (h:aop env H ao=some (p,H')):Out P (execOp a.eval o) H.length g w p H':=by
 unfold execOp
 cases hop:o.op with
 |move x=>
  rw[hop]at hc
  dsimp only
  simp only[Xo,Option.map_eq_some_iff]at hc
  obtain⟨y,hy,rfl⟩:=hc
  simp only[aop,Option.some.injEq,Prod.mk.injEq]at h
  obtain⟨rfl,rfl⟩:=h
  exact out_move hI (Xj hE hy)
 |assign x=>
  rw[hop]at hc
  dsimp only
  simp only[Xo,Option.map_eq_some_iff]at hc
  obtain⟨y,hy,rfl⟩:=hc
  simp only[aop,Option.some.injEq,Prod.mk.injEq]at h
  obtain⟨rfl,rfl⟩:=h
  exact out_move hI (Xj hE hy)
 |pick c x y=>
  rw[hop]at hc
  dsimp only
  simp[Xo,Option.bind_eq_some_iff]at hc
  obtain⟨c',h1,x',h2,y',h3,rfl⟩:=hc
  simp only[aop]at h
  split at h
  case h_2=>cases h
  rename_i t ht
  have hc:=Xj hE h1
  rw[ht]at hc
  have e:=asBool_sc hc
  simp only[Option.some.injEq,Prod.mk.injEq]at h
  obtain⟨rfl,rfl⟩:=h
  refine⟨_,w,g,.inl (by simp[e,asBool];rfl),.refl _ g w,hI,?_⟩
  cases t
  ·simpa using Xj hE h3
  ·simpa using Xj hE h2
 |alloc t=>
  rw[hop]at hc
  dsimp only
  simp only[Xo,Option.map_eq_some_iff]at hc
  obtain⟨z,hz,rfl⟩:=hc
  simp only[aop,Option.some.injEq,Prod.mk.injEq]at h
  obtain⟨rfl,rfl⟩:=h
  exact Ww (out_alloc hI hz)
 |box t x=>
  rw[hop]at hc
  dsimp only
  simp only[Xo,Option.map_eq_some_iff]at hc
  obtain⟨y,hy,rfl⟩:=hc
  simp only[aop]at h
  split at h
  ·cases h
  ·rename_i hne
   simp only[Option.some.injEq,Prod.mk.injEq]at h
   obtain⟨rfl,rfl⟩:=h
   exact Ww (out_box hI (Xj hE hy) hne t)
 |load t x=>
  rw[hop]at hc
  dsimp only
  simp[Xo,Option.bind_eq_some_iff]at hc
  obtain⟨ag,ha,y,hy,rfl⟩:=hc
  have hv:=Xj hE hy
  simp only[aop]at h
  split at h
  ·rename_i cs e
   simp only[Option.map_eq_some_iff,Prod.mk.injEq]at h
   obtain⟨q,hq,rfl,rfl⟩:=h
   exact Xm hI (out_load hI ha hv (.inl ⟨cs,e,hq⟩))
  ·rename_i k off e
   split at h
   ·rename_i cs hk
    simp only[Option.map_eq_some_iff,Prod.mk.injEq]at h
    obtain⟨q,hq,rfl,rfl⟩:=h
    exact Xm hI (out_load hI ha hv (.inr (.inl ⟨k,off,cs,e,hk,hq⟩)))
   ·cases h
  ·rename_i k n off e
   split at h
   ·rename_i n' z cs hk
    split at h
    case isFalse=>cases h
    rename_i hn
    subst hn
    simp only[Option.map_eq_some_iff,Prod.mk.injEq]at h
    obtain⟨q,hq,rfl,rfl⟩:=h
    exact Xm hI (out_load hI ha hv (.inr (.inr ⟨k,n',off,z,cs,e,hk,hq⟩)))
   ·cases h
  ·cases h
 |store t x y=>
  rw[hop]at hc
  dsimp only
  simp[Xo,Option.bind_eq_some_iff]at hc
  obtain⟨n,hn,x',hx,y',hy,rfl⟩:=hc
  have hxv:=Xj hE hx
  have hyv:=Xj hE hy
  simp only[aop]at h
  split at h
  case h_3=>cases h
  ·rename_i k off e
   rw[e]at hxv
   split at h
   case h_2=>cases h
   rename_i cs hk
   split at h
   case isFalse=>cases h
   rename_i hcond
   simp only[Option.some.injEq,Prod.mk.injEq]at h
   obtain⟨rfl,rfl⟩:=h
   obtain⟨w',h1,h2,h3⟩:=out_store hI hn hk hyv hxv hcond.1 hcond.2.1 hcond.2.2
   exact⟨undef,w',g,.inr ⟨by simp[h1],rfl⟩,h2,h3,.tup rfl (λi q u hq _=>by simp at hq)⟩
  ·rename_i k m off e
   rw[e]at hxv
   split at h
   case h_2=>cases h
   rename_i m' z cs hk
   split at h
   case isFalse=>cases h
   rename_i hcond
   obtain⟨rfl,hcond⟩:=hcond
   simp only[Option.some.injEq,Prod.mk.injEq]at h
   obtain⟨rfl,rfl⟩:=h
   obtain⟨w',h1,h2,h3⟩:=out_storeT hI hn hk hyv hxv hcond.1 hcond.2.1 hcond.2.2
   exact⟨undef,w',g,.inr ⟨by simp[h1],rfl⟩,h2,h3,.tup rfl (λi q u hq _=>by simp at hq)⟩
 |fieldAddr t x f=>
  rw[hop]at hc
  dsimp only
  simp only[Xo]at hc
  split at hc
  case h_2=>cases hc
  rename_i fs hu
  simp[Option.bind_eq_some_iff]at hc
  obtain⟨fd,hf,s,hs,h0,y,hy,rfl⟩:=hc
  have hv:=Xj hE hy
  simp only[aop]at h
  split at h
  ·rename_i cs e
   simp only[Option.some.injEq,Prod.mk.injEq]at h
   obtain⟨rfl,rfl⟩:=h
   exact Xm hI (out_faddr hu hf hs h0 hv (.inl ⟨cs,e,rfl⟩))
  ·rename_i k off e
   simp only[Option.some.injEq,Prod.mk.injEq]at h
   obtain⟨rfl,rfl⟩:=h
   exact Xm hI (out_faddr hu hf hs h0 hv (.inr (.inl ⟨k,off,e,rfl⟩)))
  ·rename_i k m off e
   simp only[Option.some.injEq,Prod.mk.injEq]at h
   obtain⟨rfl,rfl⟩:=h
   exact Xm hI (out_faddr hu hf hs h0 hv (.inr (.inr ⟨k,m,off,e,rfl⟩)))
  ·cases h
 |field t x f=>
  rw[hop]at hc
  dsimp only
  simp only[Xo]at hc
  split at hc
  case h_2=>cases hc
  rename_i fs hu
  simp[Option.bind_eq_some_iff]at hc
  obtain⟨fd,hf,ag,ha,y,hy,rfl⟩:=hc
  have hv:=Xj hE hy
  simp only[aop]at h
  split at h
  case h_2=>cases h
  rename_i cs e
  simp only[Option.map_eq_some_iff,Prod.mk.injEq]at h
  obtain⟨q,hq,rfl,rfl⟩:=h
  rw[e]at hv
  generalize hx:a.eval x=v at hv ⊢
  cases hv with
  |agg h1 h2=>
   obtain⟨u,h3,h4⟩:=part_sound (P:=P) (w:=w) ha ⟨h1,h2⟩ hq
   exact Xm hI ⟨u,by simp[Instr.field,run_underlying hu,hf,asAgg,h3],h4⟩
 |indexAddr t x i=>
  rw[hop]at hc
  dsimp only
  simp only[Xo]at hc
  split at hc
  ·rename_i e hu
   simp[Option.bind_eq_some_iff]at hc
   obtain⟨s,hs,x',hx,i',hi,rfl⟩:=hc
   have hxv:=Xj hE hx
   have hiv:=Xj hE hi
   simp only[aop]at h
   split at h
   ·rename_i nl r sz es n e1 e2
    split at h
    case isFalse=>cases h
    rename_i hcond
    simp only[Option.map_eq_some_iff,Prod.mk.injEq]at h
    obtain⟨c,hcx,rfl,rfl⟩:=h
    obtain⟨h0,rfl⟩:=hcond
    rw[e1]at hxv
    exact Xm hI (out_iaddrS hu hs hxv hiv e2 h0 hcx)
   ·rename_i k off m sz full n e1 e2
    split at h
    case isFalse=>cases h
    rename_i hcond
    simp only[Option.some.injEq,Prod.mk.injEq]at h
    obtain⟨rfl,rfl⟩:=h
    obtain⟨h0,h1,rfl⟩:=hcond
    rw[e1]at hxv
    exact Xm hI (out_iaddrB hu hs hxv hiv e2 h0 h1)
   ·rename_i k m sz n e1 e2
    split at h
    case isFalse=>cases h
    rename_i hcond
    simp only[Option.some.injEq,Prod.mk.injEq]at h
    obtain⟨rfl,rfl⟩:=h
    obtain⟨h0,h1,rfl⟩:=hcond
    rw[e1]at hxv
    exact Xm hI (out_iaddrT hu hs hxv hiv e2 h0 h1)
   ·cases h
  ·rename_i n e hu
   simp[Option.bind_eq_some_iff]at hc
   obtain⟨s,hs,x',hx,i',hi,rfl⟩:=hc
   have hxv:=Xj hE hx
   have hiv:=Xj hE hi
   simp only[aop]at h
   split at h
   case h_2=>cases h
   rename_i m e2
   split at h
   case isFalse=>cases h
   rename_i hcond
   split at h
   ·rename_i cs e1
    simp only[Option.some.injEq,Prod.mk.injEq]at h
    obtain⟨rfl,rfl⟩:=h
    exact Xm hI (out_iaddrA hu hs hxv hiv e2 hcond.1 hcond.2 (.inl ⟨cs,e1,rfl⟩))
   ·rename_i k off e1
    simp only[Option.some.injEq,Prod.mk.injEq]at h
    obtain⟨rfl,rfl⟩:=h
    exact Xm hI (out_iaddrA hu hs hxv hiv e2 hcond.1 hcond.2 (.inr (.inl ⟨k,off,e1,rfl⟩)))
   ·cases h
  ·cases hc
 |index t x i=>
  rw[hop]at hc
  dsimp only
  simp only[Xo]at hc
  split at hc
  ·rename_i n e hu
   simp[Option.bind_eq_some_iff]at hc
   obtain⟨s,hs,ag,ha,x',hx,i',hi,rfl⟩:=hc
   have hxv:=Xj hE hx
   have hiv:=Xj hE hi
   simp only[aop]at h
   split at h
   case h_2=>cases h
   rename_i cs m e1 e2
   split at h
   case isFalse=>cases h
   rename_i hcond
   simp only[Option.map_eq_some_iff,Prod.mk.injEq]at h
   obtain⟨q,hq,rfl,rfl⟩:=h
   rw[e1]at hxv
   exact Xm hI (out_idxA hu hs ha hxv hiv e2 hcond.1 hcond.2 hq)
  ·rename_i hu
   simp[Option.bind_eq_some_iff]at hc
   obtain⟨x',hx,i',hi,rfl⟩:=hc
   have hxv:=Xj hE hx
   have hiv:=Xj hE hi
   simp only[aop]at h
   split at h
   case h_2=>cases h
   rename_i s m e1 e2
   split at h
   case isFalse=>cases h
   rename_i h0
   simp only[Option.map_eq_some_iff,Prod.mk.injEq]at h
   obtain⟨b,hb,rfl,rfl⟩:=h
   rw[e1]at hxv
   rw[(Yr hxv).1]
   exact Xm hI ⟨_,out_idxStr hu hiv e2 h0 hb,.sc rfl⟩
  ·cases hc
 |slice t x lo hi mx=>
  rw[hop]at hc
  dsimp only
  simp only[Xo]at hc
  split at hc
  ·rename_i hu
   split at hc
   case h_2=>cases hc
   simp[Option.bind_eq_some_iff]at hc
   obtain⟨x',hx,lo',hlo,hi',hhi,rfl⟩:=hc
   have hxv:=Xj hE hx
   simp only[aop]at h
   split at h
   case h_2=>cases h
   rename_i s e1
   split at h
   case h_2=>cases h
   rename_i l u e2 e3
   split at h
   case isFalse=>cases h
   rename_i hcond
   simp only[Option.some.injEq,Prod.mk.injEq]at h
   obtain⟨rfl,rfl⟩:=h
   rw[e1]at hxv
   rw[(Yr hxv).1]
   exact Xm hI ⟨_,by simpa using out_slStr (P:=P) (w:=w) hu (Yl (Xr hE hlo) e2) (Yl (Xr hE hhi) e3) hcond.1 hcond.2,.sc rfl⟩
  ·rename_i e hu
   simp[Option.bind_eq_some_iff]at hc
   obtain⟨s,hs,x',hx,lo',hlo,hi',hhi,mx',hmx,rfl⟩:=hc
   have hxv:=Xj hE hx
   simp only[aop]at h
   split at h
   ·rename_i nl r sz es e1
    split at h
    case isFalse=>cases h
    rename_i hz
    rw[e1]at hxv
    split at h
    ·rename_i l u e2 e3 e4
     split at h
     case isFalse=>cases h
     rename_i hcond
     simp only[Option.some.injEq,Prod.mk.injEq]at h
     obtain⟨rfl,rfl⟩:=h
     have hm:mx=none:=by
      cases mx with
      |none=>rfl
      |some m=>
       simp only[Vo,Option.map_eq_some_iff]at hmx
       obtain⟨y,_,rfl⟩:=hmx
       simp at e4
     subst hm
     exact Xm hI (by simpa using out_slSl (P:=P) (w:=w) hu hs hxv hz (Yl (Xr hE hlo) e2) (Yl (Xr hE hhi) e3) hcond.1 hcond.2)
    ·rename_i l u m e2 e3 e4
     split at h
     case h_2=>cases h
     rename_i m' hh e5
     split at h
     case isFalse=>cases h
     rename_i hcond
     simp only[Option.some.injEq,Prod.mk.injEq]at h
     obtain⟨rfl,rfl⟩:=h
     have hm:=Yl (g:=g) (x:=some m) (v:=mx.map a.eval) (by rw[<-e4];exact Xr hE hmx) e5
     have hhs:=Yl (Xr hE hhi) e3
     rcases hm with ⟨h6,rfl⟩|⟨k',j,h6,h7,h8⟩
     ·exfalso
      have:=Xr hE hmx
      rw[e4,h6]at this
      exact this
     ·rcases hhs with ⟨h9,_⟩|⟨k,i,h9,h10,h11⟩
      ·exfalso
       have:=Xr hE hhi
       rw[h9]at this
       simp at this
      ·have:=out_slSl3 (P:=P) (w:=w) hu hs hxv hz (k:=k) (k':=k') (Yl (Xr hE hlo) e2) h10 h11 h7 h8 hcond.1 hcond.2.1 hcond.2.2
       rw[<-h6,<-h9]at this
       exact Xm hI this
    ·cases h
   ·rename_i k0 off n sz full e1
    split at h
    case isFalse=>cases h
    rename_i hz
    subst hz
    rw[e1]at hxv
    split at h
    ·rename_i l u e2 e3 e4
     split at h
     case isFalse=>cases h
     rename_i hcond
     simp only[Option.some.injEq,Prod.mk.injEq]at h
     obtain⟨rfl,rfl⟩:=h
     have hm:mx=none:=by
      cases mx with
      |none=>rfl
      |some m=>
       simp only[Vo,Option.map_eq_some_iff]at hmx
       obtain⟨y,_,rfl⟩:=hmx
       simp at e4
     subst hm
     exact Xm hI (by simpa using out_slB (P:=P) (w:=w) hu hs hxv (Yl (Xr hE hlo) e2) (Yl (Xr hE hhi) e3) hcond.1 hcond.2)
    ·rename_i l u m e2 e3 e4
     split at h
     case h_2=>cases h
     rename_i m' hh e5
     split at h
     case isFalse=>cases h
     rename_i hcond
     simp only[Option.some.injEq,Prod.mk.injEq]at h
     obtain⟨rfl,rfl⟩:=h
     have hm:=Yl (g:=g) (x:=some m) (v:=mx.map a.eval) (by rw[<-e4];exact Xr hE hmx) e5
     have hhs:=Yl (Xr hE hhi) e3
     rcases hm with ⟨h6,rfl⟩|⟨k',j,h6,h7,h8⟩
     ·exfalso
      have:=Xr hE hmx
      rw[e4,h6]at this
      exact this
     ·rcases hhs with ⟨h9,_⟩|⟨k,i,h9,h10,h11⟩
      ·exfalso
       have:=Xr hE hhi
       rw[h9]at this
       simp at this
      ·have:=out_slB3 (P:=P) (w:=w) hu hs hxv (kk:=k) (kk':=k') (Yl (Xr hE hlo) e2) h10 h11 h7 h8 hcond.1 hcond.2.1 hcond.2.2
       rw[<-h6,<-h9]at this
       exact Xm hI this
    ·cases h
   ·cases h
  ·cases hc
 |binOp op t x y u=>
  rw[hop]at hc
  dsimp only
  simp only[Xo,Option.bind_eq_bind,Option.bind_eq_some_iff]at hc
  obtain⟨x',hx,y',hy,hc⟩:=hc
  have hxv:=Xj hE hx
  have hyv:=Xj hE hy
  have bin:ao=.bin op x' y'->Out P (do let __do_lift <-(do eqGuard op t x y (a.eval x) (a.eval y);binOp op t (a.eval x) (a.eval y):Sem Value);pure (Next.value __do_lift)) H.length g w p H':=λe=>by
   subst e
   simp only[aop]at h
   split at h
   case h_2=>cases h
   rename_i A B e1 e2
   simp only[Option.map_eq_some_iff,Prod.mk.injEq]at h
   obtain⟨v,hv,rfl,rfl⟩:=h
   rw[e1]at hxv
   rw[e2]at hyv
   rw[(Yr hxv).1,(Yr hyv).1]
   exact Xm hI ⟨v,binV_sound hv t x y,.sc (binV_plain hv)⟩
  have eqn:∀ (d:TypeDesc) (k:Srt),P.underlying t=some d->srtOf d=some k->(op=.eql\/op=.neq)->ao=.eqN k (op==.neq) x' y'->Out P (do let __do_lift <-(do eqGuard op t x y (a.eval x) (a.eval y);binOp op t (a.eval x) (a.eval y):Sem Value);pure (Next.value __do_lift)) H.length g w p H':=λd k hd hk ho e=>by
   subst e
   simp only[aop,Option.map_eq_some_iff,Prod.mk.injEq]at h
   obtain⟨r,hr,rfl,rfl⟩:=h
   exact Xm hI ⟨_,out_eqN ho hd hk hxv hyv hr,.sc rfl⟩
  split at hc
  case isFalse=>simp only[Option.pure_def,Option.some.injEq]at hc;exact bin hc.symm
  rename_i ho
  split at hc
  ·simp only[Option.pure_def,Option.some.injEq]at hc;exact bin hc.symm
  ·simp only[Option.pure_def,Option.some.injEq]at hc;exact bin hc.symm
  ·rename_i hu
   simp only[Option.pure_def,Option.some.injEq]at hc
   subst hc
   simp only[aop]at h
   split at h
   case h_2=>cases h
   rename_i A B e1 e2
   simp only[Option.some.injEq,Prod.mk.injEq]at h
   obtain⟨rfl,rfl⟩:=h
   rw[e1]at hxv
   rw[e2]at hyv
   rw[(Yr hxv).1,(Yr hyv).1]
   exact Xm hI ⟨_,out_eqB ho hu,.sc rfl⟩
  ·rename_i fs hu
   split at hc
   ·cases hc
   rename_i hgd
   simp only[Option.bind_eq_some_iff,Option.pure_def,Option.some.injEq]at hc
   obtain⟨ks,hk,rfl⟩:=hc
   simp only[aop]at h
   split at h
   case h_2=>cases h
   rename_i A B e1 e2
   simp only[Option.map_eq_some_iff,Prod.mk.injEq]at h
   obtain⟨r,hr,rfl,rfl⟩:=h
   rw[e1]at hxv
   rw[e2]at hyv
   exact Xm hI ⟨_,out_eqC ho hu (by simpa using hgd) hk hxv hyv hr,.sc rfl⟩
  ·rename_i n e hu
   split at hc
   ·cases hc
   rename_i hgd
   split at hc
   case h_2=>cases hc
   rename_i k i he hi
   split at hc
   case isFalse=>cases hc
   rename_i h1
   simp only[Option.pure_def,Option.some.injEq]at hc
   subst hc
   simp only[aop]at h
   split at h
   case h_2=>cases h
   rename_i A B e1 e2
   simp only[Option.map_eq_some_iff,Prod.mk.injEq]at h
   obtain⟨r,hr,rfl,rfl⟩:=h
   rw[e1]at hxv
   rw[e2]at hyv
   exact Xm hI ⟨_,out_eqA ho hu (by simpa using hgd) he hi h1 hxv hyv hr,.sc rfl⟩
  ·rename_i e hu
   simp only[Option.pure_def,Option.some.injEq]at hc
   exact eqn _ _ hu rfl ho hc.symm
  ·rename_i e hu
   simp only[Option.pure_def,Option.some.injEq]at hc
   exact eqn _ _ hu rfl ho hc.symm
  ·rename_i e hu
   simp only[Option.pure_def,Option.some.injEq]at hc
   exact eqn _ _ hu rfl ho hc.symm
  ·rename_i e hu
   simp only[Option.pure_def,Option.some.injEq]at hc
   exact eqn _ _ hu rfl ho hc.symm
  ·cases hc
 |unOp op t x=>
  rw[hop]at hc
  dsimp only
  simp only[Xo,Option.map_eq_some_iff]at hc
  obtain⟨y,hy,rfl⟩:=hc
  have hv:=Xj hE hy
  simp only[aop]at h
  split at h
  case h_2=>cases h
  rename_i A e1
  simp only[Option.map_eq_some_iff,Prod.mk.injEq]at h
  obtain⟨v,hv',rfl,rfl⟩:=h
  rw[e1]at hv
  rw[(Yr hv).1]
  obtain⟨h1,h2⟩:=out_un (P:=P) (w:=w) hv'
  exact Xm hI ⟨v,h1,.sc h2⟩
 |convert s t x=>
  rw[hop]at hc
  dsimp only
  simp only[Xo]at hc
  split at hc
  ·rename_i k k' hs ht
   simp only[Option.map_eq_some_iff]at hc
   obtain⟨y,hy,rfl⟩:=hc
   have hv:=Xj hE hy
   simp only[aop]at h
   split at h
   case h_2=>cases h
   rename_i n e1
   simp only[Option.some.injEq,Prod.mk.injEq]at h
   obtain⟨rfl,rfl⟩:=h
   obtain⟨k2,e2⟩:=Zp hv e1
   exact Xm hI ⟨_,by simp[convert,run_underlying hs,run_underlying ht,e2,Conv.intToInt],.sc rfl⟩
  ·rename_i hs ht
   simp only[Option.map_eq_some_iff]at hc
   obtain⟨y,hy,rfl⟩:=hc
   have hv:=Xj hE hy
   simp only[aop]at h
   split at h
   case h_2=>cases h
   rename_i A e1
   simp only[Option.some.injEq,Prod.mk.injEq]at h
   obtain⟨rfl,rfl⟩:=h
   rw[e1]at hv
   rw[(Yr hv).1]
   exact Xm hI ⟨_,by simp[convert,run_underlying hs,run_underlying ht],.sc rfl⟩
  ·rename_i e hs ht
   split at hc
   case h_2=>cases hc
   rename_i he
   simp only[Option.map_eq_some_iff]at hc
   obtain⟨y,hy,rfl⟩:=hc
   have hv:=Xj hE hy
   simp only[aop]at h
   split at h
   case h_2=>cases h
   rename_i A e1
   split at h
   case isFalse=>cases h
   rename_i hsz
   simp only[Option.some.injEq,Prod.mk.injEq]at h
   obtain⟨rfl,rfl⟩:=h
   rw[e1]at hv
   rw[(Yr hv).1]
   exact Ww (out_strBytes hI hs ht he hsz)
  ·rename_i e hs ht
   split at hc
   case h_2=>cases hc
   rename_i he
   simp only[Option.map_eq_some_iff]at hc
   obtain⟨y,hy,rfl⟩:=hc
   have hv:=Xj hE hy
   simp only[aop]at h
   split at h
   case h_2=>cases h
   rename_i nl r sz es e1
   split at h
   case isFalse=>cases h
   split at h
   case h_2=>cases h
   rename_i l hl
   simp only[Option.some.injEq,Prod.mk.injEq]at h
   obtain⟨rfl,rfl⟩:=h
   exact Xm hI ⟨_,out_bytesStr hI hs he ht hv e1 hl,.sc rfl⟩
  ·cases hc
 |makeSlice t l c=>
  rw[hop]at hc
  dsimp only
  simp only[Xo]at hc
  split at hc
  case h_2=>cases hc
  rename_i e hu
  simp only[Option.bind_eq_bind,Option.bind_eq_some_iff]at hc
  obtain⟨i,hi,zv,hz,z,hzm,hc⟩:=hc
  split at hc
  case isFalse=>cases hc
  rename_i hzs
  simp only[Option.bind_eq_some_iff,Option.pure_def,Option.some.injEq]at hc
  obtain⟨l',hl,c',hcc,rfl⟩:=hc
  have hlv:=Xj hE hl
  have hcv:=Xj hE hcc
  obtain⟨m1,m2⟩:=Wz hzm
  have hzc:∀ g,LR g z zv.cells:=λg=>⟨by simpa using m1.symm,λj p v hp hv=>Ub (m2 j v p (by simpa using hv) hp)⟩
  simp only[aop]at h
  split at h
  case h_2=>cases h
  rename_i ln cn e1 e2
  split at h
  case isFalse=>cases h
  rename_i hcond
  obtain⟨v,w',g',h1,h2,h3⟩:=out_mkSl hI hu hi hz hzc hzs hlv hcv e1 e2 hcond.1 hcond.2.1 hcond.2.2.1 hcond.2.2.2
  split at h
  ·rename_i h0
   rw[if_pos h0]at h3
   simp only[Option.some.injEq,Prod.mk.injEq]at h
   obtain⟨rfl,rfl⟩:=h
   exact Ww ⟨v,w',g',h1,h2,h3⟩
  ·rename_i h0
   rw[if_neg h0]at h3
   simp only[Option.some.injEq,Prod.mk.injEq]at h
   obtain⟨rfl,rfl⟩:=h
   exact Ww ⟨v,w',g',h1,h2,h3⟩
 |extract x i=>
  rw[hop]at hc
  dsimp only
  simp only[Xo,Option.map_eq_some_iff]at hc
  obtain⟨y,hy,rfl⟩:=hc
  have hv:=Xj hE hy
  simp only[aop]at h
  split at h
  case h_2=>cases h
  rename_i vs e1
  simp only[Option.map_eq_some_iff,Prod.mk.injEq]at h
  obtain⟨q,hq,rfl,rfl⟩:=h
  rw[e1]at hv
  generalize hx:a.eval x=v at hv ⊢
  cases hv with
  |tup h1 h2=>
   rename_i us
   have hlt:i<us.size:=h1▸(List.getElem?_eq_some_iff.1 hq).1
   exact Xm hI ⟨us[i],by simp[Instr.extract,hlt],h2 i q _ hq (Array.getElem?_eq_getElem hlt)⟩
 |makeFunc f first cap=>
  rw[hop]at hc
  dsimp only
  simp[Xo,Option.bind_eq_some_iff]at hc
  obtain⟨p1,h1,p2,h2,rfl⟩:=hc
  simp only[aop,Option.some.injEq,Prod.mk.injEq]at h
  obtain⟨rfl,rfl⟩:=h
  have k1:=Zo hE h1
  have k2:=Zo hE h2
  refine Xm hI ⟨_,rfl,.fn ?_ ?_ (λi q u hq hu=>?_) (λi q u hq hu=>?_)⟩
  ·simpa using k1.1
  ·simpa using k2.1
  ·exact k1.2 i q u hq (by simpa using hu)
  ·exact k2.2 i q u hq (by simpa using hu)
 |nilCheck x=>
  rw[hop]at hc
  dsimp only
  simp only[Xo,Option.map_eq_some_iff]at hc
  obtain⟨y,hy,rfl⟩:=hc
  have hv:=Xj hE hy
  simp only[aop]at h
  generalize hx:a.eval x=v at hv ⊢
  split at h
  ·rename_i cs e1
   simp only[Option.some.injEq,Prod.mk.injEq]at h
   obtain⟨rfl,rfl⟩:=h
   rw[e1]at hv
   cases hv with
   |ip a b c=>exact out_move hI (.ip a b c)
  ·rename_i k o e1
   simp only[Option.some.injEq,Prod.mk.injEq]at h
   obtain⟨rfl,rfl⟩:=h
   rw[e1]at hv
   cases hv with
   |bp a=>exact out_move hI (.bp a)
  ·rename_i f p q e1
   simp only[Option.some.injEq,Prod.mk.injEq]at h
   obtain⟨rfl,rfl⟩:=h
   rw[e1]at hv
   cases hv with
   |fn a b c d=>exact out_move hI (.fn a b c d)
  ·cases h
 |makeMap t r=>
  rw[hop]at hc
  dsimp only
  cases r with
  |some r=>simp[Xo]at hc
  |none=>
   simp only[Xo,Option.some.injEq]at hc
   subst hc
   simp only[aop,Option.some.injEq,Prod.mk.injEq]at h
   obtain⟨rfl,rfl⟩:=h
   obtain⟨g',h1,h2,h3⟩:=new_map hI
   exact Ww ⟨_,_,g',by simp[Instr.makeMap],h1,h2,.mp h3⟩
 |build t parts=>
  rw[hop]at hc
  dsimp only
  simp only[Xo,Option.bind_eq_bind,Option.bind_eq_some_iff]at hc
  obtain⟨z,hz,ps,hps,hc⟩:=hc
  obtain⟨zv,hz1,hz2⟩:=Qt hz
  obtain⟨l1,l2⟩:=Wz hps
  have hparts:∀ (i:Nat) (x:Nat×Operand) (y:Nat×Opd),parts.toList[i]?=some x->ps[i]?=some y->y.1=x.1/\RV g (y.2.ev env) (a.eval x.2):=λi x y hx hy=>by
   have:=l2 i x y hx hy
   simp only[Option.map_eq_some_iff]at this
   obtain⟨u,hu,rfl⟩:=this
   exact⟨rfl,Xj hE hu⟩
  have hget:∀ (i:Nat) (x:Nat×Value),(parts.map λ(x:Nat×Operand)=>(x.1,a.eval x.2)).toList[i]?=some x->∃ y,parts.toList[i]?=some y/\x=(y.1,a.eval y.2):=λi x hx=>by
   simp at hx
   obtain⟨y1,y2,hy,e⟩:=hx
   exact⟨(y1,y2),by simpa using hy,e.symm⟩
  split at hc
  ·rename_i fs hu
   simp only[Option.bind_eq_some_iff,Option.map_eq_some_iff]at hc
   obtain⟨pl,hpl,ps2,hps2,rfl⟩:=hc
   obtain⟨m1,m2⟩:=Wz hps2
   simp only[aop,Option.map_eq_some_iff,Prod.mk.injEq]at h
   obtain⟨cs,hcs,rfl,rfl⟩:=h
   obtain⟨r,hr1,hr2⟩:=fill_sound (g:=g) (place:=λi=>pl.toArray[i]?) (parts.map λ(x:Nat×Operand)=>(x.1,a.eval x.2)).toList _ z zv.cells cs (hz2 g) (by simp[<-m1,<-l1]) (λi x y hx hy=>by
    obtain⟨u,hu1,rfl⟩:=hget i x hx
    rw[List.getElem?_map]at hy
    cases hps2i:ps2[i]? with
    |none=>simp[hps2i]at hy
    |some v=>
     simp[hps2i]at hy
     subst hy
     have hi:i<ps.length:=m1▸(List.getElem?_eq_some_iff.1 hps2i).1
     have h3:=m2 i _ v (List.getElem?_eq_getElem hi) hps2i
     simp only[Option.map_eq_some_iff]at h3
     obtain⟨pp,h4,rfl⟩:=h3
     obtain⟨h5,h6⟩:=hparts i u _ hu1 (List.getElem?_eq_getElem hi)
     exact⟨by simp only;rw[<-h5];simpa using h4,h6⟩) hcs
   exact Xm hI ⟨.agg r,by simp only[Instr.build,Sem.run_bind,hz1,Result.andThen_ok,run_underlying hu,run_places hpl,hr1,Sem.run_pure],.agg hr2.1 hr2.2⟩
  ·rename_i n e hu
   simp only[Option.bind_eq_some_iff,Option.pure_def,Option.some.injEq]at hc
   obtain⟨s,hs,rfl⟩:=hc
   simp only[aop,Option.map_eq_some_iff,Prod.mk.injEq]at h
   obtain⟨cs,hcs,rfl,rfl⟩:=h
   obtain⟨r,hr1,hr2⟩:=fill_sound (g:=g) (place:=λi=>some (i*s,s)) (parts.map λ(x:Nat×Operand)=>(x.1,a.eval x.2)).toList _ z zv.cells cs (hz2 g) (by simp[<-l1]) (λi x y hx hy=>by
    obtain⟨u,hu1,rfl⟩:=hget i x hx
    rw[List.map_map,List.getElem?_map]at hy
    cases hpsi:ps[i]? with
    |none=>simp[hpsi]at hy
    |some v=>
     simp[hpsi]at hy
     subst hy
     obtain⟨h5,h6⟩:=hparts i u _ hu1 hpsi
     exact⟨by simp[h5],h6⟩) hcs
   exact Xm hI ⟨.agg r,by simp only[Instr.build,Sem.run_bind,hz1,Result.andThen_ok,run_underlying hu,Zc hs,hr1,Sem.run_pure],.agg hr2.1 hr2.2⟩
  ·cases hc
 |buildSlice t len parts=>
  rw[hop]at hc
  dsimp only
  simp only[Xo]at hc
  split at hc
  case h_2=>cases hc
  rename_i e hu
  simp only[Option.bind_eq_bind,Option.bind_eq_some_iff]at hc
  obtain⟨s,hs,z,hz,hc⟩:=hc
  split at hc
  case isFalse=>cases hc
  rename_i hcond
  obtain⟨hc1,hc2,hc3⟩:=hcond
  simp only[Option.map_eq_some_iff]at hc
  obtain⟨ys,hys,rfl⟩:=hc
  obtain⟨zv,hz1,hz2⟩:=Qt hz
  have hL:=Zo hE hys
  have hlen:(parts.toList.map (·.1)).length=len:=by rw[hc3];simp
  simp only[List.length_map]at hlen
  have hyl:ys.length=len:=by
   have:=hL.1
   simpa [hlen] using this
  by_cases hm:mutT P e=true
  ·simp only[if_pos hm,aop]at h
   split at h
   case isFalse=>cases h
   rename_i hall
   simp only[Option.some.injEq,Prod.mk.injEq]at h
   obtain⟨rfl,rfl⟩:=h
   have key:=(out_buildM hI hu hs (λw=>hz1 w) hL hall (by simpa using hyl) hc1 hc2 (parts:=parts.map λ(x:Nat×Operand)=>(x.1,a.eval x.2)) (by
    rw[show len=parts.toList.length from hlen.symm]at hc3
    apply List.ext_getElem?
    intro i
    have:=congrArg (λl:List Nat=>l[i]?) hc3
    simp only[List.getElem?_map,Array.toList_map,List.map_map]at this ⊢
    simp only[List.getElem?_zipIdx,List.getElem?_map]
    cases hp:parts.toList[i]? with
    |none=>simp
    |some x=>
     rw[hp]at this
     have hi:i<parts.toList.length:=(List.getElem?_eq_some_iff.1 hp).1
     rw[List.getElem?_range hi]at this
     simp at this
     simp[this]))
   rw[hyl]
   exact Ww key
  ·simp only[if_neg hm,aop]at h
   split at h
   case isFalse=>cases h
   rename_i hall
   simp only[Option.some.injEq,Prod.mk.injEq]at h
   obtain⟨rfl,rfl⟩:=h
   have key:=(out_buildSl hI hu hs (λw=>hz1 w) hL hall (by simpa using hyl) hc1 hc2 (parts:=parts.map λ(x:Nat×Operand)=>(x.1,a.eval x.2)) (by
    rw[show len=parts.toList.length from hlen.symm]at hc3
    apply List.ext_getElem?
    intro i
    have:=congrArg (λl:List Nat=>l[i]?) hc3
    simp only[List.getElem?_map,Array.toList_map,List.map_map]at this ⊢
    simp only[List.getElem?_zipIdx,List.getElem?_map]
    cases hp:parts.toList[i]? with
    |none=>simp
    |some x=>
     rw[hp]at this
     have hi:i<parts.toList.length:=(List.getElem?_eq_some_iff.1 hp).1
     rw[List.getElem?_range hi]at this
     simp at this
     simp[this]))
   rw[List.map_map]at key
   exact Ww key
 |call c=>
  rw[hop]at hc
  dsimp only
  simp only[Xo]at hc
  unfold compCall at hc
  split at hc
  ·simp[Option.bind_eq_some_iff]at hc
   obtain⟨_,_,_,_,rfl⟩:=hc
   simp[aop]at h
  ·rename_i hcal
   split at hc
   case h_2=>cases hc
   rename_i x t hx ht
   have hargs:c.args.map a.eval=#[a.eval x]:=by apply Array.ext';simp[hx]
   have hty:c.argTypes=#[t]:=by apply Array.ext';simp[ht]
   split at hc
   case h_3=>cases hc
   ·rename_i hu
    simp only[Option.map_eq_some_iff]at hc
    obtain⟨y,hy,rfl⟩:=hc
    have hv:=Xj hE hy
    simp only[aop]at h
    split at h
    case h_2=>cases h
    rename_i s e1
    simp only[Option.some.injEq,Prod.mk.injEq]at h
    obtain⟨rfl,rfl⟩:=h
    rw[e1]at hv
    exact Zl hcal (Xm hI ⟨_,by rw[hargs,hty];exact out_len hv (.inl ⟨s,rfl,hu,rfl⟩),.sc rfl⟩) rfl
   ·rename_i e hu
    simp only[Option.map_eq_some_iff]at hc
    obtain⟨y,hy,rfl⟩:=hc
    have hv:=Xj hE hy
    simp only[aop]at h
    split at h
    ·rename_i nl r sz es e1
     simp only[Option.some.injEq,Prod.mk.injEq]at h
     obtain⟨rfl,rfl⟩:=h
     rw[e1]at hv
     exact Zl hcal (Xm hI ⟨_,by rw[hargs,hty];exact out_len hv (.inr (.inl ⟨nl,r,sz,es,rfl,⟨e,hu⟩,rfl⟩)),.sc rfl⟩) rfl
    ·rename_i k off n sz full e1
     simp only[Option.some.injEq,Prod.mk.injEq]at h
     obtain⟨rfl,rfl⟩:=h
     rw[e1]at hv
     exact Zl hcal (Xm hI ⟨_,by rw[hargs,hty];exact out_len hv (.inr (.inr (.inl ⟨k,off,sz,full,rfl,e,hu⟩))),.sc rfl⟩) rfl
    ·rename_i j n sz e1
     simp only[Option.some.injEq,Prod.mk.injEq]at h
     obtain⟨rfl,rfl⟩:=h
     rw[e1]at hv
     exact Zl hcal (Xm hI ⟨_,by rw[hargs,hty];exact out_len hv (.inr (.inr (.inr ⟨j,sz,rfl,e,hu⟩))),.sc rfl⟩) rfl
    ·cases h
  ·rename_i hcal
   split at hc
   case h_2=>cases hc
   rename_i x y t tx hx ht
   have hargs:c.args.map a.eval=#[a.eval x,a.eval y]:=by apply Array.ext';simp[hx]
   have hty:c.argTypes=#[t,tx]:=by apply Array.ext';simp[ht]
   split at hc
   case h_2=>cases hc
   rename_i e e' hu hu'
   split at hc
   all_goals
    simp only[Option.bind_eq_bind,Option.bind_eq_some_iff]at hc
    obtain⟨i,hi,z,hz,hc⟩:=hc
    split at hc
    case isFalse=>cases hc
    rename_i hzs
    simp only[Option.bind_eq_some_iff,Option.pure_def,Option.some.injEq]at hc
    obtain⟨x',hx',y',hy',rfl⟩:=hc
    simp only[aop]at h
    first
     |exact Zl hcal (Ww (by rw[hargs,hty];exact append_sound hI hu ⟨e',hu'⟩ hi hz hzs (Xj hE hx') (Xj hE hy') h)) rfl
     |exact Zl hcal (Ww (by rw[hargs,hty];exact appendM_sound hI hu ⟨e',hu'⟩ hi hz hzs (Xj hE hx') (Xj hE hy') h)) rfl
  ·rename_i hcal
   simp only[Option.map_eq_some_iff]at hc
   obtain⟨ys,hys,rfl⟩:=hc
   have hL:=Zo hE hys
   simp only[aop]at h
   split at h
   case h_2=>cases h
   rename_i k n k' m e1
   simp only[Option.some.injEq,Prod.mk.injEq]at h
   obtain⟨rfl,rfl⟩:=h
   exact Zl hcal (Xm hI ⟨_,by
    have e2:=two_ints (by rw[<-e1];exact hL)
    have e3:(c.args.map a.eval).toList=[.int k n,.int k' m]:=by rw[Array.toList_map,<-e2]
    simp only[Builtin.min_,e3]
    simp[Builtin.min2],.sc rfl⟩) rfl
  ·rename_i hcal
   simp only[Option.map_eq_some_iff]at hc
   obtain⟨ys,hys,rfl⟩:=hc
   have hL:=Zo hE hys
   simp only[aop]at h
   split at h
   case h_2=>cases h
   rename_i k n k' m e1
   simp only[Option.some.injEq,Prod.mk.injEq]at h
   obtain⟨rfl,rfl⟩:=h
   exact Zl hcal (Xm hI ⟨_,by
    have e2:=two_ints (by rw[<-e1];exact hL)
    have e3:(c.args.map a.eval).toList=[.int k n,.int k' m]:=by rw[Array.toList_map,<-e2]
    simp only[Builtin.max_,e3]
    simp[Builtin.max2],.sc rfl⟩) rfl
  ·cases hc
 |lookup t m k ok=>
  rw[hop]at hc
  dsimp only
  simp only[Xo]at hc
  split at hc
  case h_2=>cases hc
  rename_i kt e hu
  simp only[Option.bind_eq_bind,Option.bind_eq_some_iff,Option.pure_def,Option.some.injEq]at hc
  obtain⟨ks,hks,zero,hz,kg,hkg,m',hm,k',hk,rfl⟩:=hc
  have hmv:=Xj hE hm
  have hkv:=Xj hE hk
  simp only[aop]at h
  split at h
  case h_2=>cases h
  rename_i kv hkv'
  split at h
  case isFalse=>cases h
  rename_i hcond
  split at h
  ·rename_i e1
   simp only[Option.some.injEq,Prod.mk.injEq]at h
   obtain⟨rfl,rfl⟩:=h
   exact Xm hI (out_lookup hI hu hks hkg hz hkv' hkv hmv hcond.1 hcond.2 (.inl ⟨e1,rfl⟩))
  ·rename_i b e1
   split at h
   case h_2=>cases h
   rename_i kl vals c hb
   split at h
   ·rename_i i hf
    split at h
    case h_2=>cases h
    rename_i q hq
    simp only[Option.some.injEq,Prod.mk.injEq]at h
    obtain⟨rfl,rfl⟩:=h
    exact Xm hI (out_lookup hI hu hks hkg hz hkv' hkv hmv hcond.1 hcond.2 (.inr ⟨b,kl,vals,c,e1,hb,.inl ⟨i,q,hf,hq,rfl⟩⟩))
   ·rename_i hf
    simp only[Option.some.injEq,Prod.mk.injEq]at h
    obtain⟨rfl,rfl⟩:=h
    exact Xm hI (out_lookup hI hu hks hkg hz hkv' hkv hmv hcond.1 hcond.2 (.inr ⟨b,kl,vals,c,e1,hb,.inr ⟨hf,rfl⟩⟩))
   ·cases h
  ·cases h
 |mapUpdate t m k v=>
  rw[hop]at hc
  dsimp only
  simp only[Xo]at hc
  split at hc
  case h_2=>cases hc
  rename_i kt e hu
  simp only[Option.bind_eq_bind,Option.bind_eq_some_iff,Option.pure_def,Option.some.injEq]at hc
  obtain⟨ks,hks,kg,hkg,m',hm,k',hk,v',hv',rfl⟩:=hc
  have hmv:=Xj hE hm
  have hkv:=Xj hE hk
  have hvv:=Xj hE hv'
  simp only[aop]at h
  split at h
  case h_2=>cases h
  rename_i kv hkv'
  split at h
  case isFalse=>cases h
  rename_i hcond
  split at h
  case h_2=>cases h
  rename_i b e1
  split at h
  case h_2=>cases h
  rename_i kl vals c hb
  rw[e1]at hmv
  have fin:∀ H'',(∃ i,findI ks kg.isSome kv kl 0=some (some i)/\H''=H.set b (.map kl (vals.set i (v'.ev env)) c))\/(findI ks kg.isSome kv kl 0=some none/\H''=H.set b (.map (kl++[(kv,c)]) (vals++[v'.ev env]) (c+1)))->
    Out P (do Instr.mapUpdate t (a.eval m) (a.eval k) (a.eval v);pure Next.skip) H.length g w (.tup []) H'':=λH'' hh=>by
   obtain⟨w',h1,h2,h3⟩:=out_mapUp hI hu hks hkg hkv' hkv hvv hmv hcond.1 hcond.2 hb hh
   exact⟨undef,w',g,.inr ⟨by simp[h1],rfl⟩,h2,h3,.tup rfl (λi q u hq _=>by simp at hq)⟩
  split at h
  ·rename_i i hf
   simp only[Option.some.injEq,Prod.mk.injEq]at h
   obtain⟨rfl,rfl⟩:=h
   exact fin _ (.inl ⟨i,hf,rfl⟩)
  ·rename_i hf
   simp only[Option.some.injEq,Prod.mk.injEq]at h
   obtain⟨rfl,rfl⟩:=h
   exact fin _ (.inr ⟨hf,rfl⟩)
  ·cases h
 |range t x=>
  rw[hop]at hc
  dsimp only
  simp only[Xo]at hc
  split at hc
  case h_2=>cases hc
  rename_i kt e hu
  simp only[Option.map_eq_some_iff]at hc
  obtain⟨x',hx,rfl⟩:=hc
  have hxv:=Xj hE hx
  simp only[aop]at h
  split at h
  case h_2=>cases h
  rename_i m e1
  rw[e1]at hxv
  split at h
  case h_2=>cases h
  rename_i kl vals c hm
  split at h
  case isFalse=>cases h
  rename_i hlt
  simp only[Option.some.injEq,Prod.mk.injEq]at h
  obtain⟨rfl,rfl⟩:=h
  exact Ww (out_range hI hu hxv hm hlt)
 |next x isString=>
  rw[hop]at hc
  dsimp only
  cases isString with
  |true=>simp[Xo]at hc
  |false=>
   simp only[Xo,Option.map_eq_some_iff]at hc
   obtain⟨x',hx,rfl⟩:=hc
   have hxv:=Xj hE hx
   simp only[aop]at h
   split at h
   case h_2=>cases h
   rename_i k e1
   rw[e1]at hxv
   split at h
   case h_2=>cases h
   rename_i m since seen last hk
   split at h
   case h_2=>cases h
   rename_i kl vals c hm
   split at h
   case isFalse=>cases h
   rename_i hcond
   split at h
   ·rename_i hl
    simp only[Option.some.injEq,Prod.mk.injEq]at h
    obtain⟨rfl,rfl⟩:=h
    obtain⟨v,w',h1,h2,h3,h4⟩:=out_next (P:=P) (ty:=o.type) hI hxv hk hm hcond.1 hcond.2 (.inl ⟨hl,rfl,rfl⟩)
    exact⟨v,w',g,.inl (by simp[h1]),h2,h3,h4⟩
   ·rename_i en hl
    split at h
    case h_2=>cases h
    rename_i kp hkp
    split at h
    case isFalse=>cases h
    rename_i hvl
    simp only[Option.some.injEq,Prod.mk.injEq]at h
    obtain⟨rfl,rfl⟩:=h
    obtain⟨v,w',h1,h2,h3,h4⟩:=out_next (P:=P) (ty:=o.type) hI hxv hk hm hcond.1 hcond.2 (.inr ⟨en,kp,hl,hkp,rfl,rfl⟩)
    exact⟨v,w',g,.inl (by simp[h1]),h2,h3,h4⟩
   ·cases h
 |entry x=>
  rw[hop]at hc
  dsimp only
  simp only[Xo,Option.map_eq_some_iff]at hc
  obtain⟨x',hx,rfl⟩:=hc
  have hxv:=Xj hE hx
  simp only[aop]at h
  split at h
  case h_2=>cases h
  rename_i k e1
  rw[e1]at hxv
  split at h
  case h_2=>cases h
  rename_i m since seen last hk
  split at h
  case h_2=>cases h
  rename_i kl vals c hm
  split at h
  case isFalse=>cases h
  rename_i hcond
  split at h
  case h_2=>cases h
  rename_i stamp hst
  split at h
  case h_2=>cases h
  rename_i en hen
  split at h
  case h_2=>cases h
  rename_i kp hkp
  simp only[Option.some.injEq,Prod.mk.injEq]at h
  obtain⟨rfl,rfl⟩:=h
  exact Xm hI (out_entry hI hxv hk hm hcond.1 hcond.2 hst hen hkp)
 |_=>rw[hop]at hc;simp[Xo]at hc
end
end Go.PE
