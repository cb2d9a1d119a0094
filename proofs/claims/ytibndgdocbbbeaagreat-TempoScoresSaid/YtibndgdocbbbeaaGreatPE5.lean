/- A part of the proof. -/
import Derived.Test.YtibndgdocbbbeaaGreatPE4
set_option linter.all false
namespace Go.PE
open Go.RowKit
theorem Ka (off:Nat):∀ (l:List Value) (k:Nat) (cs:Array Value),off+k+l.length<=cs.size->
  ((l.zipIdx k).foldl (λcs (x:Value×Nat)=>cs.setIfInBounds (off+x.2) x.1) cs).size=cs.size/\
  ∀ q,((l.zipIdx k).foldl (λcs (x:Value×Nat)=>cs.setIfInBounds (off+x.2) x.1) cs)[q]?=if off+k<=q/\q<off+k+l.length then l[q-(off+k)]? else cs[q]?
 |[],k,cs,_=>⟨rfl,λq=>by simp;omega⟩
 |x::l,k,cs,h=>by
  simp only[List.length_cons]at h
  obtain⟨h1,h2⟩:=Ka off l (k+1) (cs.setIfInBounds (off+k) x) (by rw[Array.size_setIfInBounds];omega)
  rw[List.zipIdx_cons,List.foldl_cons]
  refine⟨by rw[h1];simp,λq=>?_⟩
  rw[h2]
  by_cases hq:q=off+k
  ·subst hq
   rw[if_neg (by omega),if_pos ⟨Nat.le_refl _,by simp only[List.length_cons];omega⟩,Nat.sub_self,Array.getElem?_setIfInBounds,if_pos rfl,if_pos (by omega)]
   rfl
  ·by_cases hq2:off+(k+1)<=q/\q<off+(k+1)+l.length
   ·rw[if_pos hq2,if_pos (by simp only[List.length_cons];omega),show q-(off+k)=(q-(off+(k+1)))+1 by omega]
    simp
   ·rw[if_neg hq2,if_neg (by simp only[List.length_cons];omega),Array.getElem?_setIfInBounds,if_neg (by omega)]
theorem fold_eq (off:Nat) (v cs:Array Value):v.zipIdx.foldl (λcs (c,j)=>cs.setIfInBounds (off+j) c) cs=(v.toList.zipIdx 0).foldl (λcs (x:Value×Nat)=>cs.setIfInBounds (off+x.2) x.1) cs:=by
 rw[<-Array.foldl_toList,Array.toList_zipIdx]
theorem LR.put {g:Gh} {cs vs:List PV} {cells v:Array Value} (h:LR g cs cells) (k:LR g vs v) {off:Nat} (ho:off+vs.length<=cs.length):
  LR g (cs.take off++vs++cs.drop (off+vs.length)) (v.zipIdx.foldl (λcs (c,j)=>cs.setIfInBounds (off+j) c) cells):=by
 have hv:v.toList.length=vs.length:=by simp[k.1]
 obtain⟨h1,h2⟩:=Ka off v.toList 0 cells (by rw[hv,<-h.1];omega)
 rw[fold_eq]
 refine⟨by rw[h1,<-h.1];simp;omega,λi p u hp hu=>?_⟩
 rw[h2 i,hv]at hu
 rw[List.append_assoc]at hp
 by_cases ha:i<off
 ·rw[if_neg (by omega)]at hu
  rw[List.getElem?_append_left (by simp;omega),List.getElem?_take,if_pos ha]at hp
  exact h.2 i p u hp hu
 ·rw[List.getElem?_append_right (by simp;omega),List.length_take,Nat.min_eq_left (by omega)]at hp
  by_cases hb:i<off+vs.length
  ·rw[if_pos (by omega)]at hu
   rw[List.getElem?_append_left (by omega)]at hp
   simp at hu
   exact k.2 _ p u hp hu
  ·rw[if_neg (by omega)]at hu
   rw[List.getElem?_append_right (by omega),List.getElem?_drop,show off+vs.length+(i-off-vs.length)=i by omega]at hp
   exact h.2 i p u hp hu
theorem fill_sound {g:Gh} {place:Nat->Option (Nat×Nat)}:∀ (parts:List (Nat×Value)) (ps:List ((Nat×Nat)×PV)) (cs:List PV) (cells:Array Value) (out:List PV),LR g cs cells->
  parts.length=ps.length->(∀ (i:Nat) (a:Nat×Value) (b:(Nat×Nat)×PV),parts[i]?=some a->ps[i]?=some b->place a.1=some b.1/\RV g b.2 a.2)->fillP cs ps=some out->
  ∃ r,Instr.fill place cells parts=some r/\LR g out r
 |[],[],cs,cells,out,h,_,_,ho=>⟨cells,rfl,by cases ho;exact h⟩
 |[],_::_,_,_,_,_,hl,_,_=>by simp at hl
 |_::_,[],_,_,_,_,hl,_,_=>by simp at hl
 |(i,v)::parts,((off,size),p)::ps,cs,cells,out,h,hl,hp,ho=>by
  obtain⟨h1,h2⟩:=hp 0 (i,v) ((off,size),p) rfl rfl
  simp only[fillP]at ho
  split at ho
  case isFalse=>cases ho
  rename_i hc
  obtain⟨h3,hc⟩:=hc
  have hk:=h2.cellsLR (λe=>by simp only at e;rw[e]at h3;cases h3)
  have hc1:p.cells.length=size:=hc.1
  have hk1:p.cells.length=v.cells.size:=hk.1
  simp only[Instr.fill,h1]
  rw[if_neg (by rw[<-hk1,<-h.1];simp only[Bool.or_eq_true,decide_eq_true_eq];omega)]
  refine fill_sound parts ps _ _ out ?_ (by simpa using hl) (λi a b ha hb=>hp (i+1) a b ha hb) ho
  have:=h.put hk (off:=off) (by simp only;omega)
  simp only[hc1]at this
  exact this
theorem Wm {P:Program} {t:TypeId} {i:TypeInfo} (h:P.info? t=some i) (w:World):(sizeOf t).run P w=.ok i.size w:=by simp[sizeOf,typeInfo,h]
theorem run_zeroValue {P:Program} {t:TypeId} {i:TypeInfo} {z:Value} (h:P.info? t=some i) (hz:i.zero=some z) (w:World):(zeroValue t).run P w=.ok z w:=by simp[zeroValue,typeInfo,h,hz]
def placeOf (P:Program) (f:Field):Option (Nat×Nat):=(P.info? f.type).map λi=>(f.offset,i.size)
def placesOf (P:Program) (fs:List Field):Option (List (Nat×Nat)):=fs.mapM (placeOf P)
theorem run_mapM_list {P:Program} {α β:Type} {f:α->Sem β} {h:α->Option β} (hf:∀ a b,h a=some b->∀ w,(f a).run P w=.ok b w):∀ (l:List α) (r:List β),l.mapM h=some r->∀ w,(l.mapM f).run P w=.ok r w
 |[],r,hr,w=>by simp at hr;subst hr;simp
 |x::l,r,hr,w=>by
  rw[List.mapM_cons]at hr ⊢
  cases hx:h x with
  |none=>simp[hx]at hr
  |some y=>
   cases hl:l.mapM h with
   |none=>simp[hx,hl]at hr
   |some t=>
    simp[hx,hl]at hr
    subst hr
    simp[hf x y hx,run_mapM_list hf l t hl]
theorem run_places {P:Program} {fs:Array Field} {pl:List (Nat×Nat)} (h:placesOf P fs.toList=some pl) (w:World):
  (fs.mapM λf=>do pure (f.offset,<-sizeOf f.type):Sem (Array (Nat×Nat))).run P w=.ok pl.toArray w:=by
 rw[Array.mapM_eq_mapM_toList]
 simp only[Sem.run_map]
 have:=run_mapM_list (P:=P) (f:=λf:Field=>do pure (f.offset,<-sizeOf f.type)) (h:=placeOf P) (λf b hb w=>by
  unfold placeOf at hb
  cases hi:P.info? f.type with
  |none=>simp[hi]at hb
  |some i=>simp[hi]at hb;subst hb;simp[Wm hi]) fs.toList pl h w
 rw[this]
 rfl
theorem fill_all {size:Nat}:∀ (vs:List Value) (k:Nat) (pre:List Value) (cells:Array Value),(∀ v∈vs,v.cells.size=size)->pre.length=k*size->cells.size=(k+vs.length)*size->cells.toList.take (k*size)=pre->
  Instr.fill (λi=>some (i*size,size)) cells ((vs.zipIdx k).map λx=>(x.2,x.1))=some (pre++vs.flatMap λv=>v.cells.toList).toArray
 |[],k,pre,cells,_,hp,hs,ht=>by
  have:cells.toList.length=k*size:=by simpa using hs
  have e:cells.toList=pre:=by rw[<-ht,List.take_of_length_le (by omega)]
  simp[Instr.fill,<-e]
 |v::vs,k,pre,cells,hv,hp,hs,ht=>by
  have h0:v.cells.size=size:=hv v (by simp)
  have hfit:k*size+v.cells.size<=cells.size:=by
   rw[hs,h0,Nat.add_mul]
   have:size<=(v::vs).length*size:=Nat.le_mul_of_pos_left _ (by simp)
   omega
  rw[List.zipIdx_cons,List.map_cons]
  simp only[Instr.fill]
  rw[if_neg (by simp only[Bool.or_eq_true,decide_eq_true_eq];omega),fold_eq]
  obtain⟨h1,h2⟩:=Ka (k*size) v.cells.toList 0 cells (by simpa using hfit)
  have ih:=fill_all vs (k+1) (pre++v.cells.toList) ((v.cells.toList.zipIdx 0).foldl (λcs (x:Value×Nat)=>cs.setIfInBounds (k*size+x.2) x.1) cells) (λu hu=>hv u (by simp[hu])) (by simp[hp,h0,Nat.add_mul])
   (by rw[h1,hs];simp;congr 1;omega) ?_
  ·rw[ih]
   simp
  ·apply List.ext_getElem?
   intro q
   have hq:=h2 q
   rw[Array.getElem?_toList.symm]at hq
   rw[List.getElem?_take]
   have hpl:pre.length=k*size:=hp
   by_cases ha:q<k*size
   ·rw[if_pos (by rw[Nat.add_mul];omega),hq,if_neg (by omega),List.getElem?_append_left (by omega),<-ht,List.getElem?_take,if_pos ha];simp
   ·by_cases hb:q<(k+1)*size
    ·rw[if_pos hb,hq,if_pos (by rw[Nat.add_mul]at hb;simp[h0];omega),List.getElem?_append_right (by omega),hpl];rfl
    ·rw[if_neg hb,List.getElem?_eq_none (by simp[h0,hpl];rw[Nat.add_mul]at hb;omega)]
end Go.PE
