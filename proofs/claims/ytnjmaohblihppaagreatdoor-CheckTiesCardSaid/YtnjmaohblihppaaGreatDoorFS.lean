/- A part of the proof. -/
import Derived.Test.YtnjmaohblihppaaGreatDoorFO
import Derived.Test.YtnjmaohblihppaaGreatDoorTTa
set_option linter.all false
namespace Go.Proofs.YtnjmaohblihppaaGreatDoor
open Go.PE Go.RowKit
set_option maxRecDepth 100000
set_option maxHeartbeats 4000000
theorem t_cnt {σ τ:Type} {body:σ→Option (σ⊕τ)} (idx:σ→Int) (n:Int) (hn:n≤maxLen) (I:σ→Prop) {T:τ→Prop} {s:σ} (h0:0≤idx s) (h1:idx s≤n) (hI:I s)
  (step:∀ s,I s→0≤idx s→idx s≤n→Tot (body s) fun r=>match r with
   |.inl s'=>I s'∧idx s'=idx s+1∧idx s<n
   |.inr t=>T t):Tot (loopF body s) T:=by
 unfold maxLen at hn
 refine loopF_end (fun s=>I s∧0≤idx s∧idx s≤n) (fun s=>(n-idx s).toNat) T (fun s hs=>?_) ⟨hI,h0,h1⟩ (by omega)
 obtain⟨r,hr,hq⟩:=step s hs.1 hs.2.1 hs.2.2
 cases r with
 |inl s'=>exact .inl ⟨s',hr,⟨hq.1,by omega,by omega⟩,by omega⟩
 |inr t=>exact .inr ⟨t,hr,hq⟩
def upto {α:Type} (x:Sl α) (B:α→Prop) (k:Int):Prop:=∀ i y,i<k→gx x.es i=some y→B y
theorem upto0 {α:Type} {x:Sl α} {B:α→Prop}:upto x B 0:=fun i y hi h=>by have:=(gx_pos h).1;omega
theorem upto1 {α:Type} {x:Sl α} {B:α→Prop} {k:Int} {y:α} (h:upto x B k) (hy:gx x.es k=some y) (hb:B y):upto x B (k+1):=fun i z hi hz=>by
 rcases Int.lt_or_le i k with h1|h1
 ·exact h i z h1 hz
 ·obtain rfl:i=k:=by omega
  cases hz.symm.trans hy
  exact hb
theorem uptoE {α:Type} {x:Sl α} {B:α→Prop} {k:Int} (h:upto x B k) (hk:ln x≤k):∀ y∈x.es,B y:=fun y hy=>by
 obtain⟨i,hi⟩:=List.getElem?_of_mem hy
 have hl:=(List.getElem?_eq_some_iff.1 hi).1
 refine h (i:Nat) y (by simp only[ln]at hk;omega) ?_
 unfold gx
 rw[if_pos (by omega),show((i:Nat):Int).toNat=i by omega]
 exact hi
theorem bsx {α:Type} {B:α→Prop} {x:Sl α} {i:Int} (h:bS B x) (h0:0≤i) (h1:i<ln x):Tot (gx x.es i) fun y=>B y∧gx x.es i=some y:=by
 obtain⟨y,e,hy,_⟩:=t_gx h0 h1
 exact⟨y,e,h.2 y hy,e⟩
def sOK (x:G135Syllable):Prop:=x.fText.size≤300
def eOK (x:G49Event):Prop:=ln x.fHeads≤12∧ln x.fGraces≤12∧ln x.fLyrics≤12∧∀ y∈x.fLyrics.es,sOK y
def vOK (x:G73Voice):Prop:=(ln x.fEvents≤20∧∀ y∈x.fEvents.es,eOK y)∧ln x.fTuplets≤6
theorem wi1 {k n:Int} (h0:0≤k) (h1:k<n) (hn:n≤maxLen):wi (k+1)=k+1:=by unfold maxLen at hn;exact wi_id (by omega) (by omega)
theorem sLF30_21 {v11:G49Event} {k:Int} (hb:big49 v11) (b0:0≤k) (hu:upto v11.fLyrics sOK k):Tot (LF30_21 v11 k) (fun r=>match r with
  |.inl i=>upto v11.fLyrics sOK i∧i=k+1∧k<ln v11.fLyrics
  |.inr (.inl _)=>True
  |.inr (.inr _)=>∀ y∈v11.fLyrics.es,sOK y):=by
 unfold LF30_21
 refine t_bd (fun c=>?_) fun c=>t_some (uptoE hu (by omega))
 refine t_bind (bsx hb.fLyrics b0 c) fun v23 h23=>?_
 refine t_bd (fun c2=>t_some trivial) fun c2=>t_some ?_
 have e:=wi1 b0 c hb.fLyrics.1
 dsimp only
 rw[e]
 exact⟨upto1 hu h23.2 (by unfold sOK;simp only[lns]at c2;omega),rfl,c⟩
theorem sJF30_14 {v11:G49Event} {k n:Int} {b:Bool} (hb:big49 v11) (b0:0≤k) (b1:k<n) (hn:n≤maxLen) (h:b=false→ln v11.fHeads≤12∧ln v11.fGraces≤12∧ln v11.fLyrics≤12):Tot (JF30_14 v11 k b) (fun r=>match r with
  |.inl i=>eOK v11∧i=k+1
  |.inr (.inl _)=>True
  |.inr (.inr _)=>False):=by
 unfold JF30_14
 refine t_bif (fun c=>t_some trivial) fun c=>?_
 obtain⟨h1,h2,h3⟩:=h c
 refine t_bind (t_cnt (fun (k:Int)=>k) (ln v11.fLyrics) hb.fLyrics.1 (fun k=>upto v11.fLyrics sOK k) (T:=fun r=>match r with|.inl _=>True|.inr _=>∀ y∈v11.fLyrics.es,sOK y) tB ln_nn upto0 ?_) ?_
 ·intro k hu h0 _
  refine(sLF30_21 hb h0 hu).mono ?_
  rintro(i|r|r) h<;>exact h
 ·rintro(r|r) h
  ·exact t_some trivial
  ·show Tot (JF30_10 k) _
   unfold JF30_10
   refine t_some ?_
   dsimp only
   rw[wi1 b0 b1 hn]
   exact⟨⟨h1,h2,h3,h⟩,rfl⟩
theorem sLF30_8 {v0:G73Voice} {k:Int} (hb:big73 v0) (h0:0≤k) (hu:upto v0.fEvents eOK k):Tot (LF30_8 v0 k) (fun r=>match r with
  |.inl i=>upto v0.fEvents eOK i∧i=k+1∧k<ln v0.fEvents
  |.inr (.inl _)=>True
  |.inr (.inr _)=>∀ y∈v0.fEvents.es,eOK y):=by
 unfold LF30_8
 refine t_bd (fun c=>?_) fun c=>t_some (uptoE hu (by omega))
 refine t_bind (bsx hb.fEvents h0 c) fun v11 h11=>?_
 have key:∀ {b:Bool},(b=false→ln v11.fHeads≤12∧ln v11.fGraces≤12∧ln v11.fLyrics≤12)→Tot (JF30_14 v11 k b) (fun r=>match r with
   |.inl i=>upto v0.fEvents eOK i∧i=k+1∧k<ln v0.fEvents
   |.inr (.inl _)=>True
   |.inr (.inr _)=>∀ y∈v0.fEvents.es,eOK y):=fun hq=>by
  refine(sJF30_14 h11.1 h0 c hb.fEvents.1 hq).mono ?_
  rintro(i|r|r) h
  ·obtain⟨h1,rfl⟩:=h
   exact⟨upto1 hu h11.2 h1,rfl,c⟩
  ·trivial
  ·exact h.elim
 refine t_bd (fun c1=>key (b:=true) (by intro h;cases h)) fun c1=>?_
 refine t_bd (fun c2=>key (b:=true) (by intro h;cases h)) fun c2=>?_
 exact key fun h=>⟨by omega,by omega,by have:=of_decide_eq_false h;omega⟩
theorem sF30 {v0:G73Voice} (hb:big73 v0):Tot (F30 v0) (fun b=>b=true→vOK v0):=by
 unfold F30
 refine t_bind (t_cnt (fun (k:Int)=>k) (ln v0.fEvents) hb.fEvents.1 (fun k=>upto v0.fEvents eOK k) (T:=fun r=>match r with|.inl _=>True|.inr _=>∀ y∈v0.fEvents.es,eOK y) (by decide) ln_nn upto0 ?_) ?_
 ·intro k hu h0 _
  refine(sLF30_8 hb h0 hu).mono ?_
  rintro(i|r|r) h<;>exact h
 ·rintro(r|r) h
  ·exact t_some (by intro h;cases h)
  ·show Tot (JF30_1 v0) _
   unfold JF30_1
   refine t_bd (fun c=>t_some fun h2=>⟨⟨c,h⟩,of_decide_eq_true h2⟩) fun c=>t_some (by intro h;cases h)
theorem sF31 {v0:G73Voice} (hb:big73 v0):Tot (F31 v0) (fun _=>True):=by
 unfold F31
 refine t_bind (R:=fun _=>True) (t_cnt (fun x=>match x with|(_,k)=>k) (ln v0.fEvents) hb.fEvents.1 (fun _=>True) (T:=fun _=>True) tB ln_nn trivial ?_) fun o _=>t_some trivial
 rintro⟨v3,k⟩ _ h0 h1
 dsimp only at h0 h1 ⊢
 unfold LF31_10
 refine t_bd (fun c=>?_) fun c=>t_some trivial
 obtain⟨y,ey,hy⟩:=bsx hb.fEvents h0 c
 refine t_bind (R:=fun _=>True) (t_cnt (fun x=>match x with|(_,j)=>j) (ln y.fLyrics) hy.1.fLyrics.1 (fun _=>True) (T:=fun _=>True) tB ln_nn trivial ?_) fun o _=>?_
 ·rintro⟨v14,j⟩ _ g0 g1
  dsimp only at g0 g1 ⊢
  unfold LF31_21
  rw[ey]
  simp only[Option.bind_some]
  refine t_bd (fun c2=>?_) fun c2=>t_some trivial
  refine t_bind (bsx hy.1.fLyrics g0 c2) fun v27 _=>t_some ⟨trivial,wi1 g0 c2 hy.1.fLyrics.1,c2⟩
 ·show Tot (JF31_13 k o) _
  unfold JF31_13
  exact t_some ⟨trivial,wi1 h0 c hb.fEvents.1,c⟩
def cOK (x:G69Cell):Prop:=ln x.fClefs≤5∧ln x.fVoices≤3∧∀ y∈x.fVoices.es,vOK y
def mOK (x:G64Measure):Prop:=(ln x.fCells≤5∧ln x.fTempi≤5∧x.fRehearsal.size≤300)∧∀ y∈x.fCells.es,cOK y
def pOK (x:G89Part):Prop:=ln x.fStaves≤5∧x.fName.size≤300
theorem sLF11_50 {v19:G64Measure} {C:G69Cell} {v26 a b k:Int} (hb:big69 C) (hC:gx v19.fCells.es v26=some C) (b0:0≤k) (hu:upto C.fVoices vOK k):Tot (LF11_50 v19 v26 a b k) (fun r=>match r with
  |.inl (_,_,i)=>upto C.fVoices vOK i∧i=k+1∧k<ln C.fVoices
  |.inr (.inl _)=>True
  |.inr (.inr _)=>∀ y∈C.fVoices.es,vOK y):=by
 unfold LF11_50
 rw[hC]
 simp only[Option.bind_some]
 refine t_bd (fun c=>?_) fun c=>t_some (uptoE hu (by omega))
 obtain⟨V,eV,hV⟩:=bsx hb.fVoices b0 c
 rw[eV]
 simp only[Option.bind_some]
 refine t_bind (sF30 hV.1) fun v58 h58=>?_
 refine t_bif (fun _=>t_some trivial) fun c1=>?_
 have hv:vOK V:=h58 (by simpa using c1)
 refine t_bind (sF31 hV.1) fun v69 _=>?_
 have key:∀ q:Bool,Tot (JF11_72 a V b v69 k q) (fun r=>match r with
   |.inl (_,_,i)=>upto C.fVoices vOK i∧i=k+1∧k<ln C.fVoices
   |.inr (.inl _)=>True
   |.inr (.inr _)=>∀ y∈C.fVoices.es,vOK y):=fun q=>by
  unfold JF11_72
  refine t_bif (fun _=>t_some trivial) fun _=>t_some ?_
  dsimp only
  rw[wi1 b0 c hb.fVoices.1]
  exact⟨upto1 hu eV hv,rfl,c⟩
 exact t_bif (fun _=>key _) fun _=>key _
theorem sJF11_39 {v19:G64Measure} {C:G69Cell} {v26 a b:Int} {q:Bool} (hm:big64 v19) (hb:big69 C) (hC:gx v19.fCells.es v26=some C) (h:q=false→ln C.fClefs≤5∧ln C.fVoices≤3):Tot (JF11_39 v19 v26 a b q) (fun r=>match r with
  |.inl (_,_,i)=>cOK C∧i=v26+1
  |.inr (.inl _)=>True
  |.inr (.inr _)=>False):=by
 unfold JF11_39
 refine t_bif (fun c=>t_some trivial) fun c=>?_
 obtain⟨h1,h2⟩:=h c
 refine t_bind (t_cnt (fun x=>match x with|(_,_,k)=>k) (ln C.fVoices) hb.fVoices.1 (fun x=>match x with|(_,_,k)=>upto C.fVoices vOK k) (T:=fun r=>match r with|.inl _=>True|.inr _=>∀ y∈C.fVoices.es,vOK y) tB ln_nn upto0 ?_) ?_
 ·rintro⟨x,y,k⟩ hu h0 _
  refine(sLF11_50 hb hC h0 hu).mono ?_
  rintro(⟨_,_,i⟩|r|r) h<;>exact h
 ·rintro(r|⟨x,y⟩) h
  ·exact t_some trivial
  ·show Tot (JF11_37 v26 x y) _
   unfold JF11_37
   refine t_some ?_
   dsimp only
   have g:=gx_pos hC
   rw[wi1 g.1 (show v26<ln v19.fCells from g.2) hm.fCells.1]
   exact⟨⟨h1,h2,h⟩,rfl⟩
theorem sLF11_33 {v19:G64Measure} {a b k:Int} (hm:big64 v19) (b0:0≤k) (hu:upto v19.fCells cOK k):Tot (LF11_33 v19 a b k) (fun r=>match r with
  |.inl (_,_,i)=>upto v19.fCells cOK i∧i=k+1∧k<ln v19.fCells
  |.inr (.inl _)=>True
  |.inr (.inr _)=>∀ y∈v19.fCells.es,cOK y):=by
 unfold LF11_33
 refine t_bd (fun c=>?_) fun c=>t_some (uptoE hu (by omega))
 obtain⟨C,eC,hC⟩:=bsx hm.fCells b0 c
 rw[eC]
 simp only[Option.bind_some]
 have key:∀ {q:Bool},(q=false→ln C.fClefs≤5∧ln C.fVoices≤3)→Tot (JF11_39 v19 k a b q) (fun r=>match r with
   |.inl (_,_,i)=>upto v19.fCells cOK i∧i=k+1∧k<ln v19.fCells
   |.inr (.inl _)=>True
   |.inr (.inr _)=>∀ y∈v19.fCells.es,cOK y):=fun hq=>by
  refine(sJF11_39 hm hC.1 eC hq).mono ?_
  rintro(⟨_,_,i⟩|r|r) h
  ·obtain⟨h1,rfl⟩:=h
   exact⟨upto1 hu eC h1,rfl,c⟩
  ·trivial
  ·exact h.elim
 refine t_bd (fun c1=>key (q:=true) (by intro h;cases h)) fun c1=>?_
 exact key fun h=>⟨by omega,by have:=of_decide_eq_false h;omega⟩
theorem sJF11_22 {v19:G64Measure} {a b k n:Int} {q:Bool} (hm:big64 v19) (b0:0≤k) (b1:k<n) (hn:n≤maxLen) (h:q=false→ln v19.fCells≤5∧ln v19.fTempi≤5∧v19.fRehearsal.size≤300):Tot (JF11_22 v19 a b k q) (fun r=>match r with
  |.inl (_,_,i)=>mOK v19∧i=k+1
  |.inr (.inl _)=>True
  |.inr (.inr _)=>False):=by
 unfold JF11_22
 refine t_bif (fun c=>t_some trivial) fun c=>?_
 have h:=h c
 refine t_bind (t_cnt (fun x=>match x with|(_,_,k)=>k) (ln v19.fCells) hm.fCells.1 (fun x=>match x with|(_,_,k)=>upto v19.fCells cOK k) (T:=fun r=>match r with|.inl _=>True|.inr _=>∀ y∈v19.fCells.es,cOK y) tB ln_nn upto0 ?_) ?_
 ·rintro⟨x,y,k⟩ hu h0 _
  refine(sLF11_33 hm h0 hu).mono ?_
  rintro(⟨_,_,i⟩|r|r) h<;>exact h
 ·rintro(r|⟨x,y⟩) h2
  ·exact t_some trivial
  ·show Tot (JF11_18 k x y) _
   unfold JF11_18
   refine t_some ?_
   dsimp only
   rw[wi1 b0 b1 hn]
   exact⟨⟨h,h2⟩,rfl⟩
theorem sLF11_14 {v0:G27Score} {a b k:Int} (hb:big27 v0) (b0:0≤k) (hu:upto v0.fMeasures mOK k):Tot (LF11_14 v0 a b k) (fun r=>match r with
  |.inl (_,_,i)=>upto v0.fMeasures mOK i∧i=k+1∧k<ln v0.fMeasures
  |.inr (.inl _)=>True
  |.inr (.inr _)=>∀ y∈v0.fMeasures.es,mOK y):=by
 unfold LF11_14
 refine t_bd (fun c=>?_) fun c=>t_some (uptoE hu (by omega))
 refine t_bind (bsx hb.fMeasures b0 c) fun M hM=>?_
 have key:∀ {q:Bool},(q=false→ln M.fCells≤5∧ln M.fTempi≤5∧M.fRehearsal.size≤300)→Tot (JF11_22 M a b k q) (fun r=>match r with
   |.inl (_,_,i)=>upto v0.fMeasures mOK i∧i=k+1∧k<ln v0.fMeasures
   |.inr (.inl _)=>True
   |.inr (.inr _)=>∀ y∈v0.fMeasures.es,mOK y):=fun hq=>by
  refine(sJF11_22 hM.1 b0 c hb.fMeasures.1 hq).mono ?_
  rintro(⟨_,_,i⟩|r|r) h
  ·obtain⟨h1,rfl⟩:=h
   exact⟨upto1 hu hM.2 h1,rfl,c⟩
  ·trivial
  ·exact h.elim
 refine t_bd (fun c1=>key (q:=true) (by intro h;cases h)) fun c1=>?_
 refine t_bd (fun c2=>key (q:=true) (by intro h;cases h)) fun c2=>?_
 exact key fun h=>⟨by omega,by omega,by have:=of_decide_eq_false h;simp only[lns]at this;omega⟩
theorem sLF11_87 {v0:G27Score} {k:Int} (hb:big27 v0) (b0:0≤k) (hu:upto v0.fParts pOK k):Tot (LF11_87 v0 k) (fun r=>match r with
  |.inl i=>upto v0.fParts pOK i∧i=k+1∧k<ln v0.fParts
  |.inr (.inl _)=>True
  |.inr (.inr _)=>∀ y∈v0.fParts.es,pOK y):=by
 unfold LF11_87
 refine t_bd (fun c=>?_) fun c=>t_some (uptoE hu (by omega))
 obtain⟨p,ep,hp⟩:=bsx hb.fParts b0 c
 rw[ep]
 simp only[Option.bind_some]
 have key:∀ {q:Bool},(q=false→pOK p)→Tot (JF11_90 k q) (fun r=>match r with
   |.inl i=>upto v0.fParts pOK i∧i=k+1∧k<ln v0.fParts
   |.inr (.inl _)=>True
   |.inr (.inr _)=>∀ y∈v0.fParts.es,pOK y):=fun {q} hq=>by
  unfold JF11_90
  refine t_bif (fun _=>t_some trivial) fun c1=>t_some ?_
  dsimp only
  rw[wi1 b0 c hb.fParts.1]
  exact⟨upto1 hu ep (hq c1),rfl,c⟩
 refine t_bd (fun c1=>key (q:=true) (by intro h;cases h)) fun c1=>?_
 exact key fun h=>⟨by omega,by have:=of_decide_eq_false h;simp only[lns]at this;omega⟩
theorem sF11 {v0:G27Score} (hb:big27 v0):Tot (F11 v0) (fun b=>b=true→okG27Score v0):=by
 unfold F11
 refine t_bind (t_cnt (fun (k:Int)=>k) (ln v0.fParts) hb.fParts.1 (fun k=>upto v0.fParts pOK k) (T:=fun r=>match r with|.inl _=>True|.inr _=>∀ y∈v0.fParts.es,pOK y) tB ln_nn upto0 ?_) ?_
 ·intro k hu h0 _
  refine(sLF11_87 hb h0 hu).mono ?_
  rintro(i|r|r) h<;>exact h
 rintro(r|r) hp
 ·exact t_some (by intro h;cases h)
 show Tot (JF11_1 v0) _
 unfold JF11_1
 refine t_bind (t_cnt (fun x=>match x with|(_,_,k)=>k) (ln v0.fMeasures) hb.fMeasures.1 (fun x=>match x with|(_,_,k)=>upto v0.fMeasures mOK k) (T:=fun r=>match r with|.inl _=>True|.inr _=>∀ y∈v0.fMeasures.es,mOK y) tB ln_nn upto0 ?_) ?_
 ·rintro⟨x,y,k⟩ hu h0 _
  refine(sLF11_14 hb h0 hu).mono ?_
  rintro(⟨_,_,i⟩|r|r) h<;>exact h
 rintro(r|r) hm
 ·exact t_some (by intro h;cases h)
 show Tot (JF11_2 v0) _
 unfold JF11_2
 refine t_bd (fun c1=>?_) fun _=>t_some (by intro h;cases h)
 refine t_bd (fun c2=>?_) fun _=>t_some (by intro h;cases h)
 refine t_bd (fun c3=>?_) fun _=>t_some (by intro h;cases h)
 refine t_bd (fun c4=>?_) fun _=>t_some (by intro h;cases h)
 refine t_some fun c5=>?_
 have c5:=of_decide_eq_true c5
 simp only[lns]at c5
 have ev:∀ x,eOK x→okG49Event x:=fun x h=>⟨.tr (by have:=h.1;omega),.tr (by have:=h.2.1;omega),⟨by have:=h.2.2.1;omega,fun y hy=>⟨by have:=h.2.2.2 y hy;unfold sOK at this;unfold OkB;omega⟩⟩⟩
 have vo:∀ x,vOK x→okG73Voice x:=fun x h=>⟨⟨by have:=h.1.1;omega,fun y hy=>ev y (h.1.2 y hy)⟩,.tr h.2⟩
 have ce:∀ x,cOK x→okG69Cell x:=fun x h=>⟨.tr h.1,h.2.1,fun y hy=>vo y (h.2.2 y hy)⟩
 have me:∀ x∈v0.fMeasures.es,okG64Measure x:=fun x hx=>by
  have h:=hm x hx
  exact⟨(hb.fMeasures.2 x hx).fRepeatEnd,by have:=h.1.2.2;unfold OkB;omega,.tr h.1.2.1,h.1.1,fun y hy=>ce y (h.2 y hy)⟩
 exact⟨by unfold OkB;omega,⟨c1,fun x hx=>⟨by have:=(hp x hx).2;unfold OkB;omega,.tr (hp x hx).1⟩⟩,⟨c2,me⟩,.tr c3,.tr c4⟩
end Go.Proofs.YtnjmaohblihppaaGreatDoor
