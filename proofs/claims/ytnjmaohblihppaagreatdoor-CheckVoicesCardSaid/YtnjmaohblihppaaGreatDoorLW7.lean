/- A part of the proof. -/
import Derived.Test.YtnjmaohblihppaaGreatDoorFRQ
import Derived.Test.YtnjmaohblihppaaGreatDoorTTa
import Derived.Test.YtnjmaohblihppaaGreatDoorFL7
import Derived.Test.YtnjmaohblihppaaGreatDoorFS
set_option linter.all false
namespace Go.Proofs.YtnjmaohblihppaaGreatDoor
open Go.PE
set_option maxRecDepth 100000
theorem Ex.nil {R:Int} {l:List G35Violation} (h:Ex R l []):l=[]:=by
 obtain⟨t,e,_⟩:=h
 exact(List.append_eq_nil_iff.1 e.symm).1
theorem ccc {α:Type} {c:Bool} {x:Option α} {r:α} (h:(bif c then x else x)=some r):x=some r:=by cases c<;>exact h
def Pf (l m:List G35Violation):Prop:=m=[]→l=[]
theorem Pf.ex {R:Int} {l m n:List G35Violation} (h:Ex R l m) (k:Pf m n):Pf l n:=fun e=>by
 have:=k e
 subst this
 exact h.nil
theorem p117 {v s b r} (h:JF32_117 v s b=some r):Pf v (Sl.es r):=by
 unfold JF32_117 at h
 rcases cor h with ⟨_,h⟩|⟨_,h⟩
 ·rw[q3 h];exact id
 ·obtain⟨u,hu,h⟩:=bind_some h
  refine .ex (xF77_1 hu) ?_
  rw[q3 h];exact id
theorem p109 {v s b r} (h:JF32_109 v s b=some r):Pf v (Sl.es r):=by
 unfold JF32_109 at h
 rcases cor h with ⟨_,h⟩|⟨_,h⟩
 ·rw[q3 h];exact id
 ·obtain⟨u,hu,h⟩:=bind_some h
  refine .ex (xF76_1 hu) ?_
  rcases cor h with ⟨_,h⟩|⟨_,h⟩
  ·obtain⟨_,_,h⟩:=bind_some h
   exact p117 h
  ·exact p117 h
theorem p101 {v s b r} (h:JF32_101 v s b=some r):Pf v (Sl.es r):=by
 unfold JF32_101 at h
 rcases cor h with ⟨_,h⟩|⟨_,h⟩
 ·rw[q3 h];exact id
 ·obtain⟨u,hu,h⟩:=bind_some h
  refine .ex (xF75_1 hu) ?_
  rcases cor h with ⟨_,h⟩|⟨_,h⟩
  ·obtain⟨_,_,h⟩:=bind_some h
   exact p109 h
  ·exact p109 h
theorem p93 {v s b r} (h:JF32_93 v s b=some r):Pf v (Sl.es r):=by
 unfold JF32_93 at h
 rcases cor h with ⟨_,h⟩|⟨_,h⟩
 ·rw[q3 h];exact id
 ·obtain⟨u,hu,h⟩:=bind_some h
  refine .ex (xF74_1 hu) ?_
  rcases cor h with ⟨_,h⟩|⟨_,h⟩
  ·obtain⟨_,_,h⟩:=bind_some h
   exact p101 h
  ·exact p101 h
theorem p85 {v s b r} (h:JF32_85 v s b=some r):Pf v (Sl.es r):=by
 unfold JF32_85 at h
 rcases cor h with ⟨_,h⟩|⟨_,h⟩
 ·rw[q3 h];exact id
 ·obtain⟨u,hu,h⟩:=bind_some h
  refine .ex (xF73_1 hu) ?_
  rcases cor h with ⟨_,h⟩|⟨_,h⟩
  ·obtain⟨_,_,h⟩:=bind_some h
   exact p93 h
  ·exact p93 h
theorem p77 {v s b r} (h:JF32_77 v s b=some r):Pf v (Sl.es r):=by
 unfold JF32_77 at h
 rcases cor h with ⟨_,h⟩|⟨_,h⟩
 ·rw[q3 h];exact id
 ·obtain⟨u,hu,h⟩:=bind_some h
  refine .ex (xF72_1 hu) ?_
  rcases cor h with ⟨_,h⟩|⟨_,h⟩
  ·obtain⟨_,_,h⟩:=bind_some h
   exact p85 h
  ·exact p85 h
theorem p69 {v s b r} (h:JF32_69 v s b=some r):Pf v (Sl.es r):=by
 unfold JF32_69 at h
 rcases cor h with ⟨_,h⟩|⟨_,h⟩
 ·rw[q3 h];exact id
 ·obtain⟨u,hu,h⟩:=bind_some h
  refine .ex (xF71_1 hu) ?_
  rcases cor h with ⟨_,h⟩|⟨_,h⟩
  ·obtain⟨_,_,h⟩:=bind_some h
   exact p77 h
  ·exact p77 h
theorem p61 {v s b r} (h:JF32_61 v s b=some r):Pf v (Sl.es r):=by
 unfold JF32_61 at h
 rcases cor h with ⟨_,h⟩|⟨_,h⟩
 ·rw[q3 h];exact id
 ·obtain⟨u,hu,h⟩:=bind_some h
  refine .ex (xF70_1 hu) ?_
  rcases cor h with ⟨_,h⟩|⟨_,h⟩
  ·obtain⟨_,_,h⟩:=bind_some h
   exact p69 h
  ·exact p69 h
theorem p54 {s l r} (h:JF32_54 s l=some r):Pf l (Sl.es r):=by
 unfold JF32_54 at h
 obtain⟨u,hu,h⟩:=bind_some h
 refine .ex (xF69_1 hu) ?_
 rcases cor h with ⟨_,h⟩|⟨_,h⟩
 ·obtain⟨_,_,h⟩:=bind_some h
  exact p61 h
 ·exact p61 h
theorem z48 {s l r} (h:JF32_48 s l=some r) (hr:Sl.es r=[]):l=[]∧F68_1 s 8 []=some []:=by
 unfold JF32_48 at h
 obtain⟨u,hu,h⟩:=bind_some h
 have e:u=[]:=by rcases cor h with ⟨_,h⟩|⟨_,h⟩<;>exact p54 h hr
 subst e
 have e:=(xF68_1 hu).nil
 subst e
 exact⟨rfl,hu⟩
theorem z42 {s l r} (h:JF32_42 s l=some r) (hr:Sl.es r=[]):l=[]∧F67_1 s 7 []=some []∧F68_1 s 8 []=some []:=by
 unfold JF32_42 at h
 obtain⟨u,hu,h⟩:=bind_some h
 have e:=z48 (ccc h) hr
 obtain⟨rfl,e⟩:=e
 have k:=(xF67_1 hu).nil
 subst k
 exact⟨rfl,hu,e⟩
theorem z36 {s l r} (h:JF32_36 s l=some r) (hr:Sl.es r=[]):l=[]∧F66_1 s 6 []=some []∧F67_1 s 7 []=some []∧F68_1 s 8 []=some []:=by
 unfold JF32_36 at h
 obtain⟨u,hu,h⟩:=bind_some h
 have e:=z42 (ccc h) hr
 obtain⟨rfl,e⟩:=e
 have k:=(xF66_1 hu).nil
 subst k
 exact⟨rfl,hu,e⟩
theorem z30 {s l r} (h:JF32_30 s l=some r) (hr:Sl.es r=[]):l=[]∧F65_1 s 5 []=some []∧F66_1 s 6 []=some []∧F67_1 s 7 []=some []∧F68_1 s 8 []=some []:=by
 unfold JF32_30 at h
 obtain⟨u,hu,h⟩:=bind_some h
 have e:=z36 (ccc h) hr
 obtain⟨rfl,e⟩:=e
 have k:=(xF65_1 hu).nil
 subst k
 exact⟨rfl,hu,e⟩
theorem z24 {s l r} (h:JF32_24 s l=some r) (hr:Sl.es r=[]):l=[]∧F64_1 s 4 []=some []∧F65_1 s 5 []=some []∧F66_1 s 6 []=some []∧F67_1 s 7 []=some []∧F68_1 s 8 []=some []:=by
 unfold JF32_24 at h
 obtain⟨u,hu,h⟩:=bind_some h
 have e:=z30 (ccc h) hr
 obtain⟨rfl,e⟩:=e
 have k:=(xF64_1 hu).nil
 subst k
 exact⟨rfl,hu,e⟩
theorem z18 {s l r} (h:JF32_18 s l=some r) (hr:Sl.es r=[]):l=[]∧F63_1 s 3 []=some []∧F64_1 s 4 []=some []∧F65_1 s 5 []=some []∧F66_1 s 6 []=some []∧F67_1 s 7 []=some []∧F68_1 s 8 []=some []:=by
 unfold JF32_18 at h
 obtain⟨u,hu,h⟩:=bind_some h
 have e:=z24 (ccc h) hr
 obtain⟨rfl,e⟩:=e
 have k:=(xF63_1 hu).nil
 subst k
 exact⟨rfl,hu,e⟩
theorem z32 {s r} (h:F32 s=some r) (hr:Sl.es r=[]):F63_1 s 3 []=some []∧F64_1 s 4 []=some []∧F65_1 s 5 []=some []∧F66_1 s 6 []=some []∧F67_1 s 7 []=some []∧F68_1 s 8 []=some []:=by
 unfold F32 at h
 have h:JF32_4 s=some r:=by rcases cor h with ⟨_,h⟩|⟨_,h⟩<;>exact h
 unfold JF32_4 at h
 obtain⟨u,hu,h⟩:=bind_some h
 rcases cor h with ⟨c,h⟩|⟨_,h⟩
 ·unfold JF32_11 at h
  rw[cond_true]at h
  have e:=q3 h
  rw[hr]at e
  subst e
  cases c
 ·unfold JF32_11 at h
  rw[cond_false]at h
  obtain⟨w,hw,h⟩:=bind_some h
  have e:=z18 (ccc h) hr
  exact e.2
theorem z13 {s} (h:F13 s=some true):F63_1 s 3 []=some []∧F64_1 s 4 []=some []∧F65_1 s 5 []=some []∧F66_1 s 6 []=some []∧F67_1 s 7 []=some []∧F68_1 s 8 []=some []:=by
 unfold F13 at h
 obtain⟨r,hr,h⟩:=bind_some h
 refine z32 hr ?_
 have e:=Option.some.inj h
 simp only[ln]at e
 exact List.eq_nil_of_length_eq_zero (by simpa using e)
theorem f99 {b i s r l} (h:F99_1 b i s r l=some []):b=false∧l=[]:=by
 unfold F99_1 at h
 cases b with
 |false=>cases h;exact⟨rfl,rfl⟩
 |true=>
  rw[cond_true]at h
  obtain⟨q,hq,h⟩:=bind_some h
  cases h
  unfold gapp at hq
  split at hq
  ·have e:=Option.some.inj hq
   exact nomatch (List.append_eq_nil_iff.1 e).2
  ·cases hq
theorem each_inv {α:Type} {s:Sl α} {B:Int→List G35Violation→Option ((Int×List G35Violation)⊕List G35Violation)} {P:Int→α→Prop} (hl:ln s≤1000000000000)
  (hB:∀ i l o,B i l=some o→(i<ln s∧∃ m l',gx (Sl.es s) i=some m∧o=.inl (wi (i+1),l')∧(l'=[]→l=[]∧P i m))∨(¬ i<ln s∧o=.inr l))
  {l0 r:List G35Violation} (h:loopF (fun (x:Int×List G35Violation)=>match x with|(i,l)=>B i l) (0,l0)=some r) (hr:r=[]):l0=[]∧∀ j m,gx (Sl.es s) j=some m→P j m:=by
 have key:=loopF_inv (I:=fun x=>0≤x.1∧(x.2=[]→l0=[]∧∀ j,j<x.1→∀ m,gx (Sl.es s) j=some m→P j m)) (T:=fun r=>r=[]→l0=[]∧∀ j m,gx (Sl.es s) j=some m→P j m) h ⟨Int.le_refl _,fun e=>⟨e,fun j a m em=>by have:=(gx_pos em).1;simp only at a;omega⟩⟩ (by
  rintro⟨i,l⟩ o ⟨h0,hI⟩ hb
  rcases hB i l o hb with ⟨c,m,l',e,rfl,k⟩|⟨c,rfl⟩
  ·have e1:wi (i+1)=i+1:=wi_id (by simp only at h0;omega) (by omega)
   rw[e1]
   refine⟨by simp only at h0 ⊢;omega,fun hn=>?_⟩
   obtain⟨hl',hp⟩:=k hn
   obtain⟨hz,hI⟩:=hI hl'
   refine⟨hz,fun j a m' em=>?_⟩
   by_cases hj:j=i
   ·subst hj;cases e.symm.trans em;exact hp
   ·exact hI j (by simp only at a ⊢;omega) m' em
  ·intro hn
   obtain⟨hz,hI⟩:=hI hn
   refine⟨hz,fun j m' em=>hI j ?_ m' em⟩
   have:=(gx_pos em).2
   simp only[ln]at c ⊢
   omega)
 exact key hr
theorem find_inv {α:Type} {s:Sl α} {B:Int→Option (Int⊕(Int⊕Unit))} {P Q:α→Prop} (hl:ln s≤1000000000000)
  (hB:∀ i o,B i=some o→(i<ln s∧∃ x,gx (Sl.es s) i=some x∧((o=.inr (.inl i)∧Q x)∨(o=.inl (wi (i+1))∧P x)))∨(¬ i<ln s∧o=.inr (.inr ())))
  {o} (h:loopF (fun (i:Int)=>B i) 0=some o):(∃ i x,0≤i∧o=.inl i∧gx (Sl.es s) i=some x∧Q x)∨(o=.inr ()∧∀ j x,gx (Sl.es s) j=some x→P x):=by
 exact loopF_inv (I:=fun i=>0≤i∧∀ j,j<i→∀ x,gx (Sl.es s) j=some x→P x) (T:=fun o=>(∃ i x,0≤i∧o=.inl i∧gx (Sl.es s) i=some x∧Q x)∨(o=.inr ()∧∀ j x,gx (Sl.es s) j=some x→P x)) h ⟨Int.le_refl _,fun j a x em=>by have:=(gx_pos em).1;omega⟩ (by
  rintro i o ⟨h0,hI⟩ hb
  rcases hB i o hb with ⟨c,x,e,⟨rfl,q⟩|⟨rfl,k⟩⟩|⟨c,rfl⟩
  ·exact .inl ⟨i,x,h0,rfl,e,q⟩
  ·have e1:wi (i+1)=i+1:=wi_id (by omega) (by omega)
   rw[e1]
   refine⟨by omega,fun j a y ey=>?_⟩
   by_cases hj:j=i
   ·subst hj;cases e.symm.trans ey;exact k
   ·exact hI j (by omega) y ey
  ·refine .inr ⟨rfl,fun j x ex=>hI j ?_ x ex⟩
   have:=(gx_pos ex).2
   simp only[ln]at c
   omega)
end Go.Proofs.YtnjmaohblihppaaGreatDoor
namespace Go.Proofs.YtnjmaohblihppaaGreatDoor
open Go.PE Go.RowKit
set_option maxRecDepth 100000
theorem m63 {s:G27Score} (hs:okG27Score s) (h:F63_1 s 3 []=some []):∃ n,F22 s=some n∧∀ j m,gx (Sl.es s.fMeasures) j=some m→F104_1 j m n=some false:=by
 unfold F63_1 at h
 obtain⟨n,hn,h⟩:=bind_some h
 obtain⟨r,hr,h⟩:=bind_some h
 cases h
 unfold F103_1 at hr
 obtain⟨o,ho,h⟩:=bind_some hr
 cases h
 refine⟨n,hn,(each_inv (P:=fun j m=>F104_1 j m n=some false) (by have:=hs.fMeasures.le;omega) ?_ ho rfl).2⟩
 intro i l o hb
 unfold LF103_1_12 at hb
 rcases cor hb with ⟨c,h⟩|⟨c,h⟩
 ·obtain⟨m,em,h⟩:=bind_some h
  obtain⟨b,eb,h⟩:=bind_some h
  obtain⟨w,ew,h⟩:=bind_some h
  cases h
  refine .inl ⟨of_decide_eq_true c,m,w,em,rfl,fun e=>?_⟩
  subst e
  obtain⟨rfl,rfl⟩:=f99 ew
  exact⟨rfl,eb⟩
 ·cases h
  exact .inr ⟨of_decide_eq_false c,rfl⟩
theorem m65 {s:G27Score} (hs:okG27Score s) (h:F65_1 s 5 []=some []):∀ j m,gx (Sl.es s.fMeasures) j=some m→F108_1 j m s 5 []=some false:=by
 unfold F65_1 at h
 obtain⟨r,hr,h⟩:=bind_some h
 cases h
 unfold F103_3 at hr
 obtain⟨o,ho,h⟩:=bind_some hr
 cases h
 refine(each_inv (P:=fun j m=>F108_1 j m s 5 []=some false) (by have:=hs.fMeasures.le;omega) ?_ ho rfl).2
 intro i l o hb
 unfold LF103_3_11 at hb
 rcases cor hb with ⟨c,h⟩|⟨c,h⟩
 ·obtain⟨m,em,h⟩:=bind_some h
  obtain⟨b,eb,h⟩:=bind_some h
  obtain⟨w,ew,h⟩:=bind_some h
  cases h
  refine .inl ⟨of_decide_eq_true c,m,w,em,rfl,fun e=>?_⟩
  subst e
  obtain⟨rfl,rfl⟩:=f99 ew
  exact⟨rfl,eb⟩
 ·cases h
  exact .inr ⟨of_decide_eq_false c,rfl⟩
theorem m66 {s:G27Score} (hs:okG27Score s) (h:F66_1 s 6 []=some []):∀ j m,gx (Sl.es s.fMeasures) j=some m→F147_1 j m=some false:=by
 unfold F66_1 at h
 obtain⟨r,hr,h⟩:=bind_some h
 cases h
 unfold F110_1 at hr
 obtain⟨r,hr,h⟩:=bind_some hr
 cases h
 unfold F103_4 at hr
 obtain⟨o,ho,h⟩:=bind_some hr
 cases h
 refine(each_inv (P:=fun j m=>F147_1 j m=some false) (by have:=hs.fMeasures.le;omega) ?_ ho rfl).2
 intro i l o hb
 unfold LF103_4_11 at hb
 rcases cor hb with ⟨c,h⟩|⟨c,h⟩
 ·obtain⟨m,em,h⟩:=bind_some h
  obtain⟨b,eb,h⟩:=bind_some h
  obtain⟨w,ew,h⟩:=bind_some h
  cases h
  refine .inl ⟨of_decide_eq_true c,m,w,em,rfl,fun e=>?_⟩
  subst e
  obtain⟨rfl,rfl⟩:=f99 ew
  exact⟨rfl,eb⟩
 ·cases h
  exact .inr ⟨of_decide_eq_false c,rfl⟩
theorem m67 {s:G27Score} (hs:okG27Score s) (h:F67_1 s 7 []=some []):∀ j m,gx (Sl.es s.fMeasures) j=some m→F147_2 j m=some false:=by
 unfold F67_1 at h
 obtain⟨r,hr,h⟩:=bind_some h
 cases h
 unfold F110_2 at hr
 obtain⟨r,hr,h⟩:=bind_some hr
 cases h
 unfold F103_5 at hr
 obtain⟨o,ho,h⟩:=bind_some hr
 cases h
 refine(each_inv (P:=fun j m=>F147_2 j m=some false) (by have:=hs.fMeasures.le;omega) ?_ ho rfl).2
 intro i l o hb
 unfold LF103_5_11 at hb
 rcases cor hb with ⟨c,h⟩|⟨c,h⟩
 ·obtain⟨m,em,h⟩:=bind_some h
  obtain⟨b,eb,h⟩:=bind_some h
  obtain⟨w,ew,h⟩:=bind_some h
  cases h
  refine .inl ⟨of_decide_eq_true c,m,w,em,rfl,fun e=>?_⟩
  subst e
  obtain⟨rfl,rfl⟩:=f99 ew
  exact⟨rfl,eb⟩
 ·cases h
  exact .inr ⟨of_decide_eq_false c,rfl⟩
theorem m68 {s:G27Score} (hs:okG27Score s) (h:F68_1 s 8 []=some []):∀ j m,gx (Sl.es s.fMeasures) j=some m→∀ c x,gx (Sl.es m.fCells) c=some x→∀ k v,gx (Sl.es x.fVoices) k=some v→∀ e y,gx (Sl.es v.fEvents) e=some y→F18 y=some 0:=by
 unfold F68_1 at h
 obtain⟨r,hr,h⟩:=bind_some h
 cases h
 unfold F113_1 at hr
 obtain⟨o,ho,h⟩:=bind_some hr
 cases h
 refine(each_inv (P:=fun (j:Int) (m:G64Measure)=>∀ c x,gx (Sl.es m.fCells) c=some x→∀ k v,gx (Sl.es x.fVoices) k=some v→∀ e y,gx (Sl.es v.fEvents) e=some y→F18 y=some 0) (by have:=hs.fMeasures.le;omega) ?_ ho rfl).2
 intro i l o hb
 unfold LF113_1_11 at hb
 rcases cor hb with ⟨c,h⟩|⟨c,h⟩
 ·obtain⟨m,em,h⟩:=bind_some h
  obtain⟨w,ew,h⟩:=bind_some h
  unfold JF113_1_14 at h
  cases h
  have hm:=hs.fMeasures.2 m (gx_mem em)
  refine .inl ⟨of_decide_eq_true c,m,w,em,rfl,fun e=>each_inv (P:=fun (c:Int) (x:G69Cell)=>∀ k v,gx (Sl.es x.fVoices) k=some v→∀ e y,gx (Sl.es v.fEvents) e=some y→F18 y=some 0) (by have:=hm.fCells.le;omega) ?_ ew e⟩
  intro i l o hb
  unfold LF113_1_24 at hb
  rcases cor hb with ⟨c,h⟩|⟨c,h⟩
  ·obtain⟨x,ex,h⟩:=bind_some h
   obtain⟨w,ew,h⟩:=bind_some h
   unfold JF113_1_27 at h
   cases h
   have hx:=hm.fCells.2 x (gx_mem ex)
   refine .inl ⟨of_decide_eq_true c,x,w,ex,rfl,fun e=>each_inv (P:=fun (k:Int) (v:G73Voice)=>∀ e y,gx (Sl.es v.fEvents) e=some y→F18 y=some 0) (by have:=hx.fVoices.le;omega) ?_ ew e⟩
   intro i l o hb
   unfold LF113_1_37 at hb
   rcases cor hb with ⟨c,h⟩|⟨c,h⟩
   ·obtain⟨v,ev,h⟩:=bind_some h
    obtain⟨w,ew,h⟩:=bind_some h
    unfold JF113_1_40 at h
    cases h
    have hv:=hx.fVoices.2 v (gx_mem ev)
    refine .inl ⟨of_decide_eq_true c,v,w,ev,rfl,fun e=>each_inv (P:=fun (e:Int) (y:G49Event)=>F18 y=some 0) (by have:=hv.fEvents.le;omega) ?_ ew e⟩
    intro i l o hb
    unfold LF113_1_50 at hb
    rcases cor hb with ⟨c,h⟩|⟨c,h⟩
    ·obtain⟨y,ey,h⟩:=bind_some h
     obtain⟨b,eb,h⟩:=bind_some h
     obtain⟨w,ew,h⟩:=bind_some h
     cases h
     refine .inl ⟨of_decide_eq_true c,y,w,ey,rfl,fun e=>?_⟩
     subst e
     obtain⟨rfl,rfl⟩:=f99 ew
     refine⟨rfl,?_⟩
     unfold F114 at eb
     obtain⟨a,ea,eb⟩:=bind_some eb
     have eb:=Option.some.inj eb
     have:a=0:=by simpa using eb
     rw[ea,this]
    ·cases h
     exact .inr ⟨of_decide_eq_false c,rfl⟩
   ·cases h
    exact .inr ⟨of_decide_eq_false c,rfl⟩
  ·cases h
   exact .inr ⟨of_decide_eq_false c,rfl⟩
 ·cases h
  exact .inr ⟨of_decide_eq_false c,rfl⟩
end Go.Proofs.YtnjmaohblihppaaGreatDoor
namespace Go.Proofs.YtnjmaohblihppaaGreatDoor
open Go.PE Go.RowKit
set_option maxRecDepth 100000
theorem j104 {x:G69Cell} {i:Int} {b:Bool} {o} (h:JF104_1_19 x i b=some o):∃ b',o=.inl (b',wi (i+1))∧(b'=false→b=false):=by
 unfold JF104_1_19 at h
 obtain⟨r,hr,h⟩:=bind_some h
 refine⟨r,by unfold JF104_1_15 at h;exact(Option.some.inj h).symm,?_⟩
 exact loopF_inv (I:=fun s=>s.1=false→b=false) (T:=fun r=>r=false→b=false) hr id (by
  rintro⟨v20,v21⟩ o hI hb
  dsimp only at hb hI
  unfold LF104_1_27 at hb
  rcases cor hb with ⟨_,h⟩|⟨_,h⟩
  ·obtain⟨v29,_,h⟩:=bind_some h
   cases v20 with
   |true=>cases h;intro e;cases e
   |false=>
    rw[cond_false]at h
    rcases cor h with ⟨_,h⟩|⟨_,h⟩
    ·cases h;exact fun _=>hI rfl
    ·cases h;exact fun _=>hI rfl
  ·cases h;exact hI)
theorem f104 {m:G64Measure} {j n:Int} (hm:okG64Measure m) (h:F104_1 j m n=some false):ln m.fCells=n∧∀ c x,gx (Sl.es m.fCells) c=some x→ln x.fVoices≠0∧∀ v,gx (Sl.es x.fVoices) 0=some v→ln v.fEvents≠0:=by
 unfold F104_1 at h
 obtain⟨r,hr,h⟩:=bind_some h
 unfold JF104_1_4 at h
 have e:=Option.some.inj h
 have hl:=hm.fCells.le
 have key:=loopF_inv (I:=fun s=>0≤s.2∧(s.1=false→ln m.fCells=n∧∀ c,c<s.2→∀ x,gx (Sl.es m.fCells) c=some x→ln x.fVoices≠0∧∀ v,gx (Sl.es x.fVoices) 0=some v→ln v.fEvents≠0))
  (T:=fun r=>r=false→ln m.fCells=n∧∀ c x,gx (Sl.es m.fCells) c=some x→ln x.fVoices≠0∧∀ v,gx (Sl.es x.fVoices) 0=some v→ln v.fEvents≠0) hr
  ⟨Int.le_refl _,fun h0=>⟨by simpa using h0,fun c a x ex=>by have:=(gx_pos ex).1;simp only at a;omega⟩⟩ (by
  rintro⟨v5,i⟩ o ⟨h0,hI⟩ hb
  dsimp only at hb hI h0
  unfold LF104_1_12 at hb
  rcases cor hb with ⟨c,h⟩|⟨c,h⟩
  ·have c:=of_decide_eq_true c
   obtain⟨x,ex,h⟩:=bind_some h
   have fin:∀ {b b':Bool},(b'=false→b=false)→(b=false→v5=false∧ln x.fVoices≠0∧∀ v,gx (Sl.es x.fVoices) 0=some v→ln v.fEvents≠0)→
     0≤wi (i+1)∧(b'=false→ln m.fCells=n∧∀ c,c<wi (i+1)→∀ x,gx (Sl.es m.fCells) c=some x→ln x.fVoices≠0∧∀ v,gx (Sl.es x.fVoices) 0=some v→ln v.fEvents≠0):=by
    intro b b' k hb
    have e1:wi (i+1)=i+1:=wi_id (by omega) (by omega)
    rw[e1]
    refine⟨by omega,fun hb'=>?_⟩
    obtain⟨g1,g2⟩:=hb (k hb')
    obtain⟨hz,hI⟩:=hI g1
    refine⟨hz,fun c' a y ey=>?_⟩
    by_cases hj:c'=i
    ·subst hj;cases ex.symm.trans ey;exact g2
    ·exact hI c' (by omega) y ey
   cases v5 with
   |true=>
    obtain⟨b',rfl,k⟩:=j104 h
    exact fin k (fun e=>nomatch e)
   |false=>
    rw[cond_false]at h
    rcases cor h with ⟨_,h⟩|⟨c1,h⟩
    ·obtain⟨b',rfl,k⟩:=j104 h
     exact fin k (fun e=>nomatch e)
    ·obtain⟨v,ev,h⟩:=bind_some h
     rcases cor h with ⟨_,h⟩|⟨c2,h⟩
     ·obtain⟨b',rfl,k⟩:=j104 h
      exact fin k (fun e=>nomatch e)
     ·obtain⟨u,_,h⟩:=bind_some h
      obtain⟨b',rfl,k⟩:=j104 h
      refine fin k fun _=>⟨rfl,by simpa using c1,fun v' ev'=>?_⟩
      cases ev.symm.trans ev'
      simpa using c2
  ·cases h
   have c:=of_decide_eq_false c
   intro hr
   obtain⟨hz,hI⟩:=hI hr
   refine⟨hz,fun c' x ex=>hI c' ?_ x ex⟩
   have:=(gx_pos ex).2
   simp only[ln]at c
   omega)
 exact key e
theorem j108 {s:G27Score} {m:G64Measure} {r:Bool} (h:JF108_1_8 s m true=some r):r=true:=by
 unfold JF108_1_8 at h
 obtain⟨o,ho,h⟩:=bind_some h
 unfold JF108_1_10 at h
 cases h
 exact loopF_inv (I:=fun s=>s.1=true) (T:=fun r=>r=true) ho rfl (by
  rintro⟨b,i⟩ o hI hb
  dsimp only at hb hI
  subst hI
  unfold LF108_1_18 at hb
  rcases cor hb with ⟨_,h⟩|⟨_,h⟩
  ·obtain⟨x,_,h⟩:=bind_some h
   have h:JF108_1_25 m x i true false=some o:=by rcases cor h with ⟨_,h⟩|⟨_,h⟩<;>exact h
   unfold JF108_1_25 JF108_1_21 at h
   cases h
   rfl
  ·cases h;rfl)
theorem f108 {s:G27Score} {m:G64Measure} {j:Int} {l:List G35Violation} (h:F108_1 j m s 5 l=some false):∃ n,F107 m=some (n,0):=by
 unfold F108_1 at h
 obtain⟨⟨n,e⟩,h1,h⟩:=bind_some h
 rcases cor h with ⟨_,h⟩|⟨c,h⟩
 ·cases j108 h
 ·have e0:e=0:=by simpa using c
  exact⟨n,by rw[h1,e0]⟩
theorem u2:∀ u:Fin 65,1≤u.val→iand .i64 (u.val:Int) (wi ((u.val:Int)-1))=0→1935360%(u.val:Int)=0:=by decide +kernel
theorem j107 {x n:Int} (h:JF107_4 x=some (n,0)):n=x∧x≤15482880:=by
 unfold JF107_4 at h
 rcases cor h with ⟨_,h⟩|⟨_,h⟩
 ·cases h
 ·rcases cor h with ⟨_,h⟩|⟨c,h⟩
  ·cases h
  ·cases h
   have:=of_decide_eq_false c
   exact⟨rfl,by omega⟩
theorem f145 {t:G60Metre} {n:Int} (h:F145 t=some (n,0)):1≤n∧gq .i64 (wi (t.fCount*1935360)) t.fUnit=some n:=by
 unfold F145 at h
 obtain⟨e,he,h⟩:=bind_some h
 rcases cor h with ⟨c,h⟩|⟨c,h⟩
 ·cases h;cases c
 have e0:e=0:=by simpa using c
 subst e0
 obtain⟨k,hk,h⟩:=bind_some h
 cases h
 unfold F182 at hk
 obtain⟨q,hq,h⟩:=bind_some hk
 cases h
 have hu:1≤t.fCount∧t.fCount≤64∧1≤t.fUnit∧t.fUnit≤64∧iand .i64 t.fUnit (wi (t.fUnit-1))=0:=by
  unfold F181 at he
  rcases cor he with ⟨_,h⟩|⟨c1,h⟩
  ·unfold JF181_2 at h;cases h
  ·unfold JF181_2 at h
   rcases cor h with ⟨_,h⟩|⟨c2,h⟩
   ·cases h
   ·rcases cor h with ⟨_,h⟩|⟨c3,h⟩
    ·unfold JF181_5 at h;cases h
    ·rcases cor h with ⟨_,h⟩|⟨c4,h⟩
     ·unfold JF181_5 at h;cases h
     ·unfold JF181_5 at h
      rcases cor h with ⟨_,h⟩|⟨c5,h⟩
      ·cases h
      ·have d1:=of_decide_eq_false c1
       have d2:=of_decide_eq_false c2
       have d3:=of_decide_eq_false c3
       have d4:=of_decide_eq_false c4
       exact⟨by omega,by omega,by omega,by omega,by simpa using c5⟩
 obtain⟨u1,u2',u3,u4,u5⟩:=hu
 have hd:1935360%t.fUnit=0:=by
  have:=u2 ⟨t.fUnit.toNat,by omega⟩ (by show 1≤t.fUnit.toNat;omega)
  have e:((t.fUnit.toNat:Nat):Int)=t.fUnit:=by omega
  simp only[e]at this
  exact this u5
 unfold F208 gq at hq
 rw[if_neg (by omega)]at hq
 cases hq
 obtain⟨d,hd⟩:=Int.dvd_of_emod_eq_zero hd
 have t1:(1935360:Int).tdiv t.fUnit=d:=by rw[hd];exact Int.mul_tdiv_cancel_left _ (by omega)
 have d0:1≤d:=by
  rcases Int.lt_or_le 0 d with h|h
  ·omega
  ·have:=Int.mul_nonneg (show 0≤t.fUnit by omega) (show 0≤-d by omega)
   rw[Int.mul_neg]at this
   omega
 have d1:d≤1935360:=by
  have:=Int.mul_le_mul_of_nonneg_right u3 (show 0≤d by omega)
  omega
 have w1:IntKind.i64.wrap d=d:=wi_id (by omega) (by omega)
 have b1:1≤t.fCount*d:=by
  have:=Int.mul_le_mul u1 d0 (by omega) (by omega)
  omega
 have b2:t.fCount*d≤64*1935360:=Int.mul_le_mul u2' d1 (by omega) (by omega)
 rw[t1,w1,wi_id (by omega) (by omega)]
 refine⟨b1,?_⟩
 unfold gq
 rw[if_neg (by omega),wi_id (by omega) (by omega)]
 have:(t.fCount*1935360).tdiv t.fUnit=t.fCount*d:=by
  rw[hd,show t.fCount*(t.fUnit*d)=t.fUnit*(t.fCount*d) by rw[Int.mul_left_comm]]
  exact Int.mul_tdiv_cancel_left _ (by omega)
 rw[this]
 exact congrArg some (wi_id (by omega) (by omega))
theorem f107 {m:G64Measure} {n:Int} (h:F107 m=some (n,0)):1≤n∧n≤15482880∧(m.fLength≠0→n=m.fLength)∧(m.fLength=0→gq .i64 (wi (m.fMetre.fCount*1935360)) m.fMetre.fUnit=some n):=by
 unfold F107 at h
 obtain⟨⟨k,e⟩,hk,h⟩:=bind_some h
 rcases cor h with ⟨c,h⟩|⟨c,h⟩
 ·cases h;cases c
 have e0:e=0:=by simpa using c
 subst e0
 rcases cor h with ⟨_,h⟩|⟨c1,h⟩
 ·cases h
 have c1:=of_decide_eq_false c1
 rcases cor h with ⟨c2,h⟩|⟨c2,h⟩
 ·have c2:=of_decide_eq_true c2
  obtain⟨rfl,k⟩:=j107 h
  exact⟨by omega,k,fun _=>rfl,fun e=>by omega⟩
 ·have c2:=of_decide_eq_false c2
  obtain⟨rfl,k⟩:=j107 h
  obtain⟨g1,g2⟩:=f145 hk
  exact⟨g1,k,fun e=>by omega,fun _=>g2⟩
end Go.Proofs.YtnjmaohblihppaaGreatDoor
namespace Go.Proofs.YtnjmaohblihppaaGreatDoor
open Go.PE Go.RowKit
set_option maxRecDepth 100000
theorem srch {α:Type} {s:Sl α} {B:Int→Option (Int⊕(Int⊕Unit))} {T:α→Option Bool} (hl:ln s≤1000000000000)
  (hB:∀ i,B i=(bif decide (i<ln s)then (gx (Sl.es s) i).bind fun x=>(T x).bind fun b=>bif b then some (.inr (.inl i))else some (.inl (wi (i+1)))else some (.inr (.inr ()))))
  {r:Int} (h:((loopF (fun (i:Int)=>B i) 0).bind fun o=>match o with|.inl v=>some v|.inr ()=>some (-1))=some r):
  (r<0→∀ j x,gx (Sl.es s) j=some x→T x=some false)∧(0≤r→∃ j x,gx (Sl.es s) j=some x∧T x=some true):=by
 obtain⟨o,ho,h⟩:=bind_some h
 rcases find_inv (P:=fun x=>T x=some false) (Q:=fun x=>T x=some true) hl (fun i o hb=>by
  rw[hB]at hb
  rcases cor hb with ⟨c,h⟩|⟨c,h⟩
  ·obtain⟨x,ex,h⟩:=bind_some h
   obtain⟨b,eb,h⟩:=bind_some h
   refine .inl ⟨of_decide_eq_true c,x,ex,?_⟩
   cases b with
   |true=>cases h;exact .inl ⟨rfl,eb⟩
   |false=>cases h;exact .inr ⟨rfl,eb⟩
  ·cases h;exact .inr ⟨of_decide_eq_false c,rfl⟩) ho with ⟨i,x,h0,rfl,ex,q⟩|⟨rfl,k⟩
 ·cases h
  exact⟨fun e=>by omega,fun _=>⟨_,x,ex,q⟩⟩
 ·cases h
  exact⟨fun _=>k,fun e=>by omega⟩
theorem dec0 {r:Int} (h:some (decide (r≥0))=some false):r<0:=by
 have:=of_decide_eq_false (Option.some.inj h)
 omega
theorem c147_1 {m:G64Measure} {j n:Int} (hm:okG64Measure m) (h7:F107 m=some (n,0)) (h:F147_1 j m=some false):∀ c x,gx (Sl.es m.fCells) c=some x→∀ k v,gx (Sl.es x.fVoices) k=some v→F152_1 v n=some false:=by
 unfold F147_1 at h
 rw[h7]at h
 simp only[Option.bind_some,bne_self_eq_false,cond_false]at h
 obtain⟨b,hb,h⟩:=bind_some h
 cases h
 unfold F149_1 at hb
 obtain⟨r,hr,h⟩:=bind_some hb
 unfold F183_1 at hr
 intro c x ex k v ev
 have hx:=hm.fCells.2 x (gx_mem ex)
 have h:=(srch (T:=fun x=>F150_1 x n) (by have:=hm.fCells.le;omega) (fun i=>rfl) hr).1 (dec0 h) c x ex
 unfold F150_1 at h
 obtain⟨b,hb,h⟩:=bind_some h
 cases h
 unfold F151_1 at hb
 obtain⟨r,hr,h⟩:=bind_some hb
 unfold F184_1 at hr
 exact(srch (T:=fun x=>F152_1 x n) (by have:=hx.fVoices.le;omega) (fun i=>rfl) hr).1 (dec0 h) k v ev
theorem c147_2 {m:G64Measure} {j n:Int} (hm:okG64Measure m) (h7:F107 m=some (n,0)) (h:F147_2 j m=some false):∀ c x,gx (Sl.es m.fCells) c=some x→∀ k v,gx (Sl.es x.fVoices) k=some v→F152_2 v n=some false:=by
 unfold F147_2 at h
 rw[h7]at h
 simp only[Option.bind_some,bne_self_eq_false,cond_false]at h
 obtain⟨b,hb,h⟩:=bind_some h
 cases h
 unfold F149_2 at hb
 obtain⟨r,hr,h⟩:=bind_some hb
 unfold F183_2 at hr
 intro c x ex k v ev
 have hx:=hm.fCells.2 x (gx_mem ex)
 have h:=(srch (T:=fun x=>F150_2 x n) (by have:=hm.fCells.le;omega) (fun i=>rfl) hr).1 (dec0 h) c x ex
 unfold F150_2 at h
 obtain⟨b,hb,h⟩:=bind_some h
 cases h
 unfold F151_2 at hb
 obtain⟨r,hr,h⟩:=bind_some hb
 unfold F184_2 at hr
 exact(srch (T:=fun x=>F152_2 x n) (by have:=hx.fVoices.le;omega) (fun i=>rfl) hr).1 (dec0 h) k v ev
theorem nobad {v:G73Voice} {b:Bool} (hv:okG73Voice v) (h3:∀ e y,gx (Sl.es v.fEvents) e=some y→F18 y=some 0) (h:F153_1 v.fEvents=some b):b=false:=by
 unfold F153_1 at h
 obtain⟨r,hr,h⟩:=bind_some h
 unfold F185_1 at hr
 have k:=srch (T:=fun x=>F148 x) (by have:=hv.fEvents.le;omega) (fun i=>rfl) hr
 cases h
 refine decide_eq_false fun c=>?_
 obtain⟨j,y,ey,e⟩:=k.2 c
 unfold F148 at e
 rw[h3 j y ey]at e
 cases e
theorem vox {v:G73Voice} {n:Int} (hv:okG73Voice v) (h3:∀ e y,gx (Sl.es v.fEvents) e=some y→F18 y=some 0) (h1:F152_1 v n=some false) (h2:F152_2 v n=some false):
  ∃ l t,F50 v n=some (l,0)∧F51 l=some t∧(0<ln l→t=n):=by
 unfold F152_1 at h1
 obtain⟨b,hb,h1⟩:=bind_some h1
 obtain rfl:=nobad hv h3 hb
 unfold F152_2 at h2
 rw[hb]at h2
 simp only[Option.bind_some,Bool.not_false,cond_true]at h1 h2
 obtain⟨e,he,h1⟩:=bind_some h1
 rw[he]at h2
 simp only[Option.bind_some]at h2
 obtain⟨b1,hb1,h1⟩:=bind_some h1
 cases h1
 obtain⟨b2,hb2,h2⟩:=bind_some h2
 cases h2
 have e0:e=0:=by
  unfold F112 at hb2
  rcases cor hb2 with ⟨_,h⟩|⟨c,_⟩
  ·rw[hb1]at h
   cases h
  ·simpa using c
 subst e0
 unfold F154 at he
 obtain⟨p,hp,he⟩:=bind_some he
 have hp2:p.2=0:=Option.some.inj he
 unfold F186 at hp
 obtain⟨⟨l,e⟩,hl,hp⟩:=bind_some hp
 have five:∀ {x:Int},JF186_5 (l,e) x=some p→x=0:=by
  intro x hx
  unfold JF186_5 at hx
  rcases cor hx with ⟨c,h⟩|⟨c,h⟩
  ·cases h
   exact hp2
  ·simpa using c
 rcases cor hp with ⟨c,h⟩|⟨c,h⟩
 ·have e0:e=0:=by simpa using c
  subst e0
  have hok:=hl
  obtain⟨q,eq1,hq,_⟩:=tF50 (v1:=n) hv
  cases hl.symm.trans eq1
  rcases cor h with ⟨c1,h⟩|⟨c1,h⟩
  ·obtain⟨t,ht,h⟩:=bind_some h
   refine⟨l,t,hok,ht,fun _=>?_⟩
   unfold JF186_8 at h
   rcases cor h with ⟨_,h⟩|⟨c2,h⟩
   ·cases five h
   ·simpa using c2
  ·have c1:=of_decide_eq_false c1
   obtain⟨t,ht,_⟩:=tF51 (v0:=l) ⟨hq,fun _ _=>trivial⟩
   exact⟨l,t,hok,ht,fun h0=>absurd h0 c1⟩
 ·unfold JF186_8 at h
  rw[cond_false]at h
  have:=five h
  dsimp only at this
  subst this
  cases c
end Go.Proofs.YtnjmaohblihppaaGreatDoor
namespace Go.Proofs.YtnjmaohblihppaaGreatDoor
open Go.PE Go.RowKit
set_option maxRecDepth 100000
theorem n136 {s:Sl G49Event} {l:Sl Int} (h0:0<ln s) (h:F136 s=some l):0<ln l:=by
 unfold F136 at h
 rcases cor h with ⟨c,h⟩|⟨_,h⟩
 ·have:ln s=0:=by simpa using c
  omega
 ·obtain⟨k,hk,h⟩:=bind_some h
  obtain⟨o,_,h⟩:=bind_some h
  unfold JF136_17 at h
  obtain⟨u,hu,h⟩:=bind_some h
  cases h
  have e:=gfz_len hu
  unfold gmk at hk
  split at hk
  ·cases hk
   simp only[ln,Sl.es]
   omega
  ·cases hk
theorem n137 {tp:Sl G257Tuplet} {s l:Sl Int} (hs:ln s≤1000000000000) (h:F137 tp s=some (l,0)):ln l=ln s:=by
 unfold F137 at h
 obtain⟨a,ha,h⟩:=bind_some h
 rcases cor h with ⟨c,h⟩|⟨c,h⟩
 ·cases h
  cases c
 obtain⟨b,_,h⟩:=bind_some h
 obtain⟨o,ho,h⟩:=bind_some h
 have key:=loopF_inv (I:=fun x=>(x.1.length:Int)=x.2∧x.2≤ln s) (T:=fun o=>match o with|.inl e=>e≠0|.inr l=>(l.length:Int)=ln s) ho ⟨rfl,ln_nn⟩ (by
  rintro⟨v9,i⟩ o ⟨h0,h1⟩ hb
  dsimp only at hb h0 h1
  unfold LF137_17 at hb
  rcases cor hb with ⟨c,h⟩|⟨c,h⟩
  ·have c:=of_decide_eq_true c
   obtain⟨x,_,h⟩:=bind_some h
   obtain⟨y,_,h⟩:=bind_some h
   rcases cor h with ⟨c,h⟩|⟨_,h⟩
   ·cases h
    simpa using c
   ·obtain⟨q,hq,h⟩:=bind_some h
    cases h
    unfold gapp at hq
    split at hq
    ·cases hq
     show((v9++[y.1]).length:Int)=wi (i+1)∧wi (i+1)≤ln s
     rw[wi_id (by omega) (by omega),List.length_append]
     simp only[List.length_cons,List.length_nil]
     omega
    ·cases hq
  ·cases h
   have c:=of_decide_eq_false c
   show(v9.length:Int)=ln s
   omega)
 rcases o with e|q
 ·cases h
  exact absurd rfl key
 ·unfold JF137_8 at h
  cases h
  exact key
theorem n50 {v:G73Voice} {n:Int} {l:Sl Int} (hv:okG73Voice v) (h0:0<ln v.fEvents) (h:F50 v n=some (l,0)):0<ln l:=by
 have n92:∀ {l},F92 v=some (l,0)→0<ln l:=by
  intro l h
  unfold F92 at h
  obtain⟨o,ho,h⟩:=bind_some h
  have key:=loopF_out (T:=fun o=>match o with|.inl e=>e≠0|.inr _=>True) ho (by
   intro i o hb
   unfold LF92_16 at hb
   rcases cor hb with ⟨_,h⟩|⟨_,h⟩
   ·obtain⟨x,_,h⟩:=bind_some h
    obtain⟨y,_,h⟩:=bind_some h
    have j:∀ {b o},JF92_24 i b=some (.inr o)→(match o with|.inl e=>e≠0|.inr _=>True):=by
     intro b o h
     unfold JF92_24 at h
     rcases cor h with ⟨_,h⟩|⟨_,h⟩
     ·cases h;decide
     ·cases h
    rcases cor h with ⟨c,h⟩|⟨_,h⟩
    ·cases h
     simpa using c
    ·rcases cor h with ⟨_,h⟩|⟨_,h⟩
     ·rcases cor h with ⟨_,h⟩|⟨_,h⟩
      ·exact j h
      ·exact j h
     ·exact j h
   ·cases h
    trivial)
  rcases o with e|u
  ·cases h
   exact absurd rfl key
  ·unfold JF92_1 at h
   obtain⟨q,hq,h⟩:=bind_some h
   obtain⟨⟨w,e⟩,hw,h⟩:=bind_some h
   rcases cor h with ⟨c,h⟩|⟨c,h⟩
   ·cases h
    cases c
   have e0:e=0:=by simpa using c
   subst e0
   obtain⟨z,_,h⟩:=bind_some h
   rcases cor h with ⟨_,h⟩|⟨_,h⟩
   ·cases h
   cases h
   obtain⟨q',eq,hle⟩:=tF136 hv.fEvents
   cases hq.symm.trans eq
   have:=n136 h0 hq
   rw[n137 (by omega) hw]
   exact this
 have n7:∀ {b},JF50_7 v n b=some (l,0)→0<ln l:=by
  intro b h
  unfold JF50_7 at h
  rcases cor h with ⟨_,h⟩|⟨_,h⟩
  ·obtain⟨x,_,h⟩:=bind_some h
   obtain⟨y,_,h⟩:=bind_some h
   rcases cor h with ⟨c,h⟩|⟨_,h⟩
   ·cases h
    cases c
   ·rcases cor h with ⟨_,h⟩|⟨_,h⟩
    ·cases h
    ·cases h
     show(0:Int)<((1:Nat):Int)
     decide
  ·obtain⟨⟨x,e⟩,hx,h⟩:=bind_some h
   cases h
   exact n92 hx
 have n3:∀ {b},JF50_3 v n b=some (l,0)→0<ln l:=by
  intro b h
  unfold JF50_3 at h
  rcases cor h with ⟨_,h⟩|⟨_,h⟩
  ·cases h
  ·rcases cor h with ⟨_,h⟩|⟨_,h⟩
   ·cases h
   ·obtain⟨x,_,h⟩:=bind_some h
    rcases cor h with ⟨_,h⟩|⟨_,h⟩
    ·exact n7 h
    ·exact n7 h
 unfold F50 at h
 rcases cor h with ⟨_,h⟩|⟨_,h⟩
 ·exact n3 h
 ·exact n3 h
end Go.Proofs.YtnjmaohblihppaaGreatDoor
namespace Go.Proofs.YtnjmaohblihppaaGreatDoor
open Go.PE Go.RowKit
set_option maxRecDepth 100000
theorem loop_all {n:Int} {B:Int→Option (Int⊕(Unit⊕Unit))} (hl:n≤1000000000000) (h0:0≤n)
  (hB:∀ k,0≤k→B k=if k<n then some (.inl (wi (k+1)))else some (.inr (.inr ()))):loopF (fun (k:Int)=>B k) 0=some (.inr ()):=by
 have key:Tot (loopF (fun (k:Int)=>B k) 0) (fun r=>r=.inr ()):=by
  refine t_cnt (fun (k:Int)=>k) n (by unfold maxLen;omega) (fun _=>True) (T:=fun (r:Unit⊕Unit)=>r=.inr ()) (by decide) h0 trivial ?_
  intro k _ g0 _
  rw[hB k g0]
  by_cases c:k<n
  ·rw[if_pos c]
   refine t_some ⟨trivial,?_⟩
   exact⟨wi_id (by omega) (by omega),c⟩
  ·rw[if_neg c]
   exact t_some rfl
 obtain⟨r,e,rfl⟩:=key
 exact e
theorem law7 {s:G27Score} (hb:big27 s):F7 s=some true:=by
 unfold F7 F10
 simp only[Option.bind_some,Bool.not_true,cond_false]
 have j2:JF7_2 s true=some true:=by unfold JF7_2 F10;rfl
 obtain⟨b,eb,hq⟩:=sF11 hb
 rw[eb]
 simp only[Option.bind_some]
 cases b with
 |false=>exact j2
 |true=>
  simp only[Bool.not_true,cond_false]
  have hs:=hq rfl
  obtain⟨b,ev⟩:∃ b,F13 s=some b:=by
   obtain⟨r,er,_⟩:=tF32 hs
   exact⟨_,by unfold F13;rw[er];rfl⟩
  rw[ev]
  simp only[Option.bind_some]
  cases b with
  |false=>exact j2
  |true=>
   obtain⟨r3,_,r5,r6,r7,r8⟩:=z13 ev
   obtain⟨n,hn,h3⟩:=m63 hs r3
   have h5:=m65 hs r5
   have h6:=m66 hs r6
   have h7:=m67 hs r7
   have h8:=m68 hs r8
   show JF7_2 s false=some true
   unfold JF7_2
   rw[cond_false,loop_all (n:=ln s.fMeasures) (by have:=hs.fMeasures.le;omega) ln_nn ?_]
   ·rfl
   ·intro i i0
    unfold LF7_12
    by_cases c:i<ln s.fMeasures
    ·rw[if_pos c,decide_eq_true c,cond_true]
     obtain⟨m,em⟩:=gx_at (l:=Sl.es s.fMeasures) i0 c
     rw[em]
     simp only[Option.bind_some]
     have hm:=hs.fMeasures.2 m (gx_mem em)
     obtain⟨len,el⟩:=f108 (h5 i m em)
     obtain⟨g1,_,g2,g3⟩:=f107 el
     obtain⟨g4,g5⟩:=f104 hm (h3 i m em)
     have v1:=c147_1 hm el (h6 i m em)
     have v2:=c147_2 hm el (h7 i m em)
     have v3:=h8 i m em
     have key:JF7_18 s m i len=some (.inl (wi (i+1))):=by
      unfold JF7_18
      rw[hn]
      simp only[Option.bind_some]
      rw[show(ln m.fCells !=n)=false by simp[g4],cond_false,loop_all (n:=ln m.fCells) (by have:=hm.fCells.le;omega) ln_nn ?_]
      ·rfl
      ·intro j j0
       unfold LF7_27
       by_cases c:j<ln m.fCells
       ·rw[if_pos c,decide_eq_true c,cond_true]
        obtain⟨x,ex⟩:=gx_at (l:=Sl.es m.fCells) j0 c
        have hx:=hm.fCells.2 x (gx_mem ex)
        obtain⟨_,g6⟩:=g5 j x ex
        rw[loop_all (n:=ln x.fVoices) (by have:=hx.fVoices.le;omega) ln_nn ?_]
        ·rfl
        ·intro k k0
         unfold LF7_35
         rw[ex]
         simp only[Option.bind_some]
         by_cases c:k<ln x.fVoices
         ·rw[if_pos c,decide_eq_true c,cond_true]
          obtain⟨v,ev⟩:=gx_at (l:=Sl.es x.fVoices) k0 c
          rw[ev]
          simp only[Option.bind_some]
          have hv:=hx.fVoices.2 v (gx_mem ev)
          obtain⟨l,t,h50,h51,ht⟩:=vox hv (v3 j x ex k v ev) (v1 j x ex k v ev) (v2 j x ex k v ev)
          have h23:F23 v len=some (t,0):=by
           unfold F23
           rw[h50]
           simp only[Option.bind_some]
           rw[h51]
           rfl
          rw[h23]
          simp only[Option.bind_some]
          have hE:0<ln v.fEvents→t=len:=fun h=>ht (n50 hv h h50)
          have hK:k=0→0<ln v.fEvents:=fun h=>by
           subst h
           have:=g6 v ev
           have:=ln_nn (s:=v.fEvents)
           omega
          have c1:(t !=len)=true→decide (ln v.fEvents>0)=true→False:=fun a b=>by
           have:=hE (of_decide_eq_true b)
           subst this
           simp at a
          have c2:(k==0)=true→(t==0)=true→False:=fun a b=>by
           have e:=hE (hK (by simpa using a))
           have:t=0:=by simpa using b
           omega
          have z:JF7_46 k false=some (.inl (wi (k+1))):=rfl
          rw[show((0:Int) !=0)=false from rfl,cond_false]
          generalize (t !=len)=A at c1 ⊢
          generalize decide (ln v.fEvents>0)=D at c1 ⊢
          generalize (k==0)=K at c2 ⊢
          generalize (t==0)=U at c2 ⊢
          cases A<;>cases D<;>cases K<;>cases U<;>simp only[cond_true,cond_false]<;>first|exact z|exact(c1 rfl rfl).elim|exact(c2 rfl rfl).elim
         ·rw[if_neg c,decide_eq_false c]
          rfl
       ·rw[if_neg c,decide_eq_false c]
        rfl
     by_cases l0:m.fLength=0
     ·rw[show(m.fLength==0)=true by simp[l0],cond_true,g3 l0]
      exact key
     ·rw[show(m.fLength==0)=false by simp[l0],cond_false,←g2 l0]
      exact key
    ·rw[if_neg c,decide_eq_false c]
     rfl
end Go.Proofs.YtnjmaohblihppaaGreatDoor
