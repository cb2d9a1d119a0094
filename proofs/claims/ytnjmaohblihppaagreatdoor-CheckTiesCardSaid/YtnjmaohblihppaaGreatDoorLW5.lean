/- A part of the proof. -/
import Derived.Test.YtnjmaohblihppaaGreatDoorFRQ
import Derived.Test.YtnjmaohblihppaaGreatDoorTTa
import Derived.Test.YtnjmaohblihppaaGreatDoorFL5
import Derived.Test.YtnjmaohblihppaaGreatDoorFS
set_option linter.all false
namespace Go.Proofs.YtnjmaohblihppaaGreatDoor
open Go.PE
set_option maxRecDepth 100000
theorem Ex.nil {R:Int} {l:List G35Violation} (h:Ex R l []):l=[]:=by
 obtain⟨t,e,_⟩:=h
 exact(List.append_eq_nil_iff.1 e.symm).1
theorem ccc {α:Type} {c:Bool} {x:Option α} {r:α} (h:(bif c then x else x)=some r):x=some r:=by cases c<;>exact h
def Pf (l m:List G35Violation):Prop:=m=[]→l=[]
theorem Pf.ex {R:Int} {l m n:List G35Violation} (h:Ex R l m) (k:Pf m n):Pf l n:=fun e=>by
 have:=k e
 subst this
 exact h.nil
theorem p117 {v s b r} (h:JF32_117 v s b=some r):Pf v (Sl.es r):=by
 unfold JF32_117 at h
 rcases cor h with ⟨_,h⟩|⟨_,h⟩
 ·rw[q3 h];exact id
 ·obtain⟨u,hu,h⟩:=bind_some h
  refine .ex (xF77_1 hu) ?_
  rw[q3 h];exact id
theorem p109 {v s b r} (h:JF32_109 v s b=some r):Pf v (Sl.es r):=by
 unfold JF32_109 at h
 rcases cor h with ⟨_,h⟩|⟨_,h⟩
 ·rw[q3 h];exact id
 ·obtain⟨u,hu,h⟩:=bind_some h
  refine .ex (xF76_1 hu) ?_
  rcases cor h with ⟨_,h⟩|⟨_,h⟩
  ·obtain⟨_,_,h⟩:=bind_some h
   exact p117 h
  ·exact p117 h
theorem p101 {v s b r} (h:JF32_101 v s b=some r):Pf v (Sl.es r):=by
 unfold JF32_101 at h
 rcases cor h with ⟨_,h⟩|⟨_,h⟩
 ·rw[q3 h];exact id
 ·obtain⟨u,hu,h⟩:=bind_some h
  refine .ex (xF75_1 hu) ?_
  rcases cor h with ⟨_,h⟩|⟨_,h⟩
  ·obtain⟨_,_,h⟩:=bind_some h
   exact p109 h
  ·exact p109 h
theorem p93 {v s b r} (h:JF32_93 v s b=some r):Pf v (Sl.es r):=by
 unfold JF32_93 at h
 rcases cor h with ⟨_,h⟩|⟨_,h⟩
 ·rw[q3 h];exact id
 ·obtain⟨u,hu,h⟩:=bind_some h
  refine .ex (xF74_1 hu) ?_
  rcases cor h with ⟨_,h⟩|⟨_,h⟩
  ·obtain⟨_,_,h⟩:=bind_some h
   exact p101 h
  ·exact p101 h
theorem p85 {v s b r} (h:JF32_85 v s b=some r):Pf v (Sl.es r):=by
 unfold JF32_85 at h
 rcases cor h with ⟨_,h⟩|⟨_,h⟩
 ·rw[q3 h];exact id
 ·obtain⟨u,hu,h⟩:=bind_some h
  refine .ex (xF73_1 hu) ?_
  rcases cor h with ⟨_,h⟩|⟨_,h⟩
  ·obtain⟨_,_,h⟩:=bind_some h
   exact p93 h
  ·exact p93 h
theorem p77 {v s b r} (h:JF32_77 v s b=some r):Pf v (Sl.es r):=by
 unfold JF32_77 at h
 rcases cor h with ⟨_,h⟩|⟨_,h⟩
 ·rw[q3 h];exact id
 ·obtain⟨u,hu,h⟩:=bind_some h
  refine .ex (xF72_1 hu) ?_
  rcases cor h with ⟨_,h⟩|⟨_,h⟩
  ·obtain⟨_,_,h⟩:=bind_some h
   exact p85 h
  ·exact p85 h
theorem p69 {v s b r} (h:JF32_69 v s b=some r):Pf v (Sl.es r):=by
 unfold JF32_69 at h
 rcases cor h with ⟨_,h⟩|⟨_,h⟩
 ·rw[q3 h];exact id
 ·obtain⟨u,hu,h⟩:=bind_some h
  refine .ex (xF71_1 hu) ?_
  rcases cor h with ⟨_,h⟩|⟨_,h⟩
  ·obtain⟨_,_,h⟩:=bind_some h
   exact p77 h
  ·exact p77 h
theorem p61 {v s b r} (h:JF32_61 v s b=some r):Pf v (Sl.es r):=by
 unfold JF32_61 at h
 rcases cor h with ⟨_,h⟩|⟨_,h⟩
 ·rw[q3 h];exact id
 ·obtain⟨u,hu,h⟩:=bind_some h
  refine .ex (xF70_1 hu) ?_
  rcases cor h with ⟨_,h⟩|⟨_,h⟩
  ·obtain⟨_,_,h⟩:=bind_some h
   exact p69 h
  ·exact p69 h
theorem p54 {s l r} (h:JF32_54 s l=some r):Pf l (Sl.es r):=by
 unfold JF32_54 at h
 obtain⟨u,hu,h⟩:=bind_some h
 refine .ex (xF69_1 hu) ?_
 rcases cor h with ⟨_,h⟩|⟨_,h⟩
 ·obtain⟨_,_,h⟩:=bind_some h
  exact p61 h
 ·exact p61 h
theorem z54 {s l r} (h:JF32_54 s l=some r) (hr:Sl.es r=[]):l=[]∧F69_1 s 9 []=some []∧F70_1 s 10 []=some []:=by
 unfold JF32_54 at h
 obtain⟨u,hu,g⟩:=bind_some h
 clear h
 have e:u=[]:=by
  rcases cor g with ⟨_,h⟩|⟨_,h⟩
  ·obtain⟨_,_,h⟩:=bind_some h
   exact p61 h hr
  ·exact p61 h hr
 subst e
 have k:=(xF69_1 hu).nil
 subst k
 have h:JF32_61 [] s false=some r:=by
  rcases cor g with ⟨c,h⟩|⟨_,h⟩
  ·exact absurd c (by decide)
  ·exact h
 clear g
 unfold JF32_61 at h
 rw[cond_false]at h
 obtain⟨w,hw,g⟩:=bind_some h
 clear h
 have e:w=[]:=by
  rcases cor g with ⟨_,h⟩|⟨_,h⟩
  ·obtain⟨_,_,h⟩:=bind_some h
   exact p69 h hr
  ·exact p69 h hr
 subst e
 exact⟨rfl,hu,hw⟩
theorem z48 {s l r} (h:JF32_48 s l=some r) (hr:Sl.es r=[]):l=[]∧F68_1 s 8 []=some []∧F69_1 s 9 []=some []∧F70_1 s 10 []=some []:=by
 unfold JF32_48 at h
 obtain⟨u,hu,h⟩:=bind_some h
 have e:=z54 (ccc h) hr
 obtain⟨rfl,e⟩:=e
 have k:=(xF68_1 hu).nil
 subst k
 exact⟨rfl,hu,e⟩
theorem z42 {s l r} (h:JF32_42 s l=some r) (hr:Sl.es r=[]):l=[]∧F67_1 s 7 []=some []∧F68_1 s 8 []=some []∧F69_1 s 9 []=some []∧F70_1 s 10 []=some []:=by
 unfold JF32_42 at h
 obtain⟨u,hu,h⟩:=bind_some h
 have e:=z48 (ccc h) hr
 obtain⟨rfl,e⟩:=e
 have k:=(xF67_1 hu).nil
 subst k
 exact⟨rfl,hu,e⟩
theorem z36 {s l r} (h:JF32_36 s l=some r) (hr:Sl.es r=[]):l=[]∧F66_1 s 6 []=some []∧F67_1 s 7 []=some []∧F68_1 s 8 []=some []∧F69_1 s 9 []=some []∧F70_1 s 10 []=some []:=by
 unfold JF32_36 at h
 obtain⟨u,hu,h⟩:=bind_some h
 have e:=z42 (ccc h) hr
 obtain⟨rfl,e⟩:=e
 have k:=(xF66_1 hu).nil
 subst k
 exact⟨rfl,hu,e⟩
theorem z30 {s l r} (h:JF32_30 s l=some r) (hr:Sl.es r=[]):l=[]∧F65_1 s 5 []=some []∧F66_1 s 6 []=some []∧F67_1 s 7 []=some []∧F68_1 s 8 []=some []∧F69_1 s 9 []=some []∧F70_1 s 10 []=some []:=by
 unfold JF32_30 at h
 obtain⟨u,hu,h⟩:=bind_some h
 have e:=z36 (ccc h) hr
 obtain⟨rfl,e⟩:=e
 have k:=(xF65_1 hu).nil
 subst k
 exact⟨rfl,hu,e⟩
theorem z24 {s l r} (h:JF32_24 s l=some r) (hr:Sl.es r=[]):l=[]∧F64_1 s 4 []=some []∧F65_1 s 5 []=some []∧F66_1 s 6 []=some []∧F67_1 s 7 []=some []∧F68_1 s 8 []=some []∧F69_1 s 9 []=some []∧F70_1 s 10 []=some []:=by
 unfold JF32_24 at h
 obtain⟨u,hu,h⟩:=bind_some h
 have e:=z30 (ccc h) hr
 obtain⟨rfl,e⟩:=e
 have k:=(xF64_1 hu).nil
 subst k
 exact⟨rfl,hu,e⟩
theorem z18 {s l r} (h:JF32_18 s l=some r) (hr:Sl.es r=[]):l=[]∧F63_1 s 3 []=some []∧F64_1 s 4 []=some []∧F65_1 s 5 []=some []∧F66_1 s 6 []=some []∧F67_1 s 7 []=some []∧F68_1 s 8 []=some []∧F69_1 s 9 []=some []∧F70_1 s 10 []=some []:=by
 unfold JF32_18 at h
 obtain⟨u,hu,h⟩:=bind_some h
 have e:=z24 (ccc h) hr
 obtain⟨rfl,e⟩:=e
 have k:=(xF63_1 hu).nil
 subst k
 exact⟨rfl,hu,e⟩
theorem z32 {s r} (h:F32 s=some r) (hr:Sl.es r=[]):F63_1 s 3 []=some []∧F64_1 s 4 []=some []∧F65_1 s 5 []=some []∧F66_1 s 6 []=some []∧F67_1 s 7 []=some []∧F68_1 s 8 []=some []∧F69_1 s 9 []=some []∧F70_1 s 10 []=some []:=by
 unfold F32 at h
 have h:JF32_4 s=some r:=by rcases cor h with ⟨_,h⟩|⟨_,h⟩<;>exact h
 unfold JF32_4 at h
 obtain⟨u,hu,h⟩:=bind_some h
 rcases cor h with ⟨c,h⟩|⟨_,h⟩
 ·unfold JF32_11 at h
  rw[cond_true]at h
  have e:=q3 h
  rw[hr]at e
  subst e
  cases c
 ·unfold JF32_11 at h
  rw[cond_false]at h
  obtain⟨w,hw,h⟩:=bind_some h
  have e:=z18 (ccc h) hr
  exact e.2
theorem z13 {s} (h:F13 s=some true):F63_1 s 3 []=some []∧F64_1 s 4 []=some []∧F65_1 s 5 []=some []∧F66_1 s 6 []=some []∧F67_1 s 7 []=some []∧F68_1 s 8 []=some []∧F69_1 s 9 []=some []∧F70_1 s 10 []=some []:=by
 unfold F13 at h
 obtain⟨r,hr,h⟩:=bind_some h
 refine z32 hr ?_
 have e:=Option.some.inj h
 simp only[ln]at e
 exact List.eq_nil_of_length_eq_zero (by simpa using e)
theorem f99 {b i s r l} (h:F99_1 b i s r l=some []):b=false∧l=[]:=by
 unfold F99_1 at h
 cases b with
 |false=>cases h;exact⟨rfl,rfl⟩
 |true=>
  rw[cond_true]at h
  obtain⟨q,hq,h⟩:=bind_some h
  cases h
  unfold gapp at hq
  split at hq
  ·have e:=Option.some.inj hq
   exact nomatch (List.append_eq_nil_iff.1 e).2
  ·cases hq
theorem each_inv {α:Type} {s:Sl α} {B:Int→List G35Violation→Option ((Int×List G35Violation)⊕List G35Violation)} {P:Int→α→Prop} (hl:ln s≤1000000000000)
  (hB:∀ i l o,B i l=some o→(i<ln s∧∃ m l',gx (Sl.es s) i=some m∧o=.inl (wi (i+1),l')∧(l'=[]→l=[]∧P i m))∨(¬ i<ln s∧o=.inr l))
  {l0 r:List G35Violation} (h:loopF (fun (x:Int×List G35Violation)=>match x with|(i,l)=>B i l) (0,l0)=some r) (hr:r=[]):l0=[]∧∀ j m,gx (Sl.es s) j=some m→P j m:=by
 have key:=loopF_inv (I:=fun x=>0≤x.1∧(x.2=[]→l0=[]∧∀ j,j<x.1→∀ m,gx (Sl.es s) j=some m→P j m)) (T:=fun r=>r=[]→l0=[]∧∀ j m,gx (Sl.es s) j=some m→P j m) h ⟨Int.le_refl _,fun e=>⟨e,fun j a m em=>by have:=(gx_pos em).1;simp only at a;omega⟩⟩ (by
  rintro⟨i,l⟩ o ⟨h0,hI⟩ hb
  rcases hB i l o hb with ⟨c,m,l',e,rfl,k⟩|⟨c,rfl⟩
  ·have e1:wi (i+1)=i+1:=wi_id (by simp only at h0;omega) (by omega)
   rw[e1]
   refine⟨by simp only at h0 ⊢;omega,fun hn=>?_⟩
   obtain⟨hl',hp⟩:=k hn
   obtain⟨hz,hI⟩:=hI hl'
   refine⟨hz,fun j a m' em=>?_⟩
   by_cases hj:j=i
   ·subst hj;cases e.symm.trans em;exact hp
   ·exact hI j (by simp only at a ⊢;omega) m' em
  ·intro hn
   obtain⟨hz,hI⟩:=hI hn
   refine⟨hz,fun j m' em=>hI j ?_ m' em⟩
   have:=(gx_pos em).2
   simp only[ln]at c ⊢
   omega)
 exact key hr
theorem find_inv {α:Type} {s:Sl α} {B:Int→Option (Int⊕(Int⊕Unit))} {P Q:α→Prop} (hl:ln s≤1000000000000)
  (hB:∀ i o,B i=some o→(i<ln s∧∃ x,gx (Sl.es s) i=some x∧((o=.inr (.inl i)∧Q x)∨(o=.inl (wi (i+1))∧P x)))∨(¬ i<ln s∧o=.inr (.inr ())))
  {o} (h:loopF (fun (i:Int)=>B i) 0=some o):(∃ i x,0≤i∧o=.inl i∧gx (Sl.es s) i=some x∧Q x)∨(o=.inr ()∧∀ j x,gx (Sl.es s) j=some x→P x):=by
 exact loopF_inv (I:=fun i=>0≤i∧∀ j,j<i→∀ x,gx (Sl.es s) j=some x→P x) (T:=fun o=>(∃ i x,0≤i∧o=.inl i∧gx (Sl.es s) i=some x∧Q x)∨(o=.inr ()∧∀ j x,gx (Sl.es s) j=some x→P x)) h ⟨Int.le_refl _,fun j a x em=>by have:=(gx_pos em).1;omega⟩ (by
  rintro i o ⟨h0,hI⟩ hb
  rcases hB i o hb with ⟨c,x,e,⟨rfl,q⟩|⟨rfl,k⟩⟩|⟨c,rfl⟩
  ·exact .inl ⟨i,x,h0,rfl,e,q⟩
  ·have e1:wi (i+1)=i+1:=wi_id (by omega) (by omega)
   rw[e1]
   refine⟨by omega,fun j a y ey=>?_⟩
   by_cases hj:j=i
   ·subst hj;cases e.symm.trans ey;exact k
   ·exact hI j (by omega) y ey
  ·refine .inr ⟨rfl,fun j x ex=>hI j ?_ x ex⟩
   have:=(gx_pos ex).2
   simp only[ln]at c
   omega)
end Go.Proofs.YtnjmaohblihppaaGreatDoor
namespace Go.Proofs.YtnjmaohblihppaaGreatDoor
open Go.PE Go.RowKit
set_option maxRecDepth 100000
theorem m70 {s:G27Score} (hs:okG27Score s) (h:F70_1 s 10 []=some []):∀ j m,gx (Sl.es s.fMeasures) j=some m→∀ c x,gx (Sl.es m.fCells) c=some x→∀ k v,gx (Sl.es x.fVoices) k=some v→∀ e y,gx (Sl.es v.fEvents) e=some y→F122_1 4 0 c j k e 0 y s 10 []=some false:=by
 unfold F70_1 at h
 obtain⟨r,hr,h⟩:=bind_some h
 cases h
 unfold F113_3 at hr
 obtain⟨o,ho,h⟩:=bind_some hr
 cases h
 refine(each_inv (P:=fun (j:Int) (m:G64Measure)=>∀ c x,gx (Sl.es m.fCells) c=some x→∀ k v,gx (Sl.es x.fVoices) k=some v→∀ e y,gx (Sl.es v.fEvents) e=some y→F122_1 4 0 c j k e 0 y s 10 []=some false) (by have:=hs.fMeasures.le;omega) ?_ ho rfl).2
 intro i l o hb
 unfold LF113_3_11 at hb
 rcases cor hb with ⟨c,h⟩|⟨c,h⟩
 ·obtain⟨m,em,h⟩:=bind_some h
  obtain⟨w,ew,h⟩:=bind_some h
  unfold JF113_3_14 at h
  cases h
  have hm:=hs.fMeasures.2 m (gx_mem em)
  refine .inl ⟨of_decide_eq_true c,m,w,em,rfl,fun e=>each_inv (P:=fun (c:Int) (x:G69Cell)=>∀ k v,gx (Sl.es x.fVoices) k=some v→∀ e y,gx (Sl.es v.fEvents) e=some y→F122_1 4 0 c i k e 0 y s 10 []=some false) (by have:=hm.fCells.le;omega) ?_ ew e⟩
  intro i2 l o hb
  unfold LF113_3_24 at hb
  rcases cor hb with ⟨c,h⟩|⟨c,h⟩
  ·obtain⟨x,ex,h⟩:=bind_some h
   obtain⟨w,ew,h⟩:=bind_some h
   unfold JF113_3_27 at h
   cases h
   have hx:=hm.fCells.2 x (gx_mem ex)
   refine .inl ⟨of_decide_eq_true c,x,w,ex,rfl,fun e=>each_inv (P:=fun (k:Int) (v:G73Voice)=>∀ e y,gx (Sl.es v.fEvents) e=some y→F122_1 4 0 i2 i k e 0 y s 10 []=some false) (by have:=hx.fVoices.le;omega) ?_ ew e⟩
   intro i3 l o hb
   unfold LF113_3_37 at hb
   rcases cor hb with ⟨c,h⟩|⟨c,h⟩
   ·obtain⟨v,ev,h⟩:=bind_some h
    obtain⟨w,ew,h⟩:=bind_some h
    unfold JF113_3_40 at h
    cases h
    have hv:=hx.fVoices.2 v (gx_mem ev)
    refine .inl ⟨of_decide_eq_true c,v,w,ev,rfl,fun e=>each_inv (P:=fun (e:Int) (y:G49Event)=>F122_1 4 0 i2 i i3 e 0 y s 10 []=some false) (by have:=hv.fEvents.le;omega) ?_ ew e⟩
    intro i4 l o hb
    unfold LF113_3_50 at hb
    rcases cor hb with ⟨c,h⟩|⟨c,h⟩
    ·obtain⟨y,ey,h⟩:=bind_some h
     obtain⟨b,eb,h⟩:=bind_some h
     obtain⟨w,ew,h⟩:=bind_some h
     cases h
     refine .inl ⟨of_decide_eq_true c,y,w,ey,rfl,fun e=>?_⟩
     subst e
     obtain⟨rfl,rfl⟩:=f99 ew
     exact⟨rfl,eb⟩
    ·cases h
     exact .inr ⟨of_decide_eq_false c,rfl⟩
   ·cases h
    exact .inr ⟨of_decide_eq_false c,rfl⟩
  ·cases h
   exact .inr ⟨of_decide_eq_false c,rfl⟩
 ·cases h
  exact .inr ⟨of_decide_eq_false c,rfl⟩
end Go.Proofs.YtnjmaohblihppaaGreatDoor
namespace Go.Proofs.YtnjmaohblihppaaGreatDoor
open Go.PE Go.RowKit
set_option maxRecDepth 100000
theorem f122 {s:G27Score} {c m v e:Int} {y:G49Event} {l:List G35Violation} (h:F122_1 4 0 c m v e 0 y s 10 l=some false):
  F19 y=some false∨∃ q w f,F20 s ⟨4,0,c,m,v,e,0⟩=some (q,true)∧F17 s q=some (w,f)∧F21 y w=some true:=by
 unfold F122_1 at h
 obtain⟨b,hb,h⟩:=bind_some h
 rcases cor h with ⟨c1,_⟩|⟨_,h⟩
 ·left
  rw[hb]
  cases b with
  |true=>cases c1
  |false=>rfl
 ·right
  obtain⟨⟨q,t⟩,hq,h⟩:=bind_some h
  obtain⟨⟨w,f⟩,hw,h⟩:=bind_some h
  rcases cor h with ⟨_,h⟩|⟨c2,h⟩
  ·cases h
  ·obtain⟨u,hu,g⟩:=bind_some h
   have t1:t=true:=by
    cases t with
    |true=>rfl
    |false=>cases c2
   subst t1
   refine⟨q,w,f,hq,hw,?_⟩
   rw[hu]
   have e:=Option.some.inj g
   cases u with
   |true=>rfl
   |false=>cases e
end Go.Proofs.YtnjmaohblihppaaGreatDoor
namespace Go.Proofs.YtnjmaohblihppaaGreatDoor
open Go.PE Go.RowKit
set_option maxRecDepth 100000
theorem cp_nil {α:Type} {x:Sl α} (h:Sl.isNil x=true):Sl.es x=[]:=by
 cases x with
 |nil=>rfl
 |_=>cases h
theorem cp_emp {α:Type} {x:Sl α} (h:List.isEmpty (Sl.es x)=true):Sl.es x=[]:=List.isEmpty_iff.1 h
theorem cp_app {α:Type} {b:Nat} {l q:List α} (h:gapp b [] l=some q):q=l:=by
 unfold gapp at h
 split at h
 ·cases h
  rfl
 ·cases h
theorem f79 {x z} (h:F79 x=some z):Sl.es z=Sl.es x:=by
 unfold F79 at h
 rcases cor h with ⟨c,h⟩|⟨_,h⟩
 ·cases h;rw[cp_nil c];rfl
 rcases cor h with ⟨c,h⟩|⟨_,h⟩
 ·cases h;rw[cp_emp c];rfl
 obtain⟨q,hq,h⟩:=bind_some h
 cases h
 rw[mkSl_es,cp_app hq]
theorem f80 {x z} (h:F80 x=some z):Sl.es z=Sl.es x:=by
 unfold F80 at h
 rcases cor h with ⟨c,h⟩|⟨_,h⟩
 ·cases h;rw[cp_nil c];rfl
 rcases cor h with ⟨c,h⟩|⟨_,h⟩
 ·cases h;rw[cp_emp c];rfl
 obtain⟨q,hq,h⟩:=bind_some h
 cases h
 rw[mkSl_es,cp_app hq]
theorem f81 {x z} (h:F81 x=some z):Sl.es z=Sl.es x:=by
 unfold F81 at h
 rcases cor h with ⟨c,h⟩|⟨_,h⟩
 ·cases h;rw[cp_nil c];rfl
 rcases cor h with ⟨c,h⟩|⟨_,h⟩
 ·cases h;rw[cp_emp c];rfl
 obtain⟨q,hq,h⟩:=bind_some h
 cases h
 rw[mkSl_es,cp_app hq]
structure Cpy (y z:G49Event):Prop where
 id:z.fID=y.fID
 kind:z.fKind=y.fKind
 value:z.fValue=y.fValue
 heads:Sl.es z.fHeads=Sl.es y.fHeads
 graces:Sl.es z.fGraces=Sl.es y.fGraces
 arts:z.fArticulations=y.fArticulations
 orn:z.fOrnament=y.fOrnament
 dyn:z.fDynamic=y.fDynamic
 lyrics:Sl.es z.fLyrics=Sl.es y.fLyrics
 stem:z.fStem=y.fStem
 beam:z.fBeam=y.fBeam
theorem f35 {y z} (h:F35 y=some z):Cpy y z:=by
 unfold F35 at h
 obtain⟨a,ha,h⟩:=bind_some h
 obtain⟨b,hb,h⟩:=bind_some h
 obtain⟨c,hc,h⟩:=bind_some h
 cases h
 exact⟨rfl,rfl,rfl,f79 ha,f80 hb,rfl,rfl,rfl,f81 hc,rfl,rfl⟩
end Go.Proofs.YtnjmaohblihppaaGreatDoor
namespace Go.Proofs.YtnjmaohblihppaaGreatDoor
open Go.PE Go.RowKit
set_option maxRecDepth 100000
theorem cp_ln {α:Type} {x z:Sl α} (h:Sl.es z=Sl.es x):ln z=ln x:=by unfold ln;rw[h]
theorem c90 {x z:Sl G112Head} (h:Sl.es z=Sl.es x):F90_2 z=F90_2 x:=by
 have k:∀ i,LF90_2_8 z i=LF90_2_8 x i:=fun i=>by unfold LF90_2_8;rw[cp_ln h,h]
 unfold F90_2
 simp only[k]
theorem c19 {y z:G49Event} (h:Cpy y z):F19 z=F19 y:=by
 unfold F19 F46_2
 rw[h.kind,c90 h.heads]
theorem c21 {y z w:G49Event} (h:Cpy y z):F21 z w=F21 y w:=by
 have k:∀ i,LF21_9 z w i=LF21_9 y w i:=fun i=>by unfold LF21_9;rw[cp_ln h.heads,h.heads]
 unfold F21
 simp only[k,h.kind]
end Go.Proofs.YtnjmaohblihppaaGreatDoor
namespace Go.Proofs.YtnjmaohblihppaaGreatDoor
open Go.PE Go.RowKit
set_option maxRecDepth 100000
theorem d82 {a a' b b':Sl G112Head} (h:Sl.es a'=Sl.es a) (k:Sl.es b'=Sl.es b):F82 a' b'=F82 a b:=by
 have q:∀ i,LF82_9 a' b' i=LF82_9 a b i:=fun i=>by unfold LF82_9;rw[cp_ln h,h,k]
 unfold F82
 simp only[q,cp_ln h,cp_ln k]
theorem d83 {a a' b b':Sl G144Grace} (h:Sl.es a'=Sl.es a) (k:Sl.es b'=Sl.es b):F83 a' b'=F83 a b:=by
 have q:∀ i,LF83_9 a' b' i=LF83_9 a b i:=fun i=>by unfold LF83_9;rw[cp_ln h,h,k]
 unfold F83
 simp only[q,cp_ln h,cp_ln k]
theorem d84 {a a' b b':Sl G135Syllable} (h:Sl.es a'=Sl.es a) (k:Sl.es b'=Sl.es b):F84 a' b'=F84 a b:=by
 have q:∀ i,LF84_9 a' b' i=LF84_9 a b i:=fun i=>by unfold LF84_9;rw[cp_ln h,h,k]
 unfold F84
 simp only[q,cp_ln h,cp_ln k]
theorem d43 {a a':Sl G112Head} (h:Sl.es a'=Sl.es a):F43 a'=F43 a:=by
 have q:∀ i j,LF43_11 a' i j=LF43_11 a i j:=fun i j=>by unfold LF43_11;rw[cp_ln h,h]
 unfold F43
 simp only[q,cp_ln h]
theorem d44 {a a':Sl G144Grace} (h:Sl.es a'=Sl.es a):F44 a'=F44 a:=by
 have q:∀ i,LF44_9 a' i=LF44_9 a i:=fun i=>by unfold LF44_9;rw[cp_ln h,h]
 unfold F44
 simp only[q,cp_ln h]
theorem d45 {a a':Sl G135Syllable} (h:Sl.es a'=Sl.es a):F45 a'=F45 a:=by
 have q:∀ i,LF45_17 a' i=LF45_17 a i:=fun i=>by unfold LF45_17;rw[cp_ln h,h]
 have j:JF45_2 a'=JF45_2 a:=by unfold JF45_2;rw[cp_ln h,h]
 unfold F45
 simp only[q,cp_ln h,j]
theorem d40 {y z y' z':G49Event} (h:Cpy y z) (k:Cpy y' z'):F40 z z'=F40 y y':=by
 unfold F40
 rw[h.kind,h.value,h.arts,h.orn,h.dyn,h.stem,h.beam,k.kind,k.value,k.arts,k.orn,k.dyn,k.stem,k.beam,d82 h.heads k.heads,d83 h.graces k.graces,d84 h.lyrics k.lyrics]
theorem d41 {y z:G49Event} (h:Cpy y z):∃ w w',F41 y=some w∧F41 z=some w'∧Cpy w w':=by
 have hi:(⟨z.fID.fSite,z.fID.fNumber⟩:G33ID)=⟨y.fID.fSite,y.fID.fNumber⟩:=by rw[h.id]
 have j6:∀ a b,∃ w w',JF41_6 y a b=some w∧JF41_6 z a b=some w'∧Cpy w w':=by
  intro a b
  unfold JF41_6 F85
  rw[h.kind,h.arts]
  cases y.fKind !=4 with
  |false=>exact⟨_,_,rfl,rfl,⟨hi,rfl,rfl,rfl,rfl,rfl,rfl,h.dyn,rfl,rfl,rfl⟩⟩
  |true=>cases decide (y.fArticulations<0)<;>exact⟨_,_,rfl,rfl,⟨hi,rfl,rfl,rfl,rfl,rfl,rfl,h.dyn,rfl,rfl,rfl⟩⟩
 have j2:∀ b,∃ w w',JF41_2 y b=some w∧JF41_2 z b=some w'∧Cpy w w':=by
  intro b
  unfold JF41_2
  cases b with
  |true=>exact⟨_,_,rfl,rfl,⟨hi,h.kind,by rw[h.value],h.heads,h.graces,h.arts,h.orn,h.dyn,h.lyrics,h.stem,h.beam⟩⟩
  |false=>
   rw[cond_false,cond_false,h.kind,h.value]
   cases y.fKind !=3 with
   |true=>simp only[cond_true];exact j6 _ _
   |false=>simp only[cond_false];exact j6 _ _
 unfold F41 F39
 rw[h.kind]
 cases y.fKind==1 with
 |true=>simp only[cond_true];exact j2 _
 |false=>cases decide (y.fKind≥1)<;>(simp only[cond_true,cond_false,Option.bind_some];exact j2 _)
theorem d18 {y z:G49Event} (h:Cpy y z):F18 z=F18 y:=by
 have j19:JF18_19 z=JF18_19 y:=by unfold JF18_19;rw[h.arts,h.orn,h.dyn,h.stem,h.beam]
 have j17:∀ b,JF18_17 z b=JF18_17 y b:=fun b=>by unfold JF18_17;rw[h.kind,d43 h.heads,d44 h.graces,d45 h.lyrics,j19]
 obtain⟨w,w',e1,e2,k⟩:=d41 h
 unfold F18
 rw[h.id,h.kind,h.value,e1,e2]
 simp only[Option.bind_some,d40 h k,j17]
theorem F15_at {s:G27Score} {id:G33ID} {p:G39Place} {b:Bool} (h:F15 s id=some (p,b)):okPl s p.fKind p.fStaff p.fMeasure p.fVoice p.fEvent:=by
 unfold F15 at h
 rcases cor h with ⟨_,h⟩|⟨_,h⟩
 ·cases h
  exact fun e=>nomatch e
 ·obtain⟨t,ht,h⟩:=bind_some h
  rcases cor h with ⟨c,h⟩|⟨_,h⟩
  ·have q:=i78 ht c
   have e:=Option.some.inj h
   have e1:=congrArg Prod.fst e
   dsimp only at e1
   subst e1
   exact q
  ·cases h
   exact fun e=>nomatch e
theorem d36 {s:G27Score} {m st v M C V} (g1:gx (Sl.es s.fMeasures) m=some M) (g2:gx (Sl.es M.fCells) st=some C) (g3:gx (Sl.es C.fVoices) v=some V):F36 s m st v=some V.fEvents:=by
 have p1:=gx_pos g1
 have p2:=gx_pos g2
 have p3:=gx_pos g3
 have j:JF36_5 s m st v false=some V.fEvents:=by
  unfold JF36_5
  rw[cond_false,g1]
  simp only[Option.bind_some,g2,g3]
 unfold F36
 rw[decide_eq_false (by omega),decide_eq_false (by unfold ln;omega),decide_eq_false (by omega),cond_false,cond_false,cond_false,g1]
 simp only[Option.bind_some,g2]
 rw[decide_eq_false (by unfold ln;omega),decide_eq_false (by omega),decide_eq_false (by unfold ln;omega),cond_false,cond_false,j]
theorem d34 {s:G27Score} {p:G39Place} {l} (hk:p.fKind=4) (h:F36 s p.fMeasure p.fStaff p.fVoice=some l) (h0:0≤p.fEvent) (h1:p.fEvent<ln l):F34 s p=some 0:=by
 unfold F34
 rw[hk,decide_eq_false (by omega),h]
 show JF34_4 (decide (p.fEvent≥ln l))=some 0
 rw[decide_eq_false (by omega)]
 rfl
theorem d17 {s:G27Score} {p:G39Place} {w f} (h:F17 s p=some (w,f)) (k:F34 s p=some 0):f=0∧∃ l y,F36 s p.fMeasure p.fStaff p.fVoice=some l∧gx (Sl.es l) p.fEvent=some y∧Cpy y w:=by
 unfold F17 at h
 rw[k]at h
 simp only[Option.bind_some]at h
 rw[show((0:Int) !=0)=false from rfl,cond_false]at h
 obtain⟨l,hl,h⟩:=bind_some h
 obtain⟨y,hy,h⟩:=bind_some h
 obtain⟨z,hz,h⟩:=bind_some h
 cases h
 have q:=f35 hz
 exact⟨rfl,l,y,hl,hy,⟨q.id,q.kind,q.value,q.heads,q.graces,q.arts,q.orn,q.dyn,q.lyrics,q.stem,q.beam⟩⟩
theorem d20 {s:G27Score} {p q:G39Place} (hs:okG27Score s) (h:F20 s p=some (q,true)):F34 s q=some 0:=by
 unfold F20 at h
 obtain⟨z,hz,h⟩:=bind_some h
 rcases cor h with ⟨_,h⟩|⟨c,h⟩
 ·cases h
 have hz0:z=0:=by simpa using c
 subst hz0
 obtain⟨e0,e1⟩:=F34_zero hz
 obtain⟨l,hl,h⟩:=bind_some h
 have l5:=e1 l hl
 obtain⟨l',hl',hL,_⟩:=tF36 (v0:=s) (v1:=p.fMeasure) (v2:=p.fStaff) (v3:=p.fVoice) hs
 cases hl.symm.trans hl'
 have ew:wi (p.fEvent+1)=p.fEvent+1:=wi_id (by omega) (by omega)
 rcases cor h with ⟨c,h⟩|⟨_,h⟩
 ·have c:=of_decide_eq_true c
  obtain⟨v8,h8,h⟩:=bind_some h
  cases h8
  cases h
  exact d34 rfl hl (by show 0≤wi (p.fEvent+1);omega) c
 ·obtain⟨l2,h2,h⟩:=bind_some h
  rcases cor h with ⟨c2,h⟩|⟨_,h⟩
  ·obtain⟨v13,h13,h⟩:=bind_some h
   cases h13
   cases h
   exact d34 rfl h2 (Int.le_refl 0) (of_decide_eq_true c2)
  ·cases h
end Go.Proofs.YtnjmaohblihppaaGreatDoor
namespace Go.Proofs.YtnjmaohblihppaaGreatDoor
open Go.PE Go.RowKit
set_option maxRecDepth 100000
theorem m68 {s:G27Score} (hs:okG27Score s) (h:F68_1 s 8 []=some []):∀ j m,gx (Sl.es s.fMeasures) j=some m→∀ c x,gx (Sl.es m.fCells) c=some x→∀ k v,gx (Sl.es x.fVoices) k=some v→∀ e y,gx (Sl.es v.fEvents) e=some y→F18 y=some 0:=by
 unfold F68_1 at h
 obtain⟨r,hr,h⟩:=bind_some h
 cases h
 unfold F113_1 at hr
 obtain⟨o,ho,h⟩:=bind_some hr
 cases h
 refine(each_inv (P:=fun (j:Int) (m:G64Measure)=>∀ c x,gx (Sl.es m.fCells) c=some x→∀ k v,gx (Sl.es x.fVoices) k=some v→∀ e y,gx (Sl.es v.fEvents) e=some y→F18 y=some 0) (by have:=hs.fMeasures.le;omega) ?_ ho rfl).2
 intro i l o hb
 unfold LF113_1_11 at hb
 rcases cor hb with ⟨c,h⟩|⟨c,h⟩
 ·obtain⟨m,em,h⟩:=bind_some h
  obtain⟨w,ew,h⟩:=bind_some h
  unfold JF113_1_14 at h
  cases h
  have hm:=hs.fMeasures.2 m (gx_mem em)
  refine .inl ⟨of_decide_eq_true c,m,w,em,rfl,fun e=>each_inv (P:=fun (c:Int) (x:G69Cell)=>∀ k v,gx (Sl.es x.fVoices) k=some v→∀ e y,gx (Sl.es v.fEvents) e=some y→F18 y=some 0) (by have:=hm.fCells.le;omega) ?_ ew e⟩
  intro i l o hb
  unfold LF113_1_24 at hb
  rcases cor hb with ⟨c,h⟩|⟨c,h⟩
  ·obtain⟨x,ex,h⟩:=bind_some h
   obtain⟨w,ew,h⟩:=bind_some h
   unfold JF113_1_27 at h
   cases h
   have hx:=hm.fCells.2 x (gx_mem ex)
   refine .inl ⟨of_decide_eq_true c,x,w,ex,rfl,fun e=>each_inv (P:=fun (k:Int) (v:G73Voice)=>∀ e y,gx (Sl.es v.fEvents) e=some y→F18 y=some 0) (by have:=hx.fVoices.le;omega) ?_ ew e⟩
   intro i l o hb
   unfold LF113_1_37 at hb
   rcases cor hb with ⟨c,h⟩|⟨c,h⟩
   ·obtain⟨v,ev,h⟩:=bind_some h
    obtain⟨w,ew,h⟩:=bind_some h
    unfold JF113_1_40 at h
    cases h
    have hv:=hx.fVoices.2 v (gx_mem ev)
    refine .inl ⟨of_decide_eq_true c,v,w,ev,rfl,fun e=>each_inv (P:=fun (e:Int) (y:G49Event)=>F18 y=some 0) (by have:=hv.fEvents.le;omega) ?_ ew e⟩
    intro i l o hb
    unfold LF113_1_50 at hb
    rcases cor hb with ⟨c,h⟩|⟨c,h⟩
    ·obtain⟨y,ey,h⟩:=bind_some h
     obtain⟨b,eb,h⟩:=bind_some h
     obtain⟨w,ew,h⟩:=bind_some h
     cases h
     refine .inl ⟨of_decide_eq_true c,y,w,ey,rfl,fun e=>?_⟩
     subst e
     obtain⟨rfl,rfl⟩:=f99 ew
     refine⟨rfl,?_⟩
     unfold F114 at eb
     obtain⟨a,ea,eb⟩:=bind_some eb
     have eb:=Option.some.inj eb
     have:a=0:=by simpa using eb
     rw[ea,this]
    ·cases h
     exact .inr ⟨of_decide_eq_false c,rfl⟩
   ·cases h
    exact .inr ⟨of_decide_eq_false c,rfl⟩
  ·cases h
   exact .inr ⟨of_decide_eq_false c,rfl⟩
 ·cases h
  exact .inr ⟨of_decide_eq_false c,rfl⟩
end Go.Proofs.YtnjmaohblihppaaGreatDoor
namespace Go.Proofs.YtnjmaohblihppaaGreatDoor
open Go.PE Go.RowKit
set_option maxRecDepth 100000
theorem loop_all {n:Int} {B:Int→Option (Int⊕(Unit⊕Unit))} (hl:n≤1000000000000) (h0:0≤n)
  (hB:∀ k,0≤k→B k=if k<n then some (.inl (wi (k+1)))else some (.inr (.inr ()))):loopF (fun (k:Int)=>B k) 0=some (.inr ()):=by
 have key:Tot (loopF (fun (k:Int)=>B k) 0) (fun r=>r=.inr ()):=by
  refine t_cnt (fun (k:Int)=>k) n (by unfold maxLen;omega) (fun _=>True) (T:=fun (r:Unit⊕Unit)=>r=.inr ()) (by decide) h0 trivial ?_
  intro k _ g0 _
  rw[hB k g0]
  by_cases c:k<n
  ·rw[if_pos c]
   refine t_some ⟨trivial,?_⟩
   exact⟨wi_id (by omega) (by omega),c⟩
  ·rw[if_neg c]
   exact t_some rfl
 obtain⟨r,e,rfl⟩:=key
 exact e
theorem law5 {s:G27Score} (hb:big27 s):F5 s=some true:=by
 unfold F5 F10
 simp only[Option.bind_some,Bool.not_true,cond_false]
 have j2:JF5_2 s true=some true:=by unfold JF5_2 F10;rfl
 obtain⟨b,eb,hq⟩:=sF11 hb
 rw[eb]
 simp only[Option.bind_some]
 cases b with
 |false=>exact j2
 |true=>
  simp only[Bool.not_true,cond_false]
  have hs:=hq rfl
  obtain⟨b,ev⟩:∃ b,F13 s=some b:=by
   obtain⟨r,er,_⟩:=tF32 hs
   exact⟨_,by unfold F13;rw[er];rfl⟩
  rw[ev]
  simp only[Option.bind_some]
  cases b with
  |false=>exact j2
  |true=>
   have hz:=z13 ev
   have h8:=m68 hs hz.2.2.2.2.2.1
   have h10:=m70 hs hz.2.2.2.2.2.2.2
   clear hz
   obtain⟨l,el,hl⟩:=tF14 (v0:=s) hs
   show JF5_2 s false=some true
   unfold JF5_2
   rw[cond_false,el]
   simp only[Option.bind_some]
   rw[loop_all (n:=ln l) (by omega) ln_nn ?_]
   ·rfl
   ·intro i i0
    unfold LF5_14
    by_cases c:i<ln l
    ·rw[if_pos c,decide_eq_true c,cond_true]
     obtain⟨x,ex⟩:=gx_at (l:=Sl.es l) i0 c
     rw[ex]
     obtain⟨⟨p,b⟩,ep,_⟩:=tF15 (v0:=s) (v1:=x) hs
     simp only[Option.bind_some,ep]
     cases ck:(p.fKind !=4)with
     |true=>rfl
     |false=>
      have hk:p.fKind=4:=by simpa using ck
      obtain⟨M,C,V,y,g1,g2,g3,g4⟩:=F15_at ep hk
      have e36:=d36 g1 g2 g3
      have e34:=d34 hk e36 (gx_pos g4).1 (gx_pos g4).2
      obtain⟨⟨w,f⟩,ew,_⟩:=tF17 (v0:=s) (v1:=p) hs
      obtain⟨rfl,l',y',k1,k2,cp⟩:=d17 ew e34
      cases e36.symm.trans k1
      cases g4.symm.trans k2
      rw[cond_false,ew]
      simp only[Option.bind_some]
      rw[show((0:Int) !=0)=false from rfl,cond_false,d18 cp,h8 _ _ g1 _ _ g2 _ _ g3 _ _ g4]
      simp only[Option.bind_some]
      show JF5_25 (w,0) i s (p,b) false=_
      unfold JF5_25
      rw[cond_false]
      rcases f122 (h10 _ _ g1 _ _ g2 _ _ g3 _ _ g4)with k|⟨q,u,f,t1,t2,t3⟩
      ·rw[c19 cp,k]
       rfl
      ·obtain⟨b19,e19,_⟩:=tF19 (v0:=w) (by
        obtain⟨⟨w',f'⟩,ew',hw',_⟩:=tF17 (v0:=s) (v1:=p) hs
        cases ew.symm.trans ew'
        exact hw')
       rw[e19]
       simp only[Option.bind_some]
       cases b19 with
       |false=>rfl
       |true=>
        have e20:F20 s p=some (q,true):=by
         rw[←t1]
         unfold F20 F34
         rw[hk]
        rw[Bool.not_true,cond_false,e20]
        simp only[Option.bind_some]
        rw[t2]
        simp only[Option.bind_some]
        obtain⟨rfl,_⟩:=d17 t2 (d20 hs t1)
        rw[Bool.not_true,cond_false,show((0:Int) !=0)=false from rfl,cond_false,c21 cp,t3]
        rfl
    ·rw[if_neg c,decide_eq_false c,cond_false]
end Go.Proofs.YtnjmaohblihppaaGreatDoor
