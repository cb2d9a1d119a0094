/- A part of the proof. -/
import Derived.Test.YtnjmaohblihppaaGreatDoorFRQ
import Derived.Test.YtnjmaohblihppaaGreatDoorTTa
import Derived.Test.YtnjmaohblihppaaGreatDoorFL4
import Derived.Test.YtnjmaohblihppaaGreatDoorFS
set_option linter.all false
namespace Go.Proofs.YtnjmaohblihppaaGreatDoor
open Go.PE
set_option maxRecDepth 100000
theorem xF99_2 {v0 v1 v2 v3 v4 v5 r} (h:F99_2 v0 v1 v2 v3 v4 v5=some r):Ex v4 v5 r:=by
 unfold F99_2 at h
 rcases cor h with ⟨_,h⟩|⟨_,h⟩
 ·obtain⟨v8,h2,h⟩:=bind_some h
  cases h
  exact(gapp_ex h2)
 ·cases h
  exact Ex.refl
theorem xJF62_1_7 {v0 v1 v4 v6 r} (h:JF62_1_7 v0 v1 v4 v6=some r):Ex v1 v4 r:=by
 unfold JF62_1_7 at h
 obtain⟨v14,h27,h⟩:=bind_some h
 cases h
 exact(xF99_2 h27)
theorem xJF62_1_5 {v0 v1 v4 r} (h:JF62_1_5 v0 v1 v4=some r):Ex v1 v4 r:=by
 unfold JF62_1_5 at h
 obtain⟨o19,ho19,h⟩:=bind_some h
 generalize o19=v18 at *
 exact xJF62_1_7 h
theorem xLF62_1_44 {v34 v0 v1 v36 v37 v38 r} (h:LF62_1_44 v34 v0 v1 v36 v37 v38=some r):sE (fun r=>Ex v1 v37 r.2.1) (fun r=>Ex v1 v37 r) r:=by
 unfold LF62_1_44 at h
 rcases cor h with ⟨_,h⟩|⟨_,h⟩
 ·obtain⟨_,_,h⟩:=bind_some h
  obtain⟨_,_,h⟩:=bind_some h
  rcases cor h with ⟨_,h⟩|⟨_,h⟩
  ·obtain⟨v56,h31,h⟩:=bind_some h
   cases h
   exact(xF99_1 h31)
  ·obtain⟨_,_,h⟩:=bind_some h
   rcases cor h with ⟨_,h⟩|⟨_,h⟩
   ·obtain⟨v66,h33,h⟩:=bind_some h
    cases h
    exact(xF99_1 h33)
   ·obtain⟨_,_,h⟩:=bind_some h
    obtain⟨v75,h35,h⟩:=bind_some h
    cases h
    exact(xF99_1 h35)
 ·cases h
  exact Ex.refl
theorem xF62_1 {v0 v1 v2 r} (h:F62_1 v0 v1 v2=some r):Ex v1 v2 r:=by
 unfold F62_1 at h
 obtain⟨_,_,h⟩:=bind_some h
 obtain⟨o40,ho40,h⟩:=bind_some h
 have k37:=loopF_inv (I:=fun s=>Ex v1 v2 s.2.1) (T:=fun o=>Ex v1 v2 o) ho40 (Ex.refl) (by
  rintro⟨v36,v37,v38⟩ o hI h
  have k:=xLF62_1_44 h
  rcases o with o|o
  ·exact hI.tr k
  ·exact hI.tr k)
 generalize o40=v39 at *
 have k38:=xJF62_1_5 h
 exact(k37.tr k38)
end Go.Proofs.YtnjmaohblihppaaGreatDoor
namespace Go.Proofs.YtnjmaohblihppaaGreatDoor
open Go.PE
set_option maxRecDepth 100000
theorem Ex.nil {R:Int} {l:List G35Violation} (h:Ex R l []):l=[]:=by
 obtain⟨t,e,_⟩:=h
 exact(List.append_eq_nil_iff.1 e.symm).1
theorem ccc {α:Type} {c:Bool} {x:Option α} {r:α} (h:(bif c then x else x)=some r):x=some r:=by cases c<;>exact h
def Pf (l m:List G35Violation):Prop:=m=[]→l=[]
theorem Pf.ex {R:Int} {l m n:List G35Violation} (h:Ex R l m) (k:Pf m n):Pf l n:=fun e=>by
 have:=k e
 subst this
 exact h.nil
theorem p117 {v s b r} (h:JF32_117 v s b=some r):Pf v (Sl.es r):=by
 unfold JF32_117 at h
 rcases cor h with ⟨_,h⟩|⟨_,h⟩
 ·rw[q3 h];exact id
 ·obtain⟨u,hu,h⟩:=bind_some h
  refine .ex (xF77_1 hu) ?_
  rw[q3 h];exact id
theorem p109 {v s b r} (h:JF32_109 v s b=some r):Pf v (Sl.es r):=by
 unfold JF32_109 at h
 rcases cor h with ⟨_,h⟩|⟨_,h⟩
 ·rw[q3 h];exact id
 ·obtain⟨u,hu,h⟩:=bind_some h
  refine .ex (xF76_1 hu) ?_
  rcases cor h with ⟨_,h⟩|⟨_,h⟩
  ·obtain⟨_,_,h⟩:=bind_some h
   exact p117 h
  ·exact p117 h
theorem p101 {v s b r} (h:JF32_101 v s b=some r):Pf v (Sl.es r):=by
 unfold JF32_101 at h
 rcases cor h with ⟨_,h⟩|⟨_,h⟩
 ·rw[q3 h];exact id
 ·obtain⟨u,hu,h⟩:=bind_some h
  refine .ex (xF75_1 hu) ?_
  rcases cor h with ⟨_,h⟩|⟨_,h⟩
  ·obtain⟨_,_,h⟩:=bind_some h
   exact p109 h
  ·exact p109 h
theorem p93 {v s b r} (h:JF32_93 v s b=some r):Pf v (Sl.es r):=by
 unfold JF32_93 at h
 rcases cor h with ⟨_,h⟩|⟨_,h⟩
 ·rw[q3 h];exact id
 ·obtain⟨u,hu,h⟩:=bind_some h
  refine .ex (xF74_1 hu) ?_
  rcases cor h with ⟨_,h⟩|⟨_,h⟩
  ·obtain⟨_,_,h⟩:=bind_some h
   exact p101 h
  ·exact p101 h
theorem p85 {v s b r} (h:JF32_85 v s b=some r):Pf v (Sl.es r):=by
 unfold JF32_85 at h
 rcases cor h with ⟨_,h⟩|⟨_,h⟩
 ·rw[q3 h];exact id
 ·obtain⟨u,hu,h⟩:=bind_some h
  refine .ex (xF73_1 hu) ?_
  rcases cor h with ⟨_,h⟩|⟨_,h⟩
  ·obtain⟨_,_,h⟩:=bind_some h
   exact p93 h
  ·exact p93 h
theorem p77 {v s b r} (h:JF32_77 v s b=some r):Pf v (Sl.es r):=by
 unfold JF32_77 at h
 rcases cor h with ⟨_,h⟩|⟨_,h⟩
 ·rw[q3 h];exact id
 ·obtain⟨u,hu,h⟩:=bind_some h
  refine .ex (xF72_1 hu) ?_
  rcases cor h with ⟨_,h⟩|⟨_,h⟩
  ·obtain⟨_,_,h⟩:=bind_some h
   exact p85 h
  ·exact p85 h
theorem p69 {v s b r} (h:JF32_69 v s b=some r):Pf v (Sl.es r):=by
 unfold JF32_69 at h
 rcases cor h with ⟨_,h⟩|⟨_,h⟩
 ·rw[q3 h];exact id
 ·obtain⟨u,hu,h⟩:=bind_some h
  refine .ex (xF71_1 hu) ?_
  rcases cor h with ⟨_,h⟩|⟨_,h⟩
  ·obtain⟨_,_,h⟩:=bind_some h
   exact p77 h
  ·exact p77 h
theorem p61 {v s b r} (h:JF32_61 v s b=some r):Pf v (Sl.es r):=by
 unfold JF32_61 at h
 rcases cor h with ⟨_,h⟩|⟨_,h⟩
 ·rw[q3 h];exact id
 ·obtain⟨u,hu,h⟩:=bind_some h
  refine .ex (xF70_1 hu) ?_
  rcases cor h with ⟨_,h⟩|⟨_,h⟩
  ·obtain⟨_,_,h⟩:=bind_some h
   exact p69 h
  ·exact p69 h
theorem p54 {s l r} (h:JF32_54 s l=some r):Pf l (Sl.es r):=by
 unfold JF32_54 at h
 obtain⟨u,hu,h⟩:=bind_some h
 refine .ex (xF69_1 hu) ?_
 rcases cor h with ⟨_,h⟩|⟨_,h⟩
 ·obtain⟨_,_,h⟩:=bind_some h
  exact p61 h
 ·exact p61 h
theorem y48 {s l r} (h:JF32_48 s l=some r):Pf l (Sl.es r):=by
 unfold JF32_48 at h
 obtain⟨u,hu,h⟩:=bind_some h
 exact .ex (xF68_1 hu) (p54 (ccc h))
theorem y42 {s l r} (h:JF32_42 s l=some r):Pf l (Sl.es r):=by
 unfold JF32_42 at h
 obtain⟨u,hu,h⟩:=bind_some h
 exact .ex (xF67_1 hu) (y48 (ccc h))
theorem y36 {s l r} (h:JF32_36 s l=some r):Pf l (Sl.es r):=by
 unfold JF32_36 at h
 obtain⟨u,hu,h⟩:=bind_some h
 exact .ex (xF66_1 hu) (y42 (ccc h))
theorem y30 {s l r} (h:JF32_30 s l=some r):Pf l (Sl.es r):=by
 unfold JF32_30 at h
 obtain⟨u,hu,h⟩:=bind_some h
 exact .ex (xF65_1 hu) (y36 (ccc h))
theorem y24 {s l r} (h:JF32_24 s l=some r):Pf l (Sl.es r):=by
 unfold JF32_24 at h
 obtain⟨u,hu,h⟩:=bind_some h
 exact .ex (xF64_1 hu) (y30 (ccc h))
theorem y18 {s l r} (h:JF32_18 s l=some r):Pf l (Sl.es r):=by
 unfold JF32_18 at h
 obtain⟨u,hu,h⟩:=bind_some h
 exact .ex (xF63_1 hu) (y24 (ccc h))
theorem z32 {s r} (h:F32 s=some r) (hr:Sl.es r=[]):F61_1 s 1 []=some []∧F62_1 s 2 []=some []:=by
 unfold F32 at h
 have h:JF32_4 s=some r:=by rcases cor h with ⟨_,h⟩|⟨_,h⟩<;>exact h
 unfold JF32_4 at h
 obtain⟨u,hu,h⟩:=bind_some h
 rcases cor h with ⟨c,h⟩|⟨_,h⟩
 ·unfold JF32_11 at h
  rw[cond_true]at h
  have e:=q3 h
  rw[hr]at e
  subst e
  cases c
 ·unfold JF32_11 at h
  rw[cond_false]at h
  obtain⟨w,hw,h⟩:=bind_some h
  have e:=y18 (ccc h) hr
  subst e
  have k:=(xF62_1 hw).nil
  subst k
  exact⟨hu,hw⟩
theorem z13 {s} (h:F13 s=some true):F61_1 s 1 []=some []∧F62_1 s 2 []=some []:=by
 unfold F13 at h
 obtain⟨r,hr,h⟩:=bind_some h
 refine z32 hr ?_
 have e:=Option.some.inj h
 simp only[ln]at e
 exact List.eq_nil_of_length_eq_zero (by simpa using e)
theorem f99 {b i s r l} (h:F99_1 b i s r l=some []):b=false∧l=[]:=by
 unfold F99_1 at h
 cases b with
 |false=>cases h;exact⟨rfl,rfl⟩
 |true=>
  rw[cond_true]at h
  obtain⟨q,hq,h⟩:=bind_some h
  cases h
  unfold gapp at hq
  split at hq
  ·have e:=Option.some.inj hq
   exact nomatch (List.append_eq_nil_iff.1 e).2
  ·cases hq
theorem each_inv {α:Type} {s:Sl α} {B:Int→List G35Violation→Option ((Int×List G35Violation)⊕List G35Violation)} {P:Int→α→Prop} (hl:ln s≤1000000000000)
  (hB:∀ i l o,B i l=some o→(i<ln s∧∃ m l',gx (Sl.es s) i=some m∧o=.inl (wi (i+1),l')∧(l'=[]→l=[]∧P i m))∨(¬ i<ln s∧o=.inr l))
  {l0 r:List G35Violation} (h:loopF (fun (x:Int×List G35Violation)=>match x with|(i,l)=>B i l) (0,l0)=some r) (hr:r=[]):l0=[]∧∀ j m,gx (Sl.es s) j=some m→P j m:=by
 have key:=loopF_inv (I:=fun x=>0≤x.1∧(x.2=[]→l0=[]∧∀ j,j<x.1→∀ m,gx (Sl.es s) j=some m→P j m)) (T:=fun r=>r=[]→l0=[]∧∀ j m,gx (Sl.es s) j=some m→P j m) h ⟨Int.le_refl _,fun e=>⟨e,fun j a m em=>by have:=(gx_pos em).1;simp only at a;omega⟩⟩ (by
  rintro⟨i,l⟩ o ⟨h0,hI⟩ hb
  rcases hB i l o hb with ⟨c,m,l',e,rfl,k⟩|⟨c,rfl⟩
  ·have e1:wi (i+1)=i+1:=wi_id (by simp only at h0;omega) (by omega)
   rw[e1]
   refine⟨by simp only at h0 ⊢;omega,fun hn=>?_⟩
   obtain⟨hl',hp⟩:=k hn
   obtain⟨hz,hI⟩:=hI hl'
   refine⟨hz,fun j a m' em=>?_⟩
   by_cases hj:j=i
   ·subst hj;cases e.symm.trans em;exact hp
   ·exact hI j (by simp only at a ⊢;omega) m' em
  ·intro hn
   obtain⟨hz,hI⟩:=hI hn
   refine⟨hz,fun j m' em=>hI j ?_ m' em⟩
   have:=(gx_pos em).2
   simp only[ln]at c ⊢
   omega)
 exact key hr
theorem find_inv {α:Type} {s:Sl α} {B:Int→Option (Int⊕(Int⊕Unit))} {P Q:α→Prop} (hl:ln s≤1000000000000)
  (hB:∀ i o,B i=some o→(i<ln s∧∃ x,gx (Sl.es s) i=some x∧((o=.inr (.inl i)∧Q x)∨(o=.inl (wi (i+1))∧P x)))∨(¬ i<ln s∧o=.inr (.inr ())))
  {o} (h:loopF (fun (i:Int)=>B i) 0=some o):(∃ i x,0≤i∧o=.inl i∧gx (Sl.es s) i=some x∧Q x)∨(o=.inr ()∧∀ j x,gx (Sl.es s) j=some x→P x):=by
 exact loopF_inv (I:=fun i=>0≤i∧∀ j,j<i→∀ x,gx (Sl.es s) j=some x→P x) (T:=fun o=>(∃ i x,0≤i∧o=.inl i∧gx (Sl.es s) i=some x∧Q x)∨(o=.inr ()∧∀ j x,gx (Sl.es s) j=some x→P x)) h ⟨Int.le_refl _,fun j a x em=>by have:=(gx_pos em).1;omega⟩ (by
  rintro i o ⟨h0,hI⟩ hb
  rcases hB i o hb with ⟨c,x,e,⟨rfl,q⟩|⟨rfl,k⟩⟩|⟨c,rfl⟩
  ·exact .inl ⟨i,x,h0,rfl,e,q⟩
  ·have e1:wi (i+1)=i+1:=wi_id (by omega) (by omega)
   rw[e1]
   refine⟨by omega,fun j a y ey=>?_⟩
   by_cases hj:j=i
   ·subst hj;cases e.symm.trans ey;exact k
   ·exact hI j (by omega) y ey
  ·refine .inr ⟨rfl,fun j x ex=>hI j ?_ x ex⟩
   have:=(gx_pos ex).2
   simp only[ln]at c
   omega)
end Go.Proofs.YtnjmaohblihppaaGreatDoor
namespace Go.Proofs.YtnjmaohblihppaaGreatDoor
open Go.PE Go.RowKit
set_option maxRecDepth 100000
inductive Obj (s:G27Score):G33ID→Prop
 |part {i p}:gx (Sl.es s.fParts) i=some p→Obj s p.fID
 |staff {i p k t}:gx (Sl.es s.fParts) i=some p→gx (Sl.es p.fStaves) k=some t→Obj s t.fID
 |meas {i m}:gx (Sl.es s.fMeasures) i=some m→Obj s m.fID
 |event {i m c x k v e y}:gx (Sl.es s.fMeasures) i=some m→gx (Sl.es m.fCells) c=some x→gx (Sl.es x.fVoices) k=some v→gx (Sl.es v.fEvents) e=some y→Obj s y.fID
 |span {i p}:gx (Sl.es s.fSpanners) i=some p→Obj s p.fID
def Al (s:G27Score) (n:Nat) (l:List G33ID):Prop:=n≤l.length∧∀ x∈l,Obj s x
theorem Al.mono {s n m l} (h:Al s n l) (k:m≤n):Al s m l:=⟨by have:=h.1;omega,h.2⟩
theorem Al.r14 {s n l a b c d e f g x q r} (h:Al s n l) (k:Obj s x) (hr:R14_0_1 a b c d e f g x q l=some r):Al s (n+1) r:=by
 unfold R14_0_1 at hr
 obtain⟨w,hw,hr⟩:=bind_some hr
 cases hr
 unfold gapp at hw
 split at hw
 ·cases hw
  refine⟨by have:=h.1;simp[Sl.es];omega,fun y hy=>?_⟩
  rcases List.mem_append.1 hy with hy|hy
  ·exact h.2 y hy
  ·have:y=x:=by simpa [Sl.es] using hy
   subst this
   exact k
 ·cases hw
def On {σ τ:Type} (A:σ→Prop) (B:τ→Prop) (o:σ⊕τ):Prop:=match o with
 |.inl a=>A a
 |.inr b=>B b
theorem loop_on {σ τ:Type} {body:σ→Option (σ⊕τ)} {I:σ→Prop} {T:τ→Prop} {s:σ} {t:τ} (h:loopF body s=some t) (hI:I s) (step:∀ s o,I s→body s=some o→On I T o):T t:=
 loopF_inv h hI fun s o hi hb=>by
  have k:=step s o hi hb
  cases o with
  |inl a=>exact k
  |inr b=>exact k
theorem b96 {V s m c v e l n o} (h:LF78_1_96 V s m c v e l=some o) (k:Al s n l):On (fun r=>Al s n r.2) (fun r=>Al s n r) o:=by
 unfold LF78_1_96 at h
 rcases cor h with ⟨_,h⟩|⟨_,h⟩
 ·obtain⟨_,h1,h⟩:=bind_some h
  obtain⟨_,h2,h⟩:=bind_some h
  obtain⟨_,h3,h⟩:=bind_some h
  obtain⟨_,h4,h⟩:=bind_some h
  obtain⟨r,hr,h⟩:=bind_some h
  cases h
  exact(k.r14 (.event h1 h2 h3 h4) hr).mono (by omega)
 ·cases h
  exact k
theorem b79 {C s m c v l n o} (h:LF78_1_79 C s m c v l=some o) (k:Al s n l):On (fun r=>Al s n r.2) (fun r=>Al s n r) o:=by
 unfold LF78_1_79 at h
 rcases cor h with ⟨_,h⟩|⟨_,h⟩
 ·obtain⟨_,h1,h⟩:=bind_some h
  obtain⟨_,h2,h⟩:=bind_some h
  obtain⟨_,h3,h⟩:=bind_some h
  obtain⟨r,hr,h⟩:=bind_some h
  have q:=loop_on (I:=fun r=>Al s n r.2) (T:=fun r=>Al s n r) hr k fun st o hi hb=>b96 hb hi
  unfold JF78_1_82 at h
  cases h
  exact q
 ·cases h
  exact k
theorem b64 {M s m c l n o} (h:LF78_1_64 M s m c l=some o) (k:Al s n l):On (fun r=>Al s n r.2) (fun r=>Al s n r) o:=by
 unfold LF78_1_64 at h
 rcases cor h with ⟨_,h⟩|⟨_,h⟩
 ·obtain⟨_,h1,h⟩:=bind_some h
  obtain⟨_,h2,h⟩:=bind_some h
  obtain⟨r,hr,h⟩:=bind_some h
  have q:=loop_on (I:=fun r=>Al s n r.2) (T:=fun r=>Al s n r) hr k fun st o hi hb=>b79 hb hi
  unfold JF78_1_67 at h
  cases h
  exact q
 ·cases h
  exact k
theorem b37 {s m l n o} (h:LF78_1_37 s m l=some o) (h0:0≤m) (hl:0<ln s.fMeasures∧ln s.fMeasures≤1000) (k:Al s (if m=0 then n else n+1) l):On (fun r=>0≤r.1∧Al s (if r.1=0 then n else n+1) r.2) (fun r=>Al s (n+1) r) o:=by
 unfold LF78_1_37 at h
 rcases cor h with ⟨c,h⟩|⟨c,h⟩
 ·have c:=of_decide_eq_true c
  obtain⟨_,h1,h⟩:=bind_some h
  obtain⟨r,hr,h⟩:=bind_some h
  have k1:=k.r14 (.meas h1) hr
  obtain⟨_,h2,h⟩:=bind_some h
  obtain⟨w,hw,h⟩:=bind_some h
  have q:=loop_on (I:=fun r=>Al s _ r.2) (T:=fun r=>Al s _ r) hw k1 fun st o hi hb=>b64 hb hi
  unfold JF78_1_40 at h
  cases h
  have e:wi (m+1)=m+1:=wi_id (by omega) (by omega)
  show 0≤wi (m+1)∧Al s (if wi (m+1)=0 then n else n+1) w
  rw[e,if_neg (by omega)]
  refine⟨by omega,q.mono ?_⟩
  split<;>omega
 ·have c:=of_decide_eq_false c
  cases h
  rw[if_neg (by omega)]at k
  exact k
theorem b14 {s i l n o} (h:LF78_1_14 s i l=some o) (k:Al s n l):On (fun r=>Al s n r.2) (fun r=>Al s n r) o:=by
 unfold LF78_1_14 at h
 rcases cor h with ⟨_,h⟩|⟨_,h⟩
 ·obtain⟨_,h1,h⟩:=bind_some h
  obtain⟨r,hr,h⟩:=bind_some h
  cases h
  exact(k.r14 (.span h1) hr).mono (by omega)
 ·cases h
  exact k
theorem b156 {p s i a b l n o} (h:LF78_1_156 p s i a b l=some o) (hp:gx (Sl.es s.fParts) i=some p) (h0:0≤b) (hl:0<ln p.fStaves∧ln p.fStaves≤1000) (k:Al s (if b=0 then n else n+1) l):On (fun r=>0≤r.2.1∧Al s (if r.2.1=0 then n else n+1) r.2.2) (fun r=>Al s (n+1) r.2) o:=by
 unfold LF78_1_156 at h
 rcases cor h with ⟨c,h⟩|⟨c,h⟩
 ·have c:=of_decide_eq_true c
  obtain⟨_,h1,h⟩:=bind_some h
  obtain⟨_,h2,h⟩:=bind_some h
  obtain⟨r,hr,h⟩:=bind_some h
  have k1:=k.r14 (.staff h1 h2) hr
  cases h
  have e:wi (b+1)=b+1:=wi_id (by omega) (by omega)
  show 0≤wi (b+1)∧Al s (if wi (b+1)=0 then n else n+1) r
  rw[e,if_neg (by omega)]
  refine⟨by omega,k1.mono ?_⟩
  split<;>omega
 ·have c:=of_decide_eq_false c
  cases h
  rw[if_neg (by omega)]at k
  exact k
theorem b126 {s a i l n o} (h:LF78_1_126 s a i l=some o) (h0:0≤i) (hl:0<ln s.fParts∧ln s.fParts≤1000) (hs:∀ j p,gx (Sl.es s.fParts) j=some p→0<ln p.fStaves∧ln p.fStaves≤1000) (k:Al s (if i=0 then n else n+2) l):On (fun r=>0≤r.2.1∧Al s (if r.2.1=0 then n else n+2) r.2.2) (fun r=>Al s (n+2) r) o:=by
 unfold LF78_1_126 at h
 rcases cor h with ⟨c,h⟩|⟨c,h⟩
 ·have c:=of_decide_eq_true c
  obtain⟨_,h1,h⟩:=bind_some h
  obtain⟨r,hr,h⟩:=bind_some h
  have k1:=k.r14 (.part h1) hr
  obtain⟨p,h2,h⟩:=bind_some h
  obtain⟨w,hw,h⟩:=bind_some h
  have q:=loop_on (I:=fun r=>0≤r.2.1∧Al s (if r.2.1=0 then (if i=0 then n else n+2)+1 else (if i=0 then n else n+2)+1+1) r.2.2) (T:=fun r=>Al s ((if i=0 then n else n+2)+1+1) r.2) hw ⟨Int.le_refl _,by simpa using k1⟩ fun st o hi hb=>b156 hb h2 hi.1 (hs _ _ h2) hi.2
  unfold JF78_1_130 at h
  cases h
  have e:wi (i+1)=i+1:=wi_id (by omega) (by omega)
  show 0≤wi (i+1)∧Al s (if wi (i+1)=0 then n else n+2) w.2
  rw[e,if_neg (by omega)]
  refine⟨by omega,q.mono ?_⟩
  split<;>omega
 ·have c:=of_decide_eq_false c
  cases h
  rw[if_neg (by omega)]at k
  exact k
theorem ids_obj {s l} (h:F14 s=some l) (hp:0<ln s.fParts∧ln s.fParts≤1000) (hs:∀ j p,gx (Sl.es s.fParts) j=some p→0<ln p.fStaves∧ln p.fStaves≤1000) (hm:0<ln s.fMeasures∧ln s.fMeasures≤1000):3≤ln l∧∀ x∈Sl.es l,Obj s x:=by
 unfold F14 at h
 obtain⟨w,hw,h⟩:=bind_some h
 unfold JF14_2 at h
 cases h
 rw[mkSl_es]
 have key:Al s 3 w:=by
  unfold F78_1 at hw
  obtain⟨l1,g1,hw⟩:=bind_some hw
  have q1:=loop_on (I:=fun r=>0≤r.2.1∧Al s (if r.2.1=0 then 0 else 0+2) r.2.2) (T:=fun r=>Al s (0+2) r) g1 ⟨Int.le_refl _,by simp[Al]⟩ fun st o hi hb=>b126 hb hi.1 hp hs hi.2
  unfold JF78_1_4 at hw
  obtain⟨l2,g2,hw⟩:=bind_some hw
  have q2:=loop_on (I:=fun r=>0≤r.1∧Al s (if r.1=0 then 2 else 2+1) r.2) (T:=fun r=>Al s (2+1) r) g2 ⟨Int.le_refl _,by simpa using q1⟩ fun st o hi hb=>b37 hb hi.1 hm hi.2
  unfold JF78_1_6 at hw
  obtain⟨l3,g3,hw⟩:=bind_some hw
  have q3:=loop_on (I:=fun r=>Al s 3 r.2) (T:=fun r=>Al s 3 r) g3 q2 fun st o hi hb=>b14 hb hi
  cases hw
  exact q3
 refine⟨?_,key.2⟩
 have:=key.1
 rw[ln_mk]
 omega
end Go.Proofs.YtnjmaohblihppaaGreatDoor
namespace Go.Proofs.YtnjmaohblihppaaGreatDoor
open Go.PE Go.RowKit
set_option maxRecDepth 100000
theorem seek {α σ τ ρ:Type} {l:Sl α} {P:α→Prop} {Ht:τ→Prop} {B:σ→Option (σ⊕(τ⊕ρ))} (idx:σ→Int) {st:σ} {t:τ⊕ρ} (h:loopF B st=some t) (h0:idx st=0)
  (hB:∀ st o,0≤idx st→B st=some o→On (fun r=>idx r=idx st+1∧∀ y,gx (Sl.es l) (idx st)=some y→P y) (On Ht fun _=>ln l≤idx st) o):On Ht (fun _=>∀ j y,gx (Sl.es l) j=some y→P y) t:=
 loop_on (I:=fun st=>0≤idx st∧∀ j y,j<idx st→gx (Sl.es l) j=some y→P y) h ⟨by omega,fun j y hj hy=>by have:=(gx_pos hy).1;omega⟩ fun st o hi hb=>by
  have k:=hB st o hi.1 hb
  rcases o with r|r|r
  ·refine⟨by have:=hi.1;have:=k.1;omega,fun j y hj hy=>?_⟩
   have e:=k.1
   by_cases c:j=idx st
   ·subst c;exact k.2 y hy
   ·exact hi.2 j y (by omega) hy
  ·exact k
  ·exact fun j y hy=>hi.2 j y (by have:=(gx_pos hy).2;have k:ln l≤idx st:=k;unfold ln at k;omega) hy
theorem r15 {a b c d e f g i s x h1 h2 h3 h4 h5 h6 h7 h8 r} (h:R15_0_1 a b c d e f g i s x h1 h2 h3 h4 h5 h6 h7 h8=some r):(r.2.2.2.2.2.2.2.2=true∧r.2.2.2.2.2.2.2.1=true)∨(r.2.2.2.2.2.2.2.2=false∧i≠x):=by
 unfold R15_0_1 at h
 rcases cor h with ⟨_,h⟩|⟨c,h⟩
 ·cases h
  exact .inl ⟨rfl,rfl⟩
 ·cases h
  refine .inr ⟨rfl,?_⟩
  rintro rfl
  simp at c
def H8 (t:Int×Int×Int×Int×Int×Int×Int×Bool):Prop:=t.2.2.2.2.2.2.2=true
theorem s275 {V M C s m c v x i h1 h2 h3 h4 h5 h6 h7 h8 o} (g1:gx (Sl.es s.fMeasures) m=some M) (g2:gx (Sl.es M.fCells) c=some C) (g3:gx (Sl.es C.fVoices) v=some V) (hl:ln V.fEvents≤1000000) (h0:0≤i) (h:LF78_2_275 V s m c v x i h1 h2 h3 h4 h5 h6 h7 h8=some o):
  On (fun r=>r.1=i+1∧∀ y:G49Event,gx (Sl.es V.fEvents) i=some y→y.fID≠x) (On H8 fun _=>ln V.fEvents≤i) o:=by
 unfold LF78_2_275 at h
 rcases cor h with ⟨a,h⟩|⟨a,h⟩
 ·have a:=of_decide_eq_true a
  obtain⟨_,k1,h⟩:=bind_some h
  cases g1.symm.trans k1
  obtain⟨_,k2,h⟩:=bind_some h
  cases g2.symm.trans k2
  obtain⟨_,k3,h⟩:=bind_some h
  cases g3.symm.trans k3
  obtain⟨y,k4,h⟩:=bind_some h
  obtain⟨r,hr,h⟩:=bind_some h
  rcases r15 hr with ⟨e1,e2⟩|⟨e1,e2⟩
  ·rw[e1,cond_true]at h
   cases h
   exact e2
  ·rw[e1,cond_false]at h
   cases h
   exact⟨wi_id (by omega) (by omega),fun z hz=>by cases k4.symm.trans hz;exact e2⟩
 ·cases h
  have:=of_decide_eq_false a
  show ln V.fEvents≤i
  omega
theorem s229 {M C s m c x i h1 h2 h3 h4 h5 h6 h7 h8 o} (g1:gx (Sl.es s.fMeasures) m=some M) (g2:gx (Sl.es M.fCells) c=some C) (hx:okG69Cell C) (h0:0≤i) (h:LF78_2_229 C s m c x i h1 h2 h3 h4 h5 h6 h7 h8=some o):
  On (fun r=>r.1=i+1∧∀ V:G73Voice,gx (Sl.es C.fVoices) i=some V→∀ e y,gx (Sl.es V.fEvents) e=some y→y.fID≠x) (On H8 fun _=>ln C.fVoices≤i) o:=by
 unfold LF78_2_229 at h
 have hl:=hx.fVoices.le
 rcases cor h with ⟨a,h⟩|⟨a,h⟩
 ·have a:=of_decide_eq_true a
  obtain⟨_,k1,h⟩:=bind_some h
  cases g1.symm.trans k1
  obtain⟨_,k2,h⟩:=bind_some h
  cases g2.symm.trans k2
  obtain⟨V,k3,h⟩:=bind_some h
  obtain⟨r,hr,h⟩:=bind_some h
  have hv:=(hx.fVoices.2 V (gx_mem k3)).fEvents.le
  have q:=seek (l:=V.fEvents) (P:=fun y=>y.fID≠x) (Ht:=H8) (fun st=>st.1) hr rfl fun st o a b=>s275 g1 g2 k3 (by omega) a b
  rcases r with r|r
  ·cases h
   exact q
  ·unfold JF78_2_239 at h
   cases h
   exact⟨wi_id (by omega) (by omega),fun z hz=>by cases k3.symm.trans hz;exact q⟩
 ·cases h
  have:=of_decide_eq_false a
  show ln C.fVoices≤i
  omega
theorem s185 {M s m x i h1 h2 h3 h4 h5 h6 h7 h8 o} (g1:gx (Sl.es s.fMeasures) m=some M) (hx:okG64Measure M) (h0:0≤i) (h:LF78_2_185 M s m x i h1 h2 h3 h4 h5 h6 h7 h8=some o):
  On (fun r=>r.1=i+1∧∀ C:G69Cell,gx (Sl.es M.fCells) i=some C→∀ v V,gx (Sl.es C.fVoices) v=some V→∀ e y,gx (Sl.es V.fEvents) e=some y→y.fID≠x) (On H8 fun _=>ln M.fCells≤i) o:=by
 unfold LF78_2_185 at h
 have hl:=hx.fCells.le
 rcases cor h with ⟨a,h⟩|⟨a,h⟩
 ·have a:=of_decide_eq_true a
  obtain⟨_,k1,h⟩:=bind_some h
  cases g1.symm.trans k1
  obtain⟨C,k2,h⟩:=bind_some h
  obtain⟨r,hr,h⟩:=bind_some h
  have hc:=hx.fCells.2 C (gx_mem k2)
  have q:=seek (l:=C.fVoices) (P:=fun V=>∀ e y,gx (Sl.es V.fEvents) e=some y→y.fID≠x) (Ht:=H8) (fun st=>st.1) hr rfl fun st o a b=>s229 g1 k2 hc a b
  rcases r with r|r
  ·cases h
   exact q
  ·unfold JF78_2_195 at h
   cases h
   exact⟨wi_id (by omega) (by omega),fun z hz=>by cases k2.symm.trans hz;exact q⟩
 ·cases h
  have:=of_decide_eq_false a
  show ln M.fCells≤i
  omega
def NM (x:G33ID) (M:G64Measure):Prop:=M.fID≠x∧∀ c C,gx (Sl.es M.fCells) c=some C→∀ v V,gx (Sl.es C.fVoices) v=some V→∀ e y,gx (Sl.es V.fEvents) e=some y→y.fID≠x
theorem s120 {s x i h1 h2 h3 h4 h5 h6 h7 h8 o} (hs:okG27Score s) (h0:0≤i) (h:LF78_2_120 s x i h1 h2 h3 h4 h5 h6 h7 h8=some o):
  On (fun r=>r.1=i+1∧∀ M,gx (Sl.es s.fMeasures) i=some M→NM x M) (On H8 fun _=>ln s.fMeasures≤i) o:=by
 unfold LF78_2_120 at h
 have hl:=hs.fMeasures.le
 rcases cor h with ⟨a,h⟩|⟨a,h⟩
 ·have a:=of_decide_eq_true a
  obtain⟨M,k1,h⟩:=bind_some h
  obtain⟨r,hr,h⟩:=bind_some h
  rcases r15 hr with ⟨e1,e2⟩|⟨e1,e2⟩
  ·rw[e1,cond_true]at h
   cases h
   exact e2
  ·rw[e1,cond_false]at h
   obtain⟨M2,k2,h⟩:=bind_some h
   cases k1.symm.trans k2
   obtain⟨w,hw,h⟩:=bind_some h
   have q:=seek (l:=M.fCells) (P:=fun C=>∀ v V,gx (Sl.es C.fVoices) v=some V→∀ e y,gx (Sl.es V.fEvents) e=some y→y.fID≠x) (Ht:=H8) (fun st=>st.1) hw rfl fun st o a b=>s185 k1 (hs.fMeasures.2 M (gx_mem k1)) a b
   rcases w with w|w
   ·cases h
    exact q
   ·unfold JF78_2_130 at h
    cases h
    exact⟨wi_id (by omega) (by omega),fun z hz=>by cases k1.symm.trans hz;exact⟨e2,q⟩⟩
 ·cases h
  have:=of_decide_eq_false a
  show ln s.fMeasures≤i
  omega
theorem s66 {s x i h1 h2 h3 h4 h5 h6 h7 h8 o} (hs:okG27Score s) (h0:0≤i) (h:LF78_2_66 s x i h1 h2 h3 h4 h5 h6 h7 h8=some o):
  On (fun r=>r.1=i+1∧∀ p,gx (Sl.es s.fSpanners) i=some p→p.fID≠x) (On H8 fun _=>ln s.fSpanners≤i) o:=by
 unfold LF78_2_66 at h
 have hl:=hs.fSpanners.le
 rcases cor h with ⟨a,h⟩|⟨a,h⟩
 ·have a:=of_decide_eq_true a
  obtain⟨M,k1,h⟩:=bind_some h
  obtain⟨r,hr,h⟩:=bind_some h
  rcases r15 hr with ⟨e1,e2⟩|⟨e1,e2⟩
  ·rw[e1,cond_true]at h
   cases h
   exact e2
  ·rw[e1,cond_false]at h
   cases h
   exact⟨wi_id (by omega) (by omega),fun z hz=>by cases k1.symm.trans hz;exact e2⟩
 ·cases h
  have:=of_decide_eq_false a
  show ln s.fSpanners≤i
  omega
theorem s404 {p s i x a j h1 h2 h3 h4 h5 h6 h7 h8 o} (g:gx (Sl.es s.fParts) i=some p) (hp:okG89Part p) (h0:0≤j) (h:LF78_2_404 p s i x a j h1 h2 h3 h4 h5 h6 h7 h8=some o):
  On (fun r=>r.2.1=j+1∧∀ t,gx (Sl.es p.fStaves) j=some t→t.fID≠x) (On H8 fun _=>ln p.fStaves≤j) o:=by
 unfold LF78_2_404 at h
 have hl:=hp.fStaves.le
 rcases cor h with ⟨a,h⟩|⟨a,h⟩
 ·have a:=of_decide_eq_true a
  obtain⟨_,k1,h⟩:=bind_some h
  cases g.symm.trans k1
  obtain⟨t,k2,h⟩:=bind_some h
  obtain⟨r,hr,h⟩:=bind_some h
  rcases r15 hr with ⟨e1,e2⟩|⟨e1,e2⟩
  ·rw[e1,cond_true]at h
   cases h
   exact e2
  ·rw[e1,cond_false]at h
   cases h
   exact⟨wi_id (by omega) (by omega),fun z hz=>by cases k2.symm.trans hz;exact e2⟩
 ·cases h
  have:=of_decide_eq_false a
  show ln p.fStaves≤j
  omega
def NP (x:G33ID) (p:G89Part):Prop:=p.fID≠x∧∀ k t,gx (Sl.es p.fStaves) k=some t→t.fID≠x
theorem s336 {s x a i h1 h2 h3 h4 h5 h6 h7 h8 o} (hs:okG27Score s) (h0:0≤i) (h:LF78_2_336 s x a i h1 h2 h3 h4 h5 h6 h7 h8=some o):
  On (fun r=>r.2.1=i+1∧∀ p,gx (Sl.es s.fParts) i=some p→NP x p) (On H8 fun _=>ln s.fParts≤i) o:=by
 unfold LF78_2_336 at h
 have hl:=hs.fParts.le
 rcases cor h with ⟨a,h⟩|⟨a,h⟩
 ·have a:=of_decide_eq_true a
  obtain⟨M,k1,h⟩:=bind_some h
  obtain⟨r,hr,h⟩:=bind_some h
  rcases r15 hr with ⟨e1,e2⟩|⟨e1,e2⟩
  ·rw[e1,cond_true]at h
   cases h
   exact e2
  ·rw[e1,cond_false]at h
   obtain⟨M2,k2,h⟩:=bind_some h
   cases k1.symm.trans k2
   obtain⟨w,hw,h⟩:=bind_some h
   have q:=seek (l:=M.fStaves) (P:=fun t=>t.fID≠x) (Ht:=H8) (fun st=>st.2.1) hw rfl fun st o a b=>s404 k1 (hs.fParts.2 M (gx_mem k1)) a b
   rcases w with w|w
   ·cases h
    exact q
   ·unfold JF78_2_347 at h
    cases h
    exact⟨wi_id (by omega) (by omega),fun z hz=>by cases k1.symm.trans hz;exact⟨e2,q⟩⟩
 ·cases h
  have:=of_decide_eq_false a
  show ln s.fParts≤i
  omega
theorem f15 {s x p b} (hs:okG27Score s) (hx:Obj s x) (hn:1≤x.fNumber) (h:F15 s x=some (p,b)):b=true:=by
 unfold F15 at h
 rcases cor h with ⟨c,_⟩|⟨_,h⟩
 ·simp only[Bool.and_true,Bool.and_eq_true,beq_iff_eq]at c
  omega
 obtain⟨w,hw,h⟩:=bind_some h
 have key:w.2.2.2.2.2.2.2.2=true∧w.2.2.2.2.2.2.2.1=true:=by
  unfold F78_2 at hw
  obtain⟨o,ho,hw⟩:=bind_some hw
  have q1:=seek (l:=s.fParts) (P:=NP x) (Ht:=H8) (fun st=>st.2.1) ho rfl fun st o a b=>s336 hs a b
  rcases o with o|o
  ·cases hw
   exact⟨rfl,q1⟩
  unfold JF78_2_27 at hw
  obtain⟨o,ho,hw⟩:=bind_some hw
  have q2:=seek (l:=s.fMeasures) (P:=NM x) (Ht:=H8) (fun st=>st.1) ho rfl fun st o a b=>s120 hs a b
  rcases o with o|o
  ·cases hw
   exact⟨rfl,q2⟩
  unfold JF78_2_36 at hw
  obtain⟨o,ho,hw⟩:=bind_some hw
  have q3:=seek (l:=s.fSpanners) (P:=fun p=>p.fID≠x) (Ht:=H8) (fun st=>st.1) ho rfl fun st o a b=>s66 hs a b
  rcases o with o|o
  ·cases hw
   exact⟨rfl,q3⟩
  exfalso
  have q1:∀ j y,gx (Sl.es s.fParts) j=some y→NP x y:=q1
  have q2:∀ j y,gx (Sl.es s.fMeasures) j=some y→NM x y:=q2
  have q3:∀ j y,gx (Sl.es s.fSpanners) j=some y→y.fID≠x:=q3
  cases hx with
  |part g=>exact(q1 _ _ g).1 rfl
  |staff g k=>exact(q1 _ _ g).2 _ _ k rfl
  |meas g=>exact(q2 _ _ g).1 rfl
  |event g1 g2 g3 g4=>exact(q2 _ _ g1).2 _ _ g2 _ _ g3 _ _ g4 rfl
  |span g=>exact q3 _ _ g rfl
 rw[key.1,cond_true,key.2]at h
 cases h
 rfl
end Go.Proofs.YtnjmaohblihppaaGreatDoor
namespace Go.Proofs.YtnjmaohblihppaaGreatDoor
open Go.PE Go.RowKit
set_option maxRecDepth 100000
theorem f992 {b i j s r l} (h:F99_2 b i j s r l=some []):b=false∧l=[]:=by
 unfold F99_2 at h
 cases b with
 |false=>cases h;exact⟨rfl,rfl⟩
 |true=>
  rw[cond_true]at h
  obtain⟨q,hq,h⟩:=bind_some h
  cases h
  unfold gapp at hq
  split at hq
  ·have e:=Option.some.inj hq
   exact nomatch (List.append_eq_nil_iff.1 e).2
  ·cases hq
theorem f52 {a b c} (h:F52 a b c=some true):b≤a∧a≤c:=by
 unfold F52 at h
 rcases cor h with ⟨k,h⟩|⟨_,h⟩
 ·exact⟨of_decide_eq_true k,of_decide_eq_true (Option.some.inj h)⟩
 ·cases h
theorem not_t {b:Bool} (h:(!b)=false):b=true:=by cases b<;>first|rfl|cases h
theorem m61 {s:G27Score} (hs:okG27Score s) (h:F61_1 s 1 []=some []):(1≤ln s.fParts∧1≤ln s.fMeasures)∧∀ j p,gx (Sl.es s.fParts) j=some p→1≤ln p.fStaves:=by
 unfold F61_1 at h
 obtain⟨l1,h1,h⟩:=bind_some h
 unfold JF61_1_5 at h
 obtain⟨l2,h2,h⟩:=bind_some h
 have k7:l2=[]∧1≤ln s.fParts∧1≤ln s.fMeasures:=by
  unfold JF61_1_7 at h
  obtain⟨_,_,h⟩:=bind_some h
  rcases cor h with ⟨_,h⟩|⟨_,h⟩
  ·obtain⟨_,g,h⟩:=bind_some h
   cases h
   exact nomatch (f992 g).1
  obtain⟨_,g1,h⟩:=bind_some h
  rcases cor h with ⟨_,h⟩|⟨c1,h⟩
  ·obtain⟨_,g,h⟩:=bind_some h
   cases h
   exact nomatch (f992 g).1
  obtain⟨_,g2,h⟩:=bind_some h
  rcases cor h with ⟨_,h⟩|⟨c2,h⟩
  ·obtain⟨_,g,h⟩:=bind_some h
   cases h
   exact nomatch (f992 g).1
  rw[not_t c1]at g1
  rw[not_t c2]at g2
  rcases cor h with ⟨_,h⟩|⟨_,h⟩
  ·obtain⟨_,g,h⟩:=bind_some h
   cases h
   exact nomatch (f992 g).1
  ·obtain⟨_,g,h⟩:=bind_some h
   cases h
   exact⟨(f992 g).2,(f52 g1).1,(f52 g2).1⟩
 have k5:l1=[]:=by
  refine(each_inv (s:=s.fMeasures) (P:=fun (_:Int) (_:G64Measure)=>True) (by have:=hs.fMeasures.le;omega) ?_ h2 k7.1).1
  intro i l o hb
  unfold LF61_1_65 at hb
  have key:∀ {m b o},JF61_1_72 m s 1 l i b=some o→∃ l',o=.inl (wi (i+1),l')∧(l'=[]→l=[]):=by
   intro m b o h
   unfold JF61_1_72 at h
   obtain⟨_,_,h⟩:=bind_some h
   unfold JF61_1_74 at h
   obtain⟨_,g,h⟩:=bind_some h
   unfold JF61_1_68 at h
   cases h
   exact⟨_,rfl,fun e=>by subst e;exact(f99 g).2⟩
  rcases cor hb with ⟨c,h⟩|⟨c,h⟩
  ·obtain⟨m,em,h⟩:=bind_some h
   obtain⟨_,_,h⟩:=bind_some h
   have:∃ l',o=.inl (wi (i+1),l')∧(l'=[]→l=[]):=by rcases cor h with ⟨_,h⟩|⟨_,h⟩<;>exact key h
   obtain⟨l',rfl,k⟩:=this
   exact .inl ⟨of_decide_eq_true c,m,l',em,rfl,fun e=>⟨k e,trivial⟩⟩
  ·cases h
   exact .inr ⟨of_decide_eq_false c,rfl⟩
 refine⟨k7.2,(each_inv (P:=fun (_:Int) (p:G89Part)=>1≤ln p.fStaves) (by have:=hs.fParts.le;omega) ?_ h1 k5).2⟩
 intro i l o hb
 unfold LF61_1_122 at hb
 rcases cor hb with ⟨c,h⟩|⟨c,h⟩
 ·obtain⟨p,ep,h⟩:=bind_some h
  obtain⟨_,_,h⟩:=bind_some h
  have c:=of_decide_eq_true c
  rcases cor h with ⟨_,h⟩|⟨_,h⟩
  ·obtain⟨w,g,h⟩:=bind_some h
   cases h
   exact .inl ⟨c,p,w,ep,rfl,fun e=>by subst e;exact nomatch (f99 g).1⟩
  obtain⟨_,g1,h⟩:=bind_some h
  rcases cor h with ⟨_,h⟩|⟨c1,h⟩
  ·obtain⟨w,g,h⟩:=bind_some h
   cases h
   exact .inl ⟨c,p,w,ep,rfl,fun e=>by subst e;exact nomatch (f99 g).1⟩
  rw[not_t c1]at g1
  obtain⟨_,_,h⟩:=bind_some h
  obtain⟨w,g,h⟩:=bind_some h
  cases h
  exact .inl ⟨c,p,w,ep,rfl,fun e=>by subst e;exact⟨(f99 g).2,(f52 g1).1⟩⟩
 ·cases h
  exact .inr ⟨of_decide_eq_false c,rfl⟩
theorem loop_back {σ τ σ' τ':Type} {A:σ→Option (σ⊕τ)} {B:σ'→Option (σ'⊕τ')} (f:σ→σ') (G:σ→Prop) {Gt:τ→Prop} {u:τ'}
  (hi:∀ s s',A s=some (.inl s')→G s'→G s∧B (f s)=some (.inl (f s')))
  (hr:∀ s t,A s=some (.inr t)→Gt t→G s∧B (f s)=some (.inr u)) {s:σ} {t:τ} (h:loopF A s=some t) (ht:Gt t):G s∧loopF B (f s)=some u:=by
 unfold loopF at h ⊢
 generalize 18446744073709551616=n at h ⊢
 induction n generalizing s with
 |zero=>cases h
 |succ n ih=>
  rw[iterO]at h ⊢
  cases hb:A s with
  |none=>rw[hb]at h;cases h
  |some o=>
   rw[hb]at h
   cases o with
   |inl s'=>
    have k:=ih h
    have q:=hi s s' hb k.1
    rw[q.2]
    exact⟨q.1,k.2⟩
   |inr t'=>
    cases h
    have q:=hr s t hb ht
    rw[q.2]
    exact⟨q.1,rfl⟩
theorem id_step {l s i v m o} (h:LF62_1_44 l s 2 i v m=some o):On (fun r=>r.2.1=[]→v=[]∧i<ln l∧∃ x n,gx (Sl.es l) i=some x∧1≤x.fNumber∧gmGet keq33 m x false=some false∧F16 s x.fSite=some n∧¬ x.fNumber>n∧r.1=wi (i+1)∧r.2.2=gmPut keq33 m x true) (fun r=>v=r∧¬ i<ln l) o:=by
 unfold LF62_1_44 at h
 rcases cor h with ⟨c,h⟩|⟨c,h⟩
 ·have c:=of_decide_eq_true c
  obtain⟨x,ex,h⟩:=bind_some h
  obtain⟨b,eb,h⟩:=bind_some h
  rcases cor h with ⟨_,h⟩|⟨c1,h⟩
  ·obtain⟨_,g,h⟩:=bind_some h
   cases h
   exact fun e=>by have e:_=[]:=e;subst e;exact nomatch (f99 g).1
  rw[not_t c1]at eb
  obtain⟨z,ez,h⟩:=bind_some h
  rcases cor h with ⟨_,h⟩|⟨c2,h⟩
  ·obtain⟨_,g,h⟩:=bind_some h
   cases h
   exact fun e=>by have e:_=[]:=e;subst e;exact nomatch (f99 g).1
  subst c2
  obtain⟨n,en,h⟩:=bind_some h
  obtain⟨_,g,h⟩:=bind_some h
  cases h
  refine fun e=>?_
  have e:_=[]:=e
  subst e
  obtain⟨k1,k2⟩:=f99 g
  refine⟨k2,c,x,n,ex,?_,ez,en,of_decide_eq_false k1,rfl,rfl⟩
  unfold F102 at eb
  obtain⟨_,_,eb⟩:=bind_some eb
  rcases cor eb with ⟨_,eb⟩|⟨_,eb⟩
  ·obtain⟨_,g,eb⟩:=bind_some eb
   cases eb
   exact(f52 g).1
  ·cases eb
 ·cases h
  exact⟨rfl,of_decide_eq_false c⟩
theorem m62 {s l} (h:F62_1 s 2 []=some []) (hl:F14 s=some l):∃ r,loopF (fun (x:Int×List G35Violation×GM G33ID Bool)=>match x with|(i,v,m)=>LF62_1_44 l s 2 i v m) (0,[],⟨[],[],0⟩)=some r∧r=[]:=by
 unfold F62_1 at h
 rw[hl]at h
 simp only[Option.bind_some]at h
 obtain⟨r,hr,h⟩:=bind_some h
 refine⟨r,hr,?_⟩
 unfold JF62_1_5 at h
 obtain⟨_,_,h⟩:=bind_some h
 unfold JF62_1_7 at h
 obtain⟨_,g,h⟩:=bind_some h
 cases h
 exact(f992 g).2
end Go.Proofs.YtnjmaohblihppaaGreatDoor
namespace Go.Proofs.YtnjmaohblihppaaGreatDoor
open Go.PE Go.RowKit
set_option maxRecDepth 100000
theorem law4 {s:G27Score} (hb:big27 s):F4 s=some true:=by
 unfold F4 F10
 simp only[Option.bind_some,Bool.not_true,cond_false]
 have j2:JF4_2 s true=some true:=by unfold JF4_2 F10;rfl
 obtain⟨b,eb,hq⟩:=sF11 hb
 rw[eb]
 simp only[Option.bind_some]
 cases b with
 |false=>exact j2
 |true=>
  simp only[Bool.not_true,cond_false]
  have hs:=hq rfl
  obtain⟨b,ev⟩:∃ b,F13 s=some b:=by
   obtain⟨r,er,_⟩:=tF32 hs
   exact⟨_,by unfold F13;rw[er];rfl⟩
  rw[ev]
  simp only[Option.bind_some]
  cases b with
  |false=>exact j2
  |true=>
   obtain⟨r1,r2⟩:=z13 ev
   obtain⟨⟨a1,a2⟩,a3⟩:=m61 hs r1
   have lp:=hs.fParts.le
   have lm:=hs.fMeasures.le
   obtain⟨l,el,_⟩:=tF14 (v0:=s) hs
   obtain⟨n3,ob⟩:=ids_obj el (by omega) (fun j p hp=>by have:=a3 j p hp;have:=(hs.fParts.2 p (gx_mem hp)).fStaves.le;omega) (by omega)
   obtain⟨r,hr,er⟩:=m62 r2 el
   have key:=loop_back (A:=fun (x:Int×List G35Violation×GM G33ID Bool)=>match x with|(i,v,m)=>LF62_1_44 l s 2 i v m) (B:=fun (x:Int×GM G33ID Bool)=>match x with|(i,m)=>LF4_15 l s i m) (fun x=>(x.1,x.2.2)) (fun x=>x.2.1=[]) (Gt:=fun r=>r=[]) (u:=.inr ()) ?_ ?_ hr er
   ·show JF4_2 s false=some true
    unfold JF4_2
    rw[cond_false,el]
    simp only[Option.bind_some]
    rw[show loopF (fun (x:Int×GM G33ID Bool)=>match x with|(i,m)=>LF4_15 l s i m) (0,⟨[],[],0⟩)=some (.inr ()) from key.2]
    show JF4_8 l=some true
    unfold JF4_8
    rw[decide_eq_true n3]
   ·rintro⟨i,v,m⟩ ⟨i',v',m'⟩ h hv
    obtain⟨k1,c,x,n,ex,hx,em,en,hn,e1,e2⟩:=id_step (o:=.inl (i',v',m')) h hv
    refine⟨k1,?_⟩
    have e1:i'=wi (i+1):=e1
    have e2:m'=gmPut keq33 m x true:=e2
    subst e1 e2
    obtain⟨⟨p,b⟩,eb,_⟩:=tF15 (v0:=s) (v1:=x) hs
    have:=f15 hs (ob x (gx_mem ex)) hx eb
    subst this
    show LF4_15 l s i m=_
    unfold LF4_15
    rw[decide_eq_true c,cond_true,ex]
    simp only[Option.bind_some,eb,em,cond_false,Bool.not_true,en]
    unfold JF4_22
    rw[decide_eq_false hn,cond_false,ex]
    rfl
   ·rintro⟨i,v,m⟩ t h ht
    obtain⟨k1,c⟩:=id_step (o:=.inr t) h
    refine⟨k1.trans ht,?_⟩
    show LF4_15 l s i m=_
    unfold LF4_15
    rw[decide_eq_false c,cond_false]
end Go.Proofs.YtnjmaohblihppaaGreatDoor
