/- A part of the proof. -/
import Derived.Test.YtnjmaohblihppaaGreatDoorFL3
import Derived.Test.YtnjmaohblihppaaGreatDoorFRQ
import Derived.Test.YtnjmaohblihppaaGreatDoorFS
set_option linter.all false
namespace Go.Proofs.YtnjmaohblihppaaGreatDoor
open Go.PE Go.RowKit
set_option maxRecDepth 100000
theorem res_facts {l:List G35Violation} {i:Int} {x z:G35Violation} (h:Res l) (hx:gx l i=some x) (hz:gx l 0=some z):(1≤x.fRule∧x.fRule≤17)∧(z.fRule=1→x.fRule=1)∧(z.fRule≤9→x.fRule≤9):=by
 rcases h with h|h|h
 all_goals
  have a:=h.1 x (gx_mem hx)
  have b:=h.1 z (gx_mem hz)
  omega
theorem res_sorted {l:List G35Violation} {i:Int} {x y:G35Violation} (h:Res l) (hx:gx l i=some x) (hy:gx l (i-1)=some y):y.fRule≤x.fRule:=by
 have hp:l.Pairwise fun x y=>x.fRule≤y.fRule:=by rcases h with h|h|h<;>exact h.2
 obtain⟨a0,a1⟩:=gx_pos hx
 obtain⟨b0,b1⟩:=gx_pos hy
 unfold gx at hx hy
 rw[if_pos a0]at hx
 rw[if_pos b0]at hy
 obtain⟨c1,rfl⟩:=List.getElem?_eq_some_iff.1 hx
 obtain⟨c2,rfl⟩:=List.getElem?_eq_some_iff.1 hy
 exact List.pairwise_iff_getElem.1 hp _ _ c2 c1 (by omega)
theorem law3_round {v6:Sl G35Violation} {k:Int} (hr:Res (Sl.es v6)) (hl:ln v6≤200) (b0:0≤k):Tot (LF3_14 v6 k) (fun r=>match r with
  |.inl i=>i=k+1∧k<ln v6
  |.inr (.inl _)=>False
  |.inr (.inr _)=>True):=by
 unfold LF3_14
 refine t_bd (fun c=>?_) fun _=>t_some trivial
 obtain⟨x,ex⟩:=gx_at b0 (show k<((Sl.es v6).length:Int) from c)
 obtain⟨z,ez⟩:=gx_at (l:=Sl.es v6) (i:=0) (by omega) (by simp only[ln]at c;omega)
 obtain⟨f1,f2,f3⟩:=res_facts hr ex ez
 have fin:Tot (JF3_17 k false) (fun r=>match r with
   |.inl i=>i=k+1∧k<ln v6
   |.inr (.inl _)=>False
   |.inr (.inr _)=>True):=by
  unfold JF3_17
  refine t_some ?_
  show wi (k+1)=k+1∧_
  exact⟨wi_id (by omega) (by omega),c⟩
 simp only[ex,ez,Option.bind_some]
 refine t_bd (fun c=>by omega) fun _=>?_
 refine t_bd (fun c=>by omega) fun _=>?_
 have tail:Tot (bif z.fRule==1 then bif x.fRule !=1 then JF3_17 k true else bif decide (z.fRule≤9)then JF3_17 k (decide (x.fRule>9))else JF3_17 k false else bif decide (z.fRule≤9)then JF3_17 k (decide (x.fRule>9))else JF3_17 k false) (fun r=>match r with
   |.inl i=>i=k+1∧k<ln v6
   |.inr (.inl _)=>False
   |.inr (.inr _)=>True):=by
  have nine:z.fRule≤9→Tot (JF3_17 k (decide (x.fRule>9))) (fun r=>match r with
    |.inl i=>i=k+1∧k<ln v6
    |.inr (.inl _)=>False
    |.inr (.inr _)=>True):=fun h=>by rw[decide_eq_false (by have:=f3 h;omega)];exact fin
  refine t_be (fun c=>t_bn (fun c2=>absurd (f2 c) c2) fun _=>t_bd nine fun _=>fin) fun _=>t_bd nine fun _=>fin
 refine t_bd (fun c2=>?_) fun _=>tail
 rw[wi_id (by omega) (by omega)]
 obtain⟨y,ey⟩:=gx_at (l:=Sl.es v6) (i:=k-1) (by omega) (by simp only[ln]at c;omega)
 have f4:=res_sorted hr ex ey
 simp only[ey,Option.bind_some]
 exact t_bd (fun c=>by omega) fun _=>tail
theorem law3 {s:G27Score} (hb:big27 s):F3 s=some true:=by
 have key:Tot (F3 s) (fun b=>b=true):=by
  unfold F3 F10
  simp only[Option.bind_some,Bool.not_true,cond_false]
  refine t_bind (sF11 hb) fun b hq=>?_
  cases b with
  |false=>exact t_some rfl
  |true=>
   show Tot (JF3_2 s false) _
   unfold JF3_2
   simp only[cond_false]
   obtain⟨l,el,hl⟩:=tF12 (hq rfl)
   have hr:=xF12 el
   rw[el]
   simp only[Option.bind_some]
   refine t_bind (t_cnt (fun (k:Int)=>k) (ln l) (by unfold maxLen;omega) (fun _=>True) (T:=fun r=>match r with|.inl _=>False|.inr _=>True) (by decide) ln_nn trivial ?_) ?_
   ·intro k _ h0 _
    refine(law3_round hr hl h0).mono ?_
    rintro(i|r|r) h
    ·exact⟨trivial,h⟩
    ·exact h
    ·exact h
   ·rintro(r|r) h
    ·exact h.elim
    ·exact t_some rfl
 obtain⟨b,e,rfl⟩:=key
 exact e
end Go.Proofs.YtnjmaohblihppaaGreatDoor
