/- A part of the proof. -/
import Derived.Test.YtibndgdocbbbeaaGreatFL3
import Derived.Test.YtibndgdocbbbeaaGreatFOs
import Derived.KernelRfl
set_option linter.all false
namespace Go.Proofs.YtibndgdocbbbeaaGreat
open Go.PE Go.RowKit
set_option maxRecDepth 100000
theorem f9:F9=some true:=by kernel_rfl
theorem law3 {s:G27} (hb:big27 s):F3 s=some true:=by
 obtain⟨y,ey,hy⟩:=sF7 hb
 obtain⟨r,er,_⟩:=tF29 hy
 obtain⟨v,ev,_⟩:=tF8 hy
 unfold F3
 rw[ey]
 simp only[Option.bind_some]
 rw[ev]
 simp only[Option.bind_some]
 cases hv:(ln v==0)with
 |true=>
  simp only[cond_true,f9,Option.bind_some]
 |false=>
  have hr:(ln r==0)=false:=by
   cases hr:(ln r==0)with
   |false=>rfl
   |true=>
    exfalso
    have h0:r.es=[]:=by
     have:=eq_of_beq hr
     simp only[ln]at this
     exact List.eq_nil_of_length_eq_zero (by omega)
    unfold F8 at ev
    rw[er]at ev
    simp only[Option.bind_some,ln,h0,List.length_nil]at ev
    have hv:ln v=0:=by
     cases r with
     |nil=>cases ev;rfl
     |no l=>simp only[Sl.es]at h0;subst h0;cases ev;rfl
     |full l=>simp only[Sl.es]at h0;subst h0;cases ev;rfl
    simp[hv]at *
  unfold F10 F14
  rw[er]
  simp only[Option.bind_some,hr,Bool.not_false,cond_true,cond_false,f9]
  rfl
end Go.Proofs.YtibndgdocbbbeaaGreat
