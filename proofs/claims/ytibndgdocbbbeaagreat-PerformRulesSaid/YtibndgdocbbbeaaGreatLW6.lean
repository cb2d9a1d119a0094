/- A part of the proof. -/
import Derived.Test.YtibndgdocbbbeaaGreatFL6
import Derived.Test.YtibndgdocbbbeaaGreatFS
set_option linter.all false
namespace Go.Proofs.YtibndgdocbbbeaaGreat
open Go.PE Go.RowKit
set_option maxRecDepth 100000
theorem law6 {s:G27} (id:G58) (hb:big27 s):F6 s id=some true:=by
 unfold F6 F25
 simp only[Option.bind_some,Bool.not_true,cond_false]
 have j2:JF6_3 s id true=some true:=by unfold JF6_3 F25;rfl
 obtain⟨b,eb,hq⟩:=sF12 hb
 rw[eb]
 simp only[Option.bind_some]
 cases b with
 |false=>exact j2
 |true=>
  simp only[Bool.not_true,cond_false]
  have hs:=hq rfl
  obtain⟨b,ev⟩:∃ b,F14 s=some b:=by
   obtain⟨r,er,_⟩:=tF29 hs
   exact⟨_,by unfold F14;rw[er];rfl⟩
  rw[ev]
  simp only[Option.bind_some]
  cases b with
  |true=>exact j2
  |false=>
   unfold JF6_3 F26 F27
   rw[ev]
   rfl
end Go.Proofs.YtibndgdocbbbeaaGreat
