/- The row's facts about the program. -/
import Derived.Test.YtibndgdocbbbeaaGreatRows
import Derived.Test.YtibndgdocbbbeaaGreatFrame
set_option linter.all false
namespace Go.Proofs.YtibndgdocbbbeaaGreat.tempoScoresP
open Go Go.ChangeShapes Go.WideShapes Go.ChangeAt Go.RowKit
theorem and_tt {a b:Bool} (h:a=true) (k:b=true):(a&&b)=true:=by rw[h,k];rfl
set_option maxHeartbeats 40000000 in
set_option maxRecDepth 1000000 in
theorem closed:joinedFacts Tryz.prog 5 Tryz.f5 Rows.tempoScoresSpec Rows.tempoScoresRow=true:=by
 unfold joinedFacts
 iterate 31 (refine and_tt ?_ ?_)
 all_goals as_aux_lemma=>kernel_rfl
theorem inst:Tryz.f5.isInstance Tryz.prog Rows.tempoScoresRow.origin Rows.tempoScoresRow.targs:=of_decide_eq_true (by kernel_rfl)
theorem wrap:Tryz.f5.isWrapper Tryz.prog Rows.tempoScoresRow.wrapper Rows.tempoScoresRow.mainSum:=by unfold Func.isWrapper;first|(rw[if_pos (by decide +kernel)];kernel_rfl)|(rw[if_neg (by decide +kernel)];exact⟨rfl,rfl⟩)
theorem named:Tryz.prog.funcNamed Rows.tempoScoresRow.func=some 5:=by kernel_rfl
end Go.Proofs.YtibndgdocbbbeaaGreat.tempoScoresP
