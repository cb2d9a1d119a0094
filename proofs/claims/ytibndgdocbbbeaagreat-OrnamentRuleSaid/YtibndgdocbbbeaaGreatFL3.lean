/- A part of the proof. -/
import Derived.Test.YtibndgdocbbbeaaGreatFC4
import Derived.Test.YtibndgdocbbbeaaGreatFL9
import Derived.Test.YtibndgdocbbbeaaGreatSY13
import Derived.Test.YtibndgdocbbbeaaGreatHA
set_option linter.all false
set_option maxRecDepth 100000
set_option maxHeartbeats 40000000
set_option synthInstance.maxSize 100000
namespace Go.Proofs.YtibndgdocbbbeaaGreat
open Go.PE
noncomputable section
def F3 (v0:G27):Option Bool:=(F7 v0).bind λv1=>(F8 v1).bind λv3=>bif ((ln v3)==0)then ((F9).bind λv6=>some v6)else ((F10 v1).bind λv8=>(F9).bind λv10=>bif v10 then (bif ((ln v8.1)==0)then (some (v8.2==24))else (some false))else (some false))
theorem CF3 {v0 out} (hF:F3 v0=some out):A0 3 [.agg (c27 v0)] (bP out):=by
 refine gC Tryz.func3 ?_
 obtain⟨v1,h2,v3,h4,hF⟩:=bs2 hF
 rcases cor hF with⟨h5,hF⟩|⟨h5,hF⟩
 ·obtain⟨v6,h7,hF⟩:=Xa hF
  obtain rfl:=soj hF
  exact gE [re 2,.r (es 1 (kC (CF7 h2)::es 1 [])) [],.r (es 1 (kC (CF8 h4)::kL 3 c159 v3::es 1 [])) [],bb h5,.r (kC (CF9 h7)::es 1 []) []]
 obtain⟨v8,h9,v10,h11,hF⟩:=bs2 hF
 rcases cor hF with⟨h12,hF⟩|⟨h12,hF⟩
 ·rcases cor hF with⟨h13,hF⟩|⟨h13,hF⟩
  ·obtain rfl:=soj hF
   exact gE [re 2,.r (es 1 (kC (CF7 h2)::es 1 [])) [],.r (es 1 (kC (CF8 h4)::kL 3 c159 v3::es 1 [])) [],bb h5,.r (es 1 (kC (CF10 h9)::es 5 [])) [],.r (kC (CF9 h11)::es 1 (bq h12::es 1 (bq h12::kL 1 cI v8.1::bq h12::es 1 (kPt (bP ((ln v8.1)==0)) (bP false) h12::es 1 (rq 2 (bq h13) (kPt (bP (v8.2==24)) (bP false) h13::es 1 [])))))) []]
  obtain rfl:=soj hF
  exact gE [re 2,.r (es 1 (kC (CF7 h2)::es 1 [])) [],.r (es 1 (kC (CF8 h4)::kL 3 c159 v3::es 1 [])) [],bb h5,.r (es 1 (kC (CF10 h9)::es 5 [])) [],.r (kC (CF9 h11)::es 1 (bq h12::es 1 (bq h12::kL 1 cI v8.1::bq h12::es 1 (kPt (bP ((ln v8.1)==0)) (bP false) h12::es 1 (rp 2 (bq h13) (kPf (.tup []) (bP false) h13::es 1 [])))))) []]
 obtain rfl:=soj hF
 exact gE [re 2,.r (es 1 (kC (CF7 h2)::es 1 [])) [],.r (es 1 (kC (CF8 h4)::kL 3 c159 v3::es 1 [])) [],bb h5,.r (es 1 (kC (CF10 h9)::es 5 [])) [],.r (kC (CF9 h11)::es 1 (rp 3 (bq h12) (kPf (.tup []) (bP false) h12::es 1 (rp 2 bqF (es 2 []))))) []]
end
end Go.Proofs.YtibndgdocbbbeaaGreat
