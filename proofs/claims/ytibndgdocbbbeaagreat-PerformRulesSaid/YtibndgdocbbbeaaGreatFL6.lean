/- A part of the proof. -/
import Derived.Test.YtibndgdocbbbeaaGreatFC4
import Derived.Test.YtibndgdocbbbeaaGreatKN
set_option linter.all false
set_option maxRecDepth 100000
set_option maxHeartbeats 40000000
namespace Go.Proofs.YtibndgdocbbbeaaGreat
open Go.PE
noncomputable section
def JF6_3 (v0:G27) (v1:G58) (v2:Bool):Option Bool:=bif v2 then ((F25).bind λv5=>some v5)else ((F26 v0).bind λv7=>(F27 v0 v1).bind λv9=>bif ((ln v7.1)==0)then (bif (v7.2==24)then (bif (v9.1==0)then (some (v9.2==24))else (some false))else (some false))else (some false))
def F6 (v0:G27) (v1:G58):Option Bool:=(F25).bind λv14=>bif (!v14)then (JF6_3 v0 v1 true)else ((F12 v0).bind λv17=>bif (!v17)then (JF6_3 v0 v1 true)else ((F14 v0).bind λv20=>JF6_3 v0 v1 v20))
theorem CF6 {v0 v1 out} (hF:F6 v0 v1=some out):A0 6 [.agg (c27 v0),.agg (c58 v1)] (bP out):=by
 refine gC Tryz.func6 ?_
 refine gP 0 [re 3] [(2,.bp 0 0),(3,.bp 1 0)] [.cells (c27 v0),.cells (c58 v1)] ?_
 refine gS ?_
 refine gM (λ(v2:Bool)=>([(2,.bp 0 0),(3,.bp 1 0),(19,bP v2)],[.cells (c27 v0),.cells (c58 v1)],JF6_3 v0 v1 v2)) out ?_ ?_
 ·rintro v2 hF
  rcases cor hF with⟨h4,hF⟩|⟨h4,hF⟩
  ·obtain⟨v5,h6,hF⟩:=Xa hF
   obtain rfl:=soj hF
   exact gE [bb h4,.r (kC (CF25 h6)::es 1 []) []]
  refine Xk [bb h4] .normal [(2,.bp 0 0),(3,.bp 1 0)] [.cells (c27 v0),.cells (c58 v1)] (λe hw=>?_)
  refine⟨_,_,hw,?_⟩
  obtain⟨v7,h8,v9,h10,hF⟩:=bs2 hF
  rcases cor hF with⟨h11,hF⟩|⟨h11,hF⟩
  ·rcases cor hF with⟨h12,hF⟩|⟨h12,hF⟩
   ·rcases cor hF with⟨h13,hF⟩|⟨h13,hF⟩
    ·obtain rfl:=soj hF
     exact gE [.r (es 1 (kC (CF26 h8)::es 5 [])) [],.r (es 2 (kC (CF27 h10)::es 5 [])) [],.r (es 1 (kL 7 c123 v7.1::es 2 (rq 2 (bq h11) (kPt (bP (v7.2==24)) (bP false) h11::es 1 (rq 2 (bq h12) (kPt (bP (v9.1==0)) (bP false) h12::es 1 (rq 2 (bq h13) (kPt (bP (v9.2==24)) (bP false) h13::es 1 [])))))))) []]
    obtain rfl:=soj hF
    exact gE [.r (es 1 (kC (CF26 h8)::es 5 [])) [],.r (es 2 (kC (CF27 h10)::es 5 [])) [],.r (es 1 (kL 7 c123 v7.1::es 2 (rq 2 (bq h11) (kPt (bP (v7.2==24)) (bP false) h11::es 1 (rq 2 (bq h12) (kPt (bP (v9.1==0)) (bP false) h12::es 1 (rp 2 (bq h13) (kPf (.tup []) (bP false) h13::es 1 [])))))))) []]
   obtain rfl:=soj hF
   exact gE [.r (es 1 (kC (CF26 h8)::es 5 [])) [],.r (es 2 (kC (CF27 h10)::es 5 [])) [],.r (es 1 (kL 7 c123 v7.1::es 2 (rq 2 (bq h11) (kPt (bP (v7.2==24)) (bP false) h11::es 1 (rp 2 (bq h12) (kPf (.tup []) (bP false) h12::es 1 (rp 2 bqF (es 2 [])))))))) []]
  obtain rfl:=soj hF
  exact gE [.r (es 1 (kC (CF26 h8)::es 5 [])) [],.r (es 2 (kC (CF27 h10)::es 5 [])) [],.r (es 1 (kL 7 c123 v7.1::es 2 (rp 2 (bq h11) (kPf (.tup []) (bP false) h11::es 1 (rp 2 bqF (es 2 (rp 2 bqF (es 2 [])))))))) []]
 obtain⟨v14,h15,hF⟩:=Xa hF
 rcases cor hF with⟨h16,hF⟩|⟨h16,hF⟩
 ·exact g_to [.r (kC (CF25 h15)::es 2 (rp 3 (bq h16) (kPt (bP true) (.tup []) h16::es 1 (rp 2 bqT (es 1 []))))) []] .normal λ_ hw=>⟨_,_,hw,true,hF,rfl,rfl⟩
 obtain⟨v17,h18,hF⟩:=Xa hF
 rcases cor hF with⟨h19,hF⟩|⟨h19,hF⟩
 ·exact g_to [.r (kC (CF25 h15)::es 2 (bq h16::es 1 (bq h16::kC (CF12 h18)::bq h16::es 1 (kPf (bP true) (bP (!v17)) h16::es 1 (rp 2 (bq h19) (kPt (bP true) (.tup []) h19::[])))))) []] .normal λ_ hw=>⟨_,_,hw,true,hF,rfl,rfl⟩
 obtain⟨v20,h21,hF⟩:=Xa hF
 exact g_to [.r (kC (CF25 h15)::es 2 (bq h16::es 1 (bq h16::kC (CF12 h18)::bq h16::es 1 (kPf (bP true) (bP (!v17)) h16::es 1 (bq h19::es 1 (bq h19::kC (CF14 h21)::kPf (bP true) (bP v20) h19::[])))))) []] .normal λ_ hw=>⟨_,_,hw,v20,hF,rfl,rfl⟩
end
end Go.Proofs.YtibndgdocbbbeaaGreat
