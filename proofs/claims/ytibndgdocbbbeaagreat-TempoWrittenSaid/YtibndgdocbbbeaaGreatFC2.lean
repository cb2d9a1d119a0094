/- A part of the proof. -/
import Derived.Test.YtibndgdocbbbeaaGreatFC1
import Derived.Test.YtibndgdocbbbeaaGreatSY13
set_option linter.all false
set_option maxRecDepth 100000
set_option maxHeartbeats 40000000
set_option synthInstance.maxSize 100000
namespace Go.Proofs.YtibndgdocbbbeaaGreat
open Go.PE
noncomputable section
theorem CF217 {v0 v1 out} (hF:F217 v0 v1=some out):A0 217 [.agg (c147 v0),.agg (c147 v1)] (bP out):=by
 refine gC Tryz.func217 ?_
 refine gP 0 [re 3] [(2,.bp 0 0),(3,.bp 1 0)] [.cells (c147 v0),.cells (c147 v1)] ?_
 refine gM (λ(v2:Bool)=>([(4,bP v2)],[],Wd v2)) out ?_ ?_
 ·rintro v2 hF
  obtain rfl:=soj hF
  exact gE []
 rcases cor hF with⟨h4,hF⟩|⟨h4,hF⟩
 ·rcases cor hF with⟨h5,hF⟩|⟨h5,hF⟩
  ·rcases cor hF with⟨h6,hF⟩|⟨h6,hF⟩
   ·rcases cor hF with⟨h7,hF⟩|⟨h7,hF⟩
    ·rcases cor hF with⟨h8,hF⟩|⟨h8,hF⟩
     ·rcases cor hF with⟨h9,hF⟩|⟨h9,hF⟩
      ·rcases cor hF with⟨h10,hF⟩|⟨h10,hF⟩
       ·obtain⟨v11,h12,hF⟩:=Xa hF
        rcases cor hF with⟨h13,hF⟩|⟨h13,hF⟩
        ·obtain⟨v14,h15,hF⟩:=Xa hF
         rcases cor hF with⟨h16,hF⟩|⟨h16,hF⟩
         ·obtain⟨v17,h18,hF⟩:=Xa hF
          exact g_tc 0 [.r (es 6 (rq 5 (bq h4) (kPt (bP ((v0.fu.fx==v1.fu.fx)&&((v0.fu.fB==v1.fu.fB)&&true))) (bP false) h4::es 1 (rq 5 (bq h5) (kPt (bP (v0.fY==v1.fY)) (bP false) h5::es 1 (rq 5 (bq h6) (kPt (bP (v0.f5==v1.f5)) (bP false) h6::es 1 (rq 5 (bq h7) (kPt (bP (v0.fZ==v1.fZ)) (bP false) h7::es 1 (rq 5 (bq h8) (kPt (bP (v0.fah==v1.fah)) (bP false) h8::es 1 (rq 5 (bq h9) (kPt (bP (v0.fak==v1.fak)) (bP false) h9::es 1 (rq 4 (bq h10) (bq h10::kC (CF281 h12)::kPt (bP v11) (bP false) h10::es 1 (rq 4 (bq h13) (bq h13::kC (CF282 h15)::kPt (bP v14) (bP false) h13::es 1 (rq 4 (bq h16) (bq h16::kC (CF283 h18)::kPt (bP v17) (bP false) h16::es 1 []))))))))))))))))))) []] .normal λ_ _ hw=>⟨_,_,hw,v17,hF,rfl,rfl⟩
         exact g_tc 0 [.r (es 6 (rq 5 (bq h4) (kPt (bP ((v0.fu.fx==v1.fu.fx)&&((v0.fu.fB==v1.fu.fB)&&true))) (bP false) h4::es 1 (rq 5 (bq h5) (kPt (bP (v0.fY==v1.fY)) (bP false) h5::es 1 (rq 5 (bq h6) (kPt (bP (v0.f5==v1.f5)) (bP false) h6::es 1 (rq 5 (bq h7) (kPt (bP (v0.fZ==v1.fZ)) (bP false) h7::es 1 (rq 5 (bq h8) (kPt (bP (v0.fah==v1.fah)) (bP false) h8::es 1 (rq 5 (bq h9) (kPt (bP (v0.fak==v1.fak)) (bP false) h9::es 1 (rq 4 (bq h10) (bq h10::kC (CF281 h12)::kPt (bP v11) (bP false) h10::es 1 (rq 4 (bq h13) (bq h13::kC (CF282 h15)::kPt (bP v14) (bP false) h13::es 1 (rp 5 (bq h16) (kPf (.tup []) (bP false) h16::es 1 []))))))))))))))))))) []] .normal λ_ _ hw=>⟨_,_,hw,false,hF,rfl,rfl⟩
        exact g_tc 0 [.r (es 6 (rq 5 (bq h4) (kPt (bP ((v0.fu.fx==v1.fu.fx)&&((v0.fu.fB==v1.fu.fB)&&true))) (bP false) h4::es 1 (rq 5 (bq h5) (kPt (bP (v0.fY==v1.fY)) (bP false) h5::es 1 (rq 5 (bq h6) (kPt (bP (v0.f5==v1.f5)) (bP false) h6::es 1 (rq 5 (bq h7) (kPt (bP (v0.fZ==v1.fZ)) (bP false) h7::es 1 (rq 5 (bq h8) (kPt (bP (v0.fah==v1.fah)) (bP false) h8::es 1 (rq 5 (bq h9) (kPt (bP (v0.fak==v1.fak)) (bP false) h9::es 1 (rq 4 (bq h10) (bq h10::kC (CF281 h12)::kPt (bP v11) (bP false) h10::es 1 (rp 5 (bq h13) (kPf (.tup []) (bP false) h13::es 1 (rp 5 bqF (es 2 []))))))))))))))))))) []] .normal λ_ _ hw=>⟨_,_,hw,false,hF,rfl,rfl⟩
       exact g_tc 0 [.r (es 6 (rq 5 (bq h4) (kPt (bP ((v0.fu.fx==v1.fu.fx)&&((v0.fu.fB==v1.fu.fB)&&true))) (bP false) h4::es 1 (rq 5 (bq h5) (kPt (bP (v0.fY==v1.fY)) (bP false) h5::es 1 (rq 5 (bq h6) (kPt (bP (v0.f5==v1.f5)) (bP false) h6::es 1 (rq 5 (bq h7) (kPt (bP (v0.fZ==v1.fZ)) (bP false) h7::es 1 (rq 5 (bq h8) (kPt (bP (v0.fah==v1.fah)) (bP false) h8::es 1 (rq 5 (bq h9) (kPt (bP (v0.fak==v1.fak)) (bP false) h9::es 1 (rp 5 (bq h10) (kPf (.tup []) (bP false) h10::es 1 (rp 5 bqF (es 2 (rp 5 bqF (es 2 []))))))))))))))))))) []] .normal λ_ _ hw=>⟨_,_,hw,false,hF,rfl,rfl⟩
      exact g_tc 0 [.r (es 6 (rq 5 (bq h4) (kPt (bP ((v0.fu.fx==v1.fu.fx)&&((v0.fu.fB==v1.fu.fB)&&true))) (bP false) h4::es 1 (rq 5 (bq h5) (kPt (bP (v0.fY==v1.fY)) (bP false) h5::es 1 (rq 5 (bq h6) (kPt (bP (v0.f5==v1.f5)) (bP false) h6::es 1 (rq 5 (bq h7) (kPt (bP (v0.fZ==v1.fZ)) (bP false) h7::es 1 (rq 5 (bq h8) (kPt (bP (v0.fah==v1.fah)) (bP false) h8::es 1 (rp 5 (bq h9) (kPf (.tup []) (bP false) h9::es 1 (rp 5 bqF (es 2 (rp 5 bqF (es 2 (rp 5 bqF (es 2 []))))))))))))))))))) []] .normal λ_ _ hw=>⟨_,_,hw,false,hF,rfl,rfl⟩
     exact g_tc 0 [.r (es 6 (rq 5 (bq h4) (kPt (bP ((v0.fu.fx==v1.fu.fx)&&((v0.fu.fB==v1.fu.fB)&&true))) (bP false) h4::es 1 (rq 5 (bq h5) (kPt (bP (v0.fY==v1.fY)) (bP false) h5::es 1 (rq 5 (bq h6) (kPt (bP (v0.f5==v1.f5)) (bP false) h6::es 1 (rq 5 (bq h7) (kPt (bP (v0.fZ==v1.fZ)) (bP false) h7::es 1 (rp 5 (bq h8) (kPf (.tup []) (bP false) h8::es 1 (rp 5 bqF (es 2 (rp 5 bqF (es 2 (rp 5 bqF (es 2 (rp 5 bqF (es 2 []))))))))))))))))))) []] .normal λ_ _ hw=>⟨_,_,hw,false,hF,rfl,rfl⟩
    exact g_tc 0 [.r (es 6 (rq 5 (bq h4) (kPt (bP ((v0.fu.fx==v1.fu.fx)&&((v0.fu.fB==v1.fu.fB)&&true))) (bP false) h4::es 1 (rq 5 (bq h5) (kPt (bP (v0.fY==v1.fY)) (bP false) h5::es 1 (rq 5 (bq h6) (kPt (bP (v0.f5==v1.f5)) (bP false) h6::es 1 (rp 5 (bq h7) (kPf (.tup []) (bP false) h7::es 1 (rp 5 bqF (es 2 (rp 5 bqF (es 2 (rp 5 bqF (es 2 (rp 5 bqF (es 2 (rp 5 bqF (es 2 []))))))))))))))))))) []] .normal λ_ _ hw=>⟨_,_,hw,false,hF,rfl,rfl⟩
   exact g_tc 0 [.r (es 6 (rq 5 (bq h4) (kPt (bP ((v0.fu.fx==v1.fu.fx)&&((v0.fu.fB==v1.fu.fB)&&true))) (bP false) h4::es 1 (rq 5 (bq h5) (kPt (bP (v0.fY==v1.fY)) (bP false) h5::es 1 (rp 5 (bq h6) (kPf (.tup []) (bP false) h6::es 1 (rp 5 bqF (es 2 (rp 5 bqF (es 2 (rp 5 bqF (es 2 (rp 5 bqF (es 2 (rp 5 bqF (es 2 (rp 5 bqF (es 2 []))))))))))))))))))) []] .normal λ_ _ hw=>⟨_,_,hw,false,hF,rfl,rfl⟩
  exact g_tc 0 [.r (es 6 (rq 5 (bq h4) (kPt (bP ((v0.fu.fx==v1.fu.fx)&&((v0.fu.fB==v1.fu.fB)&&true))) (bP false) h4::es 1 (rp 5 (bq h5) (kPf (.tup []) (bP false) h5::es 1 (rp 5 bqF (es 2 (rp 5 bqF (es 2 (rp 5 bqF (es 2 (rp 5 bqF (es 2 (rp 5 bqF (es 2 (rp 5 bqF (es 2 (rp 5 bqF (es 2 []))))))))))))))))))) []] .normal λ_ _ hw=>⟨_,_,hw,false,hF,rfl,rfl⟩
 exact g_tc 0 [.r (es 6 (rp 5 (bq h4) (kPf (.tup []) (bP false) h4::es 1 (rp 5 bqF (es 2 (rp 5 bqF (es 2 (rp 5 bqF (es 2 (rp 5 bqF (es 2 (rp 5 bqF (es 2 (rp 5 bqF (es 2 (rp 5 bqF (es 2 (rp 5 bqF (es 2 []))))))))))))))))))) []] .normal λ_ _ hw=>⟨_,_,hw,false,hF,rfl,rfl⟩
theorem CF219 {v0 out} (hF:F219 v0=some out):A0 219 [.agg (c142 v0)] (iP out):=by
 refine gC Tryz.func219 ?_
 refine gP 0 [re 2] [(1,.bp 0 0)] [.cells (c142 v0)] ?_
 refine gS ?_
 refine gM (λ(v1:Bool)=>([(20,bP v1)],[],Vi v1)) out ?_ ?_
 ·rintro v1 hF
  rcases cor hF with⟨h3,hF⟩|⟨h3,hF⟩
  ·obtain rfl:=soj hF
   exact gE [bb h3,re 1]
  refine Xk [bb h3] .normal [] [] (λe hw=>?_)
  refine⟨_,_,hw,?_⟩
  obtain rfl:=soj hF
  exact gE [re 1]
 rcases cor hF with⟨h4,hF⟩|⟨h4,hF⟩
 ·exact g_tc 0 [.r (es 4 (rp 3 (bq h4) (kPt (bP true) (.tup []) h4::es 1 (rp 3 bqT (es 2 (rp 3 bqT (es 1 []))))))) []] .normal λ_ _ hw=>⟨_,_,hw,true,hF,rfl,rfl⟩
 rcases cor hF with⟨h5,hF⟩|⟨h5,hF⟩
 ·exact g_tc 0 [.r (es 4 (rq 3 (bq h4) (kPf (bP true) (bP (decide (v0.fx>8))) h4::es 1 (rp 3 (bq h5) (kPt (bP true) (.tup []) h5::es 1 (rp 3 bqT (es 1 []))))))) []] .normal λ_ _ hw=>⟨_,_,hw,true,hF,rfl,rfl⟩
 rcases cor hF with⟨h6,hF⟩|⟨h6,hF⟩
 ·exact g_tc 0 [.r (es 4 (rq 3 (bq h4) (kPf (bP true) (bP (decide (v0.fx>8))) h4::es 1 (rq 3 (bq h5) (kPf (bP true) (bP (decide (v0.fB<0))) h5::es 1 (rp 3 (bq h6) (kPt (bP true) (.tup []) h6::[]))))))) []] .normal λ_ _ hw=>⟨_,_,hw,true,hF,rfl,rfl⟩
 exact g_tc 0 [.r (es 4 (rq 3 (bq h4) (kPf (bP true) (bP (decide (v0.fx>8))) h4::es 1 (rq 3 (bq h5) (kPf (bP true) (bP (decide (v0.fB<0))) h5::es 1 (rq 3 (bq h6) (kPf (bP true) (bP (decide (v0.fB>3))) h6::[]))))))) []] .normal λ_ _ hw=>⟨_,_,hw,decide (v0.fB>3),hF,rfl,rfl⟩
theorem CF243 {out} (hF:F243=some out):A0 243 [] (.agg (c273 out)):=by
 refine gC Tryz.func243 ?_
 obtain rfl:=soj hF
 exact gE [re 1,re 2]
theorem CF169 {v0 out} (hF:F169 v0=some out):A0 169 [.agg (c80 v0)] (iP out):=by
 refine gC Tryz.func169 ?_
 obtain⟨v1,h2,v3,h4,hF⟩:=bs2 hF
 obtain rfl:=soj hF
 exact gE [re 2,.r (es 4 (kC (CF243 h2)::es 2 (⟨.pu (.idxA 1 7 none (.c (.agg (c273 v1))) (.c (iP v0.fW))) (iP v3),(n_idxA1 (f:=λx=>(iP x)) h4 rfl)⟩::es 3 []))) (es 2 [])]
theorem CF168 {v0 out} (hF:F168 v0=some out):A0 168 [.agg (c80 v0)] (iP out):=by
 refine gC Tryz.func168 ?_
 refine gP 0 [re 2] [(1,.bp 0 0)] [.cells (c80 v0)] ?_
 refine gS ?_
 refine gM (λ(v1:Bool)=>([(1,.bp 0 0),(31,bP v1)],[.cells (c80 v0)],Vj v0 v1)) out ?_ ?_
 ·rintro v1 hF
  rcases cor hF with⟨h3,hF⟩|⟨h3,hF⟩
  ·obtain rfl:=soj hF
   exact gE [bb h3,re 1]
  refine Xk [bb h3] .normal [(1,.bp 0 0)] [.cells (c80 v0)] (λe hw=>?_)
  refine⟨_,_,hw,?_⟩
  refine gS ?_
  obtain⟨v4,h5,hF⟩:=Xa hF
  refine gP 0 [.r (es 1 (kC (CF169 h5)::es 1 [])) []] [(3,iP v4)] [.cells (c80 v0)] ?_
  refine gM (λ(v6:Bool)=>([(39,bP v6)],[],JF168_7 v6)) out ?_ ?_
  ·rintro v6 hF
   rcases cor hF with⟨h8,hF⟩|⟨h8,hF⟩
   ·obtain rfl:=soj hF
    exact gE [bb h8,re 1]
   refine Xk [bb h8] .normal [] [] (λe hw=>?_)
   refine⟨_,_,hw,?_⟩
   obtain rfl:=soj hF
   exact gE [re 1]
  rcases cor hF with⟨h9,hF⟩|⟨h9,hF⟩
  ·exact g_tc 0 [.r (es 3 (rp 2 (bq h9) (kPt (bP true) (.tup []) h9::[]))) []] .normal λ_ _ hw=>⟨_,_,hw,true,hF,rfl,rfl⟩
  exact g_tc 0 [.r (es 3 (rq 2 (bq h9) (kPf (bP true) (bP (decide (v4>127))) h9::[]))) []] .normal λ_ _ hw=>⟨_,_,hw,decide (v4>127),hF,rfl,rfl⟩
 rcases cor hF with⟨h10,hF⟩|⟨h10,hF⟩
 ·exact g_to [.r (es 4 (rp 3 (bq h10) (kPt (bP true) (.tup []) h10::es 1 (rp 3 bqT (es 2 (rp 3 bqT (es 2 (rp 3 bqT (es 2 (rp 3 bqT (es 1 []))))))))))) []] .normal λ_ hw=>⟨_,_,hw,true,hF,rfl,rfl⟩
 rcases cor hF with⟨h11,hF⟩|⟨h11,hF⟩
 ·exact g_to [.r (es 4 (rq 3 (bq h10) (kPf (bP true) (bP (decide (v0.fW>6))) h10::es 1 (rp 3 (bq h11) (kPt (bP true) (.tup []) h11::es 1 (rp 3 bqT (es 2 (rp 3 bqT (es 2 (rp 3 bqT (es 1 []))))))))))) []] .normal λ_ hw=>⟨_,_,hw,true,hF,rfl,rfl⟩
 rcases cor hF with⟨h12,hF⟩|⟨h12,hF⟩
 ·exact g_to [.r (es 4 (rq 3 (bq h10) (kPf (bP true) (bP (decide (v0.fW>6))) h10::es 1 (rq 3 (bq h11) (kPf (bP true) (bP (decide (v0.fad<(-2)))) h11::es 1 (rp 3 (bq h12) (kPt (bP true) (.tup []) h12::es 1 (rp 3 bqT (es 2 (rp 3 bqT (es 1 []))))))))))) []] .normal λ_ hw=>⟨_,_,hw,true,hF,rfl,rfl⟩
 rcases cor hF with⟨h13,hF⟩|⟨h13,hF⟩
 ·exact g_to [.r (es 4 (rq 3 (bq h10) (kPf (bP true) (bP (decide (v0.fW>6))) h10::es 1 (rq 3 (bq h11) (kPf (bP true) (bP (decide (v0.fad<(-2)))) h11::es 1 (rq 3 (bq h12) (kPf (bP true) (bP (decide (v0.fad>2))) h12::es 1 (rp 3 (bq h13) (kPt (bP true) (.tup []) h13::es 1 (rp 3 bqT (es 1 []))))))))))) []] .normal λ_ hw=>⟨_,_,hw,true,hF,rfl,rfl⟩
 rcases cor hF with⟨h14,hF⟩|⟨h14,hF⟩
 ·exact g_to [.r (es 4 (rq 3 (bq h10) (kPf (bP true) (bP (decide (v0.fW>6))) h10::es 1 (rq 3 (bq h11) (kPf (bP true) (bP (decide (v0.fad<(-2)))) h11::es 1 (rq 3 (bq h12) (kPf (bP true) (bP (decide (v0.fad>2))) h12::es 1 (rq 3 (bq h13) (kPf (bP true) (bP (decide (v0.fai<(-1)))) h13::es 1 (rp 3 (bq h14) (kPt (bP true) (.tup []) h14::[]))))))))))) []] .normal λ_ hw=>⟨_,_,hw,true,hF,rfl,rfl⟩
 exact g_to [.r (es 4 (rq 3 (bq h10) (kPf (bP true) (bP (decide (v0.fW>6))) h10::es 1 (rq 3 (bq h11) (kPf (bP true) (bP (decide (v0.fad<(-2)))) h11::es 1 (rq 3 (bq h12) (kPf (bP true) (bP (decide (v0.fad>2))) h12::es 1 (rq 3 (bq h13) (kPf (bP true) (bP (decide (v0.fai<(-1)))) h13::es 1 (rq 3 (bq h14) (kPf (bP true) (bP (decide (v0.fai>9))) h14::[]))))))))))) []] .normal λ_ hw=>⟨_,_,hw,decide (v0.fai>9),hF,rfl,rfl⟩
theorem CF77 {v0 out} (hF:F77 v0=some out):A0 77 [.agg (c80 v0)] (.tup [iP out.1,iP out.2]):=by
 refine gC Tryz.func77 ?_
 obtain⟨v1,h2,hF⟩:=Xa hF
 rcases cor hF with⟨h3,hF⟩|⟨h3,hF⟩
 ·obtain rfl:=soj hF
  exact gE [re 3,.r (es 1 (kC (CF168 h2)::es 1 [])) [],re 2,bb h3,re 3]
 obtain⟨v4,h5,hF⟩:=Xa hF
 obtain rfl:=soj hF
 exact gE [re 3,.r (es 1 (kC (CF168 h2)::es 1 [])) [],re 2,bb h3,.r (es 1 (kC (CF169 h5)::es 2 [])) []]
theorem CF260 {v0 out} (hF:F260 v0=some out):A0 260 [.agg (c80 v0)] (.tup [iP out.1,iP out.2]):=by
 refine gC Tryz.func260 ?_
 obtain⟨v1,h2,hF⟩:=Xa hF
 refine gP 1 [re 3,.r (es 1 (kC (CF77 h2)::es 5 [])) []] [(4,iP v1.1),(5,iP v1.2)] [.cells (c80 v0)] ?_
 refine gS ?_
 refine gM (λ(v3:Bool)=>([(4,iP v1.1),(20,bP v3)],[],JF260_4 v1 v3)) out ?_ ?_
 ·rintro v3 hF
  rcases cor hF with⟨h5,hF⟩|⟨h5,hF⟩
  ·obtain rfl:=soj hF
   exact gE [bb h5,re 2]
  refine Xk [bb h5] .normal [(4,iP v1.1)] [] (λe hw=>?_)
  refine⟨_,_,hw,?_⟩
  obtain rfl:=soj hF
  exact gE [re 3]
 rcases cor hF with⟨h6,hF⟩|⟨h6,hF⟩
 ·exact g_tc 0 [.r (es 3 (rp 2 (bq h6) (kPt (bP true) (.tup []) h6::es 1 (rp 2 bqT (es 1 []))))) []] .normal λ_ _ hw=>⟨_,_,hw,true,hF,rfl,rfl⟩
 rcases cor hF with⟨h7,hF⟩|⟨h7,hF⟩
 ·exact g_tc 0 [.r (es 3 (rq 2 (bq h6) (kPf (bP true) (bP (decide (v1.1<0))) h6::es 1 (rp 2 (bq h7) (kPt (bP true) (.tup []) h7::[]))))) []] .normal λ_ _ hw=>⟨_,_,hw,true,hF,rfl,rfl⟩
 exact g_tc 0 [.r (es 3 (rq 2 (bq h6) (kPf (bP true) (bP (decide (v1.1<0))) h6::es 1 (rq 2 (bq h7) (kPf (bP true) (bP (decide (v1.1>127))) h7::[]))))) []] .normal λ_ _ hw=>⟨_,_,hw,decide (v1.1>127),hF,rfl,rfl⟩
theorem CF285 {v0 out} (hF:F285 v0=some out):A0 285 [.agg (c182 v0)] (iP out):=by
 refine gC Tryz.func285 ?_
 obtain⟨v1,h2,v3,h4,v5,h6,hF⟩:=bs3 hF
 obtain rfl:=soj hF
 exact gE [re 2,.r (es 2 (kC (CF260 h2)::es 5 [])) [],.r (es 3 (kC (CF215 h4)::es 1 (kC (CF214 h6)::es 1 []))) []]
theorem CF220 {v0 out} (hF:F220 v0=some out):A0 220 [eS 5 c182 v0] (iP out):=by
 refine gC Tryz.func220 ?_
 rcases cor hF with⟨h1,hF⟩|⟨h1,hF⟩
 ·obtain rfl:=soj hF
  exact gE [re 1,.r (es 1 (kL 5 c182 v0::es 2 [])) [],bb h1,re 1]
 rcases cor hF with⟨h2,hF⟩|⟨h2,hF⟩
 ·obtain rfl:=soj hF
  exact gE [re 1,.r (es 1 (kL 5 c182 v0::es 2 [])) [],bb h1,.r (es 1 (kL 5 c182 v0::es 2 [])) [],bb h2,re 1]
 refine gP 2 [re 1,.r (es 1 (kL 5 c182 v0::es 2 [])) [],bb h1,.r (es 1 (kL 5 c182 v0::es 2 [])) [],bb h2,re 1] [(0,eS 5 c182 v0),(3,iP (-1))] [] ?_
 refine gM (λ(_:Unit)=>([],[],JF220_3)) out ?_ ?_
 ·rintro⟨⟩ hF
  obtain rfl:=soj hF
  exact gE [re 1]
 refine gP 0 [.r (es 1 (kL 5 c182 v0::es 1 [])) []] [(3,iP (-1)),(17,eS 5 c182 v0),(18,iP (ln v0)),(19,iP 0)] [] ?_
 refine gB 1 ?_
 obtain⟨o7,ho7,hF⟩:=Xa hF
 refine gL ho7 (λ(v4,v5)=>([(3,iP v4),(17,eS 5 c182 v0),(18,iP (ln v0)),(19,iP v5)],[])) wm ?_
 rintro⟨v4,v5⟩ o8 h9 h10
 rcases cor h9 with⟨h12,h9⟩|⟨h12,h9⟩
 ·obtain⟨v13,h14,v15,h16,h9⟩:=bs2 h9
  rcases cor h9 with⟨h17,h9⟩|⟨h17,h9⟩
  ·cases h9
   obtain rfl:=h10 _ rfl
   obtain rfl:=soj hF
   exact gE [re 1,bb h12,.r (kX 5 c182 h14::es 3 []) [],.r (es 1 (kC (CF285 h16)::es 1 [])) [],re 2,bb h17,re 2]
  obtain⟨v18,h19,h9⟩:=Xa h9
  rcases cor h9 with⟨h20,h9⟩|⟨h20,h9⟩
  ·cases h9
   obtain rfl:=h10 _ rfl
   obtain rfl:=soj hF
   exact gE [re 1,bb h12,.r (kX 5 c182 h14::es 3 []) [],.r (es 1 (kC (CF285 h16)::es 1 [])) [],re 2,bb h17,.r (es 2 (kC (CF260 h19)::es 5 [])) [],re 3,bb h20,re 1]
  cases h9
  exact g_tc 0 [re 1,bb h12,.r (kX 5 c182 h14::es 3 []) [],.r (es 1 (kC (CF285 h16)::es 1 [])) [],re 2,bb h17,.r (es 2 (kC (CF260 h19)::es 5 [])) [],re 3,bb h20,re 2,re 2] .normal λ_ _ hw=>⟨rfl,hw⟩
 cases h9
 obtain rfl:=h10 _ rfl
 exact g_to [re 1,bb h12] (.exit 1) λ_ hw=>Xi (⟨_,_,hw,(),hF,rfl,rfl⟩)
theorem CF193 {v0 out} (hF:F193 v0=some out):A0 193 [eS 5 c245 v0] (iP out):=by
 refine gC Tryz.func193 ?_
 rcases cor hF with⟨h1,hF⟩|⟨h1,hF⟩
 ·obtain rfl:=soj hF
  exact gE [re 1,.r (es 1 (kL 5 c245 v0::es 1 [])) [],bb h1,re 1]
 refine gP 1 [re 1,.r (es 1 (kL 5 c245 v0::es 1 [])) [],bb h1] [(0,eS 5 c245 v0)] [] ?_
 refine gM (λ(_:Unit)=>([],[],JF193_2)) out ?_ ?_
 ·rintro⟨⟩ hF
  obtain rfl:=soj hF
  exact gE [re 1]
 refine gP 0 [.r (es 1 (kL 5 c245 v0::es 1 [])) []] [(10,eS 5 c245 v0),(11,iP (ln v0)),(12,iP 0)] [] ?_
 refine gB 0 ?_
 obtain⟨o5,ho5,hF⟩:=Xa hF
 refine gL ho5 (λv3=>([(10,eS 5 c245 v0),(11,iP (ln v0)),(12,iP v3)],[])) wm ?_
 rintro v3 o6 h7 h8
 rcases cor h7 with⟨h10,h7⟩|⟨h10,h7⟩
 ·refine gP 1 [re 1,bb h10] [(10,eS 5 c245 v0),(11,iP (ln v0)),(12,iP v3)] [] ?_
  refine gS ?_
  refine gB 1 ?_
  obtain⟨v11,h12,v13,h14,h7⟩:=bs2 h7
  rcases cor h7 with⟨h15,h7⟩|⟨h15,h7⟩
  ·cases h7
   obtain rfl:=h8 _ rfl
   obtain rfl:=soj hF
   exact gE [.r (kX 5 c245 h12::es 3 []) [],.r (es 2 (kC (CF260 h14)::es 5 [])) [],re 2,bb h15,re 2]
  refine gP 1 [.r (kX 5 c245 h12::es 3 []) [],.r (es 2 (kC (CF260 h14)::es 5 [])) [],re 2,bb h15] [(4,.bp 0 0),(10,eS 5 c245 v0),(11,iP (ln v0)),(12,iP v3)] [.cells (c245 v11)] ?_
  refine gM (λ(v16:Bool)=>([(10,eS 5 c245 v0),(11,iP (ln v0)),(12,iP v3),(32,bP v16)],[],JF193_17 v3 v16)) o6 ?_ ?_
  ·rintro v16 h7
   rcases cor h7 with⟨h18,h7⟩|⟨h18,h7⟩
   ·cases h7
    obtain rfl:=h8 _ rfl
    obtain rfl:=soj hF
    exact gE [bb h18,re 1]
   refine Xk [bb h18] .normal [(10,eS 5 c245 v0),(11,iP (ln v0)),(12,iP v3)] [] (λe hw=>?_)
   refine⟨_,_,hw,?_⟩
   cases h7
   exact g_to [re 2] .normal λ_ hw=>⟨rfl,hw⟩
  rcases cor h7 with⟨h19,h7⟩|⟨h19,h7⟩
  ·exact g_tc 0 [.r (es 4 (rp 3 (bq h19) (kPt (bP true) (.tup []) h19::[]))) []] .normal λ_ _ hw=>⟨_,_,hw,true,h7,rfl,rfl⟩
  exact g_tc 0 [.r (es 4 (rq 3 (bq h19) (kPf (bP true) (bP (decide (v11.fx>6))) h19::[]))) []] .normal λ_ _ hw=>⟨_,_,hw,decide (v11.fx>6),h7,rfl,rfl⟩
 cases h7
 obtain rfl:=h8 _ rfl
 exact g_to [re 1,bb h10] (.exit 0) λ_ hw=>Xi (⟨_,_,hw,(),hF,rfl,rfl⟩)
theorem CF286 {v0 out} (hF:F286 v0=some out):A0 286 [.agg (c171 v0)] (iP out):=by
 refine gC Tryz.func286 ?_
 refine gP 0 [re 2] [(1,.bp 0 0)] [.cells (c171 v0)] ?_
 refine gS ?_
 refine gB 0 ?_
 refine gM (λ(v1:Bool)=>([(1,.bp 0 0),(4,bP v1)],[.cells (c171 v0)],JF286_2 v0 v1)) out ?_ ?_
 ·rintro v1 hF
  rcases cor hF with⟨h3,hF⟩|⟨h3,hF⟩
  ·obtain rfl:=soj hF
   exact gE [bb h3,re 1]
  rcases cor hF with⟨h4,hF⟩|⟨h4,hF⟩
  ·obtain rfl:=soj hF
   exact gE [bb h3,re 5,bb h4,re 1]
  refine Xk [bb h3,re 5,bb h4] .normal [(1,.bp 0 0)] [.cells (c171 v0)] (λe hw=>?_)
  refine⟨_,_,hw,?_⟩
  refine gM (λ(_:Unit)=>([(1,.bp 0 0)],[.cells (c171 v0)],JF286_5 v0)) out ?_ ?_
  ·rintro⟨⟩ hF
   refine gS ?_
   refine gM (λ(v6:Bool)=>([(44,bP v6)],[],JF286_7 v6)) out ?_ ?_
   ·rintro v6 hF
    rcases cor hF with⟨h8,hF⟩|⟨h8,hF⟩
    ·obtain rfl:=soj hF
     exact gE [bb h8,re 1]
    refine Xk [bb h8] .normal [] [] (λe hw=>?_)
    refine⟨_,_,hw,?_⟩
    obtain rfl:=soj hF
    exact gE [re 1]
   rcases cor hF with⟨h9,hF⟩|⟨h9,hF⟩
   ·exact g_tc 0 [.r (es 4 (rq 3 (bq h9) (kPt (bP (v0.fag==1)) (bP false) h9::[]))) []] .normal λ_ _ hw=>⟨_,_,hw,v0.fag==1,hF,rfl,rfl⟩
   exact g_tc 0 [.r (es 4 (rp 3 (bq h9) (kPf (.tup []) (bP false) h9::[]))) []] .normal λ_ _ hw=>⟨_,_,hw,false,hF,rfl,rfl⟩
  refine gP 0 [re 4] [(1,.bp 0 0),(20,iP (lns v0.fH)),(21,iP 0)] [.cells (c171 v0)] ?_
  refine gB 1 ?_
  obtain⟨o11,ho11,hF⟩:=Xa hF
  refine gL ho11 (λv10=>([(1,.bp 0 0),(20,iP (lns v0.fH)),(21,iP v10)],[.cells (c171 v0)])) wm ?_
  rintro v10 o12 h13 h14
  rcases cor h13 with⟨h16,h13⟩|⟨h16,h13⟩
  ·refine gP 1 [re 1,bb h16] [(1,.bp 0 0),(20,iP (lns v0.fH)),(21,iP v10)] [.cells (c171 v0)] ?_
   refine gS ?_
   refine gB 2 ?_
   refine gP 0 [re 2] [(1,.bp 0 0),(3,iP v10),(20,iP (lns v0.fH)),(21,iP v10)] [.cells (c171 v0)] ?_
   refine gM (λ(v17:Bool)=>([(1,.bp 0 0),(20,iP (lns v0.fH)),(21,iP v10),(35,bP v17)],[.cells (c171 v0)],JF286_18 v10 v17)) o12 ?_ ?_
   ·rintro v17 h13
    rcases cor h13 with⟨h19,h13⟩|⟨h19,h13⟩
    ·cases h13
     obtain rfl:=h14 _ rfl
     obtain rfl:=soj hF
     exact gE [bb h19,re 1]
    refine Xk [bb h19] .normal [(1,.bp 0 0),(20,iP (lns v0.fH)),(21,iP v10)] [.cells (c171 v0)] (λe hw=>?_)
    refine⟨_,_,hw,?_⟩
    cases h13
    exact g_to [re 2] .normal λ_ hw=>⟨rfl,hw⟩
   obtain⟨v20,h21,h13⟩:=Xa h13
   rcases cor h13 with⟨h22,h13⟩|⟨h22,h13⟩
   ·exact g_to [.r (es 3 (⟨.pu (.idxStr (.c (sP v0.fH)) (.c (iP v10))) (.sc (.int .u8 ((UInt8.toNat v20:Nat):Int))),n_ch h21⟩::es 2 (rp 5 (bq h22) (kPt (bP true) (.tup []) h22::[])))) []] .normal λ_ hw=>⟨_,_,hw,true,h13,rfl,rfl⟩
   obtain⟨v23,h24,h13⟩:=Xa h13
   exact g_to [.r (es 3 (⟨.pu (.idxStr (.c (sP v0.fH)) (.c (iP v10))) (.sc (.int .u8 ((UInt8.toNat v20:Nat):Int))),n_ch h21⟩::es 2 (rq 3 (bq h22) (bq h22::⟨.pu (.idxStr (.c (sP v0.fH)) (.c (iP v10))) (.sc (.int .u8 ((UInt8.toNat v23:Nat):Int))),n_ch h24⟩::bq h22::es 1 (kPf (bP true) (bP (((UInt8.toNat v23:Nat):Int)==127)) h22::[]))))) []] .normal λ_ hw=>⟨_,_,hw,((UInt8.toNat v23:Nat):Int)==127,h13,rfl,rfl⟩
  cases h13
  obtain rfl:=h14 _ rfl
  exact g_to [re 1,bb h16] (.exit 1) λ_ hw=>Xi (⟨_,_,hw,(),hF,rfl,rfl⟩)
 rcases cor hF with⟨h25,hF⟩|⟨h25,hF⟩
 ·exact g_to [.r (es 4 (rp 3 (bq h25) (kPt (bP true) (.tup []) h25::es 1 []))) []] .normal λ_ hw=>⟨_,_,hw,true,hF,rfl,rfl⟩
 exact g_to [.r (es 4 (rq 3 (bq h25) (kPf (bP true) (bP (decide (v0.fag>2))) h25::es 1 []))) []] .normal λ_ hw=>⟨_,_,hw,decide (v0.fag>2),hF,rfl,rfl⟩
theorem CF287 {v0 out} (hF:F287 v0=some out):A0 287 [.agg (c171 v0)] (bP out):=by
 refine gC Tryz.func287 ?_
 obtain rfl:=soj hF
 exact gE [re 2,re 4]
theorem CF221 {v0 out} (hF:F221 v0=some out):A0 221 [eS 2 c171 v0] (iP out):=by
 refine gC Tryz.func221 ?_
 rcases cor hF with⟨h1,hF⟩|⟨h1,hF⟩
 ·obtain rfl:=soj hF
  exact gE [re 1,.r (es 1 (kL 2 c171 v0::es 1 [])) [],bb h1,re 1]
 refine gP 1 [re 1,.r (es 1 (kL 2 c171 v0::es 1 [])) [],bb h1] [(0,eS 2 c171 v0)] [] ?_
 refine gM (λ(_:Unit)=>([(0,eS 2 c171 v0)],[],JF221_2 v0)) out ?_ ?_
 ·rintro⟨⟩ hF
  refine gS ?_
  refine gP 0 [.r (es 1 (kL 2 c171 v0::es 1 [])) []] [(0,eS 2 c171 v0),(6,iP (ln v0))] [] ?_
  refine gM (λ(v3:Bool)=>([(33,bP v3)],[],JF221_4 v3)) out ?_ ?_
  ·rintro v3 hF
   rcases cor hF with⟨h5,hF⟩|⟨h5,hF⟩
   ·obtain rfl:=soj hF
    exact gE [bb h5,re 1]
   refine Xk [bb h5] .normal [] [] (λe hw=>?_)
   refine⟨_,_,hw,?_⟩
   obtain rfl:=soj hF
   exact gE [re 1]
  rcases cor hF with⟨h6,hF⟩|⟨h6,hF⟩
  ·obtain⟨v7,h8,v9,h10,hF⟩:=bs2 hF
   exact g_to [.r (es 3 (rq 3 (bq h6) (bq h6::kX 2 c171 h8::bq h6::es 1 (bq h6::kC (CF287 h10)::kPt (bP v9) (bP false) h6::[])))) []] .normal λ_ hw=>⟨_,_,hw,v9,hF,rfl,rfl⟩
  exact g_to [.r (es 3 (rp 6 (bq h6) (kPf (.tup []) (bP false) h6::[]))) []] .normal λ_ hw=>⟨_,_,hw,false,hF,rfl,rfl⟩
 refine gP 0 [.r (es 1 (kL 2 c171 v0::es 1 [])) []] [(0,eS 2 c171 v0),(10,eS 2 c171 v0),(11,iP (ln v0)),(12,iP 0)] [] ?_
 refine gB 0 ?_
 obtain⟨o13,ho13,hF⟩:=Xa hF
 refine gL ho13 (λv11=>([(0,eS 2 c171 v0),(10,eS 2 c171 v0),(11,iP (ln v0)),(12,iP v11)],[])) wm ?_
 rintro v11 o14 h15 h16
 rcases cor h15 with⟨h18,h15⟩|⟨h18,h15⟩
 ·obtain⟨v19,h20,v21,h22,h15⟩:=bs2 h15
  rcases cor h15 with⟨h23,h15⟩|⟨h23,h15⟩
  ·cases h15
   obtain rfl:=h16 _ rfl
   obtain rfl:=soj hF
   exact gE [re 1,bb h18,.r (kX 2 c171 h20::es 3 []) [],.r (es 1 (kC (CF286 h22)::es 1 [])) [],re 2,bb h23,re 2]
  cases h15
  exact g_tc 0 [re 1,bb h18,.r (kX 2 c171 h20::es 3 []) [],.r (es 1 (kC (CF286 h22)::es 1 [])) [],re 2,bb h23,re 2] .normal λ_ _ hw=>⟨rfl,hw⟩
 cases h15
 obtain rfl:=h16 _ rfl
 exact g_to [re 1,bb h18] (.exit 0) λ_ hw=>Xi (⟨_,_,hw,(),hF,rfl,rfl⟩)
theorem CF142 {v0 out} (hF:F142 v0=some out):A0 142 [.agg (c147 v0)] (iP out):=by
 refine gC Tryz.func142 ?_
 obtain⟨v1,h2,v3,h4,v5,h6,hF⟩:=bs3 hF
 rcases cor hF with⟨h7,hF⟩|⟨h7,hF⟩
 ·obtain rfl:=soj hF
  exact gE [re 2,.r (es 3 (kC (CF215 h2)::es 3 [])) (kC (CF215 h4)::es 1 (kC (CF214 h6)::es 1 [])),re 2,bb h7,re 2]
 obtain⟨v8,h9,hF⟩:=Xa hF
 rcases cor hF with⟨h10,hF⟩|⟨h10,hF⟩
 ·obtain rfl:=soj hF
  exact gE [re 2,.r (es 3 (kC (CF215 h2)::es 3 [])) (kC (CF215 h4)::es 1 (kC (CF214 h6)::es 1 [])),re 2,bb h7,.r (es 2 (kC (CF216 h9)::es 1 [])) [],bb h10,re 1]
 obtain⟨v11,h12,v13,h14,hF⟩:=bs2 hF
 rcases cor hF with⟨h15,hF⟩|⟨h15,hF⟩
 ·obtain rfl:=soj hF
  exact gE [re 2,.r (es 3 (kC (CF215 h2)::es 3 [])) (kC (CF215 h4)::es 1 (kC (CF214 h6)::es 1 [])),re 2,bb h7,.r (es 2 (kC (CF216 h9)::es 1 [])) [],bb h10,.r (es 2 (kC (CF218 h12)::[])) (kC (CF217 h14)::es 1 []),bb h15,re 1]
 refine gP 3 [re 2,.r (es 3 (kC (CF215 h2)::es 3 [])) (kC (CF215 h4)::es 1 (kC (CF214 h6)::es 1 [])),re 2,bb h7,.r (es 2 (kC (CF216 h9)::es 1 [])) [],bb h10,.r (es 2 (kC (CF218 h12)::[])) (kC (CF217 h14)::es 1 []),bb h15] [(1,.bp 0 0)] [.cells (c147 v0)] ?_
 refine gS ?_
 refine gM (λ(v16:Bool)=>([(1,.bp 0 0),(35,bP v16)],[.cells (c147 v0)],JF142_17 v0 v16)) out ?_ ?_
 ·rintro v16 hF
  rcases cor hF with⟨h18,hF⟩|⟨h18,hF⟩
  ·obtain rfl:=soj hF
   exact gE [bb h18,re 1]
  refine Xk [bb h18] .normal [(1,.bp 0 0)] [.cells (c147 v0)] (λe hw=>?_)
  refine⟨_,_,hw,?_⟩
  refine gM (λ(_:Unit)=>([(1,.bp 0 0)],[.cells (c147 v0)],JF142_19 v0)) out ?_ ?_
  ·rintro⟨⟩ hF
   obtain⟨v20,h21,v22,h23,v24,h25,hF⟩:=bs3 hF
   obtain⟨v26,h27,v28,h29,v30,h31,hF⟩:=bs3 hF
   obtain rfl:=soj hF
   exact gE [.r (es 2 (kC (CF215 h21)::es 2 (kC (CF215 h23)::es 2 (kC (CF215 h25)::es 2 (kC (CF215 h27)::es 2 []))))) (kC (CF215 h29)::es 1 (kC (CF214 h31)::es 1 []))]
  rcases cor hF with⟨h32,hF⟩|⟨h32,hF⟩
  ·obtain⟨v33,h34,v35,h36,v37,h38,hF⟩:=bs3 hF
   obtain⟨v39,h40,hF⟩:=Xa hF
   rcases cor hF with⟨h41,hF⟩|⟨h41,hF⟩
   ·obtain rfl:=soj hF
    exact gE [re 3,bb h32,.r (es 2 (kC (CF220 h34)::es 2 (kC (CF193 h36)::es 2 []))) (kC (CF221 h38)::es 1 (kC (CF214 h40)::es 1 [])),re 2,bb h41,re 2]
   exact g_to [re 3,bb h32,.r (es 2 (kC (CF220 h34)::es 2 (kC (CF193 h36)::es 2 []))) (kC (CF221 h38)::es 1 (kC (CF214 h40)::es 1 [])),re 2,bb h41] .normal λ_ hw=>⟨_,_,hw,(),hF,rfl,rfl⟩
  exact g_to [re 3,bb h32] .normal λ_ hw=>⟨_,_,hw,(),hF,rfl,rfl⟩
 rcases cor hF with⟨h42,hF⟩|⟨h42,hF⟩
 ·obtain⟨v43,h44,hF⟩:=Xa hF
  exact g_to [.r (es 4 (rq 2 (bq h42) (bq h42::kC (CF219 h44)::bq h42::es 1 (kPt (bP (v43 !=0)) (bP false) h42::[])))) []] .normal λ_ hw=>⟨_,_,hw,v43 !=0,hF,rfl,rfl⟩
 exact g_to [.r (es 4 (rp 4 (bq h42) (kPf (.tup []) (bP false) h42::[]))) []] .normal λ_ hw=>⟨_,_,hw,false,hF,rfl,rfl⟩
theorem CF207 {v0 out} (hF:F207 v0=some out):A0 207 [.agg (c147 v0)] (bP out):=by
 refine gC Tryz.func207 ?_
 obtain⟨v1,h2,hF⟩:=Xa hF
 obtain rfl:=soj hF
 exact gE [re 2,.r (es 1 (kC (CF142 h2)::es 2 [])) []]
theorem CF280_1 {v0 out} (hF:F280_1 v0=some out):A0 280 [eS 13 c147 v0,(fk 207)] (iP out):=by
 refine gC Tryz.func280 ?_
 refine gP 0 [re 1] [(0,eS 13 c147 v0),(1,(fk 207))] [] ?_
 refine gM (λ(_:Unit)=>([],[],JF280_1_1)) out ?_ ?_
 ·rintro⟨⟩ hF
  obtain rfl:=soj hF
  exact gE [re 1]
 refine gP 0 [.r (es 1 (kL 13 c147 v0::es 1 [])) []] [(0,eS 13 c147 v0),(1,(fk 207)),(7,iP (ln v0)),(8,iP 0)] [] ?_
 refine gB 0 ?_
 obtain⟨o4,ho4,hF⟩:=Xa hF
 refine gL ho4 (λv2=>([(0,eS 13 c147 v0),(1,(fk 207)),(7,iP (ln v0)),(8,iP v2)],[])) wm ?_
 rintro v2 o5 h6 h7
 rcases cor h6 with⟨h9,h6⟩|⟨h9,h6⟩
 ·obtain⟨v10,h11,v12,h13,h6⟩:=bs2 h6
  rcases cor h6 with⟨h14,h6⟩|⟨h14,h6⟩
  ·cases h6
   obtain rfl:=h7 _ rfl
   obtain rfl:=soj hF
   exact gE [re 1,bb h9,re 2,.r (es 3 (kX 13 c147 h11::es 1 (kC (CF207 h13)::[]))) [],bb h14,re 2]
  cases h6
  exact g_to [re 1,bb h9,re 2,.r (es 3 (kX 13 c147 h11::es 1 (kC (CF207 h13)::[]))) [],bb h14,re 2] .normal λ_ hw=>⟨rfl,hw⟩
 cases h6
 obtain rfl:=h7 _ rfl
 exact g_to [re 1,bb h9] (.exit 0) λ_ hw=>Xi (⟨_,_,hw,(),hF,rfl,rfl⟩)
theorem CF212_1 {v0 out} (hF:F212_1 v0=some out):A0 212 [eS 13 c147 v0,(fk 207)] (bP out):=by
 refine gC Tryz.func212 ?_
 obtain⟨v2,h3,hF⟩:=Xa hF
 obtain rfl:=soj hF
 exact gE [re 1,.r (es 2 (kC (CF280_1 h3)::es 2 [])) []]
theorem CF306 {v0 out} (hF:F306 v0=some out):A0 306 [.agg (c100 v0)] (bP out):=by
 refine gC Tryz.func306 ?_
 rcases cor hF with⟨h1,hF⟩|⟨h1,hF⟩
 ·obtain⟨v2,h3,hF⟩:=Xa hF
  obtain rfl:=soj hF
  exact gE [re 2,.r (es 2 (kL 13 c147 v0.fg::es 2 (rq 2 (bq h1) (bq h1::kX 13 c147 h3::rq 3 (bq h1) (kPt (bP (v2.fj==3)) (bP false) h1::es 1 []))))) []]
 obtain rfl:=soj hF
 exact gE [re 2,.r (es 2 (kL 13 c147 v0.fg::es 2 (rp 6 (bq h1) (kPf (.tup []) (bP false) h1::es 1 [])))) []]
theorem CF336 {v0 out} (hF:F336 v0=some out):A0 336 [.agg (c142 v0)] (iP out):=by
 refine gC Tryz.func336 ?_
 obtain⟨v1,h2,hF⟩:=Xa hF
 refine gP 2 [re 2,.r (es 3 (⟨.pu (.bin .shr (.c (iP 3870720)) (.c (iP (wi (v0.fx+1))))) (iP v1),n_shr h2⟩::es 1 [])) [],re 2] [(1,.bp 0 0),(3,iP v1),(4,iP v1)] [.cells (c142 v0)] ?_
 refine gM (λ(v3:Int)=>([(4,iP v3)],[],JF336_4 v3)) out ?_ ?_
 ·rintro v3 hF
  obtain rfl:=soj hF
  exact gE [re 2]
 refine gP 0 [re 3] [(3,iP v1),(4,iP v1),(11,iP v0.fB),(12,iP 0)] [.cells (c142 v0)] ?_
 refine gB 0 ?_
 obtain⟨o9,ho9,hF⟩:=Xa hF
 refine gL ho9 (λ(v5,v6,v7)=>([(3,iP v5),(4,iP v6),(11,iP v0.fB),(12,iP v7)],[.cells (c142 v0)])) wm ?_
 rintro⟨v5,v6,v7⟩ o10 h11 h12
 rcases cor h11 with⟨h14,h11⟩|⟨h14,h11⟩
 ·cases h11
  exact g_to [re 1,bb h14,re 3,re 4,re 2] .normal λ_ hw=>⟨rfl,hw⟩
 cases h11
 obtain rfl:=h12 _ rfl
 exact g_tc 0 [re 1,bb h14] (.exit 0) λ_ _ hw=>Xi (⟨_,_,hw,v6,hF,rfl,rfl⟩)
theorem CF330 {v0 out} (hF:F330 v0=some out):A0 330 [.agg (c142 v0)] (.tup [iP out.1,iP out.2]):=by
 refine gC Tryz.func330 ?_
 obtain⟨v1,h2,hF⟩:=Xa hF
 rcases cor hF with⟨h3,hF⟩|⟨h3,hF⟩
 ·obtain rfl:=soj hF
  exact gE [re 3,.r (es 1 (kC (CF219 h2)::es 1 [])) [],re 2,bb h3,re 3]
 obtain⟨v4,h5,hF⟩:=Xa hF
 obtain rfl:=soj hF
 exact gE [re 3,.r (es 1 (kC (CF219 h2)::es 1 [])) [],re 2,bb h3,.r (es 1 (kC (CF336 h5)::es 2 [])) []]
theorem CF325 {v0 out} (hF:F325 v0=some out):A0 325 [.agg (c147 v0)] (.tup [iP out.1,iP out.2]):=by
 refine gC Tryz.func325 ?_
 refine gP 0 [re 3] [(1,.bp 0 0)] [.cells (c147 v0)] ?_
 refine gS ?_
 obtain⟨v1,h2,hF⟩:=Xa hF
 refine gP 0 [.r (es 1 (kC (CF142 h2)::es 1 [])) []] [(1,.bp 0 0),(4,iP v1)] [.cells (c147 v0)] ?_
 refine gM (λ(v3:Bool)=>([(1,.bp 0 0),(4,iP v1),(13,bP v3)],[.cells (c147 v0)],JF325_4 v1 v0 v3)) out ?_ ?_
 ·rintro v3 hF
  rcases cor hF with⟨h5,hF⟩|⟨h5,hF⟩
  ·obtain rfl:=soj hF
   exact gE [bb h5,re 3]
  refine Xk [bb h5] .normal [(1,.bp 0 0)] [.cells (c147 v0)] (λe hw=>?_)
  refine⟨_,_,hw,?_⟩
  obtain⟨v6,h7,hF⟩:=Xa hF
  obtain rfl:=soj hF
  exact gE [.r (es 2 (kC (CF330 h7)::es 4 [])) []]
 rcases cor hF with⟨h8,hF⟩|⟨h8,hF⟩
 ·exact g_to [.r (es 3 (rp 3 (bq h8) (kPt (bP true) (.tup []) h8::[]))) []] .normal λ_ hw=>⟨_,_,hw,true,hF,rfl,rfl⟩
 exact g_to [.r (es 3 (rq 3 (bq h8) (kPf (bP true) (bP (v0.fj==3)) h8::[]))) []] .normal λ_ hw=>⟨_,_,hw,v0.fj==3,hF,rfl,rfl⟩
theorem CF318 {v0 out} (hF:F318 v0=some out):A0 318 [eS 13 c147 v0] (eS 1 cI out):=by
 refine gC Tryz.func318 ?_
 rcases cor hF with⟨h1,hF⟩|⟨h1,hF⟩
 ·refine gP 1 [re 1,.r (es 1 (kL 13 c147 v0::⟨.st (.mkSl 1 8 [iP 0] (.c (iP (ln v0))) (.c (iP (ln v0)))) [] (nP 0 1 cI ([]:List Int)) [.grow (List.length ([]:List Int)) 1] 0,n_mk0 h1⟩::es 1 [])) []] [(0,eS 13 c147 v0),(3,nP 0 1 cI ([]:List Int))] [.grow (List.length ([]:List Int)) 1] ?_
  refine gM (λ(_:Unit)=>([(3,nP 0 1 cI ([]:List Int))],[.grow (List.length ([]:List Int)) 1],JF318_4)) out ?_ ?_
  ·rintro⟨⟩ hF
   refine Xk [re 2] .ret [(2,nP 0 1 cI ([]:List Int))] [.grow (List.length ([]:List Int)) 1] (λe hw=>?_)
   obtain rfl:=soj hF
   exact Yw (r:=(nP 0 1 cI ([]:List Int))) (.inr rfl) hw (by kernel_rfl) (Wy cl_cI) ⟨rfl,rfl⟩
  refine gP 0 [.r (es 1 (kL 13 c147 v0::es 1 [])) []] [(3,nP 0 1 cI ([]:List Int)),(9,eS 13 c147 v0),(10,iP (ln v0)),(11,iP 0)] [.grow (List.length ([]:List Int)) 1] ?_
  refine gB 0 ?_
  obtain⟨o6,ho6,hF⟩:=Xa hF
  refine gL ho6 (λv5=>([(3,nP 0 1 cI ([]:List Int)),(9,eS 13 c147 v0),(10,iP (ln v0)),(11,iP v5)],[.grow (List.length ([]:List Int)) 1])) wm ?_
  rintro v5 o7 h8 h9
  rcases cor h8 with⟨h11,h8⟩|⟨h11,h8⟩
  ·obtain⟨v12,h13,v14,h15,h8⟩:=bs2 h8
   exact nomatch h8
  cases h8
  obtain rfl:=h9 _ rfl
  exact g_to [re 1,bb h11] (.exit 0) λ_ hw=>Xi (⟨_,_,hw,(),hF,rfl,rfl⟩)
 obtain⟨v2,h3,hF⟩:=Xa hF
 refine gP 1 [re 1,.r (es 1 (kL 13 c147 v0::⟨(.st (.mkSl 1 8 [iP 0] (.c (iP (ln v0))) (.c (iP (ln v0)))) [] (.bs 0 0 v2 1 true) [.cells ((List.map (λx=>[PV.sc (.int .i64 x)]) (List.replicate v2 (0:Int))).flatten)] 0),(n_mkRow (f:=λx=>PV.sc (.int .i64 x)) h3 rfl)⟩::es 1 [])) []] [(0,eS 13 c147 v0),(3,.bs 0 0 v2 1 true)] [.cells ((List.map (λx=>[PV.sc (.int .i64 x)]) (List.replicate v2 (0:Int))).flatten)] ?_
 refine gM (λ(v16:List Int)=>([(3,.bs 0 0 v2 1 true)],[.cells ((List.map (λx=>[PV.sc (.int .i64 x)]) v16).flatten)],JF318_17 v2 v16)) out ?_ ?_
 ·rintro v16 hF
  refine Xk [re 2] .ret [(2,.bs 0 0 v2 1 true)] [.cells ((List.map (λx=>[PV.sc (.int .i64 x)]) v16).flatten)] (λe hw=>?_)
  obtain⟨_,hz,hF⟩:=Xa hF
  obtain rfl:=soj hF
  exact ends_cutF (r:=(.sl false .no 1 (List.map cI v16))) (.inr rfl) (hw.trans (weak_freeze (H:=[.cells ((List.map (λx=>[PV.sc (.int .i64 x)]) v16).flatten)]) (c:=cI) (l:=v16) (s:=1) (k:=0) (le':=[(2,.sl false .no 1 (List.map cI v16))]) (Nat.zero_le _) rfl (λ_=>rfl) cl_cI (fzc (.row (gfz_len hz)) fze) (abk rfl abe))) (by kernel_rfl) (psub_row cl_cI) ⟨rfl,rfl⟩
 refine gP 0 [.r (es 1 (kL 13 c147 v0::es 1 [])) []] [(3,.bs 0 0 v2 1 true),(9,eS 13 c147 v0),(10,iP (ln v0)),(11,iP 0)] [.cells ((List.map (λx=>[PV.sc (.int .i64 x)]) (List.replicate v2 (0:Int))).flatten)] ?_
 refine gB 0 ?_
 obtain⟨o21,ho21,hF⟩:=Xa hF
 refine gL ho21 (λ(v18,v19)=>([(3,.bs 0 0 v2 1 true),(9,eS 13 c147 v0),(10,iP (ln v0)),(11,iP v18)],[.cells ((List.map (λx=>[PV.sc (.int .i64 x)]) v19).flatten)])) wm ?_
 rintro⟨v18,v19⟩ o22 h23 h24
 rcases cor h23 with⟨h26,h23⟩|⟨h26,h23⟩
 ·obtain⟨v27,h28,v29,h30,v31,h32,h23⟩:=bs3 h23
  obtain⟨v33,h34,h23⟩:=Xa h23
  cases h23
  exact g_tc 1 [re 1,bb h26,.r (es 1 (kX 13 c147 h28::es 4 [])) [],.r (es 3 (kC (CF325 h30)::es 3 (⟨.pu (.iaddrS 1 (.c (.bs 0 0 v2 1 true)) (.c (iP v18))) (.bp 0 (0+(Int.toNat v18)*1)),n_iaddrB h32⟩::⟨.fr (.store 1 (.c (.bp 0 (0+(Int.toNat v18)*1))) (.c (iP v29.1))) [0] [.cells ((List.map (λx=>[PV.sc (.int .i64 x)]) v19).flatten)] [.cells ((List.map (λx=>[PV.sc (.int .i64 x)]) v33).flatten)] (.tup []),fr_storeB (f:=λx=>PV.sc (.int .i64 x)) h34 rfl (λ_=>⟨rfl,rfl⟩)⟩::[]))) [],re 2] .normal λ_ _ hw=>⟨rfl,hw⟩
 cases h23
 obtain rfl:=h24 _ rfl
 exact g_to [re 1,bb h26] (.exit 0) λ_ hw=>Xi (⟨_,_,hw,v19,hF,rfl,rfl⟩)
theorem CF337 {v0 v1 out} (hF:F337 v0 v1=some out):A0 337 [.agg (c425 v0),iP v1] (bP out):=by
 refine gC Tryz.func337 ?_
 rcases cor hF with⟨h2,hF⟩|⟨h2,hF⟩
 ·obtain rfl:=soj hF
  exact gE [re 2,.r (es 5 (rq 7 (bq h2) (kPt (bP (decide ((wi (v1-v0.fal))<v0.fE))) (bP false) h2::es 1 []))) []]
 obtain rfl:=soj hF
 exact gE [re 2,.r (es 5 (rp 7 (bq h2) (kPf (.tup []) (bP false) h2::es 1 []))) []]
theorem CF338 {v0 v1 out} (hF:F338 v0 v1=some out):A0 338 [iP v0,iP v1] (iP out):=by
 refine gC Tryz.func338 ?_
 refine gP 0 [re 1] [(0,iP v0),(1,iP v1)] [] ?_
 refine gM (λ(v2:Int)=>([(0,iP v2)],[],JF338_3 v2)) out ?_ ?_
 ·rintro v2 hF
  obtain rfl:=soj hF
  exact gE [re 2]
 refine gB 0 ?_
 obtain⟨o7,ho7,hF⟩:=Xa hF
 refine gL ho7 (λ(v4,v5)=>([(0,iP v4),(1,iP v5)],[])) wm ?_
 rintro⟨v4,v5⟩ o8 h9 h10
 rcases cor h9 with⟨h12,h9⟩|⟨h12,h9⟩
 ·obtain⟨v13,h14,h9⟩:=Xa h9
  cases h9
  exact g_to [re 2,bb h12,.r (es 3 (⟨.pu (.bin .rem (.c (iP v4)) (.c (iP v5))) (iP v13),n_rem h14⟩::es 1 [])) (es 1 [])] .normal λ_ hw=>⟨rfl,hw⟩
 cases h9
 obtain rfl:=h10 _ rfl
 exact g_to [re 2,bb h12] (.exit 0) λ_ hw=>Xi (⟨_,_,hw,v4,hF,rfl,rfl⟩)
theorem CF335 {v0 v1 out} (hF:F335 v0 v1=some out):A0 335 [eS 4 c425 v0,iP v1] (.tup [iP out.1,iP out.2]):=by
 refine gC Tryz.func335 ?_
 refine gP 1 [re 2,re 2] [(0,eS 4 c425 v0),(1,iP v1),(4,iP 1),(5,iP 1)] [] ?_
 refine gM (λ(x:Int×Int)=>match x with|(v2,v3)=>([(4,iP v2),(5,iP v3)],[],JF335_4 v2 v3)) out ?_ ?_
 ·rintro⟨v2,v3⟩ hF
  obtain rfl:=soj hF
  exact gE [re 4]
 refine gP 0 [.r (es 1 (kL 4 c425 v0::es 1 [])) []] [(1,iP v1),(4,iP 1),(5,iP 1),(9,eS 4 c425 v0),(10,iP (ln v0)),(11,iP 0)] [] ?_
 refine gB 0 ?_
 obtain⟨o10,ho10,hF⟩:=Xa hF
 refine gL ho10 (λ(v5,v6,v7)=>([(1,iP v1),(4,iP v5),(5,iP v6),(9,eS 4 c425 v0),(10,iP (ln v0)),(11,iP v7)],[])) wm ?_
 rintro⟨v5,v6,v7⟩ o11 h12 h13
 rcases cor h12 with⟨h15,h12⟩|⟨h15,h12⟩
 ·obtain⟨v16,h17,v18,h19,h12⟩:=bs2 h12
  rcases cor h12 with⟨h20,h12⟩|⟨h20,h12⟩
  ·obtain⟨v21,h22,v23,h24,v25,h26,h12⟩:=bs3 h12
   cases h12
   exact g_tc 0 [re 1,bb h15,.r (kX 4 c425 h17::es 3 []) [],.r (es 2 (kC (CF337 h19)::[])) [],bb h20,.r (es 9 []) (es 1 []),.r (es 2 (kC (CF338 h22)::es 1 [])) [],.r (es 2 (⟨.pu (.bin .quo (.c (iP (wi (v5*v16.fam)))) (.c (iP v21))) (iP v23),n_quo h24⟩::es 2 (⟨.pu (.bin .quo (.c (iP (wi (v6*v16.faj)))) (.c (iP v21))) (iP v25),n_quo h26⟩::es 1 []))) (es 1 []),re 2] .normal λ_ _ hw=>⟨rfl,hw⟩
  cases h12
  exact g_tc 0 [re 1,bb h15,.r (kX 4 c425 h17::es 3 []) [],.r (es 2 (kC (CF337 h19)::[])) [],bb h20,re 2] .normal λ_ _ hw=>⟨rfl,hw⟩
 cases h12
 obtain rfl:=h13 _ rfl
 exact g_to [re 1,bb h15] (.exit 0) λ_ hw=>Xi (⟨_,_,hw,(v5,v6),hF,rfl,rfl⟩)
theorem CF327 {v0 v1 v2 out} (hF:F327 v0 v1 v2=some out):A0 327 [eS 4 c425 v0,iP v1,iP v2] (.tup [iP out.1,iP out.2]):=by
 refine gC Tryz.func327 ?_
 refine gP 0 [re 2] [(0,eS 4 c425 v0),(1,iP v1),(2,iP v2)] [] ?_
 refine gS ?_
 refine gM (λ(v3:Bool)=>([(0,eS 4 c425 v0),(1,iP v1),(2,iP v2),(15,bP v3)],[],JF327_4 v0 v1 v2 v3)) out ?_ ?_
 ·rintro v3 hF
  rcases cor hF with⟨h5,hF⟩|⟨h5,hF⟩
  ·obtain rfl:=soj hF
   exact gE [bb h5,re 2]
  refine Xk [bb h5] .normal [(0,eS 4 c425 v0),(1,iP v1),(2,iP v2)] [] (λe hw=>?_)
  refine⟨_,_,hw,?_⟩
  obtain⟨v6,h7,v8,h9,hF⟩:=bs2 hF
  rcases cor hF with⟨h10,hF⟩|⟨h10,hF⟩
  ·obtain rfl:=soj hF
   exact gE [.r (es 2 (kC (CF335 h7)::es 5 [])) [],.r (es 4 (⟨.pu (.bin .rem (.c (iP (wi (v2*v6.1)))) (.c (iP v6.2))) (iP v8),n_rem h9⟩::es 1 [])) [],bb h10,re 2]
  obtain⟨v11,h12,hF⟩:=Xa hF
  obtain rfl:=soj hF
  exact gE [.r (es 2 (kC (CF335 h7)::es 5 [])) [],.r (es 4 (⟨.pu (.bin .rem (.c (iP (wi (v2*v6.1)))) (.c (iP v6.2))) (iP v8),n_rem h9⟩::es 1 [])) [],bb h10,.r (es 4 (⟨.pu (.bin .quo (.c (iP (wi (v2*v6.1)))) (.c (iP v6.2))) (iP v11),n_quo h12⟩::es 2 [])) []]
 rcases cor hF with⟨h13,hF⟩|⟨h13,hF⟩
 ·exact g_to [.r (es 3 (rp 2 (bq h13) (kPt (bP true) (.tup []) h13::[]))) []] .normal λ_ hw=>⟨_,_,hw,true,hF,rfl,rfl⟩
 exact g_to [.r (es 3 (rq 2 (bq h13) (kPf (bP true) (bP (decide (v2>7741440))) h13::[]))) []] .normal λ_ hw=>⟨_,_,hw,decide (v2>7741440),hF,rfl,rfl⟩
theorem CF319 {v0 v1 out} (hF:F319 v0 v1=some out):A0 319 [eS 4 c425 v0,eS 1 cI v1] (.tup [eS 1 cI out.1,iP out.2]):=by
 refine gC Tryz.func319 ?_
 obtain⟨v2,h3,hF⟩:=Xa hF
 rcases cor hF with⟨h4,hF⟩|⟨h4,hF⟩
 ·obtain rfl:=soj hF
  exact gE [re 2,.r (es 2 (kL 1 cI v1::kC (CF326 h3)::es 1 [])) [],re 2,bb h4,re 3]
 obtain⟨v5,h6,hF⟩:=Xa hF
 refine gP 2 [re 2,.r (es 2 (kL 1 cI v1::kC (CF326 h3)::es 1 [])) [],re 2,bb h4,.r (es 1 (kL 1 cI v1::⟨.st (.mkSl 1 8 [iP 0] (.c (iP 0)) (.c (iP (ln v1)))) [] (nP 0 1 cI ([]:List Int)) [.grow (List.length ([]:List Int)) 1] 0,n_mkC h6⟩::es 1 [])) []] [(0,eS 4 c425 v0),(1,eS 1 cI v1),(7,nP 0 1 cI ([]:List Int))] [.grow (List.length ([]:List Int)) 1] ?_
 refine gM (λ(v7:List Int)=>([(7,nP 0 1 cI v7)],[.grow (List.length v7) 1],JF319_8 v7)) out ?_ ?_
 ·rintro v7 hF
  refine Xk [re 3] .ret [(4,nP 0 1 cI v7),(5,iP 0)] [.grow (List.length v7) 1] (λe hw=>?_)
  obtain rfl:=soj hF
  exact Yw (r:=(.tup [nP 0 1 cI v7,iP 0])) (.inr rfl) hw (by kernel_rfl) (psub_tup (qs:=[eS 1 cI (Sl.no v7),iP 0]) (pc (Wy cl_cI) (pc (psub_cl (.sc _)) pe))) ⟨rfl,rfl⟩
 refine gP 0 [.r (es 1 (kL 1 cI v1::es 1 [])) []] [(0,eS 4 c425 v0),(7,nP 0 1 cI ([]:List Int)),(22,eS 1 cI v1),(23,iP (ln v1)),(24,iP 0)] [.grow (List.length ([]:List Int)) 1] ?_
 refine gB 0 ?_
 obtain⟨o13,ho13,hF⟩:=Xa hF
 refine gL ho13 (λ(v9,v10)=>([(0,eS 4 c425 v0),(7,nP 0 1 cI v9),(22,eS 1 cI v1),(23,iP (ln v1)),(24,iP v10)],[.grow (List.length v9) 1])) wm ?_
 rintro⟨v9,v10⟩ o14 h15 h16
 rcases cor h15 with⟨h18,h15⟩|⟨h18,h15⟩
 ·obtain⟨v19,h20,v21,h22,h15⟩:=bs2 h15
  rcases cor h15 with⟨h23,h15⟩|⟨h23,h15⟩
  ·cases h15
   obtain rfl:=h16 _ rfl
   obtain rfl:=soj hF
   exact gE [re 1,bb h18,.r (es 1 (kX 1 cI h20::es 3 [])) [],.r (es 3 (kC (CF327 h22)::es 5 [])) [],re 2,bb h23,re 3]
  obtain⟨v24,h25,h15⟩:=Xa h15
  cases h15
  exact g_to [re 1,bb h18,.r (es 1 (kX 1 cI h20::es 3 [])) [],.r (es 3 (kC (CF327 h22)::es 5 [])) [],re 2,bb h23,.r (es 3 (kAN 0 1 cI h25::es 1 [])) [],re 2] .normal λ_ hw=>⟨rfl,hw⟩
 cases h15
 obtain rfl:=h16 _ rfl
 exact g_to [re 1,bb h18] (.exit 0) λ_ hw=>Xi (⟨_,_,hw,v9,hF,rfl,rfl⟩)
theorem CF332 {v0 out} (hF:F332 v0=some out):A0 332 [.agg (c425 v0)] (iP out):=by
 refine gC Tryz.func332 ?_
 obtain rfl:=soj hF
 exact gE [re 2,re 6]
theorem CF328 {v0 v1 v2 out} (hF:F328 v0 v1 v2=some out):A0 328 [eS 4 c425 v0,iP v1,eS 1 cI v2] (.tup [iP out.1,bP out.2]):=by
 refine gC Tryz.func328 ?_
 obtain⟨v3,h4,hF⟩:=Xa hF
 refine gP 2 [re 2,.r (es 2 (kX 4 c425 h4::es 3 [])) [],re 1] [(0,eS 4 c425 v0),(1,iP v1),(2,eS 1 cI v2),(8,.bp 0 0),(9,iP 0)] [.cells (c425 v3)] ?_
 refine gM (λ(v5:Int)=>([(8,.bp 0 0),(9,iP v5)],[.cells (c425 v3)],JF328_6 v3 v5)) out ?_ ?_
 ·rintro v5 hF
  refine gM (λ(_:Unit)=>([],[],JF328_7)) out ?_ ?_
  ·rintro⟨⟩ hF
   obtain rfl:=soj hF
   exact gE [re 2]
  refine gP 0 [re 1] [(8,.bp 0 0),(9,iP v5),(13,iP (-1))] [.cells (c425 v3)] ?_
  refine gB 2 ?_
  obtain⟨o10,ho10,hF⟩:=Xa hF
  refine gL ho10 (λv8=>([(8,.bp 0 0),(9,iP v5),(13,iP v8)],[.cells (c425 v3)])) wm ?_
  rintro v8 o11 h12 h13
  rcases cor h12 with⟨h15,h12⟩|⟨h15,h12⟩
  ·obtain⟨v16,h17,h12⟩:=Xa h12
   rcases cor h12 with⟨h18,h12⟩|⟨h18,h12⟩
   ·cases h12
    obtain rfl:=h13 _ rfl
    obtain rfl:=soj hF
    exact gE [re 2,bb h15,.r (es 5 (⟨.pu (.bin .shr (.c (iP 3870720)) (.c (iP (wi (v8+1))))) (iP v16),n_shr h17⟩::es 1 [])) (es 1 []),bb h18,re 3]
   cases h12
   exact g_to [re 2,bb h15,.r (es 5 (⟨.pu (.bin .shr (.c (iP 3870720)) (.c (iP (wi (v8+1))))) (iP v16),n_shr h17⟩::es 1 [])) (es 1 []),bb h18,re 3] .normal λ_ hw=>⟨rfl,hw⟩
  cases h12
  obtain rfl:=h13 _ rfl
  exact g_tc 0 [re 2,bb h15] (.exit 2) λ_ _ hw=>Xi (⟨_,_,hw,(),hF,rfl,rfl⟩)
 refine gP 0 [re 3] [(0,eS 4 c425 v0),(1,iP v1),(2,eS 1 cI v2),(8,.bp 0 0),(9,iP 0),(10,iP v3.fal)] [.cells (c425 v3)] ?_
 refine gB 0 ?_
 obtain⟨o22,ho22,hF⟩:=Xa hF
 refine gL ho22 (λ(v19,v20)=>([(0,eS 4 c425 v0),(1,iP v1),(2,eS 1 cI v2),(8,.bp 0 0),(9,iP v19),(10,iP v20)],[.cells (c425 v3)])) wm ?_
 rintro⟨v19,v20⟩ o23 h24 h25
 obtain⟨v27,h28,h24⟩:=Xa h24
 rcases cor h24 with⟨h29,h24⟩|⟨h29,h24⟩
 ·obtain⟨v30,h31,v32,h33,v34,h35,h24⟩:=bs3 h24
  rcases cor h24 with⟨h36,h24⟩|⟨h36,h24⟩
  ·cases h24
   obtain rfl:=h25 _ rfl
   obtain rfl:=soj hF
   exact gE [.r (es 2 (kC (CF332 h28)::es 1 [])) [],bb h29,.r (es 3 (⟨.pu (.slSl 4 (.c (eS 4 c425 v0)) (some (.c (iP (wi (v1+1))))) none none) (eS 4 c425 v30),n_slh h31⟩::es 3 (kX 1 cI h33::es 1 (kC (CF327 h35)::es 4 [])))) (es 1 []),re 2,bb h36,re 2]
  cases h24
  exact g_to [.r (es 2 (kC (CF332 h28)::es 1 [])) [],bb h29,.r (es 3 (⟨.pu (.slSl 4 (.c (eS 4 c425 v0)) (some (.c (iP (wi (v1+1))))) none none) (eS 4 c425 v30),n_slh h31⟩::es 3 (kX 1 cI h33::es 1 (kC (CF327 h35)::es 4 [])))) (es 1 []),re 2,bb h36,re 4,re 3] .normal λ_ hw=>⟨rfl,hw⟩
 cases h24
 obtain rfl:=h25 _ rfl
 exact g_to [.r (es 2 (kC (CF332 h28)::es 1 [])) [],bb h29] (.exit 0) λ_ hw=>Xi (⟨_,_,hw,v19,hF,rfl,rfl⟩)
theorem CF320 {v0 v1 out} (hF:F320 v0 v1=some out):A0 320 [eS 4 c425 v0,eS 1 cI v1] (.tup [eS 1 cI out.1,iP out.2]):=by
 refine gC Tryz.func320 ?_
 obtain⟨v2,h3,hF⟩:=Xa hF
 rcases cor hF with⟨h4,hF⟩|⟨h4,hF⟩
 ·obtain rfl:=soj hF
  exact gE [re 2,.r (es 2 (kC (CF319 h3)::es 5 [])) [],re 2,bb h4,re 3]
 obtain⟨v5,h6,hF⟩:=Xa hF
 refine gP 2 [re 2,.r (es 2 (kC (CF319 h3)::es 5 [])) [],re 2,bb h4,.r (es 1 (kL 4 c425 v0::⟨.st (.mkSl 1 8 [iP 0] (.c (iP 0)) (.c (iP (ln v0)))) [] (nP 0 1 cI ([]:List Int)) [.grow (List.length ([]:List Int)) 1] 0,n_mkC h6⟩::es 1 [])) []] [(0,eS 4 c425 v0),(1,eS 1 cI v1),(8,nP 0 1 cI ([]:List Int))] [.grow (List.length ([]:List Int)) 1] ?_
 refine gM (λ(v7:List Int)=>([(8,nP 0 1 cI v7)],[.grow (List.length v7) 1],JF320_8 v7)) out ?_ ?_
 ·rintro v7 hF
  refine Xk [re 3] .ret [(4,nP 0 1 cI v7),(5,iP 0)] [.grow (List.length v7) 1] (λe hw=>?_)
  obtain rfl:=soj hF
  exact Yw (r:=(.tup [nP 0 1 cI v7,iP 0])) (.inr rfl) hw (by kernel_rfl) (psub_tup (qs:=[eS 1 cI (Sl.no v7),iP 0]) (pc (Wy cl_cI) (pc (psub_cl (.sc _)) pe))) ⟨rfl,rfl⟩
 refine gP 0 [.r (es 1 (kL 4 c425 v0::es 1 [])) []] [(0,eS 4 c425 v0),(1,eS 1 cI v1),(8,nP 0 1 cI ([]:List Int)),(25,iP (ln v0)),(26,iP 0)] [.grow (List.length ([]:List Int)) 1] ?_
 refine gB 0 ?_
 obtain⟨o12,ho12,hF⟩:=Xa hF
 refine gL ho12 (λ(v9,v10)=>([(0,eS 4 c425 v0),(1,eS 1 cI v1),(8,nP 0 1 cI v9),(25,iP (ln v0)),(26,iP v10)],[.grow (List.length v9) 1])) wm ?_
 rintro⟨v9,v10⟩ o13 h14 h15
 rcases cor h14 with⟨h17,h14⟩|⟨h17,h14⟩
 ·obtain⟨v18,h19,h14⟩:=Xa h14
  rcases cor h14 with⟨h20,h14⟩|⟨h20,h14⟩
  ·cases h14
   obtain rfl:=h15 _ rfl
   obtain rfl:=soj hF
   exact gE [re 1,bb h17,re 2,.r (es 3 (kC (CF328 h19)::es 5 [])) [],re 2,bb h20,re 2]
  obtain⟨v21,h22,h14⟩:=Xa h14
  cases h14
  exact g_to [re 1,bb h17,re 2,.r (es 3 (kC (CF328 h19)::es 5 [])) [],re 2,bb h20,.r (es 3 (kAN 0 1 cI h22::es 1 [])) [],re 2] .normal λ_ hw=>⟨rfl,hw⟩
 cases h14
 obtain rfl:=h15 _ rfl
 exact g_to [re 1,bb h17] (.exit 0) λ_ hw=>Xi (⟨_,_,hw,v9,hF,rfl,rfl⟩)
theorem CF307 {v0 out} (hF:F307 v0=some out):A0 307 [.agg (c100 v0)] (.tup [eS 1 cI out.1,iP out.2]):=by
 refine gC Tryz.func307 ?_
 refine gP 0 [re 3] [(1,.bp 0 0)] [.cells (c100 v0)] ?_
 refine gM (λ(_:Unit)=>([(1,.bp 0 0)],[.cells (c100 v0)],JF307_1 v0)) out ?_ ?_
 ·rintro⟨⟩ hF
  obtain⟨v2,h3,v4,h5,hF⟩:=bs2 hF
  rcases cor hF with⟨h6,hF⟩|⟨h6,hF⟩
  ·obtain rfl:=soj hF
   exact gE [.r (es 2 (kC (CF318 h3)::es 1 [])) [],.r (es 3 (kC (CF319 h5)::es 5 [])) [],re 2,bb h6,re 3]
  obtain⟨v7,h8,hF⟩:=Xa hF
  rcases cor hF with⟨h9,hF⟩|⟨h9,hF⟩
  ·obtain rfl:=soj hF
   exact gE [.r (es 2 (kC (CF318 h3)::es 1 [])) [],.r (es 3 (kC (CF319 h5)::es 5 [])) [],re 2,bb h6,.r (es 3 (kC (CF320 h8)::es 5 [])) [],re 2,bb h9,re 2]
  obtain rfl:=soj hF
  exact gE [.r (es 2 (kC (CF318 h3)::es 1 [])) [],.r (es 3 (kC (CF319 h5)::es 5 [])) [],re 2,bb h6,.r (es 3 (kC (CF320 h8)::es 5 [])) [],re 2,bb h9,re 3]
 refine gP 0 [.r (es 2 (kL 13 c147 v0.fg::es 1 [])) []] [(1,.bp 0 0),(13,eS 13 c147 v0.fg),(14,iP (ln v0.fg)),(15,iP 0)] [.cells (c100 v0)] ?_
 refine gB 0 ?_
 obtain⟨o12,ho12,hF⟩:=Xa hF
 refine gL ho12 (λv10=>([(1,.bp 0 0),(13,eS 13 c147 v0.fg),(14,iP (ln v0.fg)),(15,iP v10)],[.cells (c100 v0)])) wm ?_
 rintro v10 o13 h14 h15
 rcases cor h14 with⟨h17,h14⟩|⟨h17,h14⟩
 ·refine gP 1 [re 1,bb h17] [(1,.bp 0 0),(13,eS 13 c147 v0.fg),(14,iP (ln v0.fg)),(15,iP v10)] [.cells (c100 v0)] ?_
  refine gS ?_
  refine gB 1 ?_
  obtain⟨v18,h19,v20,h21,h14⟩:=bs2 h14
  rcases cor h14 with⟨h22,h14⟩|⟨h22,h14⟩
  ·cases h14
   obtain rfl:=h15 _ rfl
   obtain rfl:=soj hF
   exact gE [.r (es 1 (kX 13 c147 h19::es 4 [])) [],.r (es 1 (kC (CF142 h21)::es 1 [])) [],re 2,bb h22,re 3]
  refine gP 1 [.r (es 1 (kX 13 c147 h19::es 4 [])) [],.r (es 1 (kC (CF142 h21)::es 1 [])) [],re 2,bb h22] [(1,.bp 0 0),(4,iP v10),(5,.bp 1 0),(13,eS 13 c147 v0.fg),(14,iP (ln v0.fg)),(15,iP v10)] [.cells (c100 v0),.cells (c147 v18)] ?_
  refine gM (λ(v23:Bool)=>([(1,.bp 0 0),(13,eS 13 c147 v0.fg),(14,iP (ln v0.fg)),(15,iP v10),(37,bP v23)],[.cells (c100 v0)],JF307_24 v10 v23)) o13 ?_ ?_
  ·rintro v23 h14
   rcases cor h14 with⟨h25,h14⟩|⟨h25,h14⟩
   ·cases h14
    obtain rfl:=h15 _ rfl
    obtain rfl:=soj hF
    exact gE [bb h25,re 2]
   refine Xk [bb h25] .normal [(1,.bp 0 0),(13,eS 13 c147 v0.fg),(14,iP (ln v0.fg)),(15,iP v10)] [.cells (c100 v0)] (λe hw=>?_)
   refine⟨_,_,hw,?_⟩
   cases h14
   exact g_to [re 2] .normal λ_ hw=>⟨rfl,hw⟩
  rcases cor h14 with⟨h26,h14⟩|⟨h26,h14⟩
  ·rcases cor h14 with⟨h27,h14⟩|⟨h27,h14⟩
   ·exact g_tc 1 [.r (es 4 (rq 3 (bq h26) (rp 4 (bq h27) (bq h26::kPt (bP true) (.tup []) h27::kPt (bP true) (bP false) h26::[])))) []] .normal λ_ _ hw=>⟨_,_,hw,true,h14,rfl,rfl⟩
   exact g_tc 1 [.r (es 4 (rq 3 (bq h26) (rq 2 (bq h27) (bq h27::kL 13 c147 v0.fg::bq h27::es 1 (bq h26::kPf (bP true) (bP (decide ((ln v0.fg)>1))) h27::kPt (bP (decide ((ln v0.fg)>1))) (bP false) h26::[]))))) []] .normal λ_ _ hw=>⟨_,_,hw,decide ((ln v0.fg)>1),h14,rfl,rfl⟩
  exact g_tc 1 [.r (es 4 (rp 4 (bq h26) (kPf (.tup []) (bP false) h26::[]))) []] .normal λ_ _ hw=>⟨_,_,hw,false,h14,rfl,rfl⟩
 cases h14
 obtain rfl:=h15 _ rfl
 exact g_to [re 1,bb h17] (.exit 0) λ_ hw=>Xi (⟨_,_,hw,(),hF,rfl,rfl⟩)
theorem CF257 {v0 v1 out} (hF:F257 v0 v1=some out):A0 257 [.agg (c100 v0),iP v1] (.tup [eS 1 cI out.1,iP out.2]):=by
 refine gC Tryz.func257 ?_
 refine gP 0 [re 3] [(1,iP v1),(2,.bp 0 0)] [.cells (c100 v0)] ?_
 refine gS ?_
 refine gB 0 ?_
 refine gM (λ(v2:Bool)=>([(1,iP v1),(2,.bp 0 0),(7,bP v2)],[.cells (c100 v0)],JF257_3 v0 v1 v2)) out ?_ ?_
 ·rintro v2 hF
  rcases cor hF with⟨h4,hF⟩|⟨h4,hF⟩
  ·obtain rfl:=soj hF
   exact gE [bb h4,re 2]
  rcases cor hF with⟨h5,hF⟩|⟨h5,hF⟩
  ·obtain rfl:=soj hF
   exact gE [bb h4,.r (es 2 (kL 13 c147 v0.fg::es 2 [])) [],bb h5,re 2]
  refine Xk [bb h4,.r (es 2 (kL 13 c147 v0.fg::es 2 [])) [],bb h5] .normal [(1,iP v1),(2,.bp 0 0)] [.cells (c100 v0)] (λe hw=>?_)
  refine⟨_,_,hw,?_⟩
  refine gS ?_
  refine gM (λ(v6:Bool)=>([(1,iP v1),(2,.bp 0 0),(26,bP v6)],[.cells (c100 v0)],JF257_7 v0 v1 v6)) out ?_ ?_
  ·rintro v6 hF
   rcases cor hF with⟨h8,hF⟩|⟨h8,hF⟩
   ·obtain⟨v9,h10,v11,h12,hF⟩:=bs2 hF
    rcases cor hF with⟨h13,hF⟩|⟨h13,hF⟩
    ·obtain rfl:=soj hF
     exact gE [bb h8,.r (es 2 (kX 13 c147 h10::es 1 (kC (CF142 h12)::es 1 []))) [],re 2,bb h13,re 3]
    rcases cor hF with⟨h14,hF⟩|⟨h14,hF⟩
    ·obtain rfl:=soj hF
     exact gE [bb h8,.r (es 2 (kX 13 c147 h10::es 1 (kC (CF142 h12)::es 1 []))) [],re 2,bb h13,.r (es 2 (kL 4 c425 v0.fX::es 1 [])) [],bb h14,re 2]
    obtain rfl:=soj hF
    exact gE [bb h8,.r (es 2 (kX 13 c147 h10::es 1 (kC (CF142 h12)::es 1 []))) [],re 2,bb h13,.r (es 2 (kL 4 c425 v0.fX::es 1 [])) [],bb h14,re 4]
   refine Xk [bb h8] .normal [(2,.bp 0 0)] [.cells (c100 v0)] (λe hw=>?_)
   refine⟨_,_,hw,?_⟩
   obtain⟨v15,h16,hF⟩:=Xa hF
   obtain rfl:=soj hF
   exact gE [.r (es 1 (kC (CF307 h16)::es 4 [])) []]
  obtain⟨v17,h18,hF⟩:=Xa hF
  rcases cor hF with⟨h19,hF⟩|⟨h19,hF⟩
  ·exact g_to [.r (es 1 (kC (CF306 h18)::es 1 (rq 2 (bq h19) (bq h19::kL 13 c147 v0.fg::bq h19::es 1 (kPt (bP ((ln v0.fg)==1)) (bP false) h19::[]))))) []] .normal λ_ hw=>⟨_,_,hw,(ln v0.fg)==1,hF,rfl,rfl⟩
  exact g_to [.r (es 1 (kC (CF306 h18)::es 1 (rp 4 (bq h19) (kPf (.tup []) (bP false) h19::[])))) []] .normal λ_ hw=>⟨_,_,hw,false,hF,rfl,rfl⟩
 rcases cor hF with⟨h20,hF⟩|⟨h20,hF⟩
 ·exact g_to [.r (es 3 (rp 2 (bq h20) (kPt (bP true) (.tup []) h20::es 1 []))) []] .normal λ_ hw=>⟨_,_,hw,true,hF,rfl,rfl⟩
 exact g_to [.r (es 3 (rq 2 (bq h20) (kPf (bP true) (bP (decide (v1>15482880))) h20::es 1 []))) []] .normal λ_ hw=>⟨_,_,hw,decide (v1>15482880),hF,rfl,rfl⟩
theorem CF258 {v0 out} (hF:F258 v0=some out):A0 258 [eS 1 cI v0] (iP out):=by
 refine gC Tryz.func258 ?_
 refine gP 1 [re 1,re 1] [(0,eS 1 cI v0),(3,iP 0)] [] ?_
 refine gM (λ(v1:Int)=>([(3,iP v1)],[],JF258_2 v1)) out ?_ ?_
 ·rintro v1 hF
  obtain rfl:=soj hF
  exact gE [re 2]
 refine gP 0 [.r (es 1 (kL 1 cI v0::es 1 [])) []] [(3,iP 0),(6,eS 1 cI v0),(7,iP (ln v0)),(8,iP 0)] [] ?_
 refine gB 0 ?_
 obtain⟨o6,ho6,hF⟩:=Xa hF
 refine gL ho6 (λ(v3,v4)=>([(3,iP v3),(6,eS 1 cI v0),(7,iP (ln v0)),(8,iP v4)],[])) wm ?_
 rintro⟨v3,v4⟩ o7 h8 h9
 rcases cor h8 with⟨h11,h8⟩|⟨h11,h8⟩
 ·obtain⟨v12,h13,h8⟩:=Xa h8
  cases h8
  exact g_to [re 1,bb h11,.r (kX 1 cI h13::es 2 []) [],re 4,re 2] .normal λ_ hw=>⟨rfl,hw⟩
 cases h8
 obtain rfl:=h9 _ rfl
 exact g_to [re 1,bb h11] (.exit 0) λ_ hw=>Xi (⟨_,_,hw,v3,hF,rfl,rfl⟩)
theorem CF188 {v0 v1 out} (hF:F188 v0 v1=some out):A0 188 [.agg (c100 v0),iP v1] (.tup [eS 1 cI out.1,iP out.2]):=by
 refine gC Tryz.func188 ?_
 obtain⟨v2,h3,hF⟩:=Xa hF
 refine gP 1 [re 3,.r (es 2 (kC (CF257 h3)::es 5 [])) []] [(1,iP v1),(6,eS 1 cI v2.1),(7,iP v2.2)] [.cells (c100 v0)] ?_
 refine gM (λ(v4:Int)=>([(6,eS 1 cI v2.1),(7,iP v4)],[],JF188_5 v2 v4)) out ?_ ?_
 ·rintro v4 hF
  rcases cor hF with⟨h6,hF⟩|⟨h6,hF⟩
  ·obtain rfl:=soj hF
   exact gE [re 2,bb h6,re 3]
  obtain rfl:=soj hF
  exact gE [re 2,bb h6,re 3]
 refine gM (λ(v7:Bool)=>([(6,eS 1 cI v2.1),(7,iP v2.2),(26,bP v7)],[],JF188_8 v2 v7)) out ?_ ?_
 ·rintro v7 hF
  rcases cor hF with⟨h9,hF⟩|⟨h9,hF⟩
  ·exact g_to [bb h9,re 1] .normal λ_ hw=>⟨_,_,hw,20,hF,rfl,rfl⟩
  exact g_to [bb h9] .normal λ_ hw=>⟨_,_,hw,v2.2,hF,rfl,rfl⟩
 rcases cor hF with⟨h10,hF⟩|⟨h10,hF⟩
 ·rcases cor hF with⟨h11,hF⟩|⟨h11,hF⟩
  ·obtain⟨v12,h13,hF⟩:=Xa hF
   exact g_tc 0 [.r (es 3 (bq h10::es 1 (bq h10::kL 1 cI v2.1::bq h10::es 1 (kPt (bP (decide ((ln v2.1)>0))) (bP false) h10::es 1 (bq h11::es 1 (bq h11::kC (CF258 h13)::rq 2 (bq h11) (kPt (bP (v12 !=v1)) (bP false) h11::[]))))))) []] .normal λ_ _ hw=>⟨_,_,hw,v12 !=v1,hF,rfl,rfl⟩
  exact g_tc 0 [.r (es 3 (bq h10::es 1 (bq h10::kL 1 cI v2.1::bq h10::es 1 (kPt (bP (decide ((ln v2.1)>0))) (bP false) h10::es 1 (rp 4 (bq h11) (kPf (.tup []) (bP false) h11::[])))))) []] .normal λ_ _ hw=>⟨_,_,hw,false,hF,rfl,rfl⟩
 exact g_tc 0 [.r (es 3 (rp 3 (bq h10) (kPf (.tup []) (bP false) h10::es 1 (rp 4 bqF (es 1 []))))) []] .normal λ_ _ hw=>⟨_,_,hw,false,hF,rfl,rfl⟩
theorem CF213 {v0 v1 out} (hF:F213 v0 v1=some out):A0 213 [.agg (c100 v0),iP v1] (iP out):=by
 refine gC Tryz.func213 ?_
 obtain⟨v2,h3,hF⟩:=Xa hF
 obtain rfl:=soj hF
 exact gE [re 2,.r (es 2 (kC (CF188 h3)::es 5 [])) [],re 2]
theorem CF138 {v0 out} (hF:F138 v0=some out):A0 138 [iP v0] (bP out):=by
 refine gC Tryz.func138 ?_
 rcases cor hF with⟨h1,hF⟩|⟨h1,hF⟩
 ·obtain rfl:=soj hF
  exact gE [re 1,.r (es 3 (rp 2 (bq h1) (kPt (bP true) (.tup []) h1::es 1 []))) []]
 obtain rfl:=soj hF
 exact gE [re 1,.r (es 3 (rq 2 (bq h1) (kPf (bP true) (bP (v0==20)) h1::es 1 []))) []]
theorem CF211_1 {v0 v1 out} (hF:F211_1 v0 v1=some out):ACall Tryz.prog 211 [.agg (c100 v0),.bp 0 0,.bp 1 0,.bp 2 0] [.cells [(fk 207)],.cells [(fk 138)],.cells [iP v1]] (λq h=>q=(bP out)/\h=[.cells [(fk 207)],.cells [(fk 138)],.cells [iP v1]]):=by
 refine gC Tryz.func211 ?_
 obtain⟨v3,h4,hF⟩:=Xa hF
 rcases cor hF with⟨h5,hF⟩|⟨h5,hF⟩
 ·obtain⟨v6,h7,v8,h9,hF⟩:=bs2 hF
  obtain rfl:=soj hF
  exact g_rh 3 [re 2,.r (es 3 (kC (CF212_1 h4)::es 2 (rq 3 (bq h5) (bq h5::kC (CF213 h7)::[])))) (bq h5::kC (CF138 h9)::kPt (bP v8) (bP false) h5::es 1 [])] .ret λ_ _ k j=>hr k j
 obtain rfl:=soj hF
 exact g_rh 3 [re 2,.r (es 3 (kC (CF212_1 h4)::es 2 (rp 4 (bq h5) []))) (bq h5::kPf (.tup []) (bP false) h5::es 1 [])] .ret λ_ _ k j=>hr k j
theorem CF279_1 {v0 v1 out} (hF:F279_1 v0 v1=some out):ACall Tryz.prog 279 [eS 2 c100 v0,(.fn (.func 211) [] [.bp 0 0,.bp 1 0,.bp 2 0])] [.cells [(fk 207)],.cells [(fk 138)],.cells [iP v1]] (λq h=>q=(iP out)/\h=[.cells [(fk 207)],.cells [(fk 138)],.cells [iP v1]]):=by
 refine gC Tryz.func279 ?_
 refine gP 0 [re 1] [(0,eS 2 c100 v0),(1,(.fn (.func 211) [] [.bp 0 0,.bp 1 0,.bp 2 0]))] [.cells [(fk 207)],.cells [(fk 138)],.cells [iP v1]] ?_
 refine gM (λ(_:Unit)=>([],[.cells [(fk 207)],.cells [(fk 138)],.cells [iP v1]],JF279_1_2)) out ?_ ?_
 ·rintro⟨⟩ hF
  obtain rfl:=soj hF
  exact g_rh 3 [re 1] .ret λ_ _ k j=>hr k j
 refine gP 0 [.r (es 1 (kL 2 c100 v0::es 1 [])) []] [(0,eS 2 c100 v0),(1,(.fn (.func 211) [] [.bp 0 0,.bp 1 0,.bp 2 0])),(7,iP (ln v0)),(8,iP 0)] [.cells [(fk 207)],.cells [(fk 138)],.cells [iP v1]] ?_
 refine gB 0 ?_
 obtain⟨o5,ho5,hF⟩:=Xa hF
 refine gL ho5 (λv3=>([(0,eS 2 c100 v0),(1,(.fn (.func 211) [] [.bp 0 0,.bp 1 0,.bp 2 0])),(7,iP (ln v0)),(8,iP v3)],[.cells [(fk 207)],.cells [(fk 138)],.cells [iP v1]])) wm ?_
 rintro v3 o6 h7 h8
 rcases cor h7 with⟨h10,h7⟩|⟨h10,h7⟩
 ·obtain⟨v11,h12,v15,h16,h7⟩:=bs2 h7
  rcases cor h7 with⟨h17,h7⟩|⟨h17,h7⟩
  ·cases h7
   obtain rfl:=h8 _ rfl
   obtain rfl:=soj hF
   exact g_rh 3 [re 1,bb h10,re 2,.r (es 3 (kX 2 c100 h12::es 1 (kQ [0,1,2] [] 0 3 (CF211_1 h16)::[]))) [],bb h17,re 2] .ret λ_ _ k j=>hr k j
  cases h7
  exact g_to [re 1,bb h10,re 2,.r (es 3 (kX 2 c100 h12::es 1 (kQ [0,1,2] [] 0 3 (CF211_1 h16)::[]))) [],bb h17,re 2] .normal λ_ hw=>⟨rfl,hw⟩
 cases h7
 obtain rfl:=h8 _ rfl
 exact g_to [re 1,bb h10] (.exit 0) λ_ hw=>Xi (⟨_,_,hw,(),hF,rfl,rfl⟩)
theorem CF210_1 {v0 v1 out} (hF:F210_1 v0 v1=some out):ACall Tryz.prog 210 [eS 2 c100 v0,(.fn (.func 211) [] [.bp 0 0,.bp 1 0,.bp 2 0])] [.cells [(fk 207)],.cells [(fk 138)],.cells [iP v1]] (λq h=>q=(bP out)/\h=[.cells [(fk 207)],.cells [(fk 138)],.cells [iP v1]]):=by
 refine gC Tryz.func210 ?_
 obtain⟨v4,h5,hF⟩:=Xa hF
 obtain rfl:=soj hF
 exact g_rh 3 [re 1,.r (es 2 (kQ [0,1,2] [] 0 0 (CF279_1 h5)::es 2 [])) []] .ret λ_ _ k j=>hr k j
theorem CF209_1 {v0 v1 out} (hF:F209_1 v0 v1=some out):ACall Tryz.prog 209 [.agg (c95 v0),.bp 0 0,.bp 1 0,.bp 2 0] [.cells [(fk 207)],.cells [(fk 138)],.cells [iP v1]] (λq h=>q=(bP out)/\h=[.cells [(fk 207)],.cells [(fk 138)],.cells [iP v1]]):=by
 refine gC Tryz.func209 ?_
 obtain⟨v4,h5,hF⟩:=Xa hF
 obtain rfl:=soj hF
 exact g_rh 3 [re 2,.r (es 3 (kQ [0,1,2] [] 0 0 (CF210_1 h5)::es 1 [])) []] .ret λ_ _ k j=>hr k j
theorem CF278_1 {v0 v1 out} (hF:F278_1 v0 v1=some out):ACall Tryz.prog 278 [eS 2 c95 v0,(.fn (.func 209) [] [.bp 0 0,.bp 1 0,.bp 2 0])] [.cells [(fk 207)],.cells [(fk 138)],.cells [iP v1]] (λq h=>q=(iP out)/\h=[.cells [(fk 207)],.cells [(fk 138)],.cells [iP v1]]):=by
 refine gC Tryz.func278 ?_
 refine gP 0 [re 1] [(0,eS 2 c95 v0),(1,(.fn (.func 209) [] [.bp 0 0,.bp 1 0,.bp 2 0]))] [.cells [(fk 207)],.cells [(fk 138)],.cells [iP v1]] ?_
 refine gM (λ(_:Unit)=>([],[.cells [(fk 207)],.cells [(fk 138)],.cells [iP v1]],JF278_1_2)) out ?_ ?_
 ·rintro⟨⟩ hF
  obtain rfl:=soj hF
  exact g_rh 3 [re 1] .ret λ_ _ k j=>hr k j
 refine gP 0 [.r (es 1 (kL 2 c95 v0::es 1 [])) []] [(0,eS 2 c95 v0),(1,(.fn (.func 209) [] [.bp 0 0,.bp 1 0,.bp 2 0])),(7,iP (ln v0)),(8,iP 0)] [.cells [(fk 207)],.cells [(fk 138)],.cells [iP v1]] ?_
 refine gB 0 ?_
 obtain⟨o5,ho5,hF⟩:=Xa hF
 refine gL ho5 (λv3=>([(0,eS 2 c95 v0),(1,(.fn (.func 209) [] [.bp 0 0,.bp 1 0,.bp 2 0])),(7,iP (ln v0)),(8,iP v3)],[.cells [(fk 207)],.cells [(fk 138)],.cells [iP v1]])) wm ?_
 rintro v3 o6 h7 h8
 rcases cor h7 with⟨h10,h7⟩|⟨h10,h7⟩
 ·obtain⟨v11,h12,v15,h16,h7⟩:=bs2 h7
  rcases cor h7 with⟨h17,h7⟩|⟨h17,h7⟩
  ·cases h7
   obtain rfl:=h8 _ rfl
   obtain rfl:=soj hF
   exact g_rh 3 [re 1,bb h10,re 2,.r (es 3 (kX 2 c95 h12::es 1 (kQ [0,1,2] [] 0 3 (CF209_1 h16)::[]))) [],bb h17,re 2] .ret λ_ _ k j=>hr k j
  cases h7
  exact g_to [re 1,bb h10,re 2,.r (es 3 (kX 2 c95 h12::es 1 (kQ [0,1,2] [] 0 3 (CF209_1 h16)::[]))) [],bb h17,re 2] .normal λ_ hw=>⟨rfl,hw⟩
 cases h7
 obtain rfl:=h8 _ rfl
 exact g_to [re 1,bb h10] (.exit 0) λ_ hw=>Xi (⟨_,_,hw,(),hF,rfl,rfl⟩)
theorem CF208_1 {v0 v1 out} (hF:F208_1 v0 v1=some out):ACall Tryz.prog 208 [eS 2 c95 v0,(.fn (.func 209) [] [.bp 0 0,.bp 1 0,.bp 2 0])] [.cells [(fk 207)],.cells [(fk 138)],.cells [iP v1]] (λq h=>q=(bP out)/\h=[.cells [(fk 207)],.cells [(fk 138)],.cells [iP v1]]):=by
 refine gC Tryz.func208 ?_
 obtain⟨v4,h5,hF⟩:=Xa hF
 obtain rfl:=soj hF
 exact g_rh 3 [re 1,.r (es 2 (kQ [0,1,2] [] 0 0 (CF278_1 h5)::es 2 [])) []] .ret λ_ _ k j=>hr k j
theorem CF206_1 {v0 v1 out} (hF:F206_1 v0 v1=some out):ACall Tryz.prog 206 [iP v0,.agg (c75 v1),.bp 0 0] [.cells [(fk 138)]] (λq h=>q=(bP out)/\h=[.cells [(fk 138)]]):=by
 refine gC Tryz.func206 ?_
 obtain⟨v2,h3,hF⟩:=Xa hF
 rcases cor hF with⟨h4,hF⟩|⟨h4,hF⟩
 ·obtain rfl:=soj hF
  exact g_rh 1 [re 2,.r (es 1 (kC (CF99 h3)::es 6 [])) [],re 2,bb h4,re 1] .ret λ_ _ k j=>hr k j
 obtain⟨v7,h8,hF⟩:=Xa hF
 obtain rfl:=soj hF
 exact g_rh 1 [re 2,.r (es 1 (kC (CF99 h3)::es 6 [])) [],re 2,bb h4,re 2,.r (es 3 (kQ [3,0,2] [] 0 0 (CF208_1 h8)::es 1 [])) []] .ret λ_ _ k j=>hr k j
theorem CF131_4 {v0 v1 v2 out} (hF:F131_4 v0 v1 v2=some out):ACall Tryz.prog 131 [.bp 0 0,(.fn (.func 206) [] [.bp 2 0])] (hC v0 v1 v2++[.cells [(fk 138)]]) (λq h=>q=(.tup [])/\h=(hC v0 v1 out++[.cells [(fk 138)]])):=by
 refine gC Tryz.func131 ?_
 refine gP 0 [.r (es 5 (kL 22 c75 v0.fc::es 1 [])) []] [(0,.bp 0 0),(1,(.fn (.func 206) [] [.bp 2 0])),(10,eS 22 c75 v0.fc),(11,iP (ln v0.fc)),(12,iP 0)] (hC v0 v1 v2++[.cells [(fk 138)]]) ?_
 refine gB 0 ?_
 obtain⟨o7,ho7,hF⟩:=Xa hF
 refine gL ho7 (λ(v4,v5)=>([(0,.bp 0 0),(1,(.fn (.func 206) [] [.bp 2 0])),(10,eS 22 c75 v0.fc),(11,iP (ln v0.fc)),(12,iP v4)],(hC v0 v1 v5++[.cells [(fk 138)]]))) wm ?_
 rintro⟨v4,v5⟩ o8 h9 h10
 rcases cor h9 with⟨h12,h9⟩|⟨h12,h9⟩
 ·obtain⟨v13,h14,v17,h18,v24,h25,h9⟩:=bs3 h9
  cases h9
  exact g_tc 3 [re 1,bb h12,.r (es 1 (kX 22 c75 h14::es 4 [])) [],.r (es 4 (kQ [2] [] 0 1 (CF206_1 h18)::es 2 [])) (kK [0,1] [] 0 0 (Yb h25)::[]),re 2] .normal λ_ _ hw=>⟨rfl,hw⟩
 cases h9
 obtain rfl:=h10 _ rfl
 obtain rfl:=soj hF
 exact g_rh 3 [re 1,bb h12] (.exit 0) λ_ _ k j=>Xi (hn k j)
theorem CF137_1 {v0 v1 v2 out} (hF:F137_1 v0 v1 v2=some out):ACall Tryz.prog 137 [.bp 0 0,(fk 138)] (hC v0 v1 v2) (λq h=>q=(.tup [])/\h=(hC v0 v1 out)):=by
 refine gC Tryz.func137 ?_
 obtain⟨v7,h8,hF⟩:=Xa hF
 obtain rfl:=soj hF
 exact g_rh 2 [re 1,.r (es 2 (kK [0,1,2] [] 0 0 (CF131_4 h8)::[])) []] .normal λ_ _ k j=>hn k j
theorem CF65_1 {v0 v1 v2 out} (hF:F65_1 v0 v1 v2=some out):ACall Tryz.prog 65 [.bp 0 0] (hC v0 v1 v2) (λq h=>q=(.tup [])/\h=(hC v0 v1 out)):=by
 refine gC Tryz.func65 ?_
 obtain⟨v7,h8,hF⟩:=Xa hF
 obtain rfl:=soj hF
 exact g_rh 2 [.r (es 1 (kK [0,1] [] 0 0 (CF137_1 h8)::[])) []] .normal λ_ _ k j=>hn k j
theorem CF139 {v0 out} (hF:F139 v0=some out):A0 139 [iP v0] (bP out):=by
 refine gC Tryz.func139 ?_
 rcases cor hF with⟨h1,hF⟩|⟨h1,hF⟩
 ·obtain⟨v2,h3,hF⟩:=Xa hF
  obtain rfl:=soj hF
  exact gE [re 1,.r (es 3 (bq h1::es 1 (bq h1::kC (CF138 h3)::bq h1::es 1 (kPt (bP (!v2)) (bP false) h1::es 1 [])))) []]
 obtain rfl:=soj hF
 exact gE [re 1,.r (es 3 (rp 3 (bq h1) (kPf (.tup []) (bP false) h1::es 1 []))) []]
theorem CF211_2 {v0 v1 out} (hF:F211_2 v0 v1=some out):ACall Tryz.prog 211 [.agg (c100 v0),.bp 0 0,.bp 1 0,.bp 2 0] [.cells [(fk 207)],.cells [(fk 139)],.cells [iP v1]] (λq h=>q=(bP out)/\h=[.cells [(fk 207)],.cells [(fk 139)],.cells [iP v1]]):=by
 refine gC Tryz.func211 ?_
 obtain⟨v3,h4,hF⟩:=Xa hF
 rcases cor hF with⟨h5,hF⟩|⟨h5,hF⟩
 ·obtain⟨v6,h7,v8,h9,hF⟩:=bs2 hF
  obtain rfl:=soj hF
  exact g_rh 3 [re 2,.r (es 3 (kC (CF212_1 h4)::es 2 (rq 3 (bq h5) (bq h5::kC (CF213 h7)::[])))) (bq h5::kC (CF139 h9)::kPt (bP v8) (bP false) h5::es 1 [])] .ret λ_ _ k j=>hr k j
 obtain rfl:=soj hF
 exact g_rh 3 [re 2,.r (es 3 (kC (CF212_1 h4)::es 2 (rp 4 (bq h5) []))) (bq h5::kPf (.tup []) (bP false) h5::es 1 [])] .ret λ_ _ k j=>hr k j
theorem CF279_2 {v0 v1 out} (hF:F279_2 v0 v1=some out):ACall Tryz.prog 279 [eS 2 c100 v0,(.fn (.func 211) [] [.bp 0 0,.bp 1 0,.bp 2 0])] [.cells [(fk 207)],.cells [(fk 139)],.cells [iP v1]] (λq h=>q=(iP out)/\h=[.cells [(fk 207)],.cells [(fk 139)],.cells [iP v1]]):=by
 refine gC Tryz.func279 ?_
 refine gP 0 [re 1] [(0,eS 2 c100 v0),(1,(.fn (.func 211) [] [.bp 0 0,.bp 1 0,.bp 2 0]))] [.cells [(fk 207)],.cells [(fk 139)],.cells [iP v1]] ?_
 refine gM (λ(_:Unit)=>([],[.cells [(fk 207)],.cells [(fk 139)],.cells [iP v1]],JF279_2_2)) out ?_ ?_
 ·rintro⟨⟩ hF
  obtain rfl:=soj hF
  exact g_rh 3 [re 1] .ret λ_ _ k j=>hr k j
 refine gP 0 [.r (es 1 (kL 2 c100 v0::es 1 [])) []] [(0,eS 2 c100 v0),(1,(.fn (.func 211) [] [.bp 0 0,.bp 1 0,.bp 2 0])),(7,iP (ln v0)),(8,iP 0)] [.cells [(fk 207)],.cells [(fk 139)],.cells [iP v1]] ?_
 refine gB 0 ?_
 obtain⟨o5,ho5,hF⟩:=Xa hF
 refine gL ho5 (λv3=>([(0,eS 2 c100 v0),(1,(.fn (.func 211) [] [.bp 0 0,.bp 1 0,.bp 2 0])),(7,iP (ln v0)),(8,iP v3)],[.cells [(fk 207)],.cells [(fk 139)],.cells [iP v1]])) wm ?_
 rintro v3 o6 h7 h8
 rcases cor h7 with⟨h10,h7⟩|⟨h10,h7⟩
 ·obtain⟨v11,h12,v15,h16,h7⟩:=bs2 h7
  rcases cor h7 with⟨h17,h7⟩|⟨h17,h7⟩
  ·cases h7
   obtain rfl:=h8 _ rfl
   obtain rfl:=soj hF
   exact g_rh 3 [re 1,bb h10,re 2,.r (es 3 (kX 2 c100 h12::es 1 (kQ [0,1,2] [] 0 3 (CF211_2 h16)::[]))) [],bb h17,re 2] .ret λ_ _ k j=>hr k j
  cases h7
  exact g_to [re 1,bb h10,re 2,.r (es 3 (kX 2 c100 h12::es 1 (kQ [0,1,2] [] 0 3 (CF211_2 h16)::[]))) [],bb h17,re 2] .normal λ_ hw=>⟨rfl,hw⟩
 cases h7
 obtain rfl:=h8 _ rfl
 exact g_to [re 1,bb h10] (.exit 0) λ_ hw=>Xi (⟨_,_,hw,(),hF,rfl,rfl⟩)
theorem CF210_2 {v0 v1 out} (hF:F210_2 v0 v1=some out):ACall Tryz.prog 210 [eS 2 c100 v0,(.fn (.func 211) [] [.bp 0 0,.bp 1 0,.bp 2 0])] [.cells [(fk 207)],.cells [(fk 139)],.cells [iP v1]] (λq h=>q=(bP out)/\h=[.cells [(fk 207)],.cells [(fk 139)],.cells [iP v1]]):=by
 refine gC Tryz.func210 ?_
 obtain⟨v4,h5,hF⟩:=Xa hF
 obtain rfl:=soj hF
 exact g_rh 3 [re 1,.r (es 2 (kQ [0,1,2] [] 0 0 (CF279_2 h5)::es 2 [])) []] .ret λ_ _ k j=>hr k j
theorem CF209_2 {v0 v1 out} (hF:F209_2 v0 v1=some out):ACall Tryz.prog 209 [.agg (c95 v0),.bp 0 0,.bp 1 0,.bp 2 0] [.cells [(fk 207)],.cells [(fk 139)],.cells [iP v1]] (λq h=>q=(bP out)/\h=[.cells [(fk 207)],.cells [(fk 139)],.cells [iP v1]]):=by
 refine gC Tryz.func209 ?_
 obtain⟨v4,h5,hF⟩:=Xa hF
 obtain rfl:=soj hF
 exact g_rh 3 [re 2,.r (es 3 (kQ [0,1,2] [] 0 0 (CF210_2 h5)::es 1 [])) []] .ret λ_ _ k j=>hr k j
theorem CF278_2 {v0 v1 out} (hF:F278_2 v0 v1=some out):ACall Tryz.prog 278 [eS 2 c95 v0,(.fn (.func 209) [] [.bp 0 0,.bp 1 0,.bp 2 0])] [.cells [(fk 207)],.cells [(fk 139)],.cells [iP v1]] (λq h=>q=(iP out)/\h=[.cells [(fk 207)],.cells [(fk 139)],.cells [iP v1]]):=by
 refine gC Tryz.func278 ?_
 refine gP 0 [re 1] [(0,eS 2 c95 v0),(1,(.fn (.func 209) [] [.bp 0 0,.bp 1 0,.bp 2 0]))] [.cells [(fk 207)],.cells [(fk 139)],.cells [iP v1]] ?_
 refine gM (λ(_:Unit)=>([],[.cells [(fk 207)],.cells [(fk 139)],.cells [iP v1]],JF278_2_2)) out ?_ ?_
 ·rintro⟨⟩ hF
  obtain rfl:=soj hF
  exact g_rh 3 [re 1] .ret λ_ _ k j=>hr k j
 refine gP 0 [.r (es 1 (kL 2 c95 v0::es 1 [])) []] [(0,eS 2 c95 v0),(1,(.fn (.func 209) [] [.bp 0 0,.bp 1 0,.bp 2 0])),(7,iP (ln v0)),(8,iP 0)] [.cells [(fk 207)],.cells [(fk 139)],.cells [iP v1]] ?_
 refine gB 0 ?_
 obtain⟨o5,ho5,hF⟩:=Xa hF
 refine gL ho5 (λv3=>([(0,eS 2 c95 v0),(1,(.fn (.func 209) [] [.bp 0 0,.bp 1 0,.bp 2 0])),(7,iP (ln v0)),(8,iP v3)],[.cells [(fk 207)],.cells [(fk 139)],.cells [iP v1]])) wm ?_
 rintro v3 o6 h7 h8
 rcases cor h7 with⟨h10,h7⟩|⟨h10,h7⟩
 ·obtain⟨v11,h12,v15,h16,h7⟩:=bs2 h7
  rcases cor h7 with⟨h17,h7⟩|⟨h17,h7⟩
  ·cases h7
   obtain rfl:=h8 _ rfl
   obtain rfl:=soj hF
   exact g_rh 3 [re 1,bb h10,re 2,.r (es 3 (kX 2 c95 h12::es 1 (kQ [0,1,2] [] 0 3 (CF209_2 h16)::[]))) [],bb h17,re 2] .ret λ_ _ k j=>hr k j
  cases h7
  exact g_to [re 1,bb h10,re 2,.r (es 3 (kX 2 c95 h12::es 1 (kQ [0,1,2] [] 0 3 (CF209_2 h16)::[]))) [],bb h17,re 2] .normal λ_ hw=>⟨rfl,hw⟩
 cases h7
 obtain rfl:=h8 _ rfl
 exact g_to [re 1,bb h10] (.exit 0) λ_ hw=>Xi (⟨_,_,hw,(),hF,rfl,rfl⟩)
theorem CF208_2 {v0 v1 out} (hF:F208_2 v0 v1=some out):ACall Tryz.prog 208 [eS 2 c95 v0,(.fn (.func 209) [] [.bp 0 0,.bp 1 0,.bp 2 0])] [.cells [(fk 207)],.cells [(fk 139)],.cells [iP v1]] (λq h=>q=(bP out)/\h=[.cells [(fk 207)],.cells [(fk 139)],.cells [iP v1]]):=by
 refine gC Tryz.func208 ?_
 obtain⟨v4,h5,hF⟩:=Xa hF
 obtain rfl:=soj hF
 exact g_rh 3 [re 1,.r (es 2 (kQ [0,1,2] [] 0 0 (CF278_2 h5)::es 2 [])) []] .ret λ_ _ k j=>hr k j
theorem CF206_2 {v0 v1 out} (hF:F206_2 v0 v1=some out):ACall Tryz.prog 206 [iP v0,.agg (c75 v1),.bp 0 0] [.cells [(fk 139)]] (λq h=>q=(bP out)/\h=[.cells [(fk 139)]]):=by
 refine gC Tryz.func206 ?_
 obtain⟨v2,h3,hF⟩:=Xa hF
 rcases cor hF with⟨h4,hF⟩|⟨h4,hF⟩
 ·obtain rfl:=soj hF
  exact g_rh 1 [re 2,.r (es 1 (kC (CF99 h3)::es 6 [])) [],re 2,bb h4,re 1] .ret λ_ _ k j=>hr k j
 obtain⟨v7,h8,hF⟩:=Xa hF
 obtain rfl:=soj hF
 exact g_rh 1 [re 2,.r (es 1 (kC (CF99 h3)::es 6 [])) [],re 2,bb h4,re 2,.r (es 3 (kQ [3,0,2] [] 0 0 (CF208_2 h8)::es 1 [])) []] .ret λ_ _ k j=>hr k j
theorem CF131_5 {v0 v1 v2 out} (hF:F131_5 v0 v1 v2=some out):ACall Tryz.prog 131 [.bp 0 0,(.fn (.func 206) [] [.bp 2 0])] (hC v0 v1 v2++[.cells [(fk 139)]]) (λq h=>q=(.tup [])/\h=(hC v0 v1 out++[.cells [(fk 139)]])):=by
 refine gC Tryz.func131 ?_
 refine gP 0 [.r (es 5 (kL 22 c75 v0.fc::es 1 [])) []] [(0,.bp 0 0),(1,(.fn (.func 206) [] [.bp 2 0])),(10,eS 22 c75 v0.fc),(11,iP (ln v0.fc)),(12,iP 0)] (hC v0 v1 v2++[.cells [(fk 139)]]) ?_
 refine gB 0 ?_
 obtain⟨o7,ho7,hF⟩:=Xa hF
 refine gL ho7 (λ(v4,v5)=>([(0,.bp 0 0),(1,(.fn (.func 206) [] [.bp 2 0])),(10,eS 22 c75 v0.fc),(11,iP (ln v0.fc)),(12,iP v4)],(hC v0 v1 v5++[.cells [(fk 139)]]))) wm ?_
 rintro⟨v4,v5⟩ o8 h9 h10
 rcases cor h9 with⟨h12,h9⟩|⟨h12,h9⟩
 ·obtain⟨v13,h14,v17,h18,v24,h25,h9⟩:=bs3 h9
  cases h9
  exact g_tc 3 [re 1,bb h12,.r (es 1 (kX 22 c75 h14::es 4 [])) [],.r (es 4 (kQ [2] [] 0 1 (CF206_2 h18)::es 2 [])) (kK [0,1] [] 0 0 (Yb h25)::[]),re 2] .normal λ_ _ hw=>⟨rfl,hw⟩
 cases h9
 obtain rfl:=h10 _ rfl
 obtain rfl:=soj hF
 exact g_rh 3 [re 1,bb h12] (.exit 0) λ_ _ k j=>Xi (hn k j)
theorem CF137_2 {v0 v1 v2 out} (hF:F137_2 v0 v1 v2=some out):ACall Tryz.prog 137 [.bp 0 0,(fk 139)] (hC v0 v1 v2) (λq h=>q=(.tup [])/\h=(hC v0 v1 out)):=by
 refine gC Tryz.func137 ?_
 obtain⟨v7,h8,hF⟩:=Xa hF
 obtain rfl:=soj hF
 exact g_rh 2 [re 1,.r (es 2 (kK [0,1,2] [] 0 0 (CF131_5 h8)::[])) []] .normal λ_ _ k j=>hn k j
theorem CF66_1 {v0 v1 v2 out} (hF:F66_1 v0 v1 v2=some out):ACall Tryz.prog 66 [.bp 0 0] (hC v0 v1 v2) (λq h=>q=(.tup [])/\h=(hC v0 v1 out)):=by
 refine gC Tryz.func66 ?_
 obtain⟨v7,h8,hF⟩:=Xa hF
 obtain rfl:=soj hF
 exact g_rh 2 [.r (es 1 (kK [0,1] [] 0 0 (CF137_2 h8)::[])) []] .normal λ_ _ k j=>hn k j
theorem CF141 {v0 v1 out} (hF:F141 v0 v1=some out):A0 141 [.agg (c236 v0),.agg (c147 v1)] (bP out):=by
 refine gC Tryz.func141 ?_
 obtain⟨v2,h3,hF⟩:=Xa hF
 obtain rfl:=soj hF
 exact gE [re 3,.r (es 1 (kC (CF142 h3)::es 2 [])) []]
theorem CF140_1 {v0 v1 v2 out} (hF:F140_1 v0 v1 v2=some out):ACall Tryz.prog 140 [.bp 0 0,(fk 141)] (hC v0 v1 v2) (λq h=>q=(.tup [])/\h=(hC v0 v1 out)):=by
 refine gC Tryz.func140 ?_
 refine gP 0 [.r (es 5 (kL 22 c75 v0.fc::es 1 [])) []] [(0,.bp 0 0),(1,(fk 141)),(16,eS 22 c75 v0.fc),(17,iP (ln v0.fc)),(18,iP 0)] (hC v0 v1 v2) ?_
 refine gB 0 ?_
 obtain⟨o7,ho7,hF⟩:=Xa hF
 refine gL ho7 (λ(v4,v5)=>([(0,.bp 0 0),(1,(fk 141)),(16,eS 22 c75 v0.fc),(17,iP (ln v0.fc)),(18,iP v4)],hC v0 v1 v5)) wm ?_
 rintro⟨v4,v5⟩ o8 h9 h10
 rcases cor h9 with⟨h12,h9⟩|⟨h12,h9⟩
 ·refine gP 1 [re 1,bb h12] [(0,.bp 0 0),(1,(fk 141)),(16,eS 22 c75 v0.fc),(17,iP (ln v0.fc)),(18,iP v4)] (hC v0 v1 v5) ?_
  refine gM (λ(v13:List G159)=>([(0,.bp 0 0),(1,(fk 141)),(16,eS 22 c75 v0.fc),(17,iP (ln v0.fc)),(18,iP v4)],hC v0 v1 v13,Qf v4 v13)) o8 ?_ ?_
  ·rintro v13 h9
   cases h9
   exact g_to [re 2] .normal λ_ hw=>⟨rfl,hw⟩
  refine gB 1 ?_
  obtain⟨v15,h16,h9⟩:=Xa h9
  refine gP 1 [.r (es 1 (kX 22 c75 h16::es 4 [])) [],.r (es 2 (kL 2 c95 v15.fe::es 1 [])) []] [(0,.bp 0 0),(1,(fk 141)),(4,iP v4),(16,eS 22 c75 v0.fc),(17,iP (ln v0.fc)),(18,iP v4),(24,eS 2 c95 v15.fe),(25,iP (ln v15.fe)),(26,iP 0)] (hC v0 v1 v5++[.cells (c75 v15)]) ?_
  refine gB 2 ?_
  obtain⟨o20,ho20,h9⟩:=Xa h9
  refine gL ho20 (λ(v17,v18)=>([(0,.bp 0 0),(1,(fk 141)),(4,iP v4),(16,eS 22 c75 v0.fc),(17,iP (ln v0.fc)),(18,iP v4),(24,eS 2 c95 v15.fe),(25,iP (ln v15.fe)),(26,iP v17)],hC v0 v1 v18++[.cells (c75 v15)])) wm ?_
  rintro⟨v17,v18⟩ o21 h22 h23
  rcases cor h22 with⟨h25,h22⟩|⟨h25,h22⟩
  ·refine gP 1 [re 1,bb h25] [(0,.bp 0 0),(1,(fk 141)),(4,iP v4),(16,eS 22 c75 v0.fc),(17,iP (ln v0.fc)),(18,iP v4),(24,eS 2 c95 v15.fe),(25,iP (ln v15.fe)),(26,iP v17)] (hC v0 v1 v18++[.cells (c75 v15)]) ?_
   refine gM (λ(v26:List G159)=>([(0,.bp 0 0),(1,(fk 141)),(4,iP v4),(16,eS 22 c75 v0.fc),(17,iP (ln v0.fc)),(18,iP v4),(24,eS 2 c95 v15.fe),(25,iP (ln v15.fe)),(26,iP v17)],hC v0 v1 v26++[.cells (c75 v15)],Qe v17 v26)) o21 ?_ ?_
   ·rintro v26 h22
    cases h22
    exact g_to [re 2] .normal λ_ hw=>⟨rfl,hw⟩
   refine gB 3 ?_
   obtain⟨v28,h29,h22⟩:=Xa h22
   refine gP 1 [.r (es 1 (kX 2 c95 h29::es 4 [])) [],.r (es 2 (kL 2 c100 v28.ff::es 1 [])) []] [(0,.bp 0 0),(1,(fk 141)),(4,iP v4),(6,iP v17),(16,eS 22 c75 v0.fc),(17,iP (ln v0.fc)),(18,iP v4),(24,eS 2 c95 v15.fe),(25,iP (ln v15.fe)),(26,iP v17),(32,eS 2 c100 v28.ff),(33,iP (ln v28.ff)),(34,iP 0)] (hC v0 v1 v18++[.cells (c75 v15),.cells (c95 v28)]) ?_
   refine gB 4 ?_
   obtain⟨o33,ho33,h22⟩:=Xa h22
   refine gL ho33 (λ(v30,v31)=>([(0,.bp 0 0),(1,(fk 141)),(4,iP v4),(6,iP v17),(16,eS 22 c75 v0.fc),(17,iP (ln v0.fc)),(18,iP v4),(24,eS 2 c95 v15.fe),(25,iP (ln v15.fe)),(26,iP v17),(32,eS 2 c100 v28.ff),(33,iP (ln v28.ff)),(34,iP v30)],hC v0 v1 v31++[.cells (c75 v15),.cells (c95 v28)])) wm ?_
   rintro⟨v30,v31⟩ o34 h35 h36
   rcases cor h35 with⟨h38,h35⟩|⟨h38,h35⟩
   ·refine gP 1 [re 1,bb h38] [(0,.bp 0 0),(1,(fk 141)),(4,iP v4),(6,iP v17),(16,eS 22 c75 v0.fc),(17,iP (ln v0.fc)),(18,iP v4),(24,eS 2 c95 v15.fe),(25,iP (ln v15.fe)),(26,iP v17),(32,eS 2 c100 v28.ff),(33,iP (ln v28.ff)),(34,iP v30)] (hC v0 v1 v31++[.cells (c75 v15),.cells (c95 v28)]) ?_
    refine gM (λ(v39:List G159)=>([(0,.bp 0 0),(1,(fk 141)),(4,iP v4),(6,iP v17),(16,eS 22 c75 v0.fc),(17,iP (ln v0.fc)),(18,iP v4),(24,eS 2 c95 v15.fe),(25,iP (ln v15.fe)),(26,iP v17),(32,eS 2 c100 v28.ff),(33,iP (ln v28.ff)),(34,iP v30)],hC v0 v1 v39++[.cells (c75 v15),.cells (c95 v28)],Qd v30 v39)) o34 ?_ ?_
    ·rintro v39 h35
     cases h35
     exact g_to [re 2] .normal λ_ hw=>⟨rfl,hw⟩
    refine gB 5 ?_
    obtain⟨v41,h42,h35⟩:=Xa h35
    refine gP 1 [.r (es 1 (kX 2 c100 h42::es 4 [])) [],.r (es 2 (kL 13 c147 v41.fg::es 1 [])) []] [(0,.bp 0 0),(1,(fk 141)),(4,iP v4),(6,iP v17),(8,iP v30),(16,eS 22 c75 v0.fc),(17,iP (ln v0.fc)),(18,iP v4),(24,eS 2 c95 v15.fe),(25,iP (ln v15.fe)),(26,iP v17),(32,eS 2 c100 v28.ff),(33,iP (ln v28.ff)),(34,iP v30),(40,eS 13 c147 v41.fg),(41,iP (ln v41.fg)),(42,iP 0)] (hC v0 v1 v31++[.cells (c75 v15),.cells (c95 v28),.cells (c100 v41)]) ?_
    refine gB 6 ?_
    obtain⟨o46,ho46,h35⟩:=Xa h35
    refine gL ho46 (λ(v43,v44)=>([(0,.bp 0 0),(1,(fk 141)),(4,iP v4),(6,iP v17),(8,iP v30),(16,eS 22 c75 v0.fc),(17,iP (ln v0.fc)),(18,iP v4),(24,eS 2 c95 v15.fe),(25,iP (ln v15.fe)),(26,iP v17),(32,eS 2 c100 v28.ff),(33,iP (ln v28.ff)),(34,iP v30),(40,eS 13 c147 v41.fg),(41,iP (ln v41.fg)),(42,iP v43)],hC v0 v1 v44++[.cells (c75 v15),.cells (c95 v28),.cells (c100 v41)])) wm ?_
    rintro⟨v43,v44⟩ o47 h48 h49
    rcases cor h48 with⟨h51,h48⟩|⟨h51,h48⟩
    ·obtain⟨v52,h53,v54,h55,v61,h62,h48⟩:=bs3 h48
     cases h48
     exact g_tc 5 [re 1,bb h51,.r (es 1 (kX 13 c147 h53::es 4 [])) [],.r (es 8 (kC (CF141 h55)::es 2 [])) (kK [0,1] [] 0 0 (Yb h62)::[]),re 2] .normal λ_ _ hw=>⟨rfl,hw⟩
    cases h48
    obtain rfl:=h49 _ rfl
    exact g_tc 4 [re 1,bb h51] (.exit 6) λ_ _ hw=>Xi (⟨_,_,hw,v44,h35,rfl,rfl⟩)
   cases h35
   obtain rfl:=h36 _ rfl
   exact g_tc 3 [re 1,bb h38] (.exit 4) λ_ _ hw=>Xi (⟨_,_,hw,v31,h22,rfl,rfl⟩)
  cases h22
  obtain rfl:=h23 _ rfl
  exact g_tc 2 [re 1,bb h25] (.exit 2) λ_ _ hw=>Xi (⟨_,_,hw,v18,h9,rfl,rfl⟩)
 cases h9
 obtain rfl:=h10 _ rfl
 obtain rfl:=soj hF
 exact g_rh 2 [re 1,bb h12] (.exit 0) λ_ _ k j=>Xi (hn k j)
theorem CF67_1 {v0 v1 v2 out} (hF:F67_1 v0 v1 v2=some out):ACall Tryz.prog 67 [.bp 0 0] (hC v0 v1 v2) (λq h=>q=(.tup [])/\h=(hC v0 v1 out)):=by
 refine gC Tryz.func67 ?_
 obtain⟨v7,h8,hF⟩:=Xa hF
 obtain rfl:=soj hF
 exact g_rh 2 [.r (es 1 (kK [0,1] [] 0 0 (CF140_1 h8)::[])) []] .normal λ_ _ k j=>hn k j
theorem CF144 {v0 v1 out} (hF:F144 v0 v1=some out):A0 144 [.agg (c27 v0),iP v1] (.tup [iP out.1,iP out.2.1,iP out.2.2]):=by
 refine gC Tryz.func144 ?_
 rcases cor hF with⟨h2,hF⟩|⟨h2,hF⟩
 ·obtain rfl:=soj hF
  exact gE [re 4,re 2,bb h2,re 3]
 refine gP 1 [re 4,re 2,bb h2] [(1,iP v1),(2,.bp 0 0)] [.cells (c27 v0)] ?_
 refine gM (λ(_:Unit)=>([],[],JF144_3)) out ?_ ?_
 ·rintro⟨⟩ hF
  obtain rfl:=soj hF
  exact gE [re 3]
 refine gP 0 [.r (es 2 (kL 6 c68 v0.fh::es 1 [])) []] [(1,iP v1),(12,eS 6 c68 v0.fh),(13,iP (ln v0.fh)),(14,iP 0)] [.cells (c27 v0)] ?_
 refine gB 0 ?_
 obtain⟨o8,ho8,hF⟩:=Xa hF
 refine gL ho8 (λ(v4,v5)=>([(1,iP v4),(12,eS 6 c68 v0.fh),(13,iP (ln v0.fh)),(14,iP v5)],[.cells (c27 v0)])) wm ?_
 rintro⟨v4,v5⟩ o9 h10 h11
 rcases cor h10 with⟨h13,h10⟩|⟨h13,h10⟩
 ·obtain⟨v14,h15,h10⟩:=Xa h10
  rcases cor h10 with⟨h16,h10⟩|⟨h16,h10⟩
  ·cases h10
   obtain rfl:=h11 _ rfl
   obtain rfl:=soj hF
   exact gE [re 1,bb h13,.r (es 1 (kX 6 c68 h15::es 4 [])) [],.r (es 3 (kL 3 c184 v14.ft::es 1 [])) [],bb h16,re 5]
  cases h10
  exact g_tc 1 [re 1,bb h13,.r (es 1 (kX 6 c68 h15::es 4 [])) [],.r (es 3 (kL 3 c184 v14.ft::es 1 [])) [],bb h16,.r (es 3 (kL 3 c184 v14.ft::es 2 [])) [],re 2] .normal λ_ _ hw=>⟨rfl,hw⟩
 cases h10
 obtain rfl:=h11 _ rfl
 exact g_tc 0 [re 1,bb h13] (.exit 0) λ_ _ hw=>Xi (⟨_,_,hw,(),hF,rfl,rfl⟩)
theorem CF145_1 {v0 v1 out} (hF:F145_1 v0 v1=some out):ACall Tryz.prog 145 [.agg (c80 v0),.bp 0 0] [.cells [iP v1]] (λq h=>q=(bP out)/\h=[.cells [iP v1]]):=by
 refine gC Tryz.func145 ?_
 obtain⟨v2,h3,v4,h5,hF⟩:=bs2 hF
 obtain rfl:=soj hF
 exact g_rh 1 [re 2,.r (es 1 (kC (CF77 h3)::es 5 [])) [],.r (es 3 (kC (Xx h5)::es 2 [])) []] .ret λ_ _ k j=>hr k j
theorem CF147_1 {v0 v1 out} (hF:F147_1 v0 v1=some out):ACall Tryz.prog 147 [.agg (c182 v0),.bp 0 0] [.cells [(.fn (.func 145) [] [.bp 1 0])],.cells [iP v1]] (λq h=>q=(bP out)/\h=[.cells [(.fn (.func 145) [] [.bp 1 0])],.cells [iP v1]]):=by
 refine gC Tryz.func147 ?_
 obtain⟨v4,h5,hF⟩:=Xa hF
 obtain rfl:=soj hF
 exact g_rh 2 [re 2,.r (es 3 (kQ [1] [] 0 1 (CF145_1 h5)::es 1 [])) []] .ret λ_ _ k j=>hr k j
theorem CF222_1 {v0 v1 out} (hF:F222_1 v0 v1=some out):ACall Tryz.prog 222 [eS 5 c182 v0,(.fn (.func 147) [] [.bp 0 0])] [.cells [(.fn (.func 145) [] [.bp 1 0])],.cells [iP v1]] (λq h=>q=(iP out)/\h=[.cells [(.fn (.func 145) [] [.bp 1 0])],.cells [iP v1]]):=by
 refine gC Tryz.func222 ?_
 refine gP 0 [re 1] [(0,eS 5 c182 v0),(1,(.fn (.func 147) [] [.bp 0 0]))] [.cells [(.fn (.func 145) [] [.bp 1 0])],.cells [iP v1]] ?_
 refine gM (λ(_:Unit)=>([],[.cells [(.fn (.func 145) [] [.bp 1 0])],.cells [iP v1]],JF222_1_2)) out ?_ ?_
 ·rintro⟨⟩ hF
  obtain rfl:=soj hF
  exact g_rh 2 [re 1] .ret λ_ _ k j=>hr k j
 refine gP 0 [.r (es 1 (kL 5 c182 v0::es 1 [])) []] [(0,eS 5 c182 v0),(1,(.fn (.func 147) [] [.bp 0 0])),(7,iP (ln v0)),(8,iP 0)] [.cells [(.fn (.func 145) [] [.bp 1 0])],.cells [iP v1]] ?_
 refine gB 0 ?_
 obtain⟨o5,ho5,hF⟩:=Xa hF
 refine gL ho5 (λv3=>([(0,eS 5 c182 v0),(1,(.fn (.func 147) [] [.bp 0 0])),(7,iP (ln v0)),(8,iP v3)],[.cells [(.fn (.func 145) [] [.bp 1 0])],.cells [iP v1]])) wm ?_
 rintro v3 o6 h7 h8
 rcases cor h7 with⟨h10,h7⟩|⟨h10,h7⟩
 ·obtain⟨v11,h12,v15,h16,h7⟩:=bs2 h7
  rcases cor h7 with⟨h17,h7⟩|⟨h17,h7⟩
  ·cases h7
   obtain rfl:=h8 _ rfl
   obtain rfl:=soj hF
   exact g_rh 2 [re 1,bb h10,re 2,.r (es 3 (kX 5 c182 h12::es 1 (kQ [0,1] [] 0 1 (CF147_1 h16)::[]))) [],bb h17,re 2] .ret λ_ _ k j=>hr k j
  cases h7
  exact g_to [re 1,bb h10,re 2,.r (es 3 (kX 5 c182 h12::es 1 (kQ [0,1] [] 0 1 (CF147_1 h16)::[]))) [],bb h17,re 2] .normal λ_ hw=>⟨rfl,hw⟩
 cases h7
 obtain rfl:=h8 _ rfl
 exact g_to [re 1,bb h10] (.exit 0) λ_ hw=>Xi (⟨_,_,hw,(),hF,rfl,rfl⟩)
theorem CF146_1 {v0 v1 out} (hF:F146_1 v0 v1=some out):ACall Tryz.prog 146 [eS 5 c182 v0,(.fn (.func 147) [] [.bp 0 0])] [.cells [(.fn (.func 145) [] [.bp 1 0])],.cells [iP v1]] (λq h=>q=(bP out)/\h=[.cells [(.fn (.func 145) [] [.bp 1 0])],.cells [iP v1]]):=by
 refine gC Tryz.func146 ?_
 obtain⟨v4,h5,hF⟩:=Xa hF
 obtain rfl:=soj hF
 exact g_rh 2 [re 1,.r (es 2 (kQ [0,1] [] 0 0 (CF222_1 h5)::es 2 [])) []] .ret λ_ _ k j=>hr k j
theorem CF149_1 {v0 v1 out} (hF:F149_1 v0 v1=some out):ACall Tryz.prog 149 [.agg (c245 v0),.bp 0 0] [.cells [(.fn (.func 145) [] [.bp 1 0])],.cells [iP v1]] (λq h=>q=(bP out)/\h=[.cells [(.fn (.func 145) [] [.bp 1 0])],.cells [iP v1]]):=by
 refine gC Tryz.func149 ?_
 obtain⟨v4,h5,hF⟩:=Xa hF
 obtain rfl:=soj hF
 exact g_rh 2 [re 2,.r (es 3 (kQ [1] [] 0 1 (CF145_1 h5)::es 1 [])) []] .ret λ_ _ k j=>hr k j
theorem CF223_1 {v0 v1 out} (hF:F223_1 v0 v1=some out):ACall Tryz.prog 223 [eS 5 c245 v0,(.fn (.func 149) [] [.bp 0 0])] [.cells [(.fn (.func 145) [] [.bp 1 0])],.cells [iP v1]] (λq h=>q=(iP out)/\h=[.cells [(.fn (.func 145) [] [.bp 1 0])],.cells [iP v1]]):=by
 refine gC Tryz.func223 ?_
 refine gP 0 [re 1] [(0,eS 5 c245 v0),(1,(.fn (.func 149) [] [.bp 0 0]))] [.cells [(.fn (.func 145) [] [.bp 1 0])],.cells [iP v1]] ?_
 refine gM (λ(_:Unit)=>([],[.cells [(.fn (.func 145) [] [.bp 1 0])],.cells [iP v1]],JF223_1_2)) out ?_ ?_
 ·rintro⟨⟩ hF
  obtain rfl:=soj hF
  exact g_rh 2 [re 1] .ret λ_ _ k j=>hr k j
 refine gP 0 [.r (es 1 (kL 5 c245 v0::es 1 [])) []] [(0,eS 5 c245 v0),(1,(.fn (.func 149) [] [.bp 0 0])),(7,iP (ln v0)),(8,iP 0)] [.cells [(.fn (.func 145) [] [.bp 1 0])],.cells [iP v1]] ?_
 refine gB 0 ?_
 obtain⟨o5,ho5,hF⟩:=Xa hF
 refine gL ho5 (λv3=>([(0,eS 5 c245 v0),(1,(.fn (.func 149) [] [.bp 0 0])),(7,iP (ln v0)),(8,iP v3)],[.cells [(.fn (.func 145) [] [.bp 1 0])],.cells [iP v1]])) wm ?_
 rintro v3 o6 h7 h8
 rcases cor h7 with⟨h10,h7⟩|⟨h10,h7⟩
 ·obtain⟨v11,h12,v15,h16,h7⟩:=bs2 h7
  rcases cor h7 with⟨h17,h7⟩|⟨h17,h7⟩
  ·cases h7
   obtain rfl:=h8 _ rfl
   obtain rfl:=soj hF
   exact g_rh 2 [re 1,bb h10,re 2,.r (es 3 (kX 5 c245 h12::es 1 (kQ [0,1] [] 0 1 (CF149_1 h16)::[]))) [],bb h17,re 2] .ret λ_ _ k j=>hr k j
  cases h7
  exact g_to [re 1,bb h10,re 2,.r (es 3 (kX 5 c245 h12::es 1 (kQ [0,1] [] 0 1 (CF149_1 h16)::[]))) [],bb h17,re 2] .normal λ_ hw=>⟨rfl,hw⟩
 cases h7
 obtain rfl:=h8 _ rfl
 exact g_to [re 1,bb h10] (.exit 0) λ_ hw=>Xi (⟨_,_,hw,(),hF,rfl,rfl⟩)
theorem CF148_1 {v0 v1 out} (hF:F148_1 v0 v1=some out):ACall Tryz.prog 148 [eS 5 c245 v0,(.fn (.func 149) [] [.bp 0 0])] [.cells [(.fn (.func 145) [] [.bp 1 0])],.cells [iP v1]] (λq h=>q=(bP out)/\h=[.cells [(.fn (.func 145) [] [.bp 1 0])],.cells [iP v1]]):=by
 refine gC Tryz.func148 ?_
 obtain⟨v4,h5,hF⟩:=Xa hF
 obtain rfl:=soj hF
 exact g_rh 2 [re 1,.r (es 2 (kQ [0,1] [] 0 0 (CF223_1 h5)::es 2 [])) []] .ret λ_ _ k j=>hr k j
end
end Go.Proofs.YtibndgdocbbbeaaGreat
