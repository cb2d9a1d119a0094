/- A part of the proof. -/
import Derived.Test.YtibndgdocbbbeaaGreatFC4
import Derived.Test.YtibndgdocbbbeaaGreatSY13
import Derived.Test.YtibndgdocbbbeaaGreatHA
set_option linter.all false
set_option maxRecDepth 100000
set_option maxHeartbeats 40000000
set_option synthInstance.maxSize 100000
namespace Go.Proofs.YtibndgdocbbbeaaGreat
open Go.PE
noncomputable section
def JF9_9 (v8:Bool):Option Bool:=some v8
def F9:Option Bool:=(F30 (⟨2,0,4⟩:G80) 0).bind λv0=>(F31 4 483840 1 (-2)).bind λv2=>(F32 (⟨4,4,(⟨0,0,0,0,0,0⟩:G69)⟩:G71) 0 241920 60).bind λv4=>(F32 (⟨4,4,(⟨0,0,0,0,0,0⟩:G69)⟩:G71) 0 362880 60).bind λv6=>bif (v0.2.2==0)then (bif (v0.1==1)then (bif (v0.2.1==(-2))then (bif (v2.2==0)then (bif ((ln v2.1)==4)then ((gx (Sl.es v2.1) 2).bind λv15=>bif ((v15.fOn==241920)&&((v15.faD==362880)&&((v15.faE==(-2))&&true)))then (bif (v4.2==0)then (bif (v4.1==290304)then (bif (v6.2==0)then (JF9_9 (v6.1==387072))else (JF9_9 false))else (JF9_9 false))else (JF9_9 false))else (JF9_9 false))else (JF9_9 false))else (JF9_9 false))else (JF9_9 false))else (JF9_9 false))else (JF9_9 false)
theorem CF9 {out} (hF:F9=some out):A0 9 [] (bP out):=by
 refine gC Tryz.func9 ?_
 obtain⟨v0,h1,v2,h3,v4,h5,hF⟩:=bs3 hF
 obtain⟨v6,h7,hF⟩:=Xa hF
 refine gP 4 [re 1,.r (es 1 (kC (CF30 h1)::es 7 [])) [],.r (kC (CF31 h3)::es 5 []) [],.r (es 1 (kC (CF32 h5)::es 5 [])) [],.r (es 1 (kC (CF32 h7)::es 5 [])) []] [(1,iP v0.1),(2,iP v0.2.1),(3,iP v0.2.2),(4,eS 3 c86 v2.1),(5,iP v2.2),(6,iP v4.1),(7,iP v4.2),(8,iP v6.1),(9,iP v6.2)] [] ?_
 refine gM (λ(v8:Bool)=>([(0,bP v8)],[],JF9_9 v8)) out ?_ ?_
 ·rintro v8 hF
  obtain rfl:=soj hF
  exact gE []
 rcases cor hF with⟨h10,hF⟩|⟨h10,hF⟩
 ·rcases cor hF with⟨h11,hF⟩|⟨h11,hF⟩
  ·rcases cor hF with⟨h12,hF⟩|⟨h12,hF⟩
   ·rcases cor hF with⟨h13,hF⟩|⟨h13,hF⟩
    ·rcases cor hF with⟨h14,hF⟩|⟨h14,hF⟩
     ·obtain⟨v15,h16,hF⟩:=Xa hF
      rcases cor hF with⟨h17,hF⟩|⟨h17,hF⟩
      ·rcases cor hF with⟨h18,hF⟩|⟨h18,hF⟩
       ·rcases cor hF with⟨h19,hF⟩|⟨h19,hF⟩
        ·rcases cor hF with⟨h20,hF⟩|⟨h20,hF⟩
         ·exact g_to [.r (es 3 (rq 2 (bq h10) (kPt (bP (v0.1==1)) (bP false) h10::es 1 (rq 2 (bq h11) (kPt (bP (v0.2.1==(-2))) (bP false) h11::es 1 (rq 2 (bq h12) (kPt (bP (v2.2==0)) (bP false) h12::es 1 (bq h13::es 1 (bq h13::kL 3 c86 v2.1::bq h13::es 1 (kPt (bP ((ln v2.1)==4)) (bP false) h13::es 1 (bq h14::es 1 (bq h14::kX 3 c86 h16::rq 3 (bq h14) (kPt (bP ((v15.fOn==241920)&&((v15.faD==362880)&&((v15.faE==(-2))&&true)))) (bP false) h14::es 1 (rq 2 (bq h17) (kPt (bP (v4.2==0)) (bP false) h17::es 1 (rq 2 (bq h18) (kPt (bP (v4.1==290304)) (bP false) h18::es 1 (rq 2 (bq h19) (kPt (bP (v6.2==0)) (bP false) h19::es 1 (rq 2 (bq h20) (kPt (bP (v6.1==387072)) (bP false) h20::es 1 []))))))))))))))))))))) []] .normal λ_ hw=>⟨_,_,hw,v6.1==387072,hF,rfl,rfl⟩
         exact g_to [.r (es 3 (rq 2 (bq h10) (kPt (bP (v0.1==1)) (bP false) h10::es 1 (rq 2 (bq h11) (kPt (bP (v0.2.1==(-2))) (bP false) h11::es 1 (rq 2 (bq h12) (kPt (bP (v2.2==0)) (bP false) h12::es 1 (bq h13::es 1 (bq h13::kL 3 c86 v2.1::bq h13::es 1 (kPt (bP ((ln v2.1)==4)) (bP false) h13::es 1 (bq h14::es 1 (bq h14::kX 3 c86 h16::rq 3 (bq h14) (kPt (bP ((v15.fOn==241920)&&((v15.faD==362880)&&((v15.faE==(-2))&&true)))) (bP false) h14::es 1 (rq 2 (bq h17) (kPt (bP (v4.2==0)) (bP false) h17::es 1 (rq 2 (bq h18) (kPt (bP (v4.1==290304)) (bP false) h18::es 1 (rq 2 (bq h19) (kPt (bP (v6.2==0)) (bP false) h19::es 1 (rp 2 (bq h20) (kPf (.tup []) (bP false) h20::es 1 []))))))))))))))))))))) []] .normal λ_ hw=>⟨_,_,hw,false,hF,rfl,rfl⟩
        exact g_to [.r (es 3 (rq 2 (bq h10) (kPt (bP (v0.1==1)) (bP false) h10::es 1 (rq 2 (bq h11) (kPt (bP (v0.2.1==(-2))) (bP false) h11::es 1 (rq 2 (bq h12) (kPt (bP (v2.2==0)) (bP false) h12::es 1 (bq h13::es 1 (bq h13::kL 3 c86 v2.1::bq h13::es 1 (kPt (bP ((ln v2.1)==4)) (bP false) h13::es 1 (bq h14::es 1 (bq h14::kX 3 c86 h16::rq 3 (bq h14) (kPt (bP ((v15.fOn==241920)&&((v15.faD==362880)&&((v15.faE==(-2))&&true)))) (bP false) h14::es 1 (rq 2 (bq h17) (kPt (bP (v4.2==0)) (bP false) h17::es 1 (rq 2 (bq h18) (kPt (bP (v4.1==290304)) (bP false) h18::es 1 (rp 2 (bq h19) (kPf (.tup []) (bP false) h19::es 1 (rp 2 bqF (es 2 []))))))))))))))))))))) []] .normal λ_ hw=>⟨_,_,hw,false,hF,rfl,rfl⟩
       exact g_to [.r (es 3 (rq 2 (bq h10) (kPt (bP (v0.1==1)) (bP false) h10::es 1 (rq 2 (bq h11) (kPt (bP (v0.2.1==(-2))) (bP false) h11::es 1 (rq 2 (bq h12) (kPt (bP (v2.2==0)) (bP false) h12::es 1 (bq h13::es 1 (bq h13::kL 3 c86 v2.1::bq h13::es 1 (kPt (bP ((ln v2.1)==4)) (bP false) h13::es 1 (bq h14::es 1 (bq h14::kX 3 c86 h16::rq 3 (bq h14) (kPt (bP ((v15.fOn==241920)&&((v15.faD==362880)&&((v15.faE==(-2))&&true)))) (bP false) h14::es 1 (rq 2 (bq h17) (kPt (bP (v4.2==0)) (bP false) h17::es 1 (rp 2 (bq h18) (kPf (.tup []) (bP false) h18::es 1 (rp 2 bqF (es 2 (rp 2 bqF (es 2 []))))))))))))))))))))) []] .normal λ_ hw=>⟨_,_,hw,false,hF,rfl,rfl⟩
      exact g_to [.r (es 3 (rq 2 (bq h10) (kPt (bP (v0.1==1)) (bP false) h10::es 1 (rq 2 (bq h11) (kPt (bP (v0.2.1==(-2))) (bP false) h11::es 1 (rq 2 (bq h12) (kPt (bP (v2.2==0)) (bP false) h12::es 1 (bq h13::es 1 (bq h13::kL 3 c86 v2.1::bq h13::es 1 (kPt (bP ((ln v2.1)==4)) (bP false) h13::es 1 (bq h14::es 1 (bq h14::kX 3 c86 h16::rq 3 (bq h14) (kPt (bP ((v15.fOn==241920)&&((v15.faD==362880)&&((v15.faE==(-2))&&true)))) (bP false) h14::es 1 (rp 2 (bq h17) (kPf (.tup []) (bP false) h17::es 1 (rp 2 bqF (es 2 (rp 2 bqF (es 2 (rp 2 bqF (es 2 []))))))))))))))))))))) []] .normal λ_ hw=>⟨_,_,hw,false,hF,rfl,rfl⟩
     exact g_to [.r (es 3 (rq 2 (bq h10) (kPt (bP (v0.1==1)) (bP false) h10::es 1 (rq 2 (bq h11) (kPt (bP (v0.2.1==(-2))) (bP false) h11::es 1 (rq 2 (bq h12) (kPt (bP (v2.2==0)) (bP false) h12::es 1 (bq h13::es 1 (bq h13::kL 3 c86 v2.1::bq h13::es 1 (kPt (bP ((ln v2.1)==4)) (bP false) h13::es 1 (rp 5 (bq h14) (kPf (.tup []) (bP false) h14::es 1 (rp 2 bqF (es 2 (rp 2 bqF (es 2 (rp 2 bqF (es 2 (rp 2 bqF (es 2 [])))))))))))))))))))) []] .normal λ_ hw=>⟨_,_,hw,false,hF,rfl,rfl⟩
    exact g_to [.r (es 3 (rq 2 (bq h10) (kPt (bP (v0.1==1)) (bP false) h10::es 1 (rq 2 (bq h11) (kPt (bP (v0.2.1==(-2))) (bP false) h11::es 1 (rq 2 (bq h12) (kPt (bP (v2.2==0)) (bP false) h12::es 1 (rp 3 (bq h13) (kPf (.tup []) (bP false) h13::es 1 (rp 5 bqF (es 2 (rp 2 bqF (es 2 (rp 2 bqF (es 2 (rp 2 bqF (es 2 (rp 2 bqF (es 2 []))))))))))))))))))) []] .normal λ_ hw=>⟨_,_,hw,false,hF,rfl,rfl⟩
   exact g_to [.r (es 3 (rq 2 (bq h10) (kPt (bP (v0.1==1)) (bP false) h10::es 1 (rq 2 (bq h11) (kPt (bP (v0.2.1==(-2))) (bP false) h11::es 1 (rp 2 (bq h12) (kPf (.tup []) (bP false) h12::es 1 (rp 3 bqF (es 2 (rp 5 bqF (es 2 (rp 2 bqF (es 2 (rp 2 bqF (es 2 (rp 2 bqF (es 2 (rp 2 bqF (es 2 []))))))))))))))))))) []] .normal λ_ hw=>⟨_,_,hw,false,hF,rfl,rfl⟩
  exact g_to [.r (es 3 (rq 2 (bq h10) (kPt (bP (v0.1==1)) (bP false) h10::es 1 (rp 2 (bq h11) (kPf (.tup []) (bP false) h11::es 1 (rp 2 bqF (es 2 (rp 3 bqF (es 2 (rp 5 bqF (es 2 (rp 2 bqF (es 2 (rp 2 bqF (es 2 (rp 2 bqF (es 2 (rp 2 bqF (es 2 []))))))))))))))))))) []] .normal λ_ hw=>⟨_,_,hw,false,hF,rfl,rfl⟩
 exact g_to [.r (es 3 (rp 2 (bq h10) (kPf (.tup []) (bP false) h10::es 1 (rp 2 bqF (es 2 (rp 2 bqF (es 2 (rp 3 bqF (es 2 (rp 5 bqF (es 2 (rp 2 bqF (es 2 (rp 2 bqF (es 2 (rp 2 bqF (es 2 (rp 2 bqF (es 2 []))))))))))))))))))) []] .normal λ_ hw=>⟨_,_,hw,false,hF,rfl,rfl⟩
end
end Go.Proofs.YtibndgdocbbbeaaGreat
