/- A part of the proof. -/
import Derived.Test.YtnjmaohblihppaaGreatDoorFC4
import Derived.Test.YtnjmaohblihppaaGreatDoorKN
import Derived.Test.YtnjmaohblihppaaGreatDoorRR
set_option linter.all false
set_option maxRecDepth 100000
set_option maxHeartbeats 40000000
namespace Go.Proofs.YtnjmaohblihppaaGreatDoor
open Go.PE
noncomputable section
def JF24_1:Option (G35×Bool):=some ((⟨0,(⟨0,0⟩:G33)⟩:G35),false)
def LF24_12 (v2:Sl G35) (v4:Int):Option (Int⊕((Int×Int×Int)⊕Unit)):=bif (decide (v4<(ln v2)))then ((gx (Sl.es v2) v4).bind λv14=>some (.inr (.inl (v14.fi,v14.fm.fp,v14.fm.fq))))else (some (.inr (.inr ())))
def F24 (v0:G27):Option (G35×Bool):=(F32 v0).bind λv2=>(Xj (λ(v4:Int)=>LF24_12 v2 v4) 0).bind λo8=>match o8 with|(.inl (v5,v6,v7))=>some ((⟨v5,(⟨v6,v7⟩:G33)⟩:G35),true)|(.inr ())=>JF24_1
theorem CF24 {v0 out} (hF:F24 v0=some out):A0 24 [.agg (c27 v0)] (.tup [.agg (c35 out.1),bP out.2]):=by
 refine gC Tryz.func24 ?_
 refine gP 0 [re 3] [(1,.bp 0 0),(2,.bp 1 0)] [.cells (c27 v0),.cells [iP 0,iP 0,iP 0]] ?_
 refine gM (λ(_:Unit)=>([(2,.bp 1 0)],[.cells (c27 v0),.cells [iP 0,iP 0,iP 0]],JF24_1)) out ?_ ?_
 ·rintro⟨⟩ hF
  obtain rfl:=soj hF
  exact gE [re 3]
 obtain⟨v2,h3,hF⟩:=Xa hF
 refine gP 0 [.r (es 1 (kC (CF32 h3)::kL 3 c35 v2::es 1 [])) []] [(2,.bp 1 0),(7,eS 3 c35 v2),(8,iP (ln v2)),(9,iP 0)] [.cells (c27 v0),.cells [iP 0,iP 0,iP 0]] ?_
 refine gB 0 ?_
 obtain⟨o8,ho8,hF⟩:=Xa hF
 refine gL ho8 (λv4=>([(2,.bp 1 0),(7,eS 3 c35 v2),(8,iP (ln v2)),(9,iP v4)],[.cells (c27 v0),.cells [iP 0,iP 0,iP 0]])) wm ?_
 rintro v4 o9 h10 h11
 rcases cor h10 with⟨h13,h10⟩|⟨h13,h10⟩
 ·obtain⟨v14,h15,h10⟩:=Xa h10
  cases h10
  obtain rfl:=h11 _ rfl
  obtain rfl:=soj hF
  exact gE [re 1,bb h13,.r (kX 3 c35 h15::es 3 []) [],re 3]
 cases h10
 obtain rfl:=h11 _ rfl
 exact g_to [re 1,bb h13] (.exit 0) λ_ hw=>Xh (⟨_,_,hw,(),hF,rfl,rfl⟩)
def JF8_21 (v14:(Sl G35)×Int) (v20:Int):Option Bool:=bif (v20==(ln v14.1))then (some (v14.2==0))else (some false)
def JF8_33 (v24:Int) (v32:Int):Option ((Int×Int)⊕Unit⊕Int):=some (.inl (v32,wi (v24+1)))
def JF8_38 (v24:Int) (v23:Int) (v37:Bool):Option ((Int×Int)⊕Unit⊕Int):=bif v37 then (some (.inr (.inl ())))else (JF8_33 v24 (wi (v23+1)))
def LF8_30 (v7:Sl G35) (v1:Int) (v14:(Sl G35)×Int) (v23:Int) (v24:Int):Option ((Int×Int)⊕Unit⊕Int):=bif (decide (v24<(ln v7)))then ((gx (Sl.es v7) v24).bind λv34=>bif (v34.fi !=v1)then (JF8_33 v24 v23)else (bif (decide (v23>=(ln v14.1)))then (JF8_38 v24 v23 true)else ((gx (Sl.es v14.1) v23).bind λv41=>(gx (Sl.es v7) v24).bind λv43=>JF8_38 v24 v23 (!((v41.fi==v43.fi)&&((v41.fm.fp==v43.fm.fp)&&((v41.fm.fq==v43.fm.fq)&&true)))))))else (some (.inr (.inr v23)))
def JF8_17 (v14:(Sl G35)×Int) (v7:Sl G35) (v1:Int) (v16:Bool):Option Bool:=bif v16 then (bif ((ln v14.1)==0)then (some (v14.2==11))else (some false))else ((Xj (λ(x:Int×Int)=>match x with|(v23,v24)=>LF8_30 v7 v1 v14 v23 v24) (0,0)).bind λo26=>match o26 with|(.inl ())=>some false|(.inr v25)=>JF8_21 v14 v25)
def JF8_12 (v0:G27) (v1:Int) (v7:Sl G35) (v11:Bool):Option Bool:=bif v11 then (some false)else ((F25 v0 v1).bind λv14=>bif (decide (v1<1))then (JF8_17 v14 v7 v1 true)else (JF8_17 v14 v7 v1 (decide (v1>17))))
def JF8_3 (v0:G27) (v1:Int) (v2:Bool):Option Bool:=bif v2 then ((F10).bind λv5=>some v5)else ((F12 v0).bind λv7=>(F24 v0).bind λv9=>(F13 v0).bind λv46=>bif (!(v46==((ln v7)==0)))then (JF8_12 v0 v1 v7 true)else (bif (!(v9.2==(decide ((ln v7)>0))))then (JF8_12 v0 v1 v7 true)else (bif v9.2 then ((gx (Sl.es v7) 0).bind λv51=>bif (!((v9.1.fi==v51.fi)&&((v9.1.fm.fp==v51.fm.fp)&&((v9.1.fm.fq==v51.fm.fq)&&true))))then (JF8_12 v0 v1 v7 true)else (bif (!v9.2)then (JF8_12 v0 v1 v7 (!((v9.1.fi==0)&&((v9.1.fm.fp==0)&&((v9.1.fm.fq==0)&&true)))))else (JF8_12 v0 v1 v7 false)))else (bif (!v9.2)then (JF8_12 v0 v1 v7 (!((v9.1.fi==0)&&((v9.1.fm.fp==0)&&((v9.1.fm.fq==0)&&true)))))else (JF8_12 v0 v1 v7 false)))))
def F8 (v0:G27) (v1:Int):Option Bool:=(F10).bind λv56=>bif (!v56)then (JF8_3 v0 v1 true)else ((F11 v0).bind λv59=>JF8_3 v0 v1 (!v59))
theorem CF8 {v0 v1 out} (hF:F8 v0 v1=some out):A0 8 [.agg (c27 v0),iP v1] (bP out):=by
 refine gC Tryz.func8 ?_
 refine gP 0 [re 2] [(1,iP v1),(2,.bp 0 0)] [.cells (c27 v0)] ?_
 refine gS ?_
 refine gM (λ(v2:Bool)=>([(1,iP v1),(2,.bp 0 0),(18,bP v2)],[.cells (c27 v0)],JF8_3 v0 v1 v2)) out ?_ ?_
 ·rintro v2 hF
  rcases cor hF with⟨h4,hF⟩|⟨h4,hF⟩
  ·obtain⟨v5,h6,hF⟩:=Xa hF
   obtain rfl:=soj hF
   exact gE [bb h4,.r (kC (CF10 h6)::es 1 []) []]
  refine Xf [bb h4] .normal [(1,iP v1),(2,.bp 0 0)] [.cells (c27 v0)] (λe hw=>?_)
  refine⟨_,_,hw,?_⟩
  obtain⟨v7,h8,v9,h10,hF⟩:=bs2 hF
  refine gP 1 [.r (es 1 (kC (CF12 h8)::es 1 [])) [],.r (es 1 (kC (CF24 h10)::es 6 [])) []] [(1,iP v1),(2,.bp 0 0),(5,eS 3 c35 v7),(6,.bp 1 0),(7,bP v9.2)] [.cells (c27 v0),.cells [iP v9.1.fi,iP v9.1.fm.fp,iP v9.1.fm.fq]] ?_
  refine gS ?_
  refine gM (λ(v11:Bool)=>([(1,iP v1),(2,.bp 0 0),(5,eS 3 c35 v7),(58,bP v11)],[.cells (c27 v0)],JF8_12 v0 v1 v7 v11)) out ?_ ?_
  ·rintro v11 hF
   rcases cor hF with⟨h13,hF⟩|⟨h13,hF⟩
   ·obtain rfl:=soj hF
    exact gE [bb h13,re 1]
   refine Xf [bb h13] .normal [(1,iP v1),(2,.bp 0 0),(5,eS 3 c35 v7)] [.cells (c27 v0)] (λe hw=>?_)
   refine⟨_,_,hw,?_⟩
   obtain⟨v14,h15,hF⟩:=Xa hF
   refine gP 0 [.r (es 2 (kC (CF25 h15)::es 5 [])) []] [(1,iP v1),(5,eS 3 c35 v7),(8,eS 3 c35 v14.1),(9,iP v14.2)] [.cells (c27 v0)] ?_
   refine gS ?_
   refine gM (λ(v16:Bool)=>([(1,iP v1),(5,eS 3 c35 v7),(8,eS 3 c35 v14.1),(9,iP v14.2),(70,bP v16)],[],JF8_17 v14 v7 v1 v16)) out ?_ ?_
   ·rintro v16 hF
    rcases cor hF with⟨h18,hF⟩|⟨h18,hF⟩
    ·rcases cor hF with⟨h19,hF⟩|⟨h19,hF⟩
     ·obtain rfl:=soj hF
      exact gE [bb h18,.r (es 1 (kL 3 c35 v14.1::es 2 (rq 2 (bq h19) (kPt (bP (v14.2==11)) (bP false) h19::es 1 [])))) []]
     obtain rfl:=soj hF
     exact gE [bb h18,.r (es 1 (kL 3 c35 v14.1::es 2 (rp 2 (bq h19) (kPf (.tup []) (bP false) h19::es 1 [])))) []]
    refine Xf [bb h18] .normal [(1,iP v1),(5,eS 3 c35 v7),(8,eS 3 c35 v14.1),(9,iP v14.2)] [] (λe hw=>?_)
    refine⟨_,_,hw,?_⟩
    refine gP 0 [re 1] [(1,iP v1),(5,eS 3 c35 v7),(8,eS 3 c35 v14.1),(9,iP v14.2),(10,iP 0)] [] ?_
    refine gM (λ(v20:Int)=>([(8,eS 3 c35 v14.1),(9,iP v14.2),(10,iP v20)],[],JF8_21 v14 v20)) out ?_ ?_
    ·rintro v20 hF
     rcases cor hF with⟨h22,hF⟩|⟨h22,hF⟩
     ·obtain rfl:=soj hF
      exact gE [.r (es 2 (kL 3 c35 v14.1::es 2 (rq 2 (bq h22) (kPt (bP (v14.2==0)) (bP false) h22::es 1 [])))) []]
     obtain rfl:=soj hF
     exact gE [.r (es 2 (kL 3 c35 v14.1::es 2 (rp 2 (bq h22) (kPf (.tup []) (bP false) h22::es 1 [])))) []]
    refine gP 0 [re 1] [(1,iP v1),(5,eS 3 c35 v7),(8,eS 3 c35 v14.1),(9,iP v14.2),(10,iP 0),(11,iP 0)] [] ?_
    refine gB 0 ?_
    obtain⟨o26,ho26,hF⟩:=Xa hF
    refine gL ho26 (λ(v23,v24)=>([(1,iP v1),(5,eS 3 c35 v7),(8,eS 3 c35 v14.1),(9,iP v14.2),(10,iP v23),(11,iP v24)],[])) wm ?_
    rintro⟨v23,v24⟩ o27 h28 h29
    rcases cor h28 with⟨h31,h28⟩|⟨h31,h28⟩
    ·refine gP 0 [.r (es 2 (kL 3 c35 v7::es 1 [])) [],bb h31] [(1,iP v1),(5,eS 3 c35 v7),(8,eS 3 c35 v14.1),(9,iP v14.2),(10,iP v23),(11,iP v24)] [] ?_
     refine gM (λ(v32:Int)=>([(1,iP v1),(5,eS 3 c35 v7),(8,eS 3 c35 v14.1),(9,iP v14.2),(10,iP v32),(11,iP v24)],[],JF8_33 v24 v32)) o27 ?_ ?_
     ·rintro v32 h28
      cases h28
      exact g_to [re 3] .normal λ_ hw=>⟨rfl,hw⟩
     refine gB 1 ?_
     obtain⟨v34,h35,h28⟩:=Xa h28
     rcases cor h28 with⟨h36,h28⟩|⟨h36,h28⟩
     ·exact g_to [.r (es 2 (kX 3 c35 h35::es 4 [])) [],bb h36] (.exit 1) λ_ hw=>Xh (⟨_,_,hw,v23,h28,rfl,rfl⟩)
     refine gP 0 [.r (es 2 (kX 3 c35 h35::es 4 [])) [],bb h36] [(1,iP v1),(5,eS 3 c35 v7),(8,eS 3 c35 v14.1),(9,iP v14.2),(10,iP v23),(11,iP v24)] [] ?_
     refine gS ?_
     refine gM (λ(v37:Bool)=>([(1,iP v1),(5,eS 3 c35 v7),(8,eS 3 c35 v14.1),(9,iP v14.2),(10,iP v23),(11,iP v24),(105,bP v37)],[],JF8_38 v24 v23 v37)) o27 ?_ ?_
     ·rintro v37 h28
      rcases cor h28 with⟨h39,h28⟩|⟨h39,h28⟩
      ·cases h28
       obtain rfl:=h29 _ rfl
       obtain rfl:=soj hF
       exact gE [bb h39,re 1]
      refine Xf [bb h39] .normal [(1,iP v1),(5,eS 3 c35 v7),(8,eS 3 c35 v14.1),(9,iP v14.2),(10,iP v23),(11,iP v24)] [] (λe hw=>?_)
      refine⟨_,_,hw,?_⟩
      exact g_to [re 3] .normal λ_ hw=>⟨_,_,hw,wi (v23+1),h28,rfl,rfl⟩
     rcases cor h28 with⟨h40,h28⟩|⟨h40,h28⟩
     ·exact g_to [.r (es 2 (kL 3 c35 v14.1::es 2 (rp 8 (bq h40) []))) (bq h40::kPt (bP true) (.tup []) h40::[])] .normal λ_ hw=>⟨_,_,hw,true,h28,rfl,rfl⟩
     obtain⟨v41,h42,v43,h44,h28⟩:=bs2 h28
     exact g_to [.r (es 2 (kL 3 c35 v14.1::es 2 (rq 2 (bq h40) (bq h40::kX 3 c35 h42::rq 3 (bq h40) (bq h40::kX 3 c35 h44::bq h40::es 1 []))))) (bq h40::es 1 (kPf (bP true) (bP (!((v41.fi==v43.fi)&&((v41.fm.fp==v43.fm.fp)&&((v41.fm.fq==v43.fm.fq)&&true))))) h40::[]))] .normal λ_ hw=>⟨_,_,hw,!((v41.fi==v43.fi)&&((v41.fm.fp==v43.fm.fp)&&((v41.fm.fq==v43.fm.fq)&&true))),h28,rfl,rfl⟩
    cases h28
    obtain rfl:=h29 _ rfl
    exact g_to [.r (es 2 (kL 3 c35 v7::es 1 [])) [],bb h31] (.exit 0) λ_ hw=>Xh (⟨_,_,hw,v23,hF,rfl,rfl⟩)
   rcases cor hF with⟨h45,hF⟩|⟨h45,hF⟩
   ·exact g_tc 0 [.r (es 3 (rp 2 (bq h45) (kPt (bP true) (.tup []) h45::[]))) []] .normal λ_ _ hw=>⟨_,_,hw,true,hF,rfl,rfl⟩
   exact g_tc 0 [.r (es 3 (rq 2 (bq h45) (kPf (bP true) (bP (decide (v1>17))) h45::[]))) []] .normal λ_ _ hw=>⟨_,_,hw,decide (v1>17),hF,rfl,rfl⟩
  obtain⟨v46,h47,hF⟩:=Xa hF
  rcases cor hF with⟨h48,hF⟩|⟨h48,hF⟩
  ·exact g_tc 1 [.r (es 1 (kC (CF13 h47)::es 1 (kL 3 c35 v7::es 3 (rp 5 (bq h48) (kPt (bP true) (.tup []) h48::es 1 (rp 3 bqT (es 2 (rp 3 bqT [])))))))) (bqT::es 1 [])] .normal λ_ _ hw=>⟨_,_,hw,true,hF,rfl,rfl⟩
  rcases cor hF with⟨h49,hF⟩|⟨h49,hF⟩
  ·exact g_tc 1 [.r (es 1 (kC (CF13 h47)::es 1 (kL 3 c35 v7::es 3 (rq 2 (bq h48) (bq h48::kL 3 c35 v7::rq 2 (bq h48) (kPf (bP true) (bP (!(v9.2==(decide ((ln v7)>0))))) h48::es 1 (rp 3 (bq h49) (kPt (bP true) (.tup []) h49::es 1 (rp 3 bqT []))))))))) (bqT::es 1 [])] .normal λ_ _ hw=>⟨_,_,hw,true,hF,rfl,rfl⟩
  rcases cor hF with⟨h50,hF⟩|⟨h50,hF⟩
  ·obtain⟨v51,h52,hF⟩:=Xa hF
   rcases cor hF with⟨h53,hF⟩|⟨h53,hF⟩
   ·exact g_tc 1 [.r (es 1 (kC (CF13 h47)::es 1 (kL 3 c35 v7::es 3 (rq 2 (bq h48) (bq h48::kL 3 c35 v7::rq 2 (bq h48) (kPf (bP true) (bP (!(v9.2==(decide ((ln v7)>0))))) h48::es 1 (rq 2 (bq h49) (rq 2 (bq h50) (bq h50::kX 3 c35 h52::rq 2 (bq h50) (bq h49::kPt (bP (!((v9.1.fi==v51.fi)&&((v9.1.fm.fp==v51.fm.fp)&&((v9.1.fm.fq==v51.fm.fq)&&true))))) (bP false) h50::kPf (bP true) (bP (!((v9.1.fi==v51.fi)&&((v9.1.fm.fp==v51.fm.fp)&&((v9.1.fm.fq==v51.fm.fq)&&true))))) h49::es 1 (rp 3 (bq h53) []))))))))))) (bq h53::kPt (bP true) (.tup []) h53::[])] .normal λ_ _ hw=>⟨_,_,hw,true,hF,rfl,rfl⟩
   rcases cor hF with⟨h54,hF⟩|⟨h54,hF⟩
   ·exact g_tc 1 [.r (es 1 (kC (CF13 h47)::es 1 (kL 3 c35 v7::es 3 (rq 2 (bq h48) (bq h48::kL 3 c35 v7::rq 2 (bq h48) (kPf (bP true) (bP (!(v9.2==(decide ((ln v7)>0))))) h48::es 1 (rq 2 (bq h49) (rq 2 (bq h50) (bq h50::kX 3 c35 h52::rq 2 (bq h50) (bq h49::kPt (bP (!((v9.1.fi==v51.fi)&&((v9.1.fm.fp==v51.fm.fp)&&((v9.1.fm.fq==v51.fm.fq)&&true))))) (bP false) h50::kPf (bP true) (bP (!((v9.1.fi==v51.fi)&&((v9.1.fm.fp==v51.fm.fp)&&((v9.1.fm.fq==v51.fm.fq)&&true))))) h49::es 1 (rq 3 (bq h53) (rq 2 (bq h54) [])))))))))))) (bq h54::es 1 (bq h53::kPt (bP (!((v9.1.fi==0)&&((v9.1.fm.fp==0)&&((v9.1.fm.fq==0)&&true))))) (bP false) h54::kPf (bP true) (bP (!((v9.1.fi==0)&&((v9.1.fm.fp==0)&&((v9.1.fm.fq==0)&&true))))) h53::[]))] .normal λ_ _ hw=>⟨_,_,hw,!((v9.1.fi==0)&&((v9.1.fm.fp==0)&&((v9.1.fm.fq==0)&&true))),hF,rfl,rfl⟩
   exact g_tc 1 [.r (es 1 (kC (CF13 h47)::es 1 (kL 3 c35 v7::es 3 (rq 2 (bq h48) (bq h48::kL 3 c35 v7::rq 2 (bq h48) (kPf (bP true) (bP (!(v9.2==(decide ((ln v7)>0))))) h48::es 1 (rq 2 (bq h49) (rq 2 (bq h50) (bq h50::kX 3 c35 h52::rq 2 (bq h50) (bq h49::kPt (bP (!((v9.1.fi==v51.fi)&&((v9.1.fm.fp==v51.fm.fp)&&((v9.1.fm.fq==v51.fm.fq)&&true))))) (bP false) h50::kPf (bP true) (bP (!((v9.1.fi==v51.fi)&&((v9.1.fm.fp==v51.fm.fp)&&((v9.1.fm.fq==v51.fm.fq)&&true))))) h49::es 1 (rq 3 (bq h53) (rp 2 (bq h54) [])))))))))))) (bq h54::bq h53::kPf (.tup []) (bP false) h54::kPf (bP true) (bP false) h53::[])] .normal λ_ _ hw=>⟨_,_,hw,false,hF,rfl,rfl⟩
  rcases cor hF with⟨h55,hF⟩|⟨h55,hF⟩
  ·exact g_tc 1 [.r (es 1 (kC (CF13 h47)::es 1 (kL 3 c35 v7::es 3 (rq 2 (bq h48) (bq h48::kL 3 c35 v7::rq 2 (bq h48) (kPf (bP true) (bP (!(v9.2==(decide ((ln v7)>0))))) h48::es 1 (rq 2 (bq h49) (rp 5 (bq h50) (bq h49::kPf (.tup []) (bP false) h50::kPf (bP true) (bP false) h49::es 1 (rq 3 bqF (rq 2 (bq h55) []))))))))))) (bq h55::es 1 (bq (t:=false) (b:=false) rfl::kPt (bP (!((v9.1.fi==0)&&((v9.1.fm.fp==0)&&((v9.1.fm.fq==0)&&true))))) (bP false) h55::es 1 []))] .normal λ_ _ hw=>⟨_,_,hw,!((v9.1.fi==0)&&((v9.1.fm.fp==0)&&((v9.1.fm.fq==0)&&true))),hF,rfl,rfl⟩
  exact g_tc 1 [.r (es 1 (kC (CF13 h47)::es 1 (kL 3 c35 v7::es 3 (rq 2 (bq h48) (bq h48::kL 3 c35 v7::rq 2 (bq h48) (kPf (bP true) (bP (!(v9.2==(decide ((ln v7)>0))))) h48::es 1 (rq 2 (bq h49) (rp 5 (bq h50) (bq h49::kPf (.tup []) (bP false) h50::kPf (bP true) (bP false) h49::es 1 (rq 3 bqF (rp 2 (bq h55) []))))))))))) (bq h55::bq (t:=false) (b:=false) rfl::kPf (.tup []) (bP false) h55::es 1 [])] .normal λ_ _ hw=>⟨_,_,hw,false,hF,rfl,rfl⟩
 obtain⟨v56,h57,hF⟩:=Xa hF
 rcases cor hF with⟨h58,hF⟩|⟨h58,hF⟩
 ·exact g_to [.r (kC (CF10 h57)::es 2 (rp 3 (bq h58) (kPt (bP true) (.tup []) h58::[]))) []] .normal λ_ hw=>⟨_,_,hw,true,hF,rfl,rfl⟩
 obtain⟨v59,h60,hF⟩:=Xa hF
 exact g_to [.r (kC (CF10 h57)::es 2 (bq h58::es 1 (bq h58::kC (CF11 h60)::bq h58::es 1 (kPf (bP true) (bP (!v59)) h58::[])))) []] .normal λ_ hw=>⟨_,_,hw,!v59,hF,rfl,rfl⟩
end
end Go.Proofs.YtnjmaohblihppaaGreatDoor
