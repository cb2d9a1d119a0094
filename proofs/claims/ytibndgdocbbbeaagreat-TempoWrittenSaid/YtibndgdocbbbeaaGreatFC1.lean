/- A part of the proof. -/
import Derived.Test.YtibndgdocbbbeaaGreatFD
import Derived.Test.YtibndgdocbbbeaaGreatFB
import Derived.Test.YtibndgdocbbbeaaGreatTC
import Derived.Test.YtibndgdocbbbeaaGreatSY13
set_option linter.all false
set_option maxRecDepth 100000
set_option maxHeartbeats 40000000
set_option synthInstance.maxSize 100000
namespace Go.Proofs.YtibndgdocbbbeaaGreat
open Go.PE
noncomputable section
theorem CF326 {v0 v1 out} (hF:F326 v0 v1=some out):A0 326 [eS 4 c425 v0,iP v1] (iP out):=by
 cases hF
 exact tupletC (λt:G425=>⟨t.fal,t.fE,t.faj,t.fam⟩) (λ_=>rfl)
theorem CF202 {v0 out} (hF:F202 v0=some out):A0 202 [.sc (.int .u8 v0)] (bP out):=by
 refine gC Tryz.func202 ?_
 rcases cor hF with⟨h1,hF⟩|⟨h1,hF⟩
 ·obtain rfl:=soj hF
  exact gE [re 1,.r (es 3 (rp 2 (bq h1) (kPt (bP true) (.tup []) h1::es 1 []))) []]
 obtain rfl:=soj hF
 exact gE [re 1,.r (es 3 (rq 2 (bq h1) (kPf (bP true) (bP (v0==127)) h1::es 1 []))) []]
theorem CF275_1 {v0 out} (hF:F275_1 v0=some out):A0 275 [eS 1 (cK .u8) v0,(fk 202)] (iP out):=by
 refine gC Tryz.func275 ?_
 refine gP 0 [re 1] [(0,eS 1 (cK .u8) v0),(1,(fk 202))] [] ?_
 refine gM (λ(_:Unit)=>([],[],JF275_1_1)) out ?_ ?_
 ·rintro⟨⟩ hF
  obtain rfl:=soj hF
  exact gE [re 1]
 refine gP 0 [.r (es 1 (kL 1 (cK .u8) v0::es 1 [])) []] [(0,eS 1 (cK .u8) v0),(1,(fk 202)),(7,iP (ln v0)),(8,iP 0)] [] ?_
 refine gB 0 ?_
 obtain⟨o4,ho4,hF⟩:=Xa hF
 refine gL ho4 (λv2=>([(0,eS 1 (cK .u8) v0),(1,(fk 202)),(7,iP (ln v0)),(8,iP v2)],[])) wm ?_
 rintro v2 o5 h6 h7
 rcases cor h6 with⟨h9,h6⟩|⟨h9,h6⟩
 ·obtain⟨v10,h11,v12,h13,h6⟩:=bs2 h6
  rcases cor h6 with⟨h14,h6⟩|⟨h14,h6⟩
  ·cases h6
   obtain rfl:=h7 _ rfl
   obtain rfl:=soj hF
   exact gE [re 1,bb h9,re 2,.r (es 3 (kX 1 (cK .u8) h11::es 1 (kC (CF202 h13)::[]))) [],bb h14,re 2]
  cases h6
  exact g_to [re 1,bb h9,re 2,.r (es 3 (kX 1 (cK .u8) h11::es 1 (kC (CF202 h13)::[]))) [],bb h14,re 2] .normal λ_ hw=>⟨rfl,hw⟩
 cases h6
 obtain rfl:=h7 _ rfl
 exact g_to [re 1,bb h9] (.exit 0) λ_ hw=>Xi (⟨_,_,hw,(),hF,rfl,rfl⟩)
theorem CF203_1 {v0 out} (hF:F203_1 v0=some out):A0 203 [eS 1 (cK .u8) v0,(fk 202)] (bP out):=by
 refine gC Tryz.func203 ?_
 obtain⟨v2,h3,hF⟩:=Xa hF
 obtain rfl:=soj hF
 exact gE [re 1,.r (es 2 (kC (CF275_1 h3)::es 2 [])) []]
theorem CF124 {v0 out} (hF:F124 v0=some out):A0 124 [sP v0] (bP out):=by
 refine gC Tryz.func124 ?_
 rcases cor hF with⟨h1,hF⟩|⟨h1,hF⟩
 ·obtain⟨v2,h3,v5,h6,hF⟩:=bs2 hF
  obtain rfl:=soj hF
  exact gE [re 1,re 1,.r (es 4 (bq h1::es 1 (bq h1::⟨.fd (.strBytes (.c (sP v0))) [] [] (eS 1 (cK .u8) v2),fd_strBytes h3⟩::bq h1::es 1 (bq h1::kC (CF203_1 h6)::bq h1::es 1 (kPt (bP (!v5)) (bP false) h1::es 1 []))))) []]
 obtain rfl:=soj hF
 exact gE [re 1,re 1,.r (es 4 (rp 5 (bq h1) (kPf (.tup []) (bP false) h1::es 1 []))) []]
theorem Yb {v0 v1 v2 v3 v4 out} (hF:Yd v0 v1 v2 v3 v4=some out):ACall Tryz.prog 123 [.bp 0 0,bP v0,.agg (c58 v1)] (hC v2 v3 v4) (λq h=>q=(.tup [])/\h=(hC v2 v3 out)):=by
 refine gC Tryz.func123 ?_
 rcases cor hF with⟨h6,hF⟩|⟨h6,hF⟩
 ·obtain⟨v7,h8,hF⟩:=Xa hF
  obtain rfl:=soj hF
  exact g_rh 2 [re 1,re 1,bb h6,.r (es 12 (kA 1 3 c159 h8::[])) (es 3 [])] .normal λ_ _ k j=>hn k j
 obtain rfl:=soj hF
 exact g_rh 2 [re 1,re 1,bb h6] .normal λ_ _ k j=>hn k j
theorem Xx {v0 v1 v2 out} (hF:F125 v0 v1 v2=some out):A0 125 [iP v0,iP v1,iP v2] (bP out):=by
 refine gC Tryz.func125 ?_
 rcases cor hF with⟨h3,hF⟩|⟨h3,hF⟩
 ·obtain rfl:=soj hF
  exact gE [re 1,.r (es 4 (rq 3 (bq h3) (kPt (bP (decide (v0<=v2))) (bP false) h3::es 1 []))) []]
 obtain rfl:=soj hF
 exact gE [re 1,.r (es 4 (rp 3 (bq h3) (kPf (.tup []) (bP false) h3::es 1 []))) []]
theorem CF126 {v0 out} (hF:F126 v0=some out):A0 126 [.agg (c65 v0)] (iP out):=by
 refine gC Tryz.func126 ?_
 refine gP 0 [re 2] [(1,.bp 0 0)] [.cells (c65 v0)] ?_
 refine gS ?_
 refine gM (λ(v1:Bool)=>([(20,bP v1)],[],JF126_2 v1)) out ?_ ?_
 ·rintro v1 hF
  rcases cor hF with⟨h3,hF⟩|⟨h3,hF⟩
  ·obtain rfl:=soj hF
   exact gE [bb h3,re 1]
  refine Xk [bb h3] .normal [] [] (λe hw=>?_)
  refine⟨_,_,hw,?_⟩
  obtain rfl:=soj hF
  exact gE [re 1]
 rcases cor hF with⟨h4,hF⟩|⟨h4,hF⟩
 ·exact g_tc 0 [.r (es 4 (rp 3 (bq h4) (kPt (bP true) (.tup []) h4::es 1 (rp 3 bqT (es 2 (rp 3 bqT (es 1 []))))))) []] .normal λ_ _ hw=>⟨_,_,hw,true,hF,rfl,rfl⟩
 rcases cor hF with⟨h5,hF⟩|⟨h5,hF⟩
 ·exact g_tc 0 [.r (es 4 (rq 3 (bq h4) (kPf (bP true) (bP (decide (v0.fae>77))) h4::es 1 (rp 3 (bq h5) (kPt (bP true) (.tup []) h5::es 1 (rp 3 bqT (es 1 []))))))) []] .normal λ_ _ hw=>⟨_,_,hw,true,hF,rfl,rfl⟩
 rcases cor hF with⟨h6,hF⟩|⟨h6,hF⟩
 ·exact g_tc 0 [.r (es 4 (rq 3 (bq h4) (kPf (bP true) (bP (decide (v0.fae>77))) h4::es 1 (rq 3 (bq h5) (kPf (bP true) (bP (decide (v0.f1<(-140)))) h5::es 1 (rp 3 (bq h6) (kPt (bP true) (.tup []) h6::[]))))))) []] .normal λ_ _ hw=>⟨_,_,hw,true,hF,rfl,rfl⟩
 exact g_tc 0 [.r (es 4 (rq 3 (bq h4) (kPf (bP true) (bP (decide (v0.fae>77))) h4::es 1 (rq 3 (bq h5) (kPf (bP true) (bP (decide (v0.f1<(-140)))) h5::es 1 (rq 3 (bq h6) (kPf (bP true) (bP (decide (v0.f1>140))) h6::[]))))))) []] .normal λ_ _ hw=>⟨_,_,hw,decide (v0.f1>140),hF,rfl,rfl⟩
theorem CF123_2 {v0 v1 v2 v3 v4 v5 out} (hF:Vd v0 v1 v2 v3 v4 v5=some out):ACall Tryz.prog 123 [.bp 0 0,bP v0,.agg [iP v1,iP v2]] (hC v3 v4 v5) (λq h=>q=(.tup [])/\h=(hC v3 v4 out)):=by
 refine gC Tryz.func123 ?_
 rcases cor hF with⟨h7,hF⟩|⟨h7,hF⟩
 ·obtain⟨v8,h9,hF⟩:=Xa hF
  obtain rfl:=soj hF
  exact g_rh 2 [re 1,re 1,bb h7,.r (es 12 (kA 1 3 c159 h9::[])) (es 3 [])] .normal λ_ _ k j=>hn k j
 obtain rfl:=soj hF
 exact g_rh 2 [re 1,re 1,bb h7] .normal λ_ _ k j=>hn k j
theorem CF60_1 {v0 v1 v2 out} (hF:F60_1 v0 v1 v2=some out):ACall Tryz.prog 60 [.bp 0 0] (hC v0 v1 v2) (λq h=>q=(.tup [])/\h=(hC v0 v1 out)):=by
 refine gC Tryz.func60 ?_
 refine gM (λ(v4:List G159)=>([(0,.bp 0 0)],hC v0 v1 v4,JF60_1_5 v0 v1 v4)) out ?_ ?_
 ·rintro v4 hF
  refine gM (λ(v6:List G159)=>([(0,.bp 0 0)],hC v0 v1 v6,JF60_1_7 v0 v1 v6)) out ?_ ?_
  ·rintro v6 hF
   obtain⟨v8,h9,hF⟩:=Xa hF
   rcases cor hF with⟨h10,hF⟩|⟨h10,hF⟩
   ·obtain⟨v17,h18,hF⟩:=Xa hF
    obtain rfl:=soj hF
    exact g_rh 2 [.r (es 6 (kC (CF124 h9)::es 2 (rp 8 (bq h10) (kPt (bP true) (.tup []) h10::es 1 (rp 8 bqT (es 2 (rp 7 bqT (es 2 (rp 7 bqT (es 2 (kK [0,1] [] 0 0 (CF123_2 h18)::[]))))))))))) []] .normal λ_ _ k j=>hn k j
   obtain⟨v19,h20,hF⟩:=Xa hF
   rcases cor hF with⟨h21,hF⟩|⟨h21,hF⟩
   ·obtain⟨v28,h29,hF⟩:=Xa hF
    obtain rfl:=soj hF
    exact g_rh 2 [.r (es 6 (kC (CF124 h9)::es 2 (rq 5 (bq h10) (bq h10::kL 6 c68 v0.fh::bq h10::kC (Xx h20)::bq h10::es 1 (kPf (bP true) (bP (!v19)) h10::es 1 (rp 8 (bq h21) (kPt (bP true) (.tup []) h21::es 1 (rp 7 bqT (es 2 (rp 7 bqT (es 2 (kK [0,1] [] 0 0 (CF123_2 h29)::[])))))))))))) []] .normal λ_ _ k j=>hn k j
   obtain⟨v30,h31,hF⟩:=Xa hF
   rcases cor hF with⟨h32,hF⟩|⟨h32,hF⟩
   ·obtain⟨v39,h40,hF⟩:=Xa hF
    obtain rfl:=soj hF
    exact g_rh 2 [.r (es 6 (kC (CF124 h9)::es 2 (rq 5 (bq h10) (bq h10::kL 6 c68 v0.fh::bq h10::kC (Xx h20)::bq h10::es 1 (kPf (bP true) (bP (!v19)) h10::es 1 (rq 5 (bq h21) (bq h21::kL 22 c75 v0.fc::bq h21::kC (Xx h31)::bq h21::es 1 (kPf (bP true) (bP (!v30)) h21::es 1 (rp 7 (bq h32) (kPt (bP true) (.tup []) h32::es 1 (rp 7 bqT (es 2 (kK [0,1] [] 0 0 (CF123_2 h40)::[]))))))))))))) []] .normal λ_ _ k j=>hn k j
   rcases cor hF with⟨h41,hF⟩|⟨h41,hF⟩
   ·obtain⟨v48,h49,hF⟩:=Xa hF
    obtain rfl:=soj hF
    exact g_rh 2 [.r (es 6 (kC (CF124 h9)::es 2 (rq 5 (bq h10) (bq h10::kL 6 c68 v0.fh::bq h10::kC (Xx h20)::bq h10::es 1 (kPf (bP true) (bP (!v19)) h10::es 1 (rq 5 (bq h21) (bq h21::kL 22 c75 v0.fc::bq h21::kC (Xx h31)::bq h21::es 1 (kPf (bP true) (bP (!v30)) h21::es 1 (rq 5 (bq h32) (bq h32::kL 7 c213 v0.fi::bq h32::es 1 (kPf (bP true) (bP (decide ((ln v0.fi)>4096))) h32::es 1 (rp 7 (bq h41) (kPt (bP true) (.tup []) h41::es 1 (kK [0,1] [] 0 0 (CF123_2 h49)::[])))))))))))))) []] .normal λ_ _ k j=>hn k j
   obtain⟨v56,h57,hF⟩:=Xa hF
   obtain rfl:=soj hF
   exact g_rh 2 [.r (es 6 (kC (CF124 h9)::es 2 (rq 5 (bq h10) (bq h10::kL 6 c68 v0.fh::bq h10::kC (Xx h20)::bq h10::es 1 (kPf (bP true) (bP (!v19)) h10::es 1 (rq 5 (bq h21) (bq h21::kL 22 c75 v0.fc::bq h21::kC (Xx h31)::bq h21::es 1 (kPf (bP true) (bP (!v30)) h21::es 1 (rq 5 (bq h32) (bq h32::kL 7 c213 v0.fi::bq h32::es 1 (kPf (bP true) (bP (decide ((ln v0.fi)>4096))) h32::es 1 (rq 5 (bq h41) (bq h41::kL 2 c58 v0.fF::bq h41::es 1 (kPf (bP true) (bP (decide ((ln v0.fF)>100))) h41::es 1 (kK [0,1] [] 0 0 (CF123_2 h57)::[]))))))))))))))) []] .normal λ_ _ k j=>hn k j
  refine gP 0 [.r (es 5 (kL 22 c75 v0.fc::es 1 [])) []] [(0,.bp 0 0),(47,eS 22 c75 v0.fc),(48,iP (ln v0.fc)),(49,iP 0)] (hC v0 v1 v4) ?_
  refine gB 2 ?_
  obtain⟨o61,ho61,hF⟩:=Xa hF
  refine gL ho61 (λ(v58,v59)=>([(0,.bp 0 0),(47,eS 22 c75 v0.fc),(48,iP (ln v0.fc)),(49,iP v58)],hC v0 v1 v59)) wm ?_
  rintro⟨v58,v59⟩ o62 h63 h64
  rcases cor h63 with⟨h66,h63⟩|⟨h66,h63⟩
  ·refine gP 1 [re 1,bb h66] [(0,.bp 0 0),(47,eS 22 c75 v0.fc),(48,iP (ln v0.fc)),(49,iP v58)] (hC v0 v1 v59) ?_
   refine gM (λ(v67:List G159)=>([(0,.bp 0 0),(47,eS 22 c75 v0.fc),(48,iP (ln v0.fc)),(49,iP v58)],hC v0 v1 v67,JF60_1_68 v58 v67)) o62 ?_ ?_
   ·rintro v67 h63
    cases h63
    exact g_to [re 2] .normal λ_ hw=>⟨rfl,hw⟩
   refine gB 3 ?_
   obtain⟨v69,h70,h63⟩:=Xa h63
   refine gP 0 [.r (kX 22 c75 h70::es 3 []) []] [(0,.bp 0 0),(5,.bp 2 0),(47,eS 22 c75 v0.fc),(48,iP (ln v0.fc)),(49,iP v58)] (hC v0 v1 v59++[.cells (c75 v69)]) ?_
   refine gM (λ(v71:Bool)=>([(0,.bp 0 0),(5,.bp 2 0),(6,bP v71),(47,eS 22 c75 v0.fc),(48,iP (ln v0.fc)),(49,iP v58)],hC v0 v1 v59++[.cells (c75 v69)],JF60_1_72 v69 v0 v1 v59 v58 v71)) o62 ?_ ?_
   ·rintro v71 h63
    refine gM (λ(v73:Bool)=>([(0,.bp 0 0),(5,.bp 2 0),(6,bP v73),(47,eS 22 c75 v0.fc),(48,iP (ln v0.fc)),(49,iP v58)],hC v0 v1 v59++[.cells (c75 v69)],JF60_1_74 v69 v0 v1 v59 v58 v73)) o62 ?_ ?_
    ·rintro v73 h63
     obtain⟨v80,h81,h63⟩:=Xa h63
     exact g_tc 2 [.r (es 4 (kK [0,1] [] 0 0 (Yb h81)::[])) []] .normal λ_ _ hw=>⟨_,_,hw,v80,h63,rfl,rfl⟩
    refine gP 0 [.r (es 2 (kL 2 c95 v69.fe::es 1 [])) []] [(0,.bp 0 0),(5,.bp 2 0),(6,bP v71),(47,eS 22 c75 v0.fc),(48,iP (ln v0.fc)),(49,iP v58),(64,eS 2 c95 v69.fe),(65,iP (ln v69.fe)),(66,iP 0)] (hC v0 v1 v59++[.cells (c75 v69)]) ?_
    refine gB 4 ?_
    obtain⟨o85,ho85,h63⟩:=Xa h63
    refine gL ho85 (λ(v82,v83)=>([(0,.bp 0 0),(5,.bp 2 0),(6,bP v82),(47,eS 22 c75 v0.fc),(48,iP (ln v0.fc)),(49,iP v58),(64,eS 2 c95 v69.fe),(65,iP (ln v69.fe)),(66,iP v83)],hC v0 v1 v59++[.cells (c75 v69)])) wm ?_
    rintro⟨v82,v83⟩ o86 h87 h88
    rcases cor h87 with⟨h90,h87⟩|⟨h90,h87⟩
    ·refine gP 1 [re 1,bb h90] [(0,.bp 0 0),(5,.bp 2 0),(6,bP v82),(47,eS 22 c75 v0.fc),(48,iP (ln v0.fc)),(49,iP v58),(64,eS 2 c95 v69.fe),(65,iP (ln v69.fe)),(66,iP v83)] (hC v0 v1 v59++[.cells (c75 v69)]) ?_
     refine gM (λ(v91:Bool)=>([(0,.bp 0 0),(5,.bp 2 0),(6,bP v91),(47,eS 22 c75 v0.fc),(48,iP (ln v0.fc)),(49,iP v58),(64,eS 2 c95 v69.fe),(65,iP (ln v69.fe)),(66,iP v83)],hC v0 v1 v59++[.cells (c75 v69)],JF60_1_92 v83 v91)) o86 ?_ ?_
     ·rintro v91 h87
      cases h87
      exact g_to [re 2] .normal λ_ hw=>⟨rfl,hw⟩
     refine gB 5 ?_
     obtain⟨v93,h94,h87⟩:=Xa h87
     refine gP 0 [.r (kX 2 c95 h94::es 3 []) []] [(0,.bp 0 0),(5,.bp 2 0),(6,bP v82),(8,.bp 3 0),(47,eS 22 c75 v0.fc),(48,iP (ln v0.fc)),(49,iP v58),(64,eS 2 c95 v69.fe),(65,iP (ln v69.fe)),(66,iP v83)] (hC v0 v1 v59++[.cells (c75 v69),.cells (c95 v93)]) ?_
     refine gM (λ(v95:Bool)=>([(0,.bp 0 0),(5,.bp 2 0),(6,bP v95),(8,.bp 3 0),(47,eS 22 c75 v0.fc),(48,iP (ln v0.fc)),(49,iP v58),(64,eS 2 c95 v69.fe),(65,iP (ln v69.fe)),(66,iP v83)],hC v0 v1 v59++[.cells (c75 v69),.cells (c95 v93)],JF60_1_96 v93 v83 v95)) o86 ?_ ?_
     ·rintro v95 h87
      refine gP 0 [.r (es 2 (kL 2 c100 v93.ff::es 1 [])) []] [(0,.bp 0 0),(5,.bp 2 0),(6,bP v95),(47,eS 22 c75 v0.fc),(48,iP (ln v0.fc)),(49,iP v58),(64,eS 2 c95 v69.fe),(65,iP (ln v69.fe)),(66,iP v83),(84,eS 2 c100 v93.ff),(85,iP (ln v93.ff)),(86,iP 0)] (hC v0 v1 v59++[.cells (c75 v69),.cells (c95 v93)]) ?_
      refine gB 6 ?_
      obtain⟨o100,ho100,h87⟩:=Xa h87
      refine gL ho100 (λ(v97,v98)=>([(0,.bp 0 0),(5,.bp 2 0),(6,bP v97),(47,eS 22 c75 v0.fc),(48,iP (ln v0.fc)),(49,iP v58),(64,eS 2 c95 v69.fe),(65,iP (ln v69.fe)),(66,iP v83),(84,eS 2 c100 v93.ff),(85,iP (ln v93.ff)),(86,iP v98)],hC v0 v1 v59++[.cells (c75 v69),.cells (c95 v93)])) wm ?_
      rintro⟨v97,v98⟩ o101 h102 h103
      rcases cor h102 with⟨h105,h102⟩|⟨h105,h102⟩
      ·obtain⟨v106,h107,h102⟩:=Xa h102
       rcases cor h102 with⟨h108,h102⟩|⟨h108,h102⟩
       ·cases h102
        exact g_tc 4 [re 1,bb h105,.r (kX 2 c100 h107::es 3 []) [],.r (es 2 (rp 4 (bq h108) (kPt (bP true) (.tup []) h108::es 1 (rp 4 bqT (es 2 []))))) [],re 2] .normal λ_ _ hw=>⟨rfl,hw⟩
       rcases cor h102 with⟨h109,h102⟩|⟨h109,h102⟩
       ·cases h102
        exact g_tc 4 [re 1,bb h105,.r (kX 2 c100 h107::es 3 []) [],.r (es 2 (rq 2 (bq h108) (bq h108::kL 13 c147 v106.fg::bq h108::es 1 (kPf (bP true) (bP (decide ((ln v106.fg)>128))) h108::es 1 (rp 4 (bq h109) (kPt (bP true) (.tup []) h109::es 1 [])))))) [],re 2] .normal λ_ _ hw=>⟨rfl,hw⟩
       cases h102
       exact g_tc 4 [re 1,bb h105,.r (kX 2 c100 h107::es 3 []) [],.r (es 2 (rq 2 (bq h108) (bq h108::kL 13 c147 v106.fg::bq h108::es 1 (kPf (bP true) (bP (decide ((ln v106.fg)>128))) h108::es 1 (rq 2 (bq h109) (bq h109::kL 4 c425 v106.fX::bq h109::es 1 (kPf (bP true) (bP (decide ((ln v106.fX)>16))) h109::es 1 []))))))) [],re 2] .normal λ_ _ hw=>⟨rfl,hw⟩
      cases h102
      obtain rfl:=h103 _ rfl
      exact g_tc 3 [re 1,bb h105] (.exit 6) λ_ _ hw=>Xi (⟨_,_,hw,v97,h87,rfl,rfl⟩)
     rcases cor h87 with⟨h110,h87⟩|⟨h110,h87⟩
     ·exact g_to [.r (es 2 (rp 4 (bq h110) (kPt (bP true) (.tup []) h110::es 1 (rp 4 bqT (es 2 []))))) []] .normal λ_ hw=>⟨_,_,hw,true,h87,rfl,rfl⟩
     rcases cor h87 with⟨h111,h87⟩|⟨h111,h87⟩
     ·exact g_to [.r (es 2 (rq 2 (bq h110) (bq h110::kL 2 c230 v93.fQ::bq h110::es 1 (kPf (bP true) (bP (decide ((ln v93.fQ)>64))) h110::es 1 (rp 4 (bq h111) (kPt (bP true) (.tup []) h111::es 1 [])))))) []] .normal λ_ hw=>⟨_,_,hw,true,h87,rfl,rfl⟩
     exact g_to [.r (es 2 (rq 2 (bq h110) (bq h110::kL 2 c230 v93.fQ::bq h110::es 1 (kPf (bP true) (bP (decide ((ln v93.fQ)>64))) h110::es 1 (rq 2 (bq h111) (bq h111::kL 2 c100 v93.ff::bq h111::es 1 (kPf (bP true) (bP (decide ((ln v93.ff)>2))) h111::es 1 []))))))) []] .normal λ_ hw=>⟨_,_,hw,decide ((ln v93.ff)>2),h87,rfl,rfl⟩
    cases h87
    obtain rfl:=h88 _ rfl
    exact g_to [re 1,bb h90] (.exit 4) λ_ hw=>Xi (⟨_,_,hw,v82,h63,rfl,rfl⟩)
   obtain⟨v112,h113,h63⟩:=Xa h63
   rcases cor h63 with⟨h114,h63⟩|⟨h114,h63⟩
   ·exact g_to [.r (es 2 (kC (CF124 h113)::es 2 (rp 4 (bq h114) (kPt (bP true) (.tup []) h114::es 1 [])))) []] .normal λ_ hw=>⟨_,_,hw,true,h63,rfl,rfl⟩
   exact g_to [.r (es 2 (kC (CF124 h113)::es 2 (rq 2 (bq h114) (bq h114::kL 3 c111 v69.fm::bq h114::es 1 (kPf (bP true) (bP (decide ((ln v69.fm)>64))) h114::es 1 []))))) []] .normal λ_ hw=>⟨_,_,hw,decide ((ln v69.fm)>64),h63,rfl,rfl⟩
  cases h63
  obtain rfl:=h64 _ rfl
  exact g_to [re 1,bb h66] (.exit 2) λ_ hw=>Xi (⟨_,_,hw,v59,hF,rfl,rfl⟩)
 refine gP 0 [.r (es 5 (kL 6 c68 v0.fh::es 1 [])) []] [(0,.bp 0 0),(15,eS 6 c68 v0.fh),(16,iP (ln v0.fh)),(17,iP 0)] (hC v0 v1 v2) ?_
 refine gB 0 ?_
 obtain⟨o118,ho118,hF⟩:=Xa hF
 refine gL ho118 (λ(v115,v116)=>([(0,.bp 0 0),(15,eS 6 c68 v0.fh),(16,iP (ln v0.fh)),(17,iP v115)],hC v0 v1 v116)) wm ?_
 rintro⟨v115,v116⟩ o119 h120 h121
 rcases cor h120 with⟨h123,h120⟩|⟨h123,h120⟩
 ·obtain⟨v124,h125,v126,h127,h120⟩:=bs2 h120
  rcases cor h120 with⟨h128,h120⟩|⟨h128,h120⟩
  ·obtain⟨v134,h135,h120⟩:=Xa h120
   cases h120
   exact g_tc 2 [re 1,bb h123,.r (kX 6 c68 h125::es 3 []) [],.r (es 3 (kC (CF124 h127)::es 2 (rp 5 (bq h128) (kPt (bP true) (.tup []) h128::es 1 (rp 4 bqT (es 3 [])))))) (kK [0,1] [] 0 0 (Yb h135)::[]),re 2] .normal λ_ _ hw=>⟨rfl,hw⟩
  obtain⟨v136,h137,h120⟩:=Xa h120
  rcases cor h120 with⟨h138,h120⟩|⟨h138,h120⟩
  ·obtain⟨v144,h145,h120⟩:=Xa h120
   cases h120
   exact g_tc 2 [re 1,bb h123,.r (kX 6 c68 h125::es 3 []) [],.r (es 3 (kC (CF124 h127)::es 2 (rq 2 (bq h128) (bq h128::kL 3 c184 v124.ft::bq h128::kC (Xx h137)::bq h128::es 1 (kPf (bP true) (bP (!v136)) h128::es 1 (rp 4 (bq h138) (kPt (bP true) (.tup []) h138::es 2 []))))))) (kK [0,1] [] 0 0 (Yb h145)::[]),re 2] .normal λ_ _ hw=>⟨rfl,hw⟩
  obtain⟨v146,h147,v153,h154,h120⟩:=bs2 h120
  cases h120
  exact g_tc 2 [re 1,bb h123,.r (kX 6 c68 h125::es 3 []) [],.r (es 3 (kC (CF124 h127)::es 2 (rq 2 (bq h128) (bq h128::kL 3 c184 v124.ft::bq h128::kC (Xx h137)::bq h128::es 1 (kPf (bP true) (bP (!v136)) h128::es 1 (rq 2 (bq h138) (bq h138::kC (CF126 h147)::bq h138::es 1 (kPf (bP true) (bP (v146 !=0)) h138::es 2 [])))))))) (kK [0,1] [] 0 0 (Yb h154)::[]),re 2] .normal λ_ _ hw=>⟨rfl,hw⟩
 cases h120
 obtain rfl:=h121 _ rfl
 exact g_to [re 1,bb h123] (.exit 0) λ_ hw=>Xi (⟨_,_,hw,v116,hF,rfl,rfl⟩)
theorem visitC {F:List Blk} {b o:Nat}:ACall Tryz.prog 204 [.bp b o] F (λq h=>q=(.fn (.func 276) [] [.bp F.length 0])/\h=F++[.cells [.bp b o]]):=by
 refine g_callI mixed ok204 ?_
 refine g_reg rfl [(1,.bp F.length 0)] (F++[.cells [.bp b o]]) [.ev,.ev] [] (by kernel_rfl) ⟨trivial,trivial,trivial⟩ trivial ?_
 refine g_reg rfl [(2,(.fn (.func 276) [] [.bp F.length 0]))] (F++[.cells [.bp b o]]) [.ev,.ev] [] (by kernel_rfl) ⟨trivial,trivial,trivial⟩ trivial ?_
 exact g_ret rfl ⟨.inr rfl,_,_,WeakS.refl _ _ _,(.fn (.func 276) [] [.bp F.length 0]),by kernel_rfl,.inl ⟨rfl,rfl⟩⟩
theorem visitN {F:List Blk} {b o lo:Nat}:Nt.ok Tryz.prog (.st (.call (.c (fk 204)) [.c (.bp b o)]) F (.fn (.func 276) [] [.bp F.length 0]) (F++[.cells [.bp b o]]) lo):=
 ⟨by
  show XCall Tryz.prog 204 [.bp b o] F _
  exact .inl visitC,Same.app _ _ _⟩
theorem CR127_0_1 {v0 v1 v2 v3 v4 v5 v6 v7 v8 v9 out} (hF:Un v0 v1 v2 v3 v4 v5 v6 v7 v8 v9=some out):ARound Tryz.prog 4 [.agg [iP v0,iP v1,iP v2,iP v3,iP v4,iP v5,iP v6],.ip (c58 v7)] [.cells (c27 v8),.cells [oP 2 2 c58 v9],.grow (List.length v9) 2,.cells [.bp 0 0],Xp [(3,.bp 1 0),(6,(fz 3))] .ready none] (λq h=>q=(bP (!false))/\h=[.cells (c27 v8),.cells [oP 2 2 c58 out],.grow (List.length out) 2,.cells [.bp 0 0],Xp [(3,.bp 1 0),(6,(fz 3))] .ready none]):=by
 refine g_yl (N:=af127.ntmps) (le:=[(3,.bp 1 0),(6,(fz 3))]) (ps:=#[7,8]) (ai:=c127_9) (bd:=c127_10) (cA:=(Ze cd127 [1,1,0,1,0,0])) (cB:=(Ze cd127 [1,1,0,1,0,1])) mixed (by kernel_rfl) (by kernel_rfl) (by kernel_rfl) (by kernel_rfl) [(3,.bp 1 0),(6,(fz 3)),(7,.agg [iP v0,iP v1,iP v2,iP v3,iP v4,iP v5,iP v6]),(8,.ip (c58 v7))] [re 1] [(3,.bp 1 0),(5,.ip (c58 v7))] [.cells (c27 v8),.cells [oP 2 2 c58 v9],.grow (List.length v9) 2,.cells [.bp 0 0],Xp [(3,.bp 1 0),(6,(fz 3))] .ready none] [.cells (c27 v8),.cells [oP 2 2 c58 v9],.grow (List.length v9) 2,.cells [.bp 0 0],Xp [(3,.bp 1 0),(6,(fz 3))] .busy none] ?_
 obtain⟨v12,h13,hF⟩:=Xa hF
 refine Xk [.r (es 5 []) (kA 2 2 c58 h13::es 1 [])] .normal [] [.cells (c27 v8),.cells [oP 2 2 c58 v12],.grow (List.length v12) 2,.cells [.bp 0 0],Xp [(3,.bp 1 0),(6,(fz 3))] .busy none] (λe hw=>?_)
 obtain rfl:=soj hF
 exact round_end hw
theorem CF276_1 {v0 v1 out} (hF:F276_1 v0 v1=some out):ACall Tryz.prog 276 [.yl 4,.bp 3 0] [.cells (c27 v0),.cells [oP 2 2 c58 v1],.grow (List.length v1) 2,.cells [.bp 0 0],Xp [(3,.bp 1 0),(6,(fz 3))] .ready none] (λq h=>q=(.tup [])/\h=[.cells (c27 v0),.cells [oP 2 2 c58 out],.grow (List.length out) 2,.cells [.bp 0 0],Xp [(3,.bp 1 0),(6,(fz 3))] .ready none]):=by
 refine gC Tryz.func276 ?_
 refine gP 0 [re 1] [(0,.yl 4),(1,.bp 3 0),(3,iP 0)] [.cells (c27 v0),.cells [oP 2 2 c58 v1],.grow (List.length v1) 2,.cells [.bp 0 0],Xp [(3,.bp 1 0),(6,(fz 3))] .ready none] ?_
 refine gM (λ(v3:List G58)=>([(0,.yl 4),(1,.bp 3 0)],[.cells (c27 v0),.cells [oP 2 2 c58 v3],.grow (List.length v3) 2,.cells [.bp 0 0],Xp [(3,.bp 1 0),(6,(fz 3))] .ready none],JF276_1_4 v0 v3)) out ?_ ?_
 ·rintro v3 hF
  refine gM (λ(v5:List G58)=>([(0,.yl 4),(1,.bp 3 0)],[.cells (c27 v0),.cells [oP 2 2 c58 v5],.grow (List.length v5) 2,.cells [.bp 0 0],Xp [(3,.bp 1 0),(6,(fz 3))] .ready none],JF276_1_6 v0 v5)) out ?_ ?_
  ·rintro v5 hF
   refine gP 0 [.r (es 4 (kL 7 c213 v0.fi::es 1 [])) []] [(0,.yl 4),(1,.bp 3 0),(166,iP (ln v0.fi)),(167,iP 0)] [.cells (c27 v0),.cells [oP 2 2 c58 v5],.grow (List.length v5) 2,.cells [.bp 0 0],Xp [(3,.bp 1 0),(6,(fz 3))] .ready none] ?_
   refine gB 12 ?_
   obtain⟨o10,ho10,hF⟩:=Xa hF
   refine gL ho10 (λ(v7,v8)=>([(0,.yl 4),(1,.bp 3 0),(166,iP (ln v0.fi)),(167,iP v7)],[.cells (c27 v0),.cells [oP 2 2 c58 v8],.grow (List.length v8) 2,.cells [.bp 0 0],Xp [(3,.bp 1 0),(6,(fz 3))] .ready none])) wm ?_
   rintro⟨v7,v8⟩ o11 h12 h13
   rcases cor h12 with⟨h15,h12⟩|⟨h15,h12⟩
   ·obtain⟨v16,h17,v28,h29,h12⟩:=bs2 h12
    cases h12
    exact g_to [re 1,bb h15,re 2,.r (es 8 (kX 7 c213 h17::es 1 (⟨_,n_yl (k:=4) (args:=[.agg [iP 5,iP 0,iP 0,iP 0,iP 0,iP 0,iP v7],.ip (c213 v16)]) (F:=[.cells (c27 v0),.cells [oP 2 2 c58 v8],.grow (List.length v8) 2,.cells [.bp 0 0],Xp [(3,.bp 1 0),(6,(fz 3))] .ready none]) (Hh:=λd=>[.cells (c27 v0),.cells [oP 2 2 c58 v28],.grow (List.length v28) 2,.cells [.bp 0 0],Xp [(3,.bp 1 0),(6,(fz 3))] .ready none]) (Eq.refl false) (Yc (CR127_0_1 h29) (qc (PSub.refl _) (qc (Yj 2) qe)))⟩::es 1 []))) [],bF,re 2] .normal λ_ hw=>⟨rfl,hw⟩
   cases h12
   obtain rfl:=h13 _ rfl
   obtain rfl:=soj hF
   exact g_rh 5 [re 1,bb h15] (.exit 12) λ_ _ k j=>Xi (hn k j)
  refine gP 0 [.r (es 4 (kL 22 c75 v0.fc::es 1 [])) []] [(0,.yl 4),(1,.bp 3 0),(67,iP (ln v0.fc)),(68,iP 0)] [.cells (c27 v0),.cells [oP 2 2 c58 v3],.grow (List.length v3) 2,.cells [.bp 0 0],Xp [(3,.bp 1 0),(6,(fz 3))] .ready none] ?_
  refine gB 4 ?_
  obtain⟨o33,ho33,hF⟩:=Xa hF
  refine gL ho33 (λ(v30,v31)=>([(0,.yl 4),(1,.bp 3 0),(67,iP (ln v0.fc)),(68,iP v30)],[.cells (c27 v0),.cells [oP 2 2 c58 v31],.grow (List.length v31) 2,.cells [.bp 0 0],Xp [(3,.bp 1 0),(6,(fz 3))] .ready none])) wm ?_
  rintro⟨v30,v31⟩ o34 h35 h36
  rcases cor h35 with⟨h38,h35⟩|⟨h38,h35⟩
  ·refine gP 1 [re 1,bb h38] [(0,.yl 4),(1,.bp 3 0),(67,iP (ln v0.fc)),(68,iP v30)] [.cells (c27 v0),.cells [oP 2 2 c58 v31],.grow (List.length v31) 2,.cells [.bp 0 0],Xp [(3,.bp 1 0),(6,(fz 3))] .ready none] ?_
   refine gM (λ(v39:List G58)=>([(0,.yl 4),(1,.bp 3 0),(67,iP (ln v0.fc)),(68,iP v30)],[.cells (c27 v0),.cells [oP 2 2 c58 v39],.grow (List.length v39) 2,.cells [.bp 0 0],Xp [(3,.bp 1 0),(6,(fz 3))] .ready none],JF276_1_40 v30 v39)) o34 ?_ ?_
   ·rintro v39 h35
    cases h35
    exact g_to [re 2] .normal λ_ hw=>⟨rfl,hw⟩
   refine gB 5 ?_
   obtain⟨v41,h42,v53,h54,v55,h56,h35⟩:=bs3 h35
   refine gP 2 [re 2,.r (es 8 (kX 22 c75 h42::es 1 (⟨_,n_yl (k:=4) (args:=[.agg [iP 3,iP 0,iP 0,iP v30,iP 0,iP 0,iP 0],.ip (c75 v41)]) (F:=[.cells (c27 v0),.cells [oP 2 2 c58 v31],.grow (List.length v31) 2,.cells [.bp 0 0],Xp [(3,.bp 1 0),(6,(fz 3))] .ready none]) (Hh:=λd=>[.cells (c27 v0),.cells [oP 2 2 c58 v53],.grow (List.length v53) 2,.cells [.bp 0 0],Xp [(3,.bp 1 0),(6,(fz 3))] .ready none]) (Eq.refl false) (Yc (CR127_0_1 h54) (qc (PSub.refl _) (qc (Yj 2) qe)))⟩::es 1 []))) [],bF,.r (es 5 (kX 22 c75 h56::es 2 (kL 2 c95 v55.fe::es 1 []))) []] [(0,.yl 4),(1,.bp 3 0),(6,iP v30),(67,iP (ln v0.fc)),(68,iP v30),(91,iP (ln v55.fe)),(92,iP 0)] [.cells (c27 v0),.cells [oP 2 2 c58 v53],.grow (List.length v53) 2,.cells [.bp 0 0],Xp [(3,.bp 1 0),(6,(fz 3))] .ready none] ?_
   refine gB 6 ?_
   obtain⟨o60,ho60,h35⟩:=Xa h35
   refine gL ho60 (λ(v57,v58)=>([(0,.yl 4),(1,.bp 3 0),(6,iP v30),(67,iP (ln v0.fc)),(68,iP v30),(91,iP (ln v55.fe)),(92,iP v57)],[.cells (c27 v0),.cells [oP 2 2 c58 v58],.grow (List.length v58) 2,.cells [.bp 0 0],Xp [(3,.bp 1 0),(6,(fz 3))] .ready none])) wm ?_
   rintro⟨v57,v58⟩ o61 h62 h63
   rcases cor h62 with⟨h65,h62⟩|⟨h65,h62⟩
   ·refine gP 1 [re 1,bb h65] [(0,.yl 4),(1,.bp 3 0),(6,iP v30),(67,iP (ln v0.fc)),(68,iP v30),(91,iP (ln v55.fe)),(92,iP v57)] [.cells (c27 v0),.cells [oP 2 2 c58 v58],.grow (List.length v58) 2,.cells [.bp 0 0],Xp [(3,.bp 1 0),(6,(fz 3))] .ready none] ?_
    refine gM (λ(v66:List G58)=>([(0,.yl 4),(1,.bp 3 0),(6,iP v30),(67,iP (ln v0.fc)),(68,iP v30),(91,iP (ln v55.fe)),(92,iP v57)],[.cells (c27 v0),.cells [oP 2 2 c58 v66],.grow (List.length v66) 2,.cells [.bp 0 0],Xp [(3,.bp 1 0),(6,(fz 3))] .ready none],JF276_1_67 v57 v66)) o61 ?_ ?_
    ·rintro v66 h62
     cases h62
     exact g_to [re 2] .normal λ_ hw=>⟨rfl,hw⟩
    refine gB 7 ?_
    obtain⟨v68,h69,v70,h71,h62⟩:=bs2 h62
    refine gP 1 [re 2,.r (es 5 (kX 22 c75 h69::es 3 (kX 2 c95 h71::es 2 (kL 2 c100 v70.ff::es 1 [])))) []] [(0,.yl 4),(1,.bp 3 0),(6,iP v30),(7,iP v57),(67,iP (ln v0.fc)),(68,iP v30),(91,iP (ln v55.fe)),(92,iP v57),(107,iP (ln v70.ff)),(108,iP 0)] [.cells (c27 v0),.cells [oP 2 2 c58 v58],.grow (List.length v58) 2,.cells [.bp 0 0],Xp [(3,.bp 1 0),(6,(fz 3))] .ready none] ?_
    refine gB 8 ?_
    obtain⟨o75,ho75,h62⟩:=Xa h62
    refine gL ho75 (λ(v72,v73)=>([(0,.yl 4),(1,.bp 3 0),(6,iP v30),(7,iP v57),(67,iP (ln v0.fc)),(68,iP v30),(91,iP (ln v55.fe)),(92,iP v57),(107,iP (ln v70.ff)),(108,iP v72)],[.cells (c27 v0),.cells [oP 2 2 c58 v73],.grow (List.length v73) 2,.cells [.bp 0 0],Xp [(3,.bp 1 0),(6,(fz 3))] .ready none])) wm ?_
    rintro⟨v72,v73⟩ o76 h77 h78
    rcases cor h77 with⟨h80,h77⟩|⟨h80,h77⟩
    ·refine gP 1 [re 1,bb h80] [(0,.yl 4),(1,.bp 3 0),(6,iP v30),(7,iP v57),(67,iP (ln v0.fc)),(68,iP v30),(91,iP (ln v55.fe)),(92,iP v57),(107,iP (ln v70.ff)),(108,iP v72)] [.cells (c27 v0),.cells [oP 2 2 c58 v73],.grow (List.length v73) 2,.cells [.bp 0 0],Xp [(3,.bp 1 0),(6,(fz 3))] .ready none] ?_
     refine gM (λ(v81:List G58)=>([(0,.yl 4),(1,.bp 3 0),(6,iP v30),(7,iP v57),(67,iP (ln v0.fc)),(68,iP v30),(91,iP (ln v55.fe)),(92,iP v57),(107,iP (ln v70.ff)),(108,iP v72)],[.cells (c27 v0),.cells [oP 2 2 c58 v81],.grow (List.length v81) 2,.cells [.bp 0 0],Xp [(3,.bp 1 0),(6,(fz 3))] .ready none],JF276_1_82 v72 v81)) o76 ?_ ?_
     ·rintro v81 h77
      cases h77
      exact g_to [re 2] .normal λ_ hw=>⟨rfl,hw⟩
     refine gB 9 ?_
     obtain⟨v83,h84,v85,h86,v87,h88,h77⟩:=bs3 h77
     refine gP 1 [re 2,.r (es 5 (kX 22 c75 h84::es 3 (kX 2 c95 h86::es 3 (kX 2 c100 h88::es 2 (kL 13 c147 v87.fg::es 1 []))))) []] [(0,.yl 4),(1,.bp 3 0),(6,iP v30),(7,iP v57),(8,iP v72),(67,iP (ln v0.fc)),(68,iP v30),(91,iP (ln v55.fe)),(92,iP v57),(107,iP (ln v70.ff)),(108,iP v72),(127,iP (ln v87.fg)),(128,iP 0)] [.cells (c27 v0),.cells [oP 2 2 c58 v73],.grow (List.length v73) 2,.cells [.bp 0 0],Xp [(3,.bp 1 0),(6,(fz 3))] .ready none] ?_
     refine gB 10 ?_
     obtain⟨o92,ho92,h77⟩:=Xa h77
     refine gL ho92 (λ(v89,v90)=>([(0,.yl 4),(1,.bp 3 0),(6,iP v30),(7,iP v57),(8,iP v72),(67,iP (ln v0.fc)),(68,iP v30),(91,iP (ln v55.fe)),(92,iP v57),(107,iP (ln v70.ff)),(108,iP v72),(127,iP (ln v87.fg)),(128,iP v89)],[.cells (c27 v0),.cells [oP 2 2 c58 v90],.grow (List.length v90) 2,.cells [.bp 0 0],Xp [(3,.bp 1 0),(6,(fz 3))] .ready none])) wm ?_
     rintro⟨v89,v90⟩ o93 h94 h95
     rcases cor h94 with⟨h97,h94⟩|⟨h97,h94⟩
     ·obtain⟨v98,h99,v100,h101,v102,h103,h94⟩:=bs3 h94
      obtain⟨v104,h105,v116,h117,h94⟩:=bs2 h94
      cases h94
      exact g_to [re 1,bb h97,re 2,.r (es 11 (kX 22 c75 h99::es 3 (kX 2 c95 h101::es 3 (kX 2 c100 h103::es 3 (kX 13 c147 h105::es 1 (⟨_,n_yl (k:=4) (args:=[.agg [iP 4,iP 0,iP v57,iP v30,iP v72,iP v89,iP 0],.ip (c147 v104)]) (F:=[.cells (c27 v0),.cells [oP 2 2 c58 v90],.grow (List.length v90) 2,.cells [.bp 0 0],Xp [(3,.bp 1 0),(6,(fz 3))] .ready none]) (Hh:=λd=>[.cells (c27 v0),.cells [oP 2 2 c58 v116],.grow (List.length v116) 2,.cells [.bp 0 0],Xp [(3,.bp 1 0),(6,(fz 3))] .ready none]) (Eq.refl false) (Yc (CR127_0_1 h117) (qc (PSub.refl _) (qc (Yj 2) qe)))⟩::es 1 [])))))) [],bF,re 2] .normal λ_ hw=>⟨rfl,hw⟩
     cases h94
     obtain rfl:=h95 _ rfl
     exact g_to [re 1,bb h97] (.exit 10) λ_ hw=>Xi (⟨_,_,hw,v90,h77,rfl,rfl⟩)
    cases h77
    obtain rfl:=h78 _ rfl
    exact g_to [re 1,bb h80] (.exit 8) λ_ hw=>Xi (⟨_,_,hw,v73,h62,rfl,rfl⟩)
   cases h62
   obtain rfl:=h63 _ rfl
   exact g_to [re 1,bb h65] (.exit 6) λ_ hw=>Xi (⟨_,_,hw,v58,h35,rfl,rfl⟩)
  cases h35
  obtain rfl:=h36 _ rfl
  exact g_to [re 1,bb h38] (.exit 4) λ_ hw=>Xi (⟨_,_,hw,v31,hF,rfl,rfl⟩)
 refine gP 0 [.r (es 4 (kL 6 c68 v0.fh::es 1 [])) []] [(0,.yl 4),(1,.bp 3 0),(3,iP 0),(15,iP (ln v0.fh)),(16,iP 0)] [.cells (c27 v0),.cells [oP 2 2 c58 v1],.grow (List.length v1) 2,.cells [.bp 0 0],Xp [(3,.bp 1 0),(6,(fz 3))] .ready none] ?_
 refine gB 0 ?_
 obtain⟨o122,ho122,hF⟩:=Xa hF
 refine gL ho122 (λ(v118,v119,v120)=>([(0,.yl 4),(1,.bp 3 0),(3,iP v118),(15,iP (ln v0.fh)),(16,iP v119)],[.cells (c27 v0),.cells [oP 2 2 c58 v120],.grow (List.length v120) 2,.cells [.bp 0 0],Xp [(3,.bp 1 0),(6,(fz 3))] .ready none])) wm ?_
 rintro⟨v118,v119,v120⟩ o123 h124 h125
 rcases cor h124 with⟨h127,h124⟩|⟨h127,h124⟩
 ·refine gP 1 [re 1,bb h127] [(0,.yl 4),(1,.bp 3 0),(3,iP v118),(15,iP (ln v0.fh)),(16,iP v119)] [.cells (c27 v0),.cells [oP 2 2 c58 v120],.grow (List.length v120) 2,.cells [.bp 0 0],Xp [(3,.bp 1 0),(6,(fz 3))] .ready none] ?_
  refine gM (λ(x:Int×(List G58))=>match x with|(v128,v129)=>([(0,.yl 4),(1,.bp 3 0),(3,iP v128),(15,iP (ln v0.fh)),(16,iP v119)],[.cells (c27 v0),.cells [oP 2 2 c58 v129],.grow (List.length v129) 2,.cells [.bp 0 0],Xp [(3,.bp 1 0),(6,(fz 3))] .ready none],JF276_1_130 v119 v128 v129)) o123 ?_ ?_
  ·rintro⟨v128,v129⟩ h124
   cases h124
   exact g_to [re 2] .normal λ_ hw=>⟨rfl,hw⟩
  refine gB 1 ?_
  obtain⟨v131,h132,v143,h144,v145,h146,h124⟩:=bs3 h124
  refine gP 2 [re 2,.r (es 8 (kX 6 c68 h132::es 1 (⟨_,n_yl (k:=4) (args:=[.agg [iP 1,iP v119,iP 0,iP 0,iP 0,iP 0,iP 0],.ip (c68 v131)]) (F:=[.cells (c27 v0),.cells [oP 2 2 c58 v120],.grow (List.length v120) 2,.cells [.bp 0 0],Xp [(3,.bp 1 0),(6,(fz 3))] .ready none]) (Hh:=λd=>[.cells (c27 v0),.cells [oP 2 2 c58 v143],.grow (List.length v143) 2,.cells [.bp 0 0],Xp [(3,.bp 1 0),(6,(fz 3))] .ready none]) (Eq.refl false) (Yc (CR127_0_1 h144) (qc (PSub.refl _) (qc (Yj 2) qe)))⟩::es 1 []))) [],bF,.r (es 5 (kX 6 c68 h146::es 2 (kL 3 c184 v145.ft::es 1 []))) []] [(0,.yl 4),(1,.bp 3 0),(3,iP v118),(4,iP v119),(15,iP (ln v0.fh)),(16,iP v119),(39,iP (ln v145.ft)),(40,iP 0)] [.cells (c27 v0),.cells [oP 2 2 c58 v143],.grow (List.length v143) 2,.cells [.bp 0 0],Xp [(3,.bp 1 0),(6,(fz 3))] .ready none] ?_
  refine gB 2 ?_
  obtain⟨o152,ho152,h124⟩:=Xa h124
  refine gL ho152 (λ(v147,v148,v149)=>([(0,.yl 4),(1,.bp 3 0),(3,iP v147),(4,iP v119),(15,iP (ln v0.fh)),(16,iP v119),(39,iP (ln v145.ft)),(40,iP v148)],[.cells (c27 v0),.cells [oP 2 2 c58 v149],.grow (List.length v149) 2,.cells [.bp 0 0],Xp [(3,.bp 1 0),(6,(fz 3))] .ready none])) wm ?_
  rintro⟨v147,v148,v149⟩ o153 h154 h155
  rcases cor h154 with⟨h157,h154⟩|⟨h157,h154⟩
  ·obtain⟨v158,h159,v160,h161,v172,h173,h154⟩:=bs3 h154
   cases h154
   exact g_to [re 1,bb h157,re 2,.r (es 8 (kX 6 c68 h159::es 3 (kX 3 c184 h161::es 1 (⟨_,n_yl (k:=4) (args:=[.agg [iP 2,iP 0,iP v147,iP 0,iP 0,iP 0,iP 0],.ip (c184 v160)]) (F:=[.cells (c27 v0),.cells [oP 2 2 c58 v149],.grow (List.length v149) 2,.cells [.bp 0 0],Xp [(3,.bp 1 0),(6,(fz 3))] .ready none]) (Hh:=λd=>[.cells (c27 v0),.cells [oP 2 2 c58 v172],.grow (List.length v172) 2,.cells [.bp 0 0],Xp [(3,.bp 1 0),(6,(fz 3))] .ready none]) (Eq.refl false) (Yc (CR127_0_1 h173) (qc (PSub.refl _) (qc (Yj 2) qe)))⟩::es 1 [])))) [],bF,re 3,re 2] .normal λ_ hw=>⟨rfl,hw⟩
  cases h154
  obtain rfl:=h155 _ rfl
  exact g_to [re 1,bb h157] (.exit 2) λ_ hw=>Xi (⟨_,_,hw,(v147,v149),h124,rfl,rfl⟩)
 cases h124
 obtain rfl:=h125 _ rfl
 exact g_to [re 1,bb h127] (.exit 0) λ_ hw=>Xi (⟨_,_,hw,v120,hF,rfl,rfl⟩)
theorem CF127 {v0 out} (hF:F127 v0=some out):A0 127 [.agg (c27 v0)] (eS 2 c58 out):=by
 refine g_callI mixed ok127 ?_
 refine gPW 1 [re 2,re 1] [(1,.bp 0 0),(3,.bp 1 0)] [.cells (c27 v0),.cells [eS 2 c58 Sl.nil]] [(1,.bp 0 0),(3,.bp 1 0)] [.cells (c27 v0),.cells [oP 2 2 c58 ([]:List G58)],.grow (List.length ([]:List G58)) 2] ((WeakS.refl _ _ _).trans ((weak_grow 2).trans (weak_blk (cs':=[oP 2 2 c58 ([]:List G58)]) 1 rfl (qc psub_nil0 qe)))) ?_
 refine gM (λ(v1:List G58)=>([(3,.bp 1 0)],[.cells (c27 v0),.cells [oP 2 2 c58 v1],.grow (List.length v1) 2],JF127_2 v1)) out ?_ ?_
 ·rintro v1 hF
  refine Xk [re 2] .ret [(2,oP 2 2 c58 v1)] [.cells (c27 v0),.cells [oP 2 2 c58 v1],.grow (List.length v1) 2] (λe hw=>?_)
  obtain rfl:=soj hF
  exact Yw (r:=(oP 2 2 c58 v1)) (.inr rfl) hw (by kernel_rfl) (Vl cl58) ⟨rfl,rfl⟩
 refine gP 0 [.r (⟨.st (.call (.c (fk 204)) [.c (.bp 0 0)]) [.cells (c27 v0),.cells [oP 2 2 c58 ([]:List G58)],.grow (List.length ([]:List G58)) 2] (fz 3) [.cells (c27 v0),.cells [oP 2 2 c58 ([]:List G58)],.grow (List.length ([]:List G58)) 2,.cells [.bp 0 0]] 0,visitN⟩::[]) []] [(3,.bp 1 0),(6,(fz 3))] [.cells (c27 v0),.cells [oP 2 2 c58 ([]:List G58)],.grow (List.length ([]:List G58)) 2,.cells [.bp 0 0]] ?_
 refine gB 0 ?_
 obtain⟨v5,h6,hF⟩:=Xa hF
 refine g_range [] [.bp 3 0] .normal [.cells (c27 v0),.cells [oP 2 2 c58 v5],.grow (List.length v5) 2,.cells [.bp 0 0],Xp [(3,.bp 1 0),(6,(fz 3))] .exhausted none] (CF276_1 h6) ?_
 exact⟨_,_,(wm (le':=[(3,.bp 1 0)])).trans (weak_cutI 3),v5,hF,rfl,rfl⟩
theorem CF128 {v0 out} (hF:F128 v0=some out):A0 128 [.agg (c58 v0)] (bP out):=by
 refine gC Tryz.func128 ?_
 obtain⟨v1,h2,hF⟩:=Xa hF
 rcases cor hF with⟨h3,hF⟩|⟨h3,hF⟩
 ·obtain⟨v4,h5,hF⟩:=Xa hF
  obtain rfl:=soj hF
  exact gE [re 2,.r (es 2 (kC (Xx h2)::es 1 (rq 2 (bq h3) (bq h3::kC (Xx h5)::kPt (bP v4) (bP false) h3::es 1 [])))) []]
 obtain rfl:=soj hF
 exact gE [re 2,.r (es 2 (kC (Xx h2)::es 1 (rp 3 (bq h3) (kPf (.tup []) (bP false) h3::es 1 [])))) []]
theorem CF129 {v0 v1 out} (hF:F129 v0 v1=some out):A0 129 [.agg (c27 v0),iP v1] (iP out):=by
 refine gC Tryz.func129 ?_
 refine gP 0 [re 2] [(1,iP v1),(2,.bp 0 0)] [.cells (c27 v0)] ?_
 refine gM (λ(_:Unit)=>([],[],JF129_2)) out ?_ ?_
 ·rintro⟨⟩ hF
  obtain rfl:=soj hF
  exact gE [re 1]
 refine gP 0 [.r (es 2 (kL 2 c58 v0.fF::es 1 [])) []] [(1,iP v1),(8,eS 2 c58 v0.fF),(9,iP (ln v0.fF)),(10,iP 0)] [.cells (c27 v0)] ?_
 refine gB 0 ?_
 obtain⟨o5,ho5,hF⟩:=Xa hF
 refine gL ho5 (λv3=>([(1,iP v1),(8,eS 2 c58 v0.fF),(9,iP (ln v0.fF)),(10,iP v3)],[.cells (c27 v0)])) wm ?_
 rintro v3 o6 h7 h8
 rcases cor h7 with⟨h10,h7⟩|⟨h10,h7⟩
 ·obtain⟨v11,h12,h7⟩:=Xa h7
  rcases cor h7 with⟨h13,h7⟩|⟨h13,h7⟩
  ·cases h7
   obtain rfl:=h8 _ rfl
   obtain rfl:=soj hF
   exact gE [re 1,bb h10,.r (kX 2 c58 h12::es 3 []) [],re 4,bb h13,re 3]
  cases h7
  exact g_tc 1 [re 1,bb h10,.r (kX 2 c58 h12::es 3 []) [],re 4,bb h13,re 2] .normal λ_ _ hw=>⟨rfl,hw⟩
 cases h7
 obtain rfl:=h8 _ rfl
 exact g_tc 0 [re 1,bb h10] (.exit 0) λ_ _ hw=>Xi (⟨_,_,hw,(),hF,rfl,rfl⟩)
theorem CF61_1 {v0 v1 v2 out} (hF:F61_1 v0 v1 v2=some out):ACall Tryz.prog 61 [.bp 0 0] (hC v0 v1 v2) (λq h=>q=(.tup [])/\h=(hC v0 v1 out)):=by
 refine gC Tryz.func61 ?_
 refine gP 0 [re 2] [(0,.bp 0 0),(2,.mp 2)] (hC v0 v1 v2++[gmB kv58 bP (⟨[],[],0⟩)]) ?_
 refine gM (λ(v4:List G159)=>([(0,.bp 0 0)],hC v0 v1 v4,JF61_1_5 v0 v1 v4)) out ?_ ?_
 ·rintro v4 hF
  refine gP 0 [re 1] [(0,.bp 0 0),(5,bP false)] (hC v0 v1 v4) ?_
  refine gM (λ(v6:Bool)=>([(0,.bp 0 0),(5,bP v6)],hC v0 v1 v4,JF61_1_7 v0 v1 v4 v6)) out ?_ ?_
  ·rintro v6 hF
   obtain⟨v14,h15,hF⟩:=Xa hF
   obtain rfl:=soj hF
   exact g_rh 2 [.r (es 3 (kK [0,1] [] 0 0 (CF123_2 h15)::[])) []] .normal λ_ _ k j=>hn k j
  refine gP 0 [.r (es 5 (kL 2 c58 v0.fF::es 1 [])) []] [(0,.bp 0 0),(5,bP false),(49,eS 2 c58 v0.fF),(50,iP (ln v0.fF)),(51,iP 0)] (hC v0 v1 v4) ?_
  refine gB 2 ?_
  obtain⟨o19,ho19,hF⟩:=Xa hF
  refine gL ho19 (λ(v16,v17)=>([(0,.bp 0 0),(5,bP v16),(49,eS 2 c58 v0.fF),(50,iP (ln v0.fF)),(51,iP v17)],hC v0 v1 v4)) wm ?_
  rintro⟨v16,v17⟩ o20 h21 h22
  rcases cor h21 with⟨h24,h21⟩|⟨h24,h21⟩
  ·obtain⟨v25,h26,h21⟩:=Xa h21
   rcases cor h21 with⟨h27,h21⟩|⟨h27,h21⟩
   ·cases h21
    exact g_tc 2 [re 1,bb h24,.r (es 1 (kX 2 c58 h26::es 4 [])) [],.r (es 2 (rp 3 (bq h27) (kPt (bP true) (.tup []) h27::es 1 (rp 3 bqT [])))) (bqT::es 2 []),re 2] .normal λ_ _ hw=>⟨rfl,hw⟩
   obtain⟨v28,h29,h21⟩:=Xa h21
   rcases cor h21 with⟨h30,h21⟩|⟨h30,h21⟩
   ·cases h21
    exact g_tc 2 [re 1,bb h24,.r (es 1 (kX 2 c58 h26::es 4 [])) [],.r (es 2 (bq h27::es 1 (bq h27::kC (CF128 h29)::bq h27::es 1 (kPf (bP true) (bP (!v28)) h27::es 1 (rp 3 (bq h30) []))))) (bq h30::kPt (bP true) (.tup []) h30::es 1 []),re 2] .normal λ_ _ hw=>⟨rfl,hw⟩
   rcases cor h21 with⟨h31,h21⟩|⟨h31,h21⟩
   ·obtain⟨v32,h33,h21⟩:=Xa h21
    cases h21
    exact g_tc 2 [re 1,bb h24,.r (es 1 (kX 2 c58 h26::es 4 [])) [],.r (es 2 (bq h27::es 1 (bq h27::kC (CF128 h29)::bq h27::es 1 (kPf (bP true) (bP (!v28)) h27::es 1 (rq 3 (bq h30) (rq 9 (bq h31) (bq h31::kX 2 c58 h33::rq 2 (bq h31) []))))))) (bq h31::es 1 (bq h30::kPt (bP (decide (v25.fM<=v32.fM))) (bP false) h31::kPf (bP true) (bP (decide (v25.fM<=v32.fM))) h30::es 1 [])),re 2] .normal λ_ _ hw=>⟨rfl,hw⟩
   cases h21
   exact g_tc 2 [re 1,bb h24,.r (es 1 (kX 2 c58 h26::es 4 [])) [],.r (es 2 (bq h27::es 1 (bq h27::kC (CF128 h29)::bq h27::es 1 (kPf (bP true) (bP (!v28)) h27::es 1 (rq 3 (bq h30) (rp 12 (bq h31) [])))))) (bq h31::bq h30::kPf (.tup []) (bP false) h31::kPf (bP true) (bP false) h30::es 1 []),re 2] .normal λ_ _ hw=>⟨rfl,hw⟩
  cases h21
  obtain rfl:=h22 _ rfl
  exact g_to [re 1,bb h24] (.exit 2) λ_ hw=>Xi (⟨_,_,hw,v16,hF,rfl,rfl⟩)
 obtain⟨v34,h35,hF⟩:=Xa hF
 refine gP 0 [.r (es 4 (kC (CF127 h35)::kL 2 c58 v34::es 1 [])) []] [(0,.bp 0 0),(2,.mp 2),(13,eS 2 c58 v34),(14,iP (ln v34)),(15,iP 0)] (hC v0 v1 v2++[gmB kv58 bP (⟨[],[],0⟩)]) ?_
 refine gB 0 ?_
 obtain⟨o40,ho40,hF⟩:=Xa hF
 refine gL ho40 (λ(v36,v37,v38)=>([(0,.bp 0 0),(2,.mp 2),(13,eS 2 c58 v34),(14,iP (ln v34)),(15,iP v36)],(hC v0 v1 v37++[gmB kv58 bP v38]))) wm ?_
 rintro⟨v36,v37,v38⟩ o41 h42 h43
 rcases cor h42 with⟨h45,h42⟩|⟨h45,h42⟩
 ·obtain⟨v46,h47,v48,h49,h42⟩:=bs2 h42
  rcases cor h42 with⟨h50,h42⟩|⟨h50,h42⟩
  ·obtain⟨v56,h57,h42⟩:=Xa h42
   cases h42
   exact g_tc 3 [re 1,bb h45,.r (kX 2 c58 h47::es 3 []) [],.r (es 2 (kC (CF128 h49)::es 2 (rp 3 (bq h50) (kPt (bP true) (.tup []) h50::es 1 (rp 10 bqT (es 2 [])))))) (kK [0,1] [] 0 0 (Yb h57)::[]),.r (es 2 (⟨.fr (.mapUp [.i,.i] true (.c (.mp 2)) (.c (.agg (c58 v46))) (.c (bP true))) [2] [gmB kv58 bP v38] [gmB kv58 bP (Wp keq58 v38 v46 true)] (.tup []),fr_mapUp (kv:=kv58) (pv:=λx=>PV.sc (.bool x)) (k:=v46) (v:=true) rfl rfl ⟨rfl,rfl⟩ (λ_ _=>rfl)⟩::[])) [],re 2] .normal λ_ _ hw=>⟨rfl,hw⟩
  obtain⟨v58,h59,h42⟩:=Xa h42
  rcases cor h42 with⟨h60,h42⟩|⟨h60,h42⟩
  ·obtain⟨v66,h67,h42⟩:=Xa h42
   cases h42
   exact g_tc 3 [re 1,bb h45,.r (kX 2 c58 h47::es 3 []) [],.r (es 2 (kC (CF128 h49)::es 2 (rq 2 (bq h50) (bq h50::⟨.fd (.lookup [.i,.i] true (bP false) (.c (.mp 2)) (.c (.agg (c58 v46))) false) [2] [gmB kv58 bP v38] (bP v58),fd_lookup (kv:=kv58) (pv:=λx=>PV.sc (.bool x)) h59 rfl rfl ⟨rfl,rfl⟩ (λ_ _=>rfl)⟩::kPf (bP true) (bP v58) h50::es 1 (rp 10 (bq h60) (kPt (bP true) (.tup []) h60::es 1 [])))))) (kK [0,1] [] 0 0 (Yb h67)::[]),.r (es 2 (⟨.fr (.mapUp [.i,.i] true (.c (.mp 2)) (.c (.agg (c58 v46))) (.c (bP true))) [2] [gmB kv58 bP v38] [gmB kv58 bP (Wp keq58 v38 v46 true)] (.tup []),fr_mapUp (kv:=kv58) (pv:=λx=>PV.sc (.bool x)) (k:=v46) (v:=true) rfl rfl ⟨rfl,rfl⟩ (λ_ _=>rfl)⟩::[])) [],re 2] .normal λ_ _ hw=>⟨rfl,hw⟩
  obtain⟨v68,h69,v75,h76,h42⟩:=bs2 h42
  cases h42
  exact g_tc 3 [re 1,bb h45,.r (kX 2 c58 h47::es 3 []) [],.r (es 2 (kC (CF128 h49)::es 2 (rq 2 (bq h50) (bq h50::⟨.fd (.lookup [.i,.i] true (bP false) (.c (.mp 2)) (.c (.agg (c58 v46))) false) [2] [gmB kv58 bP v38] (bP v58),fd_lookup (kv:=kv58) (pv:=λx=>PV.sc (.bool x)) h59 rfl rfl ⟨rfl,rfl⟩ (λ_ _=>rfl)⟩::kPf (bP true) (bP v58) h50::es 1 (rq 8 (bq h60) (bq h60::kC (CF129 h69)::bq h60::es 1 (kPf (bP true) (bP (decide (v46.fV>v68))) h60::es 1 []))))))) (kK [0,1] [] 0 0 (Yb h76)::[]),.r (es 2 (⟨.fr (.mapUp [.i,.i] true (.c (.mp 2)) (.c (.agg (c58 v46))) (.c (bP true))) [2] [gmB kv58 bP v38] [gmB kv58 bP (Wp keq58 v38 v46 true)] (.tup []),fr_mapUp (kv:=kv58) (pv:=λx=>PV.sc (.bool x)) (k:=v46) (v:=true) rfl rfl ⟨rfl,rfl⟩ (λ_ _=>rfl)⟩::[])) [],re 2] .normal λ_ _ hw=>⟨rfl,hw⟩
 cases h42
 obtain rfl:=h43 _ rfl
 exact g_tc 2 [re 1,bb h45] (.exit 0) λ_ _ hw=>Xi (⟨_,_,hw,v37,hF,rfl,rfl⟩)
theorem CF130 {v0 out} (hF:F130 v0=some out):A0 130 [.agg (c27 v0)] (iP out):=by
 refine gC Tryz.func130 ?_
 refine gP 1 [re 2,re 1] [(1,.bp 0 0),(3,iP 0)] [.cells (c27 v0)] ?_
 refine gM (λ(v1:Int)=>([(3,iP v1)],[],JF130_2 v1)) out ?_ ?_
 ·rintro v1 hF
  obtain rfl:=soj hF
  exact gE [re 2]
 refine gP 0 [.r (es 2 (kL 6 c68 v0.fh::es 1 [])) []] [(3,iP 0),(7,eS 6 c68 v0.fh),(8,iP (ln v0.fh)),(9,iP 0)] [.cells (c27 v0)] ?_
 refine gB 0 ?_
 obtain⟨o6,ho6,hF⟩:=Xa hF
 refine gL ho6 (λ(v3,v4)=>([(3,iP v3),(7,eS 6 c68 v0.fh),(8,iP (ln v0.fh)),(9,iP v4)],[.cells (c27 v0)])) wm ?_
 rintro⟨v3,v4⟩ o7 h8 h9
 rcases cor h8 with⟨h11,h8⟩|⟨h11,h8⟩
 ·obtain⟨v12,h13,h8⟩:=Xa h8
  cases h8
  exact g_tc 1 [re 1,bb h11,.r (kX 6 c68 h13::es 3 []) [],.r (es 3 (kL 3 c184 v12.ft::es 2 [])) [],re 2] .normal λ_ _ hw=>⟨rfl,hw⟩
 cases h8
 obtain rfl:=h9 _ rfl
 exact g_tc 0 [re 1,bb h11] (.exit 0) λ_ _ hw=>Xi (⟨_,_,hw,v3,hF,rfl,rfl⟩)
theorem CF132_1 {v0 v1 v2 out} (hF:F132_1 v0 v1 v2=some out):ACall Tryz.prog 132 [iP v0,.agg (c75 v1),.bp 0 0] [.cells [iP v2]] (λq h=>q=(bP out)/\h=[.cells [iP v2]]):=by
 refine gC Tryz.func132 ?_
 refine gP 1 [re 2,.r (es 2 (kL 2 c95 v1.fe::es 3 [])) []] [(4,.bp 1 0),(6,bP ((ln v1.fe) !=v2))] [.cells [iP v2],.cells (c75 v1)] ?_
 refine gM (λ(v3:Bool)=>([(6,bP v3)],[.cells [iP v2]],JF132_1_4 v3)) out ?_ ?_
 ·rintro v3 hF
  obtain rfl:=soj hF
  exact g_rh 1 [re 2] .ret λ_ _ k j=>hr k j
 refine gP 0 [.r (es 2 (kL 2 c95 v1.fe::es 1 [])) []] [(6,bP ((ln v1.fe) !=v2)),(18,eS 2 c95 v1.fe),(19,iP (ln v1.fe)),(20,iP 0)] [.cells [iP v2],.cells (c75 v1)] ?_
 refine gB 0 ?_
 obtain⟨o8,ho8,hF⟩:=Xa hF
 refine gL ho8 (λ(v5,v6)=>([(6,bP v5),(18,eS 2 c95 v1.fe),(19,iP (ln v1.fe)),(20,iP v6)],[.cells [iP v2],.cells (c75 v1)])) wm ?_
 rintro⟨v5,v6⟩ o9 h10 h11
 rcases cor h10 with⟨h13,h10⟩|⟨h13,h10⟩
 ·refine gP 1 [re 1,bb h13] [(6,bP v5),(18,eS 2 c95 v1.fe),(19,iP (ln v1.fe)),(20,iP v6)] [.cells [iP v2],.cells (c75 v1)] ?_
  refine gM (λ(v14:Bool)=>([(6,bP v14),(18,eS 2 c95 v1.fe),(19,iP (ln v1.fe)),(20,iP v6)],[.cells [iP v2],.cells (c75 v1)],JF132_1_15 v6 v14)) o9 ?_ ?_
  ·rintro v14 h10
   cases h10
   exact g_to [re 2] .normal λ_ hw=>⟨rfl,hw⟩
  refine gB 1 ?_
  obtain⟨v16,h17,h10⟩:=Xa h10
  refine gP 1 [.r (kX 2 c95 h17::es 3 []) [],re 3] [(6,bP v5),(9,eS 2 c100 v16.ff),(18,eS 2 c95 v1.fe),(19,iP (ln v1.fe)),(20,iP v6)] [.cells [iP v2],.cells (c75 v1),.cells (c95 v16)] ?_
  refine gM (λ(v18:Bool)=>([(6,bP v18),(9,eS 2 c100 v16.ff),(18,eS 2 c95 v1.fe),(19,iP (ln v1.fe)),(20,iP v6)],[.cells [iP v2],.cells (c75 v1)],Vc v16 v6 v18)) o9 ?_ ?_
  ·rintro v18 h10
   refine gP 0 [.r (es 1 (kL 2 c100 v16.ff::es 1 [])) []] [(6,bP v18),(18,eS 2 c95 v1.fe),(19,iP (ln v1.fe)),(20,iP v6),(51,eS 2 c100 v16.ff),(52,iP (ln v16.ff)),(53,iP 0)] [.cells [iP v2],.cells (c75 v1)] ?_
   refine gB 2 ?_
   obtain⟨o23,ho23,h10⟩:=Xa h10
   refine gL ho23 (λ(v20,v21)=>([(6,bP v20),(18,eS 2 c95 v1.fe),(19,iP (ln v1.fe)),(20,iP v6),(51,eS 2 c100 v16.ff),(52,iP (ln v16.ff)),(53,iP v21)],[.cells [iP v2],.cells (c75 v1)])) wm ?_
   rintro⟨v20,v21⟩ o24 h25 h26
   rcases cor h25 with⟨h28,h25⟩|⟨h28,h25⟩
   ·obtain⟨v29,h30,h25⟩:=Xa h25
    rcases cor h25 with⟨h31,h25⟩|⟨h31,h25⟩
    ·cases h25
     exact g_tc 2 [re 1,bb h28,.r (kX 2 c100 h30::es 3 []) [],.r (es 2 (rp 6 (bq h31) (kPt (bP true) (.tup []) h31::es 1 []))) [],re 2] .normal λ_ _ hw=>⟨rfl,hw⟩
    rcases cor h25 with⟨h32,h25⟩|⟨h32,h25⟩
    ·cases h25
     exact g_tc 2 [re 1,bb h28,.r (kX 2 c100 h30::es 3 []) [],.r (es 2 (rq 2 (bq h31) (bq h31::kL 13 c147 v29.fg::rq 2 (bq h31) (rq 2 (bq h32) (bq h32::kL 4 c425 v29.fX::bq h32::es 1 (bq h31::kPt (bP (decide ((ln v29.fX)>0))) (bP false) h32::kPf (bP true) (bP (decide ((ln v29.fX)>0))) h31::es 1 [])))))) [],re 2] .normal λ_ _ hw=>⟨rfl,hw⟩
    cases h25
    exact g_tc 2 [re 1,bb h28,.r (kX 2 c100 h30::es 3 []) [],.r (es 2 (rq 2 (bq h31) (bq h31::kL 13 c147 v29.fg::rq 2 (bq h31) (rp 4 (bq h32) (bq h31::kPf (.tup []) (bP false) h32::kPf (bP true) (bP false) h31::es 1 []))))) [],re 2] .normal λ_ _ hw=>⟨rfl,hw⟩
   cases h25
   obtain rfl:=h26 _ rfl
   exact g_to [re 1,bb h28] (.exit 2) λ_ hw=>Xi (⟨_,_,hw,v20,h10,rfl,rfl⟩)
  rcases cor h10 with⟨h33,h10⟩|⟨h33,h10⟩
  ·exact g_tc 2 [.r (es 2 (rp 3 (bq h33) (kPt (bP true) (.tup []) h33::es 1 (rp 6 bqT (es 2 (rp 9 bqT (es 2 []))))))) []] .normal λ_ _ hw=>⟨_,_,hw,true,h10,rfl,rfl⟩
  rcases cor h10 with⟨h34,h10⟩|⟨h34,h10⟩
  ·exact g_tc 2 [.r (es 2 (bq h33::es 1 (bq h33::kL 2 c100 v16.ff::bq h33::es 1 (kPf (bP true) (bP ((ln v16.ff)==0)) h33::es 1 (rp 6 (bq h34) (kPt (bP true) (.tup []) h34::es 1 (rp 9 bqT (es 2 [])))))))) []] .normal λ_ _ hw=>⟨_,_,hw,true,h10,rfl,rfl⟩
  obtain⟨v35,h36,h10⟩:=Xa h10
  rcases cor h10 with⟨h37,h10⟩|⟨h37,h10⟩
  ·exact g_tc 2 [.r (es 2 (bq h33::es 1 (bq h33::kL 2 c100 v16.ff::bq h33::es 1 (kPf (bP true) (bP ((ln v16.ff)==0)) h33::es 1 (bq h34::es 1 (bq h34::kX 2 c100 h36::rq 2 (bq h34) (bq h34::kL 13 c147 v35.fg::bq h34::es 1 (kPf (bP true) (bP ((ln v35.fg)==0)) h34::es 1 (rp 9 (bq h37) (kPt (bP true) (.tup []) h37::es 1 [])))))))))) []] .normal λ_ _ hw=>⟨_,_,hw,true,h10,rfl,rfl⟩
  obtain⟨v38,h39,h10⟩:=Xa h10
  exact g_tc 2 [.r (es 2 (bq h33::es 1 (bq h33::kL 2 c100 v16.ff::bq h33::es 1 (kPf (bP true) (bP ((ln v16.ff)==0)) h33::es 1 (bq h34::es 1 (bq h34::kX 2 c100 h36::rq 2 (bq h34) (bq h34::kL 13 c147 v35.fg::bq h34::es 1 (kPf (bP true) (bP ((ln v35.fg)==0)) h34::es 1 (rq 2 (bq h37) (bq h37::kL 2 c100 v16.ff::bq h37::es 1 (bq h37::kX 2 c100 h39::rq 2 (bq h37) (bq h37::kL 13 c147 v38.fg::bq h37::es 1 (kPf (bP true) (bP ((ln v38.fg)==0)) h37::es 1 []))))))))))))) []] .normal λ_ _ hw=>⟨_,_,hw,(ln v38.fg)==0,h10,rfl,rfl⟩
 cases h10
 obtain rfl:=h11 _ rfl
 exact g_tc 1 [re 1,bb h13] (.exit 0) λ_ _ hw=>Xi (⟨_,_,hw,v5,hF,rfl,rfl⟩)
theorem CF131_1 {v0 v1 v2 v3 out} (hF:F131_1 v0 v1 v2 v3=some out):ACall Tryz.prog 131 [.bp 0 0,(.fn (.func 132) [] [.bp 2 0])] (hC v0 v1 v2++[.cells [iP v3]]) (λq h=>q=(.tup [])/\h=(hC v0 v1 out++[.cells [iP v3]])):=by
 refine gC Tryz.func131 ?_
 refine gP 0 [.r (es 5 (kL 22 c75 v0.fc::es 1 [])) []] [(0,.bp 0 0),(1,(.fn (.func 132) [] [.bp 2 0])),(10,eS 22 c75 v0.fc),(11,iP (ln v0.fc)),(12,iP 0)] (hC v0 v1 v2++[.cells [iP v3]]) ?_
 refine gB 0 ?_
 obtain⟨o8,ho8,hF⟩:=Xa hF
 refine gL ho8 (λ(v5,v6)=>([(0,.bp 0 0),(1,(.fn (.func 132) [] [.bp 2 0])),(10,eS 22 c75 v0.fc),(11,iP (ln v0.fc)),(12,iP v5)],hC v0 v1 v6++[.cells [iP v3]])) wm ?_
 rintro⟨v5,v6⟩ o9 h10 h11
 rcases cor h10 with⟨h13,h10⟩|⟨h13,h10⟩
 ·obtain⟨v14,h15,v19,h20,v26,h27,h10⟩:=bs3 h10
  cases h10
  exact g_tc 3 [re 1,bb h13,.r (es 1 (kX 22 c75 h15::es 4 [])) [],.r (es 4 (kQ [2] [] 0 1 (CF132_1 h20)::es 2 [])) (kK [0,1] [] 0 0 (Yb h27)::[]),re 2] .normal λ_ _ hw=>⟨rfl,hw⟩
 cases h10
 obtain rfl:=h11 _ rfl
 obtain rfl:=soj hF
 exact g_rh 3 [re 1,bb h13] (.exit 0) λ_ _ k j=>Xi (hn k j)
theorem CF62_1 {v0 v1 v2 out} (hF:F62_1 v0 v1 v2=some out):ACall Tryz.prog 62 [.bp 0 0] (hC v0 v1 v2) (λq h=>q=(.tup [])/\h=(hC v0 v1 out)):=by
 refine gC Tryz.func62 ?_
 obtain⟨v4,h5,v10,h11,hF⟩:=bs2 hF
 obtain rfl:=soj hF
 exact g_rh 2 [.r (es 4 (kC (CF130 h5)::es 2 [])) [],.r (es 2 (kK [0,1,2] [] 0 0 (CF131_1 h11)::[])) []] .normal λ_ _ k j=>hn k j
theorem CF277 {out} (hF:F277=some out):A0 277 [] (.agg (c385 out)):=by
 refine gC Tryz.func277 ?_
 obtain rfl:=soj hF
 exact gE [re 1,re 11]
theorem CF205 {v0 out} (hF:F205 v0=some out):A0 205 [iP v0] (.tup [.agg (c326 out.1),iP out.2]):=by
 refine gC Tryz.func205 ?_
 refine gP 0 [re 2] [(0,iP v0),(2,.bp 0 0)] [.cells [sP (ByteArray.mk #[]),.sc (.int .u8 0),iP 0,iP 0,iP 0,iP 0,iP 0]] ?_
 refine gS ?_
 refine gM (λ(v1:Bool)=>([(0,iP v0),(2,.bp 0 0),(9,bP v1)],[.cells [sP (ByteArray.mk #[]),.sc (.int .u8 0),iP 0,iP 0,iP 0,iP 0,iP 0]],JF205_2 v0 v1)) out ?_ ?_
 ·rintro v1 hF
  rcases cor hF with⟨h3,hF⟩|⟨h3,hF⟩
  ·obtain rfl:=soj hF
   exact gE [bb h3,re 3]
  refine Xk [bb h3] .normal [(0,iP v0),(2,.bp 0 0)] [.cells [sP (ByteArray.mk #[]),.sc (.int .u8 0),iP 0,iP 0,iP 0,iP 0,iP 0]] (λe hw=>?_)
  refine⟨_,_,hw,?_⟩
  obtain⟨v4,h5,v6,h7,hF⟩:=bs2 hF
  obtain rfl:=soj hF
  exact gE [.r (kC (CF277 h5)::es 2 (⟨.pu (.idxA 7 9 (some 7) (.c (.agg (c385 v4))) (.c (iP (wi (v0-(1)))))) (.agg (c326 v6)),(n_idxA (c:=c326) h7 (λ_=>rfl) rfl)⟩::es 2 [])) []]
 rcases cor hF with⟨h8,hF⟩|⟨h8,hF⟩
 ·exact g_to [.r (es 3 (rp 2 (bq h8) (kPt (bP true) (.tup []) h8::[]))) []] .normal λ_ hw=>⟨_,_,hw,true,hF,rfl,rfl⟩
 exact g_to [.r (es 3 (rq 2 (bq h8) (kPf (bP true) (bP (decide (v0>9))) h8::[]))) []] .normal λ_ hw=>⟨_,_,hw,decide (v0>9),hF,rfl,rfl⟩
theorem CF133 {v0 out} (hF:F133 v0=some out):A0 133 [iP v0] (iP out):=by
 refine gC Tryz.func133 ?_
 obtain⟨v1,h2,hF⟩:=Xa hF
 obtain rfl:=soj hF
 exact gE [re 1,.r (es 1 (kC (CF205 h2)::es 6 [])) [],re 2]
theorem CF172 {v0 out} (hF:F172 v0=some out):A0 172 [.agg (c71 v0)] (bP out):=by
 refine gC Tryz.func172 ?_
 rcases cor hF with⟨h1,hF⟩|⟨h1,hF⟩
 ·obtain rfl:=soj hF
  exact gE [re 2,re 4,bb h1,re 1]
 refine gP 2 [re 2,re 4,bb h1,re 2] [(1,.bp 0 0),(3,iP 0),(4,iP 0)] [.cells (c71 v0)] ?_
 refine gM (λ(x:Int×Int)=>match x with|(v2,v3)=>([(1,.bp 0 0),(3,iP v2),(4,iP v3)],[.cells (c71 v0)],JF172_4 v0 v2 v3)) out ?_ ?_
 ·rintro⟨v2,v3⟩ hF
  rcases cor hF with⟨h5,hF⟩|⟨h5,hF⟩
  ·obtain rfl:=soj hF
   exact gE [.r (es 5 (rq 2 (bq h5) (kPt (bP (decide (v3>=2))) (bP false) h5::es 1 []))) []]
  obtain rfl:=soj hF
  exact gE [.r (es 5 (rp 2 (bq h5) (kPf (.tup []) (bP false) h5::es 1 []))) []]
 refine gP 0 [re 3] [(1,.bp 0 0),(3,iP 0),(4,iP 0),(12,.agg (c69 v0.fN)),(13,iP 0)] [.cells (c71 v0)] ?_
 refine gB 0 ?_
 obtain⟨o11,ho11,hF⟩:=Xa hF
 refine gL ho11 (λ(v6,v7,v8)=>([(1,.bp 0 0),(3,iP v6),(4,iP v7),(12,.agg (c69 v0.fN)),(13,iP v8)],[.cells (c71 v0)])) wm ?_
 rintro⟨v6,v7,v8⟩ o12 h13 h14
 rcases cor h13 with⟨h16,h13⟩|⟨h16,h13⟩
 ·refine gP 1 [re 1,bb h16] [(1,.bp 0 0),(3,iP v6),(4,iP v7),(12,.agg (c69 v0.fN)),(13,iP v8)] [.cells (c71 v0)] ?_
  refine gM (λ(x:Int×Int)=>match x with|(v17,v18)=>([(1,.bp 0 0),(3,iP v17),(4,iP v18),(12,.agg (c69 v0.fN)),(13,iP v8)],[.cells (c71 v0)],JF172_19 v8 v17 v18)) o12 ?_ ?_
  ·rintro⟨v17,v18⟩ h13
   cases h13
   exact g_to [re 2] .normal λ_ hw=>⟨rfl,hw⟩
  refine gB 1 ?_
  obtain⟨v20,h21,h13⟩:=Xa h13
  refine gP 0 [.r (es 1 (⟨.pu (.idxA 1 6 none (.c (.agg (c69 v0.fN))) (.c (iP v8))) (iP v20),(n_idxA1 (f:=λx=>(iP x)) h21 rfl)⟩::es 2 [])) []] [(1,.bp 0 0),(3,iP v6),(4,iP v7),(5,iP v8),(6,iP v20),(12,.agg (c69 v0.fN)),(13,iP v8)] [.cells (c71 v0)] ?_
  refine gB 2 ?_
  refine gM (λ(v22:Bool)=>([(1,.bp 0 0),(3,iP v6),(4,iP v7),(6,iP v20),(12,.agg (c69 v0.fN)),(13,iP v8),(17,bP v22)],[.cells (c71 v0)],JF172_23 v20 v8 v6 v7 v22)) o12 ?_ ?_
  ·rintro v22 h13
   rcases cor h13 with⟨h24,h13⟩|⟨h24,h13⟩
   ·cases h13
    obtain rfl:=h14 _ rfl
    obtain rfl:=soj hF
    exact gE [bb h24,re 1]
   rcases cor h13 with⟨h25,h13⟩|⟨h25,h13⟩
   ·exact g_to [bb h24,re 3,bb h25,re 7] .normal λ_ hw=>⟨_,_,hw,((wi (v6+v20)),wi (v7+1)),h13,rfl,rfl⟩
   exact g_to [bb h24,re 3,bb h25] .normal λ_ hw=>⟨_,_,hw,(v6,v7),h13,rfl,rfl⟩
  rcases cor h13 with⟨h26,h13⟩|⟨h26,h13⟩
  ·exact g_to [.r (es 3 (rp 2 (bq h26) (kPt (bP true) (.tup []) h26::es 1 (rp 4 bqT (es 2 []))))) []] .normal λ_ hw=>⟨_,_,hw,true,h13,rfl,rfl⟩
  rcases cor h13 with⟨h27,h13⟩|⟨h27,h13⟩
  ·exact g_to [.r (es 3 (rq 2 (bq h26) (kPf (bP true) (bP (decide (v20>64))) h26::es 1 (rp 4 (bq h27) (kPt (bP true) (.tup []) h27::es 1 []))))) []] .normal λ_ hw=>⟨_,_,hw,true,h13,rfl,rfl⟩
  rcases cor h13 with⟨h28,h13⟩|⟨h28,h13⟩
  ·exact g_to [.r (es 3 (rq 2 (bq h26) (kPf (bP true) (bP (decide (v20>64))) h26::es 1 (rq 3 (bq h27) (rq 3 (bq h28) (bq h27::kPt (bP (v8 !=v7)) (bP false) h28::kPf (bP true) (bP (v8 !=v7)) h27::es 1 [])))))) []] .normal λ_ hw=>⟨_,_,hw,v8 !=v7,h13,rfl,rfl⟩
  exact g_to [.r (es 3 (rq 2 (bq h26) (kPf (bP true) (bP (decide (v20>64))) h26::es 1 (rq 3 (bq h27) (rp 3 (bq h28) (bq h27::kPf (.tup []) (bP false) h28::kPf (bP true) (bP false) h27::es 1 [])))))) []] .normal λ_ hw=>⟨_,_,hw,false,h13,rfl,rfl⟩
 cases h13
 obtain rfl:=h14 _ rfl
 exact g_to [re 1,bb h16] (.exit 0) λ_ hw=>Xi (⟨_,_,hw,(v6,v7),hF,rfl,rfl⟩)
theorem CF83 {v0 out} (hF:F83 v0=some out):A0 83 [.agg (c71 v0)] (iP out):=by
 refine gC Tryz.func83 ?_
 refine gP 0 [re 2] [(1,.bp 0 0)] [.cells (c71 v0)] ?_
 refine gS ?_
 refine gB 0 ?_
 refine gM (λ(v1:Bool)=>([(1,.bp 0 0),(3,bP v1)],[.cells (c71 v0)],JF83_2 v0 v1)) out ?_ ?_
 ·rintro v1 hF
  refine gK v1 (λh3=>?_) (λh3=>?_)
  ·replace hF:=cond_t h3 hF
   obtain rfl:=soj hF
   exact gE [re 1]
  replace hF:=cond_f h3 hF
  refine gM (λ(v4:Bool)=>([(1,.bp 0 0),(12,bP v4)],[.cells (c71 v0)],JF83_5 v0 v4)) out ?_ ?_
  ·rintro v4 hF
   rcases cor hF with⟨h6,hF⟩|⟨h6,hF⟩
   ·obtain rfl:=soj hF
    exact gE [bb h6,re 1]
   obtain⟨v7,h8,hF⟩:=Xa hF
   rcases cor hF with⟨h9,hF⟩|⟨h9,hF⟩
   ·obtain rfl:=soj hF
    exact gE [bb h6,.r (es 1 (kC (CF172 h8)::es 2 [])) [],bb h9,re 1]
   refine Xk [bb h6,.r (es 1 (kC (CF172 h8)::es 2 [])) [],bb h9] .normal [] [.cells (c71 v0)] (λe hw=>?_)
   refine⟨_,_,hw,?_⟩
   obtain rfl:=soj hF
   exact gE [re 1]
  rcases cor hF with⟨h10,hF⟩|⟨h10,hF⟩
  ·exact g_to [.r (es 4 (rp 3 (bq h10) (kPt (bP true) (.tup []) h10::es 1 (rp 7 bqT (es 2 []))))) []] .normal λ_ hw=>⟨_,_,hw,true,hF,rfl,rfl⟩
  rcases cor hF with⟨h11,hF⟩|⟨h11,hF⟩
  ·exact g_to [.r (es 4 (rq 3 (bq h10) (kPf (bP true) (bP (decide (v0.fD>64))) h10::es 1 (rp 7 (bq h11) (kPt (bP true) (.tup []) h11::es 1 []))))) []] .normal λ_ hw=>⟨_,_,hw,true,hF,rfl,rfl⟩
  exact g_to [.r (es 4 (rq 3 (bq h10) (kPf (bP true) (bP (decide (v0.fD>64))) h10::es 1 (rq 7 (bq h11) (kPf (bP true) (bP ((iand .i64 v0.fD (wi (v0.fD-(1)))) !=0)) h11::es 1 []))))) []] .normal λ_ hw=>⟨_,_,hw,(iand .i64 v0.fD (wi (v0.fD-(1)))) !=0,hF,rfl,rfl⟩
 rcases cor hF with⟨h12,hF⟩|⟨h12,hF⟩
 ·exact g_to [.r (es 4 (rp 3 (bq h12) (kPt (bP true) (.tup []) h12::es 1 []))) []] .normal λ_ hw=>⟨_,_,hw,true,hF,rfl,rfl⟩
 exact g_to [.r (es 4 (rq 3 (bq h12) (kPf (bP true) (bP (decide (v0.fE>64))) h12::es 1 []))) []] .normal λ_ hw=>⟨_,_,hw,decide (v0.fE>64),hF,rfl,rfl⟩
theorem CF305 {v0 out} (hF:F305 v0=some out):A0 305 [.agg (c71 v0)] (iP out):=by
 refine gC Tryz.func305 ?_
 obtain⟨v1,h2,hF⟩:=Xa hF
 obtain rfl:=soj hF
 exact gE [re 2,.r (es 2 (⟨.pu (.bin .quo (.c (iP 1935360)) (.c (iP v0.fD))) (iP v1),n_quo h2⟩::es 1 [])) []]
theorem CF256 {v0 out} (hF:F256 v0=some out):A0 256 [.agg (c71 v0)] (iP out):=by
 refine gC Tryz.func256 ?_
 obtain⟨v1,h2,hF⟩:=Xa hF
 obtain rfl:=soj hF
 exact gE [re 2,.r (es 3 (kC (CF305 h2)::[])) (es 2 [])]
theorem CF187 {v0 out} (hF:F187 v0=some out):A0 187 [.agg (c71 v0)] (.tup [iP out.1,iP out.2]):=by
 refine gC Tryz.func187 ?_
 obtain⟨v1,h2,hF⟩:=Xa hF
 rcases cor hF with⟨h3,hF⟩|⟨h3,hF⟩
 ·obtain rfl:=soj hF
  exact gE [re 3,.r (es 1 (kC (CF83 h2)::es 1 [])) [],re 2,bb h3,re 3]
 obtain⟨v4,h5,hF⟩:=Xa hF
 obtain rfl:=soj hF
 exact gE [re 3,.r (es 1 (kC (CF83 h2)::es 1 [])) [],re 2,bb h3,.r (es 1 (kC (CF256 h5)::es 2 [])) []]
theorem CF99 {v0 out} (hF:F99 v0=some out):A0 99 [.agg (c75 v0)] (.tup [iP out.1,iP out.2]):=by
 refine gC Tryz.func99 ?_
 obtain⟨v1,h2,hF⟩:=Xa hF
 refine gP 1 [re 3,.r (es 2 (kC (CF187 h2)::es 5 [])) []] [(1,.bp 0 0),(4,iP v1.1),(5,iP v1.2)] [.cells (c75 v0)] ?_
 refine gM (λ(v3:Int)=>([(4,iP v3)],[],JF99_4 v3)) out ?_ ?_
 ·rintro v3 hF
  rcases cor hF with⟨h5,hF⟩|⟨h5,hF⟩
  ·obtain rfl:=soj hF
   exact gE [re 4,bb h5,re 2]
  rcases cor hF with⟨h6,hF⟩|⟨h6,hF⟩
  ·obtain rfl:=soj hF
   exact gE [re 4,bb h5,re 3,bb h6,re 2]
  obtain rfl:=soj hF
  exact gE [re 4,bb h5,re 3,bb h6,re 3]
 rcases cor hF with⟨h7,hF⟩|⟨h7,hF⟩
 ·obtain rfl:=soj hF
  exact gE [re 3,bb h7,re 3]
 rcases cor hF with⟨h8,hF⟩|⟨h8,hF⟩
 ·obtain rfl:=soj hF
  exact gE [re 3,bb h7,re 4,bb h8,re 2]
 rcases cor hF with⟨h9,hF⟩|⟨h9,hF⟩
 ·exact g_tc 0 [re 3,bb h7,re 4,bb h8,re 4,bb h9,re 3] .normal λ_ _ hw=>⟨_,_,hw,v0.fao,hF,rfl,rfl⟩
 exact g_tc 0 [re 3,bb h7,re 4,bb h8,re 4,bb h9] .normal λ_ _ hw=>⟨_,_,hw,v1.1,hF,rfl,rfl⟩
theorem CF134 {v0 v1 out} (hF:F134 v0 v1=some out):A0 134 [iP v0,.agg (c75 v1)] (bP out):=by
 refine gC Tryz.func134 ?_
 obtain⟨v2,h3,hF⟩:=Xa hF
 refine gP 2 [re 2,.r (es 1 (kC (CF99 h3)::es 5 [])) [],re 1] [(3,.bp 0 0),(5,iP v2.1),(6,iP v2.2),(7,bP false)] [.cells (c75 v1)] ?_
 refine gM (λ(v4:Bool)=>([(6,iP v2.2),(7,bP v4)],[],JF134_5 v2 v4)) out ?_ ?_
 ·rintro v4 hF
  rcases cor hF with⟨h6,hF⟩|⟨h6,hF⟩
  ·obtain rfl:=soj hF
   exact gE [.r (es 2 (rq 2 (bq h6) (kPt (bP (v2.2==0)) (bP false) h6::es 1 []))) []]
  obtain rfl:=soj hF
  exact gE [.r (es 2 (rp 2 (bq h6) (kPf (.tup []) (bP false) h6::es 1 []))) []]
 refine gP 0 [.r (es 2 (kL 2 c95 v1.fe::es 1 [])) []] [(5,iP v2.1),(6,iP v2.2),(7,bP false),(18,eS 2 c95 v1.fe),(19,iP (ln v1.fe)),(20,iP 0)] [.cells (c75 v1)] ?_
 refine gB 0 ?_
 obtain⟨o10,ho10,hF⟩:=Xa hF
 refine gL ho10 (λ(v7,v8)=>([(5,iP v2.1),(6,iP v2.2),(7,bP v7),(18,eS 2 c95 v1.fe),(19,iP (ln v1.fe)),(20,iP v8)],[.cells (c75 v1)])) wm ?_
 rintro⟨v7,v8⟩ o11 h12 h13
 rcases cor h12 with⟨h15,h12⟩|⟨h15,h12⟩
 ·refine gP 1 [re 1,bb h15] [(5,iP v2.1),(6,iP v2.2),(7,bP v7),(18,eS 2 c95 v1.fe),(19,iP (ln v1.fe)),(20,iP v8)] [.cells (c75 v1)] ?_
  refine gM (λ(v16:Bool)=>([(5,iP v2.1),(6,iP v2.2),(7,bP v16),(18,eS 2 c95 v1.fe),(19,iP (ln v1.fe)),(20,iP v8)],[.cells (c75 v1)],JF134_17 v8 v16)) o11 ?_ ?_
  ·rintro v16 h12
   cases h12
   exact g_to [re 2] .normal λ_ hw=>⟨rfl,hw⟩
  refine gB 1 ?_
  obtain⟨v18,h19,h12⟩:=Xa h12
  refine gP 1 [.r (kX 2 c95 h19::es 3 []) [],.r (es 2 (kL 2 c230 v18.fQ::es 1 [])) []] [(5,iP v2.1),(6,iP v2.2),(7,bP v7),(9,.bp 1 0),(18,eS 2 c95 v1.fe),(19,iP (ln v1.fe)),(20,iP v8),(25,eS 2 c230 v18.fQ),(26,iP (ln v18.fQ)),(27,iP 0)] [.cells (c75 v1),.cells (c95 v18)] ?_
  refine gB 2 ?_
  obtain⟨o23,ho23,h12⟩:=Xa h12
  refine gL ho23 (λ(v20,v21)=>([(5,iP v2.1),(6,iP v2.2),(7,bP v20),(9,.bp 1 0),(18,eS 2 c95 v1.fe),(19,iP (ln v1.fe)),(20,iP v8),(25,eS 2 c230 v18.fQ),(26,iP (ln v18.fQ)),(27,iP v21)],[.cells (c75 v1),.cells (c95 v18)])) wm ?_
  rintro⟨v20,v21⟩ o24 h25 h26
  rcases cor h25 with⟨h28,h25⟩|⟨h28,h25⟩
  ·obtain⟨v29,h30,h25⟩:=Xa h25
   rcases cor h25 with⟨h31,h25⟩|⟨h31,h25⟩
   ·cases h25
    exact g_tc 2 [re 1,bb h28,.r (es 1 (kX 2 c230 h30::es 4 [])) [],.r (es 2 (rp 4 (bq h31) (kPt (bP true) (.tup []) h31::es 1 (rp 6 bqT (es 2 (rp 3 bqT [])))))) (bqT::es 2 []),re 2] .normal λ_ _ hw=>⟨rfl,hw⟩
   obtain⟨v32,h33,h25⟩:=Xa h25
   rcases cor h25 with⟨h34,h25⟩|⟨h34,h25⟩
   ·cases h25
    exact g_tc 2 [re 1,bb h28,.r (es 1 (kX 2 c230 h30::es 4 [])) [],.r (es 2 (rq 2 (bq h31) (bq h31::kC (CF133 h33)::bq h31::es 1 (kPf (bP true) (bP (v32 !=0)) h31::es 1 (rp 6 (bq h34) (kPt (bP true) (.tup []) h34::es 1 (rp 3 bqT []))))))) (bqT::es 2 []),re 2] .normal λ_ _ hw=>⟨rfl,hw⟩
   obtain⟨v35,h36,h25⟩:=Xa h25
   rcases cor h25 with⟨h37,h25⟩|⟨h37,h25⟩
   ·cases h25
    exact g_tc 2 [re 1,bb h28,.r (es 1 (kX 2 c230 h30::es 4 [])) [],.r (es 2 (rq 2 (bq h31) (bq h31::kC (CF133 h33)::bq h31::es 1 (kPf (bP true) (bP (v32 !=0)) h31::es 1 (rq 4 (bq h34) (bq h34::kC (Xx h36)::bq h34::es 1 (kPf (bP true) (bP (!v35)) h34::es 1 (rp 3 (bq h37) [])))))))) (bq h37::kPt (bP true) (.tup []) h37::es 1 []),re 2] .normal λ_ _ hw=>⟨rfl,hw⟩
   rcases cor h25 with⟨h38,h25⟩|⟨h38,h25⟩
   ·obtain⟨v39,h40,h25⟩:=Xa h25
    cases h25
    exact g_tc 2 [re 1,bb h28,.r (es 1 (kX 2 c230 h30::es 4 [])) [],.r (es 2 (rq 2 (bq h31) (bq h31::kC (CF133 h33)::bq h31::es 1 (kPf (bP true) (bP (v32 !=0)) h31::es 1 (rq 4 (bq h34) (bq h34::kC (Xx h36)::bq h34::es 1 (kPf (bP true) (bP (!v35)) h34::es 1 (rq 3 (bq h37) (rq 6 (bq h38) (bq h38::kX 2 c230 h40::rq 2 (bq h38) [])))))))))) (bq h38::es 1 (bq h37::kPt (bP (decide (v29.fAt<=v39.fAt))) (bP false) h38::kPf (bP true) (bP (decide (v29.fAt<=v39.fAt))) h37::es 1 [])),re 2] .normal λ_ _ hw=>⟨rfl,hw⟩
   cases h25
   exact g_tc 2 [re 1,bb h28,.r (es 1 (kX 2 c230 h30::es 4 [])) [],.r (es 2 (rq 2 (bq h31) (bq h31::kC (CF133 h33)::bq h31::es 1 (kPf (bP true) (bP (v32 !=0)) h31::es 1 (rq 4 (bq h34) (bq h34::kC (Xx h36)::bq h34::es 1 (kPf (bP true) (bP (!v35)) h34::es 1 (rq 3 (bq h37) (rp 9 (bq h38) []))))))))) (bq h38::bq h37::kPf (.tup []) (bP false) h38::kPf (bP true) (bP false) h37::es 1 []),re 2] .normal λ_ _ hw=>⟨rfl,hw⟩
  cases h25
  obtain rfl:=h26 _ rfl
  exact g_tc 1 [re 1,bb h28] (.exit 2) λ_ _ hw=>Xi (⟨_,_,hw,v20,h12,rfl,rfl⟩)
 cases h12
 obtain rfl:=h13 _ rfl
 exact g_tc 0 [re 1,bb h15] (.exit 0) λ_ _ hw=>Xi (⟨_,_,hw,v7,hF,rfl,rfl⟩)
theorem CF131_2 {v0 v1 v2 out} (hF:F131_2 v0 v1 v2=some out):ACall Tryz.prog 131 [.bp 0 0,(fk 134)] (hC v0 v1 v2) (λq h=>q=(.tup [])/\h=(hC v0 v1 out)):=by
 refine gC Tryz.func131 ?_
 refine gP 0 [.r (es 5 (kL 22 c75 v0.fc::es 1 [])) []] [(0,.bp 0 0),(1,(fk 134)),(10,eS 22 c75 v0.fc),(11,iP (ln v0.fc)),(12,iP 0)] (hC v0 v1 v2) ?_
 refine gB 0 ?_
 obtain⟨o7,ho7,hF⟩:=Xa hF
 refine gL ho7 (λ(v4,v5)=>([(0,.bp 0 0),(1,(fk 134)),(10,eS 22 c75 v0.fc),(11,iP (ln v0.fc)),(12,iP v4)],hC v0 v1 v5)) wm ?_
 rintro⟨v4,v5⟩ o8 h9 h10
 rcases cor h9 with⟨h12,h9⟩|⟨h12,h9⟩
 ·obtain⟨v13,h14,v15,h16,v22,h23,h9⟩:=bs3 h9
  cases h9
  exact g_tc 2 [re 1,bb h12,.r (es 1 (kX 22 c75 h14::es 4 [])) [],.r (es 4 (kC (CF134 h16)::es 2 [])) (kK [0,1] [] 0 0 (Yb h23)::[]),re 2] .normal λ_ _ hw=>⟨rfl,hw⟩
 cases h9
 obtain rfl:=h10 _ rfl
 obtain rfl:=soj hF
 exact g_rh 2 [re 1,bb h12] (.exit 0) λ_ _ k j=>Xi (hn k j)
theorem CF63_1 {v0 v1 v2 out} (hF:F63_1 v0 v1 v2=some out):ACall Tryz.prog 63 [.bp 0 0] (hC v0 v1 v2) (λq h=>q=(.tup [])/\h=(hC v0 v1 out)):=by
 refine gC Tryz.func63 ?_
 refine gM (λ(v4:List G159)=>([(0,.bp 0 0)],hC v0 v1 v4,JF63_1_5 v0 v1 v4)) out ?_ ?_
 ·rintro v4 hF
  obtain⟨v9,h10,hF⟩:=Xa hF
  obtain rfl:=soj hF
  exact g_rh 2 [.r (es 1 (kK [0,1] [] 0 0 (CF131_2 h10)::[])) []] .normal λ_ _ k j=>hn k j
 refine gP 0 [.r (es 5 (kL 6 c68 v0.fh::es 1 [])) []] [(0,.bp 0 0),(10,eS 6 c68 v0.fh),(11,iP (ln v0.fh)),(12,iP 0)] (hC v0 v1 v2) ?_
 refine gB 0 ?_
 obtain⟨o14,ho14,hF⟩:=Xa hF
 refine gL ho14 (λ(v11,v12)=>([(0,.bp 0 0),(10,eS 6 c68 v0.fh),(11,iP (ln v0.fh)),(12,iP v11)],hC v0 v1 v12)) wm ?_
 rintro⟨v11,v12⟩ o15 h16 h17
 rcases cor h16 with⟨h19,h16⟩|⟨h19,h16⟩
 ·refine gP 1 [re 1,bb h19] [(0,.bp 0 0),(10,eS 6 c68 v0.fh),(11,iP (ln v0.fh)),(12,iP v11)] (hC v0 v1 v12) ?_
  refine gM (λ(v20:List G159)=>([(0,.bp 0 0),(10,eS 6 c68 v0.fh),(11,iP (ln v0.fh)),(12,iP v11)],hC v0 v1 v20,JF63_1_21 v11 v20)) o15 ?_ ?_
  ·rintro v20 h16
   cases h16
   exact g_to [re 2] .normal λ_ hw=>⟨rfl,hw⟩
  refine gB 1 ?_
  obtain⟨v22,h23,h16⟩:=Xa h16
  refine gP 1 [.r (kX 6 c68 h23::es 3 []) [],.r (es 2 (kL 3 c184 v22.ft::es 1 [])) []] [(0,.bp 0 0),(10,eS 6 c68 v0.fh),(11,iP (ln v0.fh)),(12,iP v11),(17,eS 3 c184 v22.ft),(18,iP (ln v22.ft)),(19,iP 0)] (hC v0 v1 v12++[.cells (c68 v22)]) ?_
  refine gB 2 ?_
  obtain⟨o27,ho27,h16⟩:=Xa h16
  refine gL ho27 (λ(v24,v25)=>([(0,.bp 0 0),(10,eS 6 c68 v0.fh),(11,iP (ln v0.fh)),(12,iP v11),(17,eS 3 c184 v22.ft),(18,iP (ln v22.ft)),(19,iP v24)],hC v0 v1 v25++[.cells (c68 v22)])) wm ?_
  rintro⟨v24,v25⟩ o28 h29 h30
  rcases cor h29 with⟨h32,h29⟩|⟨h32,h29⟩
  ·obtain⟨v33,h34,v35,h36,v42,h43,h29⟩:=bs3 h29
   cases h29
   exact g_tc 3 [re 1,bb h32,.r (kX 3 c184 h34::es 3 []) [],.r (es 3 (kC (CF133 h36)::es 3 [])) (kK [0,1] [] 0 0 (Yb h43)::[]),re 2] .normal λ_ _ hw=>⟨rfl,hw⟩
  cases h29
  obtain rfl:=h30 _ rfl
  exact g_tc 2 [re 1,bb h32] (.exit 2) λ_ _ hw=>Xi (⟨_,_,hw,v25,h16,rfl,rfl⟩)
 cases h16
 obtain rfl:=h17 _ rfl
 exact g_to [re 1,bb h19] (.exit 0) λ_ hw=>Xi (⟨_,_,hw,v12,hF,rfl,rfl⟩)
theorem CF78 {v0 out} (hF:F78 v0=some out):A0 78 [iP v0] (iP out):=by
 refine gC Tryz.func78 ?_
 refine gP 0 [re 1] [(0,iP v0)] [] ?_
 refine gS ?_
 refine gM (λ(v1:Bool)=>([(8,bP v1)],[],JF78_2 v1)) out ?_ ?_
 ·rintro v1 hF
  rcases cor hF with⟨h3,hF⟩|⟨h3,hF⟩
  ·obtain rfl:=soj hF
   exact gE [bb h3,re 1]
  refine Xk [bb h3] .normal [] [] (λe hw=>?_)
  refine⟨_,_,hw,?_⟩
  obtain rfl:=soj hF
  exact gE [re 1]
 rcases cor hF with⟨h4,hF⟩|⟨h4,hF⟩
 ·exact g_to [.r (es 3 (rp 2 (bq h4) (kPt (bP true) (.tup []) h4::[]))) []] .normal λ_ hw=>⟨_,_,hw,true,hF,rfl,rfl⟩
 exact g_to [.r (es 3 (rq 2 (bq h4) (kPf (bP true) (bP (decide (v0>7))) h4::[]))) []] .normal λ_ hw=>⟨_,_,hw,decide (v0>7),hF,rfl,rfl⟩
theorem CF136 {v0 v1 out} (hF:F136 v0 v1=some out):A0 136 [iP v0,.agg (c65 v1)] (.tup [iP out.1,iP out.2]):=by
 refine gC Tryz.func136 ?_
 obtain⟨v2,h3,hF⟩:=Xa hF
 rcases cor hF with⟨h4,hF⟩|⟨h4,hF⟩
 ·obtain rfl:=soj hF
  exact gE [re 3,.r (es 1 (kC (CF78 h3)::es 1 [])) [],re 2,bb h4,re 3]
 refine gP 1 [re 3,.r (es 1 (kC (CF78 h3)::es 1 [])) [],re 2,bb h4] [(0,iP v0),(3,.bp 0 0)] [.cells (c65 v1)] ?_
 refine gS ?_
 refine gM (λ(v5:Bool)=>([(0,iP v0),(3,.bp 0 0),(29,bP v5)],[.cells (c65 v1)],JF136_6 v0 v1 v5)) out ?_ ?_
 ·rintro v5 hF
  rcases cor hF with⟨h7,hF⟩|⟨h7,hF⟩
  ·obtain rfl:=soj hF
   exact gE [bb h7,re 2]
  refine Xk [bb h7] .normal [(0,iP v0),(3,.bp 0 0)] [.cells (c65 v1)] (λe hw=>?_)
  refine⟨_,_,hw,?_⟩
  refine gP 0 [re 10] [(0,iP (wi (v0+(wi ((wi (7*v1.f1))-(wi (12*v1.fae)))))))] [.cells (c65 v1)] ?_
  refine gM (λ(v8:Int)=>([(0,iP v8)],[],JF136_9 v8)) out ?_ ?_
  ·rintro v8 hF
   refine gM (λ(v10:Int)=>([(0,iP v10)],[],JF136_11 v10)) out ?_ ?_
   ·rintro v10 hF
    obtain rfl:=soj hF
    exact gE [re 3]
   refine gB 2 ?_
   obtain⟨o14,ho14,hF⟩:=Xa hF
   refine gL ho14 (λv12=>([(0,iP v12)],[])) wm ?_
   rintro v12 o15 h16 h17
   rcases cor h16 with⟨h19,h16⟩|⟨h19,h16⟩
   ·cases h16
    exact g_to [re 2,bb h19,re 3] .normal λ_ hw=>⟨rfl,hw⟩
   cases h16
   obtain rfl:=h17 _ rfl
   exact g_to [re 2,bb h19] (.exit 2) λ_ hw=>Xi (⟨_,_,hw,v12,hF,rfl,rfl⟩)
  refine gB 0 ?_
  obtain⟨o22,ho22,hF⟩:=Xa hF
  refine gL ho22 (λv20=>([(0,iP v20)],[.cells (c65 v1)])) wm ?_
  rintro v20 o23 h24 h25
  rcases cor h24 with⟨h27,h24⟩|⟨h27,h24⟩
  ·cases h24
   exact g_to [re 2,bb h27,re 3] .normal λ_ hw=>⟨rfl,hw⟩
  cases h24
  obtain rfl:=h25 _ rfl
  exact g_tc 0 [re 2,bb h27] (.exit 0) λ_ _ hw=>Xi (⟨_,_,hw,v20,hF,rfl,rfl⟩)
 rcases cor hF with⟨h28,hF⟩|⟨h28,hF⟩
 ·exact g_to [.r (es 4 (rp 3 (bq h28) (kPt (bP true) (.tup []) h28::es 1 (rp 3 bqT (es 2 (rp 3 bqT (es 1 []))))))) []] .normal λ_ hw=>⟨_,_,hw,true,hF,rfl,rfl⟩
 rcases cor hF with⟨h29,hF⟩|⟨h29,hF⟩
 ·exact g_to [.r (es 4 (rq 3 (bq h28) (kPf (bP true) (bP (decide (v1.fae>77))) h28::es 1 (rp 3 (bq h29) (kPt (bP true) (.tup []) h29::es 1 (rp 3 bqT (es 1 []))))))) []] .normal λ_ hw=>⟨_,_,hw,true,hF,rfl,rfl⟩
 rcases cor hF with⟨h30,hF⟩|⟨h30,hF⟩
 ·exact g_to [.r (es 4 (rq 3 (bq h28) (kPf (bP true) (bP (decide (v1.fae>77))) h28::es 1 (rq 3 (bq h29) (kPf (bP true) (bP (decide (v1.f1<(-140)))) h29::es 1 (rp 3 (bq h30) (kPt (bP true) (.tup []) h30::[]))))))) []] .normal λ_ hw=>⟨_,_,hw,true,hF,rfl,rfl⟩
 exact g_to [.r (es 4 (rq 3 (bq h28) (kPf (bP true) (bP (decide (v1.fae>77))) h28::es 1 (rq 3 (bq h29) (kPf (bP true) (bP (decide (v1.f1<(-140)))) h29::es 1 (rq 3 (bq h30) (kPf (bP true) (bP (decide (v1.f1>140))) h30::[]))))))) []] .normal λ_ hw=>⟨_,_,hw,decide (v1.f1>140),hF,rfl,rfl⟩
theorem CF135_1 {v0 v1 v2 v3 v4 out} (hF:F135_1 v0 v1 v2 v3 v4=some out):ACall Tryz.prog 135 [iP v0,.agg (c75 v1),.bp 0 0] [.cells [.bp 1 0],.cells (c27 v2++[iP v3,oP 2 3 c159 v4]),.grow (List.length v4) 3] (λq h=>q=(bP out)/\h=[.cells [.bp 1 0],.cells (c27 v2++[iP v3,oP 2 3 c159 v4]),.grow (List.length v4) 3]):=by
 refine gC Tryz.func135 ?_
 obtain⟨v5,h6,hF⟩:=Xa hF
 refine gP 1 [re 2,.r (es 1 (kC (CF99 h6)::es 5 [])) []] [(2,.bp 0 0),(4,.bp 3 0),(7,iP v5.2)] [.cells [.bp 1 0],.cells (c27 v2++[iP v3,oP 2 3 c159 v4]),.grow (List.length v4) 3,.cells (c75 v1)] ?_
 refine gM (λ(v7:Bool)=>([(2,.bp 0 0),(4,.bp 3 0),(8,bP v7)],[.cells [.bp 1 0],.cells (c27 v2++[iP v3,oP 2 3 c159 v4]),.grow (List.length v4) 3,.cells (c75 v1)],Ua v2 v1 v7)) out ?_ ?_
 ·rintro v7 hF
  refine gM (λ(v9:Bool)=>([(8,bP v9)],[.cells [.bp 1 0],.cells (c27 v2++[iP v3,oP 2 3 c159 v4]),.grow (List.length v4) 3],JF135_1_10 v9)) out ?_ ?_
  ·rintro v9 hF
   obtain rfl:=soj hF
   exact g_rh 3 [re 2] .ret λ_ _ k j=>hr k j
  refine gP 0 [.r (es 5 (kL 6 c68 v2.fh::es 1 [])) []] [(2,.bp 0 0),(4,.bp 3 0),(8,bP v7),(28,eS 6 c68 v2.fh),(29,iP (ln v2.fh)),(30,iP 0)] [.cells [.bp 1 0],.cells (c27 v2++[iP v3,oP 2 3 c159 v4]),.grow (List.length v4) 3,.cells (c75 v1)] ?_
  refine gB 0 ?_
  obtain⟨o14,ho14,hF⟩:=Xa hF
  refine gL ho14 (λ(v11,v12)=>([(2,.bp 0 0),(4,.bp 3 0),(8,bP v11),(28,eS 6 c68 v2.fh),(29,iP (ln v2.fh)),(30,iP v12)],[.cells [.bp 1 0],.cells (c27 v2++[iP v3,oP 2 3 c159 v4]),.grow (List.length v4) 3,.cells (c75 v1)])) wm ?_
  rintro⟨v11,v12⟩ o15 h16 h17
  rcases cor h16 with⟨h19,h16⟩|⟨h19,h16⟩
  ·refine gP 1 [re 1,bb h19] [(2,.bp 0 0),(4,.bp 3 0),(8,bP v11),(28,eS 6 c68 v2.fh),(29,iP (ln v2.fh)),(30,iP v12)] [.cells [.bp 1 0],.cells (c27 v2++[iP v3,oP 2 3 c159 v4]),.grow (List.length v4) 3,.cells (c75 v1)] ?_
   refine gM (λ(v20:Bool)=>([(2,.bp 0 0),(4,.bp 3 0),(8,bP v20),(28,eS 6 c68 v2.fh),(29,iP (ln v2.fh)),(30,iP v12)],[.cells [.bp 1 0],.cells (c27 v2++[iP v3,oP 2 3 c159 v4]),.grow (List.length v4) 3,.cells (c75 v1)],JF135_1_21 v12 v20)) o15 ?_ ?_
   ·rintro v20 h16
    cases h16
    exact g_to [re 2] .normal λ_ hw=>⟨rfl,hw⟩
   refine gB 1 ?_
   obtain⟨v22,h23,h16⟩:=Xa h16
   refine gP 0 [.r (kX 6 c68 h23::es 3 []) []] [(2,.bp 0 0),(4,.bp 3 0),(8,bP v11),(10,.bp 4 0),(28,eS 6 c68 v2.fh),(29,iP (ln v2.fh)),(30,iP v12)] [.cells [.bp 1 0],.cells (c27 v2++[iP v3,oP 2 3 c159 v4]),.grow (List.length v4) 3,.cells (c75 v1),.cells (c68 v22)] ?_
   refine gM (λ(v24:Bool)=>([(2,.bp 0 0),(4,.bp 3 0),(8,bP v11),(10,.bp 4 0),(28,eS 6 c68 v2.fh),(29,iP (ln v2.fh)),(30,iP v12),(42,bP v24)],[.cells [.bp 1 0],.cells (c27 v2++[iP v3,oP 2 3 c159 v4]),.grow (List.length v4) 3,.cells (c75 v1),.cells (c68 v22)],Wf v1 v22 v12 v11 v24)) o15 ?_ ?_
   ·rintro v24 h16
    rcases cor h16 with⟨h26,h16⟩|⟨h26,h16⟩
    ·obtain⟨v27,h28,h16⟩:=Xa h16
     exact g_tc 4 [bb h26,.r (es 4 (kC (CF136 h28)::es 4 [])) [],re 3] .normal λ_ _ hw=>⟨_,_,hw,v27.2 !=0,h16,rfl,rfl⟩
    exact g_tc 4 [bb h26] .normal λ_ _ hw=>⟨_,_,hw,v11,h16,rfl,rfl⟩
   rcases cor h16 with⟨h29,h16⟩|⟨h29,h16⟩
   ·exact g_to [.r (es 6 (rq 2 (bq h29) (kPt (bP (!v11)) (bP false) h29::[]))) []] .normal λ_ hw=>⟨_,_,hw,!v11,h16,rfl,rfl⟩
   exact g_to [.r (es 6 (rp 2 (bq h29) (kPf (.tup []) (bP false) h29::[]))) []] .normal λ_ hw=>⟨_,_,hw,false,h16,rfl,rfl⟩
  cases h16
  obtain rfl:=h17 _ rfl
  exact g_tc 3 [re 1,bb h19] (.exit 0) λ_ _ hw=>Xi (⟨_,_,hw,v11,hF,rfl,rfl⟩)
 rcases cor hF with⟨h30,hF⟩|⟨h30,hF⟩
 ·exact g_to [.r (es 3 (rp 4 (bq h30) (kPt (bP true) (.tup []) h30::es 1 []))) []] .normal λ_ hw=>⟨_,_,hw,true,hF,rfl,rfl⟩
 obtain⟨v31,h32,hF⟩:=Xa hF
 exact g_to [.r (es 3 (rq 2 (bq h30) (bq h30::kC (Xx h32)::bq h30::es 1 (kPf (bP true) (bP (!v31)) h30::es 1 [])))) []] .normal λ_ hw=>⟨_,_,hw,!v31,hF,rfl,rfl⟩
theorem CF131_3 {v0 v1 v2 out} (hF:F131_3 v0 v1 v2=some out):ACall Tryz.prog 131 [.bp 0 0,(.fn (.func 135) [] [.bp 2 0])] (hC v0 v1 v2++[.cells [.bp 0 0]]) (λq h=>q=(.tup [])/\h=(hC v0 v1 out++[.cells [.bp 0 0]])):=by
 refine gC Tryz.func131 ?_
 refine gP 0 [.r (es 5 (kL 22 c75 v0.fc::es 1 [])) []] [(0,.bp 0 0),(1,(.fn (.func 135) [] [.bp 2 0])),(10,eS 22 c75 v0.fc),(11,iP (ln v0.fc)),(12,iP 0)] (hC v0 v1 v2++[.cells [.bp 0 0]]) ?_
 refine gB 0 ?_
 obtain⟨o7,ho7,hF⟩:=Xa hF
 refine gL ho7 (λ(v4,v5)=>([(0,.bp 0 0),(1,(.fn (.func 135) [] [.bp 2 0])),(10,eS 22 c75 v0.fc),(11,iP (ln v0.fc)),(12,iP v4)],hC v0 v1 v5++[.cells [.bp 0 0]])) wm ?_
 rintro⟨v4,v5⟩ o8 h9 h10
 rcases cor h9 with⟨h12,h9⟩|⟨h12,h9⟩
 ·obtain⟨v13,h14,v20,h21,v27,h28,h9⟩:=bs3 h9
  cases h9
  exact g_tc 3 [re 1,bb h12,.r (es 1 (kX 22 c75 h14::es 4 [])) [],.r (es 4 (kQ [2,0,1] [] 0 1 (CF135_1 h21)::es 2 [])) (kK [0,1] [] 0 0 (Yb h28)::[]),re 2] .normal λ_ _ hw=>⟨rfl,hw⟩
 cases h9
 obtain rfl:=h10 _ rfl
 obtain rfl:=soj hF
 exact g_rh 3 [re 1,bb h12] (.exit 0) λ_ _ k j=>Xi (hn k j)
theorem CF64_1 {v0 v1 v2 out} (hF:F64_1 v0 v1 v2=some out):ACall Tryz.prog 64 [.bp 0 0] (hC v0 v1 v2) (λq h=>q=(.tup [])/\h=(hC v0 v1 out)):=by
 refine gC Tryz.func64 ?_
 obtain⟨v7,h8,hF⟩:=Xa hF
 obtain rfl:=soj hF
 exact g_rh 2 [re 1,.r (es 2 (kK [0,1,2] [] 0 0 (CF131_3 h8)::[])) []] .normal λ_ _ k j=>hn k j
theorem CF215 {v0 v1 out} (hF:F215 v0 v1=some out):A0 215 [iP v0,iP v1] (iP out):=by
 refine gC Tryz.func215 ?_
 refine gP 0 [re 1] [(0,iP v0),(1,iP v1)] [] ?_
 refine gS ?_
 refine gM (λ(v2:Bool)=>([(11,bP v2)],[],JF215_3 v2)) out ?_ ?_
 ·rintro v2 hF
  rcases cor hF with⟨h4,hF⟩|⟨h4,hF⟩
  ·obtain rfl:=soj hF
   exact gE [bb h4,re 1]
  refine Xk [bb h4] .normal [] [] (λe hw=>?_)
  refine⟨_,_,hw,?_⟩
  obtain rfl:=soj hF
  exact gE [re 1]
 rcases cor hF with⟨h5,hF⟩|⟨h5,hF⟩
 ·exact g_to [.r (es 3 (rp 3 (bq h5) (kPt (bP true) (.tup []) h5::[]))) []] .normal λ_ hw=>⟨_,_,hw,true,hF,rfl,rfl⟩
 exact g_to [.r (es 3 (rq 3 (bq h5) (kPf (bP true) (bP (decide (v0>v1))) h5::[]))) []] .normal λ_ hw=>⟨_,_,hw,decide (v0>v1),hF,rfl,rfl⟩
theorem CF214 {v0 out} (hF:F214 v0=some out):A0 214 [eS 1 cI v0] (iP out):=by
 refine gC Tryz.func214 ?_
 refine gP 0 [re 1] [(0,eS 1 cI v0)] [] ?_
 refine gM (λ(_:Unit)=>([],[],JF214_1)) out ?_ ?_
 ·rintro⟨⟩ hF
  obtain rfl:=soj hF
  exact gE [re 1]
 refine gP 0 [.r (es 1 (kL 1 cI v0::es 1 [])) []] [(5,eS 1 cI v0),(6,iP (ln v0)),(7,iP 0)] [] ?_
 refine gB 0 ?_
 obtain⟨o4,ho4,hF⟩:=Xa hF
 refine gL ho4 (λv2=>([(5,eS 1 cI v0),(6,iP (ln v0)),(7,iP v2)],[])) wm ?_
 rintro v2 o5 h6 h7
 rcases cor h6 with⟨h9,h6⟩|⟨h9,h6⟩
 ·obtain⟨v10,h11,h6⟩:=Xa h6
  rcases cor h6 with⟨h12,h6⟩|⟨h12,h6⟩
  ·cases h6
   obtain rfl:=h7 _ rfl
   obtain rfl:=soj hF
   exact gE [re 1,bb h9,.r (kX 1 cI h11::es 2 []) [],re 2,bb h12,re 2]
  cases h6
  exact g_to [re 1,bb h9,.r (kX 1 cI h11::es 2 []) [],re 2,bb h12,re 2] .normal λ_ hw=>⟨rfl,hw⟩
 cases h6
 obtain rfl:=h7 _ rfl
 exact g_to [re 1,bb h9] (.exit 0) λ_ hw=>Xi (⟨_,_,hw,(),hF,rfl,rfl⟩)
theorem CF216 {v0 out} (hF:F216 v0=some out):A0 216 [iP v0] (bP out):=by
 refine gC Tryz.func216 ?_
 rcases cor hF with⟨h1,hF⟩|⟨h1,hF⟩
 ·obtain rfl:=soj hF
  exact gE [re 1,.r (es 3 (rq 2 (bq h1) (kPt (bP (decide (v0<=4))) (bP false) h1::es 1 []))) []]
 obtain rfl:=soj hF
 exact gE [re 1,.r (es 3 (rp 2 (bq h1) (kPf (.tup []) (bP false) h1::es 1 []))) []]
theorem CF284 {v0 out} (hF:F284 v0=some out):A0 284 [iP v0] (iP out):=by
 refine gC Tryz.func284 ?_
 rcases cor hF with⟨h1,hF⟩|⟨h1,hF⟩
 ·obtain rfl:=soj hF
  exact gE [re 1,re 2,bb h1,re 1]
 obtain rfl:=soj hF
 exact gE [re 1,re 2,bb h1,re 3]
theorem CF218 {v0 out} (hF:F218 v0=some out):A0 218 [.agg (c147 v0)] (.agg (c147 out)):=by
 refine gC Tryz.func218 ?_
 refine gP 0 [re 2] [(1,.bp 0 0),(2,.bp 1 0)] [.cells (c147 v0),.cells [iP 0,iP 0,iP 0,iP 0,iP 0,eS 5 c182 Sl.nil,eS 5 c245 Sl.nil,iP 0,iP 0,iP 0,eS 2 c171 Sl.nil,iP 0,iP 0]] ?_
 refine gS ?_
 refine gM (λ(v1:Bool)=>([(1,.bp 0 0),(2,.bp 1 0),(12,bP v1)],[.cells (c147 v0),.cells [iP 0,iP 0,iP 0,iP 0,iP 0,eS 5 c182 Sl.nil,eS 5 c245 Sl.nil,iP 0,iP 0,iP 0,eS 2 c171 Sl.nil,iP 0,iP 0]],JF218_2 v0 v1)) out ?_ ?_
 ·rintro v1 hF
  rcases cor hF with⟨h3,hF⟩|⟨h3,hF⟩
  ·obtain rfl:=soj hF
   exact gE [bb h3,re 2]
  refine Xk [bb h3] .normal [(1,.bp 0 0),(2,.bp 1 0)] [.cells (c147 v0),.cells [iP 0,iP 0,iP 0,iP 0,iP 0,eS 5 c182 Sl.nil,eS 5 c245 Sl.nil,iP 0,iP 0,iP 0,eS 2 c171 Sl.nil,iP 0,iP 0]] (λe hw=>?_)
  refine⟨_,_,hw,?_⟩
  refine gP 0 [re 9] [(1,.bp 0 0),(2,.bp 1 0),(3,.bp 2 0)] [.cells (c147 v0),.cells [iP 0,iP 0,iP 0,iP 0,iP 0,eS 5 c182 Sl.nil,eS 5 c245 Sl.nil,iP 0,iP 0,iP 0,eS 2 c171 Sl.nil,iP 0,iP 0],.cells (c58 v0.fID++[iP v0.fj,iP 0,iP 0,.sl true .full 0 [],.sl true .full 0 [],iP 0,iP 0,iP v0.fZ,.sl true .full 0 [],iP 0,iP 0])] ?_
  refine gM (λ(x:Int×Int)=>match x with|(v4,v5)=>([(1,.bp 0 0),(2,.bp 1 0),(3,.bp 2 0)],[.cells (c147 v0),.cells [iP 0,iP 0,iP 0,iP 0,iP 0,eS 5 c182 Sl.nil,eS 5 c245 Sl.nil,iP 0,iP 0,iP 0,eS 2 c171 Sl.nil,iP 0,iP 0],.cells (c58 v0.fID++[iP v0.fj,iP v4,iP v5,.sl true .full 0 [],.sl true .full 0 [],iP 0,iP 0,iP v0.fZ,.sl true .full 0 [],iP 0,iP 0])],JF218_6 v0 v4 v5)) out ?_ ?_
  ·rintro⟨v4,v5⟩ hF
   rcases cor hF with⟨h7,hF⟩|⟨h7,hF⟩
   ·obtain⟨v8,h9,hF⟩:=Xa hF
    obtain rfl:=soj hF
    exact gE [re 3,bb h7,.r (es 2 (kC (CF284 h9)::es 2 [])) [],re 2]
   obtain rfl:=soj hF
   exact gE [re 3,bb h7,re 2]
  rcases cor hF with⟨h10,hF⟩|⟨h10,hF⟩
  ·exact g_to [re 3,bb h10,re 4] .normal λ_ hw=>⟨_,_,hw,(v0.fu.fx,v0.fu.fB),hF,rfl,rfl⟩
  exact g_to [re 3,bb h10] .normal λ_ hw=>⟨_,_,hw,(0,0),hF,rfl,rfl⟩
 rcases cor hF with⟨h11,hF⟩|⟨h11,hF⟩
 ·exact g_to [.r (es 4 (rp 4 (bq h11) (kPt (bP true) (.tup []) h11::[]))) []] .normal λ_ hw=>⟨_,_,hw,true,hF,rfl,rfl⟩
 obtain⟨v12,h13,hF⟩:=Xa hF
 exact g_to [.r (es 4 (rq 2 (bq h11) (bq h11::kC (CF216 h13)::bq h11::es 1 (kPf (bP true) (bP (!v12)) h11::[])))) []] .normal λ_ hw=>⟨_,_,hw,!v12,hF,rfl,rfl⟩
theorem CF281 {v0 v1 out} (hF:F281 v0 v1=some out):A0 281 [eS 5 c182 v0,eS 5 c182 v1] (bP out):=by
 refine gC Tryz.func281 ?_
 rcases cor hF with⟨h2,hF⟩|⟨h2,hF⟩
 ·obtain rfl:=soj hF
  exact gE [re 1,.r (es 1 (kL 5 c182 v0::es 1 (kL 5 c182 v1::es 1 []))) [],bb h2,re 1]
 refine gP 1 [re 1,.r (es 1 (kL 5 c182 v0::es 1 (kL 5 c182 v1::es 1 []))) [],bb h2] [(0,eS 5 c182 v0),(1,eS 5 c182 v1)] [] ?_
 refine gM (λ(_:Unit)=>([],[],JF281_3)) out ?_ ?_
 ·rintro⟨⟩ hF
  obtain rfl:=soj hF
  exact gE [re 1]
 refine gP 0 [.r (es 1 (kL 5 c182 v0::es 1 [])) []] [(0,eS 5 c182 v0),(1,eS 5 c182 v1),(12,iP (ln v0)),(13,iP 0)] [] ?_
 refine gB 0 ?_
 obtain⟨o5,ho5,hF⟩:=Xa hF
 refine gL ho5 (λv4=>([(0,eS 5 c182 v0),(1,eS 5 c182 v1),(12,iP (ln v0)),(13,iP v4)],[])) wm ?_
 rintro v4 o6 h7 h8
 rcases cor h7 with⟨h10,h7⟩|⟨h10,h7⟩
 ·obtain⟨v11,h12,v13,h14,h7⟩:=bs2 h7
  rcases cor h7 with⟨h15,h7⟩|⟨h15,h7⟩
  ·cases h7
   obtain rfl:=h8 _ rfl
   obtain rfl:=soj hF
   exact gE [re 1,bb h10,re 2,.r (es 2 (kX 5 c182 h12::es 3 (kX 5 c182 h14::es 1 []))) (es 1 []),bb h15,re 1]
  cases h7
  exact g_to [re 1,bb h10,re 2,.r (es 2 (kX 5 c182 h12::es 3 (kX 5 c182 h14::es 1 []))) (es 1 []),bb h15,re 2] .normal λ_ hw=>⟨rfl,hw⟩
 cases h7
 obtain rfl:=h8 _ rfl
 exact g_to [re 1,bb h10] (.exit 0) λ_ hw=>Xi (⟨_,_,hw,(),hF,rfl,rfl⟩)
theorem CF282 {v0 v1 out} (hF:F282 v0 v1=some out):A0 282 [eS 5 c245 v0,eS 5 c245 v1] (bP out):=by
 refine gC Tryz.func282 ?_
 rcases cor hF with⟨h2,hF⟩|⟨h2,hF⟩
 ·obtain rfl:=soj hF
  exact gE [re 1,.r (es 1 (kL 5 c245 v0::es 1 (kL 5 c245 v1::es 1 []))) [],bb h2,re 1]
 refine gP 1 [re 1,.r (es 1 (kL 5 c245 v0::es 1 (kL 5 c245 v1::es 1 []))) [],bb h2] [(0,eS 5 c245 v0),(1,eS 5 c245 v1)] [] ?_
 refine gM (λ(_:Unit)=>([],[],JF282_3)) out ?_ ?_
 ·rintro⟨⟩ hF
  obtain rfl:=soj hF
  exact gE [re 1]
 refine gP 0 [.r (es 1 (kL 5 c245 v0::es 1 [])) []] [(0,eS 5 c245 v0),(1,eS 5 c245 v1),(12,iP (ln v0)),(13,iP 0)] [] ?_
 refine gB 0 ?_
 obtain⟨o5,ho5,hF⟩:=Xa hF
 refine gL ho5 (λv4=>([(0,eS 5 c245 v0),(1,eS 5 c245 v1),(12,iP (ln v0)),(13,iP v4)],[])) wm ?_
 rintro v4 o6 h7 h8
 rcases cor h7 with⟨h10,h7⟩|⟨h10,h7⟩
 ·obtain⟨v11,h12,v13,h14,h7⟩:=bs2 h7
  rcases cor h7 with⟨h15,h7⟩|⟨h15,h7⟩
  ·cases h7
   obtain rfl:=h8 _ rfl
   obtain rfl:=soj hF
   exact gE [re 1,bb h10,re 2,.r (es 2 (kX 5 c245 h12::es 3 (kX 5 c245 h14::es 1 []))) (es 1 []),bb h15,re 1]
  cases h7
  exact g_to [re 1,bb h10,re 2,.r (es 2 (kX 5 c245 h12::es 3 (kX 5 c245 h14::es 1 []))) (es 1 []),bb h15,re 2] .normal λ_ hw=>⟨rfl,hw⟩
 cases h7
 obtain rfl:=h8 _ rfl
 exact g_to [re 1,bb h10] (.exit 0) λ_ hw=>Xi (⟨_,_,hw,(),hF,rfl,rfl⟩)
theorem CF283 {v0 v1 out} (hF:F283 v0 v1=some out):A0 283 [eS 2 c171 v0,eS 2 c171 v1] (bP out):=by
 refine gC Tryz.func283 ?_
 rcases cor hF with⟨h2,hF⟩|⟨h2,hF⟩
 ·obtain rfl:=soj hF
  exact gE [re 1,.r (es 1 (kL 2 c171 v0::es 1 (kL 2 c171 v1::es 1 []))) [],bb h2,re 1]
 refine gP 1 [re 1,.r (es 1 (kL 2 c171 v0::es 1 (kL 2 c171 v1::es 1 []))) [],bb h2] [(0,eS 2 c171 v0),(1,eS 2 c171 v1)] [] ?_
 refine gM (λ(_:Unit)=>([],[],JF283_3)) out ?_ ?_
 ·rintro⟨⟩ hF
  obtain rfl:=soj hF
  exact gE [re 1]
 refine gP 0 [.r (es 1 (kL 2 c171 v0::es 1 [])) []] [(0,eS 2 c171 v0),(1,eS 2 c171 v1),(12,iP (ln v0)),(13,iP 0)] [] ?_
 refine gB 0 ?_
 obtain⟨o5,ho5,hF⟩:=Xa hF
 refine gL ho5 (λv4=>([(0,eS 2 c171 v0),(1,eS 2 c171 v1),(12,iP (ln v0)),(13,iP v4)],[])) wm ?_
 rintro v4 o6 h7 h8
 rcases cor h7 with⟨h10,h7⟩|⟨h10,h7⟩
 ·obtain⟨v11,h12,v13,h14,h7⟩:=bs2 h7
  rcases cor h7 with⟨h15,h7⟩|⟨h15,h7⟩
  ·cases h7
   obtain rfl:=h8 _ rfl
   obtain rfl:=soj hF
   exact gE [re 1,bb h10,re 2,.r (es 2 (kX 2 c171 h12::es 3 (kX 2 c171 h14::es 1 []))) (es 1 []),bb h15,re 1]
  cases h7
  exact g_to [re 1,bb h10,re 2,.r (es 2 (kX 2 c171 h12::es 3 (kX 2 c171 h14::es 1 []))) (es 1 []),bb h15,re 2] .normal λ_ hw=>⟨rfl,hw⟩
 cases h7
 obtain rfl:=h8 _ rfl
 exact g_to [re 1,bb h10] (.exit 0) λ_ hw=>Xi (⟨_,_,hw,(),hF,rfl,rfl⟩)
end
end Go.Proofs.YtibndgdocbbbeaaGreat
