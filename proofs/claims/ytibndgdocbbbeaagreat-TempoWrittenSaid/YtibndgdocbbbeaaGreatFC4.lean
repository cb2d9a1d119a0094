/- A part of the proof. -/
import Derived.Test.YtibndgdocbbbeaaGreatFC3
import Derived.Test.YtibndgdocbbbeaaGreatSY13
set_option linter.all false
set_option maxRecDepth 100000
set_option maxHeartbeats 40000000
set_option synthInstance.maxSize 100000
namespace Go.Proofs.YtibndgdocbbbeaaGreat
open Go.PE
noncomputable section
theorem CF276_2 {v0 v1 v2 v3 v4 v5 v6 v7 v8 v9 out} (hF:F276_2 v0 v1 v2 v3 v4 v5 v6 v7 v8 v9=some out):ACall Tryz.prog 276 [.yl 5,.bp 4 0] [.cells (c27 v0),.cells (c58 v1),.cells [iP v2,iP v3,iP v4,iP v5,iP v6,iP v7,iP v8],.cells [bP v9],.cells [.bp 0 0],Xl [(3,.bp 1 0),(4,.bp 2 0),(5,.bp 3 0),(12,(fz 4))] .ready none] (λq h=>q=(.tup [])/\h=[.cells (c27 v0),.cells (c58 v1),.cells [iP out.1,iP out.2.1,iP out.2.2.1,iP out.2.2.2.1,iP out.2.2.2.2.1,iP out.2.2.2.2.2.1,iP out.2.2.2.2.2.2.1],.cells [bP out.2.2.2.2.2.2.2.1],.cells [.bp 0 0],Xl [(3,.bp 1 0),(4,.bp 2 0),(5,.bp 3 0),(12,(fz 4))] (lst out.2.2.2.2.2.2.2.2) (lpd out.2.2.2.2.2.2.2.2 .ret)]):=by
 refine gC Tryz.func276 ?_
 refine gP 0 [re 1] [(0,.yl 5),(1,.bp 4 0),(3,iP 0)] [.cells (c27 v0),.cells (c58 v1),.cells [iP v2,iP v3,iP v4,iP v5,iP v6,iP v7,iP v8],.cells [bP v9],.cells [.bp 0 0],Xl [(3,.bp 1 0),(4,.bp 2 0),(5,.bp 3 0),(12,(fz 4))] .ready none] ?_
 refine gM (λ(x:Int×Int×Int×Int×Int×Int×Int×Bool)=>match x with|(v19,v20,v21,v22,v23,v24,v25,v26)=>([(0,.yl 5),(1,.bp 4 0)],[.cells (c27 v0),.cells (c58 v1),.cells [iP v19,iP v20,iP v21,iP v22,iP v23,iP v24,iP v25],.cells [bP v26],.cells [.bp 0 0],Xl [(3,.bp 1 0),(4,.bp 2 0),(5,.bp 3 0),(12,(fz 4))] .ready none],JF276_2_27 v0 v1 v19 v20 v21 v22 v23 v24 v25 v26)) out ?_ ?_
 ·rintro⟨v19,v20,v21,v22,v23,v24,v25,v26⟩ hF
  refine gM (λ(x:Int×Int×Int×Int×Int×Int×Int×Bool)=>match x with|(v28,v29,v30,v31,v32,v33,v34,v35)=>([(0,.yl 5),(1,.bp 4 0)],[.cells (c27 v0),.cells (c58 v1),.cells [iP v28,iP v29,iP v30,iP v31,iP v32,iP v33,iP v34],.cells [bP v35],.cells [.bp 0 0],Xl [(3,.bp 1 0),(4,.bp 2 0),(5,.bp 3 0),(12,(fz 4))] .ready none],JF276_2_36 v0 v1 v28 v29 v30 v31 v32 v33 v34 v35)) out ?_ ?_
  ·rintro⟨v28,v29,v30,v31,v32,v33,v34,v35⟩ hF
   refine gP 0 [.r (es 4 (kL 7 c213 v0.fi::es 1 [])) []] [(0,.yl 5),(1,.bp 4 0),(166,iP (ln v0.fi)),(167,iP 0)] [.cells (c27 v0),.cells (c58 v1),.cells [iP v28,iP v29,iP v30,iP v31,iP v32,iP v33,iP v34],.cells [bP v35],.cells [.bp 0 0],Xl [(3,.bp 1 0),(4,.bp 2 0),(5,.bp 3 0),(12,(fz 4))] .ready none] ?_
   refine gB 12 ?_
   obtain⟨o62,ho62,hF⟩:=Xa hF
   refine gL ho62 (λ(v37,v38,v39,v40,v41,v42,v43,v44,v45)=>([(0,.yl 5),(1,.bp 4 0),(166,iP (ln v0.fi)),(167,iP v37)],[.cells (c27 v0),.cells (c58 v1),.cells [iP v38,iP v39,iP v40,iP v41,iP v42,iP v43,iP v44],.cells [bP v45],.cells [.bp 0 0],Xl [(3,.bp 1 0),(4,.bp 2 0),(5,.bp 3 0),(12,(fz 4))] .ready none])) wm ?_
   rintro⟨v37,v38,v39,v40,v41,v42,v43,v44,v45⟩ o63 h64 h65
   rcases cor h64 with⟨h67,h64⟩|⟨h67,h64⟩
   ·obtain⟨v68,h69,v88,h89,h64⟩:=bs2 h64
    rcases cor h64 with⟨h90,h64⟩|⟨h90,h64⟩
    ·cases h64
     obtain rfl:=h65 _ rfl
     obtain rfl:=soj hF
     exact g_rh 6 [re 1,bb h67,re 2,.r (es 8 (kX 7 c213 h69::es 1 (⟨_,n_yl (k:=5) (args:=[.agg [iP 5,iP 0,iP 0,iP 0,iP 0,iP 0,iP v37],.ip (c213 v68)]) (F:=[.cells (c27 v0),.cells (c58 v1),.cells [iP v38,iP v39,iP v40,iP v41,iP v42,iP v43,iP v44],.cells [bP v45],.cells [.bp 0 0],Xl [(3,.bp 1 0),(4,.bp 2 0),(5,.bp 3 0),(12,(fz 4))] .ready none]) (Hh:=λd=>[.cells (c27 v0),.cells (c58 v1),.cells [iP v88.1,iP v88.2.1,iP v88.2.2.1,iP v88.2.2.2.1,iP v88.2.2.2.2.1,iP v88.2.2.2.2.2.1,iP v88.2.2.2.2.2.2.1],.cells [bP v88.2.2.2.2.2.2.2.1],.cells [.bp 0 0],Xl [(3,.bp 1 0),(4,.bp 2 0),(5,.bp 3 0),(12,(fz 4))] (lst d) (lpd d .ret)]) h90 (Yc (Zh h89) (qc (PSub.refl _) (qc (Yj 2) qe)))⟩::es 1 []))) [],bT] .ret λ_ _ k j=>hr k j
    cases h64
    exact g_to [re 1,bb h67,re 2,.r (es 8 (kX 7 c213 h69::es 1 (⟨_,n_yl (k:=5) (args:=[.agg [iP 5,iP 0,iP 0,iP 0,iP 0,iP 0,iP v37],.ip (c213 v68)]) (F:=[.cells (c27 v0),.cells (c58 v1),.cells [iP v38,iP v39,iP v40,iP v41,iP v42,iP v43,iP v44],.cells [bP v45],.cells [.bp 0 0],Xl [(3,.bp 1 0),(4,.bp 2 0),(5,.bp 3 0),(12,(fz 4))] .ready none]) (Hh:=λd=>[.cells (c27 v0),.cells (c58 v1),.cells [iP v88.1,iP v88.2.1,iP v88.2.2.1,iP v88.2.2.2.1,iP v88.2.2.2.2.1,iP v88.2.2.2.2.2.1,iP v88.2.2.2.2.2.2.1],.cells [bP v88.2.2.2.2.2.2.2.1],.cells [.bp 0 0],Xl [(3,.bp 1 0),(4,.bp 2 0),(5,.bp 3 0),(12,(fz 4))] (lst d) (lpd d .ret)]) h90 (Yc (Zh h89) (qc (PSub.refl _) (qc (Yj 2) qe)))⟩::es 1 []))) [],bF,re 2] .normal λ_ hw=>⟨rfl,hw⟩
   cases h64
   obtain rfl:=h65 _ rfl
   obtain rfl:=soj hF
   exact g_rh 6 [re 1,bb h67] (.exit 12) λ_ _ k j=>Xi (hn k j)
  refine gP 0 [.r (es 4 (kL 22 c75 v0.fc::es 1 [])) []] [(0,.yl 5),(1,.bp 4 0),(67,iP (ln v0.fc)),(68,iP 0)] [.cells (c27 v0),.cells (c58 v1),.cells [iP v19,iP v20,iP v21,iP v22,iP v23,iP v24,iP v25],.cells [bP v26],.cells [.bp 0 0],Xl [(3,.bp 1 0),(4,.bp 2 0),(5,.bp 3 0),(12,(fz 4))] .ready none] ?_
  refine gB 4 ?_
  obtain⟨o116,ho116,hF⟩:=Xa hF
  refine gL ho116 (λ(v91,v92,v93,v94,v95,v96,v97,v98,v99)=>([(0,.yl 5),(1,.bp 4 0),(67,iP (ln v0.fc)),(68,iP v91)],[.cells (c27 v0),.cells (c58 v1),.cells [iP v92,iP v93,iP v94,iP v95,iP v96,iP v97,iP v98],.cells [bP v99],.cells [.bp 0 0],Xl [(3,.bp 1 0),(4,.bp 2 0),(5,.bp 3 0),(12,(fz 4))] .ready none])) wm ?_
  rintro⟨v91,v92,v93,v94,v95,v96,v97,v98,v99⟩ o117 h118 h119
  rcases cor h118 with⟨h121,h118⟩|⟨h121,h118⟩
  ·refine gP 1 [re 1,bb h121] [(0,.yl 5),(1,.bp 4 0),(67,iP (ln v0.fc)),(68,iP v91)] [.cells (c27 v0),.cells (c58 v1),.cells [iP v92,iP v93,iP v94,iP v95,iP v96,iP v97,iP v98],.cells [bP v99],.cells [.bp 0 0],Xl [(3,.bp 1 0),(4,.bp 2 0),(5,.bp 3 0),(12,(fz 4))] .ready none] ?_
   refine gM (λ(x:Int×Int×Int×Int×Int×Int×Int×Bool)=>match x with|(v122,v123,v124,v125,v126,v127,v128,v129)=>([(0,.yl 5),(1,.bp 4 0),(67,iP (ln v0.fc)),(68,iP v91)],[.cells (c27 v0),.cells (c58 v1),.cells [iP v122,iP v123,iP v124,iP v125,iP v126,iP v127,iP v128],.cells [bP v129],.cells [.bp 0 0],Xl [(3,.bp 1 0),(4,.bp 2 0),(5,.bp 3 0),(12,(fz 4))] .ready none],JF276_2_130 v91 v122 v123 v124 v125 v126 v127 v128 v129)) o117 ?_ ?_
   ·rintro⟨v122,v123,v124,v125,v126,v127,v128,v129⟩ h118
    cases h118
    exact g_to [re 2] .normal λ_ hw=>⟨rfl,hw⟩
   refine gB 5 ?_
   obtain⟨v131,h132,v151,h152,h118⟩:=bs2 h118
   rcases cor h118 with⟨h153,h118⟩|⟨h153,h118⟩
   ·cases h118
    obtain rfl:=h119 _ rfl
    obtain rfl:=soj hF
    exact g_rh 6 [re 2,.r (es 8 (kX 22 c75 h132::es 1 (⟨_,n_yl (k:=5) (args:=[.agg [iP 3,iP 0,iP 0,iP v91,iP 0,iP 0,iP 0],.ip (c75 v131)]) (F:=[.cells (c27 v0),.cells (c58 v1),.cells [iP v92,iP v93,iP v94,iP v95,iP v96,iP v97,iP v98],.cells [bP v99],.cells [.bp 0 0],Xl [(3,.bp 1 0),(4,.bp 2 0),(5,.bp 3 0),(12,(fz 4))] .ready none]) (Hh:=λd=>[.cells (c27 v0),.cells (c58 v1),.cells [iP v151.1,iP v151.2.1,iP v151.2.2.1,iP v151.2.2.2.1,iP v151.2.2.2.2.1,iP v151.2.2.2.2.2.1,iP v151.2.2.2.2.2.2.1],.cells [bP v151.2.2.2.2.2.2.2.1],.cells [.bp 0 0],Xl [(3,.bp 1 0),(4,.bp 2 0),(5,.bp 3 0),(12,(fz 4))] (lst d) (lpd d .ret)]) h153 (Yc (Zh h152) (qc (PSub.refl _) (qc (Yj 2) qe)))⟩::es 1 []))) [],bT] .ret λ_ _ k j=>hr k j
   obtain⟨v154,h155,h118⟩:=Xa h118
   refine gP 2 [re 2,.r (es 8 (kX 22 c75 h132::es 1 (⟨_,n_yl (k:=5) (args:=[.agg [iP 3,iP 0,iP 0,iP v91,iP 0,iP 0,iP 0],.ip (c75 v131)]) (F:=[.cells (c27 v0),.cells (c58 v1),.cells [iP v92,iP v93,iP v94,iP v95,iP v96,iP v97,iP v98],.cells [bP v99],.cells [.bp 0 0],Xl [(3,.bp 1 0),(4,.bp 2 0),(5,.bp 3 0),(12,(fz 4))] .ready none]) (Hh:=λd=>[.cells (c27 v0),.cells (c58 v1),.cells [iP v151.1,iP v151.2.1,iP v151.2.2.1,iP v151.2.2.2.1,iP v151.2.2.2.2.1,iP v151.2.2.2.2.2.1,iP v151.2.2.2.2.2.2.1],.cells [bP v151.2.2.2.2.2.2.2.1],.cells [.bp 0 0],Xl [(3,.bp 1 0),(4,.bp 2 0),(5,.bp 3 0),(12,(fz 4))] (lst d) (lpd d .ret)]) h153 (Yc (Zh h152) (qc (PSub.refl _) (qc (Yj 2) qe)))⟩::es 1 []))) [],bF,.r (es 5 (kX 22 c75 h155::es 2 (kL 2 c95 v154.fe::es 1 []))) []] [(0,.yl 5),(1,.bp 4 0),(6,iP v91),(67,iP (ln v0.fc)),(68,iP v91),(91,iP (ln v154.fe)),(92,iP 0)] [.cells (c27 v0),.cells (c58 v1),.cells [iP v151.1,iP v151.2.1,iP v151.2.2.1,iP v151.2.2.2.1,iP v151.2.2.2.2.1,iP v151.2.2.2.2.2.1,iP v151.2.2.2.2.2.2.1],.cells [bP v151.2.2.2.2.2.2.2.1],.cells [.bp 0 0],Xl [(3,.bp 1 0),(4,.bp 2 0),(5,.bp 3 0),(12,(fz 4))] .ready none] ?_
   refine gB 6 ?_
   obtain⟨o181,ho181,h118⟩:=Xa h118
   refine gL ho181 (λ(v156,v157,v158,v159,v160,v161,v162,v163,v164)=>([(0,.yl 5),(1,.bp 4 0),(6,iP v91),(67,iP (ln v0.fc)),(68,iP v91),(91,iP (ln v154.fe)),(92,iP v156)],[.cells (c27 v0),.cells (c58 v1),.cells [iP v157,iP v158,iP v159,iP v160,iP v161,iP v162,iP v163],.cells [bP v164],.cells [.bp 0 0],Xl [(3,.bp 1 0),(4,.bp 2 0),(5,.bp 3 0),(12,(fz 4))] .ready none])) wm ?_
   rintro⟨v156,v157,v158,v159,v160,v161,v162,v163,v164⟩ o182 h183 h184
   rcases cor h183 with⟨h186,h183⟩|⟨h186,h183⟩
   ·refine gP 1 [re 1,bb h186] [(0,.yl 5),(1,.bp 4 0),(6,iP v91),(67,iP (ln v0.fc)),(68,iP v91),(91,iP (ln v154.fe)),(92,iP v156)] [.cells (c27 v0),.cells (c58 v1),.cells [iP v157,iP v158,iP v159,iP v160,iP v161,iP v162,iP v163],.cells [bP v164],.cells [.bp 0 0],Xl [(3,.bp 1 0),(4,.bp 2 0),(5,.bp 3 0),(12,(fz 4))] .ready none] ?_
    refine gM (λ(x:Int×Int×Int×Int×Int×Int×Int×Bool)=>match x with|(v187,v188,v189,v190,v191,v192,v193,v194)=>([(0,.yl 5),(1,.bp 4 0),(6,iP v91),(67,iP (ln v0.fc)),(68,iP v91),(91,iP (ln v154.fe)),(92,iP v156)],[.cells (c27 v0),.cells (c58 v1),.cells [iP v187,iP v188,iP v189,iP v190,iP v191,iP v192,iP v193],.cells [bP v194],.cells [.bp 0 0],Xl [(3,.bp 1 0),(4,.bp 2 0),(5,.bp 3 0),(12,(fz 4))] .ready none],JF276_2_195 v156 v187 v188 v189 v190 v191 v192 v193 v194)) o182 ?_ ?_
    ·rintro⟨v187,v188,v189,v190,v191,v192,v193,v194⟩ h183
     cases h183
     exact g_to [re 2] .normal λ_ hw=>⟨rfl,hw⟩
    refine gB 7 ?_
    obtain⟨v196,h197,v198,h199,h183⟩:=bs2 h183
    refine gP 1 [re 2,.r (es 5 (kX 22 c75 h197::es 3 (kX 2 c95 h199::es 2 (kL 2 c100 v198.ff::es 1 [])))) []] [(0,.yl 5),(1,.bp 4 0),(6,iP v91),(7,iP v156),(67,iP (ln v0.fc)),(68,iP v91),(91,iP (ln v154.fe)),(92,iP v156),(107,iP (ln v198.ff)),(108,iP 0)] [.cells (c27 v0),.cells (c58 v1),.cells [iP v157,iP v158,iP v159,iP v160,iP v161,iP v162,iP v163],.cells [bP v164],.cells [.bp 0 0],Xl [(3,.bp 1 0),(4,.bp 2 0),(5,.bp 3 0),(12,(fz 4))] .ready none] ?_
    refine gB 8 ?_
    obtain⟨o225,ho225,h183⟩:=Xa h183
    refine gL ho225 (λ(v200,v201,v202,v203,v204,v205,v206,v207,v208)=>([(0,.yl 5),(1,.bp 4 0),(6,iP v91),(7,iP v156),(67,iP (ln v0.fc)),(68,iP v91),(91,iP (ln v154.fe)),(92,iP v156),(107,iP (ln v198.ff)),(108,iP v200)],[.cells (c27 v0),.cells (c58 v1),.cells [iP v201,iP v202,iP v203,iP v204,iP v205,iP v206,iP v207],.cells [bP v208],.cells [.bp 0 0],Xl [(3,.bp 1 0),(4,.bp 2 0),(5,.bp 3 0),(12,(fz 4))] .ready none])) wm ?_
    rintro⟨v200,v201,v202,v203,v204,v205,v206,v207,v208⟩ o226 h227 h228
    rcases cor h227 with⟨h230,h227⟩|⟨h230,h227⟩
    ·refine gP 1 [re 1,bb h230] [(0,.yl 5),(1,.bp 4 0),(6,iP v91),(7,iP v156),(67,iP (ln v0.fc)),(68,iP v91),(91,iP (ln v154.fe)),(92,iP v156),(107,iP (ln v198.ff)),(108,iP v200)] [.cells (c27 v0),.cells (c58 v1),.cells [iP v201,iP v202,iP v203,iP v204,iP v205,iP v206,iP v207],.cells [bP v208],.cells [.bp 0 0],Xl [(3,.bp 1 0),(4,.bp 2 0),(5,.bp 3 0),(12,(fz 4))] .ready none] ?_
     refine gM (λ(x:Int×Int×Int×Int×Int×Int×Int×Bool)=>match x with|(v231,v232,v233,v234,v235,v236,v237,v238)=>([(0,.yl 5),(1,.bp 4 0),(6,iP v91),(7,iP v156),(67,iP (ln v0.fc)),(68,iP v91),(91,iP (ln v154.fe)),(92,iP v156),(107,iP (ln v198.ff)),(108,iP v200)],[.cells (c27 v0),.cells (c58 v1),.cells [iP v231,iP v232,iP v233,iP v234,iP v235,iP v236,iP v237],.cells [bP v238],.cells [.bp 0 0],Xl [(3,.bp 1 0),(4,.bp 2 0),(5,.bp 3 0),(12,(fz 4))] .ready none],JF276_2_239 v200 v231 v232 v233 v234 v235 v236 v237 v238)) o226 ?_ ?_
     ·rintro⟨v231,v232,v233,v234,v235,v236,v237,v238⟩ h227
      cases h227
      exact g_to [re 2] .normal λ_ hw=>⟨rfl,hw⟩
     refine gB 9 ?_
     obtain⟨v240,h241,v242,h243,v244,h245,h227⟩:=bs3 h227
     refine gP 1 [re 2,.r (es 5 (kX 22 c75 h241::es 3 (kX 2 c95 h243::es 3 (kX 2 c100 h245::es 2 (kL 13 c147 v244.fg::es 1 []))))) []] [(0,.yl 5),(1,.bp 4 0),(6,iP v91),(7,iP v156),(8,iP v200),(67,iP (ln v0.fc)),(68,iP v91),(91,iP (ln v154.fe)),(92,iP v156),(107,iP (ln v198.ff)),(108,iP v200),(127,iP (ln v244.fg)),(128,iP 0)] [.cells (c27 v0),.cells (c58 v1),.cells [iP v201,iP v202,iP v203,iP v204,iP v205,iP v206,iP v207],.cells [bP v208],.cells [.bp 0 0],Xl [(3,.bp 1 0),(4,.bp 2 0),(5,.bp 3 0),(12,(fz 4))] .ready none] ?_
     refine gB 10 ?_
     obtain⟨o271,ho271,h227⟩:=Xa h227
     refine gL ho271 (λ(v246,v247,v248,v249,v250,v251,v252,v253,v254)=>([(0,.yl 5),(1,.bp 4 0),(6,iP v91),(7,iP v156),(8,iP v200),(67,iP (ln v0.fc)),(68,iP v91),(91,iP (ln v154.fe)),(92,iP v156),(107,iP (ln v198.ff)),(108,iP v200),(127,iP (ln v244.fg)),(128,iP v246)],[.cells (c27 v0),.cells (c58 v1),.cells [iP v247,iP v248,iP v249,iP v250,iP v251,iP v252,iP v253],.cells [bP v254],.cells [.bp 0 0],Xl [(3,.bp 1 0),(4,.bp 2 0),(5,.bp 3 0),(12,(fz 4))] .ready none])) wm ?_
     rintro⟨v246,v247,v248,v249,v250,v251,v252,v253,v254⟩ o272 h273 h274
     rcases cor h273 with⟨h276,h273⟩|⟨h276,h273⟩
     ·obtain⟨v277,h278,v279,h280,v281,h282,h273⟩:=bs3 h273
      obtain⟨v283,h284,v303,h304,h273⟩:=bs2 h273
      rcases cor h273 with⟨h305,h273⟩|⟨h305,h273⟩
      ·cases h273
       obtain rfl:=h274 _ rfl
       cases h227
       obtain rfl:=h228 _ rfl
       cases h183
       obtain rfl:=h184 _ rfl
       cases h118
       obtain rfl:=h119 _ rfl
       obtain rfl:=soj hF
       exact g_rh 6 [re 1,bb h276,re 2,.r (es 11 (kX 22 c75 h278::es 3 (kX 2 c95 h280::es 3 (kX 2 c100 h282::es 3 (kX 13 c147 h284::es 1 (⟨_,n_yl (k:=5) (args:=[.agg [iP 4,iP 0,iP v156,iP v91,iP v200,iP v246,iP 0],.ip (c147 v283)]) (F:=[.cells (c27 v0),.cells (c58 v1),.cells [iP v247,iP v248,iP v249,iP v250,iP v251,iP v252,iP v253],.cells [bP v254],.cells [.bp 0 0],Xl [(3,.bp 1 0),(4,.bp 2 0),(5,.bp 3 0),(12,(fz 4))] .ready none]) (Hh:=λd=>[.cells (c27 v0),.cells (c58 v1),.cells [iP v303.1,iP v303.2.1,iP v303.2.2.1,iP v303.2.2.2.1,iP v303.2.2.2.2.1,iP v303.2.2.2.2.2.1,iP v303.2.2.2.2.2.2.1],.cells [bP v303.2.2.2.2.2.2.2.1],.cells [.bp 0 0],Xl [(3,.bp 1 0),(4,.bp 2 0),(5,.bp 3 0),(12,(fz 4))] (lst d) (lpd d .ret)]) h305 (Yc (Zh h304) (qc (PSub.refl _) (qc (Yj 2) qe)))⟩::es 1 [])))))) [],bT] .ret λ_ _ k j=>hr k j
      cases h273
      exact g_to [re 1,bb h276,re 2,.r (es 11 (kX 22 c75 h278::es 3 (kX 2 c95 h280::es 3 (kX 2 c100 h282::es 3 (kX 13 c147 h284::es 1 (⟨_,n_yl (k:=5) (args:=[.agg [iP 4,iP 0,iP v156,iP v91,iP v200,iP v246,iP 0],.ip (c147 v283)]) (F:=[.cells (c27 v0),.cells (c58 v1),.cells [iP v247,iP v248,iP v249,iP v250,iP v251,iP v252,iP v253],.cells [bP v254],.cells [.bp 0 0],Xl [(3,.bp 1 0),(4,.bp 2 0),(5,.bp 3 0),(12,(fz 4))] .ready none]) (Hh:=λd=>[.cells (c27 v0),.cells (c58 v1),.cells [iP v303.1,iP v303.2.1,iP v303.2.2.1,iP v303.2.2.2.1,iP v303.2.2.2.2.1,iP v303.2.2.2.2.2.1,iP v303.2.2.2.2.2.2.1],.cells [bP v303.2.2.2.2.2.2.2.1],.cells [.bp 0 0],Xl [(3,.bp 1 0),(4,.bp 2 0),(5,.bp 3 0),(12,(fz 4))] (lst d) (lpd d .ret)]) h305 (Yc (Zh h304) (qc (PSub.refl _) (qc (Yj 2) qe)))⟩::es 1 [])))))) [],bF,re 2] .normal λ_ hw=>⟨rfl,hw⟩
     cases h273
     obtain rfl:=h274 _ rfl
     exact g_to [re 1,bb h276] (.exit 10) λ_ hw=>Xi (⟨_,_,hw,(v247,v248,v249,v250,v251,v252,v253,v254),h227,rfl,rfl⟩)
    cases h227
    obtain rfl:=h228 _ rfl
    exact g_to [re 1,bb h230] (.exit 8) λ_ hw=>Xi (⟨_,_,hw,(v201,v202,v203,v204,v205,v206,v207,v208),h183,rfl,rfl⟩)
   cases h183
   obtain rfl:=h184 _ rfl
   exact g_to [re 1,bb h186] (.exit 6) λ_ hw=>Xi (⟨_,_,hw,(v157,v158,v159,v160,v161,v162,v163,v164),h118,rfl,rfl⟩)
  cases h118
  obtain rfl:=h119 _ rfl
  exact g_to [re 1,bb h121] (.exit 4) λ_ hw=>Xi (⟨_,_,hw,(v92,v93,v94,v95,v96,v97,v98,v99),hF,rfl,rfl⟩)
 refine gP 0 [.r (es 4 (kL 6 c68 v0.fh::es 1 [])) []] [(0,.yl 5),(1,.bp 4 0),(3,iP 0),(15,iP (ln v0.fh)),(16,iP 0)] [.cells (c27 v0),.cells (c58 v1),.cells [iP v2,iP v3,iP v4,iP v5,iP v6,iP v7,iP v8],.cells [bP v9],.cells [.bp 0 0],Xl [(3,.bp 1 0),(4,.bp 2 0),(5,.bp 3 0),(12,(fz 4))] .ready none] ?_
 refine gB 0 ?_
 obtain⟨o332,ho332,hF⟩:=Xa hF
 refine gL ho332 (λ(v306,v307,v308,v309,v310,v311,v312,v313,v314,v315)=>([(0,.yl 5),(1,.bp 4 0),(3,iP v306),(15,iP (ln v0.fh)),(16,iP v307)],[.cells (c27 v0),.cells (c58 v1),.cells [iP v308,iP v309,iP v310,iP v311,iP v312,iP v313,iP v314],.cells [bP v315],.cells [.bp 0 0],Xl [(3,.bp 1 0),(4,.bp 2 0),(5,.bp 3 0),(12,(fz 4))] .ready none])) wm ?_
 rintro⟨v306,v307,v308,v309,v310,v311,v312,v313,v314,v315⟩ o333 h334 h335
 rcases cor h334 with⟨h337,h334⟩|⟨h337,h334⟩
 ·refine gP 1 [re 1,bb h337] [(0,.yl 5),(1,.bp 4 0),(3,iP v306),(15,iP (ln v0.fh)),(16,iP v307)] [.cells (c27 v0),.cells (c58 v1),.cells [iP v308,iP v309,iP v310,iP v311,iP v312,iP v313,iP v314],.cells [bP v315],.cells [.bp 0 0],Xl [(3,.bp 1 0),(4,.bp 2 0),(5,.bp 3 0),(12,(fz 4))] .ready none] ?_
  refine gM (λ(x:Int×Int×Int×Int×Int×Int×Int×Int×Bool)=>match x with|(v338,v339,v340,v341,v342,v343,v344,v345,v346)=>([(0,.yl 5),(1,.bp 4 0),(3,iP v338),(15,iP (ln v0.fh)),(16,iP v307)],[.cells (c27 v0),.cells (c58 v1),.cells [iP v339,iP v340,iP v341,iP v342,iP v343,iP v344,iP v345],.cells [bP v346],.cells [.bp 0 0],Xl [(3,.bp 1 0),(4,.bp 2 0),(5,.bp 3 0),(12,(fz 4))] .ready none],JF276_2_347 v307 v338 v339 v340 v341 v342 v343 v344 v345 v346)) o333 ?_ ?_
  ·rintro⟨v338,v339,v340,v341,v342,v343,v344,v345,v346⟩ h334
   cases h334
   exact g_to [re 2] .normal λ_ hw=>⟨rfl,hw⟩
  refine gB 1 ?_
  obtain⟨v348,h349,v368,h369,h334⟩:=bs2 h334
  rcases cor h334 with⟨h370,h334⟩|⟨h370,h334⟩
  ·cases h334
   obtain rfl:=h335 _ rfl
   obtain rfl:=soj hF
   exact g_rh 6 [re 2,.r (es 8 (kX 6 c68 h349::es 1 (⟨_,n_yl (k:=5) (args:=[.agg [iP 1,iP v307,iP 0,iP 0,iP 0,iP 0,iP 0],.ip (c68 v348)]) (F:=[.cells (c27 v0),.cells (c58 v1),.cells [iP v308,iP v309,iP v310,iP v311,iP v312,iP v313,iP v314],.cells [bP v315],.cells [.bp 0 0],Xl [(3,.bp 1 0),(4,.bp 2 0),(5,.bp 3 0),(12,(fz 4))] .ready none]) (Hh:=λd=>[.cells (c27 v0),.cells (c58 v1),.cells [iP v368.1,iP v368.2.1,iP v368.2.2.1,iP v368.2.2.2.1,iP v368.2.2.2.2.1,iP v368.2.2.2.2.2.1,iP v368.2.2.2.2.2.2.1],.cells [bP v368.2.2.2.2.2.2.2.1],.cells [.bp 0 0],Xl [(3,.bp 1 0),(4,.bp 2 0),(5,.bp 3 0),(12,(fz 4))] (lst d) (lpd d .ret)]) h370 (Yc (Zh h369) (qc (PSub.refl _) (qc (Yj 2) qe)))⟩::es 1 []))) [],bT] .ret λ_ _ k j=>hr k j
  obtain⟨v371,h372,h334⟩:=Xa h334
  refine gP 2 [re 2,.r (es 8 (kX 6 c68 h349::es 1 (⟨_,n_yl (k:=5) (args:=[.agg [iP 1,iP v307,iP 0,iP 0,iP 0,iP 0,iP 0],.ip (c68 v348)]) (F:=[.cells (c27 v0),.cells (c58 v1),.cells [iP v308,iP v309,iP v310,iP v311,iP v312,iP v313,iP v314],.cells [bP v315],.cells [.bp 0 0],Xl [(3,.bp 1 0),(4,.bp 2 0),(5,.bp 3 0),(12,(fz 4))] .ready none]) (Hh:=λd=>[.cells (c27 v0),.cells (c58 v1),.cells [iP v368.1,iP v368.2.1,iP v368.2.2.1,iP v368.2.2.2.1,iP v368.2.2.2.2.1,iP v368.2.2.2.2.2.1,iP v368.2.2.2.2.2.2.1],.cells [bP v368.2.2.2.2.2.2.2.1],.cells [.bp 0 0],Xl [(3,.bp 1 0),(4,.bp 2 0),(5,.bp 3 0),(12,(fz 4))] (lst d) (lpd d .ret)]) h370 (Yc (Zh h369) (qc (PSub.refl _) (qc (Yj 2) qe)))⟩::es 1 []))) [],bF,.r (es 5 (kX 6 c68 h372::es 2 (kL 3 c184 v371.ft::es 1 []))) []] [(0,.yl 5),(1,.bp 4 0),(3,iP v306),(4,iP v307),(15,iP (ln v0.fh)),(16,iP v307),(39,iP (ln v371.ft)),(40,iP 0)] [.cells (c27 v0),.cells (c58 v1),.cells [iP v368.1,iP v368.2.1,iP v368.2.2.1,iP v368.2.2.2.1,iP v368.2.2.2.2.1,iP v368.2.2.2.2.2.1,iP v368.2.2.2.2.2.2.1],.cells [bP v368.2.2.2.2.2.2.2.1],.cells [.bp 0 0],Xl [(3,.bp 1 0),(4,.bp 2 0),(5,.bp 3 0),(12,(fz 4))] .ready none] ?_
  refine gB 2 ?_
  obtain⟨o400,ho400,h334⟩:=Xa h334
  refine gL ho400 (λ(v373,v374,v375,v376,v377,v378,v379,v380,v381,v382)=>([(0,.yl 5),(1,.bp 4 0),(3,iP v373),(4,iP v307),(15,iP (ln v0.fh)),(16,iP v307),(39,iP (ln v371.ft)),(40,iP v374)],[.cells (c27 v0),.cells (c58 v1),.cells [iP v375,iP v376,iP v377,iP v378,iP v379,iP v380,iP v381],.cells [bP v382],.cells [.bp 0 0],Xl [(3,.bp 1 0),(4,.bp 2 0),(5,.bp 3 0),(12,(fz 4))] .ready none])) wm ?_
  rintro⟨v373,v374,v375,v376,v377,v378,v379,v380,v381,v382⟩ o401 h402 h403
  rcases cor h402 with⟨h405,h402⟩|⟨h405,h402⟩
  ·obtain⟨v406,h407,v408,h409,v428,h429,h402⟩:=bs3 h402
   rcases cor h402 with⟨h430,h402⟩|⟨h430,h402⟩
   ·cases h402
    obtain rfl:=h403 _ rfl
    cases h334
    obtain rfl:=h335 _ rfl
    obtain rfl:=soj hF
    exact g_rh 6 [re 1,bb h405,re 2,.r (es 8 (kX 6 c68 h407::es 3 (kX 3 c184 h409::es 1 (⟨_,n_yl (k:=5) (args:=[.agg [iP 2,iP 0,iP v373,iP 0,iP 0,iP 0,iP 0],.ip (c184 v408)]) (F:=[.cells (c27 v0),.cells (c58 v1),.cells [iP v375,iP v376,iP v377,iP v378,iP v379,iP v380,iP v381],.cells [bP v382],.cells [.bp 0 0],Xl [(3,.bp 1 0),(4,.bp 2 0),(5,.bp 3 0),(12,(fz 4))] .ready none]) (Hh:=λd=>[.cells (c27 v0),.cells (c58 v1),.cells [iP v428.1,iP v428.2.1,iP v428.2.2.1,iP v428.2.2.2.1,iP v428.2.2.2.2.1,iP v428.2.2.2.2.2.1,iP v428.2.2.2.2.2.2.1],.cells [bP v428.2.2.2.2.2.2.2.1],.cells [.bp 0 0],Xl [(3,.bp 1 0),(4,.bp 2 0),(5,.bp 3 0),(12,(fz 4))] (lst d) (lpd d .ret)]) h430 (Yc (Zh h429) (qc (PSub.refl _) (qc (Yj 2) qe)))⟩::es 1 [])))) [],bT] .ret λ_ _ k j=>hr k j
   cases h402
   exact g_to [re 1,bb h405,re 2,.r (es 8 (kX 6 c68 h407::es 3 (kX 3 c184 h409::es 1 (⟨_,n_yl (k:=5) (args:=[.agg [iP 2,iP 0,iP v373,iP 0,iP 0,iP 0,iP 0],.ip (c184 v408)]) (F:=[.cells (c27 v0),.cells (c58 v1),.cells [iP v375,iP v376,iP v377,iP v378,iP v379,iP v380,iP v381],.cells [bP v382],.cells [.bp 0 0],Xl [(3,.bp 1 0),(4,.bp 2 0),(5,.bp 3 0),(12,(fz 4))] .ready none]) (Hh:=λd=>[.cells (c27 v0),.cells (c58 v1),.cells [iP v428.1,iP v428.2.1,iP v428.2.2.1,iP v428.2.2.2.1,iP v428.2.2.2.2.1,iP v428.2.2.2.2.2.1,iP v428.2.2.2.2.2.2.1],.cells [bP v428.2.2.2.2.2.2.2.1],.cells [.bp 0 0],Xl [(3,.bp 1 0),(4,.bp 2 0),(5,.bp 3 0),(12,(fz 4))] (lst d) (lpd d .ret)]) h430 (Yc (Zh h429) (qc (PSub.refl _) (qc (Yj 2) qe)))⟩::es 1 [])))) [],bF,re 3,re 2] .normal λ_ hw=>⟨rfl,hw⟩
  cases h402
  obtain rfl:=h403 _ rfl
  exact g_to [re 1,bb h405] (.exit 2) λ_ hw=>Xi (⟨_,_,hw,(v373,v375,v376,v377,v378,v379,v380,v381,v382),h334,rfl,rfl⟩)
 cases h334
 obtain rfl:=h335 _ rfl
 exact g_to [re 1,bb h337] (.exit 0) λ_ hw=>Xi (⟨_,_,hw,(v308,v309,v310,v311,v312,v313,v314,v315),hF,rfl,rfl⟩)
theorem CF291 {v0 v1 out} (hF:F291 v0 v1=some out):A0 291 [.agg (c27 v0),.agg (c58 v1)] (.tup [.agg (c236 out.1),bP out.2]):=by
 refine g_callI mixed ok291 ?_
 rcases cor hF with⟨h2,hF⟩|⟨h2,hF⟩
 ·obtain rfl:=soj hF
  exact gE [re 4,re 3,bb h2,re 3]
 refine gP 1 [re 4,re 3,bb h2] [(2,.bp 0 0),(3,.bp 1 0),(4,.bp 2 0),(5,.bp 3 0)] [.cells (c27 v0),.cells (c58 v1),.cells [iP 0,iP 0,iP 0,iP 0,iP 0,iP 0,iP 0],.cells [bP false]] ?_
 refine gM (λ(x:Int×Int×Int×Int×Int×Int×Int×Bool)=>match x with|(v3,v4,v5,v6,v7,v8,v9,v10)=>([(4,.bp 2 0),(5,.bp 3 0)],[.cells (c27 v0),.cells (c58 v1),.cells [iP v3,iP v4,iP v5,iP v6,iP v7,iP v8,iP v9],.cells [bP v10]],JF291_11 v3 v4 v5 v6 v7 v8 v9 v10)) out ?_ ?_
 ·rintro⟨v3,v4,v5,v6,v7,v8,v9,v10⟩ hF
  obtain rfl:=soj hF
  exact gE [re 3]
 refine gP 0 [.r (⟨.st (.call (.c (fk 204)) [.c (.bp 0 0)]) [.cells (c27 v0),.cells (c58 v1),.cells [iP 0,iP 0,iP 0,iP 0,iP 0,iP 0,iP 0],.cells [bP false]] (fz 4) [.cells (c27 v0),.cells (c58 v1),.cells [iP 0,iP 0,iP 0,iP 0,iP 0,iP 0,iP 0],.cells [bP false],.cells [.bp 0 0]] 0,visitN⟩::[]) []] [(3,.bp 1 0),(4,.bp 2 0),(5,.bp 3 0),(12,(fz 4))] [.cells (c27 v0),.cells (c58 v1),.cells [iP 0,iP 0,iP 0,iP 0,iP 0,iP 0,iP 0],.cells [bP false],.cells [.bp 0 0]] ?_
 refine gB 0 ?_
 obtain⟨v22,h23,hF⟩:=Xa hF
 rcases cor hF with⟨h24,hF⟩|⟨h24,hF⟩
 ·refine g_range [] [.bp 4 0] .ret [.cells (c27 v0),.cells (c58 v1),.cells [iP v22.1,iP v22.2.1,iP v22.2.2.1,iP v22.2.2.2.1,iP v22.2.2.2.2.1,iP v22.2.2.2.2.2.1,iP v22.2.2.2.2.2.2.1],.cells [bP v22.2.2.2.2.2.2.2.1],.cells [.bp 0 0],Xl [(3,.bp 1 0),(4,.bp 2 0),(5,.bp 3 0),(12,(fz 4))] .exhausted (some .ret)] (acall_b (H1:=λd=>[.cells (c27 v0),.cells (c58 v1),.cells [iP v22.1,iP v22.2.1,iP v22.2.2.1,iP v22.2.2.2.1,iP v22.2.2.2.2.1,iP v22.2.2.2.2.2.1,iP v22.2.2.2.2.2.2.1],.cells [bP v22.2.2.2.2.2.2.2.1],.cells [.bp 0 0],Xl [(3,.bp 1 0),(4,.bp 2 0),(5,.bp 3 0),(12,(fz 4))] (lst d) (lpd d .ret)]) h24 (CF276_2 h23)) ?_
  obtain rfl:=soj hF
  exact ends_cl (.inr rfl) (wm (le':=[(4,.bp 2 0),(5,.bp 3 0)]))
 refine g_range [] [.bp 4 0] .normal [.cells (c27 v0),.cells (c58 v1),.cells [iP v22.1,iP v22.2.1,iP v22.2.2.1,iP v22.2.2.2.1,iP v22.2.2.2.2.1,iP v22.2.2.2.2.2.1,iP v22.2.2.2.2.2.2.1],.cells [bP v22.2.2.2.2.2.2.2.1],.cells [.bp 0 0],Xl [(3,.bp 1 0),(4,.bp 2 0),(5,.bp 3 0),(12,(fz 4))] .exhausted none] (acall_b (H1:=λd=>[.cells (c27 v0),.cells (c58 v1),.cells [iP v22.1,iP v22.2.1,iP v22.2.2.1,iP v22.2.2.2.1,iP v22.2.2.2.2.1,iP v22.2.2.2.2.2.1,iP v22.2.2.2.2.2.2.1],.cells [bP v22.2.2.2.2.2.2.2.1],.cells [.bp 0 0],Xl [(3,.bp 1 0),(4,.bp 2 0),(5,.bp 3 0),(12,(fz 4))] (lst d) (lpd d .ret)]) h24 (CF276_2 h23)) ?_
 exact⟨_,_,(wm (le':=[(4,.bp 2 0),(5,.bp 3 0)])).trans (weak_cutI 4),(v22.1,v22.2.1,v22.2.2.1,v22.2.2.2.1,v22.2.2.2.2.1,v22.2.2.2.2.2.1,v22.2.2.2.2.2.2.1,v22.2.2.2.2.2.2.2.1),hF,rfl,rfl⟩
theorem CF189 {v0 out} (hF:F189 v0=some out):A0 189 [eS 1 cI v0] (eS 1 cI out):=by
 refine gC Tryz.func189 ?_
 rcases cor hF with⟨h1,hF⟩|⟨h1,hF⟩
 ·refine gP 1 [re 1,.r (es 1 (kL 1 cI v0::⟨.st (.mkSl 1 8 [iP 0] (.c (iP (ln v0))) (.c (iP (ln v0)))) [] (nP 0 1 cI ([]:List Int)) [.grow (List.length ([]:List Int)) 1] 0,n_mk0 h1⟩::es 1 [])) []] [(0,eS 1 cI v0),(3,nP 0 1 cI ([]:List Int))] [.grow (List.length ([]:List Int)) 1] ?_
  refine gM (λ(_:Unit)=>([(3,nP 0 1 cI ([]:List Int))],[.grow (List.length ([]:List Int)) 1],JF189_4)) out ?_ ?_
  ·rintro⟨⟩ hF
   refine Xk [re 2] .ret [(2,nP 0 1 cI ([]:List Int))] [.grow (List.length ([]:List Int)) 1] (λe hw=>?_)
   obtain rfl:=soj hF
   exact Yw (r:=(nP 0 1 cI ([]:List Int))) (.inr rfl) hw (by kernel_rfl) (Wy cl_cI) ⟨rfl,rfl⟩
  refine gP 0 [re 1] [(0,eS 1 cI v0),(3,nP 0 1 cI ([]:List Int)),(4,iP 1)] [.grow (List.length ([]:List Int)) 1] ?_
  refine gB 0 ?_
  obtain⟨o6,ho6,hF⟩:=Xa hF
  refine gL ho6 (λv5=>([(0,eS 1 cI v0),(3,nP 0 1 cI ([]:List Int)),(4,iP v5)],[.grow (List.length ([]:List Int)) 1])) wm ?_
  rintro v5 o7 h8 h9
  rcases cor h8 with⟨h11,h8⟩|⟨h11,h8⟩
  ·exact nomatch h8
  cases h8
  obtain rfl:=h9 _ rfl
  exact g_to [.r (es 2 (kL 1 cI v0::es 1 [])) [],bb h11] (.exit 0) λ_ hw=>Xi (⟨_,_,hw,(),hF,rfl,rfl⟩)
 obtain⟨v2,h3,hF⟩:=Xa hF
 refine gP 1 [re 1,.r (es 1 (kL 1 cI v0::⟨(.st (.mkSl 1 8 [iP 0] (.c (iP (ln v0))) (.c (iP (ln v0)))) [] (.bs 0 0 v2 1 true) [.cells ((List.map (λx=>[PV.sc (.int .i64 x)]) (List.replicate v2 (0:Int))).flatten)] 0),(n_mkRow (f:=λx=>PV.sc (.int .i64 x)) h3 rfl)⟩::es 1 [])) []] [(0,eS 1 cI v0),(3,.bs 0 0 v2 1 true)] [.cells ((List.map (λx=>[PV.sc (.int .i64 x)]) (List.replicate v2 (0:Int))).flatten)] ?_
 refine gM (λ(v12:List Int)=>([(3,.bs 0 0 v2 1 true)],[.cells ((List.map (λx=>[PV.sc (.int .i64 x)]) v12).flatten)],JF189_13 v2 v12)) out ?_ ?_
 ·rintro v12 hF
  refine Xk [re 2] .ret [(2,.bs 0 0 v2 1 true)] [.cells ((List.map (λx=>[PV.sc (.int .i64 x)]) v12).flatten)] (λe hw=>?_)
  obtain⟨_,hz,hF⟩:=Xa hF
  obtain rfl:=soj hF
  exact ends_cutF (r:=(.sl false .no 1 (List.map cI v12))) (.inr rfl) (hw.trans (weak_freeze (H:=[.cells ((List.map (λx=>[PV.sc (.int .i64 x)]) v12).flatten)]) (c:=cI) (l:=v12) (s:=1) (k:=0) (le':=[(2,.sl false .no 1 (List.map cI v12))]) (Nat.zero_le _) rfl (λ_=>rfl) cl_cI (fzc (.row (gfz_len hz)) fze) (abk rfl abe))) (by kernel_rfl) (psub_row cl_cI) ⟨rfl,rfl⟩
 refine gP 0 [re 1] [(0,eS 1 cI v0),(3,.bs 0 0 v2 1 true),(4,iP 1)] [.cells ((List.map (λx=>[PV.sc (.int .i64 x)]) (List.replicate v2 (0:Int))).flatten)] ?_
 refine gB 0 ?_
 obtain⟨o17,ho17,hF⟩:=Xa hF
 refine gL ho17 (λ(v14,v15)=>([(0,eS 1 cI v0),(3,.bs 0 0 v2 1 true),(4,iP v14)],[.cells ((List.map (λx=>[PV.sc (.int .i64 x)]) v15).flatten)])) wm ?_
 rintro⟨v14,v15⟩ o18 h19 h20
 rcases cor h19 with⟨h22,h19⟩|⟨h22,h19⟩
 ·obtain⟨v23,h24,v25,h26,v27,h28,h19⟩:=bs3 h19
  obtain⟨v29,h30,v31,h32,h19⟩:=bs2 h19
  cases h19
  exact g_to [.r (es 2 (kL 1 cI v0::es 1 [])) [],bb h22,.r (es 5 (⟨.pu (.iaddrS 1 (.c (.bs 0 0 v2 1 true)) (.c (iP (wi (v14-(1)))))) (.bp 0 (0+(Int.toNat (wi (v14-(1))))*1)),n_iaddrB h24⟩::⟨.fd (.load none (.c (.bp 0 (0+(Int.toNat (wi (v14-(1))))*1)))) [0] [.cells ((List.map (λx=>[PV.sc (.int .i64 x)]) v15).flatten)] (iP v25),fd_loadB (f:=λx=>PV.sc (.int .i64 x)) h26⟩::es 3 (kX 1 cI h28::es 2 []))) (⟨.pu (.iaddrS 1 (.c (.bs 0 0 v2 1 true)) (.c (iP v14))) (.bp 0 (0+(Int.toNat v14)*1)),n_iaddrB h30⟩::⟨.fr (.store 1 (.c (.bp 0 (0+(Int.toNat v14)*1))) (.c (iP (wi (v25+v27))))) [0] [.cells ((List.map (λx=>[PV.sc (.int .i64 x)]) v15).flatten)] [.cells ((List.map (λx=>[PV.sc (.int .i64 x)]) v31).flatten)] (.tup []),fr_storeB (f:=λx=>PV.sc (.int .i64 x)) h32 rfl (λ_=>⟨rfl,rfl⟩)⟩::[]),re 3] .normal λ_ hw=>⟨rfl,hw⟩
 cases h19
 obtain rfl:=h20 _ rfl
 exact g_to [.r (es 2 (kL 1 cI v0::es 1 [])) [],bb h22] (.exit 0) λ_ hw=>Xi (⟨_,_,hw,v15,hF,rfl,rfl⟩)
theorem CF100 {v0 v1 out} (hF:F100 v0 v1=some out):A0 100 [.agg (c100 v0),iP v1] (.tup [eS 1 cI out.1,iP out.2]):=by
 refine gC Tryz.func100 ?_
 obtain⟨v2,h3,hF⟩:=Xa hF
 rcases cor hF with⟨h4,hF⟩|⟨h4,hF⟩
 ·obtain rfl:=soj hF
  exact gE [re 3,.r (es 2 (kC (CF188 h3)::es 5 [])) [],re 2,bb h4,re 3]
 obtain⟨v5,h6,hF⟩:=Xa hF
 obtain rfl:=soj hF
 exact gE [re 3,.r (es 2 (kC (CF188 h3)::es 5 [])) [],re 2,bb h4,.r (es 1 (kC (CF189 h6)::es 2 [])) []]
theorem CF231_1 {v0 v1 v2 v3 out} (hF:F231_1 v0 v1 v2 v3=some out):ACall Tryz.prog 231 [.bp 0 0,.agg (c58 v0)] (hC v1 v2 v3) (λq h=>q=(.tup [.agg (c261 out.1),bP out.2])/\h=(hC v1 v2 v3)):=by
 refine gC Tryz.func231 ?_
 obtain⟨v4,h5,hF⟩:=Xa hF
 refine gP 1 [re 3,.r (es 5 (kC (CF291 h5)::es 5 [])) (es 1 [])] [(0,.bp 0 0),(4,.bp 3 0),(6,.bp 4 0),(7,bP v4.2)] (hC v1 v2 v3++[.cells (c58 v0),.cells [iP 0,iP 0,iP 0,iP 0],.cells [iP v4.1.fj,iP v4.1.far,iP v4.1.fA,iP v4.1.fy,iP v4.1.fw,iP v4.1.fU,iP v4.1.fas]]) ?_
 refine gS ?_
 refine gM (λ(v6:Bool)=>([(0,.bp 0 0),(4,.bp 3 0),(6,.bp 4 0),(28,bP v6)],hC v1 v2 v3++[.cells (c58 v0),.cells [iP 0,iP 0,iP 0,iP 0],.cells [iP v4.1.fj,iP v4.1.far,iP v4.1.fA,iP v4.1.fy,iP v4.1.fw,iP v4.1.fU,iP v4.1.fas]],JF231_1_7 v1 v4 v6)) out ?_ ?_
 ·rintro v6 hF
  rcases cor hF with⟨h8,hF⟩|⟨h8,hF⟩
  ·obtain rfl:=soj hF
   exact g_rh 2 [bb h8,re 3] .ret λ_ _ k j=>hr k j
  refine Xk [bb h8] .normal [(0,.bp 0 0),(4,.bp 3 0),(6,.bp 4 0)] (hC v1 v2 v3++[.cells (c58 v0),.cells [iP 0,iP 0,iP 0,iP 0],.cells [iP v4.1.fj,iP v4.1.far,iP v4.1.fA,iP v4.1.fy,iP v4.1.fw,iP v4.1.fU,iP v4.1.fas]]) (λe hw=>?_)
  refine⟨_,_,hw,?_⟩
  obtain⟨v9,h10,v11,h12,v13,h14,hF⟩:=bs3 hF
  obtain⟨v15,h16,v17,h18,hF⟩:=bs2 hF
  rcases cor hF with⟨h19,hF⟩|⟨h19,hF⟩
  ·obtain rfl:=soj hF
   exact g_rh 2 [.r (es 7 (kX 22 c75 h10::es 2 [])) (es 1 []),.r (es 1 (kC (CF99 h12)::es 5 [])) [],.r (es 4 (kX 2 c95 h14::es 4 (kX 2 c100 h16::es 2 (kC (CF100 h18)::es 4 [])))) (es 1 []),.r (es 3 (kL 1 cI v17.1::es 1 [])) [],bb h19,re 3] .ret λ_ _ k j=>hr k j
  obtain⟨v20,h21,hF⟩:=Xa hF
  obtain rfl:=soj hF
  exact g_rh 2 [.r (es 7 (kX 22 c75 h10::es 2 [])) (es 1 []),.r (es 1 (kC (CF99 h12)::es 5 [])) [],.r (es 4 (kX 2 c95 h14::es 4 (kX 2 c100 h16::es 2 (kC (CF100 h18)::es 4 [])))) (es 1 []),.r (es 3 (kL 1 cI v17.1::es 1 [])) [],bb h19,.r (es 5 (kX 1 cI h21::es 5 [])) (es 3 [])] .ret λ_ _ k j=>hr k j
 rcases cor hF with⟨h22,hF⟩|⟨h22,hF⟩
 ·exact g_to [.r (es 3 (rp 3 (bq h22) (kPt (bP true) (.tup []) h22::[]))) []] .normal λ_ hw=>⟨_,_,hw,true,hF,rfl,rfl⟩
 exact g_to [.r (es 3 (rq 3 (bq h22) (kPf (bP true) (bP (v4.1.fj !=4)) h22::[]))) []] .normal λ_ hw=>⟨_,_,hw,v4.1.fj !=4,hF,rfl,rfl⟩
theorem CF315 {v0 v1 out} (hF:F315 v0 v1=some out):A0 315 [iP v0,iP v1] (bP out):=by
 refine gC Tryz.func315 ?_
 rcases cor hF with⟨h2,hF⟩|⟨h2,hF⟩
 ·obtain rfl:=soj hF
  exact gE [re 1,.r (es 3 (rq 3 (bq h2) (kPt (bP (decide (v0<=v1))) (bP false) h2::es 1 []))) []]
 obtain rfl:=soj hF
 exact gE [re 1,.r (es 3 (rp 3 (bq h2) (kPf (.tup []) (bP false) h2::es 1 []))) []]
theorem CF292 {v0 out} (hF:F292 v0=some out):A0 292 [.agg (c261 v0)] (bP out):=by
 refine gC Tryz.func292 ?_
 obtain⟨v1,h2,hF⟩:=Xa hF
 rcases cor hF with⟨h3,hF⟩|⟨h3,hF⟩
 ·obtain⟨v4,h5,hF⟩:=Xa hF
  rcases cor hF with⟨h6,hF⟩|⟨h6,hF⟩
  ·obtain⟨v7,h8,hF⟩:=Xa hF
   rcases cor hF with⟨h9,hF⟩|⟨h9,hF⟩
   ·obtain⟨v10,h11,hF⟩:=Xa hF
    obtain rfl:=soj hF
    exact gE [re 2,re 1,.r (es 3 (kC (CF315 h2)::es 1 (rq 3 (bq h3) (bq h3::kC (CF315 h5)::kPt (bP v4) (bP false) h3::es 1 (rq 3 (bq h6) (bq h6::kC (CF315 h8)::kPt (bP v7) (bP false) h6::es 1 (rq 3 (bq h9) (bq h9::kC (CF315 h11)::kPt (bP v10) (bP false) h9::es 1 [])))))))) []]
   obtain rfl:=soj hF
   exact gE [re 2,re 1,.r (es 3 (kC (CF315 h2)::es 1 (rq 3 (bq h3) (bq h3::kC (CF315 h5)::kPt (bP v4) (bP false) h3::es 1 (rq 3 (bq h6) (bq h6::kC (CF315 h8)::kPt (bP v7) (bP false) h6::es 1 (rp 4 (bq h9) (kPf (.tup []) (bP false) h9::es 1 [])))))))) []]
  obtain rfl:=soj hF
  exact gE [re 2,re 1,.r (es 3 (kC (CF315 h2)::es 1 (rq 3 (bq h3) (bq h3::kC (CF315 h5)::kPt (bP v4) (bP false) h3::es 1 (rp 4 (bq h6) (kPf (.tup []) (bP false) h6::es 1 (rp 4 bqF (es 2 [])))))))) []]
 obtain rfl:=soj hF
 exact gE [re 2,re 1,.r (es 3 (kC (CF315 h2)::es 1 (rp 4 (bq h3) (kPf (.tup []) (bP false) h3::es 1 (rp 4 bqF (es 2 (rp 4 bqF (es 2 [])))))))) []]
theorem CF293 {v0 out} (hF:F293 v0=some out):A0 293 [iP v0] (bP out):=by
 refine gC Tryz.func293 ?_
 rcases cor hF with⟨h1,hF⟩|⟨h1,hF⟩
 ·obtain rfl:=soj hF
  exact gE [re 1,.r (es 3 (rp 2 (bq h1) (kPt (bP true) (.tup []) h1::es 1 []))) []]
 obtain rfl:=soj hF
 exact gE [re 1,.r (es 3 (rq 2 (bq h1) (kPf (bP true) (bP (v0==7)) h1::es 1 []))) []]
theorem CF199 {v0 out} (hF:F199 v0=some out):A0 199 [iP v0] (bP out):=by
 refine gC Tryz.func199 ?_
 obtain rfl:=soj hF
 exact gE [re 1,re 4]
theorem CF116 {v0 v1 out} (hF:F116 v0 v1=some out):A0 116 [iP v0,iP v1] (iP out):=by
 refine gC Tryz.func116 ?_
 obtain⟨v2,h3,v4,h5,hF⟩:=bs2 hF
 rcases cor hF with⟨h6,hF⟩|⟨h6,hF⟩
 ·rcases cor hF with⟨h7,hF⟩|⟨h7,hF⟩
  ·obtain rfl:=soj hF
   exact gE [re 1,.r (es 1 (kC (CF199 h3)::es 1 [])) [],.r (es 1 (kC (CF199 h5)::es 1 [])) [],re 1,bb h6,re 1,bb h7,re 1]
  obtain rfl:=soj hF
  exact gE [re 1,.r (es 1 (kC (CF199 h3)::es 1 [])) [],.r (es 1 (kC (CF199 h5)::es 1 [])) [],re 1,bb h6,re 1,bb h7,re 1]
 rcases cor hF with⟨h8,hF⟩|⟨h8,hF⟩
 ·obtain rfl:=soj hF
  exact gE [re 1,.r (es 1 (kC (CF199 h3)::es 1 [])) [],.r (es 1 (kC (CF199 h5)::es 1 [])) [],re 1,bb h6,re 1,bb h8,re 1]
 rcases cor hF with⟨h9,hF⟩|⟨h9,hF⟩
 ·obtain rfl:=soj hF
  exact gE [re 1,.r (es 1 (kC (CF199 h3)::es 1 [])) [],.r (es 1 (kC (CF199 h5)::es 1 [])) [],re 1,bb h6,re 1,bb h8,re 3,bb h9,re 1]
 rcases cor hF with⟨h10,hF⟩|⟨h10,hF⟩
 ·obtain rfl:=soj hF
  exact gE [re 1,.r (es 1 (kC (CF199 h3)::es 1 [])) [],.r (es 1 (kC (CF199 h5)::es 1 [])) [],re 1,bb h6,re 1,bb h8,re 3,bb h9,re 3,bb h10,re 1]
 obtain rfl:=soj hF
 exact gE [re 1,.r (es 1 (kC (CF199 h3)::es 1 [])) [],.r (es 1 (kC (CF199 h5)::es 1 [])) [],re 1,bb h6,re 1,bb h8,re 3,bb h9,re 3,bb h10,re 1]
theorem CF115 {v0 out} (hF:F115 v0=some out):A0 115 [eS 1 cI v0] (iP out):=by
 refine gC Tryz.func115 ?_
 refine gP 1 [re 1,re 1] [(0,eS 1 cI v0),(3,iP 0)] [] ?_
 refine gM (λ(_:Unit)=>([(3,iP 0)],[],JF115_1)) out ?_ ?_
 ·rintro⟨⟩ hF
  obtain rfl:=soj hF
  exact gE [re 2]
 refine gP 0 [.r (es 1 (kL 1 cI v0::es 1 [])) []] [(3,iP 0),(6,eS 1 cI v0),(7,iP (ln v0)),(8,iP 0)] [] ?_
 refine gB 0 ?_
 obtain⟨o4,ho4,hF⟩:=Xa hF
 refine gL ho4 (λv2=>([(3,iP 0),(6,eS 1 cI v0),(7,iP (ln v0)),(8,iP v2)],[])) wm ?_
 rintro v2 o5 h6 h7
 rcases cor h6 with⟨h9,h6⟩|⟨h9,h6⟩
 ·obtain⟨v10,h11,h6⟩:=Xa h6
  rcases cor h6 with⟨h12,h6⟩|⟨h12,h6⟩
  ·cases h6
   obtain rfl:=h7 _ rfl
   obtain rfl:=soj hF
   exact gE [re 1,bb h9,.r (kX 1 cI h11::es 2 []) [],re 3,bb h12,re 2]
  cases h6
  exact g_to [re 1,bb h9,.r (kX 1 cI h11::es 2 []) [],re 3,bb h12,re 2] .normal λ_ hw=>⟨rfl,hw⟩
 cases h6
 obtain rfl:=h7 _ rfl
 exact g_to [re 1,bb h9] (.exit 0) λ_ hw=>Xi (⟨_,_,hw,(),hF,rfl,rfl⟩)
theorem CF294 {v0 v1 out} (hF:F294 v0 v1=some out):A0 294 [.agg (c261 v0),.agg (c261 v1)] (iP out):=by
 refine gC Tryz.func294 ?_
 obtain⟨v2,h3,v4,h5,v6,h7,hF⟩:=bs3 hF
 obtain rfl:=soj hF
 exact gE [re 3,.r (es 4 (kC (CF116 h3)::es 4 [])) (kC (CF116 h5)::es 1 (kC (CF115 h7)::es 1 []))]
theorem CF232 {v0 out} (hF:F232 v0=some out):A0 232 [.agg (c263 v0)] (iP out):=by
 refine gC Tryz.func232 ?_
 refine gP 0 [re 2] [(1,.bp 0 0)] [.cells (c263 v0)] ?_
 refine gS ?_
 refine gB 0 ?_
 refine gM (λ(v1:Bool)=>([(1,.bp 0 0),(3,bP v1)],[.cells (c263 v0)],JF232_2 v0 v1)) out ?_ ?_
 ·rintro v1 hF
  refine gK v1 (λh3=>?_) (λh3=>?_)
  ·replace hF:=cond_t h3 hF
   obtain rfl:=soj hF
   exact gE [re 1]
  replace hF:=cond_f h3 hF
  refine gM (λ(v4:Bool)=>([(1,.bp 0 0),(12,bP v4)],[.cells (c263 v0)],JF232_5 v0 v4)) out ?_ ?_
  ·rintro v4 hF
   refine gK v4 (λh6=>?_) (λh6=>?_)
   ·replace hF:=cond_t h6 hF
    obtain rfl:=soj hF
    exact gE [re 1]
   replace hF:=cond_f h6 hF
   refine gM (λ(v7:Bool)=>([(1,.bp 0 0),(23,bP v7)],[.cells (c263 v0)],JF232_8 v0 v7)) out ?_ ?_
   ·rintro v7 hF
    rcases cor hF with⟨h9,hF⟩|⟨h9,hF⟩
    ·obtain rfl:=soj hF
     exact gE [bb h9,re 1]
    obtain⟨v10,h11,hF⟩:=Xa hF
    rcases cor hF with⟨h12,hF⟩|⟨h12,hF⟩
    ·obtain rfl:=soj hF
     exact gE [bb h9,.r (es 4 (kC (CF294 h11)::es 2 [])) [],bb h12,re 1]
    refine Xk [bb h9,.r (es 4 (kC (CF294 h11)::es 2 [])) [],bb h12] .normal [] [.cells (c263 v0)] (λe hw=>?_)
    refine⟨_,_,hw,?_⟩
    obtain rfl:=soj hF
    exact gE [re 1]
   rcases cor hF with⟨h13,hF⟩|⟨h13,hF⟩
   ·exact g_to [.r (es 8 (rp 5 (bq h13) (kPt (bP true) (.tup []) h13::es 1 []))) []] .normal λ_ hw=>⟨_,_,hw,true,hF,rfl,rfl⟩
   obtain⟨v14,h15,hF⟩:=Xa hF
   rcases cor hF with⟨h16,hF⟩|⟨h16,hF⟩
   ·exact g_to [.r (es 8 (rq 2 (bq h13) (bq h13::kC (CF293 h15)::bq h13::es 1 (rq 7 (bq h16) (bq h13::kPt (bP (v0.fI.fw !=v0.fTo.fw)) (bP false) h16::kPf (bP true) (bP (v0.fI.fw !=v0.fTo.fw)) h13::es 1 []))))) []] .normal λ_ hw=>⟨_,_,hw,v0.fI.fw !=v0.fTo.fw,hF,rfl,rfl⟩
   exact g_to [.r (es 8 (rq 2 (bq h13) (bq h13::kC (CF293 h15)::bq h13::es 1 (rp 7 (bq h16) (bq h13::kPf (.tup []) (bP false) h16::kPf (bP true) (bP false) h13::es 1 []))))) []] .normal λ_ hw=>⟨_,_,hw,false,hF,rfl,rfl⟩
  obtain⟨v17,h18,hF⟩:=Xa hF
  rcases cor hF with⟨h19,hF⟩|⟨h19,hF⟩
  ·exact g_to [.r (es 2 (kC (CF292 h18)::es 2 (rp 4 (bq h19) (kPt (bP true) (.tup []) h19::es 1 [])))) []] .normal λ_ hw=>⟨_,_,hw,true,hF,rfl,rfl⟩
  obtain⟨v20,h21,hF⟩:=Xa hF
  exact g_to [.r (es 2 (kC (CF292 h18)::es 2 (rq 2 (bq h19) (bq h19::kC (CF292 h21)::bq h19::es 1 (kPf (bP true) (bP (!v20)) h19::es 1 []))))) []] .normal λ_ hw=>⟨_,_,hw,!v20,hF,rfl,rfl⟩
 rcases cor hF with⟨h22,hF⟩|⟨h22,hF⟩
 ·exact g_to [.r (es 4 (rp 3 (bq h22) (kPt (bP true) (.tup []) h22::es 1 []))) []] .normal λ_ hw=>⟨_,_,hw,true,hF,rfl,rfl⟩
 exact g_to [.r (es 4 (rq 3 (bq h22) (kPf (bP true) (bP (decide (v0.fj>7))) h22::es 1 []))) []] .normal λ_ hw=>⟨_,_,hw,decide (v0.fj>7),hF,rfl,rfl⟩
theorem CF157_1 {v0 v1 v2 out} (hF:F157_1 v0 v1 v2=some out):ACall Tryz.prog 157 [.bp 0 0] (hC v0 v1 v2) (λq h=>q=(.tup [eS 9 c263 out.1,eS 1 cB out.2])/\h=(hC v0 v1 v2)):=by
 refine gC Tryz.func157 ?_
 refine gP 2 [re 2,re 1,re 1] [(0,.bp 0 0),(4,eS 9 c263 Sl.nil),(5,eS 1 cB Sl.nil)] (hC v0 v1 v2) ?_
 refine gM (λ(x:(List G263)×(List Bool))=>match x with|(v3,v4)=>([(4,oP 2 9 c263 v3),(5,oP 3 1 cB v4)],hC v0 v1 v2++[.grow (List.length v3) 9,.grow (List.length v4) 1],JF157_1_5 v3 v4)) out ?_ ?_
 ·rintro⟨v3,v4⟩ hF
  refine Xk [re 4] .ret [(2,oP 2 9 c263 v3),(3,oP 3 1 cB v4)] (hC v0 v1 v2++[.grow (List.length v3) 9,.grow (List.length v4) 1]) (λe hw=>?_)
  obtain rfl:=soj hF
  exact ends_cutH (r:=(.tup [oP 2 9 c263 v3,oP 3 1 cB v4])) (H3:=(hC v0 v1 v2)) (X:=[.grow (List.length v3) 9,.grow (List.length v4) 1]) (.inr rfl) hw rfl rfl (by kernel_rfl) AllBI.h (psub_tup (qs:=[eS 9 c263 (mkSl v3),eS 1 cB (mkSl v4)]) (pc (Vl cl263) (pc (Vl cl_cB) pe))) ⟨rfl,rfl⟩
 refine gP 0 [.r (es 5 (kL 7 c213 v0.fi::es 1 [])) []] [(0,.bp 0 0),(4,eS 9 c263 Sl.nil),(5,eS 1 cB Sl.nil),(17,eS 7 c213 v0.fi),(18,iP (ln v0.fi)),(19,iP 0)] (hC v0 v1 v2) ?_
 refine gB 0 ?_
 obtain⟨o11,ho11,hF⟩:=Xa hF
 refine gL ho11 (λ(v6,v7,v8)=>([(0,.bp 0 0),(4,oP 2 9 c263 v6),(5,oP 3 1 cB v7),(17,eS 7 c213 v0.fi),(18,iP (ln v0.fi)),(19,iP v8)],hC v0 v1 v2++[.grow (List.length v6) 9,.grow (List.length v7) 1])) ((((Uc (le':=[(0,.bp 0 0),(4,eS 9 c263 Sl.nil),(5,eS 1 cB Sl.nil),(17,eS 7 c213 v0.fi),(18,iP (ln v0.fi)),(19,iP 0)]) (by kernel_rfl)).trans (weak_sub (le':=[(0,.bp 0 0),(4,oP 2 9 c263 []),(5,oP 3 1 cB []),(17,eS 7 c213 v0.fi),(18,iP (ln v0.fi)),(19,iP 0)]) (wc (PSub.refl _) (wc psub_nil0 (wc psub_nil0 (wc (PSub.refl _) (wc (PSub.refl _) (wc (PSub.refl _) we)))))))).trans (weak_grow 9)).trans (weak_grow 1)) ?_
 rintro⟨v6,v7,v8⟩ o12 h13 h14
 rcases cor h13 with⟨h16,h13⟩|⟨h16,h13⟩
 ·obtain⟨v17,h18,v23,h24,v29,h30,h13⟩:=bs3 h13
  obtain⟨v31,h32,h13⟩:=Xa h13
  rcases cor h13 with⟨h33,h13⟩|⟨h33,h13⟩
  ·obtain⟨v34,h35,h13⟩:=Xa h13
   cases h13
   exact g_tc 4 [re 1,bb h16,.r (kX 7 c213 h18::es 3 []) [],.r (es 3 (kQ [0,1] [] 0 0 (CF231_1 h24)::es 6 [])) [],.r (es 3 (kQ [0,1] [] 0 0 (CF231_1 h30)::es 6 [])) [],re 7,.r (es 3 (kA 2 9 c263 h32::es 4 (rp 2 (bq h33) (kPt (bP true) (.tup []) h33::es 1 (rp 3 bqT (es 2 (kA 3 1 cB h35::es 2 []))))))) [],re 2] .normal λ_ _ hw=>⟨rfl,hw⟩
  rcases cor h13 with⟨h36,h13⟩|⟨h36,h13⟩
  ·obtain⟨v37,h38,h13⟩:=Xa h13
   cases h13
   exact g_tc 4 [re 1,bb h16,.r (kX 7 c213 h18::es 3 []) [],.r (es 3 (kQ [0,1] [] 0 0 (CF231_1 h24)::es 6 [])) [],.r (es 3 (kQ [0,1] [] 0 0 (CF231_1 h30)::es 6 [])) [],re 7,.r (es 3 (kA 2 9 c263 h32::es 4 (rq 2 (bq h33) (kPf (bP true) (bP (!v29.2)) h33::es 1 (rp 3 (bq h36) (kPt (bP true) (.tup []) h36::es 1 (kA 3 1 cB h38::es 2 []))))))) [],re 2] .normal λ_ _ hw=>⟨rfl,hw⟩
  obtain⟨v39,h40,v41,h42,h13⟩:=bs2 h13
  cases h13
  exact g_tc 4 [re 1,bb h16,.r (kX 7 c213 h18::es 3 []) [],.r (es 3 (kQ [0,1] [] 0 0 (CF231_1 h24)::es 6 [])) [],.r (es 3 (kQ [0,1] [] 0 0 (CF231_1 h30)::es 6 [])) [],re 7,.r (es 3 (kA 2 9 c263 h32::es 4 (rq 2 (bq h33) (kPf (bP true) (bP (!v29.2)) h33::es 1 (bq h36::es 1 (bq h36::kC (CF232 h40)::bq h36::es 1 (kPf (bP true) (bP (v39 !=0)) h36::es 1 (kA 3 1 cB h42::es 2 [])))))))) [],re 2] .normal λ_ _ hw=>⟨rfl,hw⟩
 cases h13
 obtain rfl:=h14 _ rfl
 exact g_to [re 1,bb h16] (.exit 0) λ_ hw=>Xi (⟨_,_,hw,(v6,v7),hF,rfl,rfl⟩)
theorem CF71_1 {v0 v1 v2 out} (hF:F71_1 v0 v1 v2=some out):ACall Tryz.prog 71 [.bp 0 0] (hC v0 v1 v2) (λq h=>q=(.tup [])/\h=(hC v0 v1 out)):=by
 refine gC Tryz.func71 ?_
 obtain⟨v7,h8,hF⟩:=Xa hF
 refine gP 1 [.r (es 1 (kQ [0,1] [] 0 0 (CF157_1 h8)::es 5 [])) [],.r (es 5 (kL 7 c213 v0.fi::es 1 [])) []] [(0,.bp 0 0),(3,eS 1 cB v7.2),(15,eS 7 c213 v0.fi),(16,iP (ln v0.fi)),(17,iP 0)] (hC v0 v1 v2) ?_
 refine gB 0 ?_
 obtain⟨o12,ho12,hF⟩:=Xa hF
 refine gL ho12 (λ(v9,v10)=>([(0,.bp 0 0),(3,eS 1 cB v7.2),(15,eS 7 c213 v0.fi),(16,iP (ln v0.fi)),(17,iP v9)],hC v0 v1 v10)) wm ?_
 rintro⟨v9,v10⟩ o13 h14 h15
 rcases cor h14 with⟨h17,h14⟩|⟨h17,h14⟩
 ·obtain⟨v18,h19,v20,h21,v27,h28,h14⟩:=bs3 h14
  cases h14
  exact g_tc 2 [re 1,bb h17,.r (es 1 (kX 7 c213 h19::es 4 [])) [],.r (es 3 (kX 1 cB h21::es 3 [])) (kK [0,1] [] 0 0 (Yb h28)::[]),re 2] .normal λ_ _ hw=>⟨rfl,hw⟩
 cases h14
 obtain rfl:=h15 _ rfl
 obtain rfl:=soj hF
 exact g_rh 2 [re 1,bb h17] (.exit 0) λ_ _ k j=>Xi (hn k j)
theorem CF295 {v0 out} (hF:F295 v0=some out):A0 295 [iP v0] (iP out):=by
 refine gC Tryz.func295 ?_
 refine gP 0 [re 1] [(0,iP v0)] [] ?_
 refine gS ?_
 refine gM (λ(v1:Bool)=>([(0,iP v0),(8,bP v1)],[],JF295_2 v0 v1)) out ?_ ?_
 ·rintro v1 hF
  rcases cor hF with⟨h3,hF⟩|⟨h3,hF⟩
  ·obtain rfl:=soj hF
   exact gE [bb h3,re 1]
  refine Xk [bb h3] .normal [(0,iP v0)] [] (λe hw=>?_)
  refine⟨_,_,hw,?_⟩
  obtain⟨v4,h5,hF⟩:=Xa hF
  obtain rfl:=soj hF
  exact gE [.r (es 3 (⟨.pu (.idxA 1 7 none (.c (.agg [iP 1,iP 2,iP 2,iP 4,iP 4,iP 6,iP 7])) (.c (iP (wi (v0-(1)))))) (iP v4),(n_idxA1 (f:=λx=>(iP x)) h5 rfl)⟩::es 1 [])) []]
 rcases cor hF with⟨h6,hF⟩|⟨h6,hF⟩
 ·exact g_to [.r (es 3 (rp 2 (bq h6) (kPt (bP true) (.tup []) h6::[]))) []] .normal λ_ hw=>⟨_,_,hw,true,hF,rfl,rfl⟩
 exact g_to [.r (es 3 (rq 2 (bq h6) (kPf (bP true) (bP (decide (v0>7))) h6::[]))) []] .normal λ_ hw=>⟨_,_,hw,decide (v0>7),hF,rfl,rfl⟩
theorem CF233 {v0 v1 out} (hF:F233 v0 v1=some out):A0 233 [.agg (c263 v0),.agg (c263 v1)] (bP out):=by
 refine gC Tryz.func233 ?_
 obtain⟨v2,h3,hF⟩:=Xa hF
 rcases cor hF with⟨h4,hF⟩|⟨h4,hF⟩
 ·obtain⟨v5,h6,v7,h8,hF⟩:=bs2 hF
  rcases cor hF with⟨h9,hF⟩|⟨h9,hF⟩
  ·rcases cor hF with⟨h10,hF⟩|⟨h10,hF⟩
   ·obtain⟨v11,h12,hF⟩:=Xa hF
    rcases cor hF with⟨h13,hF⟩|⟨h13,hF⟩
    ·obtain rfl:=soj hF
     exact gE [re 3,.r (es 2 (kC (CF295 h3)::es 2 (rq 2 (bq h4) (bq h4::kC (CF295 h6)::rq 2 (bq h4) (bq h4::kC (CF295 h8)::bq h4::es 1 (kPt (bP (v5==v7)) (bP false) h4::es 1 (rq 7 (bq h9) (kPt (bP (v0.fI.fA==v1.fI.fA)) (bP false) h9::es 1 (rq 2 (bq h10) (bq h10::kC (CF293 h12)::rq 2 (bq h10) (rp 6 (bq h13) []))))))))))) (bq h13::bq h10::kPt (bP true) (.tup []) h13::kPt (bP true) (bP false) h10::es 1 [])]
    obtain rfl:=soj hF
    exact gE [re 3,.r (es 2 (kC (CF295 h3)::es 2 (rq 2 (bq h4) (bq h4::kC (CF295 h6)::rq 2 (bq h4) (bq h4::kC (CF295 h8)::bq h4::es 1 (kPt (bP (v5==v7)) (bP false) h4::es 1 (rq 7 (bq h9) (kPt (bP (v0.fI.fA==v1.fI.fA)) (bP false) h9::es 1 (rq 2 (bq h10) (bq h10::kC (CF293 h12)::rq 2 (bq h10) (rq 6 (bq h13) []))))))))))) (bq h13::es 1 (bq h10::kPf (bP true) (bP (v0.fI.fw==v1.fI.fw)) h13::kPt (bP (v0.fI.fw==v1.fI.fw)) (bP false) h10::es 1 []))]
   obtain rfl:=soj hF
   exact gE [re 3,.r (es 2 (kC (CF295 h3)::es 2 (rq 2 (bq h4) (bq h4::kC (CF295 h6)::rq 2 (bq h4) (bq h4::kC (CF295 h8)::bq h4::es 1 (kPt (bP (v5==v7)) (bP false) h4::es 1 (rq 7 (bq h9) (kPt (bP (v0.fI.fA==v1.fI.fA)) (bP false) h9::es 1 (rp 5 (bq h10) []))))))))) (bq h10::kPf (.tup []) (bP false) h10::es 1 [])]
  obtain rfl:=soj hF
  exact gE [re 3,.r (es 2 (kC (CF295 h3)::es 2 (rq 2 (bq h4) (bq h4::kC (CF295 h6)::rq 2 (bq h4) (bq h4::kC (CF295 h8)::bq h4::es 1 (kPt (bP (v5==v7)) (bP false) h4::es 1 (rp 7 (bq h9) (kPf (.tup []) (bP false) h9::es 1 (rp 5 bqF []))))))))) (bq (t:=false) (b:=false) rfl::es 2 [])]
 obtain rfl:=soj hF
 exact gE [re 3,.r (es 2 (kC (CF295 h3)::es 2 (rp 7 (bq h4) (kPf (.tup []) (bP false) h4::es 1 (rp 7 bqF (es 2 (rp 5 bqF []))))))) (bq (t:=false) (b:=false) rfl::es 2 [])]
theorem CF235 {v0 v1 out} (hF:F235 v0 v1=some out):A0 235 [.agg (c263 v0),.agg (c263 v1)] (bP out):=by
 refine gC Tryz.func235 ?_
 obtain⟨v2,h3,hF⟩:=Xa hF
 rcases cor hF with⟨h4,hF⟩|⟨h4,hF⟩
 ·obtain rfl:=soj hF
  exact gE [re 3,.r (es 4 (kC (CF294 h3)::es 2 (rp 6 (bq h4) (kPt (bP true) (.tup []) h4::es 1 [])))) []]
 obtain⟨v5,h6,hF⟩:=Xa hF
 obtain rfl:=soj hF
 exact gE [re 3,.r (es 4 (kC (CF294 h3)::es 2 (rq 4 (bq h4) (bq h4::kC (CF294 h6)::bq h4::es 1 (kPf (bP true) (bP (decide (v5<=0))) h4::es 1 []))))) []]
theorem CF296 {v0 v1 out} (hF:F296 v0 v1=some out):A0 296 [.agg (c263 v0),.agg (c263 v1)] (bP out):=by
 refine gC Tryz.func296 ?_
 obtain⟨v2,h3,hF⟩:=Xa hF
 rcases cor hF with⟨h4,hF⟩|⟨h4,hF⟩
 ·obtain⟨v5,h6,hF⟩:=Xa hF
  obtain rfl:=soj hF
  exact gE [re 3,.r (es 4 (kC (CF294 h3)::es 2 (rq 4 (bq h4) (bq h4::kC (CF294 h6)::bq h4::es 1 (kPt (bP (decide (v5<=0))) (bP false) h4::es 1 []))))) []]
 obtain rfl:=soj hF
 exact gE [re 3,.r (es 4 (kC (CF294 h3)::es 2 (rp 6 (bq h4) (kPf (.tup []) (bP false) h4::es 1 [])))) []]
theorem CF238 {v0 v1 out} (hF:F238 v0 v1=some out):A0 238 [.agg (c263 v0),.agg (c263 v1)] (bP out):=by
 refine gC Tryz.func238 ?_
 obtain⟨v2,h3,hF⟩:=Xa hF
 rcases cor hF with⟨h4,hF⟩|⟨h4,hF⟩
 ·obtain⟨v5,h6,v7,h8,hF⟩:=bs2 hF
  obtain rfl:=soj hF
  exact gE [re 3,.r (es 2 (kC (CF235 h3)::es 2 (rq 2 (bq h4) (bq h4::kC (CF296 h6)::rq 2 (bq h4) [])))) (bq h4::kC (CF296 h8)::bq h4::es 1 (kPt (bP (v5==v7)) (bP false) h4::es 1 []))]
 obtain rfl:=soj hF
 exact gE [re 3,.r (es 2 (kC (CF235 h3)::es 2 (rp 5 (bq h4) []))) (rp 2 (bq h4) (kPf (.tup []) (bP false) h4::es 1 []))]
theorem CF234 {v0 v1 out} (hF:F234 v0 v1=some out):A0 234 [.agg (c263 v0),.agg (c263 v1)] (bP out):=by
 refine gC Tryz.func234 ?_
 obtain⟨v2,h3,hF⟩:=Xa hF
 obtain rfl:=soj hF
 exact gE [re 3,.r (es 2 (kC (CF235 h3)::es 2 [])) []]
theorem CF237 {v0 v1 out} (hF:F237 v0 v1=some out):A0 237 [.agg (c263 v0),.agg (c263 v1)] (bP out):=by
 refine gC Tryz.func237 ?_
 obtain⟨v2,h3,hF⟩:=Xa hF
 rcases cor hF with⟨h4,hF⟩|⟨h4,hF⟩
 ·obtain rfl:=soj hF
  exact gE [re 3,.r (es 4 (kC (CF294 h3)::es 2 (rp 6 (bq h4) (kPt (bP true) (.tup []) h4::es 1 [])))) []]
 obtain⟨v5,h6,hF⟩:=Xa hF
 obtain rfl:=soj hF
 exact gE [re 3,.r (es 4 (kC (CF294 h3)::es 2 (rq 4 (bq h4) (bq h4::kC (CF294 h6)::bq h4::es 1 (kPf (bP true) (bP (decide (v5<0))) h4::es 1 []))))) []]
theorem CF236 {v0 v1 out} (hF:F236 v0 v1=some out):A0 236 [.agg (c263 v0),.agg (c263 v1)] (bP out):=by
 refine gC Tryz.func236 ?_
 obtain⟨v2,h3,hF⟩:=Xa hF
 obtain rfl:=soj hF
 exact gE [re 3,.r (es 2 (kC (CF237 h3)::es 2 [])) []]
theorem CF158 {v0 v1 out} (hF:F158 v0 v1=some out):A0 158 [.agg (c263 v0),.agg (c263 v1)] (bP out):=by
 refine gC Tryz.func158 ?_
 obtain⟨v2,h3,hF⟩:=Xa hF
 rcases cor hF with⟨h4,hF⟩|⟨h4,hF⟩
 ·obtain rfl:=soj hF
  exact gE [re 3,.r (es 2 (kC (CF233 h3)::es 1 [])) [],bb h4,re 1]
 rcases cor hF with⟨h5,hF⟩|⟨h5,hF⟩
 ·obtain⟨v6,h7,hF⟩:=Xa hF
  obtain rfl:=soj hF
  exact gE [re 3,.r (es 2 (kC (CF233 h3)::es 1 [])) [],bb h4,re 1,re 1,re 9,.r (es 3 (⟨.pu (.iaddrA 1 7 (.c (.bp 2 0)) (.c (iP (wi (v0.fj-(1)))))) (.bp 2 0),Wz 0 h5 rfl⟩::es 3 [])) (kC (CF238 h7)::es 1 [])]
 rcases cor hF with⟨h8,hF⟩|⟨h8,hF⟩
 ·obtain⟨v9,h10,hF⟩:=Xa hF
  obtain rfl:=soj hF
  exact gE [re 3,.r (es 2 (kC (CF233 h3)::es 1 [])) [],bb h4,re 1,re 1,re 9,.r (es 3 (⟨.pu (.iaddrA 1 7 (.c (.bp 2 0)) (.c (iP (wi (v0.fj-(1)))))) (.bp 2 1),Wz 1 h8 rfl⟩::es 3 [])) (kC (CF234 h10)::es 1 [])]
 rcases cor hF with⟨h11,hF⟩|⟨h11,hF⟩
 ·obtain⟨v12,h13,hF⟩:=Xa hF
  obtain rfl:=soj hF
  exact gE [re 3,.r (es 2 (kC (CF233 h3)::es 1 [])) [],bb h4,re 1,re 1,re 9,.r (es 3 (⟨.pu (.iaddrA 1 7 (.c (.bp 2 0)) (.c (iP (wi (v0.fj-(1)))))) (.bp 2 2),Wz 2 h11 rfl⟩::es 3 [])) (kC (CF234 h13)::es 1 [])]
 rcases cor hF with⟨h14,hF⟩|⟨h14,hF⟩
 ·obtain⟨v15,h16,hF⟩:=Xa hF
  obtain rfl:=soj hF
  exact gE [re 3,.r (es 2 (kC (CF233 h3)::es 1 [])) [],bb h4,re 1,re 1,re 9,.r (es 3 (⟨.pu (.iaddrA 1 7 (.c (.bp 2 0)) (.c (iP (wi (v0.fj-(1)))))) (.bp 2 3),Wz 3 h14 rfl⟩::es 3 [])) (kC (CF236 h16)::es 1 [])]
 rcases cor hF with⟨h17,hF⟩|⟨h17,hF⟩
 ·obtain⟨v18,h19,hF⟩:=Xa hF
  obtain rfl:=soj hF
  exact gE [re 3,.r (es 2 (kC (CF233 h3)::es 1 [])) [],bb h4,re 1,re 1,re 9,.r (es 3 (⟨.pu (.iaddrA 1 7 (.c (.bp 2 0)) (.c (iP (wi (v0.fj-(1)))))) (.bp 2 4),Wz 4 h17 rfl⟩::es 3 [])) (kC (CF236 h19)::es 1 [])]
 rcases cor hF with⟨h20,hF⟩|⟨h20,hF⟩
 ·obtain⟨v21,h22,hF⟩:=Xa hF
  obtain rfl:=soj hF
  exact gE [re 3,.r (es 2 (kC (CF233 h3)::es 1 [])) [],bb h4,re 1,re 1,re 9,.r (es 3 (⟨.pu (.iaddrA 1 7 (.c (.bp 2 0)) (.c (iP (wi (v0.fj-(1)))))) (.bp 2 5),Wz 5 h20 rfl⟩::es 3 [])) (kC (CF234 h22)::es 1 [])]
 rcases cor hF with⟨h23,hF⟩|⟨h23,hF⟩
 ·obtain⟨v24,h25,hF⟩:=Xa hF
  obtain rfl:=soj hF
  exact gE [re 3,.r (es 2 (kC (CF233 h3)::es 1 [])) [],bb h4,re 1,re 1,re 9,.r (es 3 (⟨.pu (.iaddrA 1 7 (.c (.bp 2 0)) (.c (iP (wi (v0.fj-(1)))))) (.bp 2 6),Wz 6 h23 rfl⟩::es 3 [])) (kC (CF236 h25)::es 1 [])]
 exact nomatch hF
theorem CF72_1 {v0 v1 v2 out} (hF:F72_1 v0 v1 v2=some out):ACall Tryz.prog 72 [.bp 0 0] (hC v0 v1 v2) (λq h=>q=(.tup [])/\h=(hC v0 v1 out)):=by
 refine gC Tryz.func72 ?_
 obtain⟨v7,h8,hF⟩:=Xa hF
 refine gP 1 [.r (es 1 (kQ [0,1] [] 0 0 (CF157_1 h8)::es 5 [])) [],.r (es 5 (kL 7 c213 v0.fi::es 1 [])) []] [(0,.bp 0 0),(2,eS 9 c263 v7.1),(3,eS 1 cB v7.2),(17,eS 7 c213 v0.fi),(18,iP (ln v0.fi)),(19,iP 0)] (hC v0 v1 v2) ?_
 refine gB 0 ?_
 obtain⟨o12,ho12,hF⟩:=Xa hF
 refine gL ho12 (λ(v9,v10)=>([(0,.bp 0 0),(2,eS 9 c263 v7.1),(3,eS 1 cB v7.2),(17,eS 7 c213 v0.fi),(18,iP (ln v0.fi)),(19,iP v9)],hC v0 v1 v10)) wm ?_
 rintro⟨v9,v10⟩ o13 h14 h15
 rcases cor h14 with⟨h17,h14⟩|⟨h17,h14⟩
 ·refine gP 1 [re 1,bb h17] [(0,.bp 0 0),(2,eS 9 c263 v7.1),(3,eS 1 cB v7.2),(17,eS 7 c213 v0.fi),(18,iP (ln v0.fi)),(19,iP v9)] (hC v0 v1 v10) ?_
  refine gM (λ(v18:List G159)=>([(0,.bp 0 0),(2,eS 9 c263 v7.1),(3,eS 1 cB v7.2),(17,eS 7 c213 v0.fi),(18,iP (ln v0.fi)),(19,iP v9)],hC v0 v1 v18,JF72_1_19 v9 v18)) o13 ?_ ?_
  ·rintro v18 h14
   cases h14
   exact g_to [re 2] .normal λ_ hw=>⟨rfl,hw⟩
  refine gB 1 ?_
  obtain⟨v20,h21,h14⟩:=Xa h14
  refine gP 1 [.r (es 1 (kX 7 c213 h21::es 4 [])) [],re 1] [(0,.bp 0 0),(2,eS 9 c263 v7.1),(3,eS 1 cB v7.2),(4,iP v9),(5,.bp 2 0),(6,bP false),(17,eS 7 c213 v0.fi),(18,iP (ln v0.fi)),(19,iP v9)] (hC v0 v1 v10++[.cells (c213 v20)]) ?_
  refine gM (λ(v22:Bool)=>([(0,.bp 0 0),(2,eS 9 c263 v7.1),(3,eS 1 cB v7.2),(5,.bp 2 0),(6,bP v22),(17,eS 7 c213 v0.fi),(18,iP (ln v0.fi)),(19,iP v9)],hC v0 v1 v10++[.cells (c213 v20)],JF72_1_23 v20 v0 v1 v10 v9 v22)) o13 ?_ ?_
  ·rintro v22 h14
   obtain⟨v29,h30,h14⟩:=Xa h14
   exact g_tc 2 [.r (es 4 (kK [0,1] [] 0 0 (Yb h30)::[])) []] .normal λ_ _ hw=>⟨_,_,hw,v29,h14,rfl,rfl⟩
  refine gP 0 [re 1] [(0,.bp 0 0),(2,eS 9 c263 v7.1),(3,eS 1 cB v7.2),(4,iP v9),(5,.bp 2 0),(6,bP false),(7,iP 0),(17,eS 7 c213 v0.fi),(18,iP (ln v0.fi)),(19,iP v9)] (hC v0 v1 v10++[.cells (c213 v20)]) ?_
  refine gB 2 ?_
  obtain⟨o34,ho34,h14⟩:=Xa h14
  refine gL ho34 (λ(v31,v32)=>([(0,.bp 0 0),(2,eS 9 c263 v7.1),(3,eS 1 cB v7.2),(4,iP v9),(5,.bp 2 0),(6,bP v31),(7,iP v32),(17,eS 7 c213 v0.fi),(18,iP (ln v0.fi)),(19,iP v9)],hC v0 v1 v10++[.cells (c213 v20)])) wm ?_
  rintro⟨v31,v32⟩ o35 h36 h37
  refine gS ?_
  refine gM (λ(v39:Bool)=>([(0,.bp 0 0),(2,eS 9 c263 v7.1),(3,eS 1 cB v7.2),(4,iP v9),(5,.bp 2 0),(6,bP v31),(7,iP v32),(17,eS 7 c213 v0.fi),(18,iP (ln v0.fi)),(19,iP v9),(37,bP v39)],hC v0 v1 v10++[.cells (c213 v20)],Vz v7 v32 v9 v31 v39)) o35 ?_ ?_
  ·rintro v39 h36
   rcases cor h36 with⟨h41,h36⟩|⟨h41,h36⟩
   ·refine Xk [bb h41] .normal [(0,.bp 0 0),(2,eS 9 c263 v7.1),(3,eS 1 cB v7.2),(4,iP v9),(5,.bp 2 0),(7,iP v32),(17,eS 7 c213 v0.fi),(18,iP (ln v0.fi)),(19,iP v9)] (hC v0 v1 v10++[.cells (c213 v20)]) (λe hw=>?_)
    refine⟨_,_,hw,?_⟩
    obtain⟨v42,h43,h36⟩:=Xa h36
    rcases cor h36 with⟨h44,h36⟩|⟨h44,h36⟩
    ·obtain⟨v45,h46,v47,h48,v49,h50,h36⟩:=bs3 h36
     cases h36
     exact g_to [.r (es 2 (kX 1 cB h43::es 3 (rq 2 (bq h44) (bq h44::kX 9 c263 h46::rq 3 (bq h44) (bq h44::kX 9 c263 h48::bq h44::es 1 []))))) (bq h44::kC (CF158 h50)::kPt (bP v49) (bP false) h44::es 1 []),re 3] .normal λ_ hw=>⟨rfl,hw⟩
    cases h36
    exact g_to [.r (es 2 (kX 1 cB h43::es 3 (rp 8 (bq h44) []))) (bq h44::kPf (.tup []) (bP false) h44::es 1 []),re 3] .normal λ_ hw=>⟨rfl,hw⟩
   cases h36
   obtain rfl:=h37 _ rfl
   exact g_to [bb h41] (.exit 2) λ_ hw=>Xi (⟨_,_,hw,v31,h14,rfl,rfl⟩)
  rcases cor h36 with⟨h51,h36⟩|⟨h51,h36⟩
  ·obtain⟨v52,h53,h36⟩:=Xa h36
   rcases cor h36 with⟨h54,h36⟩|⟨h54,h36⟩
   ·exact g_to [.r (es 4 (rq 2 (bq h51) (bq h51::kX 1 cB h53::rq 2 (bq h51) (kPt (bP (!v52)) (bP false) h51::es 1 (rq 2 (bq h54) (kPt (bP (!v31)) (bP false) h54::[])))))) []] .normal λ_ hw=>⟨_,_,hw,!v31,h36,rfl,rfl⟩
   exact g_to [.r (es 4 (rq 2 (bq h51) (bq h51::kX 1 cB h53::rq 2 (bq h51) (kPt (bP (!v52)) (bP false) h51::es 1 (rp 2 (bq h54) (kPf (.tup []) (bP false) h54::[])))))) []] .normal λ_ hw=>⟨_,_,hw,false,h36,rfl,rfl⟩
  exact g_to [.r (es 4 (rp 5 (bq h51) (kPf (.tup []) (bP false) h51::es 1 (rp 2 bqF (es 1 []))))) []] .normal λ_ hw=>⟨_,_,hw,false,h36,rfl,rfl⟩
 cases h14
 obtain rfl:=h15 _ rfl
 obtain rfl:=soj hF
 exact g_rh 2 [re 1,bb h17] (.exit 0) λ_ _ k j=>Xi (hn k j)
theorem CF159 {v0 v1 out} (hF:F159 v0 v1=some out):A0 159 [iP v0,.agg (c75 v1)] (bP out):=by
 refine gC Tryz.func159 ?_
 rcases cor hF with⟨h2,hF⟩|⟨h2,hF⟩
 ·obtain⟨v3,h4,hF⟩:=Xa hF
  rcases cor hF with⟨h5,hF⟩|⟨h5,hF⟩
  ·obtain rfl:=soj hF
   exact gE [re 2,.r (es 4 (rq 2 (bq h2) (bq h2::kC (Xx h4)::bq h2::es 1 (kPt (bP (!v3)) (bP false) h2::es 1 (rp 4 (bq h5) (kPt (bP true) (.tup []) h5::es 1 [])))))) []]
  obtain⟨v6,h7,hF⟩:=Xa hF
  obtain rfl:=soj hF
  exact gE [re 2,.r (es 4 (rq 2 (bq h2) (bq h2::kC (Xx h4)::bq h2::es 1 (kPt (bP (!v3)) (bP false) h2::es 1 (rq 2 (bq h5) (bq h5::kC (Xx h7)::bq h5::es 1 (kPf (bP true) (bP (!v6)) h5::es 1 []))))))) []]
 obtain⟨v8,h9,hF⟩:=Xa hF
 obtain rfl:=soj hF
 exact gE [re 2,.r (es 4 (rp 4 (bq h2) (kPf (.tup []) (bP false) h2::es 1 (rq 2 bqF (bq (t:=false) (b:=false) rfl::kC (Xx h9)::bq (t:=false) (b:=false) rfl::es 3 []))))) []]
theorem CF131_6 {v0 v1 v2 out} (hF:F131_6 v0 v1 v2=some out):ACall Tryz.prog 131 [.bp 0 0,(fk 159)] (hC v0 v1 v2) (λq h=>q=(.tup [])/\h=(hC v0 v1 out)):=by
 refine gC Tryz.func131 ?_
 refine gP 0 [.r (es 5 (kL 22 c75 v0.fc::es 1 [])) []] [(0,.bp 0 0),(1,(fk 159)),(10,eS 22 c75 v0.fc),(11,iP (ln v0.fc)),(12,iP 0)] (hC v0 v1 v2) ?_
 refine gB 0 ?_
 obtain⟨o7,ho7,hF⟩:=Xa hF
 refine gL ho7 (λ(v4,v5)=>([(0,.bp 0 0),(1,(fk 159)),(10,eS 22 c75 v0.fc),(11,iP (ln v0.fc)),(12,iP v4)],hC v0 v1 v5)) wm ?_
 rintro⟨v4,v5⟩ o8 h9 h10
 rcases cor h9 with⟨h12,h9⟩|⟨h12,h9⟩
 ·obtain⟨v13,h14,v15,h16,v22,h23,h9⟩:=bs3 h9
  cases h9
  exact g_tc 2 [re 1,bb h12,.r (es 1 (kX 22 c75 h14::es 4 [])) [],.r (es 4 (kC (CF159 h16)::es 2 [])) (kK [0,1] [] 0 0 (Yb h23)::[]),re 2] .normal λ_ _ hw=>⟨rfl,hw⟩
 cases h9
 obtain rfl:=h10 _ rfl
 obtain rfl:=soj hF
 exact g_rh 2 [re 1,bb h12] (.exit 0) λ_ _ k j=>Xi (hn k j)
theorem CF245 {v0 out} (hF:F245 v0=some out):A0 245 [.sc (.int .u64 v0)] (iP out):=by
 refine gC Tryz.func245 ?_
 refine gP 0 [re 1] [(0,.sc (.int .u64 v0)),(2,iP 0)] [] ?_
 refine gM (λ(x:Int×Int)=>match x with|(v1,v2)=>([(0,.sc (.int .u64 v1)),(2,iP v2)],[],JF245_3 v1 v2)) out ?_ ?_
 ·rintro⟨v1,v2⟩ hF
  refine gM (λ(x:Int×Int)=>match x with|(v4,v5)=>([(0,.sc (.int .u64 v4)),(2,iP v5)],[],JF245_6 v4 v5)) out ?_ ?_
  ·rintro⟨v4,v5⟩ hF
   rcases cor hF with⟨h7,hF⟩|⟨h7,hF⟩
   ·obtain⟨v8,h9,hF⟩:=Xa hF
    obtain rfl:=soj hF
    exact gE [re 2,bb h7,re 3,re 3,.r (es 3 (⟨.pu (.idxStr (.c (sP (ByteArray.mk #[0,1,2,2,3,3,3,3,4,4,4,4,4,4,4,4,5,5,5,5,5,5,5,5,5,5,5,5,5,5,5,5,6,6,6,6,6,6,6,6,6,6,6,6,6,6,6,6,6,6,6,6,6,6,6,6,6,6,6,6,6,6,6,6,7,7,7,7,7,7,7,7,7,7,7,7,7,7,7,7,7,7,7,7,7,7,7,7,7,7,7,7,7,7,7,7,7,7,7,7,7,7,7,7,7,7,7,7,7,7,7,7,7,7,7,7,7,7,7,7,7,7,7,7,7,7,7,7,8,8,8,8,8,8,8,8,8,8,8,8,8,8,8,8,8,8,8,8,8,8,8,8,8,8,8,8,8,8,8,8,8,8,8,8,8,8,8,8,8,8,8,8,8,8,8,8,8,8,8,8,8,8,8,8,8,8,8,8,8,8,8,8,8,8,8,8,8,8,8,8,8,8,8,8,8,8,8,8,8,8,8,8,8,8,8,8,8,8,8,8,8,8,8,8,8,8,8,8,8,8,8,8,8,8,8,8,8,8,8,8,8,8,8,8,8,8,8,8,8,8,8,8,8,8,8,8]))) (.c (.sc (.int .u8 (IntKind.wrap .u8 (Int.fdiv v4 (2^8))))))) (.sc (.int .u8 ((UInt8.toNat v8:Nat):Int))),n_ch h9⟩::es 3 [])) []]
   obtain⟨v10,h11,hF⟩:=Xa hF
   obtain rfl:=soj hF
   exact gE [re 2,bb h7,.r (es 3 (⟨.pu (.idxStr (.c (sP (ByteArray.mk #[0,1,2,2,3,3,3,3,4,4,4,4,4,4,4,4,5,5,5,5,5,5,5,5,5,5,5,5,5,5,5,5,6,6,6,6,6,6,6,6,6,6,6,6,6,6,6,6,6,6,6,6,6,6,6,6,6,6,6,6,6,6,6,6,7,7,7,7,7,7,7,7,7,7,7,7,7,7,7,7,7,7,7,7,7,7,7,7,7,7,7,7,7,7,7,7,7,7,7,7,7,7,7,7,7,7,7,7,7,7,7,7,7,7,7,7,7,7,7,7,7,7,7,7,7,7,7,7,8,8,8,8,8,8,8,8,8,8,8,8,8,8,8,8,8,8,8,8,8,8,8,8,8,8,8,8,8,8,8,8,8,8,8,8,8,8,8,8,8,8,8,8,8,8,8,8,8,8,8,8,8,8,8,8,8,8,8,8,8,8,8,8,8,8,8,8,8,8,8,8,8,8,8,8,8,8,8,8,8,8,8,8,8,8,8,8,8,8,8,8,8,8,8,8,8,8,8,8,8,8,8,8,8,8,8,8,8,8,8,8,8,8,8,8,8,8,8,8,8,8,8,8,8,8,8,8]))) (.c (.sc (.int .u8 (IntKind.wrap .u8 v4))))) (.sc (.int .u8 ((UInt8.toNat v10:Nat):Int))),n_ch h11⟩::es 3 [])) []]
  rcases cor hF with⟨h12,hF⟩|⟨h12,hF⟩
  ·exact g_to [re 2,bb h12,re 3,re 3] .normal λ_ hw=>⟨_,_,hw,((Int.fdiv v1 (2^16)),wi (v2+16)),hF,rfl,rfl⟩
  exact g_to [re 2,bb h12] .normal λ_ hw=>⟨_,_,hw,(v1,v2),hF,rfl,rfl⟩
 rcases cor hF with⟨h13,hF⟩|⟨h13,hF⟩
 ·exact g_to [re 2,bb h13,re 3,re 1] .normal λ_ hw=>⟨_,_,hw,((Int.fdiv v0 (2^32)),32),hF,rfl,rfl⟩
 exact g_to [re 2,bb h13] .normal λ_ hw=>⟨_,_,hw,(v0,0),hF,rfl,rfl⟩
theorem CF198 {v0 out} (hF:F198 v0=some out):A0 198 [.sc (.int .u64 v0)] (iP out):=by
 refine gC Tryz.func198 ?_
 obtain⟨v1,h2,hF⟩:=Xa hF
 obtain rfl:=soj hF
 exact gE [re 1,bF,.r (es 1 (kC (CF245 h2)::es 1 [])) []]
theorem CF161 {v0 out} (hF:F161 v0=some out):A0 161 [.agg (c265 v0)] (bP out):=by
 refine gC Tryz.func161 ?_
 rcases cor hF with⟨h1,hF⟩|⟨h1,hF⟩
 ·obtain⟨v2,h3,hF⟩:=Xa hF
  obtain rfl:=soj hF
  exact gE [re 2,.r (es 4 (rq 5 (bq h1) (bq h1::⟨.pu (.bin .shl (.c (iP 1)) (.c (iP (wi (v0.fo-(1)))))) (iP v2),n_shl h3⟩::[]))) (bq h1::es 1 (kPt (bP (v0.f3==v2)) (bP false) h1::es 1 []))]
 obtain rfl:=soj hF
 exact gE [re 2,.r (es 4 (rp 6 (bq h1) [])) (bq h1::kPf (.tup []) (bP false) h1::es 1 [])]
theorem CF239 {v0 v1 out} (hF:F239 v0 v1=some out):A0 239 [.agg (c265 v0),.agg (c75 v1)] (.tup [.agg (c265 out.1),bP out.2]):=by
 refine gC Tryz.func239 ?_
 refine gP 0 [re 4] [(2,.bp 0 0),(3,.bp 1 0),(4,.bp 2 0)] [.cells (c265 v0),.cells (c75 v1),.cells [bP false,iP 0,iP 0,iP 0,bP false,iP 0]] ?_
 refine gS ?_
 refine gM (λ(v2:Bool)=>([(2,.bp 0 0),(3,.bp 1 0),(4,.bp 2 0),(13,bP v2)],[.cells (c265 v0),.cells (c75 v1),.cells [bP false,iP 0,iP 0,iP 0,bP false,iP 0]],JF239_3 v0 v1 v2)) out ?_ ?_
 ·rintro v2 hF
  rcases cor hF with⟨h4,hF⟩|⟨h4,hF⟩
  ·obtain rfl:=soj hF
   exact gE [bb h4,re 3]
  refine Xk [bb h4] .normal [(2,.bp 0 0),(3,.bp 1 0),(4,.bp 2 0)] [.cells (c265 v0),.cells (c75 v1),.cells [bP false,iP 0,iP 0,iP 0,bP false,iP 0]] (λe hw=>?_)
  refine⟨_,_,hw,?_⟩
  refine gM (λ(x:Int×Int×Bool)=>match x with|(v5,v6,v7)=>([(2,.bp 0 0),(3,.bp 1 0),(4,.bp 2 0)],[.cells [bP v0.fJ,iP v0.fG,iP v5,iP v6,bP v7,iP v0.fo],.cells (c75 v1),.cells [bP false,iP 0,iP 0,iP 0,bP false,iP 0]],JF239_8 v1 v0 v5 v6 v7)) out ?_ ?_
  ·rintro⟨v5,v6,v7⟩ hF
   refine gM (λ(x:Bool×Int)=>match x with|(v9,v10)=>([(2,.bp 0 0),(4,.bp 2 0)],[.cells [bP v0.fJ,iP v0.fG,iP v5,iP v6,bP v9,iP v10],.cells (c75 v1),.cells [bP false,iP 0,iP 0,iP 0,bP false,iP 0]],JF239_11 v0 v5 v6 v9 v10)) out ?_ ?_
   ·rintro⟨v9,v10⟩ hF
    obtain rfl:=soj hF
    exact gE [re 3]
   refine gP 0 [re 3] [(2,.bp 0 0),(3,.bp 1 0),(4,.bp 2 0),(97,bP (v1.fR !=0))] [.cells [bP v0.fJ,iP v0.fG,iP v5,iP v6,bP v7,iP v0.fo],.cells (c75 v1),.cells [bP false,iP 0,iP 0,iP 0,bP false,iP 0]] ?_
   refine gK (v1.fR !=0) (λh12=>?_) (λh12=>?_)
   ·replace hF:=cond_t h12 hF
    refine gS ?_
    refine gM (λ(v13:Bool)=>([(2,.bp 0 0),(3,.bp 1 0),(4,.bp 2 0),(120,bP v13)],[.cells [bP v0.fJ,iP v0.fG,iP v5,iP v6,bP v7,iP v0.fo],.cells (c75 v1),.cells [bP false,iP 0,iP 0,iP 0,bP false,iP 0]],JF239_14 v0 v5 v6 v7 v1 v13)) out ?_ ?_
    ·rintro v13 hF
     rcases cor hF with⟨h15,hF⟩|⟨h15,hF⟩
     ·obtain rfl:=soj hF
      exact gE [bb h15,re 3]
     refine Xk [bb h15] .normal [(2,.bp 0 0),(3,.bp 1 0),(4,.bp 2 0)] [.cells [bP v0.fJ,iP v0.fG,iP v5,iP v6,bP v7,iP v0.fo],.cells (c75 v1),.cells [bP false,iP 0,iP 0,iP 0,bP false,iP 0]] (λe hw=>?_)
     refine⟨_,_,hw,?_⟩
     exact g_to [re 6] .normal λ_ hw=>⟨_,_,hw,(true,v1.fR),hF,rfl,rfl⟩
    obtain⟨v16,h17,hF⟩:=Xa hF
    rcases cor hF with⟨h18,hF⟩|⟨h18,hF⟩
    ·exact g_to [.r (es 1 (kC (CF161 h17)::es 1 (rp 5 (bq h18) (kPt (bP true) (.tup []) h18::es 1 (rp 6 bqT []))))) (bqT::es 1 [])] .normal λ_ hw=>⟨_,_,hw,true,hF,rfl,rfl⟩
    rcases cor hF with⟨h19,hF⟩|⟨h19,hF⟩
    ·rcases cor hF with⟨h20,hF⟩|⟨h20,hF⟩
     ·exact g_to [.r (es 1 (kC (CF161 h17)::es 1 (rq 4 (bq h18) (rq 5 (bq h19) (bq h18::kPt (bP (v1.fR !=v0.fo)) (bP false) h19::kPf (bP true) (bP (v1.fR !=v0.fo)) h18::es 1 (rp 6 (bq h20) [])))))) (bq h20::kPt (bP true) (.tup []) h20::[])] .normal λ_ hw=>⟨_,_,hw,true,hF,rfl,rfl⟩
     obtain⟨v21,h22,hF⟩:=Xa hF
     exact g_to [.r (es 1 (kC (CF161 h17)::es 1 (rq 4 (bq h18) (rq 5 (bq h19) (bq h18::kPt (bP (v1.fR !=v0.fo)) (bP false) h19::kPf (bP true) (bP (v1.fR !=v0.fo)) h18::es 1 (rq 3 (bq h20) (bq h20::kC (CF198 h22)::rq 2 (bq h20) []))))))) (bq h20::es 1 (kPf (bP true) (bP (decide (v21>=v1.fR))) h20::[]))] .normal λ_ hw=>⟨_,_,hw,decide (v21>=v1.fR),hF,rfl,rfl⟩
    obtain⟨v23,h24,hF⟩:=Xa hF
    exact g_to [.r (es 1 (kC (CF161 h17)::es 1 (rq 4 (bq h18) (rp 5 (bq h19) (bq h18::kPf (.tup []) (bP false) h19::kPf (bP true) (bP false) h18::es 1 (rq 3 bqF (bq (t:=false) (b:=false) rfl::kC (CF198 h24)::rq 2 bqF []))))))) (bq (t:=false) (b:=false) rfl::es 2 [])] .normal λ_ hw=>⟨_,_,hw,decide (v23>=v1.fR),hF,rfl,rfl⟩
   replace hF:=cond_f h12 hF
   exact g_to [] .normal λ_ hw=>⟨_,_,hw,(v7,v0.fo),hF,rfl,rfl⟩
  refine gP 0 [re 5] [(2,.bp 0 0),(3,.bp 1 0),(4,.bp 2 0),(19,bP (v1.fp !=v0.f3))] [.cells (c265 v0),.cells (c75 v1),.cells [bP false,iP 0,iP 0,iP 0,bP false,iP 0]] ?_
  refine gK (v1.fp !=v0.f3) (λh25=>?_) (λh25=>?_)
  ·replace hF:=cond_t h25 hF
   refine gS ?_
   refine gM (λ(v26:Bool)=>([(2,.bp 0 0),(3,.bp 1 0),(4,.bp 2 0),(35,bP v26)],[.cells (c265 v0),.cells (c75 v1),.cells [bP false,iP 0,iP 0,iP 0,bP false,iP 0]],JF239_27 v0 v1 v26)) out ?_ ?_
   ·rintro v26 hF
    rcases cor hF with⟨h28,hF⟩|⟨h28,hF⟩
    ·obtain rfl:=soj hF
     exact gE [bb h28,re 3]
    refine Xk [bb h28] .normal [(2,.bp 0 0),(3,.bp 1 0),(4,.bp 2 0)] [.cells (c265 v0),.cells (c75 v1),.cells [bP false,iP 0,iP 0,iP 0,bP false,iP 0]] (λe hw=>?_)
    refine⟨_,_,hw,?_⟩
    obtain⟨v29,h30,hF⟩:=Xa hF
    refine gP 1 [.r (es 3 (kC (CF198 h30)::es 2 [])) [],.r (es 9 []) (es 4 [])] [(2,.bp 0 0),(3,.bp 1 0),(4,.bp 2 0),(6,iP (wi (v29-(1))))] [.cells [bP v0.fJ,iP v0.fG,iP (ior .i64 v0.fC v1.fp),iP v1.fp,bP false,iP v0.fo],.cells (c75 v1),.cells [bP false,iP 0,iP 0,iP 0,bP false,iP 0]] ?_
    refine gB 0 ?_
    refine gP 0 [re 4] [(2,.bp 0 0),(3,.bp 1 0),(4,.bp 2 0),(6,iP (wi (v29-(1)))),(52,bP (v0.fo==0))] [.cells [bP v0.fJ,iP v0.fG,iP (ior .i64 v0.fC v1.fp),iP v1.fp,bP false,iP v0.fo],.cells (c75 v1),.cells [bP false,iP 0,iP 0,iP 0,bP false,iP 0]] ?_
    refine gK (v0.fo==0) (λh31=>?_) (λh31=>?_)
    ·replace hF:=cond_t h31 hF
     refine gM (λ(v32:Bool)=>([(2,.bp 0 0),(3,.bp 1 0),(4,.bp 2 0),(63,bP v32)],[.cells [bP v0.fJ,iP v0.fG,iP (ior .i64 v0.fC v1.fp),iP v1.fp,bP false,iP v0.fo],.cells (c75 v1),.cells [bP false,iP 0,iP 0,iP 0,bP false,iP 0]],JF239_33 v0 v1 v32)) out ?_ ?_
     ·rintro v32 hF
      rcases cor hF with⟨h34,hF⟩|⟨h34,hF⟩
      ·obtain rfl:=soj hF
       exact gE [bb h34,re 3]
      exact g_to [bb h34] .normal λ_ hw=>⟨_,_,hw,((ior .i64 v0.fC v1.fp),v1.fp,false),hF,rfl,rfl⟩
     rcases cor hF with⟨h35,hF⟩|⟨h35,hF⟩
     ·exact g_to [.r (es 5 (rp 2 (bq h35) (kPt (bP true) (.tup []) h35::[]))) []] .normal λ_ hw=>⟨_,_,hw,true,hF,rfl,rfl⟩
     exact g_to [.r (es 5 (rq 2 (bq h35) (kPf (bP true) (bP (decide ((wi (v29-(1)))>6))) h35::[]))) []] .normal λ_ hw=>⟨_,_,hw,decide ((wi (v29-(1)))>6),hF,rfl,rfl⟩
    replace hF:=cond_f h31 hF
    refine gM (λ(v36:Bool)=>([(2,.bp 0 0),(3,.bp 1 0),(4,.bp 2 0),(65,bP v36)],[.cells [bP v0.fJ,iP v0.fG,iP (ior .i64 v0.fC v1.fp),iP v1.fp,bP false,iP v0.fo],.cells (c75 v1),.cells [bP false,iP 0,iP 0,iP 0,bP false,iP 0]],JF239_37 v0 v1 v36)) out ?_ ?_
    ·rintro v36 hF
     rcases cor hF with⟨h38,hF⟩|⟨h38,hF⟩
     ·obtain rfl:=soj hF
      exact gE [bb h38,re 3]
     exact g_to [bb h38] .normal λ_ hw=>⟨_,_,hw,((ior .i64 v0.fC v1.fp),v1.fp,false),hF,rfl,rfl⟩
    rcases cor hF with⟨h39,hF⟩|⟨h39,hF⟩
    ·exact g_to [.r (es 5 (rp 6 (bq h39) [])) (bq h39::kPt (bP true) (.tup []) h39::es 1 [])] .normal λ_ hw=>⟨_,_,hw,true,hF,rfl,rfl⟩
    rcases cor hF with⟨h40,hF⟩|⟨h40,hF⟩
    ·obtain⟨v41,h42,hF⟩:=Xa hF
     rcases cor hF with⟨h43,hF⟩|⟨h43,hF⟩
     ·exact g_to [.r (es 5 (rq 6 (bq h39) (bq h40::es 1 (bq h40::kC (CF161 h42)::rq 2 (bq h40) (rp 6 (bq h43) []))))) (bq h43::bq h40::kPt (bP true) (.tup []) h43::bq h39::kPt (bP true) (bP false) h40::kPf (bP true) (bP true) h39::es 1 [])] .normal λ_ hw=>⟨_,_,hw,true,hF,rfl,rfl⟩
     obtain⟨v44,h45,hF⟩:=Xa hF
     exact g_to [.r (es 5 (rq 6 (bq h39) (bq h40::es 1 (bq h40::kC (CF161 h42)::rq 2 (bq h40) (rq 4 (bq h43) (bq h43::⟨.pu (.bin .shl (.c (iP 1)) (.c (iP v0.fo))) (iP v44),n_shl h45⟩::bq h43::es 1 [])))))) (bq h43::es 1 (bq h40::kPf (bP true) (bP ((ior .i64 v0.fC v1.fp) !=(wi (v44-(1))))) h43::bq h39::kPt (bP ((ior .i64 v0.fC v1.fp) !=(wi (v44-(1))))) (bP false) h40::kPf (bP true) (bP ((ior .i64 v0.fC v1.fp) !=(wi (v44-(1))))) h39::es 1 []))] .normal λ_ hw=>⟨_,_,hw,(ior .i64 v0.fC v1.fp) !=(wi (v44-(1))),hF,rfl,rfl⟩
    exact g_to [.r (es 5 (rq 6 (bq h39) (rp 4 (bq h40) []))) (bq h40::bq h39::kPf (.tup []) (bP false) h40::kPf (bP true) (bP false) h39::es 1 [])] .normal λ_ hw=>⟨_,_,hw,false,hF,rfl,rfl⟩
   rcases cor hF with⟨h46,hF⟩|⟨h46,hF⟩
   ·rcases cor hF with⟨h47,hF⟩|⟨h47,hF⟩
    ·exact g_to [.r (es 4 (rq 3 (bq h46) (kPt (bP (!v0.faf)) (bP false) h46::es 1 (rp 6 (bq h47) (kPt (bP true) (.tup []) h47::[]))))) []] .normal λ_ hw=>⟨_,_,hw,true,hF,rfl,rfl⟩
    exact g_to [.r (es 4 (rq 3 (bq h46) (kPt (bP (!v0.faf)) (bP false) h46::es 1 (rq 6 (bq h47) (kPf (bP true) (bP ((iand .i64 v1.fp v0.fC) !=0)) h47::[]))))) []] .normal λ_ hw=>⟨_,_,hw,(iand .i64 v1.fp v0.fC) !=0,hF,rfl,rfl⟩
   exact g_to [.r (es 4 (rp 3 (bq h46) (kPf (.tup []) (bP false) h46::es 1 (rq 6 bqF (es 1 []))))) []] .normal λ_ hw=>⟨_,_,hw,(iand .i64 v1.fp v0.fC) !=0,hF,rfl,rfl⟩
  replace hF:=cond_f h25 hF
  rcases cor hF with⟨h48,hF⟩|⟨h48,hF⟩
  ·obtain rfl:=soj hF
   exact gE [re 2,bb h48,re 3]
  exact g_to [re 2,bb h48] .normal λ_ hw=>⟨_,_,hw,(v0.fC,v0.f3,v0.faf),hF,rfl,rfl⟩
 rcases cor hF with⟨h49,hF⟩|⟨h49,hF⟩
 ·exact g_to [.r (es 3 (rp 3 (bq h49) (kPt (bP true) (.tup []) h49::[]))) []] .normal λ_ hw=>⟨_,_,hw,true,hF,rfl,rfl⟩
 exact g_to [.r (es 3 (rq 3 (bq h49) (kPf (bP true) (bP (v0.fG==0)) h49::[]))) []] .normal λ_ hw=>⟨_,_,hw,v0.fG==0,hF,rfl,rfl⟩
theorem CF160 {v0 v1 out} (hF:F160 v0 v1=some out):A0 160 [.agg (c265 v0),.agg (c75 v1)] (.tup [.agg (c265 out.1),bP out.2]):=by
 refine gC Tryz.func160 ?_
 rcases cor hF with⟨h2,hF⟩|⟨h2,hF⟩
 ·obtain⟨v3,h4,hF⟩:=Xa hF
  obtain rfl:=soj hF
  exact gE [re 4,re 3,bb h2,.r (es 2 (kC (CF239 h4)::es 4 [])) []]
 refine gP 1 [re 4,re 3,bb h2] [(2,.bp 0 0),(3,.bp 1 0),(4,.bp 2 0)] [.cells (c265 v0),.cells (c75 v1),.cells [bP false,iP 0,iP 0,iP 0,bP false,iP 0]] ?_
 refine gM (λ(x:Bool×Int×Int×Int×Bool×Int)=>match x with|(v5,v6,v7,v8,v9,v10)=>([(2,.bp 0 0),(3,.bp 1 0),(4,.bp 2 0)],[.cells [bP v5,iP v6,iP v7,iP v8,bP v9,iP v10],.cells (c75 v1),.cells [bP false,iP 0,iP 0,iP 0,bP false,iP 0]],JF160_11 v1 v5 v6 v7 v8 v9 v10)) out ?_ ?_
 ·rintro⟨v5,v6,v7,v8,v9,v10⟩ hF
  refine gM (λ(x:Bool×Int×Int×Int×Bool×Int)=>match x with|(v12,v13,v14,v15,v16,v17)=>([(2,.bp 0 0),(3,.bp 1 0),(4,.bp 2 0)],[.cells [bP v12,iP v13,iP v14,iP v15,bP v16,iP v17],.cells (c75 v1),.cells [bP false,iP 0,iP 0,iP 0,bP false,iP 0]],JF160_18 v1 v12 v13 v14 v15 v16 v17)) out ?_ ?_
  ·rintro⟨v12,v13,v14,v15,v16,v17⟩ hF
   rcases cor hF with⟨h19,hF⟩|⟨h19,hF⟩
   ·obtain rfl:=soj hF
    exact gE [re 5,re 3,bb h19,re 2,re 3]
   obtain rfl:=soj hF
   exact gE [re 5,re 3,bb h19,re 3]
  rcases cor hF with⟨h20,hF⟩|⟨h20,hF⟩
  ·rcases cor hF with⟨h21,hF⟩|⟨h21,hF⟩
   ·obtain rfl:=soj hF
    exact gE [re 2,bb h20,re 2,bb h21,re 3]
   exact g_to [re 2,bb h20,re 2,bb h21,re 2] .normal λ_ hw=>⟨_,_,hw,(true,0,0,0,false,0),hF,rfl,rfl⟩
  exact g_to [re 2,bb h20] .normal λ_ hw=>⟨_,_,hw,(v5,v6,v7,v8,v9,v10),hF,rfl,rfl⟩
 rcases cor hF with⟨h22,hF⟩|⟨h22,hF⟩
 ·obtain⟨v23,h24,hF⟩:=Xa hF
  rcases cor hF with⟨h25,hF⟩|⟨h25,hF⟩
  ·obtain rfl:=soj hF
   exact gE [re 3,bb h22,.r (es 1 (kC (CF161 h24)::es 1 [])) [],bb h25,re 3]
  exact g_to [re 3,bb h22,.r (es 1 (kC (CF161 h24)::es 1 [])) [],bb h25,re 2] .normal λ_ hw=>⟨_,_,hw,(false,0,0,0,false,0),hF,rfl,rfl⟩
 exact g_to [re 3,bb h22] .normal λ_ hw=>⟨_,_,hw,(v0.fJ,v0.fG,v0.fC,v0.f3,v0.faf,v0.fo),hF,rfl,rfl⟩
theorem CF73_1 {v0 v1 v2 out} (hF:Wv v0 v1 v2=some out):ACall Tryz.prog 73 [.bp 0 0] (hC v0 v1 v2) (λq h=>q=(.tup [])/\h=(hC v0 v1 out)):=by
 refine gC Tryz.func73 ?_
 obtain⟨v7,h8,hF⟩:=Xa hF
 rcases cor hF with⟨h9,hF⟩|⟨h9,hF⟩
 ·obtain rfl:=soj hF
  exact g_rh 2 [.r (es 4 (kLA 1 3 c159 v2::es 1 [])) [],.r (es 1 (kK [0,1] [] 0 0 (CF131_6 h8)::[])) [],.r (es 4 (kLA 1 3 c159 v7::es 2 [])) [],bb h9] .ret λ_ _ k j=>hr k j
 refine gP 4 [.r (es 4 (kLA 1 3 c159 v2::es 1 [])) [],.r (es 1 (kK [0,1] [] 0 0 (CF131_6 h8)::[])) [],.r (es 4 (kLA 1 3 c159 v7::es 2 [])) [],bb h9,re 1,re 1] [(0,.bp 0 0),(3,.bp 2 0)] (hC v0 v1 v7++[.cells [bP false,iP 0,iP 0,iP 0,bP false,iP 0]]) ?_
 refine gM (λ(x:Bool×Int×Int×Int×Bool×Int)=>match x with|(v10,v11,v12,v13,v14,v15)=>([(0,.bp 0 0),(3,.bp 2 0)],hC v0 v1 v7++[.cells [bP v10,iP v11,iP v12,iP v13,bP v14,iP v15]],JF73_1_16 v0 v1 v7 v10 v11 v12 v13 v14 v15)) out ?_ ?_
 ·rintro⟨v10,v11,v12,v13,v14,v15⟩ hF
  refine gM (λ(v17:Bool)=>([(0,.bp 0 0),(7,bP v17)],hC v0 v1 v7,Zu v0 v1 v7 v17)) out ?_ ?_
  ·rintro v17 hF
   obtain⟨v19,h20,v26,h27,hF⟩:=bs2 hF
   obtain rfl:=soj hF
   exact g_rh 2 [.r (es 12 (kL 22 c75 v0.fc::es 1 (kX 22 c75 h20::es 2 []))) (kK [0,1] [] 0 0 (Yb h27)::[])] .normal λ_ _ k j=>hn k j
  rcases cor hF with⟨h28,hF⟩|⟨h28,hF⟩
  ·rcases cor hF with⟨h29,hF⟩|⟨h29,hF⟩
   ·exact g_tc 2 [.r (es 3 (rq 3 (bq h28) (kPt (bP (v13==0)) (bP false) h28::es 1 (rp 5 (bq h29) (kPt (bP true) (.tup []) h29::es 1 []))))) []] .normal λ_ _ hw=>⟨_,_,hw,true,hF,rfl,rfl⟩
   rcases cor hF with⟨h30,hF⟩|⟨h30,hF⟩
   ·obtain⟨v31,h32,hF⟩:=Xa hF
    exact g_tc 2 [.r (es 3 (rq 3 (bq h28) (kPt (bP (v13==0)) (bP false) h28::es 1 (rq 4 (bq h29) (bq h30::es 1 (bq h30::kC (CF161 h32)::bq h30::es 1 (bq h29::kPt (bP (!v31)) (bP false) h30::kPf (bP true) (bP (!v31)) h29::es 1 []))))))) []] .normal λ_ _ hw=>⟨_,_,hw,!v31,hF,rfl,rfl⟩
   exact g_tc 2 [.r (es 3 (rq 3 (bq h28) (kPt (bP (v13==0)) (bP false) h28::es 1 (rq 4 (bq h29) (rp 3 (bq h30) (bq h29::kPf (.tup []) (bP false) h30::kPf (bP true) (bP false) h29::es 1 [])))))) []] .normal λ_ _ hw=>⟨_,_,hw,false,hF,rfl,rfl⟩
  rcases cor hF with⟨h33,hF⟩|⟨h33,hF⟩
  ·obtain⟨v34,h35,hF⟩:=Xa hF
   exact g_tc 2 [.r (es 3 (rp 3 (bq h28) (kPf (.tup []) (bP false) h28::es 1 (rq 4 bqF (bq h33::es 1 (bq h33::kC (CF161 h35)::bq h33::es 1 (bq (t:=false) (b:=false) rfl::kPt (bP (!v34)) (bP false) h33::es 2 []))))))) []] .normal λ_ _ hw=>⟨_,_,hw,!v34,hF,rfl,rfl⟩
  exact g_tc 2 [.r (es 3 (rp 3 (bq h28) (kPf (.tup []) (bP false) h28::es 1 (rq 4 bqF (rp 3 (bq h33) (bq (t:=false) (b:=false) rfl::kPf (.tup []) (bP false) h33::es 2 [])))))) []] .normal λ_ _ hw=>⟨_,_,hw,false,hF,rfl,rfl⟩
 refine gP 0 [.r (es 5 (kL 22 c75 v0.fc::es 1 [])) []] [(0,.bp 0 0),(3,.bp 2 0),(26,eS 22 c75 v0.fc),(27,iP (ln v0.fc)),(28,iP 0)] (hC v0 v1 v7++[.cells [bP false,iP 0,iP 0,iP 0,bP false,iP 0]]) ?_
 refine gB 0 ?_
 obtain⟨o50,ho50,hF⟩:=Xa hF
 refine gL ho50 (λ(v36,v37,v38,v39,v40,v41,v42)=>([(0,.bp 0 0),(3,.bp 2 0),(26,eS 22 c75 v0.fc),(27,iP (ln v0.fc)),(28,iP v36)],hC v0 v1 v7++[.cells [bP v37,iP v38,iP v39,iP v40,bP v41,iP v42]])) wm ?_
 rintro⟨v36,v37,v38,v39,v40,v41,v42⟩ o51 h52 h53
 rcases cor h52 with⟨h55,h52⟩|⟨h55,h52⟩
 ·obtain⟨v56,h57,v58,h59,h52⟩:=bs2 h52
  rcases cor h52 with⟨h60,h52⟩|⟨h60,h52⟩
  ·obtain⟨v66,h67,h52⟩:=Xa h52
   cases h52
   obtain rfl:=h53 _ rfl
   obtain rfl:=soj hF
   exact g_rh 2 [re 1,bb h55,.r (kX 22 c75 h57::es 3 []) [],.r (es 2 (kC (CF160 h59)::es 5 [])) [],re 2,bb h60,.r (es 3 (kK [0,1] [] 0 0 (Yb h67)::[])) []] .ret λ_ _ k j=>hr k j
  cases h52
  exact g_tc 3 [re 1,bb h55,.r (kX 22 c75 h57::es 3 []) [],.r (es 2 (kC (CF160 h59)::es 5 [])) [],re 2,bb h60,re 2] .normal λ_ _ hw=>⟨rfl,hw⟩
 cases h52
 obtain rfl:=h53 _ rfl
 exact g_to [re 1,bb h55] (.exit 0) λ_ hw=>Xi (⟨_,_,hw,(v37,v38,v39,v40,v41,v42),hF,rfl,rfl⟩)
theorem CF163_1 {v0 v1 out} (hF:F163_1 v0 v1=some out):ACall Tryz.prog 163 [.agg (c75 v0),.bp 0 0] [.cells (c75 v1)] (λq h=>q=(bP out)/\h=[.cells (c75 v1)]):=by
 refine gC Tryz.func163 ?_
 rcases cor hF with⟨h2,hF⟩|⟨h2,hF⟩
 ·rcases cor hF with⟨h3,hF⟩|⟨h3,hF⟩
  ·obtain rfl:=soj hF
   exact g_rh 1 [re 2,.r (es 4 (rq 3 (bq h2) (kPt (bP (v0.fan !=0)) (bP false) h2::es 1 (rp 6 (bq h3) (kPt (bP true) (.tup []) h3::es 1 []))))) []] .ret λ_ _ k j=>hr k j
  obtain rfl:=soj hF
  exact g_rh 1 [re 2,.r (es 4 (rq 3 (bq h2) (kPt (bP (v0.fan !=0)) (bP false) h2::es 1 (rq 6 (bq h3) (kPf (bP true) (bP ((iand .i64 v1.f6 v0.f6) !=0)) h3::es 1 []))))) []] .ret λ_ _ k j=>hr k j
 obtain rfl:=soj hF
 exact g_rh 1 [re 2,.r (es 4 (rp 3 (bq h2) (kPf (.tup []) (bP false) h2::es 1 (rq 6 bqF (es 2 []))))) []] .ret λ_ _ k j=>hr k j
theorem CF240_1 {v0 v1 out} (hF:F240_1 v0 v1=some out):ACall Tryz.prog 240 [eS 22 c75 v0,(.fn (.func 163) [] [.bp 0 0])] [.cells (c75 v1)] (λq h=>q=(iP out)/\h=[.cells (c75 v1)]):=by
 refine gC Tryz.func240 ?_
 refine gP 0 [re 1] [(0,eS 22 c75 v0),(1,(.fn (.func 163) [] [.bp 0 0]))] [.cells (c75 v1)] ?_
 refine gM (λ(_:Unit)=>([],[.cells (c75 v1)],JF240_1_2)) out ?_ ?_
 ·rintro⟨⟩ hF
  obtain rfl:=soj hF
  exact g_rh 1 [re 1] .ret λ_ _ k j=>hr k j
 refine gP 0 [.r (es 1 (kL 22 c75 v0::es 1 [])) []] [(0,eS 22 c75 v0),(1,(.fn (.func 163) [] [.bp 0 0])),(7,iP (ln v0)),(8,iP 0)] [.cells (c75 v1)] ?_
 refine gB 0 ?_
 obtain⟨o5,ho5,hF⟩:=Xa hF
 refine gL ho5 (λv3=>([(0,eS 22 c75 v0),(1,(.fn (.func 163) [] [.bp 0 0])),(7,iP (ln v0)),(8,iP v3)],[.cells (c75 v1)])) wm ?_
 rintro v3 o6 h7 h8
 rcases cor h7 with⟨h10,h7⟩|⟨h10,h7⟩
 ·obtain⟨v11,h12,v15,h16,h7⟩:=bs2 h7
  rcases cor h7 with⟨h17,h7⟩|⟨h17,h7⟩
  ·cases h7
   obtain rfl:=h8 _ rfl
   obtain rfl:=soj hF
   exact g_rh 1 [re 1,bb h10,re 2,.r (es 3 (kX 22 c75 h12::es 1 (kQ [0] [] 0 1 (CF163_1 h16)::[]))) [],bb h17,re 2] .ret λ_ _ k j=>hr k j
  cases h7
  exact g_to [re 1,bb h10,re 2,.r (es 3 (kX 22 c75 h12::es 1 (kQ [0] [] 0 1 (CF163_1 h16)::[]))) [],bb h17,re 2] .normal λ_ hw=>⟨rfl,hw⟩
 cases h7
 obtain rfl:=h8 _ rfl
 exact g_to [re 1,bb h10] (.exit 0) λ_ hw=>Xi (⟨_,_,hw,(),hF,rfl,rfl⟩)
theorem CF164_1 {v0 v1 out} (hF:F164_1 v0 v1=some out):ACall Tryz.prog 164 [eS 22 c75 v0,(.fn (.func 163) [] [.bp 0 0])] [.cells (c75 v1)] (λq h=>q=(bP out)/\h=[.cells (c75 v1)]):=by
 refine gC Tryz.func164 ?_
 obtain⟨v4,h5,hF⟩:=Xa hF
 obtain rfl:=soj hF
 exact g_rh 1 [re 1,.r (es 2 (kQ [0] [] 0 0 (CF240_1 h5)::es 2 [])) []] .ret λ_ _ k j=>hr k j
theorem CF297_1 {v0 v1 out} (hF:F297_1 v0 v1=some out):ACall Tryz.prog 297 [.agg (c75 v0),.bp 0 0] [.cells [iP v1]] (λq h=>q=(bP out)/\h=[.cells [iP v1]]):=by
 refine gC Tryz.func297 ?_
 obtain rfl:=soj hF
 exact g_rh 1 [re 2,re 6] .ret λ_ _ k j=>hr k j
theorem CF240_2 {v0 v1 out} (hF:F240_2 v0 v1=some out):ACall Tryz.prog 240 [eS 22 c75 v0,(.fn (.func 297) [] [.bp 0 0])] [.cells [iP v1]] (λq h=>q=(iP out)/\h=[.cells [iP v1]]):=by
 refine gC Tryz.func240 ?_
 refine gP 0 [re 1] [(0,eS 22 c75 v0),(1,(.fn (.func 297) [] [.bp 0 0]))] [.cells [iP v1]] ?_
 refine gM (λ(_:Unit)=>([],[.cells [iP v1]],JF240_2_2)) out ?_ ?_
 ·rintro⟨⟩ hF
  obtain rfl:=soj hF
  exact g_rh 1 [re 1] .ret λ_ _ k j=>hr k j
 refine gP 0 [.r (es 1 (kL 22 c75 v0::es 1 [])) []] [(0,eS 22 c75 v0),(1,(.fn (.func 297) [] [.bp 0 0])),(7,iP (ln v0)),(8,iP 0)] [.cells [iP v1]] ?_
 refine gB 0 ?_
 obtain⟨o5,ho5,hF⟩:=Xa hF
 refine gL ho5 (λv3=>([(0,eS 22 c75 v0),(1,(.fn (.func 297) [] [.bp 0 0])),(7,iP (ln v0)),(8,iP v3)],[.cells [iP v1]])) wm ?_
 rintro v3 o6 h7 h8
 rcases cor h7 with⟨h10,h7⟩|⟨h10,h7⟩
 ·obtain⟨v11,h12,v15,h16,h7⟩:=bs2 h7
  rcases cor h7 with⟨h17,h7⟩|⟨h17,h7⟩
  ·cases h7
   obtain rfl:=h8 _ rfl
   obtain rfl:=soj hF
   exact g_rh 1 [re 1,bb h10,re 2,.r (es 3 (kX 22 c75 h12::es 1 (kQ [0] [] 0 1 (CF297_1 h16)::[]))) [],bb h17,re 2] .ret λ_ _ k j=>hr k j
  cases h7
  exact g_to [re 1,bb h10,re 2,.r (es 3 (kX 22 c75 h12::es 1 (kQ [0] [] 0 1 (CF297_1 h16)::[]))) [],bb h17,re 2] .normal λ_ hw=>⟨rfl,hw⟩
 cases h7
 obtain rfl:=h8 _ rfl
 exact g_to [re 1,bb h10] (.exit 0) λ_ hw=>Xi (⟨_,_,hw,(),hF,rfl,rfl⟩)
end
end Go.Proofs.YtibndgdocbbbeaaGreat
set_option maxRecDepth 100000
set_option maxHeartbeats 40000000
set_option synthInstance.maxSize 100000
namespace Go.Proofs.YtibndgdocbbbeaaGreat
open Go.PE
noncomputable section
theorem CF242_1 {v0 v1 v2 v3 out} (hF:F242_1 v0 v1 v2 v3=some out):ACall Tryz.prog 242 [.bp 0 0,iP v0] (hC v1 v2 v3) (λq h=>q=(iP out)/\h=(hC v1 v2 v3)):=by
 refine gC Tryz.func242 ?_
 obtain⟨v6,h7,hF⟩:=Xa hF
 obtain rfl:=soj hF
 exact g_rh 2 [re 2,.r (es 6 (kQ [2] [] 0 0 (CF240_2 h7)::es 1 [])) []] .ret λ_ _ k j=>hr k j
theorem CF241_1 {v0 v1 v2 v3 v4 out} (hF:F241_1 v0 v1 v2 v3 v4=some out):ACall Tryz.prog 241 [iP v0,.bp 0 0,.bp 3 0] [.cells [.bp 1 0],.cells (c27 v1++[iP v2,oP 2 3 c159 v3]),.grow (List.length v3) 3,.cells [iP v4]] (λq h=>q=(bP out)/\h=[.cells [.bp 1 0],.cells (c27 v1++[iP v2,oP 2 3 c159 v3]),.grow (List.length v3) 3,.cells [iP v4]]):=by
 refine gC Tryz.func241 ?_
 obtain⟨v9,h10,v11,h12,hF⟩:=bs2 hF
 obtain rfl:=soj hF
 exact g_rh 4 [re 1,.r (es 2 (kQ [1,2] [] 0 0 (CF242_1 h10)::es 1 [])) (kC (Xx h12)::es 1 [])] .ret λ_ _ k j=>hr k j
theorem CF165_1 {v0 v1 v2 v3 v4 out} (hF:F165_1 v0 v1 v2 v3 v4=some out):ACall Tryz.prog 165 [.bp 0 0,iP v0,iP v1] (hC v2 v3 v4) (λq h=>q=(bP out)/\h=(hC v2 v3 v4)):=by
 refine gC Tryz.func165 ?_
 refine gP 1 [re 3,re 2] [(1,iP v0),(3,.bp 2 0),(7,(.fn (.func 241) [] [.bp 2 0,.bp 3 0]))] (hC v2 v3 v4++[.cells [.bp 0 0],.cells [iP v1]]) ?_
 refine gS ?_
 refine gM (λ(v5:Bool)=>([(1,iP v0),(3,.bp 2 0),(7,(.fn (.func 241) [] [.bp 2 0,.bp 3 0])),(15,bP v5)],hC v2 v3 v4++[.cells [.bp 0 0],.cells [iP v1]],JF165_1_6 v0 v2 v3 v4 v1 v5)) out ?_ ?_
 ·rintro v5 hF
  rcases cor hF with⟨h7,hF⟩|⟨h7,hF⟩
  ·obtain rfl:=soj hF
   exact g_rh 2 [bb h7,re 1] .ret λ_ _ k j=>hr k j
  refine Xk [bb h7] .normal [(1,iP v0),(3,.bp 2 0),(7,(.fn (.func 241) [] [.bp 2 0,.bp 3 0]))] (hC v2 v3 v4++[.cells [.bp 0 0],.cells [iP v1]]) (λe hw=>?_)
  refine⟨_,_,hw,?_⟩
  refine gS ?_
  refine gP 0 [re 1] [(3,.bp 2 0),(7,(.fn (.func 241) [] [.bp 2 0,.bp 3 0])),(16,iP v0)] (hC v2 v3 v4++[.cells [.bp 0 0],.cells [iP v1]]) ?_
  refine gB 0 ?_
  refine gM (λ(v8:Bool)=>([(3,.bp 2 0),(7,(.fn (.func 241) [] [.bp 2 0,.bp 3 0])),(16,iP v0),(17,bP v8)],hC v2 v3 v4++[.cells [.bp 0 0],.cells [iP v1]],JF165_1_9 v2 v3 v4 v1 v0 v8)) out ?_ ?_
  ·rintro v8 hF
   refine gK v8 (λh10=>?_) (λh10=>?_)
   ·replace hF:=cond_t h10 hF
    obtain⟨v16,h17,hF⟩:=Xa hF
    obtain rfl:=soj hF
    exact g_rh 2 [.r (es 1 (kQ [2,0,1,3] [] 0 2 (CF241_1 h17)::es 1 [])) []] .ret λ_ _ k j=>hr k j
   replace hF:=cond_f h10 hF
   refine gM (λ(v18:Bool)=>([(3,.bp 2 0),(7,(.fn (.func 241) [] [.bp 2 0,.bp 3 0])),(22,bP v18)],hC v2 v3 v4++[.cells [.bp 0 0],.cells [iP v1]],JF165_1_19 v2 v3 v4 v1 v18)) out ?_ ?_
   ·rintro v18 hF
    rcases cor hF with⟨h20,hF⟩|⟨h20,hF⟩
    ·obtain⟨v26,h27,hF⟩:=Xa hF
     rcases cor hF with⟨h28,hF⟩|⟨h28,hF⟩
     ·obtain⟨v33,h34,v39,h40,hF⟩:=bs2 hF
      obtain rfl:=soj hF
      exact g_rh 2 [bb h20,.r (es 1 (kQ [2,0,1,3] [] 0 2 (CF241_1 h27)::es 1 (bq h28::es 1 (bq h28::kQ [0,1] [] 0 0 (CF242_1 h34)::bq h28::es 1 [])))) (bq h28::kQ [0,1] [] 0 0 (CF242_1 h40)::bq h28::es 1 (kPt (bP (decide (v33>v39))) (bP false) h28::es 1 []))] .ret λ_ _ k j=>hr k j
     obtain rfl:=soj hF
     exact g_rh 2 [bb h20,.r (es 1 (kQ [2,0,1,3] [] 0 2 (CF241_1 h27)::es 1 (rp 3 (bq h28) []))) (rp 2 (bq h28) (kPf (.tup []) (bP false) h28::es 1 []))] .ret λ_ _ k j=>hr k j
    refine Xk [bb h20] .normal [] (hC v2 v3 v4++[.cells [.bp 0 0],.cells [iP v1]]) (λe hw=>?_)
    refine⟨_,_,hw,?_⟩
    obtain rfl:=soj hF
    exact g_rh 2 [re 1] .ret λ_ _ k j=>hr k j
   rcases cor hF with⟨h41,hF⟩|⟨h41,hF⟩
   ·exact g_to [re 2,bb h41] .normal λ_ hw=>⟨_,_,hw,v0==3,hF,rfl,rfl⟩
   exact g_to [re 2,bb h41,re 2] .normal λ_ hw=>⟨_,_,hw,v0==6,hF,rfl,rfl⟩
  rcases cor hF with⟨h42,hF⟩|⟨h42,hF⟩
  ·exact g_to [re 2,bb h42] .normal λ_ hw=>⟨_,_,hw,v0==2,hF,rfl,rfl⟩
  exact g_to [re 2,bb h42,re 2] .normal λ_ hw=>⟨_,_,hw,v0==5,hF,rfl,rfl⟩
 rcases cor hF with⟨h43,hF⟩|⟨h43,hF⟩
 ·obtain⟨v49,h50,hF⟩:=Xa hF
  exact g_to [.r (es 3 (bq h43::es 1 (bq h43::kQ [2,0,1,3] [] 0 2 (CF241_1 h50)::bq h43::es 1 (kPt (bP (!v49)) (bP false) h43::[])))) []] .normal λ_ hw=>⟨_,_,hw,!v49,hF,rfl,rfl⟩
 exact g_to [.r (es 3 (rp 3 (bq h43) (kPf (.tup []) (bP false) h43::[]))) []] .normal λ_ hw=>⟨_,_,hw,false,hF,rfl,rfl⟩
theorem CF162_1 {v0 v1 v2 v3 v4 out} (hF:F162_1 v0 v1 v2 v3 v4=some out):ACall Tryz.prog 162 [iP v0,.agg (c75 v1),.bp 0 0] [.cells [.bp 1 0],.cells (c27 v2++[iP v3,oP 2 3 c159 v4]),.grow (List.length v4) 3] (λq h=>q=(bP out)/\h=[.cells [.bp 1 0],.cells (c27 v2++[iP v3,oP 2 3 c159 v4]),.grow (List.length v4) 3]):=by
 refine gC Tryz.func162 ?_
 refine gP 0 [re 2] [(0,iP v0),(2,.bp 0 0),(4,.bp 3 0)] [.cells [.bp 1 0],.cells (c27 v2++[iP v3,oP 2 3 c159 v4]),.grow (List.length v4) 3,.cells (c75 v1)] ?_
 refine gS ?_
 refine gM (λ(v5:Bool)=>([(0,iP v0),(2,.bp 0 0),(4,.bp 3 0),(36,bP v5)],[.cells [.bp 1 0],.cells (c27 v2++[iP v3,oP 2 3 c159 v4]),.grow (List.length v4) 3,.cells (c75 v1)],Zv v2 v0 v1 v3 v4 v5)) out ?_ ?_
 ·rintro v5 hF
  rcases cor hF with⟨h7,hF⟩|⟨h7,hF⟩
  ·obtain rfl:=soj hF
   exact g_rh 3 [bb h7,re 1] .ret λ_ _ k j=>hr k j
  refine Xk [bb h7] .normal [(0,iP v0),(2,.bp 0 0),(4,.bp 3 0)] [.cells [.bp 1 0],.cells (c27 v2++[iP v3,oP 2 3 c159 v4]),.grow (List.length v4) 3,.cells (c75 v1)] (λe hw=>?_)
  refine⟨_,_,hw,?_⟩
  obtain⟨v8,h9,v12,h13,hF⟩:=bs2 hF
  rcases cor hF with⟨h14,hF⟩|⟨h14,hF⟩
  ·obtain rfl:=soj hF
   exact g_rh 3 [re 2,.r (es 6 (⟨.pu (.slSl 22 (.c (eS 22 c75 v2.fc)) none (some (.c (iP v0))) none) (eS 22 c75 v8),n_sll h9⟩::es 1 (kQ [3] [] 0 0 (CF164_1 h13)::es 1 (rp 6 (bq h14) (kPt (bP true) (.tup []) h14::es 1 []))))) []] .ret λ_ _ k j=>hr k j
  obtain⟨v20,h21,hF⟩:=Xa hF
  obtain rfl:=soj hF
  exact g_rh 3 [re 2,.r (es 6 (⟨.pu (.slSl 22 (.c (eS 22 c75 v2.fc)) none (some (.c (iP v0))) none) (eS 22 c75 v8),n_sll h9⟩::es 1 (kQ [3] [] 0 0 (CF164_1 h13)::es 1 (rq 4 (bq h14) (bq h14::kQ [1,2] [] 0 0 (CF165_1 h21)::bq h14::es 1 (kPf (bP true) (bP (!v20)) h14::es 1 [])))))) []] .ret λ_ _ k j=>hr k j
 obtain⟨v22,h23,hF⟩:=Xa hF
 rcases cor hF with⟨h24,hF⟩|⟨h24,hF⟩
 ·exact g_to [.r (es 2 (kC (Xx h23)::es 2 (rp 4 (bq h24) (kPt (bP true) (.tup []) h24::es 1 (rp 7 bqT (es 1 [])))))) []] .normal λ_ hw=>⟨_,_,hw,true,hF,rfl,rfl⟩
 obtain⟨v25,h26,hF⟩:=Xa hF
 rcases cor hF with⟨h27,hF⟩|⟨h27,hF⟩
 ·exact g_to [.r (es 2 (kC (Xx h23)::es 2 (rq 2 (bq h24) (bq h24::kC (Xx h26)::bq h24::es 1 (kPf (bP true) (bP (!v25)) h24::es 1 (rp 7 (bq h27) (kPt (bP true) (.tup []) h27::[]))))))) []] .normal λ_ hw=>⟨_,_,hw,true,hF,rfl,rfl⟩
 rcases cor hF with⟨h28,hF⟩|⟨h28,hF⟩
 ·rcases cor hF with⟨h29,hF⟩|⟨h29,hF⟩
  ·exact g_to [.r (es 2 (kC (Xx h23)::es 2 (rq 2 (bq h24) (bq h24::kC (Xx h26)::bq h24::es 1 (kPf (bP true) (bP (!v25)) h24::es 1 (rq 4 (bq h27) (rp 3 (bq h28) (bq h27::kPt (bP true) (.tup []) h28::bq h27::es 1 (rq 4 bqT (rp 3 (bq h29) (bqT::kPt (bP true) (.tup []) h29::bq h27::es 1 (kPf (bP true) (bP true) h27::[])))))))))))) []] .normal λ_ hw=>⟨_,_,hw,true,hF,rfl,rfl⟩
  exact g_to [.r (es 2 (kC (Xx h23)::es 2 (rq 2 (bq h24) (bq h24::kC (Xx h26)::bq h24::es 1 (kPf (bP true) (bP (!v25)) h24::es 1 (rq 4 (bq h27) (rp 3 (bq h28) (bq h27::kPt (bP true) (.tup []) h28::bq h27::es 1 (rq 4 bqT (rq 3 (bq h29) (bqT::kPf (bP true) (bP (v1.fp !=0)) h29::bq h27::es 1 (kPf (bP true) (bP (v1.fp !=0)) h27::[])))))))))))) []] .normal λ_ hw=>⟨_,_,hw,v1.fp !=0,hF,rfl,rfl⟩
 rcases cor hF with⟨h30,hF⟩|⟨h30,hF⟩
 ·rcases cor hF with⟨h31,hF⟩|⟨h31,hF⟩
  ·exact g_to [.r (es 2 (kC (Xx h23)::es 2 (rq 2 (bq h24) (bq h24::kC (Xx h26)::bq h24::es 1 (kPf (bP true) (bP (!v25)) h24::es 1 (rq 4 (bq h27) (rq 3 (bq h28) (bq h27::kPf (bP true) (bP (v1.f6 !=0)) h28::bq h27::es 1 (rq 4 (bq h30) (rp 3 (bq h31) (bq h30::kPt (bP true) (.tup []) h31::bq h27::kPt (bP true) (bP false) h30::kPf (bP true) (bP true) h27::[]))))))))))) []] .normal λ_ hw=>⟨_,_,hw,true,hF,rfl,rfl⟩
  exact g_to [.r (es 2 (kC (Xx h23)::es 2 (rq 2 (bq h24) (bq h24::kC (Xx h26)::bq h24::es 1 (kPf (bP true) (bP (!v25)) h24::es 1 (rq 4 (bq h27) (rq 3 (bq h28) (bq h27::kPf (bP true) (bP (v1.f6 !=0)) h28::bq h27::es 1 (rq 4 (bq h30) (rq 3 (bq h31) (bq h30::kPf (bP true) (bP (v1.fp !=0)) h31::bq h27::kPt (bP (v1.fp !=0)) (bP false) h30::kPf (bP true) (bP (v1.fp !=0)) h27::[]))))))))))) []] .normal λ_ hw=>⟨_,_,hw,v1.fp !=0,hF,rfl,rfl⟩
 exact g_to [.r (es 2 (kC (Xx h23)::es 2 (rq 2 (bq h24) (bq h24::kC (Xx h26)::bq h24::es 1 (kPf (bP true) (bP (!v25)) h24::es 1 (rq 4 (bq h27) (rq 3 (bq h28) (bq h27::kPf (bP true) (bP (v1.f6 !=0)) h28::bq h27::es 1 (rp 5 (bq h30) (bq h27::kPf (.tup []) (bP false) h30::kPf (bP true) (bP false) h27::[])))))))))) []] .normal λ_ hw=>⟨_,_,hw,false,hF,rfl,rfl⟩
theorem CF131_7 {v0 v1 v2 out} (hF:F131_7 v0 v1 v2=some out):ACall Tryz.prog 131 [.bp 0 0,(.fn (.func 162) [] [.bp 2 0])] (hC v0 v1 v2++[.cells [.bp 0 0]]) (λq h=>q=(.tup [])/\h=(hC v0 v1 out++[.cells [.bp 0 0]])):=by
 refine gC Tryz.func131 ?_
 refine gP 0 [.r (es 5 (kL 22 c75 v0.fc::es 1 [])) []] [(0,.bp 0 0),(1,(.fn (.func 162) [] [.bp 2 0])),(10,eS 22 c75 v0.fc),(11,iP (ln v0.fc)),(12,iP 0)] (hC v0 v1 v2++[.cells [.bp 0 0]]) ?_
 refine gB 0 ?_
 obtain⟨o7,ho7,hF⟩:=Xa hF
 refine gL ho7 (λ(v4,v5)=>([(0,.bp 0 0),(1,(.fn (.func 162) [] [.bp 2 0])),(10,eS 22 c75 v0.fc),(11,iP (ln v0.fc)),(12,iP v4)],hC v0 v1 v5++[.cells [.bp 0 0]])) wm ?_
 rintro⟨v4,v5⟩ o8 h9 h10
 rcases cor h9 with⟨h12,h9⟩|⟨h12,h9⟩
 ·obtain⟨v13,h14,v20,h21,v27,h28,h9⟩:=bs3 h9
  cases h9
  exact g_tc 3 [re 1,bb h12,.r (es 1 (kX 22 c75 h14::es 4 [])) [],.r (es 4 (kQ [2,0,1] [] 0 1 (CF162_1 h21)::es 2 [])) (kK [0,1] [] 0 0 (Yb h28)::[]),re 2] .normal λ_ _ hw=>⟨rfl,hw⟩
 cases h9
 obtain rfl:=h10 _ rfl
 obtain rfl:=soj hF
 exact g_rh 3 [re 1,bb h12] (.exit 0) λ_ _ k j=>Xi (hn k j)
theorem CF74_1 {v0 v1 v2 out} (hF:Wi v0 v1 v2=some out):ACall Tryz.prog 74 [.bp 0 0] (hC v0 v1 v2) (λq h=>q=(.tup [])/\h=(hC v0 v1 out)):=by
 refine gC Tryz.func74 ?_
 obtain⟨v7,h8,hF⟩:=Xa hF
 obtain rfl:=soj hF
 exact g_rh 2 [re 1,.r (es 2 (kK [0,1,2] [] 0 0 (CF131_7 h8)::[])) []] .normal λ_ _ k j=>hn k j
theorem CF166 {v0 v1 out} (hF:F166 v0 v1=some out):A0 166 [iP v0,.agg (c75 v1)] (bP out):=by
 refine gC Tryz.func166 ?_
 obtain⟨v2,h3,hF⟩:=Xa hF
 refine gP 1 [re 2,.r (es 1 (kC (CF99 h3)::es 5 [])) []] [(3,.bp 0 0),(5,iP v2.1)] [.cells (c75 v1)] ?_
 refine gM (λ(v4:Bool)=>([(3,.bp 0 0),(5,iP v2.1),(7,bP v4)],[.cells (c75 v1)],JF166_5 v1 v2 v4)) out ?_ ?_
 ·rintro v4 hF
  refine gM (λ(v6:Bool)=>([(7,bP v6)],[],JF166_7 v6)) out ?_ ?_
  ·rintro v6 hF
   obtain rfl:=soj hF
   exact gE [re 2]
  refine gP 0 [.r (es 2 (kL 3 c111 v1.fm::es 1 [])) []] [(3,.bp 0 0),(5,iP v2.1),(7,bP v4),(31,eS 3 c111 v1.fm),(32,iP (ln v1.fm)),(33,iP 0)] [.cells (c75 v1)] ?_
  refine gB 0 ?_
  obtain⟨o11,ho11,hF⟩:=Xa hF
  refine gL ho11 (λ(v8,v9)=>([(3,.bp 0 0),(5,iP v2.1),(7,bP v8),(31,eS 3 c111 v1.fm),(32,iP (ln v1.fm)),(33,iP v9)],[.cells (c75 v1)])) wm ?_
  rintro⟨v8,v9⟩ o12 h13 h14
  rcases cor h13 with⟨h16,h13⟩|⟨h16,h13⟩
  ·obtain⟨v17,h18,h13⟩:=Xa h13
   rcases cor h13 with⟨h19,h13⟩|⟨h19,h13⟩
   ·cases h13
    exact g_tc 1 [re 1,bb h16,.r (es 1 (kX 3 c111 h18::es 4 [])) [],.r (es 2 (rp 6 (bq h19) (kPt (bP true) (.tup []) h19::es 1 (rp 4 bqT (es 2 (rp 3 bqT [])))))) (bqT::es 2 []),re 2] .normal λ_ _ hw=>⟨rfl,hw⟩
   obtain⟨v20,h21,h13⟩:=Xa h13
   rcases cor h13 with⟨h22,h13⟩|⟨h22,h13⟩
   ·cases h13
    exact g_tc 1 [re 1,bb h16,.r (es 1 (kX 3 c111 h18::es 4 [])) [],.r (es 2 (rq 4 (bq h19) (bq h19::kC (Xx h21)::bq h19::es 1 (kPf (bP true) (bP (!v20)) h19::es 1 (rp 4 (bq h22) (kPt (bP true) (.tup []) h22::es 1 (rp 3 bqT []))))))) (bqT::es 2 []),re 2] .normal λ_ _ hw=>⟨rfl,hw⟩
   obtain⟨v23,h24,h13⟩:=Xa h13
   rcases cor h13 with⟨h25,h13⟩|⟨h25,h13⟩
   ·cases h13
    exact g_tc 1 [re 1,bb h16,.r (es 1 (kX 3 c111 h18::es 4 [])) [],.r (es 2 (rq 4 (bq h19) (bq h19::kC (Xx h21)::bq h19::es 1 (kPf (bP true) (bP (!v20)) h19::es 1 (rq 2 (bq h22) (bq h22::kC (Xx h24)::bq h22::es 1 (kPf (bP true) (bP (!v23)) h22::es 1 (rp 3 (bq h25) [])))))))) (bq h25::kPt (bP true) (.tup []) h25::es 1 []),re 2] .normal λ_ _ hw=>⟨rfl,hw⟩
   rcases cor h13 with⟨h26,h13⟩|⟨h26,h13⟩
   ·obtain⟨v27,h28,h13⟩:=Xa h13
    cases h13
    exact g_tc 1 [re 1,bb h16,.r (es 1 (kX 3 c111 h18::es 4 [])) [],.r (es 2 (rq 4 (bq h19) (bq h19::kC (Xx h21)::bq h19::es 1 (kPf (bP true) (bP (!v20)) h19::es 1 (rq 2 (bq h22) (bq h22::kC (Xx h24)::bq h22::es 1 (kPf (bP true) (bP (!v23)) h22::es 1 (rq 3 (bq h25) (rq 6 (bq h26) (bq h26::kX 3 c111 h28::rq 2 (bq h26) [])))))))))) (bq h26::es 1 (bq h25::kPt (bP (decide (v17.fAt<=v27.fAt))) (bP false) h26::kPf (bP true) (bP (decide (v17.fAt<=v27.fAt))) h25::es 1 [])),re 2] .normal λ_ _ hw=>⟨rfl,hw⟩
   cases h13
   exact g_tc 1 [re 1,bb h16,.r (es 1 (kX 3 c111 h18::es 4 [])) [],.r (es 2 (rq 4 (bq h19) (bq h19::kC (Xx h21)::bq h19::es 1 (kPf (bP true) (bP (!v20)) h19::es 1 (rq 2 (bq h22) (bq h22::kC (Xx h24)::bq h22::es 1 (kPf (bP true) (bP (!v23)) h22::es 1 (rq 3 (bq h25) (rp 9 (bq h26) []))))))))) (bq h26::bq h25::kPf (.tup []) (bP false) h26::kPf (bP true) (bP false) h25::es 1 []),re 2] .normal λ_ _ hw=>⟨rfl,hw⟩
  cases h13
  obtain rfl:=h14 _ rfl
  exact g_tc 0 [re 1,bb h16] (.exit 0) λ_ _ hw=>Xi (⟨_,_,hw,v8,hF,rfl,rfl⟩)
 rcases cor hF with⟨h29,hF⟩|⟨h29,hF⟩
 ·obtain⟨v30,h31,hF⟩:=Xa hF
  rcases cor hF with⟨h32,hF⟩|⟨h32,hF⟩
  ·exact g_to [.r (es 4 (rq 2 (bq h29) (bq h29::kC (Xx h31)::bq h29::es 1 (kPt (bP (!v30)) (bP false) h29::es 1 (rp 4 (bq h32) (kPt (bP true) (.tup []) h32::es 1 [])))))) []] .normal λ_ hw=>⟨_,_,hw,true,hF,rfl,rfl⟩
  obtain⟨v33,h34,hF⟩:=Xa hF
  exact g_to [.r (es 4 (rq 2 (bq h29) (bq h29::kC (Xx h31)::bq h29::es 1 (kPt (bP (!v30)) (bP false) h29::es 1 (rq 2 (bq h32) (bq h32::kC (Xx h34)::bq h32::es 1 (kPf (bP true) (bP (!v33)) h32::es 1 []))))))) []] .normal λ_ hw=>⟨_,_,hw,!v33,hF,rfl,rfl⟩
 obtain⟨v35,h36,hF⟩:=Xa hF
 exact g_to [.r (es 4 (rp 4 (bq h29) (kPf (.tup []) (bP false) h29::es 1 (rq 2 bqF (bq (t:=false) (b:=false) rfl::kC (Xx h36)::bq (t:=false) (b:=false) rfl::es 3 []))))) []] .normal λ_ hw=>⟨_,_,hw,!v35,hF,rfl,rfl⟩
theorem CF131_8 {v0 v1 v2 out} (hF:F131_8 v0 v1 v2=some out):ACall Tryz.prog 131 [.bp 0 0,(fk 166)] (hC v0 v1 v2) (λq h=>q=(.tup [])/\h=(hC v0 v1 out)):=by
 refine gC Tryz.func131 ?_
 refine gP 0 [.r (es 5 (kL 22 c75 v0.fc::es 1 [])) []] [(0,.bp 0 0),(1,(fk 166)),(10,eS 22 c75 v0.fc),(11,iP (ln v0.fc)),(12,iP 0)] (hC v0 v1 v2) ?_
 refine gB 0 ?_
 obtain⟨o7,ho7,hF⟩:=Xa hF
 refine gL ho7 (λ(v4,v5)=>([(0,.bp 0 0),(1,(fk 166)),(10,eS 22 c75 v0.fc),(11,iP (ln v0.fc)),(12,iP v4)],hC v0 v1 v5)) wm ?_
 rintro⟨v4,v5⟩ o8 h9 h10
 rcases cor h9 with⟨h12,h9⟩|⟨h12,h9⟩
 ·obtain⟨v13,h14,v15,h16,v22,h23,h9⟩:=bs3 h9
  cases h9
  exact g_tc 2 [re 1,bb h12,.r (es 1 (kX 22 c75 h14::es 4 [])) [],.r (es 4 (kC (CF166 h16)::es 2 [])) (kK [0,1] [] 0 0 (Yb h23)::[]),re 2] .normal λ_ _ hw=>⟨rfl,hw⟩
 cases h9
 obtain rfl:=h10 _ rfl
 obtain rfl:=soj hF
 exact g_rh 2 [re 1,bb h12] (.exit 0) λ_ _ k j=>Xi (hn k j)
theorem CF75_1 {v0 v1 v2 out} (hF:Zr v0 v1 v2=some out):ACall Tryz.prog 75 [.bp 0 0] (hC v0 v1 v2) (λq h=>q=(.tup [])/\h=(hC v0 v1 out)):=by
 refine gC Tryz.func75 ?_
 obtain⟨v7,h8,hF⟩:=Xa hF
 obtain rfl:=soj hF
 exact g_rh 2 [.r (es 1 (kK [0,1] [] 0 0 (CF131_8 h8)::[])) []] .normal λ_ _ k j=>hn k j
theorem CF167_1 {v0 v1 v2 v3 v4 v5 v6 v7 v8 v9 v10 out} (hF:F167_1 v0 v1 v2 v3 v4 v5 v6 v7 v8 v9 v10=some out):ACall Tryz.prog 167 [.agg [iP v0,iP v1,iP v2,iP v3,iP v4,iP v5,iP v6],.agg (c147 v7),.bp 0 0] [.cells [.bp 1 0],.cells (c27 v8++[iP v9,oP 2 3 c159 v10]),.grow (List.length v10) 3] (λq h=>q=(bP out)/\h=[.cells [.bp 1 0],.cells (c27 v8++[iP v9,oP 2 3 c159 v10]),.grow (List.length v10) 3]):=by
 refine gC Tryz.func167 ?_
 obtain⟨v11,h12,hF⟩:=Xa hF
 refine gP 1 [re 3,.r (es 5 (kC (CF152 h12)::es 5 [])) (es 1 [])] [(2,.bp 0 0),(3,.bp 3 0),(4,.bp 4 0),(6,.bp 5 0),(7,bP v11.2)] [.cells [.bp 1 0],.cells (c27 v8++[iP v9,oP 2 3 c159 v10]),.grow (List.length v10) 3,.cells [iP v0,iP v1,iP v2,iP v3,iP v4,iP v5,iP v6],.cells (c147 v7),.cells [iP v11.1.fj,iP v11.1.far,iP v11.1.fA,iP v11.1.fy,iP v11.1.fw,iP v11.1.fU,iP v11.1.fas]] ?_
 refine gS ?_
 refine gM (λ(v13:Bool)=>([(2,.bp 0 0),(3,.bp 3 0),(6,.bp 5 0),(32,bP v13)],[.cells [.bp 1 0],.cells (c27 v8++[iP v9,oP 2 3 c159 v10]),.grow (List.length v10) 3,.cells [iP v0,iP v1,iP v2,iP v3,iP v4,iP v5,iP v6],.cells (c147 v7),.cells [iP v11.1.fj,iP v11.1.far,iP v11.1.fA,iP v11.1.fy,iP v11.1.fw,iP v11.1.fU,iP v11.1.fas]],Uq v8 v3 v11 v13)) out ?_ ?_
 ·rintro v13 hF
  rcases cor hF with⟨h15,hF⟩|⟨h15,hF⟩
  ·obtain rfl:=soj hF
   exact g_rh 3 [bb h15,re 1] .ret λ_ _ k j=>hr k j
  refine Xk [bb h15] .normal [(2,.bp 0 0),(3,.bp 3 0),(6,.bp 5 0)] [.cells [.bp 1 0],.cells (c27 v8++[iP v9,oP 2 3 c159 v10]),.grow (List.length v10) 3,.cells [iP v0,iP v1,iP v2,iP v3,iP v4,iP v5,iP v6],.cells (c147 v7),.cells [iP v11.1.fj,iP v11.1.far,iP v11.1.fA,iP v11.1.fy,iP v11.1.fw,iP v11.1.fU,iP v11.1.fas]] (λe hw=>?_)
  refine⟨_,_,hw,?_⟩
  obtain⟨v16,h17,v18,h19,hF⟩:=bs2 hF
  rcases cor hF with⟨h20,hF⟩|⟨h20,hF⟩
  ·obtain rfl:=soj hF
   exact g_rh 3 [.r (es 7 (kX 22 c75 h17::es 8 (kX 22 c75 h19::es 4 []))) (es 1 []),.r (es 4 (rp 3 (bq h20) (kPt (bP true) (.tup []) h20::es 1 (rp 4 bqT (es 2 (rp 5 bqT (es 2 (rp 2 bqT (es 2 (rp 4 bqT (es 2 []))))))))))) []] .ret λ_ _ k j=>hr k j
  rcases cor hF with⟨h21,hF⟩|⟨h21,hF⟩
  ·obtain rfl:=soj hF
   exact g_rh 3 [.r (es 7 (kX 22 c75 h17::es 8 (kX 22 c75 h19::es 4 []))) (es 1 []),.r (es 4 (rq 3 (bq h20) (kPf (bP true) (bP (v16.fan !=0)) h20::es 1 (rp 4 (bq h21) (kPt (bP true) (.tup []) h21::es 1 (rp 5 bqT (es 2 (rp 2 bqT (es 2 (rp 4 bqT (es 2 []))))))))))) []] .ret λ_ _ k j=>hr k j
  rcases cor hF with⟨h22,hF⟩|⟨h22,hF⟩
  ·obtain rfl:=soj hF
   exact g_rh 3 [.r (es 7 (kX 22 c75 h17::es 8 (kX 22 c75 h19::es 4 []))) (es 1 []),.r (es 4 (rq 3 (bq h20) (kPf (bP true) (bP (v16.fan !=0)) h20::es 1 (rq 4 (bq h21) (kPf (bP true) (bP ((iand .i64 v16.f6 12) !=0)) h21::es 1 (rp 5 (bq h22) (kPt (bP true) (.tup []) h22::es 1 (rp 2 bqT (es 2 (rp 4 bqT (es 2 []))))))))))) []] .ret λ_ _ k j=>hr k j
  rcases cor hF with⟨h23,hF⟩|⟨h23,hF⟩
  ·obtain rfl:=soj hF
   exact g_rh 3 [.r (es 7 (kX 22 c75 h17::es 8 (kX 22 c75 h19::es 4 []))) (es 1 []),.r (es 4 (rq 3 (bq h20) (kPf (bP true) (bP (v16.fan !=0)) h20::es 1 (rq 4 (bq h21) (kPf (bP true) (bP ((iand .i64 v16.f6 12) !=0)) h21::es 1 (rq 5 (bq h22) (kPf (bP true) (bP (v16.fp !=v18.fp)) h22::es 1 (rp 2 (bq h23) (kPt (bP true) (.tup []) h23::es 1 (rp 4 bqT (es 2 []))))))))))) []] .ret λ_ _ k j=>hr k j
  rcases cor hF with⟨h24,hF⟩|⟨h24,hF⟩
  ·obtain rfl:=soj hF
   exact g_rh 3 [.r (es 7 (kX 22 c75 h17::es 8 (kX 22 c75 h19::es 4 []))) (es 1 []),.r (es 4 (rq 3 (bq h20) (kPf (bP true) (bP (v16.fan !=0)) h20::es 1 (rq 4 (bq h21) (kPf (bP true) (bP ((iand .i64 v16.f6 12) !=0)) h21::es 1 (rq 5 (bq h22) (kPf (bP true) (bP (v16.fp !=v18.fp)) h22::es 1 (rq 2 (bq h23) (kPf (bP true) (bP v18.faz) h23::es 1 (rp 4 (bq h24) (kPt (bP true) (.tup []) h24::es 1 []))))))))))) []] .ret λ_ _ k j=>hr k j
  obtain rfl:=soj hF
  exact g_rh 3 [.r (es 7 (kX 22 c75 h17::es 8 (kX 22 c75 h19::es 4 []))) (es 1 []),.r (es 4 (rq 3 (bq h20) (kPf (bP true) (bP (v16.fan !=0)) h20::es 1 (rq 4 (bq h21) (kPf (bP true) (bP ((iand .i64 v16.f6 12) !=0)) h21::es 1 (rq 5 (bq h22) (kPf (bP true) (bP (v16.fp !=v18.fp)) h22::es 1 (rq 2 (bq h23) (kPf (bP true) (bP v18.faz) h23::es 1 (rq 4 (bq h24) (kPf (bP true) (bP ((iand .i64 v18.f6 3) !=0)) h24::es 1 []))))))))))) []] .ret λ_ _ k j=>hr k j
 rcases cor hF with⟨h25,hF⟩|⟨h25,hF⟩
 ·exact g_to [.r (es 3 (rp 3 (bq h25) (kPt (bP true) (.tup []) h25::es 1 (rp 5 bqT (es 1 []))))) []] .normal λ_ hw=>⟨_,_,hw,true,hF,rfl,rfl⟩
 obtain⟨v26,h27,hF⟩:=Xa hF
 rcases cor hF with⟨h28,hF⟩|⟨h28,hF⟩
 ·exact g_to [.r (es 3 (bq h25::es 1 (bq h25::kC (CF151 h27)::bq h25::es 1 (kPf (bP true) (bP (!v26)) h25::es 1 (rp 5 (bq h28) (kPt (bP true) (.tup []) h28::[])))))) []] .normal λ_ hw=>⟨_,_,hw,true,hF,rfl,rfl⟩
 exact g_to [.r (es 3 (bq h25::es 1 (bq h25::kC (CF151 h27)::bq h25::es 1 (kPf (bP true) (bP (!v26)) h25::es 1 (rq 5 (bq h28) (kPf (bP true) (bP (v11.1.fy==v3)) h28::[])))))) []] .normal λ_ hw=>⟨_,_,hw,v11.1.fy==v3,hF,rfl,rfl⟩
theorem CF140_5 {v0 v1 v2 out} (hF:F140_5 v0 v1 v2=some out):ACall Tryz.prog 140 [.bp 0 0,(.fn (.func 167) [] [.bp 2 0])] (hC v0 v1 v2++[.cells [.bp 0 0]]) (λq h=>q=(.tup [])/\h=(hC v0 v1 out++[.cells [.bp 0 0]])):=by
 refine gC Tryz.func140 ?_
 refine gP 0 [.r (es 5 (kL 22 c75 v0.fc::es 1 [])) []] [(0,.bp 0 0),(1,(.fn (.func 167) [] [.bp 2 0])),(16,eS 22 c75 v0.fc),(17,iP (ln v0.fc)),(18,iP 0)] (hC v0 v1 v2++[.cells [.bp 0 0]]) ?_
 refine gB 0 ?_
 obtain⟨o7,ho7,hF⟩:=Xa hF
 refine gL ho7 (λ(v4,v5)=>([(0,.bp 0 0),(1,(.fn (.func 167) [] [.bp 2 0])),(16,eS 22 c75 v0.fc),(17,iP (ln v0.fc)),(18,iP v4)],hC v0 v1 v5++[.cells [.bp 0 0]])) wm ?_
 rintro⟨v4,v5⟩ o8 h9 h10
 rcases cor h9 with⟨h12,h9⟩|⟨h12,h9⟩
 ·refine gP 1 [re 1,bb h12] [(0,.bp 0 0),(1,(.fn (.func 167) [] [.bp 2 0])),(16,eS 22 c75 v0.fc),(17,iP (ln v0.fc)),(18,iP v4)] (hC v0 v1 v5++[.cells [.bp 0 0]]) ?_
  refine gM (λ(v13:List G159)=>([(0,.bp 0 0),(1,(.fn (.func 167) [] [.bp 2 0])),(16,eS 22 c75 v0.fc),(17,iP (ln v0.fc)),(18,iP v4)],hC v0 v1 v13++[.cells [.bp 0 0]],Ut v4 v13)) o8 ?_ ?_
  ·rintro v13 h9
   cases h9
   exact g_to [re 2] .normal λ_ hw=>⟨rfl,hw⟩
  refine gB 1 ?_
  obtain⟨v15,h16,h9⟩:=Xa h9
  refine gP 1 [.r (es 1 (kX 22 c75 h16::es 4 [])) [],.r (es 2 (kL 2 c95 v15.fe::es 1 [])) []] [(0,.bp 0 0),(1,(.fn (.func 167) [] [.bp 2 0])),(4,iP v4),(16,eS 22 c75 v0.fc),(17,iP (ln v0.fc)),(18,iP v4),(24,eS 2 c95 v15.fe),(25,iP (ln v15.fe)),(26,iP 0)] (hC v0 v1 v5++[.cells [.bp 0 0],.cells (c75 v15)]) ?_
  refine gB 2 ?_
  obtain⟨o20,ho20,h9⟩:=Xa h9
  refine gL ho20 (λ(v17,v18)=>([(0,.bp 0 0),(1,(.fn (.func 167) [] [.bp 2 0])),(4,iP v4),(16,eS 22 c75 v0.fc),(17,iP (ln v0.fc)),(18,iP v4),(24,eS 2 c95 v15.fe),(25,iP (ln v15.fe)),(26,iP v17)],hC v0 v1 v18++[.cells [.bp 0 0],.cells (c75 v15)])) wm ?_
  rintro⟨v17,v18⟩ o21 h22 h23
  rcases cor h22 with⟨h25,h22⟩|⟨h25,h22⟩
  ·refine gP 1 [re 1,bb h25] [(0,.bp 0 0),(1,(.fn (.func 167) [] [.bp 2 0])),(4,iP v4),(16,eS 22 c75 v0.fc),(17,iP (ln v0.fc)),(18,iP v4),(24,eS 2 c95 v15.fe),(25,iP (ln v15.fe)),(26,iP v17)] (hC v0 v1 v18++[.cells [.bp 0 0],.cells (c75 v15)]) ?_
   refine gM (λ(v26:List G159)=>([(0,.bp 0 0),(1,(.fn (.func 167) [] [.bp 2 0])),(4,iP v4),(16,eS 22 c75 v0.fc),(17,iP (ln v0.fc)),(18,iP v4),(24,eS 2 c95 v15.fe),(25,iP (ln v15.fe)),(26,iP v17)],hC v0 v1 v26++[.cells [.bp 0 0],.cells (c75 v15)],Us v17 v26)) o21 ?_ ?_
   ·rintro v26 h22
    cases h22
    exact g_to [re 2] .normal λ_ hw=>⟨rfl,hw⟩
   refine gB 3 ?_
   obtain⟨v28,h29,h22⟩:=Xa h22
   refine gP 1 [.r (es 1 (kX 2 c95 h29::es 4 [])) [],.r (es 2 (kL 2 c100 v28.ff::es 1 [])) []] [(0,.bp 0 0),(1,(.fn (.func 167) [] [.bp 2 0])),(4,iP v4),(6,iP v17),(16,eS 22 c75 v0.fc),(17,iP (ln v0.fc)),(18,iP v4),(24,eS 2 c95 v15.fe),(25,iP (ln v15.fe)),(26,iP v17),(32,eS 2 c100 v28.ff),(33,iP (ln v28.ff)),(34,iP 0)] (hC v0 v1 v18++[.cells [.bp 0 0],.cells (c75 v15),.cells (c95 v28)]) ?_
   refine gB 4 ?_
   obtain⟨o33,ho33,h22⟩:=Xa h22
   refine gL ho33 (λ(v30,v31)=>([(0,.bp 0 0),(1,(.fn (.func 167) [] [.bp 2 0])),(4,iP v4),(6,iP v17),(16,eS 22 c75 v0.fc),(17,iP (ln v0.fc)),(18,iP v4),(24,eS 2 c95 v15.fe),(25,iP (ln v15.fe)),(26,iP v17),(32,eS 2 c100 v28.ff),(33,iP (ln v28.ff)),(34,iP v30)],hC v0 v1 v31++[.cells [.bp 0 0],.cells (c75 v15),.cells (c95 v28)])) wm ?_
   rintro⟨v30,v31⟩ o34 h35 h36
   rcases cor h35 with⟨h38,h35⟩|⟨h38,h35⟩
   ·refine gP 1 [re 1,bb h38] [(0,.bp 0 0),(1,(.fn (.func 167) [] [.bp 2 0])),(4,iP v4),(6,iP v17),(16,eS 22 c75 v0.fc),(17,iP (ln v0.fc)),(18,iP v4),(24,eS 2 c95 v15.fe),(25,iP (ln v15.fe)),(26,iP v17),(32,eS 2 c100 v28.ff),(33,iP (ln v28.ff)),(34,iP v30)] (hC v0 v1 v31++[.cells [.bp 0 0],.cells (c75 v15),.cells (c95 v28)]) ?_
    refine gM (λ(v39:List G159)=>([(0,.bp 0 0),(1,(.fn (.func 167) [] [.bp 2 0])),(4,iP v4),(6,iP v17),(16,eS 22 c75 v0.fc),(17,iP (ln v0.fc)),(18,iP v4),(24,eS 2 c95 v15.fe),(25,iP (ln v15.fe)),(26,iP v17),(32,eS 2 c100 v28.ff),(33,iP (ln v28.ff)),(34,iP v30)],hC v0 v1 v39++[.cells [.bp 0 0],.cells (c75 v15),.cells (c95 v28)],Ur v30 v39)) o34 ?_ ?_
    ·rintro v39 h35
     cases h35
     exact g_to [re 2] .normal λ_ hw=>⟨rfl,hw⟩
    refine gB 5 ?_
    obtain⟨v41,h42,h35⟩:=Xa h35
    refine gP 1 [.r (es 1 (kX 2 c100 h42::es 4 [])) [],.r (es 2 (kL 13 c147 v41.fg::es 1 [])) []] [(0,.bp 0 0),(1,(.fn (.func 167) [] [.bp 2 0])),(4,iP v4),(6,iP v17),(8,iP v30),(16,eS 22 c75 v0.fc),(17,iP (ln v0.fc)),(18,iP v4),(24,eS 2 c95 v15.fe),(25,iP (ln v15.fe)),(26,iP v17),(32,eS 2 c100 v28.ff),(33,iP (ln v28.ff)),(34,iP v30),(40,eS 13 c147 v41.fg),(41,iP (ln v41.fg)),(42,iP 0)] (hC v0 v1 v31++[.cells [.bp 0 0],.cells (c75 v15),.cells (c95 v28),.cells (c100 v41)]) ?_
    refine gB 6 ?_
    obtain⟨o46,ho46,h35⟩:=Xa h35
    refine gL ho46 (λ(v43,v44)=>([(0,.bp 0 0),(1,(.fn (.func 167) [] [.bp 2 0])),(4,iP v4),(6,iP v17),(8,iP v30),(16,eS 22 c75 v0.fc),(17,iP (ln v0.fc)),(18,iP v4),(24,eS 2 c95 v15.fe),(25,iP (ln v15.fe)),(26,iP v17),(32,eS 2 c100 v28.ff),(33,iP (ln v28.ff)),(34,iP v30),(40,eS 13 c147 v41.fg),(41,iP (ln v41.fg)),(42,iP v43)],hC v0 v1 v44++[.cells [.bp 0 0],.cells (c75 v15),.cells (c95 v28),.cells (c100 v41)])) wm ?_
    rintro⟨v43,v44⟩ o47 h48 h49
    rcases cor h48 with⟨h51,h48⟩|⟨h51,h48⟩
    ·obtain⟨v52,h53,v65,h66,v72,h73,h48⟩:=bs3 h48
     cases h48
     exact g_tc 6 [re 1,bb h51,.r (es 1 (kX 13 c147 h53::es 4 [])) [],.r (es 8 (kQ [2,0,1] [] 0 1 (CF167_1 h66)::es 2 [])) (kK [0,1] [] 0 0 (Yb h73)::[]),re 2] .normal λ_ _ hw=>⟨rfl,hw⟩
    cases h48
    obtain rfl:=h49 _ rfl
    exact g_tc 5 [re 1,bb h51] (.exit 6) λ_ _ hw=>Xi (⟨_,_,hw,v44,h35,rfl,rfl⟩)
   cases h35
   obtain rfl:=h36 _ rfl
   exact g_tc 4 [re 1,bb h38] (.exit 4) λ_ _ hw=>Xi (⟨_,_,hw,v31,h22,rfl,rfl⟩)
  cases h22
  obtain rfl:=h23 _ rfl
  exact g_tc 3 [re 1,bb h25] (.exit 2) λ_ _ hw=>Xi (⟨_,_,hw,v18,h9,rfl,rfl⟩)
 cases h9
 obtain rfl:=h10 _ rfl
 obtain rfl:=soj hF
 exact g_rh 3 [re 1,bb h12] (.exit 0) λ_ _ k j=>Xi (hn k j)
theorem CF76_1 {v0 v1 v2 out} (hF:Zw v0 v1 v2=some out):ACall Tryz.prog 76 [.bp 0 0] (hC v0 v1 v2) (λq h=>q=(.tup [])/\h=(hC v0 v1 out)):=by
 refine gC Tryz.func76 ?_
 obtain⟨v7,h8,hF⟩:=Xa hF
 obtain rfl:=soj hF
 exact g_rh 2 [re 1,.r (es 2 (kK [0,1,2] [] 0 0 (CF140_5 h8)::[])) []] .normal λ_ _ k j=>hn k j
abbrev ql_0:PV:=(.sl false .full 1 [[(.fn (.func 60) [.bp 1 0] [])],[(.fn (.func 61) [.bp 1 0] [])],[(.fn (.func 62) [.bp 1 0] [])],[(.fn (.func 63) [.bp 1 0] [])],[(.fn (.func 64) [.bp 1 0] [])],[(.fn (.func 65) [.bp 1 0] [])],[(.fn (.func 66) [.bp 1 0] [])],[(.fn (.func 67) [.bp 1 0] [])],[(.fn (.func 68) [.bp 1 0] [])],[(.fn (.func 69) [.bp 1 0] [])],[(.fn (.func 70) [.bp 1 0] [])],[(.fn (.func 71) [.bp 1 0] [])],[(.fn (.func 72) [.bp 1 0] [])],[(.fn (.func 73) [.bp 1 0] [])],[(.fn (.func 74) [.bp 1 0] [])],[(.fn (.func 75) [.bp 1 0] [])],[(.fn (.func 76) [.bp 1 0] [])]])
theorem CF29 {v0 out} (hF:F29 v0=some out):A0 29 [.agg (c27 v0)] (eS 3 c159 out):=by
 refine gC Tryz.func29 ?_
 refine gPW 1 [re 2,re 4] [(3,.bp 1 0)] [.cells (c27 v0),.cells (c27 v0++[iP 0,eS 3 c159 Sl.nil])] [(3,.bp 1 0)] [.cells (c27 v0),.cells (c27 v0++[iP 0,oP 2 3 c159 ([]:List G159)]),.grow (List.length ([]:List G159)) 3] ((WeakS.refl _ _ _).trans ((weak_grow 3).trans (weak_blk (cs':=[sP v0.fav,bP v0.faA,eS 6 c68 v0.fh,eS 22 c75 v0.fc,eS 7 c213 v0.fi,eS 2 c58 v0.fF,iP 0,oP 2 3 c159 ([]:List G159)]) 1 rfl (qc (PSub.refl _) (qc (PSub.refl _) (qc (PSub.refl _) (qc (PSub.refl _) (qc (PSub.refl _) (qc (PSub.refl _) (qc (PSub.refl _) (qc psub_nil0 qe))))))))))) ?_
 refine gP 0 [re 36] [(3,.bp 1 0),(4,ql_0)] [.cells (c27 v0),.cells (c27 v0++[iP 0,oP 2 3 c159 ([]:List G159)]),.grow (List.length ([]:List G159)) 3] ?_
 refine gM (λ(x:Int×(List G159))=>match x with|(v1,v2)=>([(3,.bp 1 0)],[.cells (c27 v0),.cells (c27 v0++[iP v1,oP 2 3 c159 v2]),.grow (List.length v2) 3],Zy v1 v2)) out ?_ ?_
 ·rintro⟨v1,v2⟩ hF
  refine Xk [re 5] .ret [(2,oP 2 3 c159 v2)] [.cells (c27 v0),.cells (c27 v0++[iP v1,oP 2 3 c159 v2]),.grow (List.length v2) 3] (λe hw=>?_)
  obtain rfl:=soj hF
  exact Yw (r:=(oP 2 3 c159 v2)) (.inr rfl) hw (by kernel_rfl) (Vl cl159) ⟨rfl,rfl⟩
 refine gP 0 [re 3] [(3,.bp 1 0),(45,ql_0),(46,iP 17),(47,iP 0)] [.cells (c27 v0),.cells (c27 v0++[iP 0,oP 2 3 c159 ([]:List G159)]),.grow (List.length ([]:List G159)) 3] ?_
 refine gB 0 ?_
 refine gU 18 (Uc (le':=[(3,.bp 1 0),(45,ql_0),(46,iP 17),(47,iP 0)]) (by kernel_rfl)) ?_
 refine Yt ?_
 refine gP 1 [re 1,bT] [(3,.bp 1 0),(45,ql_0),(46,iP 17),(47,iP 0)] [.cells (c27 v0),.cells (c27 v0++[iP 0,oP 2 3 c159 ([]:List G159)]),.grow (List.length ([]:List G159)) 3] ?_
 refine gS ?_
 refine gB 1 ?_
 refine gP 1 [re 5,re 6] [(3,.bp 1 0),(6,(.fn (.func 60) [.bp 1 0] [])),(45,ql_0),(46,iP 17),(47,iP 0)] [.cells (c27 v0),.cells (c27 v0++[iP 1,oP 2 3 c159 ([]:List G159)]),.grow (List.length ([]:List G159)) 3] ?_
 refine gS ?_
 refine gM (λ(_:Unit)=>([(3,.bp 1 0),(6,(.fn (.func 60) [.bp 1 0] [])),(45,ql_0),(46,iP 17),(47,iP 0),(86,bP false)],[.cells (c27 v0),.cells (c27 v0++[iP 1,oP 2 3 c159 ([]:List G159)]),.grow (List.length ([]:List G159)) 3],JF29_4 v0)) out ?_ ?_
 ·rintro⟨⟩ hF
  refine Xk [bF] .normal [(3,.bp 1 0),(6,(.fn (.func 60) [.bp 1 0] [])),(45,ql_0),(46,iP 17),(47,iP 0)] [.cells (c27 v0),.cells (c27 v0++[iP 1,oP 2 3 c159 ([]:List G159)]),.grow (List.length ([]:List G159)) 3] (λe hw=>?_)
  refine⟨_,_,hw,?_⟩
  obtain⟨v8,h9,hF⟩:=Xa hF
  refine Xk [.r (es 1 (kK [1,2] [] 1 0 (CF60_1 h9)::[])) []] .normal [(3,.bp 1 0),(45,ql_0),(46,iP 17),(47,iP 0)] [.cells (c27 v0),.cells (c27 v0++[iP 1,oP 2 3 c159 v8]),.grow (List.length v8) 3] (λe hw=>?_)
  refine⟨_,_,hw,?_⟩
  refine Xk [re 2] .normal [(3,.bp 1 0),(45,ql_0),(46,iP 17),(47,iP 1)] [.cells (c27 v0),.cells (c27 v0++[iP 1,oP 2 3 c159 v8]),.grow (List.length v8) 3] (λe hw=>?_)
  refine⟨_,_,hw,?_⟩
  refine Yt ?_
  refine gP 1 [re 1,bT] [(3,.bp 1 0),(45,ql_0),(46,iP 17),(47,iP 1)] [.cells (c27 v0),.cells (c27 v0++[iP 1,oP 2 3 c159 v8]),.grow (List.length v8) 3] ?_
  refine gS ?_
  refine gB 1 ?_
  refine gP 1 [re 5,re 6] [(3,.bp 1 0),(6,(.fn (.func 61) [.bp 1 0] [])),(45,ql_0),(46,iP 17),(47,iP 1)] [.cells (c27 v0),.cells (c27 v0++[iP 2,oP 2 3 c159 v8]),.grow (List.length v8) 3] ?_
  refine gS ?_
  refine gM (λ(v10:Bool)=>([(3,.bp 1 0),(6,(.fn (.func 61) [.bp 1 0] [])),(45,ql_0),(46,iP 17),(47,iP 1),(86,bP v10)],[.cells (c27 v0),.cells (c27 v0++[iP 2,oP 2 3 c159 v8]),.grow (List.length v8) 3],JF29_11 v8 v0 v10)) out ?_ ?_
  ·rintro v10 hF
   rcases cor hF with⟨h12,hF⟩|⟨h12,hF⟩
   ·exact g_to [bb h12] (.exit 0) λ_ hw=>q_miss rfl (Xi (⟨_,_,hw,(2,v8),hF,rfl,rfl⟩))
   refine Xk [bb h12] .normal [(3,.bp 1 0),(6,(.fn (.func 61) [.bp 1 0] [])),(45,ql_0),(46,iP 17),(47,iP 1)] [.cells (c27 v0),.cells (c27 v0++[iP 2,oP 2 3 c159 v8]),.grow (List.length v8) 3] (λe hw=>?_)
   refine⟨_,_,hw,?_⟩
   obtain⟨v16,h17,hF⟩:=Xa hF
   refine Xk [.r (es 1 (kK [1,2] [] 1 0 (CF61_1 h17)::[])) []] .normal [(3,.bp 1 0),(45,ql_0),(46,iP 17),(47,iP 1)] [.cells (c27 v0),.cells (c27 v0++[iP 2,oP 2 3 c159 v16]),.grow (List.length v16) 3] (λe hw=>?_)
   refine⟨_,_,hw,?_⟩
   refine Xk [re 2] .normal [(3,.bp 1 0),(45,ql_0),(46,iP 17),(47,iP 2)] [.cells (c27 v0),.cells (c27 v0++[iP 2,oP 2 3 c159 v16]),.grow (List.length v16) 3] (λe hw=>?_)
   refine⟨_,_,hw,?_⟩
   refine Yt ?_
   refine gP 1 [re 1,bT] [(3,.bp 1 0),(45,ql_0),(46,iP 17),(47,iP 2)] [.cells (c27 v0),.cells (c27 v0++[iP 2,oP 2 3 c159 v16]),.grow (List.length v16) 3] ?_
   refine gS ?_
   refine gB 1 ?_
   refine gP 1 [re 5,re 6] [(3,.bp 1 0),(6,(.fn (.func 62) [.bp 1 0] [])),(45,ql_0),(46,iP 17),(47,iP 2)] [.cells (c27 v0),.cells (c27 v0++[iP 3,oP 2 3 c159 v16]),.grow (List.length v16) 3] ?_
   refine gS ?_
   refine gM (λ(_:Unit)=>([(3,.bp 1 0),(6,(.fn (.func 62) [.bp 1 0] [])),(45,ql_0),(46,iP 17),(47,iP 2),(86,bP false)],[.cells (c27 v0),.cells (c27 v0++[iP 3,oP 2 3 c159 v16]),.grow (List.length v16) 3],JF29_18 v0 v16)) out ?_ ?_
   ·rintro⟨⟩ hF
    refine Xk [bF] .normal [(3,.bp 1 0),(6,(.fn (.func 62) [.bp 1 0] [])),(45,ql_0),(46,iP 17),(47,iP 2)] [.cells (c27 v0),.cells (c27 v0++[iP 3,oP 2 3 c159 v16]),.grow (List.length v16) 3] (λe hw=>?_)
    refine⟨_,_,hw,?_⟩
    obtain⟨v22,h23,hF⟩:=Xa hF
    refine Xk [.r (es 1 (kK [1,2] [] 1 0 (CF62_1 h23)::[])) []] .normal [(3,.bp 1 0),(45,ql_0),(46,iP 17),(47,iP 2)] [.cells (c27 v0),.cells (c27 v0++[iP 3,oP 2 3 c159 v22]),.grow (List.length v22) 3] (λe hw=>?_)
    refine⟨_,_,hw,?_⟩
    refine Xk [re 2] .normal [(3,.bp 1 0),(45,ql_0),(46,iP 17),(47,iP 3)] [.cells (c27 v0),.cells (c27 v0++[iP 3,oP 2 3 c159 v22]),.grow (List.length v22) 3] (λe hw=>?_)
    refine⟨_,_,hw,?_⟩
    refine Yt ?_
    refine gP 1 [re 1,bT] [(3,.bp 1 0),(45,ql_0),(46,iP 17),(47,iP 3)] [.cells (c27 v0),.cells (c27 v0++[iP 3,oP 2 3 c159 v22]),.grow (List.length v22) 3] ?_
    refine gS ?_
    refine gB 1 ?_
    refine gP 1 [re 5,re 6] [(3,.bp 1 0),(6,(.fn (.func 63) [.bp 1 0] [])),(45,ql_0),(46,iP 17),(47,iP 3)] [.cells (c27 v0),.cells (c27 v0++[iP 4,oP 2 3 c159 v22]),.grow (List.length v22) 3] ?_
    refine gS ?_
    refine gM (λ(_:Unit)=>([(3,.bp 1 0),(6,(.fn (.func 63) [.bp 1 0] [])),(45,ql_0),(46,iP 17),(47,iP 3),(86,bP false)],[.cells (c27 v0),.cells (c27 v0++[iP 4,oP 2 3 c159 v22]),.grow (List.length v22) 3],JF29_24 v0 v22)) out ?_ ?_
    ·rintro⟨⟩ hF
     refine Xk [bF] .normal [(3,.bp 1 0),(6,(.fn (.func 63) [.bp 1 0] [])),(45,ql_0),(46,iP 17),(47,iP 3)] [.cells (c27 v0),.cells (c27 v0++[iP 4,oP 2 3 c159 v22]),.grow (List.length v22) 3] (λe hw=>?_)
     refine⟨_,_,hw,?_⟩
     obtain⟨v28,h29,hF⟩:=Xa hF
     refine Xk [.r (es 1 (kK [1,2] [] 1 0 (CF63_1 h29)::[])) []] .normal [(3,.bp 1 0),(45,ql_0),(46,iP 17),(47,iP 3)] [.cells (c27 v0),.cells (c27 v0++[iP 4,oP 2 3 c159 v28]),.grow (List.length v28) 3] (λe hw=>?_)
     refine⟨_,_,hw,?_⟩
     refine Xk [re 2] .normal [(3,.bp 1 0),(45,ql_0),(46,iP 17),(47,iP 4)] [.cells (c27 v0),.cells (c27 v0++[iP 4,oP 2 3 c159 v28]),.grow (List.length v28) 3] (λe hw=>?_)
     refine⟨_,_,hw,?_⟩
     refine Yt ?_
     refine gP 1 [re 1,bT] [(3,.bp 1 0),(45,ql_0),(46,iP 17),(47,iP 4)] [.cells (c27 v0),.cells (c27 v0++[iP 4,oP 2 3 c159 v28]),.grow (List.length v28) 3] ?_
     refine gS ?_
     refine gB 1 ?_
     refine gP 1 [re 5,re 6] [(3,.bp 1 0),(6,(.fn (.func 64) [.bp 1 0] [])),(45,ql_0),(46,iP 17),(47,iP 4)] [.cells (c27 v0),.cells (c27 v0++[iP 5,oP 2 3 c159 v28]),.grow (List.length v28) 3] ?_
     refine gS ?_
     refine gM (λ(_:Unit)=>([(3,.bp 1 0),(6,(.fn (.func 64) [.bp 1 0] [])),(45,ql_0),(46,iP 17),(47,iP 4),(86,bP false)],[.cells (c27 v0),.cells (c27 v0++[iP 5,oP 2 3 c159 v28]),.grow (List.length v28) 3],JF29_30 v0 v28)) out ?_ ?_
     ·rintro⟨⟩ hF
      refine Xk [bF] .normal [(3,.bp 1 0),(6,(.fn (.func 64) [.bp 1 0] [])),(45,ql_0),(46,iP 17),(47,iP 4)] [.cells (c27 v0),.cells (c27 v0++[iP 5,oP 2 3 c159 v28]),.grow (List.length v28) 3] (λe hw=>?_)
      refine⟨_,_,hw,?_⟩
      obtain⟨v34,h35,hF⟩:=Xa hF
      refine Xk [.r (es 1 (kK [1,2] [] 1 0 (CF64_1 h35)::[])) []] .normal [(3,.bp 1 0),(45,ql_0),(46,iP 17),(47,iP 4)] [.cells (c27 v0),.cells (c27 v0++[iP 5,oP 2 3 c159 v34]),.grow (List.length v34) 3] (λe hw=>?_)
      refine⟨_,_,hw,?_⟩
      refine Xk [re 2] .normal [(3,.bp 1 0),(45,ql_0),(46,iP 17),(47,iP 5)] [.cells (c27 v0),.cells (c27 v0++[iP 5,oP 2 3 c159 v34]),.grow (List.length v34) 3] (λe hw=>?_)
      refine⟨_,_,hw,?_⟩
      refine Yt ?_
      refine gP 1 [re 1,bT] [(3,.bp 1 0),(45,ql_0),(46,iP 17),(47,iP 5)] [.cells (c27 v0),.cells (c27 v0++[iP 5,oP 2 3 c159 v34]),.grow (List.length v34) 3] ?_
      refine gS ?_
      refine gB 1 ?_
      refine gP 1 [re 5,re 6] [(3,.bp 1 0),(6,(.fn (.func 65) [.bp 1 0] [])),(45,ql_0),(46,iP 17),(47,iP 5)] [.cells (c27 v0),.cells (c27 v0++[iP 6,oP 2 3 c159 v34]),.grow (List.length v34) 3] ?_
      refine gS ?_
      refine gM (λ(_:Unit)=>([(3,.bp 1 0),(6,(.fn (.func 65) [.bp 1 0] [])),(45,ql_0),(46,iP 17),(47,iP 5),(86,bP false)],[.cells (c27 v0),.cells (c27 v0++[iP 6,oP 2 3 c159 v34]),.grow (List.length v34) 3],JF29_36 v0 v34)) out ?_ ?_
      ·rintro⟨⟩ hF
       refine Xk [bF] .normal [(3,.bp 1 0),(6,(.fn (.func 65) [.bp 1 0] [])),(45,ql_0),(46,iP 17),(47,iP 5)] [.cells (c27 v0),.cells (c27 v0++[iP 6,oP 2 3 c159 v34]),.grow (List.length v34) 3] (λe hw=>?_)
       refine⟨_,_,hw,?_⟩
       obtain⟨v40,h41,hF⟩:=Xa hF
       refine Xk [.r (es 1 (kK [1,2] [] 1 0 (CF65_1 h41)::[])) []] .normal [(3,.bp 1 0),(45,ql_0),(46,iP 17),(47,iP 5)] [.cells (c27 v0),.cells (c27 v0++[iP 6,oP 2 3 c159 v40]),.grow (List.length v40) 3] (λe hw=>?_)
       refine⟨_,_,hw,?_⟩
       refine Xk [re 2] .normal [(3,.bp 1 0),(45,ql_0),(46,iP 17),(47,iP 6)] [.cells (c27 v0),.cells (c27 v0++[iP 6,oP 2 3 c159 v40]),.grow (List.length v40) 3] (λe hw=>?_)
       refine⟨_,_,hw,?_⟩
       refine Yt ?_
       refine gP 1 [re 1,bT] [(3,.bp 1 0),(45,ql_0),(46,iP 17),(47,iP 6)] [.cells (c27 v0),.cells (c27 v0++[iP 6,oP 2 3 c159 v40]),.grow (List.length v40) 3] ?_
       refine gS ?_
       refine gB 1 ?_
       refine gP 1 [re 5,re 6] [(3,.bp 1 0),(6,(.fn (.func 66) [.bp 1 0] [])),(45,ql_0),(46,iP 17),(47,iP 6)] [.cells (c27 v0),.cells (c27 v0++[iP 7,oP 2 3 c159 v40]),.grow (List.length v40) 3] ?_
       refine gS ?_
       refine gM (λ(_:Unit)=>([(3,.bp 1 0),(6,(.fn (.func 66) [.bp 1 0] [])),(45,ql_0),(46,iP 17),(47,iP 6),(86,bP false)],[.cells (c27 v0),.cells (c27 v0++[iP 7,oP 2 3 c159 v40]),.grow (List.length v40) 3],JF29_42 v0 v40)) out ?_ ?_
       ·rintro⟨⟩ hF
        refine Xk [bF] .normal [(3,.bp 1 0),(6,(.fn (.func 66) [.bp 1 0] [])),(45,ql_0),(46,iP 17),(47,iP 6)] [.cells (c27 v0),.cells (c27 v0++[iP 7,oP 2 3 c159 v40]),.grow (List.length v40) 3] (λe hw=>?_)
        refine⟨_,_,hw,?_⟩
        obtain⟨v46,h47,hF⟩:=Xa hF
        refine Xk [.r (es 1 (kK [1,2] [] 1 0 (CF66_1 h47)::[])) []] .normal [(3,.bp 1 0),(45,ql_0),(46,iP 17),(47,iP 6)] [.cells (c27 v0),.cells (c27 v0++[iP 7,oP 2 3 c159 v46]),.grow (List.length v46) 3] (λe hw=>?_)
        refine⟨_,_,hw,?_⟩
        refine Xk [re 2] .normal [(3,.bp 1 0),(45,ql_0),(46,iP 17),(47,iP 7)] [.cells (c27 v0),.cells (c27 v0++[iP 7,oP 2 3 c159 v46]),.grow (List.length v46) 3] (λe hw=>?_)
        refine⟨_,_,hw,?_⟩
        refine Yt ?_
        refine gP 1 [re 1,bT] [(3,.bp 1 0),(45,ql_0),(46,iP 17),(47,iP 7)] [.cells (c27 v0),.cells (c27 v0++[iP 7,oP 2 3 c159 v46]),.grow (List.length v46) 3] ?_
        refine gS ?_
        refine gB 1 ?_
        refine gP 1 [re 5,re 6] [(3,.bp 1 0),(6,(.fn (.func 67) [.bp 1 0] [])),(45,ql_0),(46,iP 17),(47,iP 7)] [.cells (c27 v0),.cells (c27 v0++[iP 8,oP 2 3 c159 v46]),.grow (List.length v46) 3] ?_
        refine gS ?_
        refine gM (λ(_:Unit)=>([(3,.bp 1 0),(6,(.fn (.func 67) [.bp 1 0] [])),(45,ql_0),(46,iP 17),(47,iP 7),(86,bP false)],[.cells (c27 v0),.cells (c27 v0++[iP 8,oP 2 3 c159 v46]),.grow (List.length v46) 3],JF29_48 v0 v46)) out ?_ ?_
        ·rintro⟨⟩ hF
         refine Xk [bF] .normal [(3,.bp 1 0),(6,(.fn (.func 67) [.bp 1 0] [])),(45,ql_0),(46,iP 17),(47,iP 7)] [.cells (c27 v0),.cells (c27 v0++[iP 8,oP 2 3 c159 v46]),.grow (List.length v46) 3] (λe hw=>?_)
         refine⟨_,_,hw,?_⟩
         obtain⟨v52,h53,hF⟩:=Xa hF
         refine Xk [.r (es 1 (kK [1,2] [] 1 0 (CF67_1 h53)::[])) []] .normal [(3,.bp 1 0),(45,ql_0),(46,iP 17),(47,iP 7)] [.cells (c27 v0),.cells (c27 v0++[iP 8,oP 2 3 c159 v52]),.grow (List.length v52) 3] (λe hw=>?_)
         refine⟨_,_,hw,?_⟩
         refine Xk [re 2] .normal [(3,.bp 1 0),(45,ql_0),(46,iP 17),(47,iP 8)] [.cells (c27 v0),.cells (c27 v0++[iP 8,oP 2 3 c159 v52]),.grow (List.length v52) 3] (λe hw=>?_)
         refine⟨_,_,hw,?_⟩
         refine Yt ?_
         refine gP 1 [re 1,bT] [(3,.bp 1 0),(45,ql_0),(46,iP 17),(47,iP 8)] [.cells (c27 v0),.cells (c27 v0++[iP 8,oP 2 3 c159 v52]),.grow (List.length v52) 3] ?_
         refine gS ?_
         refine gB 1 ?_
         refine gP 1 [re 5,re 6] [(3,.bp 1 0),(6,(.fn (.func 68) [.bp 1 0] [])),(45,ql_0),(46,iP 17),(47,iP 8)] [.cells (c27 v0),.cells (c27 v0++[iP 9,oP 2 3 c159 v52]),.grow (List.length v52) 3] ?_
         refine gS ?_
         refine gM (λ(_:Unit)=>([(3,.bp 1 0),(6,(.fn (.func 68) [.bp 1 0] [])),(45,ql_0),(46,iP 17),(47,iP 8),(86,bP false)],[.cells (c27 v0),.cells (c27 v0++[iP 9,oP 2 3 c159 v52]),.grow (List.length v52) 3],JF29_54 v0 v52)) out ?_ ?_
         ·rintro⟨⟩ hF
          refine Xk [bF] .normal [(3,.bp 1 0),(6,(.fn (.func 68) [.bp 1 0] [])),(45,ql_0),(46,iP 17),(47,iP 8)] [.cells (c27 v0),.cells (c27 v0++[iP 9,oP 2 3 c159 v52]),.grow (List.length v52) 3] (λe hw=>?_)
          refine⟨_,_,hw,?_⟩
          obtain⟨v58,h59,hF⟩:=Xa hF
          refine Xk [.r (es 1 (kK [1,2] [] 1 0 (CF68_1 h59)::[])) []] .normal [(3,.bp 1 0),(45,ql_0),(46,iP 17),(47,iP 8)] [.cells (c27 v0),.cells (c27 v0++[iP 9,oP 2 3 c159 v58]),.grow (List.length v58) 3] (λe hw=>?_)
          refine⟨_,_,hw,?_⟩
          refine Xk [re 2] .normal [(3,.bp 1 0),(45,ql_0),(46,iP 17),(47,iP 9)] [.cells (c27 v0),.cells (c27 v0++[iP 9,oP 2 3 c159 v58]),.grow (List.length v58) 3] (λe hw=>?_)
          refine⟨_,_,hw,?_⟩
          refine Yt ?_
          refine gP 1 [re 1,bT] [(3,.bp 1 0),(45,ql_0),(46,iP 17),(47,iP 9)] [.cells (c27 v0),.cells (c27 v0++[iP 9,oP 2 3 c159 v58]),.grow (List.length v58) 3] ?_
          refine gS ?_
          refine gB 1 ?_
          refine gP 1 [re 5,re 6] [(3,.bp 1 0),(6,(.fn (.func 69) [.bp 1 0] [])),(45,ql_0),(46,iP 17),(47,iP 9)] [.cells (c27 v0),.cells (c27 v0++[iP 10,oP 2 3 c159 v58]),.grow (List.length v58) 3] ?_
          refine gS ?_
          refine gM (λ(v60:Bool)=>([(3,.bp 1 0),(6,(.fn (.func 69) [.bp 1 0] [])),(45,ql_0),(46,iP 17),(47,iP 9),(86,bP v60)],[.cells (c27 v0),.cells (c27 v0++[iP 10,oP 2 3 c159 v58]),.grow (List.length v58) 3],Vx v58 v0 v60)) out ?_ ?_
          ·rintro v60 hF
           rcases cor hF with⟨h62,hF⟩|⟨h62,hF⟩
           ·exact g_to [bb h62] (.exit 0) λ_ hw=>q_miss rfl (Xi (⟨_,_,hw,(10,v58),hF,rfl,rfl⟩))
           refine Xk [bb h62] .normal [(3,.bp 1 0),(6,(.fn (.func 69) [.bp 1 0] [])),(45,ql_0),(46,iP 17),(47,iP 9)] [.cells (c27 v0),.cells (c27 v0++[iP 10,oP 2 3 c159 v58]),.grow (List.length v58) 3] (λe hw=>?_)
           refine⟨_,_,hw,?_⟩
           obtain⟨v66,h67,hF⟩:=Xa hF
           refine Xk [.r (es 1 (kK [1,2] [] 1 0 (CF69_1 h67)::[])) []] .normal [(3,.bp 1 0),(45,ql_0),(46,iP 17),(47,iP 9)] [.cells (c27 v0),.cells (c27 v0++[iP 10,oP 2 3 c159 v66]),.grow (List.length v66) 3] (λe hw=>?_)
           refine⟨_,_,hw,?_⟩
           refine Xk [re 2] .normal [(3,.bp 1 0),(45,ql_0),(46,iP 17),(47,iP 10)] [.cells (c27 v0),.cells (c27 v0++[iP 10,oP 2 3 c159 v66]),.grow (List.length v66) 3] (λe hw=>?_)
           refine⟨_,_,hw,?_⟩
           refine Yt ?_
           refine gP 1 [re 1,bT] [(3,.bp 1 0),(45,ql_0),(46,iP 17),(47,iP 10)] [.cells (c27 v0),.cells (c27 v0++[iP 10,oP 2 3 c159 v66]),.grow (List.length v66) 3] ?_
           refine gS ?_
           refine gB 1 ?_
           refine gP 1 [re 5,re 6] [(3,.bp 1 0),(6,(.fn (.func 70) [.bp 1 0] [])),(45,ql_0),(46,iP 17),(47,iP 10)] [.cells (c27 v0),.cells (c27 v0++[iP 11,oP 2 3 c159 v66]),.grow (List.length v66) 3] ?_
           refine gS ?_
           refine gM (λ(v68:Bool)=>([(3,.bp 1 0),(6,(.fn (.func 70) [.bp 1 0] [])),(45,ql_0),(46,iP 17),(47,iP 10),(86,bP v68)],[.cells (c27 v0),.cells (c27 v0++[iP 11,oP 2 3 c159 v66]),.grow (List.length v66) 3],Vw v66 v0 v68)) out ?_ ?_
           ·rintro v68 hF
            rcases cor hF with⟨h70,hF⟩|⟨h70,hF⟩
            ·exact g_to [bb h70] (.exit 0) λ_ hw=>q_miss rfl (Xi (⟨_,_,hw,(11,v66),hF,rfl,rfl⟩))
            refine Xk [bb h70] .normal [(3,.bp 1 0),(6,(.fn (.func 70) [.bp 1 0] [])),(45,ql_0),(46,iP 17),(47,iP 10)] [.cells (c27 v0),.cells (c27 v0++[iP 11,oP 2 3 c159 v66]),.grow (List.length v66) 3] (λe hw=>?_)
            refine⟨_,_,hw,?_⟩
            obtain⟨v74,h75,hF⟩:=Xa hF
            refine Xk [.r (es 1 (kK [1,2] [] 1 0 (CF70_1 h75)::[])) []] .normal [(3,.bp 1 0),(45,ql_0),(46,iP 17),(47,iP 10)] [.cells (c27 v0),.cells (c27 v0++[iP 11,oP 2 3 c159 v74]),.grow (List.length v74) 3] (λe hw=>?_)
            refine⟨_,_,hw,?_⟩
            refine Xk [re 2] .normal [(3,.bp 1 0),(45,ql_0),(46,iP 17),(47,iP 11)] [.cells (c27 v0),.cells (c27 v0++[iP 11,oP 2 3 c159 v74]),.grow (List.length v74) 3] (λe hw=>?_)
            refine⟨_,_,hw,?_⟩
            refine Yt ?_
            refine gP 1 [re 1,bT] [(3,.bp 1 0),(45,ql_0),(46,iP 17),(47,iP 11)] [.cells (c27 v0),.cells (c27 v0++[iP 11,oP 2 3 c159 v74]),.grow (List.length v74) 3] ?_
            refine gS ?_
            refine gB 1 ?_
            refine gP 1 [re 5,re 6] [(3,.bp 1 0),(6,(.fn (.func 71) [.bp 1 0] [])),(45,ql_0),(46,iP 17),(47,iP 11)] [.cells (c27 v0),.cells (c27 v0++[iP 12,oP 2 3 c159 v74]),.grow (List.length v74) 3] ?_
            refine gS ?_
            refine gM (λ(v76:Bool)=>([(3,.bp 1 0),(6,(.fn (.func 71) [.bp 1 0] [])),(45,ql_0),(46,iP 17),(47,iP 11),(86,bP v76)],[.cells (c27 v0),.cells (c27 v0++[iP 12,oP 2 3 c159 v74]),.grow (List.length v74) 3],Vv v74 v0 v76)) out ?_ ?_
            ·rintro v76 hF
             rcases cor hF with⟨h78,hF⟩|⟨h78,hF⟩
             ·exact g_to [bb h78] (.exit 0) λ_ hw=>q_miss rfl (Xi (⟨_,_,hw,(12,v74),hF,rfl,rfl⟩))
             refine Xk [bb h78] .normal [(3,.bp 1 0),(6,(.fn (.func 71) [.bp 1 0] [])),(45,ql_0),(46,iP 17),(47,iP 11)] [.cells (c27 v0),.cells (c27 v0++[iP 12,oP 2 3 c159 v74]),.grow (List.length v74) 3] (λe hw=>?_)
             refine⟨_,_,hw,?_⟩
             obtain⟨v82,h83,hF⟩:=Xa hF
             refine Xk [.r (es 1 (kK [1,2] [] 1 0 (CF71_1 h83)::[])) []] .normal [(3,.bp 1 0),(45,ql_0),(46,iP 17),(47,iP 11)] [.cells (c27 v0),.cells (c27 v0++[iP 12,oP 2 3 c159 v82]),.grow (List.length v82) 3] (λe hw=>?_)
             refine⟨_,_,hw,?_⟩
             refine Xk [re 2] .normal [(3,.bp 1 0),(45,ql_0),(46,iP 17),(47,iP 12)] [.cells (c27 v0),.cells (c27 v0++[iP 12,oP 2 3 c159 v82]),.grow (List.length v82) 3] (λe hw=>?_)
             refine⟨_,_,hw,?_⟩
             refine Yt ?_
             refine gP 1 [re 1,bT] [(3,.bp 1 0),(45,ql_0),(46,iP 17),(47,iP 12)] [.cells (c27 v0),.cells (c27 v0++[iP 12,oP 2 3 c159 v82]),.grow (List.length v82) 3] ?_
             refine gS ?_
             refine gB 1 ?_
             refine gP 1 [re 5,re 6] [(3,.bp 1 0),(6,(.fn (.func 72) [.bp 1 0] [])),(45,ql_0),(46,iP 17),(47,iP 12)] [.cells (c27 v0),.cells (c27 v0++[iP 13,oP 2 3 c159 v82]),.grow (List.length v82) 3] ?_
             refine gS ?_
             refine gM (λ(v84:Bool)=>([(3,.bp 1 0),(6,(.fn (.func 72) [.bp 1 0] [])),(45,ql_0),(46,iP 17),(47,iP 12),(86,bP v84)],[.cells (c27 v0),.cells (c27 v0++[iP 13,oP 2 3 c159 v82]),.grow (List.length v82) 3],Vu v82 v0 v84)) out ?_ ?_
             ·rintro v84 hF
              rcases cor hF with⟨h86,hF⟩|⟨h86,hF⟩
              ·exact g_to [bb h86] (.exit 0) λ_ hw=>q_miss rfl (Xi (⟨_,_,hw,(13,v82),hF,rfl,rfl⟩))
              refine Xk [bb h86] .normal [(3,.bp 1 0),(6,(.fn (.func 72) [.bp 1 0] [])),(45,ql_0),(46,iP 17),(47,iP 12)] [.cells (c27 v0),.cells (c27 v0++[iP 13,oP 2 3 c159 v82]),.grow (List.length v82) 3] (λe hw=>?_)
              refine⟨_,_,hw,?_⟩
              obtain⟨v90,h91,hF⟩:=Xa hF
              refine Xk [.r (es 1 (kK [1,2] [] 1 0 (CF72_1 h91)::[])) []] .normal [(3,.bp 1 0),(45,ql_0),(46,iP 17),(47,iP 12)] [.cells (c27 v0),.cells (c27 v0++[iP 13,oP 2 3 c159 v90]),.grow (List.length v90) 3] (λe hw=>?_)
              refine⟨_,_,hw,?_⟩
              refine Xk [re 2] .normal [(3,.bp 1 0),(45,ql_0),(46,iP 17),(47,iP 13)] [.cells (c27 v0),.cells (c27 v0++[iP 13,oP 2 3 c159 v90]),.grow (List.length v90) 3] (λe hw=>?_)
              refine⟨_,_,hw,?_⟩
              refine Yt ?_
              refine gP 1 [re 1,bT] [(3,.bp 1 0),(45,ql_0),(46,iP 17),(47,iP 13)] [.cells (c27 v0),.cells (c27 v0++[iP 13,oP 2 3 c159 v90]),.grow (List.length v90) 3] ?_
              refine gS ?_
              refine gB 1 ?_
              refine gP 1 [re 5,re 6] [(3,.bp 1 0),(6,(.fn (.func 73) [.bp 1 0] [])),(45,ql_0),(46,iP 17),(47,iP 13)] [.cells (c27 v0),.cells (c27 v0++[iP 14,oP 2 3 c159 v90]),.grow (List.length v90) 3] ?_
              refine gS ?_
              refine gM (λ(v92:Bool)=>([(3,.bp 1 0),(6,(.fn (.func 73) [.bp 1 0] [])),(45,ql_0),(46,iP 17),(47,iP 13),(86,bP v92)],[.cells (c27 v0),.cells (c27 v0++[iP 14,oP 2 3 c159 v90]),.grow (List.length v90) 3],Vt v90 v0 v92)) out ?_ ?_
              ·rintro v92 hF
               rcases cor hF with⟨h94,hF⟩|⟨h94,hF⟩
               ·exact g_to [bb h94] (.exit 0) λ_ hw=>q_miss rfl (Xi (⟨_,_,hw,(14,v90),hF,rfl,rfl⟩))
               refine Xk [bb h94] .normal [(3,.bp 1 0),(6,(.fn (.func 73) [.bp 1 0] [])),(45,ql_0),(46,iP 17),(47,iP 13)] [.cells (c27 v0),.cells (c27 v0++[iP 14,oP 2 3 c159 v90]),.grow (List.length v90) 3] (λe hw=>?_)
               refine⟨_,_,hw,?_⟩
               obtain⟨v98,h99,hF⟩:=Xa hF
               refine Xk [.r (es 1 (kK [1,2] [] 1 0 (CF73_1 h99)::[])) []] .normal [(3,.bp 1 0),(45,ql_0),(46,iP 17),(47,iP 13)] [.cells (c27 v0),.cells (c27 v0++[iP 14,oP 2 3 c159 v98]),.grow (List.length v98) 3] (λe hw=>?_)
               refine⟨_,_,hw,?_⟩
               refine Xk [re 2] .normal [(3,.bp 1 0),(45,ql_0),(46,iP 17),(47,iP 14)] [.cells (c27 v0),.cells (c27 v0++[iP 14,oP 2 3 c159 v98]),.grow (List.length v98) 3] (λe hw=>?_)
               refine⟨_,_,hw,?_⟩
               refine Yt ?_
               refine gP 1 [re 1,bT] [(3,.bp 1 0),(45,ql_0),(46,iP 17),(47,iP 14)] [.cells (c27 v0),.cells (c27 v0++[iP 14,oP 2 3 c159 v98]),.grow (List.length v98) 3] ?_
               refine gS ?_
               refine gB 1 ?_
               refine gP 1 [re 5,re 6] [(3,.bp 1 0),(6,(.fn (.func 74) [.bp 1 0] [])),(45,ql_0),(46,iP 17),(47,iP 14)] [.cells (c27 v0),.cells (c27 v0++[iP 15,oP 2 3 c159 v98]),.grow (List.length v98) 3] ?_
               refine gS ?_
               refine gM (λ(v100:Bool)=>([(3,.bp 1 0),(6,(.fn (.func 74) [.bp 1 0] [])),(45,ql_0),(46,iP 17),(47,iP 14),(86,bP v100)],[.cells (c27 v0),.cells (c27 v0++[iP 15,oP 2 3 c159 v98]),.grow (List.length v98) 3],Wu v98 v0 v100)) out ?_ ?_
               ·rintro v100 hF
                rcases cor hF with⟨h102,hF⟩|⟨h102,hF⟩
                ·exact g_to [bb h102] (.exit 0) λ_ hw=>q_miss rfl (Xi (⟨_,_,hw,(15,v98),hF,rfl,rfl⟩))
                refine Xk [bb h102] .normal [(3,.bp 1 0),(6,(.fn (.func 74) [.bp 1 0] [])),(45,ql_0),(46,iP 17),(47,iP 14)] [.cells (c27 v0),.cells (c27 v0++[iP 15,oP 2 3 c159 v98]),.grow (List.length v98) 3] (λe hw=>?_)
                refine⟨_,_,hw,?_⟩
                obtain⟨v106,h107,hF⟩:=Xa hF
                refine Xk [.r (es 1 (kK [1,2] [] 1 0 (CF74_1 h107)::[])) []] .normal [(3,.bp 1 0),(45,ql_0),(46,iP 17),(47,iP 14)] [.cells (c27 v0),.cells (c27 v0++[iP 15,oP 2 3 c159 v106]),.grow (List.length v106) 3] (λe hw=>?_)
                refine⟨_,_,hw,?_⟩
                refine Xk [re 2] .normal [(3,.bp 1 0),(45,ql_0),(46,iP 17),(47,iP 15)] [.cells (c27 v0),.cells (c27 v0++[iP 15,oP 2 3 c159 v106]),.grow (List.length v106) 3] (λe hw=>?_)
                refine⟨_,_,hw,?_⟩
                refine Yt ?_
                refine gP 1 [re 1,bT] [(3,.bp 1 0),(45,ql_0),(46,iP 17),(47,iP 15)] [.cells (c27 v0),.cells (c27 v0++[iP 15,oP 2 3 c159 v106]),.grow (List.length v106) 3] ?_
                refine gS ?_
                refine gB 1 ?_
                refine gP 1 [re 5,re 6] [(3,.bp 1 0),(6,(.fn (.func 75) [.bp 1 0] [])),(45,ql_0),(46,iP 17),(47,iP 15)] [.cells (c27 v0),.cells (c27 v0++[iP 16,oP 2 3 c159 v106]),.grow (List.length v106) 3] ?_
                refine gS ?_
                refine gM (λ(v108:Bool)=>([(3,.bp 1 0),(6,(.fn (.func 75) [.bp 1 0] [])),(45,ql_0),(46,iP 17),(47,iP 15),(86,bP v108)],[.cells (c27 v0),.cells (c27 v0++[iP 16,oP 2 3 c159 v106]),.grow (List.length v106) 3],Wt v106 v0 v108)) out ?_ ?_
                ·rintro v108 hF
                 rcases cor hF with⟨h110,hF⟩|⟨h110,hF⟩
                 ·exact g_to [bb h110] (.exit 0) λ_ hw=>q_miss rfl (Xi (⟨_,_,hw,(16,v106),hF,rfl,rfl⟩))
                 refine Xk [bb h110] .normal [(3,.bp 1 0),(6,(.fn (.func 75) [.bp 1 0] [])),(45,ql_0),(46,iP 17),(47,iP 15)] [.cells (c27 v0),.cells (c27 v0++[iP 16,oP 2 3 c159 v106]),.grow (List.length v106) 3] (λe hw=>?_)
                 refine⟨_,_,hw,?_⟩
                 obtain⟨v114,h115,hF⟩:=Xa hF
                 refine Xk [.r (es 1 (kK [1,2] [] 1 0 (CF75_1 h115)::[])) []] .normal [(3,.bp 1 0),(45,ql_0),(46,iP 17),(47,iP 15)] [.cells (c27 v0),.cells (c27 v0++[iP 16,oP 2 3 c159 v114]),.grow (List.length v114) 3] (λe hw=>?_)
                 refine⟨_,_,hw,?_⟩
                 refine Xk [re 2] .normal [(3,.bp 1 0),(45,ql_0),(46,iP 17),(47,iP 16)] [.cells (c27 v0),.cells (c27 v0++[iP 16,oP 2 3 c159 v114]),.grow (List.length v114) 3] (λe hw=>?_)
                 refine⟨_,_,hw,?_⟩
                 refine Yt ?_
                 refine gP 1 [re 1,bT] [(3,.bp 1 0),(45,ql_0),(46,iP 17),(47,iP 16)] [.cells (c27 v0),.cells (c27 v0++[iP 16,oP 2 3 c159 v114]),.grow (List.length v114) 3] ?_
                 refine gS ?_
                 refine gB 1 ?_
                 refine gP 1 [re 5,re 6] [(3,.bp 1 0),(6,(.fn (.func 76) [.bp 1 0] [])),(45,ql_0),(46,iP 17),(47,iP 16)] [.cells (c27 v0),.cells (c27 v0++[iP 17,oP 2 3 c159 v114]),.grow (List.length v114) 3] ?_
                 refine gS ?_
                 refine gM (λ(v116:Bool)=>([(3,.bp 1 0),(6,(.fn (.func 76) [.bp 1 0] [])),(45,ql_0),(46,iP 17),(47,iP 16),(86,bP v116)],[.cells (c27 v0),.cells (c27 v0++[iP 17,oP 2 3 c159 v114]),.grow (List.length v114) 3],Ws v114 v0 v116)) out ?_ ?_
                 ·rintro v116 hF
                  rcases cor hF with⟨h118,hF⟩|⟨h118,hF⟩
                  ·exact g_to [bb h118] (.exit 0) λ_ hw=>q_miss rfl (Xi (⟨_,_,hw,(17,v114),hF,rfl,rfl⟩))
                  refine Xk [bb h118] .normal [(3,.bp 1 0),(6,(.fn (.func 76) [.bp 1 0] [])),(45,ql_0),(46,iP 17),(47,iP 16)] [.cells (c27 v0),.cells (c27 v0++[iP 17,oP 2 3 c159 v114]),.grow (List.length v114) 3] (λe hw=>?_)
                  refine⟨_,_,hw,?_⟩
                  obtain⟨v122,h123,hF⟩:=Xa hF
                  refine Xk [.r (es 1 (kK [1,2] [] 1 0 (CF76_1 h123)::[])) []] .normal [(3,.bp 1 0),(45,ql_0),(46,iP 17),(47,iP 16)] [.cells (c27 v0),.cells (c27 v0++[iP 17,oP 2 3 c159 v122]),.grow (List.length v122) 3] (λe hw=>?_)
                  refine⟨_,_,hw,?_⟩
                  refine Xk [re 2] .normal [(3,.bp 1 0),(45,ql_0),(46,iP 17),(47,iP 17)] [.cells (c27 v0),.cells (c27 v0++[iP 17,oP 2 3 c159 v122]),.grow (List.length v122) 3] (λe hw=>?_)
                  refine⟨_,_,hw,?_⟩
                  refine Yt ?_
                  exact g_to [re 1,bF] (.exit 0) λ_ hw=>Xi (⟨_,_,hw,(17,v122),hF,rfl,rfl⟩)
                 rcases cor hF with⟨h124,hF⟩|⟨h124,hF⟩
                 ·obtain⟨v125,h126,hF⟩:=Xa hF
                  exact g_to [.r (es 4 (kLA 2 3 c159 v114::es 2 (rq 6 (bq h124) (rq 6 bqF (rq 4 bqT (bqT::kXA 2 3 c159 h126::rq 3 bqT (bq (t:=false) (b:=false) rfl::es 1 (bq h124::es 1 (kPt (bP (decide (v125.fT<10))) (bP false) h124::[]))))))))) []] .normal λ_ hw=>⟨_,_,hw,decide (v125.fT<10),hF,rfl,rfl⟩
                 exact g_to [.r (es 4 (kLA 2 3 c159 v114::es 2 (rp 7 (bq h124) (kPf (.tup []) (bP false) h124::[])))) []] .normal λ_ hw=>⟨_,_,hw,false,hF,rfl,rfl⟩
                rcases cor hF with⟨h127,hF⟩|⟨h127,hF⟩
                ·obtain⟨v128,h129,hF⟩:=Xa hF
                 exact g_to [.r (es 4 (kLA 2 3 c159 v106::es 2 (rq 6 (bq h127) (rq 6 bqF (rq 4 bqT (bqT::kXA 2 3 c159 h129::rq 3 bqT (bq (t:=false) (b:=false) rfl::es 1 (bq h127::es 1 (kPt (bP (decide (v128.fT<10))) (bP false) h127::[]))))))))) []] .normal λ_ hw=>⟨_,_,hw,decide (v128.fT<10),hF,rfl,rfl⟩
                exact g_to [.r (es 4 (kLA 2 3 c159 v106::es 2 (rp 7 (bq h127) (kPf (.tup []) (bP false) h127::[])))) []] .normal λ_ hw=>⟨_,_,hw,false,hF,rfl,rfl⟩
               rcases cor hF with⟨h130,hF⟩|⟨h130,hF⟩
               ·obtain⟨v131,h132,hF⟩:=Xa hF
                exact g_to [.r (es 4 (kLA 2 3 c159 v98::es 2 (rq 6 (bq h130) (rq 6 bqF (rq 4 bqT (bqT::kXA 2 3 c159 h132::rq 3 bqT (bq (t:=false) (b:=false) rfl::es 1 (bq h130::es 1 (kPt (bP (decide (v131.fT<10))) (bP false) h130::[]))))))))) []] .normal λ_ hw=>⟨_,_,hw,decide (v131.fT<10),hF,rfl,rfl⟩
               exact g_to [.r (es 4 (kLA 2 3 c159 v98::es 2 (rp 7 (bq h130) (kPf (.tup []) (bP false) h130::[])))) []] .normal λ_ hw=>⟨_,_,hw,false,hF,rfl,rfl⟩
              rcases cor hF with⟨h133,hF⟩|⟨h133,hF⟩
              ·obtain⟨v134,h135,hF⟩:=Xa hF
               exact g_to [.r (es 4 (kLA 2 3 c159 v90::es 2 (rq 6 (bq h133) (rq 6 bqF (rq 4 bqT (bqT::kXA 2 3 c159 h135::rq 3 bqT (bq (t:=false) (b:=false) rfl::es 1 (bq h133::es 1 (kPt (bP (decide (v134.fT<10))) (bP false) h133::[]))))))))) []] .normal λ_ hw=>⟨_,_,hw,decide (v134.fT<10),hF,rfl,rfl⟩
              exact g_to [.r (es 4 (kLA 2 3 c159 v90::es 2 (rp 7 (bq h133) (kPf (.tup []) (bP false) h133::[])))) []] .normal λ_ hw=>⟨_,_,hw,false,hF,rfl,rfl⟩
             rcases cor hF with⟨h136,hF⟩|⟨h136,hF⟩
             ·obtain⟨v137,h138,hF⟩:=Xa hF
              exact g_to [.r (es 4 (kLA 2 3 c159 v82::es 2 (rq 6 (bq h136) (rq 6 bqF (rq 4 bqT (bqT::kXA 2 3 c159 h138::rq 3 bqT (bq (t:=false) (b:=false) rfl::es 1 (bq h136::es 1 (kPt (bP (decide (v137.fT<10))) (bP false) h136::[]))))))))) []] .normal λ_ hw=>⟨_,_,hw,decide (v137.fT<10),hF,rfl,rfl⟩
             exact g_to [.r (es 4 (kLA 2 3 c159 v82::es 2 (rp 7 (bq h136) (kPf (.tup []) (bP false) h136::[])))) []] .normal λ_ hw=>⟨_,_,hw,false,hF,rfl,rfl⟩
            rcases cor hF with⟨h139,hF⟩|⟨h139,hF⟩
            ·obtain⟨v140,h141,hF⟩:=Xa hF
             exact g_to [.r (es 4 (kLA 2 3 c159 v74::es 2 (rq 6 (bq h139) (rq 6 bqF (rq 4 bqT (bqT::kXA 2 3 c159 h141::rq 3 bqT (bq (t:=false) (b:=false) rfl::es 1 (bq h139::es 1 (kPt (bP (decide (v140.fT<10))) (bP false) h139::[]))))))))) []] .normal λ_ hw=>⟨_,_,hw,decide (v140.fT<10),hF,rfl,rfl⟩
            exact g_to [.r (es 4 (kLA 2 3 c159 v74::es 2 (rp 7 (bq h139) (kPf (.tup []) (bP false) h139::[])))) []] .normal λ_ hw=>⟨_,_,hw,false,hF,rfl,rfl⟩
           rcases cor hF with⟨h142,hF⟩|⟨h142,hF⟩
           ·obtain⟨v143,h144,hF⟩:=Xa hF
            exact g_to [.r (es 4 (kLA 2 3 c159 v66::es 2 (rq 6 (bq h142) (rq 6 bqF (rq 4 bqT (bqT::kXA 2 3 c159 h144::rq 3 bqT (bq (t:=false) (b:=false) rfl::es 1 (bq h142::es 1 (kPt (bP (decide (v143.fT<10))) (bP false) h142::[]))))))))) []] .normal λ_ hw=>⟨_,_,hw,decide (v143.fT<10),hF,rfl,rfl⟩
           exact g_to [.r (es 4 (kLA 2 3 c159 v66::es 2 (rp 7 (bq h142) (kPf (.tup []) (bP false) h142::[])))) []] .normal λ_ hw=>⟨_,_,hw,false,hF,rfl,rfl⟩
          rcases cor hF with⟨h145,hF⟩|⟨h145,hF⟩
          ·obtain⟨v146,h147,hF⟩:=Xa hF
           exact g_to [.r (es 4 (kLA 2 3 c159 v58::es 2 (rq 6 (bq h145) (rq 6 bqF (rq 4 bqT (bqT::kXA 2 3 c159 h147::rq 3 bqT (bq (t:=false) (b:=false) rfl::es 1 (bq h145::es 1 (kPt (bP (decide (v146.fT<10))) (bP false) h145::[]))))))))) []] .normal λ_ hw=>⟨_,_,hw,decide (v146.fT<10),hF,rfl,rfl⟩
          exact g_to [.r (es 4 (kLA 2 3 c159 v58::es 2 (rp 7 (bq h145) (kPf (.tup []) (bP false) h145::[])))) []] .normal λ_ hw=>⟨_,_,hw,false,hF,rfl,rfl⟩
         rcases cor hF with⟨h148,hF⟩|⟨h148,hF⟩
         ·exact g_to [.r (es 4 (kLA 2 3 c159 v52::es 2 (rq 6 (bq h148) (rq 6 bqF (rp 9 bqF (es 1 (bq h148::es 1 (kPt (bP false) (bP false) h148::[])))))))) []] .normal λ_ hw=>⟨_,_,hw,(),hF,rfl,rfl⟩
         exact g_to [.r (es 4 (kLA 2 3 c159 v52::es 2 (rp 7 (bq h148) (kPf (.tup []) (bP false) h148::[])))) []] .normal λ_ hw=>⟨_,_,hw,(),hF,rfl,rfl⟩
        rcases cor hF with⟨h149,hF⟩|⟨h149,hF⟩
        ·exact g_to [.r (es 4 (kLA 2 3 c159 v46::es 2 (rq 6 (bq h149) (rq 6 bqF (rp 9 bqF (es 1 (bq h149::es 1 (kPt (bP false) (bP false) h149::[])))))))) []] .normal λ_ hw=>⟨_,_,hw,(),hF,rfl,rfl⟩
        exact g_to [.r (es 4 (kLA 2 3 c159 v46::es 2 (rp 7 (bq h149) (kPf (.tup []) (bP false) h149::[])))) []] .normal λ_ hw=>⟨_,_,hw,(),hF,rfl,rfl⟩
       rcases cor hF with⟨h150,hF⟩|⟨h150,hF⟩
       ·exact g_to [.r (es 4 (kLA 2 3 c159 v40::es 2 (rq 6 (bq h150) (rq 6 bqF (rp 9 bqF (es 1 (bq h150::es 1 (kPt (bP false) (bP false) h150::[])))))))) []] .normal λ_ hw=>⟨_,_,hw,(),hF,rfl,rfl⟩
       exact g_to [.r (es 4 (kLA 2 3 c159 v40::es 2 (rp 7 (bq h150) (kPf (.tup []) (bP false) h150::[])))) []] .normal λ_ hw=>⟨_,_,hw,(),hF,rfl,rfl⟩
      rcases cor hF with⟨h151,hF⟩|⟨h151,hF⟩
      ·exact g_to [.r (es 4 (kLA 2 3 c159 v34::es 2 (rq 6 (bq h151) (rq 6 bqF (rp 9 bqF (es 1 (bq h151::es 1 (kPt (bP false) (bP false) h151::[])))))))) []] .normal λ_ hw=>⟨_,_,hw,(),hF,rfl,rfl⟩
      exact g_to [.r (es 4 (kLA 2 3 c159 v34::es 2 (rp 7 (bq h151) (kPf (.tup []) (bP false) h151::[])))) []] .normal λ_ hw=>⟨_,_,hw,(),hF,rfl,rfl⟩
     rcases cor hF with⟨h152,hF⟩|⟨h152,hF⟩
     ·exact g_to [.r (es 4 (kLA 2 3 c159 v28::es 2 (rq 6 (bq h152) (rq 6 bqF (rp 9 bqF (es 1 (bq h152::es 1 (kPt (bP false) (bP false) h152::[])))))))) []] .normal λ_ hw=>⟨_,_,hw,(),hF,rfl,rfl⟩
     exact g_to [.r (es 4 (kLA 2 3 c159 v28::es 2 (rp 7 (bq h152) (kPf (.tup []) (bP false) h152::[])))) []] .normal λ_ hw=>⟨_,_,hw,(),hF,rfl,rfl⟩
    rcases cor hF with⟨h153,hF⟩|⟨h153,hF⟩
    ·exact g_to [.r (es 4 (kLA 2 3 c159 v22::es 2 (rq 6 (bq h153) (rq 6 bqF (rp 9 bqF (es 1 (bq h153::es 1 (kPt (bP false) (bP false) h153::[])))))))) []] .normal λ_ hw=>⟨_,_,hw,(),hF,rfl,rfl⟩
    exact g_to [.r (es 4 (kLA 2 3 c159 v22::es 2 (rp 7 (bq h153) (kPf (.tup []) (bP false) h153::[])))) []] .normal λ_ hw=>⟨_,_,hw,(),hF,rfl,rfl⟩
   rcases cor hF with⟨h154,hF⟩|⟨h154,hF⟩
   ·exact g_to [.r (es 4 (kLA 2 3 c159 v16::es 2 (rq 6 (bq h154) (rq 6 bqF (rp 9 bqF (es 1 (bq h154::es 1 (kPt (bP false) (bP false) h154::[])))))))) []] .normal λ_ hw=>⟨_,_,hw,(),hF,rfl,rfl⟩
   exact g_to [.r (es 4 (kLA 2 3 c159 v16::es 2 (rp 7 (bq h154) (kPf (.tup []) (bP false) h154::[])))) []] .normal λ_ hw=>⟨_,_,hw,(),hF,rfl,rfl⟩
  rcases cor hF with⟨h155,hF⟩|⟨h155,hF⟩
  ·exact g_to [.r (es 4 (kLA 2 3 c159 v8::es 2 (rq 6 (bq h155) (rp 7 bqT (bq h155::es 1 (kPt (bP true) (bP false) h155::[])))))) []] .normal λ_ hw=>⟨_,_,hw,true,hF,rfl,rfl⟩
  exact g_to [.r (es 4 (kLA 2 3 c159 v8::es 2 (rp 7 (bq h155) (kPf (.tup []) (bP false) h155::[])))) []] .normal λ_ hw=>⟨_,_,hw,false,hF,rfl,rfl⟩
 rcases cor hF with⟨h156,hF⟩|⟨h156,hF⟩
 ·exact g_to [.r (es 4 (kLA 2 3 c159 ([]:List G159)::es 2 (rq 6 (bq h156) (rq 6 bqF (rp 9 bqF (es 1 (bq h156::es 1 (kPt (bP false) (bP false) h156::[])))))))) []] .normal λ_ hw=>⟨_,_,hw,(),hF,rfl,rfl⟩
 exact g_to [.r (es 4 (kLA 2 3 c159 ([]:List G159)::es 2 (rp 7 (bq h156) (kPf (.tup []) (bP false) h156::[])))) []] .normal λ_ hw=>⟨_,_,hw,(),hF,rfl,rfl⟩
theorem CF14 {v0 out} (hF:F14 v0=some out):A0 14 [.agg (c27 v0)] (bP out):=by
 refine gC Tryz.func14 ?_
 obtain⟨v1,h2,hF⟩:=Xa hF
 obtain rfl:=soj hF
 exact gE [re 2,.r (es 1 (kC (CF29 h2)::kL 3 c159 v1::es 2 [])) []]
theorem CF37 {v0 out} (hF:F37 v0=some out):A0 37 [.agg (c100 v0)] (bP out):=by
 refine gC Tryz.func37 ?_
 refine gP 0 [re 2] [(1,.bp 0 0)] [.cells (c100 v0)] ?_
 refine gM (λ(_:Unit)=>([(1,.bp 0 0)],[.cells (c100 v0)],JF37_1 v0)) out ?_ ?_
 ·rintro⟨⟩ hF
  rcases cor hF with⟨h2,hF⟩|⟨h2,hF⟩
  ·obtain rfl:=soj hF
   exact gE [.r (es 2 (kL 13 c147 v0.fg::es 2 (rq 2 (bq h2) (bq h2::kL 4 c425 v0.fX::bq h2::es 1 (kPt (bP (decide ((ln v0.fX)<=6))) (bP false) h2::es 1 []))))) []]
  obtain rfl:=soj hF
  exact gE [.r (es 2 (kL 13 c147 v0.fg::es 2 (rp 4 (bq h2) (kPf (.tup []) (bP false) h2::es 1 [])))) []]
 refine gP 0 [re 1] [(1,.bp 0 0),(3,iP 0)] [.cells (c100 v0)] ?_
 refine gB 0 ?_
 obtain⟨o4,ho4,hF⟩:=Xa hF
 refine gL ho4 (λv3=>([(1,.bp 0 0),(3,iP v3)],[.cells (c100 v0)])) wm ?_
 rintro v3 o5 h6 h7
 rcases cor h6 with⟨h9,h6⟩|⟨h9,h6⟩
 ·refine gP 0 [.r (es 3 (kL 13 c147 v0.fg::es 1 [])) [],bb h9] [(1,.bp 0 0),(3,iP v3)] [.cells (c100 v0)] ?_
  refine gM (λ(_:Unit)=>([(1,.bp 0 0),(3,iP v3)],[.cells (c100 v0)],JF37_10 v3)) o5 ?_ ?_
  ·rintro⟨⟩ h6
   cases h6
   exact g_to [re 3] .normal λ_ hw=>⟨rfl,hw⟩
  refine gB 1 ?_
  obtain⟨v11,h12,h6⟩:=Xa h6
  refine gP 0 [.r (es 3 (kX 13 c147 h12::es 3 [])) []] [(1,.bp 0 0),(3,iP v3),(4,.bp 1 0)] [.cells (c100 v0),.cells (c147 v11)] ?_
  refine gS ?_
  refine gM (λ(v13:Bool)=>([(1,.bp 0 0),(3,iP v3),(4,.bp 1 0),(33,bP v13)],[.cells (c100 v0),.cells (c147 v11)],JF37_14 v11 v3 v13)) o5 ?_ ?_
  ·rintro v13 h6
   rcases cor h6 with⟨h15,h6⟩|⟨h15,h6⟩
   ·cases h6
    obtain rfl:=h7 _ rfl
    obtain rfl:=soj hF
    exact gE [bb h15,re 1]
   refine Xk [bb h15] .normal [(1,.bp 0 0),(3,iP v3),(4,.bp 1 0)] [.cells (c100 v0),.cells (c147 v11)] (λe hw=>?_)
   refine⟨_,_,hw,?_⟩
   refine gP 0 [re 1] [(1,.bp 0 0),(3,iP v3),(4,.bp 1 0),(5,iP 0)] [.cells (c100 v0),.cells (c147 v11)] ?_
   refine gB 2 ?_
   obtain⟨o17,ho17,h6⟩:=Xa h6
   refine gL ho17 (λv16=>([(1,.bp 0 0),(3,iP v3),(4,.bp 1 0),(5,iP v16)],[.cells (c100 v0),.cells (c147 v11)])) wm ?_
   rintro v16 o18 h19 h20
   rcases cor h19 with⟨h22,h19⟩|⟨h22,h19⟩
   ·obtain⟨v23,h24,h19⟩:=Xa h19
    rcases cor h19 with⟨h25,h19⟩|⟨h25,h19⟩
    ·cases h19
     obtain rfl:=h20 _ rfl
     cases h6
     obtain rfl:=h7 _ rfl
     obtain rfl:=soj hF
     exact gE [.r (es 3 (kL 2 c171 v11.fq::es 1 [])) [],bb h22,.r (es 3 (kX 2 c171 h24::es 4 [])) [],bb h25,re 1]
    cases h19
    exact g_to [.r (es 3 (kL 2 c171 v11.fq::es 1 [])) [],bb h22,.r (es 3 (kX 2 c171 h24::es 4 [])) [],bb h25,re 3] .normal λ_ hw=>⟨rfl,hw⟩
   cases h19
   obtain rfl:=h20 _ rfl
   exact g_tc 1 [.r (es 3 (kL 2 c171 v11.fq::es 1 [])) [],bb h22] (.exit 2) λ_ _ hw=>Xi (⟨_,_,hw,(),h6,rfl,rfl⟩)
  rcases cor h6 with⟨h26,h6⟩|⟨h26,h6⟩
  ·exact g_to [.r (es 2 (kL 5 c182 v11.fv::es 2 (rp 4 (bq h26) (kPt (bP true) (.tup []) h26::es 1 (rp 4 bqT (es 1 [])))))) []] .normal λ_ hw=>⟨_,_,hw,true,h6,rfl,rfl⟩
  rcases cor h6 with⟨h27,h6⟩|⟨h27,h6⟩
  ·exact g_to [.r (es 2 (kL 5 c182 v11.fv::es 2 (rq 2 (bq h26) (bq h26::kL 5 c245 v11.fS::bq h26::es 1 (kPf (bP true) (bP (decide ((ln v11.fS)>12))) h26::es 1 (rp 4 (bq h27) (kPt (bP true) (.tup []) h27::[]))))))) []] .normal λ_ hw=>⟨_,_,hw,true,h6,rfl,rfl⟩
  exact g_to [.r (es 2 (kL 5 c182 v11.fv::es 2 (rq 2 (bq h26) (bq h26::kL 5 c245 v11.fS::bq h26::es 1 (kPf (bP true) (bP (decide ((ln v11.fS)>12))) h26::es 1 (rq 2 (bq h27) (bq h27::kL 2 c171 v11.fq::bq h27::es 1 (kPf (bP true) (bP (decide ((ln v11.fq)>12))) h27::[])))))))) []] .normal λ_ hw=>⟨_,_,hw,decide ((ln v11.fq)>12),h6,rfl,rfl⟩
 cases h6
 obtain rfl:=h7 _ rfl
 exact g_to [.r (es 3 (kL 13 c147 v0.fg::es 1 [])) [],bb h9] (.exit 0) λ_ hw=>Xi (⟨_,_,hw,(),hF,rfl,rfl⟩)
theorem CF38 {v0 out} (hF:F38 v0=some out):A0 38 [.agg (c100 v0)] (iP out):=by
 refine gC Tryz.func38 ?_
 refine gP 1 [re 2,re 1] [(1,.bp 0 0),(3,iP 0)] [.cells (c100 v0)] ?_
 refine gM (λ(v1:Int)=>([(3,iP v1)],[],JF38_2 v1)) out ?_ ?_
 ·rintro v1 hF
  obtain rfl:=soj hF
  exact gE [re 2]
 refine gP 0 [re 1] [(1,.bp 0 0),(3,iP 0),(4,iP 0)] [.cells (c100 v0)] ?_
 refine gB 0 ?_
 obtain⟨o6,ho6,hF⟩:=Xa hF
 refine gL ho6 (λ(v3,v4)=>([(1,.bp 0 0),(3,iP v3),(4,iP v4)],[.cells (c100 v0)])) wm ?_
 rintro⟨v3,v4⟩ o7 h8 h9
 rcases cor h8 with⟨h11,h8⟩|⟨h11,h8⟩
 ·refine gP 0 [.r (es 3 (kL 13 c147 v0.fg::es 1 [])) [],bb h11] [(1,.bp 0 0),(3,iP v3),(4,iP v4)] [.cells (c100 v0)] ?_
  refine gM (λ(v12:Int)=>([(1,.bp 0 0),(3,iP v12),(4,iP v4)],[.cells (c100 v0)],JF38_13 v4 v12)) o7 ?_ ?_
  ·rintro v12 h8
   cases h8
   exact g_to [re 3] .normal λ_ hw=>⟨rfl,hw⟩
  refine gB 1 ?_
  refine gP 0 [re 1] [(1,.bp 0 0),(3,iP v3),(4,iP v4),(5,iP 0)] [.cells (c100 v0)] ?_
  refine gB 2 ?_
  obtain⟨o17,ho17,h8⟩:=Xa h8
  refine gL ho17 (λ(v14,v15)=>([(1,.bp 0 0),(3,iP v14),(4,iP v4),(5,iP v15)],[.cells (c100 v0)])) wm ?_
  rintro⟨v14,v15⟩ o18 h19 h20
  obtain⟨v22,h23,h19⟩:=Xa h19
  rcases cor h19 with⟨h24,h19⟩|⟨h24,h19⟩
  ·obtain⟨v25,h26,v27,h28,h19⟩:=bs2 h19
   cases h19
   exact g_to [.r (es 4 (kX 13 c147 h23::es 2 (kL 2 c171 v22.fq::es 1 []))) [],bb h24,.r (es 4 (kX 13 c147 h26::es 3 (kX 2 c171 h28::es 5 []))) [],re 3] .normal λ_ hw=>⟨rfl,hw⟩
  cases h19
  obtain rfl:=h20 _ rfl
  exact g_to [.r (es 4 (kX 13 c147 h23::es 2 (kL 2 c171 v22.fq::es 1 []))) [],bb h24] (.exit 2) λ_ hw=>Xi (⟨_,_,hw,v14,h8,rfl,rfl⟩)
 cases h8
 obtain rfl:=h9 _ rfl
 exact g_tc 0 [.r (es 3 (kL 13 c147 v0.fg::es 1 [])) [],bb h11] (.exit 0) λ_ _ hw=>Xi (⟨_,_,hw,v3,hF,rfl,rfl⟩)
end
end Go.Proofs.YtibndgdocbbbeaaGreat
