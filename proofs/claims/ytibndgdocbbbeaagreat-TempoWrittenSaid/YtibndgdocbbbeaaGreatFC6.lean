/- A part of the proof. -/
import Derived.Test.YtibndgdocbbbeaaGreatFC4
import Derived.Test.YtibndgdocbbbeaaGreatSY13
import Derived.Test.YtibndgdocbbbeaaGreatHA
set_option linter.all false
set_option maxRecDepth 100000
set_option maxHeartbeats 40000000
set_option synthInstance.maxSize 100000
namespace Go.Proofs.YtibndgdocbbbeaaGreat
open Go.PE
noncomputable section
theorem CF12 {v0 out} (hF:F12 v0=some out):A0 12 [.agg (c27 v0)] (bP out):=by
 refine gC Tryz.func12 ?_
 refine gP 1 [re 2,re 2] [(1,.bp 0 0),(3,iP 0),(4,iP 0)] [.cells (c27 v0)] ?_
 refine gM (λ(_:Unit)=>([(1,.bp 0 0),(3,iP 0),(4,iP 0)],[.cells (c27 v0)],JF12_1 v0)) out ?_ ?_
 ·rintro⟨⟩ hF
  refine gM (λ(_:Unit)=>([(1,.bp 0 0)],[.cells (c27 v0)],JF12_2 v0)) out ?_ ?_
  ·rintro⟨⟩ hF
   rcases cor hF with⟨h3,hF⟩|⟨h3,hF⟩
   ·rcases cor hF with⟨h4,hF⟩|⟨h4,hF⟩
    ·rcases cor hF with⟨h5,hF⟩|⟨h5,hF⟩
     ·rcases cor hF with⟨h6,hF⟩|⟨h6,hF⟩
      ·obtain rfl:=soj hF
       exact gE [.r (es 2 (kL 6 c68 v0.fh::es 2 (rq 2 (bq h3) (bq h3::kL 22 c75 v0.fc::bq h3::es 1 (kPt (bP (decide ((ln v0.fc)<=10))) (bP false) h3::es 1 (rq 2 (bq h4) (bq h4::kL 7 c213 v0.fi::bq h4::es 1 (kPt (bP (decide ((ln v0.fi)<=10))) (bP false) h4::es 1 (rq 2 (bq h5) (bq h5::kL 2 c58 v0.fF::bq h5::es 1 (kPt (bP (decide ((ln v0.fF)<=5))) (bP false) h5::es 1 (rq 4 (bq h6) (kPt (bP (decide ((lns v0.fav)<=300))) (bP false) h6::es 1 []))))))))))))) []]
      obtain rfl:=soj hF
      exact gE [.r (es 2 (kL 6 c68 v0.fh::es 2 (rq 2 (bq h3) (bq h3::kL 22 c75 v0.fc::bq h3::es 1 (kPt (bP (decide ((ln v0.fc)<=10))) (bP false) h3::es 1 (rq 2 (bq h4) (bq h4::kL 7 c213 v0.fi::bq h4::es 1 (kPt (bP (decide ((ln v0.fi)<=10))) (bP false) h4::es 1 (rq 2 (bq h5) (bq h5::kL 2 c58 v0.fF::bq h5::es 1 (kPt (bP (decide ((ln v0.fF)<=5))) (bP false) h5::es 1 (rp 4 (bq h6) (kPf (.tup []) (bP false) h6::es 1 []))))))))))))) []]
     obtain rfl:=soj hF
     exact gE [.r (es 2 (kL 6 c68 v0.fh::es 2 (rq 2 (bq h3) (bq h3::kL 22 c75 v0.fc::bq h3::es 1 (kPt (bP (decide ((ln v0.fc)<=10))) (bP false) h3::es 1 (rq 2 (bq h4) (bq h4::kL 7 c213 v0.fi::bq h4::es 1 (kPt (bP (decide ((ln v0.fi)<=10))) (bP false) h4::es 1 (rp 4 (bq h5) (kPf (.tup []) (bP false) h5::es 1 (rp 4 bqF (es 2 [])))))))))))) []]
    obtain rfl:=soj hF
    exact gE [.r (es 2 (kL 6 c68 v0.fh::es 2 (rq 2 (bq h3) (bq h3::kL 22 c75 v0.fc::bq h3::es 1 (kPt (bP (decide ((ln v0.fc)<=10))) (bP false) h3::es 1 (rp 4 (bq h4) (kPf (.tup []) (bP false) h4::es 1 (rp 4 bqF (es 2 (rp 4 bqF (es 2 []))))))))))) []]
   obtain rfl:=soj hF
   exact gE [.r (es 2 (kL 6 c68 v0.fh::es 2 (rp 4 (bq h3) (kPf (.tup []) (bP false) h3::es 1 (rp 4 bqF (es 2 (rp 4 bqF (es 2 (rp 4 bqF (es 2 [])))))))))) []]
  refine gP 0 [re 1] [(1,.bp 0 0),(3,iP 0),(4,iP 0),(6,iP 0)] [.cells (c27 v0)] ?_
  refine gB 2 ?_
  obtain⟨o10,ho10,hF⟩:=Xa hF
  refine gL ho10 (λ(v7,v8,v9)=>([(1,.bp 0 0),(3,iP v7),(4,iP v8),(6,iP v9)],[.cells (c27 v0)])) wm ?_
  rintro⟨v7,v8,v9⟩ o11 h12 h13
  rcases cor h12 with⟨h15,h12⟩|⟨h15,h12⟩
  ·refine gP 0 [.r (es 3 (kL 22 c75 v0.fc::es 1 [])) [],bb h15] [(1,.bp 0 0),(3,iP v7),(4,iP v8),(6,iP v9)] [.cells (c27 v0)] ?_
   refine gM (λ(x:Int×Int)=>match x with|(v16,v17)=>([(1,.bp 0 0),(3,iP v16),(4,iP v17),(6,iP v9)],[.cells (c27 v0)],JF12_18 v9 v16 v17)) o11 ?_ ?_
   ·rintro⟨v16,v17⟩ h12
    cases h12
    exact g_to [re 3] .normal λ_ hw=>⟨rfl,hw⟩
   refine gB 3 ?_
   obtain⟨v19,h20,h12⟩:=Xa h12
   refine gP 0 [.r (es 3 (kX 22 c75 h20::es 3 [])) []] [(1,.bp 0 0),(3,iP v7),(4,iP v8),(6,iP v9),(7,.bp 1 0)] [.cells (c27 v0),.cells (c75 v19)] ?_
   refine gS ?_
   refine gM (λ(v21:Bool)=>([(1,.bp 0 0),(3,iP v7),(4,iP v8),(6,iP v9),(7,.bp 1 0),(62,bP v21)],[.cells (c27 v0),.cells (c75 v19)],JF12_22 v19 v7 v8 v9 v21)) o11 ?_ ?_
   ·rintro v21 h12
    rcases cor h12 with⟨h23,h12⟩|⟨h23,h12⟩
    ·cases h12
     obtain rfl:=h13 _ rfl
     obtain rfl:=soj hF
     exact gE [bb h23,re 1]
    refine Xk [bb h23] .normal [(1,.bp 0 0),(3,iP v7),(4,iP v8),(6,iP v9),(7,.bp 1 0)] [.cells (c27 v0),.cells (c75 v19)] (λe hw=>?_)
    refine⟨_,_,hw,?_⟩
    refine gP 0 [re 1] [(1,.bp 0 0),(3,iP v7),(4,iP v8),(6,iP v9),(7,.bp 1 0),(8,iP 0)] [.cells (c27 v0),.cells (c75 v19)] ?_
    refine gB 4 ?_
    obtain⟨o29,ho29,h12⟩:=Xa h12
    refine gL ho29 (λ(v24,v25,v26)=>([(1,.bp 0 0),(3,iP v24),(4,iP v25),(6,iP v9),(7,.bp 1 0),(8,iP v26)],[.cells (c27 v0),.cells (c75 v19)])) wm ?_
    rintro⟨v24,v25,v26⟩ o30 h31 h32
    rcases cor h31 with⟨h34,h31⟩|⟨h34,h31⟩
    ·refine gP 0 [.r (es 3 (kL 2 c95 v19.fe::es 1 [])) [],bb h34] [(1,.bp 0 0),(3,iP v24),(4,iP v25),(6,iP v9),(7,.bp 1 0),(8,iP v26)] [.cells (c27 v0),.cells (c75 v19)] ?_
     refine gM (λ(x:Int×Int)=>match x with|(v35,v36)=>([(1,.bp 0 0),(3,iP v35),(4,iP v36),(6,iP v9),(7,.bp 1 0),(8,iP v26)],[.cells (c27 v0),.cells (c75 v19)],JF12_37 v26 v35 v36)) o30 ?_ ?_
     ·rintro⟨v35,v36⟩ h31
      cases h31
      exact g_to [re 3] .normal λ_ hw=>⟨rfl,hw⟩
     refine gB 5 ?_
     refine gS ?_
     refine gM (λ(v38:Bool)=>([(1,.bp 0 0),(3,iP v24),(4,iP v25),(6,iP v9),(7,.bp 1 0),(8,iP v26),(87,bP v38)],[.cells (c27 v0),.cells (c75 v19)],JF12_39 v19 v26 v24 v25 v38)) o30 ?_ ?_
     ·rintro v38 h31
      rcases cor h31 with⟨h40,h31⟩|⟨h40,h31⟩
      ·cases h31
       obtain rfl:=h32 _ rfl
       cases h12
       obtain rfl:=h13 _ rfl
       obtain rfl:=soj hF
       exact gE [bb h40,re 1]
      refine Xk [bb h40] .normal [(1,.bp 0 0),(3,iP v24),(4,iP v25),(6,iP v9),(7,.bp 1 0),(8,iP v26)] [.cells (c27 v0),.cells (c75 v19)] (λe hw=>?_)
      refine⟨_,_,hw,?_⟩
      refine gP 0 [re 1] [(1,.bp 0 0),(3,iP v24),(4,iP v25),(6,iP v9),(7,.bp 1 0),(8,iP v26),(9,iP 0)] [.cells (c27 v0),.cells (c75 v19)] ?_
      refine gB 6 ?_
      obtain⟨o46,ho46,h31⟩:=Xa h31
      refine gL ho46 (λ(v41,v42,v43)=>([(1,.bp 0 0),(3,iP v41),(4,iP v42),(6,iP v9),(7,.bp 1 0),(8,iP v26),(9,iP v43)],[.cells (c27 v0),.cells (c75 v19)])) wm ?_
      rintro⟨v41,v42,v43⟩ o47 h48 h49
      obtain⟨v51,h52,h48⟩:=Xa h48
      rcases cor h48 with⟨h53,h48⟩|⟨h53,h48⟩
      ·refine gP 0 [.r (es 4 (kX 2 c95 h52::es 2 (kL 2 c100 v51.ff::es 1 []))) [],bb h53] [(1,.bp 0 0),(3,iP v41),(4,iP v42),(6,iP v9),(7,.bp 1 0),(8,iP v26),(9,iP v43)] [.cells (c27 v0),.cells (c75 v19)] ?_
       refine gS ?_
       refine gB 7 ?_
       obtain⟨v54,h55,v56,h57,v58,h59,h48⟩:=bs3 h48
       rcases cor h48 with⟨h60,h48⟩|⟨h60,h48⟩
       ·cases h48
        obtain rfl:=h49 _ rfl
        cases h31
        obtain rfl:=h32 _ rfl
        cases h12
        obtain rfl:=h13 _ rfl
        obtain rfl:=soj hF
        exact gE [.r (es 3 (kX 2 c95 h55::es 3 (kX 2 c100 h57::es 1 (kC (CF37 h59)::es 1 [])))) [],bb h60,re 1]
       obtain⟨v61,h62,v63,h64,v65,h66,h48⟩:=bs3 h48
       obtain⟨v67,h68,v69,h70,h48⟩:=bs2 h48
       refine gP 1 [.r (es 3 (kX 2 c95 h55::es 3 (kX 2 c100 h57::es 1 (kC (CF37 h59)::es 1 [])))) [],bb h60,.r (es 4 (kX 2 c95 h62::es 3 (kX 2 c100 h64::es 2 (kL 13 c147 v63.fg::es 5 (kX 2 c95 h66::es 3 (kX 2 c100 h68::es 1 (kC (CF38 h70)::es 2 []))))))) (es 1 [])] [(1,.bp 0 0),(3,iP (wi (v41+(ln v63.fg)))),(4,iP (wi (v42+v69))),(6,iP v9),(7,.bp 1 0),(8,iP v26),(9,iP v43)] [.cells (c27 v0),.cells (c75 v19)] ?_
       refine gM (λ(v71:Bool)=>([(1,.bp 0 0),(3,iP (wi (v41+(ln v63.fg)))),(4,iP (wi (v42+v69))),(6,iP v9),(7,.bp 1 0),(8,iP v26),(9,iP v43),(140,bP v71)],[.cells (c27 v0),.cells (c75 v19)],JF12_72 v41 v63 v42 v69 v43 v71)) o47 ?_ ?_
       ·rintro v71 h48
        rcases cor h48 with⟨h73,h48⟩|⟨h73,h48⟩
        ·cases h48
         obtain rfl:=h49 _ rfl
         cases h31
         obtain rfl:=h32 _ rfl
         cases h12
         obtain rfl:=h13 _ rfl
         obtain rfl:=soj hF
         exact gE [bb h73,re 1]
        refine Xk [bb h73] .normal [(1,.bp 0 0),(3,iP (wi (v41+(ln v63.fg)))),(4,iP (wi (v42+v69))),(6,iP v9),(7,.bp 1 0),(8,iP v26),(9,iP v43)] [.cells (c27 v0),.cells (c75 v19)] (λe hw=>?_)
        refine⟨_,_,hw,?_⟩
        cases h48
        exact g_to [re 3] .normal λ_ hw=>⟨rfl,hw⟩
       rcases cor h48 with⟨h74,h48⟩|⟨h74,h48⟩
       ·exact g_to [.r (es 3 (rp 2 (bq h74) (kPt (bP true) (.tup []) h74::[]))) []] .normal λ_ hw=>⟨_,_,hw,true,h48,rfl,rfl⟩
       exact g_to [.r (es 3 (rq 2 (bq h74) (kPf (bP true) (bP (decide ((wi (v42+v69))>20000))) h74::[]))) []] .normal λ_ hw=>⟨_,_,hw,decide ((wi (v42+v69))>20000),h48,rfl,rfl⟩
      cases h48
      obtain rfl:=h49 _ rfl
      exact g_to [.r (es 4 (kX 2 c95 h52::es 2 (kL 2 c100 v51.ff::es 1 []))) [],bb h53] (.exit 6) λ_ hw=>Xi (⟨_,_,hw,(v41,v42),h31,rfl,rfl⟩)
     obtain⟨v75,h76,h31⟩:=Xa h31
     rcases cor h31 with⟨h77,h31⟩|⟨h77,h31⟩
     ·exact g_to [.r (es 3 (kX 2 c95 h76::es 2 (kL 2 c230 v75.fQ::es 2 (rp 8 (bq h77) (kPt (bP true) (.tup []) h77::[]))))) []] .normal λ_ hw=>⟨_,_,hw,true,h31,rfl,rfl⟩
     obtain⟨v78,h79,h31⟩:=Xa h31
     exact g_to [.r (es 3 (kX 2 c95 h76::es 2 (kL 2 c230 v75.fQ::es 2 (rq 3 (bq h77) (bq h77::kX 2 c95 h79::rq 2 (bq h77) (bq h77::kL 2 c100 v78.ff::bq h77::es 1 (kPf (bP true) (bP (decide ((ln v78.ff)>3))) h77::[]))))))) []] .normal λ_ hw=>⟨_,_,hw,decide ((ln v78.ff)>3),h31,rfl,rfl⟩
    cases h31
    obtain rfl:=h32 _ rfl
    exact g_tc 1 [.r (es 3 (kL 2 c95 v19.fe::es 1 [])) [],bb h34] (.exit 4) λ_ _ hw=>Xi (⟨_,_,hw,(v24,v25),h12,rfl,rfl⟩)
   rcases cor h12 with⟨h80,h12⟩|⟨h80,h12⟩
   ·exact g_to [.r (es 2 (kL 2 c95 v19.fe::es 2 (rp 4 (bq h80) (kPt (bP true) (.tup []) h80::es 1 (rp 4 bqT (es 1 [])))))) []] .normal λ_ hw=>⟨_,_,hw,true,h12,rfl,rfl⟩
   rcases cor h12 with⟨h81,h12⟩|⟨h81,h12⟩
   ·exact g_to [.r (es 2 (kL 2 c95 v19.fe::es 2 (rq 2 (bq h80) (bq h80::kL 3 c111 v19.fm::bq h80::es 1 (kPf (bP true) (bP (decide ((ln v19.fm)>5))) h80::es 1 (rp 4 (bq h81) (kPt (bP true) (.tup []) h81::[]))))))) []] .normal λ_ hw=>⟨_,_,hw,true,h12,rfl,rfl⟩
   exact g_to [.r (es 2 (kL 2 c95 v19.fe::es 2 (rq 2 (bq h80) (bq h80::kL 3 c111 v19.fm::bq h80::es 1 (kPf (bP true) (bP (decide ((ln v19.fm)>5))) h80::es 1 (rq 4 (bq h81) (kPf (bP true) (bP (decide ((lns v19.fap)>300))) h81::[]))))))) []] .normal λ_ hw=>⟨_,_,hw,decide ((lns v19.fap)>300),h12,rfl,rfl⟩
  cases h12
  obtain rfl:=h13 _ rfl
  exact g_to [.r (es 3 (kL 22 c75 v0.fc::es 1 [])) [],bb h15] (.exit 2) λ_ hw=>Xi (⟨_,_,hw,(),hF,rfl,rfl⟩)
 refine gP 0 [re 1] [(1,.bp 0 0),(3,iP 0),(4,iP 0),(5,iP 0)] [.cells (c27 v0)] ?_
 refine gB 0 ?_
 obtain⟨o83,ho83,hF⟩:=Xa hF
 refine gL ho83 (λv82=>([(1,.bp 0 0),(3,iP 0),(4,iP 0),(5,iP v82)],[.cells (c27 v0)])) wm ?_
 rintro v82 o84 h85 h86
 rcases cor h85 with⟨h88,h85⟩|⟨h88,h85⟩
 ·refine gP 0 [.r (es 3 (kL 6 c68 v0.fh::es 1 [])) [],bb h88] [(1,.bp 0 0),(3,iP 0),(4,iP 0),(5,iP v82)] [.cells (c27 v0)] ?_
  refine gS ?_
  refine gB 1 ?_
  refine gM (λ(v89:Bool)=>([(1,.bp 0 0),(3,iP 0),(4,iP 0),(5,iP v82),(34,bP v89)],[.cells (c27 v0)],JF12_90 v82 v89)) o84 ?_ ?_
  ·rintro v89 h85
   rcases cor h85 with⟨h91,h85⟩|⟨h91,h85⟩
   ·cases h85
    obtain rfl:=h86 _ rfl
    obtain rfl:=soj hF
    exact gE [bb h91,re 1]
   refine Xk [bb h91] .normal [(1,.bp 0 0),(3,iP 0),(4,iP 0),(5,iP v82)] [.cells (c27 v0)] (λe hw=>?_)
   refine⟨_,_,hw,?_⟩
   cases h85
   exact g_to [re 3] .normal λ_ hw=>⟨rfl,hw⟩
  obtain⟨v92,h93,h85⟩:=Xa h85
  rcases cor h85 with⟨h94,h85⟩|⟨h94,h85⟩
  ·exact g_to [.r (es 3 (kX 6 c68 h93::es 2 (kL 3 c184 v92.ft::es 2 (rp 8 (bq h94) (kPt (bP true) (.tup []) h94::[]))))) []] .normal λ_ hw=>⟨_,_,hw,true,h85,rfl,rfl⟩
  obtain⟨v95,h96,h85⟩:=Xa h85
  exact g_to [.r (es 3 (kX 6 c68 h93::es 2 (kL 3 c184 v92.ft::es 2 (rq 3 (bq h94) (bq h94::kX 6 c68 h96::rq 4 (bq h94) (kPf (bP true) (bP (decide ((lns v95.fau)>300))) h94::[])))))) []] .normal λ_ hw=>⟨_,_,hw,decide ((lns v95.fau)>300),h85,rfl,rfl⟩
 cases h85
 obtain rfl:=h86 _ rfl
 exact g_to [.r (es 3 (kL 6 c68 v0.fh::es 1 [])) [],bb h88] (.exit 0) λ_ hw=>Xi (⟨_,_,hw,(),hF,rfl,rfl⟩)
theorem CF94 {v0 out} (hF:F94 v0=some out):A0 94 [.agg (c27 v0)] (eS 1 cI out):=by
 refine gC Tryz.func94 ?_
 refine gP 1 [re 2,re 2] [(1,.bp 0 0),(3,eS 1 cI (Sl.full [0]))] [.cells (c27 v0)] ?_
 refine gM (λ(v1:List Int)=>([(3,nP 1 1 cI v1)],[.cells (c27 v0),.grow (List.length v1) 1],JF94_2 v1)) out ?_ ?_
 ·rintro v1 hF
  refine Xk [re 2] .ret [(2,nP 1 1 cI v1)] [.cells (c27 v0),.grow (List.length v1) 1] (λe hw=>?_)
  obtain rfl:=soj hF
  exact Yw (r:=(nP 1 1 cI v1)) (.inr rfl) hw (by kernel_rfl) (Wy cl_cI) ⟨rfl,rfl⟩
 refine gP 0 [.r (es 2 (kL 22 c75 v0.fc::es 1 [])) []] [(3,eS 1 cI (Sl.full [0])),(10,eS 22 c75 v0.fc),(11,iP (ln v0.fc)),(12,iP 0)] [.cells (c27 v0)] ?_
 refine gB 0 ?_
 obtain⟨o6,ho6,hF⟩:=Xa hF
 refine gL ho6 (λ(v3,v4)=>([(3,nP 1 1 cI v3),(10,eS 22 c75 v0.fc),(11,iP (ln v0.fc)),(12,iP v4)],[.cells (c27 v0),.grow (List.length v3) 1])) ((Uc (le':=[(3,eS 1 cI (Sl.full [0])),(10,eS 22 c75 v0.fc),(11,iP (ln v0.fc)),(12,iP 0)]) (by kernel_rfl)).trans (weak_lit (le':=[(3,nP 1 1 cI [0]),(10,eS 22 c75 v0.fc),(11,iP (ln v0.fc)),(12,iP 0)]) _ 1 (kc pk_lit (kc (Vq _) (kc (Vq _) (kc (Vq _) ke)))))) ?_
 rintro⟨v3,v4⟩ o7 h8 h9
 rcases cor h8 with⟨h11,h8⟩|⟨h11,h8⟩
 ·obtain⟨v12,h13,v14,h15,v16,h17,h8⟩:=bs3 h8
  obtain⟨v18,h19,h8⟩:=Xa h8
  cases h8
  exact g_tc 2 [re 1,bb h11,.r (es 1 (kX 22 c75 h13::es 4 [])) [],.r (es 1 (kC (CF99 h15)::es 5 [])) [],.r (es 3 (kXN 1 1 cI h17::es 4 (kAN 1 1 cI h19::es 1 []))) [],re 2] .normal λ_ _ hw=>⟨rfl,hw⟩
 cases h8
 obtain rfl:=h9 _ rfl
 exact g_to [re 1,bb h11] (.exit 0) λ_ hw=>Xi (⟨_,_,hw,v3,hF,rfl,rfl⟩)
theorem CF47 {v0 out} (hF:F47 v0=some out):A0 47 [.agg (c27 v0)] (.tup [eS 1 cI out.1,iP out.2]):=by
 refine gC Tryz.func47 ?_
 obtain⟨v1,h2,hF⟩:=Xa hF
 rcases cor hF with⟨h3,hF⟩|⟨h3,hF⟩
 ·obtain rfl:=soj hF
  exact gE [re 3,.r (es 1 (kC (CF14 h2)::es 1 [])) [],bb h3,re 2]
 obtain⟨v4,h5,hF⟩:=Xa hF
 obtain rfl:=soj hF
 exact gE [re 3,.r (es 1 (kC (CF14 h2)::es 1 [])) [],bb h3,.r (es 1 (kC (CF94 h5)::es 2 [])) []]
theorem CF39 {v0 out} (hF:F39 v0=some out):A0 39 [.agg (c27 v0)] (.tup [eS 3 c173 out.1,eS 1 cI out.2]):=by
 refine gC Tryz.func39 ?_
 obtain⟨v1,h2,hF⟩:=Xa hF
 refine gP 2 [re 3,.r (es 1 (kC (CF47 h2)::es 5 [])) [],re 3] [(1,.bp 0 0),(4,eS 1 cI v1.1),(6,eS 3 c173 (Sl.full [(⟨-1,500000,false⟩:G173)]))] [.cells (c27 v0)] ?_
 refine gM (λ(v3:List G173)=>([(4,eS 1 cI v1.1),(6,nP 1 3 c173 v3)],[.cells (c27 v0),.grow (List.length v3) 3],JF39_4 v1 v3)) out ?_ ?_
 ·rintro v3 hF
  refine Xk [re 4] .ret [(2,nP 1 3 c173 v3),(3,eS 1 cI v1.1)] [.cells (c27 v0),.grow (List.length v3) 3] (λe hw=>?_)
  obtain rfl:=soj hF
  exact Yw (r:=(.tup [nP 1 3 c173 v3,eS 1 cI v1.1])) (.inr rfl) hw (by kernel_rfl) (psub_tup (qs:=[eS 3 c173 (Sl.no v3),eS 1 cI v1.1]) (pc (Wy cl173) (pc (psub_cl (cl_eS cl_cI)) pe))) ⟨rfl,rfl⟩
 refine gP 0 [.r (es 2 (kL 22 c75 v0.fc::es 1 [])) []] [(4,eS 1 cI v1.1),(6,eS 3 c173 (Sl.full [(⟨-1,500000,false⟩:G173)])),(19,eS 22 c75 v0.fc),(20,iP (ln v0.fc)),(21,iP 0)] [.cells (c27 v0)] ?_
 refine gB 0 ?_
 obtain⟨o8,ho8,hF⟩:=Xa hF
 refine gL ho8 (λ(v5,v6)=>([(4,eS 1 cI v1.1),(6,nP 1 3 c173 v5),(19,eS 22 c75 v0.fc),(20,iP (ln v0.fc)),(21,iP v6)],[.cells (c27 v0),.grow (List.length v5) 3])) ((Uc (le':=[(4,eS 1 cI v1.1),(6,eS 3 c173 (Sl.full [(⟨-1,500000,false⟩:G173)])),(19,eS 22 c75 v0.fc),(20,iP (ln v0.fc)),(21,iP 0)]) (by kernel_rfl)).trans (weak_lit (le':=[(4,eS 1 cI v1.1),(6,nP 1 3 c173 [(⟨-1,500000,false⟩:G173)]),(19,eS 22 c75 v0.fc),(20,iP (ln v0.fc)),(21,iP 0)]) _ 3 (kc (Vq _) (kc pk_lit (kc (Vq _) (kc (Vq _) (kc (Vq _) ke))))))) ?_
 rintro⟨v5,v6⟩ o9 h10 h11
 rcases cor h10 with⟨h13,h10⟩|⟨h13,h10⟩
 ·refine gP 1 [re 1,bb h13] [(4,eS 1 cI v1.1),(6,nP 1 3 c173 v5),(19,eS 22 c75 v0.fc),(20,iP (ln v0.fc)),(21,iP v6)] [.cells (c27 v0),.grow (List.length v5) 3] ?_
  refine gM (λ(v14:List G173)=>([(4,eS 1 cI v1.1),(6,nP 1 3 c173 v14),(19,eS 22 c75 v0.fc),(20,iP (ln v0.fc)),(21,iP v6)],[.cells (c27 v0),.grow (List.length v14) 3],JF39_15 v6 v14)) o9 ?_ ?_
  ·rintro v14 h10
   cases h10
   exact g_to [re 2] .normal λ_ hw=>⟨rfl,hw⟩
  refine gB 1 ?_
  obtain⟨v16,h17,h10⟩:=Xa h10
  refine gP 1 [.r (es 1 (kX 22 c75 h17::es 4 [])) [],.r (es 2 (kL 3 c111 v16.fm::es 1 [])) []] [(4,eS 1 cI v1.1),(6,nP 1 3 c173 v5),(7,iP v6),(19,eS 22 c75 v0.fc),(20,iP (ln v0.fc)),(21,iP v6),(27,eS 3 c111 v16.fm),(28,iP (ln v16.fm)),(29,iP 0)] [.cells (c27 v0),.grow (List.length v5) 3,.cells (c75 v16)] ?_
  refine gB 2 ?_
  obtain⟨o21,ho21,h10⟩:=Xa h10
  refine gL ho21 (λ(v18,v19)=>([(4,eS 1 cI v1.1),(6,nP 1 3 c173 v18),(7,iP v6),(19,eS 22 c75 v0.fc),(20,iP (ln v0.fc)),(21,iP v6),(27,eS 3 c111 v16.fm),(28,iP (ln v16.fm)),(29,iP v19)],[.cells (c27 v0),.grow (List.length v18) 3,.cells (c75 v16)])) wm ?_
  rintro⟨v18,v19⟩ o22 h23 h24
  rcases cor h23 with⟨h26,h23⟩|⟨h26,h23⟩
  ·obtain⟨v27,h28,v29,h30,v31,h32,h23⟩:=bs3 h23
   cases h23
   exact g_tc 3 [re 1,bb h26,.r (kX 3 c111 h28::es 3 []) [],.r (es 3 (kX 1 cI h30::es 10 [])) (kAN 1 3 c173 h32::es 1 []),re 2] .normal λ_ _ hw=>⟨rfl,hw⟩
  cases h23
  obtain rfl:=h24 _ rfl
  exact g_tc 2 [re 1,bb h26] (.exit 2) λ_ _ hw=>Xi (⟨_,_,hw,v18,h10,rfl,rfl⟩)
 cases h10
 obtain rfl:=h11 _ rfl
 exact g_to [re 1,bb h13] (.exit 0) λ_ hw=>Xi (⟨_,_,hw,v5,hF,rfl,rfl⟩)
theorem CF90_1 {v0 v1 v2 out} (hF:F90_1 v0 v1 v2=some out):ACall Tryz.prog 90 [iP v0,.bp 0 0,.bp 1 0] [.cells [eS 3 c173 v1],.cells [iP v2]] (λq h=>q=(bP out)/\h=[.cells [eS 3 c173 v1],.cells [iP v2]]):=by
 refine gC Tryz.func90 ?_
 obtain⟨v3,h4,hF⟩:=Xa hF
 obtain rfl:=soj hF
 exact g_rh 2 [re 1,.r (es 2 (kX 3 c173 h4::es 3 [])) (es 2 [])] .ret λ_ _ k j=>hr k j
theorem CF89_1 {v0 v1 v2 out} (hF:F89_1 v0 v1 v2=some out):ACall Tryz.prog 89 [iP v0,(.fn (.func 90) [] [.bp 0 0,.bp 1 0])] [.cells [eS 3 c173 v1],.cells [iP v2]] (λq h=>q=(iP out)/\h=[.cells [eS 3 c173 v1],.cells [iP v2]]):=by
 refine gC Tryz.func89 ?_
 refine gP 1 [re 1,re 3] [(1,(.fn (.func 90) [] [.bp 0 0,.bp 1 0])),(5,iP 0),(6,iP v0)] [.cells [eS 3 c173 v1],.cells [iP v2]] ?_
 refine gM (λ(v3:Int)=>([(5,iP v3)],[.cells [eS 3 c173 v1],.cells [iP v2]],JF89_1_4 v3)) out ?_ ?_
 ·rintro v3 hF
  obtain rfl:=soj hF
  exact g_rh 2 [re 2] .ret λ_ _ k j=>hr k j
 refine gB 0 ?_
 obtain⟨o8,ho8,hF⟩:=Xa hF
 refine gL ho8 (λ(v5,v6)=>([(1,(.fn (.func 90) [] [.bp 0 0,.bp 1 0])),(5,iP v5),(6,iP v6)],[.cells [eS 3 c173 v1],.cells [iP v2]])) wm ?_
 rintro⟨v5,v6⟩ o9 h10 h11
 rcases cor h10 with⟨h13,h10⟩|⟨h13,h10⟩
 ·obtain⟨v17,h18,h10⟩:=Xa h10
  rcases cor h10 with⟨h19,h10⟩|⟨h19,h10⟩
  ·cases h10
   exact g_to [re 3,bb h13,re 7,.r (es 2 (kQ [0,1] [] 0 2 (CF90_1 h18)::es 1 [])) [],bb h19,re 3] .normal λ_ hw=>⟨rfl,hw⟩
  cases h10
  exact g_to [re 3,bb h13,re 7,.r (es 2 (kQ [0,1] [] 0 2 (CF90_1 h18)::es 1 [])) [],bb h19,re 2] .normal λ_ hw=>⟨rfl,hw⟩
 cases h10
 obtain rfl:=h11 _ rfl
 exact g_to [re 3,bb h13] (.exit 0) λ_ hw=>Xi (⟨_,_,hw,v5,hF,rfl,rfl⟩)
theorem CF41 {v0 v1 out} (hF:F41 v0 v1=some out):A0 41 [eS 3 c173 v0,iP v1] (iP out):=by
 refine gC Tryz.func41 ?_
 obtain⟨v5,h6,hF⟩:=Xa hF
 obtain rfl:=soj hF
 exact gE [re 3,.r (es 1 (kL 3 c173 v0::es 1 (kQ [0,1] [] 0 0 (CF89_1 h6)::es 2 []))) []]
theorem CF40 {v0 v1 v2 out} (hF:F40 v0 v1 v2=some out):A0 40 [eS 3 c173 v0,iP v1,iP v2] (iP out):=by
 refine gC Tryz.func40 ?_
 obtain⟨v3,h4,hF⟩:=Xa hF
 refine gP 1 [re 1,.r (es 2 (kX 3 c173 h4::es 3 [])) []] [(0,eS 3 c173 v0),(1,iP v1),(2,iP v2),(7,.bp 0 0)] [.cells (c173 v3)] ?_
 refine gS ?_
 refine gM (λ(v5:Bool)=>([(0,eS 3 c173 v0),(1,iP v1),(2,iP v2),(7,.bp 0 0),(25,bP v5)],[.cells (c173 v3)],JF40_6 v3 v0 v1 v2 v5)) out ?_ ?_
 ·rintro v5 hF
  rcases cor hF with⟨h7,hF⟩|⟨h7,hF⟩
  ·obtain rfl:=soj hF
   exact gE [bb h7,re 3]
  refine Xk [bb h7] .normal [(0,eS 3 c173 v0),(1,iP v1),(2,iP v2),(7,.bp 0 0)] [.cells (c173 v3)] (λe hw=>?_)
  refine⟨_,_,hw,?_⟩
  obtain⟨v8,h9,v10,h11,v12,h13,hF⟩:=bs3 hF
  rcases cor hF with⟨h14,hF⟩|⟨h14,hF⟩
  ·obtain rfl:=soj hF
   exact gE [.r (es 3 (kX 3 c173 h9::es 3 [])) [],.r (es 16 []) (es 1 []),.r (es 2 (⟨.pu (.bin .quo (.c (iP (wi ((wi (v8.f2-v3.f2))*(wi (v2-v3.fL)))))) (.c (iP (wi (v8.fL-v3.fL))))) (iP v10),n_quo h11⟩::es 1 [])) [],.r (es 2 (⟨.pu (.bin .rem (.c (iP (wi ((wi (v8.f2-v3.f2))*(wi (v2-v3.fL)))))) (.c (iP (wi (v8.fL-v3.fL))))) (iP v12),n_rem h13⟩::es 1 [])) [],bb h14,re 3,re 5]
  obtain rfl:=soj hF
  exact gE [.r (es 3 (kX 3 c173 h9::es 3 [])) [],.r (es 16 []) (es 1 []),.r (es 2 (⟨.pu (.bin .quo (.c (iP (wi ((wi (v8.f2-v3.f2))*(wi (v2-v3.fL)))))) (.c (iP (wi (v8.fL-v3.fL))))) (iP v10),n_quo h11⟩::es 1 [])) [],.r (es 2 (⟨.pu (.bin .rem (.c (iP (wi ((wi (v8.f2-v3.f2))*(wi (v2-v3.fL)))))) (.c (iP (wi (v8.fL-v3.fL))))) (iP v12),n_rem h13⟩::es 1 [])) [],bb h14,re 5]
 rcases cor hF with⟨h15,hF⟩|⟨h15,hF⟩
 ·exact g_to [.r (es 4 (rp 5 (bq h15) (kPt (bP true) (.tup []) h15::[]))) []] .normal λ_ hw=>⟨_,_,hw,true,hF,rfl,rfl⟩
 exact g_to [.r (es 4 (rq 3 (bq h15) (bq h15::kL 3 c173 v0::bq h15::es 1 (kPf (bP true) (bP ((wi (v1+1))==(ln v0))) h15::[])))) []] .normal λ_ hw=>⟨_,_,hw,(wi (v1+1))==(ln v0),hF,rfl,rfl⟩
theorem CF13 {v0 v1 v2 out} (hF:F13 v0 v1 v2=some out):A0 13 [.agg (c27 v0),iP v1,iP v2] (.tup [iP out.1,iP out.2]):=by
 refine gC Tryz.func13 ?_
 obtain⟨v3,h4,hF⟩:=Xa hF
 rcases cor hF with⟨h5,hF⟩|⟨h5,hF⟩
 ·obtain rfl:=soj hF
  exact gE [re 3,.r (es 1 (kC (CF14 h4)::es 1 [])) [],bb h5,re 2]
 obtain⟨v6,h7,hF⟩:=Xa hF
 refine gP 2 [re 3,.r (es 1 (kC (CF14 h4)::es 1 [])) [],bb h5,.r (es 1 (kC (CF39 h7)::es 5 [])) []] [(1,iP v1),(2,iP v2),(3,.bp 0 0),(8,eS 3 c173 v6.1),(9,eS 1 cI v6.2)] [.cells (c27 v0)] ?_
 refine gS ?_
 refine gM (λ(v8:Bool)=>([(1,iP v1),(2,iP v2),(8,eS 3 c173 v6.1),(9,eS 1 cI v6.2),(45,bP v8)],[],JF13_9 v6 v1 v2 v8)) out ?_ ?_
 ·rintro v8 hF
  rcases cor hF with⟨h10,hF⟩|⟨h10,hF⟩
  ·obtain rfl:=soj hF
   exact gE [bb h10,re 2]
  refine Xk [bb h10] .normal [(1,iP v1),(2,iP v2),(8,eS 3 c173 v6.1),(9,eS 1 cI v6.2)] [] (λe hw=>?_)
  refine⟨_,_,hw,?_⟩
  obtain⟨v11,h12,v13,h14,v15,h16,hF⟩:=bs3 hF
  obtain rfl:=soj hF
  exact gE [.r (es 2 (kX 1 cI h12::es 4 [])) [],.r (es 3 (kC (CF41 h14)::es 1 (kC (CF40 h16)::es 2 []))) []]
 rcases cor hF with⟨h17,hF⟩|⟨h17,hF⟩
 ·exact g_tc 0 [.r (es 3 (rp 5 (bq h17) (kPt (bP true) (.tup []) h17::es 1 (rp 2 bqT (es 2 (rp 11 bqT [])))))) (bqT::es 1 [])] .normal λ_ _ hw=>⟨_,_,hw,true,hF,rfl,rfl⟩
 rcases cor hF with⟨h18,hF⟩|⟨h18,hF⟩
 ·exact g_tc 0 [.r (es 3 (rq 3 (bq h17) (bq h17::kL 22 c75 v0.fc::bq h17::es 1 (kPf (bP true) (bP (decide (v1>=(ln v0.fc)))) h17::es 1 (rp 2 (bq h18) (kPt (bP true) (.tup []) h18::es 1 (rp 11 bqT []))))))) (bqT::es 1 [])] .normal λ_ _ hw=>⟨_,_,hw,true,hF,rfl,rfl⟩
 rcases cor hF with⟨h19,hF⟩|⟨h19,hF⟩
 ·exact g_tc 0 [.r (es 3 (rq 3 (bq h17) (bq h17::kL 22 c75 v0.fc::bq h17::es 1 (kPf (bP true) (bP (decide (v1>=(ln v0.fc)))) h17::es 1 (rq 2 (bq h18) (kPf (bP true) (bP (decide (v2<0))) h18::es 1 (rp 11 (bq h19) []))))))) (bq h19::kPt (bP true) (.tup []) h19::[])] .normal λ_ _ hw=>⟨_,_,hw,true,hF,rfl,rfl⟩
 obtain⟨v20,h21,v22,h23,hF⟩:=bs2 hF
 exact g_tc 0 [.r (es 3 (rq 3 (bq h17) (bq h17::kL 22 c75 v0.fc::bq h17::es 1 (kPf (bP true) (bP (decide (v1>=(ln v0.fc)))) h17::es 1 (rq 2 (bq h18) (kPf (bP true) (bP (decide (v2<0))) h18::es 1 (rq 4 (bq h19) (bq h19::kX 1 cI h21::rq 3 (bq h19) (bq h19::kX 1 cI h23::rq 2 (bq h19) []))))))))) (bq h19::es 1 (kPf (bP true) (bP (decide (v2>(wi (v20-v22))))) h19::[]))] .normal λ_ _ hw=>⟨_,_,hw,decide (v2>(wi (v20-v22))),hF,rfl,rfl⟩
theorem CF15 {v0 out} (hF:F15 v0=some out):A0 15 [.agg (c27 v0)] (eS 1 cI out):=by
 refine gC Tryz.func15 ?_
 refine gP 1 [re 2,re 2] [(1,.bp 0 0),(3,eS 1 cI (Sl.full [0]))] [.cells (c27 v0)] ?_
 refine gM (λ(v1:List Int)=>([(3,nP 1 1 cI v1)],[.cells (c27 v0),.grow (List.length v1) 1],JF15_2 v1)) out ?_ ?_
 ·rintro v1 hF
  refine Xk [re 2] .ret [(2,nP 1 1 cI v1)] [.cells (c27 v0),.grow (List.length v1) 1] (λe hw=>?_)
  obtain rfl:=soj hF
  exact Yw (r:=(nP 1 1 cI v1)) (.inr rfl) hw (by kernel_rfl) (Wy cl_cI) ⟨rfl,rfl⟩
 refine gP 0 [re 1] [(1,.bp 0 0),(3,eS 1 cI (Sl.full [0])),(4,iP 0)] [.cells (c27 v0)] ?_
 refine gB 0 ?_
 obtain⟨o6,ho6,hF⟩:=Xa hF
 refine gL ho6 (λ(v3,v4)=>([(1,.bp 0 0),(3,nP 1 1 cI v3),(4,iP v4)],[.cells (c27 v0),.grow (List.length v3) 1])) ((Uc (le':=[(1,.bp 0 0),(3,eS 1 cI (Sl.full [0])),(4,iP 0)]) (by kernel_rfl)).trans (weak_lit (le':=[(1,.bp 0 0),(3,nP 1 1 cI [0]),(4,iP 0)]) _ 1 (kc (Vq _) (kc pk_lit (kc (Vq _) ke))))) ?_
 rintro⟨v3,v4⟩ o7 h8 h9
 rcases cor h8 with⟨h11,h8⟩|⟨h11,h8⟩
 ·obtain⟨v12,h13,h8⟩:=Xa h8
  rcases cor h8 with⟨h14,h8⟩|⟨h14,h8⟩
  ·obtain⟨v15,h16,v17,h18,v19,h20,h8⟩:=bs3 h8
   obtain⟨v21,h22,v23,h24,h8⟩:=bs2 h8
   cases h8
   exact g_to [.r (es 3 (kL 22 c75 v0.fc::es 1 [])) [],bb h11,.r (es 3 (kX 22 c75 h13::es 3 [])) [],re 2,bb h14,.r (es 3 (kX 22 c75 h16::es 7 (kX 22 c75 h18::es 3 []))) (⟨.pu (.bin .quo (.c (iP (wi (v15.fO.fE*1935360)))) (.c (iP v17.fO.fD))) (iP v19),n_quo h20⟩::es 1 []),.r (es 3 (kXN 1 1 cI h22::es 4 (kAN 1 1 cI h24::es 1 []))) [],re 3] .normal λ_ hw=>⟨rfl,hw⟩
  obtain⟨v25,h26,v27,h28,h8⟩:=bs2 h8
  cases h8
  exact g_to [.r (es 3 (kL 22 c75 v0.fc::es 1 [])) [],bb h11,.r (es 3 (kX 22 c75 h13::es 3 [])) [],re 2,bb h14,.r (es 3 (kXN 1 1 cI h26::es 4 (kAN 1 1 cI h28::es 1 []))) [],re 3] .normal λ_ hw=>⟨rfl,hw⟩
 cases h8
 obtain rfl:=h9 _ rfl
 exact g_to [.r (es 3 (kL 22 c75 v0.fc::es 1 [])) [],bb h11] (.exit 0) λ_ hw=>Xi (⟨_,_,hw,v3,hF,rfl,rfl⟩)
theorem CF16 {v0 v1 v2 out} (hF:F16 v0 v1 v2=some out):A0 16 [iP v0,iP v1,iP v2] (bP out):=by
 refine gC Tryz.func16 ?_
 rcases cor hF with⟨h3,hF⟩|⟨h3,hF⟩
 ·obtain rfl:=soj hF
  exact gE [re 1,.r (es 4 (rq 3 (bq h3) (kPt (bP (decide (v0<=v2))) (bP false) h3::es 1 []))) []]
 obtain rfl:=soj hF
 exact gE [re 1,.r (es 4 (rp 3 (bq h3) (kPf (.tup []) (bP false) h3::es 1 []))) []]
theorem CF18 {v0 v1 out} (hF:F18 v0 v1=some out):A0 18 [.agg (c27 v0),eS 1 cI v1] (eS 3 c108 out):=by
 refine gC Tryz.func18 ?_
 refine gP 1 [re 2,re 1] [(1,eS 1 cI v1),(2,.bp 0 0),(5,eS 3 c108 Sl.nil)] [.cells (c27 v0)] ?_
 refine gM (λ(v2:List G108)=>([(5,oP 1 3 c108 v2)],[.cells (c27 v0),.grow (List.length v2) 3],JF18_3 v2)) out ?_ ?_
 ·rintro v2 hF
  refine Xk [re 2] .ret [(4,oP 1 3 c108 v2)] [.cells (c27 v0),.grow (List.length v2) 3] (λe hw=>?_)
  obtain rfl:=soj hF
  exact Yw (r:=(oP 1 3 c108 v2)) (.inr rfl) hw (by kernel_rfl) (Vl cl108) ⟨rfl,rfl⟩
 refine gP 0 [re 1] [(1,eS 1 cI v1),(2,.bp 0 0),(5,eS 3 c108 Sl.nil),(6,iP 0)] [.cells (c27 v0)] ?_
 refine gB 0 ?_
 obtain⟨o7,ho7,hF⟩:=Xa hF
 refine gL ho7 (λ(v4,v5)=>([(1,eS 1 cI v1),(2,.bp 0 0),(5,oP 1 3 c108 v4),(6,iP v5)],[.cells (c27 v0),.grow (List.length v4) 3])) (((Uc (le':=[(1,eS 1 cI v1),(2,.bp 0 0),(5,eS 3 c108 Sl.nil),(6,iP 0)]) (by kernel_rfl)).trans (weak_sub (le':=[(1,eS 1 cI v1),(2,.bp 0 0),(5,oP 1 3 c108 []),(6,iP 0)]) (wc (PSub.refl _) (wc (PSub.refl _) (wc psub_nil0 (wc (PSub.refl _) we)))))).trans (weak_grow 3)) ?_
 rintro⟨v4,v5⟩ o8 h9 h10
 rcases cor h9 with⟨h12,h9⟩|⟨h12,h9⟩
 ·refine gP 0 [.r (es 3 (kL 22 c75 v0.fc::es 1 [])) [],bb h12] [(1,eS 1 cI v1),(2,.bp 0 0),(5,oP 1 3 c108 v4),(6,iP v5)] [.cells (c27 v0),.grow (List.length v4) 3] ?_
  refine gM (λ(v13:List G108)=>([(1,eS 1 cI v1),(2,.bp 0 0),(5,oP 1 3 c108 v13),(6,iP v5)],[.cells (c27 v0),.grow (List.length v13) 3],JF18_14 v5 v13)) o8 ?_ ?_
  ·rintro v13 h9
   cases h9
   exact g_to [re 3] .normal λ_ hw=>⟨rfl,hw⟩
  refine gB 1 ?_
  refine gP 0 [re 1] [(1,eS 1 cI v1),(2,.bp 0 0),(5,oP 1 3 c108 v4),(6,iP v5),(7,iP 0)] [.cells (c27 v0),.grow (List.length v4) 3] ?_
  refine gB 2 ?_
  obtain⟨o18,ho18,h9⟩:=Xa h9
  refine gL ho18 (λ(v15,v16)=>([(1,eS 1 cI v1),(2,.bp 0 0),(5,oP 1 3 c108 v15),(6,iP v5),(7,iP v16)],[.cells (c27 v0),.grow (List.length v15) 3])) wm ?_
  rintro⟨v15,v16⟩ o19 h20 h21
  obtain⟨v23,h24,h20⟩:=Xa h20
  rcases cor h20 with⟨h25,h20⟩|⟨h25,h20⟩
  ·obtain⟨v26,h27,v28,h29,v30,h31,h20⟩:=bs3 h20
   obtain⟨v32,h33,h20⟩:=Xa h20
   cases h20
   exact g_tc 2 [.r (es 4 (kX 22 c75 h24::es 2 (kL 3 c111 v23.fm::es 1 []))) [],bb h25,.r (es 3 (kX 22 c75 h27::es 3 (kX 3 c111 h29::es 3 []))) [],.r (es 3 (kX 1 cI h31::es 10 [])) (kA 1 3 c108 h33::es 1 []),re 3] .normal λ_ _ hw=>⟨rfl,hw⟩
  cases h20
  obtain rfl:=h21 _ rfl
  exact g_to [.r (es 4 (kX 22 c75 h24::es 2 (kL 3 c111 v23.fm::es 1 []))) [],bb h25] (.exit 2) λ_ hw=>Xi (⟨_,_,hw,v15,h9,rfl,rfl⟩)
 cases h9
 obtain rfl:=h10 _ rfl
 exact g_to [.r (es 3 (kL 22 c75 v0.fc::es 1 [])) [],bb h12] (.exit 0) λ_ hw=>Xi (⟨_,_,hw,v4,hF,rfl,rfl⟩)
theorem CF91 {v0 v1 out} (hF:F91 v0 v1=some out):A0 91 [.sc (.int .u64 v0),.sc (.int .u64 v1)] (.tup [.sc (.int .u64 out.1),.sc (.int .u64 out.2)]):=by
 refine gC Tryz.func91 ?_
 obtain rfl:=soj hF
 exact gE [re 2,re 3,re 3,re 3,re 3,re 4,re 7,re 3,re 3,re 6,re 9,re 4]
theorem CF42 {v0 v1 v2 v3 out} (hF:F42 v0 v1 v2 v3=some out):A0 42 [iP v0,iP v1,iP v2,iP v3] (iP out):=by
 refine gC Tryz.func42 ?_
 obtain⟨v4,h5,v6,h7,hF⟩:=bs2 hF
 rcases cor hF with⟨h8,hF⟩|⟨h8,hF⟩
 ·obtain rfl:=soj hF
  exact gE [re 1,.r (es 10 (kC (CF91 h5)::es 5 [])) [],.r (es 4 (kC (CF92 h7)::es 5 [])) [],re 3,bb h8,re 5]
 rcases cor hF with⟨h9,hF⟩|⟨h9,hF⟩
 ·obtain rfl:=soj hF
  exact gE [re 1,.r (es 10 (kC (CF91 h5)::es 5 [])) [],.r (es 4 (kC (CF92 h7)::es 5 [])) [],re 3,bb h8,re 2,bb h9,re 3,re 5]
 obtain rfl:=soj hF
 exact gE [re 1,.r (es 10 (kC (CF91 h5)::es 5 [])) [],.r (es 4 (kC (CF92 h7)::es 5 [])) [],re 3,bb h8,re 2,bb h9,re 5]
theorem CF17 {v0 v1 v2 out} (hF:F17 v0 v1 v2=some out):A0 17 [eS 3 c108 v0,iP v1,bP v2] (iP out):=by
 refine gC Tryz.func17 ?_
 refine gP 1 [re 1,re 1] [(0,eS 3 c108 v0),(1,iP v1),(2,bP v2),(7,iP (-1))] [] ?_
 refine gM (λ(v3:Int)=>([(0,eS 3 c108 v0),(1,iP v1),(7,iP v3)],[],JF17_4 v0 v1 v3)) out ?_ ?_
 ·rintro v3 hF
  rcases cor hF with⟨h5,hF⟩|⟨h5,hF⟩
  ·obtain rfl:=soj hF
   exact gE [re 2,bb h5,re 1]
  refine gP 0 [re 2,bb h5] [(0,eS 3 c108 v0),(1,iP v1),(7,iP v3)] [] ?_
  refine gS ?_
  refine gM (λ(v6:Bool)=>([(0,eS 3 c108 v0),(1,iP v1),(7,iP v3),(50,bP v6)],[],JF17_7 v0 v3 v1 v6)) out ?_ ?_
  ·rintro v6 hF
   rcases cor hF with⟨h8,hF⟩|⟨h8,hF⟩
   ·obtain⟨v9,h10,hF⟩:=Xa hF
    obtain rfl:=soj hF
    exact gE [bb h8,.r (es 2 (kX 3 c108 h10::es 3 [])) []]
   refine Xk [bb h8] .normal [(0,eS 3 c108 v0),(1,iP v1),(7,iP v3)] [] (λe hw=>?_)
   refine⟨_,_,hw,?_⟩
   obtain⟨v11,h12,v13,h14,v15,h16,hF⟩:=bs3 hF
   obtain⟨v17,h18,v19,h20,v21,h22,hF⟩:=bs3 hF
   obtain rfl:=soj hF
   exact gE [.r (es 2 (kX 3 c108 h12::es 5 (kX 3 c108 h14::es 5 (kX 3 c108 h16::es 4 (kX 3 c108 h18::es 6 (kX 3 c108 h20::es 3 [])))))) (kC (CF42 h22)::es 1 [])]
  obtain⟨v23,h24,hF⟩:=Xa hF
  rcases cor hF with⟨h25,hF⟩|⟨h25,hF⟩
  ·exact g_to [.r (es 2 (kX 3 c108 h24::es 4 (rp 5 (bq h25) (kPt (bP true) (.tup []) h25::[])))) []] .normal λ_ hw=>⟨_,_,hw,true,hF,rfl,rfl⟩
  exact g_to [.r (es 2 (kX 3 c108 h24::es 4 (rq 3 (bq h25) (bq h25::kL 3 c108 v0::bq h25::es 1 (kPf (bP true) (bP ((wi (v3+1))==(ln v0))) h25::[]))))) []] .normal λ_ hw=>⟨_,_,hw,(wi (v3+1))==(ln v0),hF,rfl,rfl⟩
 refine gP 0 [re 1] [(0,eS 3 c108 v0),(1,iP v1),(2,bP v2),(7,iP (-1)),(8,iP 0)] [] ?_
 refine gB 0 ?_
 obtain⟨o29,ho29,hF⟩:=Xa hF
 refine gL ho29 (λ(v26,v27)=>([(0,eS 3 c108 v0),(1,iP v1),(2,bP v2),(7,iP v26),(8,iP v27)],[])) wm ?_
 rintro⟨v26,v27⟩ o30 h31 h32
 rcases cor h31 with⟨h34,h31⟩|⟨h34,h31⟩
 ·refine gP 0 [.r (es 2 (kL 3 c108 v0::es 1 [])) [],bb h34] [(0,eS 3 c108 v0),(1,iP v1),(2,bP v2),(7,iP v26),(8,iP v27)] [] ?_
  refine gM (λ(v35:Int)=>([(0,eS 3 c108 v0),(1,iP v1),(2,bP v2),(7,iP v35),(8,iP v27)],[],JF17_36 v27 v35)) o30 ?_ ?_
  ·rintro v35 h31
   cases h31
   exact g_to [re 3] .normal λ_ hw=>⟨rfl,hw⟩
  refine gB 1 ?_
  refine gM (λ(v37:Bool)=>([(0,eS 3 c108 v0),(1,iP v1),(2,bP v2),(7,iP v26),(8,iP v27),(34,bP v37)],[],JF17_38 v27 v26 v37)) o30 ?_ ?_
  ·rintro v37 h31
   rcases cor h31 with⟨h39,h31⟩|⟨h39,h31⟩
   ·exact g_to [bb h39,re 2] .normal λ_ hw=>⟨_,_,hw,v27,h31,rfl,rfl⟩
   exact g_to [bb h39] .normal λ_ hw=>⟨_,_,hw,v26,h31,rfl,rfl⟩
  obtain⟨v40,h41,h31⟩:=Xa h31
  rcases cor h31 with⟨h42,h31⟩|⟨h42,h31⟩
  ·exact g_to [.r (es 2 (kX 3 c108 h41::es 5 (rp 9 (bq h42) (kPt (bP true) (.tup []) h42::[])))) []] .normal λ_ hw=>⟨_,_,hw,true,h31,rfl,rfl⟩
  obtain⟨v43,h44,h31⟩:=Xa h31
  rcases cor h31 with⟨h45,h31⟩|⟨h45,h31⟩
  ·exact g_to [.r (es 2 (kX 3 c108 h41::es 5 (rq 2 (bq h42) (bq h42::kX 3 c108 h44::rq 5 (bq h42) (rq 2 (bq h45) (bq h42::kPt (bP (!v2)) (bP false) h45::kPf (bP true) (bP (!v2)) h42::[])))))) []] .normal λ_ hw=>⟨_,_,hw,!v2,h31,rfl,rfl⟩
  exact g_to [.r (es 2 (kX 3 c108 h41::es 5 (rq 2 (bq h42) (bq h42::kX 3 c108 h44::rq 5 (bq h42) (rp 2 (bq h45) (bq h42::kPf (.tup []) (bP false) h45::kPf (bP true) (bP false) h42::[])))))) []] .normal λ_ hw=>⟨_,_,hw,false,h31,rfl,rfl⟩
 cases h31
 obtain rfl:=h32 _ rfl
 exact g_to [.r (es 2 (kL 3 c108 v0::es 1 [])) [],bb h34] (.exit 0) λ_ hw=>Xi (⟨_,_,hw,v26,hF,rfl,rfl⟩)
end
end Go.Proofs.YtibndgdocbbbeaaGreat
