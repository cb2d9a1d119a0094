/- A part of the proof. -/
import Derived.Test.YtnjmaohblihppaaGreatDoorFC4
import Derived.Test.YtnjmaohblihppaaGreatDoorKN
set_option linter.all false
set_option maxRecDepth 100000
set_option maxHeartbeats 40000000
namespace Go.Proofs.YtnjmaohblihppaaGreatDoor
open Go.PE
noncomputable section
def JF5_8:Option Bool:=some true
def JF5_16 (v9:Int):Option (Int⊕Unit⊕Unit):=some (.inl (wi (v9+1)))
def JF5_35 (v9:Int) (v34:Bool):Option (Int⊕Unit⊕Unit):=bif v34 then (some (.inr (.inl ())))else (JF5_16 v9)
def JF5_25 (v22:G49Event×Int) (v9:Int) (v0:G27Score) (v19:G39Place×Bool) (v24:Bool):Option (Int⊕Unit⊕Unit):=bif v24 then (some (.inr (.inl ())))else ((F19 v22.1).bind fun v27=>bif (!v27)then (JF5_16 v9)else ((F20 v0 v19.1).bind fun v30=>(F17 v0 v30.1).bind fun v32=>bif (!v30.2)then (JF5_35 v9 true)else (bif (v32.2 !=0)then (JF5_35 v9 true)else ((F21 v22.1 v32.1).bind fun v39=>JF5_35 v9 (!v39)))))
def LF5_14 (v6:Sl G33ID) (v0:G27Score) (v9:Int):Option (Int⊕Unit⊕Unit):=bif (decide (v9<(ln v6)))then ((gx (Sl.es v6) v9).bind fun v17=>(F15 v0 v17).bind fun v19=>bif (v19.1.fKind !=4)then (JF5_16 v9)else ((F17 v0 v19.1).bind fun v22=>bif (v22.2 !=0)then (JF5_25 v22 v9 v0 v19 true)else ((F18 v22.1).bind fun v42=>JF5_25 v22 v9 v0 v19 (v42 !=0))))else (some (.inr (.inr ())))
def JF5_2 (v0:G27Score) (v1:Bool):Option Bool:=bif v1 then ((F10).bind fun v4=>some v4)else ((F14 v0).bind fun v6=>(loopF (fun (v9:Int)=>LF5_14 v6 v0 v9) 0).bind fun o10=>match o10 with|(.inl ())=>some false|(.inr ())=>JF5_8)
def F5 (v0:G27Score):Option Bool:=(F10).bind fun v44=>bif (!v44)then (JF5_2 v0 true)else ((F11 v0).bind fun v47=>bif (!v47)then (JF5_2 v0 true)else ((F13 v0).bind fun v50=>JF5_2 v0 (!v50)))
theorem CF5 {v0 out} (hF:F5 v0=some out):A0 5 [.agg (c27 v0)] (bP out):=by
 refine gC Tryz.func5 ?_
 refine gP 0 [re 2] [(1,.bp 0 0)] [.cells (c27 v0)] ?_
 refine gS ?_
 refine gM (fun (v1:Bool)=>([(1,.bp 0 0),(24,bP v1)],[.cells (c27 v0)],JF5_2 v0 v1)) out ?_ ?_
 ·rintro v1 hF
  rcases cor hF with⟨h3,hF⟩|⟨h3,hF⟩
  ·obtain⟨v4,h5,hF⟩:=bind_some hF
   obtain rfl:=soj hF
   exact gE [bb h3,.r (kC (CF10 h5)::es 1 []) []]
  refine g_run [bb h3] .normal [(1,.bp 0 0)] [.cells (c27 v0)] (fun e hw=>?_)
  refine⟨_,_,hw,?_⟩
  obtain⟨v6,h7,hF⟩:=bind_some hF
  refine gP 0 [.r (es 1 (kC (CF14 h7)::es 1 [])) []] [(1,.bp 0 0),(3,eS 2 c33 v6)] [.cells (c27 v0)] ?_
  refine gM (fun (_:Unit)=>([],[],JF5_8)) out ?_ ?_
  ·rintro⟨⟩ hF
   obtain rfl:=soj hF
   exact gE [re 1]
  refine gP 0 [re 1] [(1,.bp 0 0),(3,eS 2 c33 v6),(4,iP 0)] [.cells (c27 v0)] ?_
  refine gB 0 ?_
  obtain⟨o10,ho10,hF⟩:=bind_some hF
  refine gL ho10 (fun v9=>([(1,.bp 0 0),(3,eS 2 c33 v6),(4,iP v9)],[.cells (c27 v0)])) wm ?_
  rintro v9 o11 h12 h13
  rcases cor h12 with⟨h15,h12⟩|⟨h15,h12⟩
  ·refine gP 0 [.r (es 2 (kL 2 c33 v6::es 1 [])) [],bb h15] [(1,.bp 0 0),(3,eS 2 c33 v6),(4,iP v9)] [.cells (c27 v0)] ?_
   refine gM (fun (_:Unit)=>([(1,.bp 0 0),(3,eS 2 c33 v6),(4,iP v9)],[.cells (c27 v0)],JF5_16 v9)) o11 ?_ ?_
   ·rintro⟨⟩ h12
    cases h12
    exact g_to [re 3] .normal fun _ hw=>⟨rfl,hw⟩
   refine gB 1 ?_
   obtain⟨v17,h18,v19,h20,h12⟩:=bs2 h12
   rcases cor h12 with⟨h21,h12⟩|⟨h21,h12⟩
   ·exact g_tc 1 [.r (es 3 (kX 2 c33 h18::es 1 (kC (CF15 h20)::es 5 []))) (es 1 []),re 3,bb h21] (.exit 1) fun _ _ hw=>q_hit (⟨_,_,hw,(),h12,rfl,rfl⟩)
   obtain⟨v22,h23,h12⟩:=bind_some h12
   refine gP 2 [.r (es 3 (kX 2 c33 h18::es 1 (kC (CF15 h20)::es 5 []))) (es 1 []),re 3,bb h21,.r (es 2 (kC (CF17 h23)::es 6 [])) []] [(1,.bp 0 0),(3,eS 2 c33 v6),(4,iP v9),(5,.bp 1 0),(7,.bp 2 0),(8,iP v22.2)] [.cells (c27 v0),.cells [iP v19.1.fKind,iP v19.1.fPart,iP v19.1.fStaff,iP v19.1.fMeasure,iP v19.1.fVoice,iP v19.1.fEvent,iP v19.1.fSpanner],.cells [iP v22.1.fID.fSite,iP v22.1.fID.fNumber,iP v22.1.fKind,iP v22.1.fValue.fLog,iP v22.1.fValue.fDots,eS 5 c112 v22.1.fHeads,eS 5 c144 v22.1.fGraces,iP v22.1.fArticulations,iP v22.1.fOrnament,iP v22.1.fDynamic,eS 2 c135 v22.1.fLyrics,iP v22.1.fStem,iP v22.1.fBeam]] ?_
   refine gS ?_
   refine gM (fun (v24:Bool)=>([(1,.bp 0 0),(3,eS 2 c33 v6),(4,iP v9),(5,.bp 1 0),(7,.bp 2 0),(58,bP v24)],[.cells (c27 v0),.cells [iP v19.1.fKind,iP v19.1.fPart,iP v19.1.fStaff,iP v19.1.fMeasure,iP v19.1.fVoice,iP v19.1.fEvent,iP v19.1.fSpanner],.cells [iP v22.1.fID.fSite,iP v22.1.fID.fNumber,iP v22.1.fKind,iP v22.1.fValue.fLog,iP v22.1.fValue.fDots,eS 5 c112 v22.1.fHeads,eS 5 c144 v22.1.fGraces,iP v22.1.fArticulations,iP v22.1.fOrnament,iP v22.1.fDynamic,eS 2 c135 v22.1.fLyrics,iP v22.1.fStem,iP v22.1.fBeam]],JF5_25 v22 v9 v0 v19 v24)) o11 ?_ ?_
   ·rintro v24 h12
    rcases cor h12 with⟨h26,h12⟩|⟨h26,h12⟩
    ·cases h12
     obtain rfl:=h13 _ rfl
     obtain rfl:=soj hF
     exact gE [bb h26,re 1]
    refine g_run [bb h26] .normal [(1,.bp 0 0),(3,eS 2 c33 v6),(4,iP v9),(5,.bp 1 0),(7,.bp 2 0)] [.cells (c27 v0),.cells [iP v19.1.fKind,iP v19.1.fPart,iP v19.1.fStaff,iP v19.1.fMeasure,iP v19.1.fVoice,iP v19.1.fEvent,iP v19.1.fSpanner],.cells [iP v22.1.fID.fSite,iP v22.1.fID.fNumber,iP v22.1.fKind,iP v22.1.fValue.fLog,iP v22.1.fValue.fDots,eS 5 c112 v22.1.fHeads,eS 5 c144 v22.1.fGraces,iP v22.1.fArticulations,iP v22.1.fOrnament,iP v22.1.fDynamic,eS 2 c135 v22.1.fLyrics,iP v22.1.fStem,iP v22.1.fBeam]] (fun e hw=>?_)
    refine⟨_,_,hw,?_⟩
    obtain⟨v27,h28,h12⟩:=bind_some h12
    rcases cor h12 with⟨h29,h12⟩|⟨h29,h12⟩
    ·exact g_tc 1 [.r (es 1 (kC (CF19 h28)::es 1 [])) [],bb h29] (.exit 1) fun _ _ hw=>q_hit (⟨_,_,hw,(),h12,rfl,rfl⟩)
    obtain⟨v30,h31,v32,h33,h12⟩:=bs2 h12
    refine gP 2 [.r (es 1 (kC (CF19 h28)::es 1 [])) [],bb h29,.r (es 2 (kC (CF20 h31)::es 6 [])) [],.r (es 2 (kC (CF17 h33)::es 6 [])) []] [(1,.bp 0 0),(3,eS 2 c33 v6),(4,iP v9),(7,.bp 2 0),(10,bP v30.2),(11,.bp 4 0),(12,iP v32.2)] [.cells (c27 v0),.cells [iP v19.1.fKind,iP v19.1.fPart,iP v19.1.fStaff,iP v19.1.fMeasure,iP v19.1.fVoice,iP v19.1.fEvent,iP v19.1.fSpanner],.cells [iP v22.1.fID.fSite,iP v22.1.fID.fNumber,iP v22.1.fKind,iP v22.1.fValue.fLog,iP v22.1.fValue.fDots,eS 5 c112 v22.1.fHeads,eS 5 c144 v22.1.fGraces,iP v22.1.fArticulations,iP v22.1.fOrnament,iP v22.1.fDynamic,eS 2 c135 v22.1.fLyrics,iP v22.1.fStem,iP v22.1.fBeam],.cells [iP v30.1.fKind,iP v30.1.fPart,iP v30.1.fStaff,iP v30.1.fMeasure,iP v30.1.fVoice,iP v30.1.fEvent,iP v30.1.fSpanner],.cells [iP v32.1.fID.fSite,iP v32.1.fID.fNumber,iP v32.1.fKind,iP v32.1.fValue.fLog,iP v32.1.fValue.fDots,eS 5 c112 v32.1.fHeads,eS 5 c144 v32.1.fGraces,iP v32.1.fArticulations,iP v32.1.fOrnament,iP v32.1.fDynamic,eS 2 c135 v32.1.fLyrics,iP v32.1.fStem,iP v32.1.fBeam]] ?_
    refine gM (fun (v34:Bool)=>([(1,.bp 0 0),(3,eS 2 c33 v6),(4,iP v9),(85,bP v34)],[.cells (c27 v0)],JF5_35 v9 v34)) o11 ?_ ?_
    ·rintro v34 h12
     rcases cor h12 with⟨h36,h12⟩|⟨h36,h12⟩
     ·cases h12
      obtain rfl:=h13 _ rfl
      obtain rfl:=soj hF
      exact gE [bb h36,re 1]
     exact g_to [bb h36] .normal fun _ hw=>⟨_,_,hw,(),h12,rfl,rfl⟩
    rcases cor h12 with⟨h37,h12⟩|⟨h37,h12⟩
    ·exact g_tc 1 [.r (es 3 (rp 2 (bq h37) (kPt (bP true) (.tup []) h37::es 1 (rp 4 bqT (es 1 []))))) []] .normal fun _ _ hw=>⟨_,_,hw,true,h12,rfl,rfl⟩
    rcases cor h12 with⟨h38,h12⟩|⟨h38,h12⟩
    ·exact g_tc 1 [.r (es 3 (rq 2 (bq h37) (kPf (bP true) (bP (v32.2 !=0)) h37::es 1 (rp 4 (bq h38) (kPt (bP true) (.tup []) h38::[]))))) []] .normal fun _ _ hw=>⟨_,_,hw,true,h12,rfl,rfl⟩
    obtain⟨v39,h40,h12⟩:=bind_some h12
    exact g_tc 1 [.r (es 3 (rq 2 (bq h37) (kPf (bP true) (bP (v32.2 !=0)) h37::es 1 (rq 2 (bq h38) (bq h38::kC (CF21 h40)::bq h38::es 1 (kPf (bP true) (bP (!v39)) h38::[])))))) []] .normal fun _ _ hw=>⟨_,_,hw,!v39,h12,rfl,rfl⟩
   rcases cor h12 with⟨h41,h12⟩|⟨h41,h12⟩
   ·exact g_to [.r (es 3 (rp 3 (bq h41) (kPt (bP true) (.tup []) h41::[]))) []] .normal fun _ hw=>⟨_,_,hw,true,h12,rfl,rfl⟩
   obtain⟨v42,h43,h12⟩:=bind_some h12
   exact g_to [.r (es 3 (bq h41::es 1 (bq h41::kC (CF18 h43)::bq h41::es 1 (kPf (bP true) (bP (v42 !=0)) h41::[])))) []] .normal fun _ hw=>⟨_,_,hw,v42 !=0,h12,rfl,rfl⟩
  cases h12
  obtain rfl:=h13 _ rfl
  exact g_tc 0 [.r (es 2 (kL 2 c33 v6::es 1 [])) [],bb h15] (.exit 0) fun _ _ hw=>q_hit (⟨_,_,hw,(),hF,rfl,rfl⟩)
 obtain⟨v44,h45,hF⟩:=bind_some hF
 rcases cor hF with⟨h46,hF⟩|⟨h46,hF⟩
 ·exact g_to [.r (kC (CF10 h45)::es 2 (rp 3 (bq h46) (kPt (bP true) (.tup []) h46::es 1 (rp 3 bqT (es 1 []))))) []] .normal fun _ hw=>⟨_,_,hw,true,hF,rfl,rfl⟩
 obtain⟨v47,h48,hF⟩:=bind_some hF
 rcases cor hF with⟨h49,hF⟩|⟨h49,hF⟩
 ·exact g_to [.r (kC (CF10 h45)::es 2 (bq h46::es 1 (bq h46::kC (CF11 h48)::bq h46::es 1 (kPf (bP true) (bP (!v47)) h46::es 1 (rp 3 (bq h49) (kPt (bP true) (.tup []) h49::[])))))) []] .normal fun _ hw=>⟨_,_,hw,true,hF,rfl,rfl⟩
 obtain⟨v50,h51,hF⟩:=bind_some hF
 exact g_to [.r (kC (CF10 h45)::es 2 (bq h46::es 1 (bq h46::kC (CF11 h48)::bq h46::es 1 (kPf (bP true) (bP (!v47)) h46::es 1 (bq h49::es 1 (bq h49::kC (CF13 h51)::bq h49::es 1 (kPf (bP true) (bP (!v50)) h49::[]))))))) []] .normal fun _ hw=>⟨_,_,hw,!v50,hF,rfl,rfl⟩
end
end Go.Proofs.YtnjmaohblihppaaGreatDoor
