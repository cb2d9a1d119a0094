/- A part of the proof. -/
import Derived.Test.YtnjmaohblihppaaGreatDoorFC4
import Derived.Test.YtnjmaohblihppaaGreatDoorKN
set_option linter.all false
set_option maxRecDepth 100000
set_option maxHeartbeats 40000000
namespace Go.Proofs.YtnjmaohblihppaaGreatDoor
open Go.PE
noncomputable section
def JF7_6:Option Bool:=some true
def JF7_14 (v7:Int):Option (Int⊕Unit⊕Unit):=some (.inl (wi (v7+1)))
def JF7_29 (v22:Int):Option (Int⊕Unit⊕Unit):=some (.inl (wi (v22+1)))
def JF7_46 (v30:Int) (v45:Bool):Option (Int⊕Unit⊕Unit):=bif v45 then (some (.inr (.inl ())))else (some (.inl (wi (v30+1))))
def LF7_35 (v15:G64Measure) (v22:Int) (v17:Int) (v30:Int):Option (Int⊕Unit⊕Unit):=(gx (Sl.es v15.fCells) v22).bind fun v36=>bif (decide (v30<(ln v36.fVoices)))then ((gx (Sl.es v15.fCells) v22).bind fun v39=>(gx (Sl.es v39.fVoices) v30).bind fun v41=>(F23 v41 v17).bind fun v43=>bif (v43.2 !=0)then (JF7_46 v30 true)else (bif (v43.1 !=v17)then (bif (decide ((ln v41.fEvents)>0))then (JF7_46 v30 true)else (bif (v30==0)then (JF7_46 v30 (v43.1==0))else (JF7_46 v30 false)))else (bif (v30==0)then (JF7_46 v30 (v43.1==0))else (JF7_46 v30 false))))else (some (.inr (.inr ())))
def LF7_27 (v15:G64Measure) (v17:Int) (v22:Int):Option (Int⊕Unit⊕Unit):=bif (decide (v22<(ln v15.fCells)))then ((loopF (fun (v30:Int)=>LF7_35 v15 v22 v17 v30) 0).bind fun o31=>match o31 with|(.inl ())=>some (.inr (.inl ()))|(.inr ())=>JF7_29 v22)else (some (.inr (.inr ())))
def JF7_18 (v0:G27Score) (v15:G64Measure) (v7:Int) (v17:Int):Option (Int⊕Unit⊕Unit):=(F22 v0).bind fun v19=>bif ((ln v15.fCells) !=v19)then (some (.inr (.inl ())))else ((loopF (fun (v22:Int)=>LF7_27 v15 v17 v22) 0).bind fun o23=>match o23 with|(.inl ())=>some (.inr (.inl ()))|(.inr ())=>JF7_14 v7)
def LF7_12 (v0:G27Score) (v7:Int):Option (Int⊕Unit⊕Unit):=bif (decide (v7<(ln v0.fMeasures)))then ((gx (Sl.es v0.fMeasures) v7).bind fun v15=>bif (v15.fLength==0)then ((gq .i64 (wi (v15.fMetre.fCount*1935360)) v15.fMetre.fUnit).bind fun v54=>JF7_18 v0 v15 v7 v54)else (JF7_18 v0 v15 v7 v15.fLength))else (some (.inr (.inr ())))
def JF7_2 (v0:G27Score) (v1:Bool):Option Bool:=bif v1 then ((F10).bind fun v4=>some v4)else ((loopF (fun (v7:Int)=>LF7_12 v0 v7) 0).bind fun o8=>match o8 with|(.inl ())=>some false|(.inr ())=>JF7_6)
def F7 (v0:G27Score):Option Bool:=(F10).bind fun v56=>bif (!v56)then (JF7_2 v0 true)else ((F11 v0).bind fun v59=>bif (!v59)then (JF7_2 v0 true)else ((F13 v0).bind fun v62=>JF7_2 v0 (!v62)))
theorem CF7 {v0 out} (hF:F7 v0=some out):A0 7 [.agg (c27 v0)] (bP out):=by
 refine gC Tryz.func7 ?_
 refine gP 0 [re 2] [(1,.bp 0 0)] [.cells (c27 v0)] ?_
 refine gS ?_
 refine gM (fun (v1:Bool)=>([(1,.bp 0 0),(22,bP v1)],[.cells (c27 v0)],JF7_2 v0 v1)) out ?_ ?_
 ·rintro v1 hF
  rcases cor hF with⟨h3,hF⟩|⟨h3,hF⟩
  ·obtain⟨v4,h5,hF⟩:=bind_some hF
   obtain rfl:=soj hF
   exact gE [bb h3,.r (kC (CF10 h5)::es 1 []) []]
  refine g_run [bb h3] .normal [(1,.bp 0 0)] [.cells (c27 v0)] (fun e hw=>?_)
  refine⟨_,_,hw,?_⟩
  refine gM (fun (_:Unit)=>([],[],JF7_6)) out ?_ ?_
  ·rintro⟨⟩ hF
   obtain rfl:=soj hF
   exact gE [re 1]
  refine gP 0 [re 1] [(1,.bp 0 0),(3,iP 0)] [.cells (c27 v0)] ?_
  refine gB 0 ?_
  obtain⟨o8,ho8,hF⟩:=bind_some hF
  refine gL ho8 (fun v7=>([(1,.bp 0 0),(3,iP v7)],[.cells (c27 v0)])) wm ?_
  rintro v7 o9 h10 h11
  rcases cor h10 with⟨h13,h10⟩|⟨h13,h10⟩
  ·refine gP 0 [.r (es 3 (kL 22 c64 v0.fMeasures::es 1 [])) [],bb h13] [(1,.bp 0 0),(3,iP v7)] [.cells (c27 v0)] ?_
   refine gM (fun (_:Unit)=>([(1,.bp 0 0),(3,iP v7)],[.cells (c27 v0)],JF7_14 v7)) o9 ?_ ?_
   ·rintro⟨⟩ h10
    cases h10
    exact g_to [re 3] .normal fun _ hw=>⟨rfl,hw⟩
   refine gB 1 ?_
   obtain⟨v15,h16,h10⟩:=bind_some h10
   refine gP 1 [.r (es 3 (kX 22 c64 h16::es 3 [])) [],re 3] [(1,.bp 0 0),(3,iP v7),(4,.bp 1 0),(5,iP v15.fLength)] [.cells (c27 v0),.cells (c64 v15)] ?_
   refine gM (fun (v17:Int)=>([(1,.bp 0 0),(3,iP v7),(4,.bp 1 0),(5,iP v17)],[.cells (c27 v0),.cells (c64 v15)],JF7_18 v0 v15 v7 v17)) o9 ?_ ?_
   ·rintro v17 h10
    obtain⟨v19,h20,h10⟩:=bind_some h10
    rcases cor h10 with⟨h21,h10⟩|⟨h21,h10⟩
    ·cases h10
     obtain rfl:=h11 _ rfl
     obtain rfl:=soj hF
     exact gE [.r (es 2 (kL 2 c69 v15.fCells::es 1 (kC (CF22 h20)::[]))) (es 1 []),bb h21,re 1]
    refine gP 1 [.r (es 2 (kL 2 c69 v15.fCells::es 1 (kC (CF22 h20)::[]))) (es 1 []),bb h21,re 1] [(1,.bp 0 0),(3,iP v7),(4,.bp 1 0),(5,iP v17),(6,iP 0)] [.cells (c27 v0),.cells (c64 v15)] ?_
    refine gB 2 ?_
    obtain⟨o23,ho23,h10⟩:=bind_some h10
    refine gL ho23 (fun v22=>([(1,.bp 0 0),(3,iP v7),(4,.bp 1 0),(5,iP v17),(6,iP v22)],[.cells (c27 v0),.cells (c64 v15)])) wm ?_
    rintro v22 o24 h25 h26
    rcases cor h25 with⟨h28,h25⟩|⟨h28,h25⟩
    ·refine gP 0 [.r (es 3 (kL 2 c69 v15.fCells::es 1 [])) [],bb h28] [(1,.bp 0 0),(3,iP v7),(4,.bp 1 0),(5,iP v17),(6,iP v22)] [.cells (c27 v0),.cells (c64 v15)] ?_
     refine gM (fun (_:Unit)=>([(1,.bp 0 0),(3,iP v7),(4,.bp 1 0),(5,iP v17),(6,iP v22)],[.cells (c27 v0),.cells (c64 v15)],JF7_29 v22)) o24 ?_ ?_
     ·rintro⟨⟩ h25
      cases h25
      exact g_to [re 3] .normal fun _ hw=>⟨rfl,hw⟩
     refine gB 3 ?_
     refine gP 0 [re 1] [(1,.bp 0 0),(3,iP v7),(4,.bp 1 0),(5,iP v17),(6,iP v22),(7,iP 0)] [.cells (c27 v0),.cells (c64 v15)] ?_
     refine gB 4 ?_
     obtain⟨o31,ho31,h25⟩:=bind_some h25
     refine gL ho31 (fun v30=>([(1,.bp 0 0),(3,iP v7),(4,.bp 1 0),(5,iP v17),(6,iP v22),(7,iP v30)],[.cells (c27 v0),.cells (c64 v15)])) wm ?_
     rintro v30 o32 h33 h34
     obtain⟨v36,h37,h33⟩:=bind_some h33
     rcases cor h33 with⟨h38,h33⟩|⟨h38,h33⟩
     ·refine gP 0 [.r (es 4 (kX 2 c69 h37::es 2 (kL 2 c73 v36.fVoices::es 1 []))) [],bb h38] [(1,.bp 0 0),(3,iP v7),(4,.bp 1 0),(5,iP v17),(6,iP v22),(7,iP v30)] [.cells (c27 v0),.cells (c64 v15)] ?_
      refine gS ?_
      refine gB 5 ?_
      obtain⟨v39,h40,v41,h42,v43,h44,h33⟩:=bs3 h33
      refine gP 1 [.r (es 3 (kX 2 c69 h40::es 3 (kX 2 c73 h42::es 3 []))) [],.r (es 2 (kC (CF23 h44)::es 5 [])) []] [(1,.bp 0 0),(3,iP v7),(4,.bp 1 0),(5,iP v17),(6,iP v22),(7,iP v30),(8,.bp 2 0),(9,iP v43.1),(10,iP v43.2)] [.cells (c27 v0),.cells (c64 v15),.cells (c73 v41)] ?_
      refine gM (fun (v45:Bool)=>([(1,.bp 0 0),(3,iP v7),(4,.bp 1 0),(5,iP v17),(6,iP v22),(7,iP v30),(107,bP v45)],[.cells (c27 v0),.cells (c64 v15)],JF7_46 v30 v45)) o32 ?_ ?_
      ·rintro v45 h33
       rcases cor h33 with⟨h47,h33⟩|⟨h47,h33⟩
       ·cases h33
        obtain rfl:=h34 _ rfl
        cases h25
        obtain rfl:=h26 _ rfl
        cases h10
        obtain rfl:=h11 _ rfl
        obtain rfl:=soj hF
        exact gE [bb h47,re 1]
       refine g_run [bb h47] .normal [(1,.bp 0 0),(3,iP v7),(4,.bp 1 0),(5,iP v17),(6,iP v22),(7,iP v30)] [.cells (c27 v0),.cells (c64 v15)] (fun e hw=>?_)
       refine⟨_,_,hw,?_⟩
       cases h33
       exact g_to [re 3] .normal fun _ hw=>⟨rfl,hw⟩
      rcases cor h33 with⟨h48,h33⟩|⟨h48,h33⟩
      ·exact g_tc 2 [.r (es 3 (rp 5 (bq h48) (kPt (bP true) (.tup []) h48::es 1 (rp 4 bqT (es 1 []))))) []] .normal fun _ _ hw=>⟨_,_,hw,true,h33,rfl,rfl⟩
      rcases cor h33 with⟨h49,h33⟩|⟨h49,h33⟩
      ·rcases cor h33 with⟨h50,h33⟩|⟨h50,h33⟩
       ·exact g_tc 2 [.r (es 3 (rq 4 (bq h48) (rq 2 (bq h49) (bq h49::kL 13 c49 v41.fEvents::bq h49::es 1 (bq h48::kPt (bP (decide ((ln v41.fEvents)>0))) (bP false) h49::kPf (bP true) (bP (decide ((ln v41.fEvents)>0))) h48::es 1 (rp 4 (bq h50) (kPt (bP true) (.tup []) h50::[]))))))) []] .normal fun _ _ hw=>⟨_,_,hw,true,h33,rfl,rfl⟩
       rcases cor h33 with⟨h51,h33⟩|⟨h51,h33⟩
       ·exact g_tc 2 [.r (es 3 (rq 4 (bq h48) (rq 2 (bq h49) (bq h49::kL 13 c49 v41.fEvents::bq h49::es 1 (bq h48::kPt (bP (decide ((ln v41.fEvents)>0))) (bP false) h49::kPf (bP true) (bP (decide ((ln v41.fEvents)>0))) h48::es 1 (rq 3 (bq h50) (rq 2 (bq h51) (bq h50::kPt (bP (v43.1==0)) (bP false) h51::kPf (bP true) (bP (v43.1==0)) h50::[])))))))) []] .normal fun _ _ hw=>⟨_,_,hw,v43.1==0,h33,rfl,rfl⟩
       exact g_tc 2 [.r (es 3 (rq 4 (bq h48) (rq 2 (bq h49) (bq h49::kL 13 c49 v41.fEvents::bq h49::es 1 (bq h48::kPt (bP (decide ((ln v41.fEvents)>0))) (bP false) h49::kPf (bP true) (bP (decide ((ln v41.fEvents)>0))) h48::es 1 (rq 3 (bq h50) (rp 2 (bq h51) (bq h50::kPf (.tup []) (bP false) h51::kPf (bP true) (bP false) h50::[])))))))) []] .normal fun _ _ hw=>⟨_,_,hw,false,h33,rfl,rfl⟩
      rcases cor h33 with⟨h52,h33⟩|⟨h52,h33⟩
      ·exact g_tc 2 [.r (es 3 (rq 4 (bq h48) (rp 4 (bq h49) (bq h48::kPf (.tup []) (bP false) h49::kPf (bP true) (bP false) h48::es 1 (rq 3 bqF (rq 2 (bq h52) (bq (t:=false) (b:=false) rfl::kPt (bP (v43.1==0)) (bP false) h52::es 1 []))))))) []] .normal fun _ _ hw=>⟨_,_,hw,v43.1==0,h33,rfl,rfl⟩
      exact g_tc 2 [.r (es 3 (rq 4 (bq h48) (rp 4 (bq h49) (bq h48::kPf (.tup []) (bP false) h49::kPf (bP true) (bP false) h48::es 1 (rq 3 bqF (rp 2 (bq h52) (bq (t:=false) (b:=false) rfl::kPf (.tup []) (bP false) h52::es 1 []))))))) []] .normal fun _ _ hw=>⟨_,_,hw,false,h33,rfl,rfl⟩
     cases h33
     obtain rfl:=h34 _ rfl
     exact g_to [.r (es 4 (kX 2 c69 h37::es 2 (kL 2 c73 v36.fVoices::es 1 []))) [],bb h38] (.exit 4) fun _ hw=>q_hit (⟨_,_,hw,(),h25,rfl,rfl⟩)
    cases h25
    obtain rfl:=h26 _ rfl
    exact g_tc 1 [.r (es 3 (kL 2 c69 v15.fCells::es 1 [])) [],bb h28] (.exit 2) fun _ _ hw=>q_hit (⟨_,_,hw,(),h10,rfl,rfl⟩)
   rcases cor h10 with⟨h53,h10⟩|⟨h53,h10⟩
   ·obtain⟨v54,h55,h10⟩:=bind_some h10
    exact g_to [re 2,bb h53,.r (es 7 (⟨.pu (.bin .quo (.c (iP (wi (v15.fMetre.fCount*1935360)))) (.c (iP v15.fMetre.fUnit))) (iP v54),n_quo h55⟩::es 1 [])) []] .normal fun _ hw=>⟨_,_,hw,v54,h10,rfl,rfl⟩
   exact g_to [re 2,bb h53] .normal fun _ hw=>⟨_,_,hw,v15.fLength,h10,rfl,rfl⟩
  cases h10
  obtain rfl:=h11 _ rfl
  exact g_tc 0 [.r (es 3 (kL 22 c64 v0.fMeasures::es 1 [])) [],bb h13] (.exit 0) fun _ _ hw=>q_hit (⟨_,_,hw,(),hF,rfl,rfl⟩)
 obtain⟨v56,h57,hF⟩:=bind_some hF
 rcases cor hF with⟨h58,hF⟩|⟨h58,hF⟩
 ·exact g_to [.r (kC (CF10 h57)::es 2 (rp 3 (bq h58) (kPt (bP true) (.tup []) h58::es 1 (rp 3 bqT (es 1 []))))) []] .normal fun _ hw=>⟨_,_,hw,true,hF,rfl,rfl⟩
 obtain⟨v59,h60,hF⟩:=bind_some hF
 rcases cor hF with⟨h61,hF⟩|⟨h61,hF⟩
 ·exact g_to [.r (kC (CF10 h57)::es 2 (bq h58::es 1 (bq h58::kC (CF11 h60)::bq h58::es 1 (kPf (bP true) (bP (!v59)) h58::es 1 (rp 3 (bq h61) (kPt (bP true) (.tup []) h61::[])))))) []] .normal fun _ hw=>⟨_,_,hw,true,hF,rfl,rfl⟩
 obtain⟨v62,h63,hF⟩:=bind_some hF
 exact g_to [.r (kC (CF10 h57)::es 2 (bq h58::es 1 (bq h58::kC (CF11 h60)::bq h58::es 1 (kPf (bP true) (bP (!v59)) h58::es 1 (bq h61::es 1 (bq h61::kC (CF13 h63)::bq h61::es 1 (kPf (bP true) (bP (!v62)) h61::[]))))))) []] .normal fun _ hw=>⟨_,_,hw,!v62,hF,rfl,rfl⟩
end
end Go.Proofs.YtnjmaohblihppaaGreatDoor
