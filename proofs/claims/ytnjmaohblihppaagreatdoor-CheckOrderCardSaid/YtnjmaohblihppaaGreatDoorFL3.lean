/- A part of the proof. -/
import Derived.Test.YtnjmaohblihppaaGreatDoorFC4
import Derived.Test.YtnjmaohblihppaaGreatDoorKN
set_option linter.all false
set_option maxRecDepth 100000
set_option maxHeartbeats 40000000
namespace Go.Proofs.YtnjmaohblihppaaGreatDoor
open Go.PE
noncomputable section
def JF3_8:Option Bool:=some true
def JF3_17 (v9:Int) (v16:Bool):Option (Int⊕Unit⊕Unit):=bif v16 then (some (.inr (.inl ())))else (some (.inl (wi (v9+1))))
def LF3_14 (v6:Sl G35Violation) (v9:Int):Option (Int⊕Unit⊕Unit):=bif (decide (v9<(ln v6)))then ((gx (Sl.es v6) v9).bind fun v19=>bif (decide (v19.fRule<1))then (JF3_17 v9 true)else ((gx (Sl.es v6) v9).bind fun v22=>bif (decide (v22.fRule>17))then (JF3_17 v9 true)else (bif (decide (v9>0))then ((gx (Sl.es v6) (wi (v9-(1)))).bind fun v26=>(gx (Sl.es v6) v9).bind fun v28=>bif (decide (v26.fRule>v28.fRule))then (JF3_17 v9 true)else ((gx (Sl.es v6) 0).bind fun v31=>bif (v31.fRule==1)then ((gx (Sl.es v6) v9).bind fun v34=>bif (v34.fRule !=1)then (JF3_17 v9 true)else ((gx (Sl.es v6) 0).bind fun v37=>bif (decide (v37.fRule≤9))then ((gx (Sl.es v6) v9).bind fun v40=>JF3_17 v9 (decide (v40.fRule>9)))else (JF3_17 v9 false)))else ((gx (Sl.es v6) 0).bind fun v42=>bif (decide (v42.fRule≤9))then ((gx (Sl.es v6) v9).bind fun v45=>JF3_17 v9 (decide (v45.fRule>9)))else (JF3_17 v9 false))))else ((gx (Sl.es v6) 0).bind fun v47=>bif (v47.fRule==1)then ((gx (Sl.es v6) v9).bind fun v50=>bif (v50.fRule !=1)then (JF3_17 v9 true)else ((gx (Sl.es v6) 0).bind fun v53=>bif (decide (v53.fRule≤9))then ((gx (Sl.es v6) v9).bind fun v56=>JF3_17 v9 (decide (v56.fRule>9)))else (JF3_17 v9 false)))else ((gx (Sl.es v6) 0).bind fun v58=>bif (decide (v58.fRule≤9))then ((gx (Sl.es v6) v9).bind fun v61=>JF3_17 v9 (decide (v61.fRule>9)))else (JF3_17 v9 false))))))else (some (.inr (.inr ())))
def JF3_2 (v0:G27Score) (v1:Bool):Option Bool:=bif v1 then ((F10).bind fun v4=>some v4)else ((F12 v0).bind fun v6=>(loopF (fun (v9:Int)=>LF3_14 v6 v9) 0).bind fun o10=>match o10 with|(.inl ())=>some false|(.inr ())=>JF3_8)
def F3 (v0:G27Score):Option Bool:=(F10).bind fun v63=>bif (!v63)then (JF3_2 v0 true)else ((F11 v0).bind fun v66=>JF3_2 v0 (!v66))
theorem CF3 {v0 out} (hF:F3 v0=some out):A0 3 [.agg (c27 v0)] (bP out):=by
 refine gC Tryz.func3 ?_
 refine gP 0 [re 2] [(1,.bp 0 0)] [.cells (c27 v0)] ?_
 refine gS ?_
 refine gM (fun (v1:Bool)=>([(1,.bp 0 0),(11,bP v1)],[.cells (c27 v0)],JF3_2 v0 v1)) out ?_ ?_
 ·rintro v1 hF
  rcases cor hF with⟨h3,hF⟩|⟨h3,hF⟩
  ·obtain⟨v4,h5,hF⟩:=bind_some hF
   obtain rfl:=soj hF
   exact gE [bb h3,.r (kC (CF10 h5)::es 1 []) []]
  refine g_run [bb h3] .normal [(1,.bp 0 0)] [.cells (c27 v0)] (fun e hw=>?_)
  refine⟨_,_,hw,?_⟩
  obtain⟨v6,h7,hF⟩:=bind_some hF
  refine gP 0 [.r (es 1 (kC (CF12 h7)::es 1 [])) []] [(3,eS 3 c35 v6)] [.cells (c27 v0)] ?_
  refine gM (fun (_:Unit)=>([],[],JF3_8)) out ?_ ?_
  ·rintro⟨⟩ hF
   obtain rfl:=soj hF
   exact gE [re 1]
  refine gP 0 [re 1] [(3,eS 3 c35 v6),(4,iP 0)] [.cells (c27 v0)] ?_
  refine gB 0 ?_
  obtain⟨o10,ho10,hF⟩:=bind_some hF
  refine gL ho10 (fun v9=>([(3,eS 3 c35 v6),(4,iP v9)],[.cells (c27 v0)])) wm ?_
  rintro v9 o11 h12 h13
  rcases cor h12 with⟨h15,h12⟩|⟨h15,h12⟩
  ·refine gP 0 [.r (es 2 (kL 3 c35 v6::es 1 [])) [],bb h15] [(3,eS 3 c35 v6),(4,iP v9)] [.cells (c27 v0)] ?_
   refine gS ?_
   refine gB 1 ?_
   refine gM (fun (v16:Bool)=>([(3,eS 3 c35 v6),(4,iP v9),(82,bP v16)],[.cells (c27 v0)],JF3_17 v9 v16)) o11 ?_ ?_
   ·rintro v16 h12
    rcases cor h12 with⟨h18,h12⟩|⟨h18,h12⟩
    ·cases h12
     obtain rfl:=h13 _ rfl
     obtain rfl:=soj hF
     exact gE [bb h18,re 1]
    refine g_run [bb h18] .normal [(3,eS 3 c35 v6),(4,iP v9)] [.cells (c27 v0)] (fun e hw=>?_)
    refine⟨_,_,hw,?_⟩
    cases h12
    exact g_to [re 3] .normal fun _ hw=>⟨rfl,hw⟩
   obtain⟨v19,h20,h12⟩:=bind_some h12
   rcases cor h12 with⟨h21,h12⟩|⟨h21,h12⟩
   ·exact g_to [.r (es 2 (kX 3 c35 h20::es 4 (rp 6 (bq h21) (kPt (bP true) (.tup []) h21::es 1 (rp 4 bqT (es 2 (rp 7 bqT (es 2 (rp 6 bqT []))))))))) (bqT::es 1 [])] .normal fun _ hw=>⟨_,_,hw,true,h12,rfl,rfl⟩
   obtain⟨v22,h23,h12⟩:=bind_some h12
   rcases cor h12 with⟨h24,h12⟩|⟨h24,h12⟩
   ·exact g_to [.r (es 2 (kX 3 c35 h20::es 4 (rq 2 (bq h21) (bq h21::kX 3 c35 h23::rq 3 (bq h21) (kPf (bP true) (bP (decide (v22.fRule>17))) h21::es 1 (rp 4 (bq h24) (kPt (bP true) (.tup []) h24::es 1 (rp 7 bqT (es 2 (rp 6 bqT [])))))))))) (bqT::es 1 [])] .normal fun _ hw=>⟨_,_,hw,true,h12,rfl,rfl⟩
   rcases cor h12 with⟨h25,h12⟩|⟨h25,h12⟩
   ·obtain⟨v26,h27,v28,h29,h12⟩:=bs2 h12
    rcases cor h12 with⟨h30,h12⟩|⟨h30,h12⟩
    ·exact g_to [.r (es 2 (kX 3 c35 h20::es 4 (rq 2 (bq h21) (bq h21::kX 3 c35 h23::rq 3 (bq h21) (kPf (bP true) (bP (decide (v22.fRule>17))) h21::es 1 (rq 3 (bq h24) (rq 3 (bq h25) (bq h25::kX 3 c35 h27::rq 4 (bq h25) (bq h25::kX 3 c35 h29::rq 3 (bq h25) (bq h24::kPt (bP (decide (v26.fRule>v28.fRule))) (bP false) h25::kPf (bP true) (bP (decide (v26.fRule>v28.fRule))) h24::es 1 (rp 7 (bq h30) (kPt (bP true) (.tup []) h30::es 1 (rp 6 bqT []))))))))))))) (bqT::es 1 [])] .normal fun _ hw=>⟨_,_,hw,true,h12,rfl,rfl⟩
    obtain⟨v31,h32,h12⟩:=bind_some h12
    rcases cor h12 with⟨h33,h12⟩|⟨h33,h12⟩
    ·obtain⟨v34,h35,h12⟩:=bind_some h12
     rcases cor h12 with⟨h36,h12⟩|⟨h36,h12⟩
     ·exact g_to [.r (es 2 (kX 3 c35 h20::es 4 (rq 2 (bq h21) (bq h21::kX 3 c35 h23::rq 3 (bq h21) (kPf (bP true) (bP (decide (v22.fRule>17))) h21::es 1 (rq 3 (bq h24) (rq 3 (bq h25) (bq h25::kX 3 c35 h27::rq 4 (bq h25) (bq h25::kX 3 c35 h29::rq 3 (bq h25) (bq h24::kPt (bP (decide (v26.fRule>v28.fRule))) (bP false) h25::kPf (bP true) (bP (decide (v26.fRule>v28.fRule))) h24::es 1 (bq h30::es 1 (bq h30::kX 3 c35 h32::rq 4 (bq h30) (rq 2 (bq h33) (bq h33::kX 3 c35 h35::rq 3 (bq h33) (bq h30::kPt (bP (v34.fRule !=1)) (bP false) h33::kPf (bP true) (bP (v34.fRule !=1)) h30::es 1 (rp 6 (bq h36) [])))))))))))))))) (bq h36::kPt (bP true) (.tup []) h36::[])] .normal fun _ hw=>⟨_,_,hw,true,h12,rfl,rfl⟩
     obtain⟨v37,h38,h12⟩:=bind_some h12
     rcases cor h12 with⟨h39,h12⟩|⟨h39,h12⟩
     ·obtain⟨v40,h41,h12⟩:=bind_some h12
      exact g_to [.r (es 2 (kX 3 c35 h20::es 4 (rq 2 (bq h21) (bq h21::kX 3 c35 h23::rq 3 (bq h21) (kPf (bP true) (bP (decide (v22.fRule>17))) h21::es 1 (rq 3 (bq h24) (rq 3 (bq h25) (bq h25::kX 3 c35 h27::rq 4 (bq h25) (bq h25::kX 3 c35 h29::rq 3 (bq h25) (bq h24::kPt (bP (decide (v26.fRule>v28.fRule))) (bP false) h25::kPf (bP true) (bP (decide (v26.fRule>v28.fRule))) h24::es 1 (bq h30::es 1 (bq h30::kX 3 c35 h32::rq 4 (bq h30) (rq 2 (bq h33) (bq h33::kX 3 c35 h35::rq 3 (bq h33) (bq h30::kPt (bP (v34.fRule !=1)) (bP false) h33::kPf (bP true) (bP (v34.fRule !=1)) h30::es 1 (bq h36::es 1 (bq h36::kX 3 c35 h38::rq 4 (bq h36) (rq 2 (bq h39) [])))))))))))))))))) (bq h39::kX 3 c35 h41::rq 3 (bq h39) (bq h36::kPt (bP (decide (v40.fRule>9))) (bP false) h39::kPf (bP true) (bP (decide (v40.fRule>9))) h36::[]))] .normal fun _ hw=>⟨_,_,hw,decide (v40.fRule>9),h12,rfl,rfl⟩
     exact g_to [.r (es 2 (kX 3 c35 h20::es 4 (rq 2 (bq h21) (bq h21::kX 3 c35 h23::rq 3 (bq h21) (kPf (bP true) (bP (decide (v22.fRule>17))) h21::es 1 (rq 3 (bq h24) (rq 3 (bq h25) (bq h25::kX 3 c35 h27::rq 4 (bq h25) (bq h25::kX 3 c35 h29::rq 3 (bq h25) (bq h24::kPt (bP (decide (v26.fRule>v28.fRule))) (bP false) h25::kPf (bP true) (bP (decide (v26.fRule>v28.fRule))) h24::es 1 (bq h30::es 1 (bq h30::kX 3 c35 h32::rq 4 (bq h30) (rq 2 (bq h33) (bq h33::kX 3 c35 h35::rq 3 (bq h33) (bq h30::kPt (bP (v34.fRule !=1)) (bP false) h33::kPf (bP true) (bP (v34.fRule !=1)) h30::es 1 (bq h36::es 1 (bq h36::kX 3 c35 h38::rq 4 (bq h36) (rp 2 (bq h39) [])))))))))))))))))) (rp 4 (bq h39) (bq h36::kPf (.tup []) (bP false) h39::kPf (bP true) (bP false) h36::[]))] .normal fun _ hw=>⟨_,_,hw,false,h12,rfl,rfl⟩
    obtain⟨v42,h43,h12⟩:=bind_some h12
    rcases cor h12 with⟨h44,h12⟩|⟨h44,h12⟩
    ·obtain⟨v45,h46,h12⟩:=bind_some h12
     exact g_to [.r (es 2 (kX 3 c35 h20::es 4 (rq 2 (bq h21) (bq h21::kX 3 c35 h23::rq 3 (bq h21) (kPf (bP true) (bP (decide (v22.fRule>17))) h21::es 1 (rq 3 (bq h24) (rq 3 (bq h25) (bq h25::kX 3 c35 h27::rq 4 (bq h25) (bq h25::kX 3 c35 h29::rq 3 (bq h25) (bq h24::kPt (bP (decide (v26.fRule>v28.fRule))) (bP false) h25::kPf (bP true) (bP (decide (v26.fRule>v28.fRule))) h24::es 1 (bq h30::es 1 (bq h30::kX 3 c35 h32::rq 4 (bq h30) (rp 6 (bq h33) (bq h30::kPf (.tup []) (bP false) h33::kPf (bP true) (bP false) h30::es 1 (bq (t:=false) (b:=false) rfl::es 1 (bq (t:=false) (b:=false) rfl::kX 3 c35 h43::rq 4 bqF (rq 2 (bq h44) []))))))))))))))))) (bq h44::kX 3 c35 h46::rq 3 (bq h44) (bq (t:=false) (b:=false) rfl::kPt (bP (decide (v45.fRule>9))) (bP false) h44::es 1 []))] .normal fun _ hw=>⟨_,_,hw,decide (v45.fRule>9),h12,rfl,rfl⟩
    exact g_to [.r (es 2 (kX 3 c35 h20::es 4 (rq 2 (bq h21) (bq h21::kX 3 c35 h23::rq 3 (bq h21) (kPf (bP true) (bP (decide (v22.fRule>17))) h21::es 1 (rq 3 (bq h24) (rq 3 (bq h25) (bq h25::kX 3 c35 h27::rq 4 (bq h25) (bq h25::kX 3 c35 h29::rq 3 (bq h25) (bq h24::kPt (bP (decide (v26.fRule>v28.fRule))) (bP false) h25::kPf (bP true) (bP (decide (v26.fRule>v28.fRule))) h24::es 1 (bq h30::es 1 (bq h30::kX 3 c35 h32::rq 4 (bq h30) (rp 6 (bq h33) (bq h30::kPf (.tup []) (bP false) h33::kPf (bP true) (bP false) h30::es 1 (bq (t:=false) (b:=false) rfl::es 1 (bq (t:=false) (b:=false) rfl::kX 3 c35 h43::rq 4 bqF (rp 2 (bq h44) []))))))))))))))))) (rp 4 (bq h44) (bq (t:=false) (b:=false) rfl::kPf (.tup []) (bP false) h44::es 1 []))] .normal fun _ hw=>⟨_,_,hw,false,h12,rfl,rfl⟩
   obtain⟨v47,h48,h12⟩:=bind_some h12
   rcases cor h12 with⟨h49,h12⟩|⟨h49,h12⟩
   ·obtain⟨v50,h51,h12⟩:=bind_some h12
    rcases cor h12 with⟨h52,h12⟩|⟨h52,h12⟩
    ·exact g_to [.r (es 2 (kX 3 c35 h20::es 4 (rq 2 (bq h21) (bq h21::kX 3 c35 h23::rq 3 (bq h21) (kPf (bP true) (bP (decide (v22.fRule>17))) h21::es 1 (rq 3 (bq h24) (rp 12 (bq h25) (bq h24::kPf (.tup []) (bP false) h25::kPf (bP true) (bP false) h24::es 1 (bq (t:=false) (b:=false) rfl::es 1 (bq (t:=false) (b:=false) rfl::kX 3 c35 h48::rq 4 bqF (rq 2 (bq h49) (bq h49::kX 3 c35 h51::rq 3 (bq h49) (bq (t:=false) (b:=false) rfl::kPt (bP (v50.fRule !=1)) (bP false) h49::es 2 (rp 6 (bq h52) [])))))))))))))) (bq h52::kPt (bP true) (.tup []) h52::[])] .normal fun _ hw=>⟨_,_,hw,true,h12,rfl,rfl⟩
    obtain⟨v53,h54,h12⟩:=bind_some h12
    rcases cor h12 with⟨h55,h12⟩|⟨h55,h12⟩
    ·obtain⟨v56,h57,h12⟩:=bind_some h12
     exact g_to [.r (es 2 (kX 3 c35 h20::es 4 (rq 2 (bq h21) (bq h21::kX 3 c35 h23::rq 3 (bq h21) (kPf (bP true) (bP (decide (v22.fRule>17))) h21::es 1 (rq 3 (bq h24) (rp 12 (bq h25) (bq h24::kPf (.tup []) (bP false) h25::kPf (bP true) (bP false) h24::es 1 (bq (t:=false) (b:=false) rfl::es 1 (bq (t:=false) (b:=false) rfl::kX 3 c35 h48::rq 4 bqF (rq 2 (bq h49) (bq h49::kX 3 c35 h51::rq 3 (bq h49) (bq (t:=false) (b:=false) rfl::kPt (bP (v50.fRule !=1)) (bP false) h49::es 2 (bq h52::es 1 (bq h52::kX 3 c35 h54::rq 4 (bq h52) (rq 2 (bq h55) [])))))))))))))))) (bq h55::kX 3 c35 h57::rq 3 (bq h55) (bq h52::kPt (bP (decide (v56.fRule>9))) (bP false) h55::kPf (bP true) (bP (decide (v56.fRule>9))) h52::[]))] .normal fun _ hw=>⟨_,_,hw,decide (v56.fRule>9),h12,rfl,rfl⟩
    exact g_to [.r (es 2 (kX 3 c35 h20::es 4 (rq 2 (bq h21) (bq h21::kX 3 c35 h23::rq 3 (bq h21) (kPf (bP true) (bP (decide (v22.fRule>17))) h21::es 1 (rq 3 (bq h24) (rp 12 (bq h25) (bq h24::kPf (.tup []) (bP false) h25::kPf (bP true) (bP false) h24::es 1 (bq (t:=false) (b:=false) rfl::es 1 (bq (t:=false) (b:=false) rfl::kX 3 c35 h48::rq 4 bqF (rq 2 (bq h49) (bq h49::kX 3 c35 h51::rq 3 (bq h49) (bq (t:=false) (b:=false) rfl::kPt (bP (v50.fRule !=1)) (bP false) h49::es 2 (bq h52::es 1 (bq h52::kX 3 c35 h54::rq 4 (bq h52) (rp 2 (bq h55) [])))))))))))))))) (rp 4 (bq h55) (bq h52::kPf (.tup []) (bP false) h55::kPf (bP true) (bP false) h52::[]))] .normal fun _ hw=>⟨_,_,hw,false,h12,rfl,rfl⟩
   obtain⟨v58,h59,h12⟩:=bind_some h12
   rcases cor h12 with⟨h60,h12⟩|⟨h60,h12⟩
   ·obtain⟨v61,h62,h12⟩:=bind_some h12
    exact g_to [.r (es 2 (kX 3 c35 h20::es 4 (rq 2 (bq h21) (bq h21::kX 3 c35 h23::rq 3 (bq h21) (kPf (bP true) (bP (decide (v22.fRule>17))) h21::es 1 (rq 3 (bq h24) (rp 12 (bq h25) (bq h24::kPf (.tup []) (bP false) h25::kPf (bP true) (bP false) h24::es 1 (bq (t:=false) (b:=false) rfl::es 1 (bq (t:=false) (b:=false) rfl::kX 3 c35 h48::rq 4 bqF (rp 6 (bq h49) (bq (t:=false) (b:=false) rfl::kPf (.tup []) (bP false) h49::es 2 (bq (t:=false) (b:=false) rfl::es 1 (bq (t:=false) (b:=false) rfl::kX 3 c35 h59::rq 4 bqF (rq 2 (bq h60) []))))))))))))))) (bq h60::kX 3 c35 h62::rq 3 (bq h60) (bq (t:=false) (b:=false) rfl::kPt (bP (decide (v61.fRule>9))) (bP false) h60::es 1 []))] .normal fun _ hw=>⟨_,_,hw,decide (v61.fRule>9),h12,rfl,rfl⟩
   exact g_to [.r (es 2 (kX 3 c35 h20::es 4 (rq 2 (bq h21) (bq h21::kX 3 c35 h23::rq 3 (bq h21) (kPf (bP true) (bP (decide (v22.fRule>17))) h21::es 1 (rq 3 (bq h24) (rp 12 (bq h25) (bq h24::kPf (.tup []) (bP false) h25::kPf (bP true) (bP false) h24::es 1 (bq (t:=false) (b:=false) rfl::es 1 (bq (t:=false) (b:=false) rfl::kX 3 c35 h48::rq 4 bqF (rp 6 (bq h49) (bq (t:=false) (b:=false) rfl::kPf (.tup []) (bP false) h49::es 2 (bq (t:=false) (b:=false) rfl::es 1 (bq (t:=false) (b:=false) rfl::kX 3 c35 h59::rq 4 bqF (rp 2 (bq h60) []))))))))))))))) (rp 4 (bq h60) (bq (t:=false) (b:=false) rfl::kPf (.tup []) (bP false) h60::es 1 []))] .normal fun _ hw=>⟨_,_,hw,false,h12,rfl,rfl⟩
  cases h12
  obtain rfl:=h13 _ rfl
  exact g_tc 0 [.r (es 2 (kL 3 c35 v6::es 1 [])) [],bb h15] (.exit 0) fun _ _ hw=>q_hit (⟨_,_,hw,(),hF,rfl,rfl⟩)
 obtain⟨v63,h64,hF⟩:=bind_some hF
 rcases cor hF with⟨h65,hF⟩|⟨h65,hF⟩
 ·exact g_to [.r (kC (CF10 h64)::es 2 (rp 3 (bq h65) (kPt (bP true) (.tup []) h65::[]))) []] .normal fun _ hw=>⟨_,_,hw,true,hF,rfl,rfl⟩
 obtain⟨v66,h67,hF⟩:=bind_some hF
 exact g_to [.r (kC (CF10 h64)::es 2 (bq h65::es 1 (bq h65::kC (CF11 h67)::bq h65::es 1 (kPf (bP true) (bP (!v66)) h65::[])))) []] .normal fun _ hw=>⟨_,_,hw,!v66,hF,rfl,rfl⟩
end
end Go.Proofs.YtnjmaohblihppaaGreatDoor
