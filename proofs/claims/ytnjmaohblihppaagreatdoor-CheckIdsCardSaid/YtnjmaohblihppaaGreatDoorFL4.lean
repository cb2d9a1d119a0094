/- A part of the proof. -/
import Derived.Test.YtnjmaohblihppaaGreatDoorFC4
import Derived.Test.YtnjmaohblihppaaGreatDoorKN
set_option linter.all false
set_option maxRecDepth 100000
set_option maxHeartbeats 40000000
namespace Go.Proofs.YtnjmaohblihppaaGreatDoor
open Go.PE
noncomputable section
def JF4_8 (v6:Sl G33ID):Option Bool:=some (decide ((ln v6)≥3))
def JF4_22 (v6:Sl G33ID) (v9:Int) (v10:(GM G33ID Bool)) (v21:Bool):Option ((Int×(GM G33ID Bool))⊕Unit⊕Unit):=bif v21 then (some (.inr (.inl ())))else ((gx (Sl.es v6) v9).bind fun v24=>some (.inl ((wi (v9+1)),gmPut keq33 v10 v24 true)))
def LF4_15 (v6:Sl G33ID) (v0:G27Score) (v9:Int) (v10:(GM G33ID Bool)):Option ((Int×(GM G33ID Bool))⊕Unit⊕Unit):=bif (decide (v9<(ln v6)))then ((gx (Sl.es v6) v9).bind fun v17=>(F15 v0 v17).bind fun v19=>(gx (Sl.es v6) v9).bind fun v26=>(gmGet keq33 v10 v26 false).bind fun v28=>bif v28 then (JF4_22 v6 v9 v10 true)else (bif (!v19.2)then (JF4_22 v6 v9 v10 true)else ((gx (Sl.es v6) v9).bind fun v32=>(gx (Sl.es v6) v9).bind fun v34=>(F16 v0 v34.fSite).bind fun v36=>JF4_22 v6 v9 v10 (decide (v32.fNumber>v36)))))else (some (.inr (.inr ())))
def JF4_2 (v0:G27Score) (v1:Bool):Option Bool:=bif v1 then ((F10).bind fun v4=>some v4)else ((F14 v0).bind fun v6=>(loopF (fun (x:Int×(GM G33ID Bool))=>match x with|(v9,v10)=>LF4_15 v6 v0 v9 v10) (0,⟨[],[],0⟩)).bind fun o11=>match o11 with|(.inl ())=>some false|(.inr ())=>JF4_8 v6)
def F4 (v0:G27Score):Option Bool:=(F10).bind fun v38=>bif (!v38)then (JF4_2 v0 true)else ((F11 v0).bind fun v41=>bif (!v41)then (JF4_2 v0 true)else ((F13 v0).bind fun v44=>JF4_2 v0 (!v44)))
theorem CF4 {v0 out} (hF:F4 v0=some out):A0 4 [.agg (c27 v0)] (bP out):=by
 refine gC Tryz.func4 ?_
 refine gP 0 [re 2] [(1,.bp 0 0)] [.cells (c27 v0)] ?_
 refine gS ?_
 refine gM (fun (v1:Bool)=>([(1,.bp 0 0),(19,bP v1)],[.cells (c27 v0)],JF4_2 v0 v1)) out ?_ ?_
 ·rintro v1 hF
  rcases cor hF with⟨h3,hF⟩|⟨h3,hF⟩
  ·obtain⟨v4,h5,hF⟩:=bind_some hF
   obtain rfl:=soj hF
   exact gE [bb h3,.r (kC (CF10 h5)::es 1 []) []]
  refine g_run [bb h3] .normal [(1,.bp 0 0)] [.cells (c27 v0)] (fun e hw=>?_)
  refine⟨_,_,hw,?_⟩
  obtain⟨v6,h7,hF⟩:=bind_some hF
  refine gP 1 [.r (es 1 (kC (CF14 h7)::es 1 [])) [],re 2] [(1,.bp 0 0),(3,eS 2 c33 v6),(4,.mp 1)] [.cells (c27 v0),gmB kv33 bP (⟨[],[],0⟩)] ?_
  refine gM (fun (_:Unit)=>([(3,eS 2 c33 v6)],[],JF4_8 v6)) out ?_ ?_
  ·rintro⟨⟩ hF
   obtain rfl:=soj hF
   exact gE [.r (es 1 (kL 2 c33 v6::es 2 [])) []]
  refine gP 0 [re 1] [(1,.bp 0 0),(3,eS 2 c33 v6),(4,.mp 1),(5,iP 0)] [.cells (c27 v0),gmB kv33 bP (⟨[],[],0⟩)] ?_
  refine gB 0 ?_
  obtain⟨o11,ho11,hF⟩:=bind_some hF
  refine gL ho11 (fun (v9,v10)=>([(1,.bp 0 0),(3,eS 2 c33 v6),(4,.mp 1),(5,iP v9)],[.cells (c27 v0),gmB kv33 bP v10])) wm ?_
  rintro⟨v9,v10⟩ o12 h13 h14
  rcases cor h13 with⟨h16,h13⟩|⟨h16,h13⟩
  ·refine gP 0 [.r (es 2 (kL 2 c33 v6::es 1 [])) [],bb h16] [(1,.bp 0 0),(3,eS 2 c33 v6),(4,.mp 1),(5,iP v9)] [.cells (c27 v0),gmB kv33 bP v10] ?_
   refine gS ?_
   refine gB 1 ?_
   refine gS ?_
   obtain⟨v17,h18,v19,h20,h13⟩:=bs2 h13
   refine gP 0 [.r (es 3 (kX 2 c33 h18::es 1 (kC (CF15 h20)::es 5 []))) (es 1 [])] [(1,.bp 0 0),(3,eS 2 c33 v6),(4,.mp 1),(5,iP v9),(7,bP v19.2)] [.cells (c27 v0),gmB kv33 bP v10,.cells [iP v19.1.fKind,iP v19.1.fPart,iP v19.1.fStaff,iP v19.1.fMeasure,iP v19.1.fVoice,iP v19.1.fEvent,iP v19.1.fSpanner]] ?_
   refine gM (fun (v21:Bool)=>([(1,.bp 0 0),(3,eS 2 c33 v6),(4,.mp 1),(5,iP v9),(63,bP v21)],[.cells (c27 v0),gmB kv33 bP v10],JF4_22 v6 v9 v10 v21)) o12 ?_ ?_
   ·rintro v21 h13
    rcases cor h13 with⟨h23,h13⟩|⟨h23,h13⟩
    ·cases h13
     obtain rfl:=h14 _ rfl
     obtain rfl:=soj hF
     exact gE [bb h23,re 1]
    refine g_run [bb h23] .normal [(1,.bp 0 0),(3,eS 2 c33 v6),(4,.mp 1),(5,iP v9)] [.cells (c27 v0),gmB kv33 bP v10] (fun e hw=>?_)
    refine⟨_,_,hw,?_⟩
    obtain⟨v24,h25,h13⟩:=bind_some h13
    refine g_run [.r (es 3 (kX 2 c33 h25::es 1 (⟨.fr (.mapUp [.i,.i] true (.c (.mp 1)) (.c (.agg (c33 v24))) (.c (bP true))) [1] [gmB kv33 bP v10] [gmB kv33 bP (gmPut keq33 v10 v24 true)] (.tup []),fr_mapUp (kv:=kv33) (pv:=fun x=>PV.sc (.bool x)) (k:=v24) (v:=true) rfl rfl ⟨rfl,rfl⟩ (fun _ _=>rfl)⟩::[]))) []] .normal [(1,.bp 0 0),(3,eS 2 c33 v6),(4,.mp 1),(5,iP v9)] [.cells (c27 v0),gmB kv33 bP (gmPut keq33 v10 v24 true)] (fun e hw=>?_)
    refine⟨_,_,hw,?_⟩
    cases h13
    exact g_to [re 3] .normal fun _ hw=>⟨rfl,hw⟩
   obtain⟨v26,h27,v28,h29,h13⟩:=bs2 h13
   rcases cor h13 with⟨h30,h13⟩|⟨h30,h13⟩
   ·exact g_tc 2 [.r (es 3 (kX 2 c33 h27::es 1 (⟨.fd (.lookup [.i,.i] true (bP false) (.c (.mp 1)) (.c (.agg (c33 v26))) false) [1] [gmB kv33 bP v10] (bP v28),fd_lookup (kv:=kv33) (pv:=fun x=>PV.sc (.bool x)) h29 rfl rfl ⟨rfl,rfl⟩ (fun _ _=>rfl)⟩::es 1 (rp 2 (bq h30) (kPt (bP true) (.tup []) h30::es 1 (rp 12 bqT [])))))) (bqT::es 1 [])] .normal fun _ _ hw=>⟨_,_,hw,true,h13,rfl,rfl⟩
   rcases cor h13 with⟨h31,h13⟩|⟨h31,h13⟩
   ·exact g_tc 2 [.r (es 3 (kX 2 c33 h27::es 1 (⟨.fd (.lookup [.i,.i] true (bP false) (.c (.mp 1)) (.c (.agg (c33 v26))) false) [1] [gmB kv33 bP v10] (bP v28),fd_lookup (kv:=kv33) (pv:=fun x=>PV.sc (.bool x)) h29 rfl rfl ⟨rfl,rfl⟩ (fun _ _=>rfl)⟩::es 1 (rq 2 (bq h30) (kPf (bP true) (bP (!v19.2)) h30::es 1 (rp 12 (bq h31) [])))))) (bq h31::kPt (bP true) (.tup []) h31::[])] .normal fun _ _ hw=>⟨_,_,hw,true,h13,rfl,rfl⟩
   obtain⟨v32,h33,v34,h35,v36,h37,h13⟩:=bs3 h13
   exact g_tc 2 [.r (es 3 (kX 2 c33 h27::es 1 (⟨.fd (.lookup [.i,.i] true (bP false) (.c (.mp 1)) (.c (.agg (c33 v26))) false) [1] [gmB kv33 bP v10] (bP v28),fd_lookup (kv:=kv33) (pv:=fun x=>PV.sc (.bool x)) h29 rfl rfl ⟨rfl,rfl⟩ (fun _ _=>rfl)⟩::es 1 (rq 2 (bq h30) (kPf (bP true) (bP (!v19.2)) h30::es 1 (rq 2 (bq h31) (bq h31::kX 2 c33 h33::rq 5 (bq h31) (bq h31::kX 2 c33 h35::rq 2 (bq h31) (bq h31::kC (CF16 h37)::[]))))))))) (bq h31::es 1 (kPf (bP true) (bP (decide (v32.fNumber>v36))) h31::[]))] .normal fun _ _ hw=>⟨_,_,hw,decide (v32.fNumber>v36),h13,rfl,rfl⟩
  cases h13
  obtain rfl:=h14 _ rfl
  exact g_tc 0 [.r (es 2 (kL 2 c33 v6::es 1 [])) [],bb h16] (.exit 0) fun _ _ hw=>q_hit (⟨_,_,hw,(),hF,rfl,rfl⟩)
 obtain⟨v38,h39,hF⟩:=bind_some hF
 rcases cor hF with⟨h40,hF⟩|⟨h40,hF⟩
 ·exact g_to [.r (kC (CF10 h39)::es 2 (rp 3 (bq h40) (kPt (bP true) (.tup []) h40::es 1 (rp 3 bqT (es 1 []))))) []] .normal fun _ hw=>⟨_,_,hw,true,hF,rfl,rfl⟩
 obtain⟨v41,h42,hF⟩:=bind_some hF
 rcases cor hF with⟨h43,hF⟩|⟨h43,hF⟩
 ·exact g_to [.r (kC (CF10 h39)::es 2 (bq h40::es 1 (bq h40::kC (CF11 h42)::bq h40::es 1 (kPf (bP true) (bP (!v41)) h40::es 1 (rp 3 (bq h43) (kPt (bP true) (.tup []) h43::[])))))) []] .normal fun _ hw=>⟨_,_,hw,true,hF,rfl,rfl⟩
 obtain⟨v44,h45,hF⟩:=bind_some hF
 exact g_to [.r (kC (CF10 h39)::es 2 (bq h40::es 1 (bq h40::kC (CF11 h42)::bq h40::es 1 (kPf (bP true) (bP (!v41)) h40::es 1 (bq h43::es 1 (bq h43::kC (CF13 h45)::bq h43::es 1 (kPf (bP true) (bP (!v44)) h43::[]))))))) []] .normal fun _ hw=>⟨_,_,hw,!v44,hF,rfl,rfl⟩
end
end Go.Proofs.YtnjmaohblihppaaGreatDoor
