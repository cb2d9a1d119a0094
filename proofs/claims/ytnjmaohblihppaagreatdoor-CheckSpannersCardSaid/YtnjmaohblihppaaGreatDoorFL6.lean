/- A part of the proof. -/
import Derived.Test.YtnjmaohblihppaaGreatDoorFC4
import Derived.Test.YtnjmaohblihppaaGreatDoorKN
set_option linter.all false
set_option maxRecDepth 100000
set_option maxHeartbeats 40000000
namespace Go.Proofs.YtnjmaohblihppaaGreatDoor
open Go.PE
noncomputable section
def JF6_10 (v0:G27) (v9:Sl G126):Option Bool:=(F13 (⟨v0.fae,v0.faq,v0.fi,v0.fc,v9,v0.fB⟩:G27)).bind λv11=>(F13 v0).bind λv13=>some (v11==v13)
def JF6_3 (v1:Int) (v0:G27) (v2:Bool):Option Bool:=bif v2 then ((F10).bind λv5=>some v5)else ((gr (wi v1) (ln v0.fh)).bind λv7=>(gslR v0.fh v7 (ln v0.fh)).bind λv15=>bif (List.isEmpty (Sl.es v15))then ((gslR v0.fh 0 v7).bind λv18=>bif (List.isEmpty (Sl.es v18))then (JF6_10 v0 (Sl.full []))else ((gapp 56 [] (Sl.es v18)).bind λv21=>JF6_10 v0 (mkSl v21)))else ((gapp 56 [] (Sl.es v15)).bind λv23=>(gslR v0.fh 0 v7).bind λv25=>(gapp 56 v23 (Sl.es v25)).bind λv27=>JF6_10 v0 (mkSl v27)))
def F6 (v0:G27) (v1:Int):Option Bool:=(F10).bind λv29=>bif (!v29)then (JF6_3 v1 v0 true)else ((F11 v0).bind λv32=>bif (!v32)then (JF6_3 v1 v0 true)else (JF6_3 v1 v0 ((ln v0.fh)==0)))
theorem CF6 {v0 v1 out} (hF:F6 v0 v1=some out):A0 6 [.agg (c27 v0),.sc (.int .u8 v1)] (bP out):=by
 refine gC Tryz.func6 ?_
 refine gP 0 [re 2] [(1,.sc (.int .u8 v1)),(2,.bp 0 0)] [.cells (c27 v0)] ?_
 refine gS ?_
 refine gM (λ(v2:Bool)=>([(1,.sc (.int .u8 v1)),(2,.bp 0 0),(19,bP v2)],[.cells (c27 v0)],JF6_3 v1 v0 v2)) out ?_ ?_
 ·rintro v2 hF
  rcases cor hF with⟨h4,hF⟩|⟨h4,hF⟩
  ·obtain⟨v5,h6,hF⟩:=Xa hF
   obtain rfl:=soj hF
   exact gE [bb h4,.r (kC (CF10 h6)::es 1 []) []]
  refine Xk [bb h4] .normal [(1,.sc (.int .u8 v1)),(2,.bp 0 0)] [.cells (c27 v0)] (λe hw=>?_)
  refine⟨_,_,hw,?_⟩
  obtain⟨v7,h8,hF⟩:=Xa hF
  refine gP 1 [re 3,.r (es 4 (kL 7 c126 v0.fh::⟨.pu (.bin .rem (.c (iP (wi v1))) (.c (iP (ln v0.fh)))) (iP v7),n_rem h8⟩::es 1 [])) []] [(2,.bp 0 0),(5,.bp 1 0),(6,iP v7)] [.cells (c27 v0),.cells (c27 v0)] ?_
  refine gM (λ(v9:Sl G126)=>([(2,.bp 0 0),(5,.bp 1 0)],[.cells (c27 v0),.cells [sP v0.fae,bP v0.faq,eS 6 c89 v0.fi,eS 22 c64 v0.fc,eS 7 c126 v9,eS 2 c33 v0.fB]],JF6_10 v0 v9)) out ?_ ?_
  ·rintro v9 hF
   obtain⟨v11,h12,v13,h14,hF⟩:=bs2 hF
   obtain rfl:=soj hF
   exact gE [.r (es 1 (kC (CF13 h12)::es 1 [])) (kC (CF13 h14)::es 2 [])]
  obtain⟨v15,h16,hF⟩:=Xa hF
  rcases cor hF with⟨h17,hF⟩|⟨h17,hF⟩
  ·obtain⟨v18,h19,hF⟩:=Xa hF
   rcases cor hF with⟨h20,hF⟩|⟨h20,hF⟩
   ·exact g_to [.r (es 4 (⟨.pu (.slSl 7 (.c (eS 7 c126 v0.fh)) (some (.c (iP v7))) none none) (eS 7 c126 v15),n_slh h16⟩::⟨.st (.append 7 56 (.c (eS 7 c126 (Sl.full []))) (.c (eS 7 c126 v15))) [.cells (c27 v0),.cells (c27 v0)] (eS 7 c126 (Sl.full [])) [.cells (c27 v0),.cells (c27 v0)] 2,n_appE h17⟩::es 3 (⟨.pu (.slSl 7 (.c (eS 7 c126 v0.fh)) none (some (.c (iP v7))) none) (eS 7 c126 v18),n_sll h19⟩::[]))) (⟨.st (.append 7 56 (.c (eS 7 c126 (Sl.full []))) (.c (eS 7 c126 v18))) [.cells (c27 v0),.cells (c27 v0)] (eS 7 c126 (Sl.full [])) [.cells (c27 v0),.cells (c27 v0)] 2,n_appE h20⟩::es 2 [])] .normal λ_ hw=>⟨_,_,hw,Sl.full [],hF,rfl,rfl⟩
   obtain⟨v21,h22,hF⟩:=Xa hF
   exact Xk [.r (es 4 (⟨.pu (.slSl 7 (.c (eS 7 c126 v0.fh)) (some (.c (iP v7))) none none) (eS 7 c126 v15),n_slh h16⟩::⟨.st (.append 7 56 (.c (eS 7 c126 (Sl.full []))) (.c (eS 7 c126 v15))) [.cells (c27 v0),.cells (c27 v0)] (eS 7 c126 (Sl.full [])) [.cells (c27 v0),.cells (c27 v0)] 2,n_appE h17⟩::es 3 (⟨.pu (.slSl 7 (.c (eS 7 c126 v0.fh)) none (some (.c (iP v7))) none) (eS 7 c126 v18),n_sll h19⟩::[]))) (⟨.st (.append 7 56 (.c (eS 7 c126 (Sl.full []))) (.c (eS 7 c126 v18))) [.cells (c27 v0),.cells (c27 v0)] (oP 2 7 c126 v21) [.cells (c27 v0),.cells (c27 v0),.grow (List.length v21) 7] 2,(n_appN h22 h20 (by decide) (λ_=>rfl))⟩::es 2 [])] .normal [(2,.bp 0 0),(5,.bp 1 0)] [.cells (c27 v0),.cells [sP v0.fae,bP v0.faq,eS 6 c89 v0.fi,eS 22 c64 v0.fc,oP 2 7 c126 v21,eS 2 c33 v0.fB],.grow (List.length v21) 7] λ_ hw=>⟨_,_,hw.trans ((weak_blk 1 rfl (qc (PSub.refl _) (qc (PSub.refl _) (qc (PSub.refl _) (qc (PSub.refl _) (qc psub_acc0 (qc (PSub.refl _) qe))))))).trans (Wz 2)),mkSl v21,hF,rfl,rfl⟩
  obtain⟨v23,h24,v25,h26,v27,h28,hF⟩:=bs3 hF
  exact Xk [.r (es 4 (⟨.pu (.slSl 7 (.c (eS 7 c126 v0.fh)) (some (.c (iP v7))) none none) (eS 7 c126 v15),n_slh h16⟩::⟨.st (.append 7 56 (.c (eS 7 c126 (Sl.full []))) (.c (eS 7 c126 v15))) [.cells (c27 v0),.cells (c27 v0)] (oP 2 7 c126 v23) [.cells (c27 v0),.cells (c27 v0),.grow (List.length v23) 7] 2,(n_appN h24 h17 (by decide) (λ_=>rfl))⟩::es 3 (⟨.pu (.slSl 7 (.c (eS 7 c126 v0.fh)) none (some (.c (iP v7))) none) (eS 7 c126 v25),n_sll h26⟩::[]))) (kA 2 7 c126 h28::es 2 [])] .normal [(2,.bp 0 0),(5,.bp 1 0)] [.cells (c27 v0),.cells [sP v0.fae,bP v0.faq,eS 6 c89 v0.fi,eS 22 c64 v0.fc,oP 2 7 c126 v27,eS 2 c33 v0.fB],.grow (List.length v27) 7] λ_ hw=>⟨_,_,hw.trans ((weak_blk 1 rfl (qc (PSub.refl _) (qc (PSub.refl _) (qc (PSub.refl _) (qc (PSub.refl _) (qc psub_acc0 (qc (PSub.refl _) qe))))))).trans (Wz 2)),mkSl v27,hF,rfl,rfl⟩
 obtain⟨v29,h30,hF⟩:=Xa hF
 rcases cor hF with⟨h31,hF⟩|⟨h31,hF⟩
 ·exact g_to [.r (kC (CF10 h30)::es 2 (rp 3 (bq h31) (kPt (bP true) (.tup []) h31::es 1 (rp 4 bqT (es 1 []))))) []] .normal λ_ hw=>⟨_,_,hw,true,hF,rfl,rfl⟩
 obtain⟨v32,h33,hF⟩:=Xa hF
 rcases cor hF with⟨h34,hF⟩|⟨h34,hF⟩
 ·exact g_to [.r (kC (CF10 h30)::es 2 (bq h31::es 1 (bq h31::kC (CF11 h33)::bq h31::es 1 (kPf (bP true) (bP (!v32)) h31::es 1 (rp 4 (bq h34) (kPt (bP true) (.tup []) h34::[])))))) []] .normal λ_ hw=>⟨_,_,hw,true,hF,rfl,rfl⟩
 exact g_to [.r (kC (CF10 h30)::es 2 (bq h31::es 1 (bq h31::kC (CF11 h33)::bq h31::es 1 (kPf (bP true) (bP (!v32)) h31::es 1 (rq 2 (bq h34) (bq h34::kL 7 c126 v0.fh::bq h34::es 1 (kPf (bP true) (bP ((ln v0.fh)==0)) h34::[]))))))) []] .normal λ_ hw=>⟨_,_,hw,(ln v0.fh)==0,hF,rfl,rfl⟩
end
end Go.Proofs.YtnjmaohblihppaaGreatDoor
