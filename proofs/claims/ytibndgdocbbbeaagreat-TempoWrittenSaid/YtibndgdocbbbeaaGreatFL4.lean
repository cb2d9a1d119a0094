/- A part of the proof. -/
import Derived.Test.YtibndgdocbbbeaaGreatFC6
import Derived.Test.YtibndgdocbbbeaaGreatKN
import Derived.Test.YtibndgdocbbbeaaGreatSY13
import Derived.Test.YtibndgdocbbbeaaGreatHA
set_option linter.all false
set_option maxRecDepth 100000
set_option maxHeartbeats 40000000
set_option synthInstance.maxSize 100000
namespace Go.Proofs.YtibndgdocbbbeaaGreat
open Go.PE
noncomputable section
def JF4_17 (v8:Int×Int) (v0:G27) (v14:Sl Int) (v1:Int) (v2:Int) (v16:Bool):Option Bool:=bif v16 then (bif (v8.1==0)then (some (v8.2==2))else (some false))else ((F18 v0 v14).bind λv20=>(gx (Sl.es v14) v1).bind λv22=>(F17 v20 (wi (v22+v2)) false).bind λv24=>bif (v8.1==v24)then (some (v8.2==0))else (some false))
def JF4_4 (v0:G27) (v1:Int) (v2:Int) (v3:Bool):Option Bool:=bif v3 then ((F11).bind λv6=>some v6)else ((F13 v0 v1 v2).bind λv8=>(F14 v0).bind λv10=>bif (!v10)then (bif (v8.1==0)then (some (v8.2==24))else (some false))else ((F15 v0).bind λv14=>(F16 v1 0 (wi ((ln v0.fc)-(1)))).bind λv27=>bif (!v27)then (JF4_17 v8 v0 v14 v1 v2 true)else ((gx (Sl.es v14) (wi (v1+1))).bind λv30=>(gx (Sl.es v14) v1).bind λv32=>(F16 v2 0 (wi (v30-v32))).bind λv34=>JF4_17 v8 v0 v14 v1 v2 (!v34))))
def F4 (v0:G27) (v1:Int) (v2:Int):Option Bool:=(F11).bind λv36=>bif (!v36)then (JF4_4 v0 v1 v2 true)else ((F12 v0).bind λv39=>JF4_4 v0 v1 v2 (!v39))
theorem CF4 {v0:G27} {v1:Int} {v2:Int} {out:Bool} (hF:F4 v0 v1 v2=some out):ACall Tryz.prog 4 [.agg (c27 v0),iP v1,iP v2] [] (λq h=>q=(bP out)/\h=[]):=by
 unfold F4 at hF
 refine gC Tryz.func4 ?_
 refine gP 0 [re 2] [(1,iP v1),(2,iP v2),(3,.bp 0 0)] [.cells (c27 v0)] ?_
 refine gS ?_
 refine gM (λ(v3:Bool)=>([(1,iP v1),(2,iP v2),(3,.bp 0 0),(16,bP v3)],[.cells (c27 v0)],JF4_4 v0 v1 v2 v3)) out ?_ ?_
 ·rintro v3 hF
  replace hF:JF4_4 v0 v1 v2 v3=some out:=hF
  unfold JF4_4 at hF
  rcases cor hF with⟨h5,hF⟩|⟨h5,hF⟩
  ·obtain⟨v6,h7,hF⟩:=Xa hF
   obtain rfl:=soj hF
   exact g_rr [bb h5,.r (kC (CF11 h7)::es 1 []) []] .ret λ_ _ k=>er k
  refine Xk [bb h5] .normal [(1,iP v1),(2,iP v2),(3,.bp 0 0)] [.cells (c27 v0)] (λe hw=>?_)
  refine⟨_,_,hw,?_⟩
  obtain⟨v8,h9,hF⟩:=Xa hF
  obtain⟨v10,h11,hF⟩:=Xa hF
  rcases cor hF with⟨h12,hF⟩|⟨h12,hF⟩
  ·rcases cor hF with⟨h13,hF⟩|⟨h13,hF⟩
   ·obtain rfl:=soj hF
    exact g_rr [.r (es 3 (kC (CF13 h9)::es 5 [])) [],.r (es 1 (kC (CF14 h11)::es 1 [])) [],bb h12,.r (es 3 (rq 2 (bq h13) (kPt (bP (v8.2==24)) (bP false) h13::es 1 []))) []] .ret λ_ _ k=>er k
   obtain rfl:=soj hF
   exact g_rr [.r (es 3 (kC (CF13 h9)::es 5 [])) [],.r (es 1 (kC (CF14 h11)::es 1 [])) [],bb h12,.r (es 3 (rp 2 (bq h13) (kPf (.tup []) (bP false) h13::es 1 []))) []] .ret λ_ _ k=>er k
  obtain⟨v14,h15,hF⟩:=Xa hF
  refine gP 2 [.r (es 3 (kC (CF13 h9)::es 5 [])) [],.r (es 1 (kC (CF14 h11)::es 1 [])) [],bb h12,.r (es 1 (kC (CF15 h15)::es 1 [])) []] [(1,iP v1),(2,iP v2),(3,.bp 0 0),(7,iP v8.1),(8,iP v8.2),(9,eS 1 cI v14)] [.cells (c27 v0)] ?_
  refine gS ?_
  refine gM (λ(v16:Bool)=>([(1,iP v1),(2,iP v2),(3,.bp 0 0),(7,iP v8.1),(8,iP v8.2),(9,eS 1 cI v14),(57,bP v16)],[.cells (c27 v0)],JF4_17 v8 v0 v14 v1 v2 v16)) out ?_ ?_
  ·rintro v16 hF
   replace hF:JF4_17 v8 v0 v14 v1 v2 v16=some out:=hF
   unfold JF4_17 at hF
   rcases cor hF with⟨h18,hF⟩|⟨h18,hF⟩
   ·rcases cor hF with⟨h19,hF⟩|⟨h19,hF⟩
    ·obtain rfl:=soj hF
     exact g_rr [bb h18,.r (es 3 (rq 2 (bq h19) (kPt (bP (v8.2==2)) (bP false) h19::es 1 []))) []] .ret λ_ _ k=>er k
    obtain rfl:=soj hF
    exact g_rr [bb h18,.r (es 3 (rp 2 (bq h19) (kPf (.tup []) (bP false) h19::es 1 []))) []] .ret λ_ _ k=>er k
   refine Xk [bb h18] .normal [(1,iP v1),(2,iP v2),(3,.bp 0 0),(7,iP v8.1),(8,iP v8.2),(9,eS 1 cI v14)] [.cells (c27 v0)] (λe hw=>?_)
   refine⟨_,_,hw,?_⟩
   obtain⟨v20,h21,hF⟩:=Xa hF
   obtain⟨v22,h23,hF⟩:=Xa hF
   obtain⟨v24,h25,hF⟩:=Xa hF
   rcases cor hF with⟨h26,hF⟩|⟨h26,hF⟩
   ·obtain rfl:=soj hF
    exact g_rr [.r (es 3 (kC (CF18 h21)::es 2 (kX 1 cI h23::es 3 (kC (CF17 h25)::[])))) (es 2 (rq 2 (bq h26) (kPt (bP (v8.2==0)) (bP false) h26::es 1 [])))] .ret λ_ _ k=>er k
   obtain rfl:=soj hF
   exact g_rr [.r (es 3 (kC (CF18 h21)::es 2 (kX 1 cI h23::es 3 (kC (CF17 h25)::[])))) (es 2 (rp 2 (bq h26) (kPf (.tup []) (bP false) h26::es 1 [])))] .ret λ_ _ k=>er k
  obtain⟨v27,h28,hF⟩:=Xa hF
  rcases cor hF with⟨h29,hF⟩|⟨h29,hF⟩
  ·exact g_to [.r (es 3 (kL 22 c75 v0.fc::es 1 (kC (CF16 h28)::es 2 (rp 11 (bq h29) [])))) (rp 2 (bq h29) (kPt (bP true) (.tup []) h29::[]))] .normal λ_ hw=>⟨_,_,hw,true,hF,rfl,rfl⟩
  obtain⟨v30,h31,hF⟩:=Xa hF
  obtain⟨v32,h33,hF⟩:=Xa hF
  obtain⟨v34,h35,hF⟩:=Xa hF
  exact g_to [.r (es 3 (kL 22 c75 v0.fc::es 1 (kC (CF16 h28)::es 2 (rq 4 (bq h29) (bq h29::kX 1 cI h31::rq 3 (bq h29) (bq h29::kX 1 cI h33::rq 2 (bq h29) [])))))) (bq h29::kC (CF16 h35)::bq h29::es 1 (kPf (bP true) (bP (!v34)) h29::[]))] .normal λ_ hw=>⟨_,_,hw,!v34,hF,rfl,rfl⟩
 obtain⟨v36,h37,hF⟩:=Xa hF
 rcases cor hF with⟨h38,hF⟩|⟨h38,hF⟩
 ·exact g_to [.r (kC (CF11 h37)::es 2 (rp 3 (bq h38) (kPt (bP true) (.tup []) h38::[]))) []] .normal λ_ hw=>⟨_,_,hw,true,hF,rfl,rfl⟩
 obtain⟨v39,h40,hF⟩:=Xa hF
 exact g_to [.r (kC (CF11 h37)::es 2 (bq h38::es 1 (bq h38::kC (CF12 h40)::bq h38::es 1 (kPf (bP true) (bP (!v39)) h38::[])))) []] .normal λ_ hw=>⟨_,_,hw,!v39,hF,rfl,rfl⟩
end
end Go.Proofs.YtibndgdocbbbeaaGreat
