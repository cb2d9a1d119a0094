/- A part of the proof. -/
import Derived.Test.YtibndgdocbbbeaaGreatNW
import Derived.Test.YtibndgdocbbbeaaGreatKN
set_option linter.all false
set_option maxRecDepth 100000
set_option maxHeartbeats 40000000
namespace Go.Proofs.YtibndgdocbbbeaaGreat
open Go.PE Go.RowKit
noncomputable section
theorem n_opt {v:Option G119}:Nt.ok Tryz.prog (.pu (.eqN .pt false (.c (pO v)) (.c (.sc (.pointer none)))) (bP (Option.isNone v))):=by cases v<;>rfl
theorem n_optC {v:Option G119} {x:G119} (h:v=some x):Nt.ok Tryz.prog (.pu (.nilCheck (.c (pO v))) (.ip (c119 x))):=by subst h;rfl
def JF22_4 (d:Option G119) (a:Int) (e:Bool):Option (Int×Int):=bif e then (some (0,2))else ((d).bind λb=>(gx (Sl.es b.faE) a).bind λc=>some (c,0))
def F22 (b:Option G119) (a:Int):Option (Int×Int):=bif (Option.isNone b)then (some (0,1))else (bif (decide (a<0))then (JF22_4 b a true)else ((b).bind λc=>JF22_4 b a (decide (a>=(ln c.faE)))))
theorem CF22 {d:(Option G119)} {g:Int} {f:Int×Int} (a:F22 d g=some f):ACall Tryz.prog 22 [pO d,iP g] [] (λq h=>q=(.tup [iP f.1,iP f.2])/\h=[]):=by
 unfold F22 at a
 refine gC Tryz.func22 ?_
 refine gP 0 [re 2] [(0,pO d),(1,iP g)] [] ?_
 refine gS ?_
 refine gB 0 ?_
 refine gP 0 [.r (es 1 (⟨.pu (.eqN .pt false (.c (pO d)) (.c (.sc (.pointer none)))) (bP (Option.isNone d)),n_opt⟩::es 1 [])) []] [(0,pO d),(1,iP g),(6,bP (Option.isNone d))] [] ?_
 refine gK (Option.isNone d) (λn=>?_) (λn=>?_)
 ·replace a:=cond_t n a
  obtain rfl:=soj a
  exact g_rr [re 2] .ret λ_ _ k=>er k
 replace a:=cond_f n a
 refine gM (λ(l:Bool)=>([(0,pO d),(1,iP g),(9,bP l)],[],JF22_4 d g l)) f ?_ ?_
 ·rintro l a
  replace a:JF22_4 d g l=some f:=a
  unfold JF22_4 at a
  rcases cor a with⟨m,a⟩|⟨m,a⟩
  ·obtain rfl:=soj a
   exact g_rr [bb m,re 2] .ret λ_ _ k=>er k
  refine Yp [bb m] .normal [(0,pO d),(1,iP g)] [] (λe j=>?_)
  refine⟨_,_,j,?_⟩
  obtain⟨p,t,a⟩:=Xa a
  obtain⟨u,s,a⟩:=Xa a
  obtain rfl:=soj a
  exact g_rr [.r (es 1 (⟨.pu (.nilCheck (.c (pO d))) (.ip (c119 p)),n_optC t⟩::es 3 (kX 1 cI s::es 3 []))) []] .ret λ_ _ k=>er k
 rcases cor a with⟨b,a⟩|⟨b,a⟩
 ·exact g_to [.r (es 3 (rp 7 (bq b) (kPt (bP true) (.tup []) b::es 1 []))) []] .normal λ_ j=>⟨_,_,j,true,a,rfl,rfl⟩
 obtain⟨i,o,a⟩:=Xa a
 exact g_to [.r (es 3 (rq 2 (bq b) (bq b::⟨.pu (.nilCheck (.c (pO d))) (.ip (c119 i)),n_optC o⟩::rq 2 (bq b) (bq b::kL 1 cI i.faE::bq b::es 1 (kPf (bP true) (bP (decide (g>=(ln i.faE)))) b::es 1 []))))) []] .normal λ_ j=>⟨_,_,j,decide (g>=(ln i.faE)),a,rfl,rfl⟩
def F24 (a:Option G119):Option (Sl G90):=bif (Option.isNone a)then (some Sl.nil)else ((a).bind λb=>(F49 b.faQ).bind λc=>some c)
theorem CF24 {b:(Option G119)} {d:(Sl G90)} (a:F24 b=some d):ACall Tryz.prog 24 [pO b] [] (λq h=>q=(eS 5 c90 d)/\h=[]):=by
 unfold F24 at a
 refine gC Tryz.func24 ?_
 rcases cor a with⟨e,a⟩|⟨e,a⟩
 ·obtain rfl:=soj a
  exact g_rr [re 1,.r (es 1 (⟨.pu (.eqN .pt false (.c (pO b)) (.c (.sc (.pointer none)))) (bP (Option.isNone b)),n_opt⟩::[])) [],bb e,re 1] .ret λ_ _ k=>er k
 obtain⟨f,i,a⟩:=Xa a
 obtain⟨j,g,a⟩:=Xa a
 obtain rfl:=soj a
 exact g_rr [re 1,.r (es 1 (⟨.pu (.eqN .pt false (.c (pO b)) (.c (.sc (.pointer none)))) (bP (Option.isNone b)),n_opt⟩::[])) [],bb e,.r (es 1 (⟨.pu (.nilCheck (.c (pO b))) (.ip (c119 f)),n_optC i⟩::es 2 (kC (CF49 g)::es 1 []))) []] .ret λ_ _ k=>er k
def JF5_23 (f:Int) (g:Sl G114) (a:Int×Int) (e:(Sl G90)×(Sl Int)) (d:Bool):Option Bool:=bif d then (some false)else ((F16 f 0 (ln g)).bind λb=>bif (!b)then (bif (a.1==0)then (some (a.2==2))else (some false))else ((gx (Sl.es e.2) f).bind λc=>bif (a.1==c)then (some (a.2==0))else (some false)))
def JF5_4 (f:G27) (d:Sl G114) (g:Int) (l:Bool):Option Bool:=bif l then ((F11).bind λk=>some k)else ((F19 f d).bind λa=>(F14 f).bind λh=>bif (!h)then (bif (Option.isNone a.1)then (some (a.2==24))else (some false))else ((F20 f d).bind λc=>bif (c !=0)then (bif (Option.isNone a.1)then (some (a.2==c))else (some false))else ((F21 f d).bind λb=>(F22 a.1 g).bind λe=>bif (a.2 !=0)then (JF5_23 g d e b true)else ((F24 a.1).bind λj=>(F23 j b.1).bind λi=>JF5_23 g d e b (!i)))))
def F5 (b:G27) (a:Sl G114) (c:Int):Option Bool:=(F11).bind λd=>bif (!d)then (JF5_4 b a c true)else ((F12 b).bind λe=>bif (!e)then (JF5_4 b a c true)else (JF5_4 b a c (decide ((ln a)>40))))
theorem CF5 {D:G27} {i:(Sl G114)} {p:Int} {l:Bool} (a:F5 D i p=some l):ACall Tryz.prog 5 [.agg (c27 D),eS 2 c114 i,iP p] [] (λq h=>q=(bP l)/\h=[]):=by
 unfold F5 at a
 refine gC Tryz.func5 ?_
 refine gP 0 [re 2] [(1,eS 2 c114 i),(2,iP p),(3,.bp 0 0)] [.cells (c27 D)] ?_
 refine gS ?_
 refine gM (λ(M:Bool)=>([(1,eS 2 c114 i),(2,iP p),(3,.bp 0 0),(25,bP M)],[.cells (c27 D)],JF5_4 D i p M)) l ?_ ?_
 ·rintro M a
  replace a:JF5_4 D i p M=some l:=a
  unfold JF5_4 at a
  rcases cor a with⟨O,a⟩|⟨O,a⟩
  ·obtain⟨Z,U,a⟩:=Xa a
   obtain rfl:=soj a
   exact g_rr [bb O,.r (kC (CF11 U)::es 1 []) []] .ret λ_ _ k=>er k
  refine Yp [bb O] .normal [(1,eS 2 c114 i),(2,iP p),(3,.bp 0 0)] [.cells (c27 D)] (λe o=>?_)
  refine⟨_,_,o,?_⟩
  obtain⟨s,K,a⟩:=Xa a
  obtain⟨X,x,a⟩:=Xa a
  rcases cor a with⟨m,a⟩|⟨m,a⟩
  ·rcases cor a with⟨y,a⟩|⟨y,a⟩
   ·obtain rfl:=soj a
    exact g_rr [.r (es 2 (kC (CF19 K)::es 5 [])) [],.r (es 1 (kC (CF14 x)::es 1 [])) [],bb m,.r (es 1 (⟨.pu (.eqN .pt false (.c (pO s.1)) (.c (.sc (.pointer none)))) (bP (Option.isNone s.1)),n_opt⟩::es 1 (rq 2 (bq y) (kPt (bP (s.2==24)) (bP false) y::es 1 [])))) []] .ret λ_ _ k=>er k
   obtain rfl:=soj a
   exact g_rr [.r (es 2 (kC (CF19 K)::es 5 [])) [],.r (es 1 (kC (CF14 x)::es 1 [])) [],bb m,.r (es 1 (⟨.pu (.eqN .pt false (.c (pO s.1)) (.c (.sc (.pointer none)))) (bP (Option.isNone s.1)),n_opt⟩::es 1 (rp 2 (bq y) (kPf (.tup []) (bP false) y::es 1 [])))) []] .ret λ_ _ k=>er k
  obtain⟨N,E,a⟩:=Xa a
  rcases cor a with⟨C,a⟩|⟨C,a⟩
  ·rcases cor a with⟨z,a⟩|⟨z,a⟩
   ·obtain rfl:=soj a
    exact g_rr [.r (es 2 (kC (CF19 K)::es 5 [])) [],.r (es 1 (kC (CF14 x)::es 1 [])) [],bb m,.r (es 2 (kC (CF20 E)::es 1 [])) [],re 2,bb C,.r (es 1 (⟨.pu (.eqN .pt false (.c (pO s.1)) (.c (.sc (.pointer none)))) (bP (Option.isNone s.1)),n_opt⟩::es 1 (rq 3 (bq z) (kPt (bP (s.2==N)) (bP false) z::es 1 [])))) []] .ret λ_ _ k=>er k
   obtain rfl:=soj a
   exact g_rr [.r (es 2 (kC (CF19 K)::es 5 [])) [],.r (es 1 (kC (CF14 x)::es 1 [])) [],bb m,.r (es 2 (kC (CF20 E)::es 1 [])) [],re 2,bb C,.r (es 1 (⟨.pu (.eqN .pt false (.c (pO s.1)) (.c (.sc (.pointer none)))) (bP (Option.isNone s.1)),n_opt⟩::es 1 (rp 3 (bq z) (kPf (.tup []) (bP false) z::es 1 [])))) []] .ret λ_ _ k=>er k
  obtain⟨n,Q,a⟩:=Xa a
  obtain⟨f,R,a⟩:=Xa a
  refine gP 4 [.r (es 2 (kC (CF19 K)::es 5 [])) [],.r (es 1 (kC (CF14 x)::es 1 [])) [],bb m,.r (es 2 (kC (CF20 E)::es 1 [])) [],re 2,bb C,.r (es 2 (kC (CF21 Q)::es 5 [])) [],.r (es 2 (kC (CF22 R)::es 5 [])) []] [(1,eS 2 c114 i),(2,iP p),(7,pO s.1),(8,iP s.2),(10,eS 5 c90 n.1),(11,eS 1 cI n.2),(12,iP f.1),(13,iP f.2)] [.cells (c27 D)] ?_
  refine gS ?_
  refine gM (λ(A:Bool)=>([(1,eS 2 c114 i),(2,iP p),(11,eS 1 cI n.2),(12,iP f.1),(13,iP f.2),(74,bP A)],[],JF5_23 p i f n A)) l ?_ ?_
  ·rintro A a
   replace a:JF5_23 p i f n A=some l:=a
   unfold JF5_23 at a
   rcases cor a with⟨F,a⟩|⟨F,a⟩
   ·obtain rfl:=soj a
    exact g_rr [bb F,re 1] .ret λ_ _ k=>er k
   refine Yp [bb F] .normal [(1,eS 2 c114 i),(2,iP p),(11,eS 1 cI n.2),(12,iP f.1),(13,iP f.2)] [] (λe o=>?_)
   refine⟨_,_,o,?_⟩
   obtain⟨V,B,a⟩:=Xa a
   rcases cor a with⟨w,a⟩|⟨w,a⟩
   ·rcases cor a with⟨v,a⟩|⟨v,a⟩
    ·obtain rfl:=soj a
     exact g_rr [.r (es 2 (kL 2 c114 i::kC (CF16 B)::es 1 [])) [],bb w,.r (es 3 (rq 2 (bq v) (kPt (bP (f.2==2)) (bP false) v::es 1 []))) []] .ret λ_ _ k=>er k
    obtain rfl:=soj a
    exact g_rr [.r (es 2 (kL 2 c114 i::kC (CF16 B)::es 1 [])) [],bb w,.r (es 3 (rp 2 (bq v) (kPf (.tup []) (bP false) v::es 1 []))) []] .ret λ_ _ k=>er k
   obtain⟨T,L,a⟩:=Xa a
   rcases cor a with⟨u,a⟩|⟨u,a⟩
   ·obtain rfl:=soj a
    exact g_rr [.r (es 2 (kL 2 c114 i::kC (CF16 B)::es 1 [])) [],bb w,.r (es 3 (kX 1 cI L::es 3 (rq 2 (bq u) (kPt (bP (f.2==0)) (bP false) u::es 1 [])))) []] .ret λ_ _ k=>er k
   obtain rfl:=soj a
   exact g_rr [.r (es 2 (kL 2 c114 i::kC (CF16 B)::es 1 [])) [],bb w,.r (es 3 (kX 1 cI L::es 3 (rp 2 (bq u) (kPf (.tup []) (bP false) u::es 1 [])))) []] .ret λ_ _ k=>er k
  rcases cor a with⟨g,a⟩|⟨g,a⟩
  ·exact g_tc 0 [.r (es 3 (rp 5 (bq g) (kPt (bP true) (.tup []) g::[]))) []] .normal λ_ _ o=>⟨_,_,o,true,a,rfl,rfl⟩
  obtain⟨Y,S,a⟩:=Xa a
  obtain⟨H,P,a⟩:=Xa a
  exact g_tc 0 [.r (es 3 (bq g::es 1 (bq g::kC (CF24 S)::bq g::es 1 (bq g::kC (CF23 P)::bq g::es 1 (kPf (bP true) (bP (!H)) g::[]))))) []] .normal λ_ _ o=>⟨_,_,o,!H,a,rfl,rfl⟩
 obtain⟨W,G,a⟩:=Xa a
 rcases cor a with⟨d,a⟩|⟨d,a⟩
 ·exact g_to [.r (kC (CF11 G)::es 2 (rp 3 (bq d) (kPt (bP true) (.tup []) d::es 1 (rp 3 (bq (t:=true) (b:=true) rfl) (es 1 []))))) []] .normal λ_ o=>⟨_,_,o,true,a,rfl,rfl⟩
 obtain⟨I,J,a⟩:=Xa a
 rcases cor a with⟨j,a⟩|⟨j,a⟩
 ·exact g_to [.r (kC (CF11 G)::es 2 (bq d::es 1 (bq d::kC (CF12 J)::bq d::es 1 (kPf (bP true) (bP (!I)) d::es 1 (rp 3 (bq j) (kPt (bP true) (.tup []) j::[])))))) []] .normal λ_ o=>⟨_,_,o,true,a,rfl,rfl⟩
 exact g_to [.r (kC (CF11 G)::es 2 (bq d::es 1 (bq d::kC (CF12 J)::bq d::es 1 (kPf (bP true) (bP (!I)) d::es 1 (bq j::es 1 (bq j::kL 2 c114 i::bq j::es 1 (kPf (bP true) (bP (decide ((ln i)>40))) j::[]))))))) []] .normal λ_ o=>⟨_,_,o,decide ((ln i)>40),a,rfl,rfl⟩
end
end Go.Proofs.YtibndgdocbbbeaaGreat
