/- A part of the proof. -/
import Derived.Test.YtibndgdocbbbeaaGreatFC2
import Derived.Test.YtibndgdocbbbeaaGreatSY13
import Derived.Test.YtibndgdocbbbeaaGreatHA
set_option linter.all false
set_option maxRecDepth 100000
set_option maxHeartbeats 40000000
set_option synthInstance.maxSize 100000
namespace Go.Proofs.YtibndgdocbbbeaaGreat
open Go.PE
noncomputable section
theorem CF70_1 {u v A g} (f:F70_1 u v A=some g):A1 70 [.bp 0 0] (hC u v A) (.tup []) (hC u v g):=by
 refine gC Tryz.func70 ?_
 obtain⟨F,I,f⟩:=Xa f
 refine gD 1 [re 3,rk 4 (kC (CF130 I)) 1] [] [(2,.bp 3 0),(3,iP F)] 2 [gmB Yk bP (⟨[],[],0⟩),.cells [.mp 2]] ?_
 refine gMD [3] 2 (λw=>([],[gmB Yk bP w,.cells [.mp 2]],JF70_1_7 u v A w)) g ?_ ?_
 ·rintro w f
  obtain⟨L,B,f⟩:=Xa f
  obtain rfl:=soj f
  exact gHn 2 [rk 2 (kK [0,1,3,2] [] 0 0 (CF140_4 B)) 0]
 obtain⟨J,o,f⟩:=Xa f
 refine gPL 0 [re 2] 0 o [3] 2 (λ(d,r)=>([(13,iP F),(14,iP d)],[gmB Yk bP r,.cells [.mp 2]])) ?_
 rintro⟨d,r⟩ C a y
 rcases cor a with⟨j,a⟩|⟨j,a⟩
 ·refine gd 1 [re 1,bb j] [] [] ?_
  refine gMD [] 2 (λh=>([],[gmB Yk bP h,.cells [.mp 2]],JF70_1_24 d h)) C ?_ ?_
  ·rintro h a
   cases a
   exact gj [re 2]
  refine gB 1 ?_
  obtain⟨M,n,a⟩:=Xa a
  refine gPL 1 [re 2,re 1] 2 n [] 2 (λ(e,m)=>([(4,iP d),(17,iP e)],[gmB Yk bP m,.cells [.mp 2]])) ?_
  rintro⟨e,m⟩ E b x
  rcases cor b with⟨k,b⟩|⟨k,b⟩
  ·refine gd 1 [re 1,bb k] [] [] ?_
   refine gMD [] 2 (λl=>([],[gmB Yk bP l,.cells [.mp 2]],JF70_1_35 e l)) E ?_ ?_
   ·rintro l b
    cases b
    exact gj [re 2]
   refine gB 3 ?_
   obtain⟨K,p,b⟩:=Xa b
   refine gPL 1 [re 2,re 1] 4 p [] 2 (λ(t,q)=>([(5,iP e),(20,iP t)],[gmB Yk bP q,.cells [.mp 2]])) ?_
   rintro⟨t,q⟩ H c z
   rcases cor c with⟨i,c⟩|⟨i,c⟩
   ·obtain⟨G,D,c⟩:=Xa c
    cases c
    exact gj [re 1,bb i,re 2,rk 5 (kK [0,1,2] [] 0 0 (CF155_1 D)) 0,re 2]
   cases c
   obtain rfl:=z _ rfl
   exact ge 4 [re 1,bb i] λ_ s=>Xh ⟨_,b,s⟩
  cases b
  obtain rfl:=x _ rfl
  exact ge 2 [re 1,bb k] λ_ s=>Xh ⟨_,a,s⟩
 cases a
 obtain rfl:=y _ rfl
 exact ge 0 [re 1,bb j] λ_ s=>Xh ⟨_,f,s⟩
theorem Zq {o t m u v p l y s n c k f d b j g i a} (x:Vy o t m u v p l y s n c k f d b j g i=some a):ARound Tryz.prog 5 [.agg [iP o,iP t,iP m,iP u,iP v,iP p,iP l],.ip (c58 y)] [.cells (c27 s),.cells (c58 n),.cells [iP c,iP k,iP f,iP d,iP b,iP j,iP g],.cells [bP i],.cells [.bp 0 0],Xn [(3,.bp 1 0),(4,.bp 2 0),(5,.bp 3 0),(12,(fz 4))] .ready none] (λq h=>q=(bP (!a.2.2.2.2.2.2.2.2))/\h=[.cells (c27 s),.cells (c58 n),.cells [iP a.1,iP a.2.1,iP a.2.2.1,iP a.2.2.2.1,iP a.2.2.2.2.1,iP a.2.2.2.2.2.1,iP a.2.2.2.2.2.2.1],.cells [bP a.2.2.2.2.2.2.2.1],.cells [.bp 0 0],Xn [(3,.bp 1 0),(4,.bp 2 0),(5,.bp 3 0),(12,(fz 4))] (lst a.2.2.2.2.2.2.2.2) (lpd a.2.2.2.2.2.2.2.2 .ret)]):=by
 refine g_yl (N:=af291.ntmps) (le:=[(3,.bp 1 0),(4,.bp 2 0),(5,.bp 3 0),(12,(fz 4))]) (ps:=#[13,14]) (ai:=c291_15) (bd:=c291_18) (cA:=(Zn cd291 [1,1,0,1,0,0])) (cB:=(Zn cd291 [1,1,0,1,0,1])) mixed (by kernel_rfl) (by kernel_rfl) (by kernel_rfl) (by kernel_rfl) [(3,.bp 1 0),(4,.bp 2 0),(5,.bp 3 0),(12,(fz 4)),(13,.agg [iP o,iP t,iP m,iP u,iP v,iP p,iP l]),(14,.ip (c58 y))] [re 2,re 1] [(3,.bp 1 0),(4,.bp 2 0),(5,.bp 3 0),(6,.bp 6 0),(7,.ip (c58 y))] [.cells (c27 s),.cells (c58 n),.cells [iP c,iP k,iP f,iP d,iP b,iP j,iP g],.cells [bP i],.cells [.bp 0 0],Xn [(3,.bp 1 0),(4,.bp 2 0),(5,.bp 3 0),(12,(fz 4))] .ready none,.cells [iP o,iP t,iP m,iP u,iP v,iP p,iP l]] [.cells (c27 s),.cells (c58 n),.cells [iP c,iP k,iP f,iP d,iP b,iP j,iP g],.cells [bP i],.cells [.bp 0 0],Xn [(3,.bp 1 0),(4,.bp 2 0),(5,.bp 3 0),(12,(fz 4))] .busy none,.cells [iP o,iP t,iP m,iP u,iP v,iP p,iP l]] ?_
 rcases cor x with⟨w,x⟩|⟨w,x⟩
 ·refine Yp [.r (es 4 []) (es 1 []),bb w,re 3] .ret [] [.cells (c27 s),.cells (c58 n),.cells [iP o,iP t,iP m,iP u,iP v,iP p,iP l],.cells [bP true],.cells [.bp 0 0],Xn [(3,.bp 1 0),(4,.bp 2 0),(5,.bp 3 0),(12,(fz 4))] .busy none,.cells [iP o,iP t,iP m,iP u,iP v,iP p,iP l]] (λe z=>?_)
  obtain rfl:=soj x
  exact round_end (z.trans (weak_cutI (H:=[.cells (c27 s),.cells (c58 n),.cells [iP o,iP t,iP m,iP u,iP v,iP p,iP l],.cells [bP true],.cells [.bp 0 0],Xn [(3,.bp 1 0),(4,.bp 2 0),(5,.bp 3 0),(12,(fz 4))] .busy none]) 6))
 refine Yp [.r (es 4 []) (es 1 []),bb w] .normal [] [.cells (c27 s),.cells (c58 n),.cells [iP c,iP k,iP f,iP d,iP b,iP j,iP g],.cells [bP i],.cells [.bp 0 0],Xn [(3,.bp 1 0),(4,.bp 2 0),(5,.bp 3 0),(12,(fz 4))] .busy none,.cells [iP o,iP t,iP m,iP u,iP v,iP p,iP l]] (λe z=>?_)
 obtain rfl:=soj x
 exact round_end (z.trans (weak_cutI (H:=[.cells (c27 s),.cells (c58 n),.cells [iP c,iP k,iP f,iP d,iP b,iP j,iP g],.cells [bP i],.cells [.bp 0 0],Xn [(3,.bp 1 0),(4,.bp 2 0),(5,.bp 3 0),(12,(fz 4))] .busy none]) 6))
theorem CF276_2 {o q v2 v3 v4 v5 v6 v7 v8 v9 p} (X:F276_2 o q v2 v3 v4 v5 v6 v7 v8 v9=some p):A1 276 [.yl 5,.bp 4 0] [.cells (c27 o),.cells (c58 q),.cells [iP v2,iP v3,iP v4,iP v5,iP v6,iP v7,iP v8],.cells [bP v9],.cells [.bp 0 0],Xn [(3,.bp 1 0),(4,.bp 2 0),(5,.bp 3 0),(12,(fz 4))] .ready none] (.tup []) [.cells (c27 o),.cells (c58 q),.cells [iP p.1,iP p.2.1,iP p.2.2.1,iP p.2.2.2.1,iP p.2.2.2.2.1,iP p.2.2.2.2.2.1,iP p.2.2.2.2.2.2.1],.cells [bP p.2.2.2.2.2.2.2.1],.cells [.bp 0 0],Xn [(3,.bp 1 0),(4,.bp 2 0),(5,.bp 3 0),(12,(fz 4))] (lst p.2.2.2.2.2.2.2.2) (lpd p.2.2.2.2.2.2.2.2 .ret)]:=by
 refine gC Tryz.func276 ?_
 refine gd 0 [re 1] [] [(3,iP 0)] ?_
 refine gMD [3] 2 (λ(x:Int×Int×Int×Int×Int×Int×Int×Bool)=>match x with|(cc,bY,b0,ce,b7,b4,b2,cd)=>([],[.cells [iP cc,iP bY,iP b0,iP ce,iP b7,iP b4,iP b2],.cells [bP cd],.cells [.bp 0 0],Xn [(3,.bp 1 0),(4,.bp 2 0),(5,.bp 3 0),(12,(fz 4))] .ready none],JF276_2_27 o q cc bY b0 ce b7 b4 b2 cd)) p ?_ ?_
 ·rintro⟨cc,bY,b0,ce,b7,b4,b2,cd⟩ X
  refine gMD [] 2 (λ(x:Int×Int×Int×Int×Int×Int×Int×Bool)=>match x with|(cj,ci,cg,ck,cf,b5,bZ,b1)=>([],[.cells [iP cj,iP ci,iP cg,iP ck,iP cf,iP b5,iP bZ],.cells [bP b1],.cells [.bp 0 0],Xn [(3,.bp 1 0),(4,.bp 2 0),(5,.bp 3 0),(12,(fz 4))] .ready none],JF276_2_36 o q cj ci cg ck cf b5 bZ b1)) p ?_ ?_
  ·rintro⟨cj,ci,cg,ck,cf,b5,bZ,b1⟩ X
   obtain⟨cQ,cm,X⟩:=Xa X
   refine gPL 0 [rk 4 (kL 7 c213 o.fp) 1] 12 cm [] 2 (λ(bl,bj,bq,bn,bm,bk,bs,bo,bt)=>([(166,iP (ln o.fp)),(167,iP bl)],[.cells [iP bj,iP bq,iP bn,iP bm,iP bk,iP bs,iP bo],.cells [bP bt],.cells [.bp 0 0],Xn [(3,.bp 1 0),(4,.bp 2 0),(5,.bp 3 0),(12,(fz 4))] .ready none])) ?_
   rintro⟨bl,bj,bq,bn,bm,bk,bs,bo,bt⟩ cR r cs
   rcases cor r with⟨br,r⟩|⟨br,r⟩
   ·obtain⟨cp,cy,n,cz,r⟩:=bs2 r
    rcases cor r with⟨b9,r⟩|⟨b9,r⟩
    ·cases r
     obtain rfl:=cs _ rfl
     obtain rfl:=soj X
     exact gH 6 [re 1,bb br,re 2,rs 8 (kX 7 c213 cy::es 1 (⟨_,n_yl (k:=5) (args:=[.agg [iP 5,iP 0,iP 0,iP 0,iP 0,iP 0,iP bl],.ip (c213 cp)]) (F:=[.cells (c27 o),.cells (c58 q),.cells [iP bj,iP bq,iP bn,iP bm,iP bk,iP bs,iP bo],.cells [bP bt],.cells [.bp 0 0],Xn [(3,.bp 1 0),(4,.bp 2 0),(5,.bp 3 0),(12,(fz 4))] .ready none]) (Hh:=λd=>[.cells (c27 o),.cells (c58 q),.cells [iP n.1,iP n.2.1,iP n.2.2.1,iP n.2.2.2.1,iP n.2.2.2.2.1,iP n.2.2.2.2.2.1,iP n.2.2.2.2.2.2.1],.cells [bP n.2.2.2.2.2.2.2.1],.cells [.bp 0 0],Xn [(3,.bp 1 0),(4,.bp 2 0),(5,.bp 3 0),(12,(fz 4))] (lst d) (lpd d .ret)]) b9 (Ye (Zq cz) (qc (PSub.refl _) (qc (Yo 2) qe)))⟩::es 1 [])),bT]
    cases r
    exact gj [re 1,bb br,re 2,rs 8 (kX 7 c213 cy::es 1 (⟨_,n_yl (k:=5) (args:=[.agg [iP 5,iP 0,iP 0,iP 0,iP 0,iP 0,iP bl],.ip (c213 cp)]) (F:=[.cells (c27 o),.cells (c58 q),.cells [iP bj,iP bq,iP bn,iP bm,iP bk,iP bs,iP bo],.cells [bP bt],.cells [.bp 0 0],Xn [(3,.bp 1 0),(4,.bp 2 0),(5,.bp 3 0),(12,(fz 4))] .ready none]) (Hh:=λd=>[.cells (c27 o),.cells (c58 q),.cells [iP n.1,iP n.2.1,iP n.2.2.1,iP n.2.2.2.1,iP n.2.2.2.2.1,iP n.2.2.2.2.2.1,iP n.2.2.2.2.2.2.1],.cells [bP n.2.2.2.2.2.2.2.1],.cells [.bp 0 0],Xn [(3,.bp 1 0),(4,.bp 2 0),(5,.bp 3 0),(12,(fz 4))] (lst d) (lpd d .ret)]) b9 (Ye (Zq cz) (qc (PSub.refl _) (qc (Yo 2) qe)))⟩::es 1 [])),bF,re 2]
   cases r
   obtain rfl:=cs _ rfl
   obtain rfl:=soj X
   exact g_rh 6 [re 1,bb br] (.exit 12) λ_ _ k j=>Xh (hn k j)
  obtain⟨cO,cb,X⟩:=Xa X
  refine gPL 0 [rk 4 (kL 22 c75 o.fc) 1] 4 cb [] 2 (λ(J,bf,am,aA,al,ah,ba,bh,ab)=>([(67,iP (ln o.fc)),(68,iP J)],[.cells [iP bf,iP am,iP aA,iP al,iP ah,iP ba,iP bh],.cells [bP ab],.cells [.bp 0 0],Xn [(3,.bp 1 0),(4,.bp 2 0),(5,.bp 3 0),(12,(fz 4))] .ready none])) ?_
  rintro⟨J,bf,am,aA,al,ah,ba,bh,ab⟩ cu a ak
  rcases cor a with⟨aW,a⟩|⟨aW,a⟩
  ·refine gd 1 [re 1,bb aW] [] [] ?_
   refine gMD [] 2 (λ(x:Int×Int×Int×Int×Int×Int×Int×Bool)=>match x with|(a6,bg,ap,aT,ay,a3,az,aI)=>([],[.cells [iP a6,iP bg,iP ap,iP aT,iP ay,iP a3,iP az],.cells [bP aI],.cells [.bp 0 0],Xn [(3,.bp 1 0),(4,.bp 2 0),(5,.bp 3 0),(12,(fz 4))] .ready none],JF276_2_130 J a6 bg ap aT ay a3 az aI)) cu ?_ ?_
   ·rintro⟨a6,bg,ap,aT,ay,a3,az,aI⟩ a
    cases a
    exact gj [re 2]
   refine gB 5 ?_
   obtain⟨bO,bz,f,bV,a⟩:=bs2 a
   rcases cor a with⟨aQ,a⟩|⟨aQ,a⟩
   ·cases a
    obtain rfl:=ak _ rfl
    obtain rfl:=soj X
    exact gH 6 [re 2,rs 8 (kX 22 c75 bz::es 1 (⟨_,n_yl (k:=5) (args:=[.agg [iP 3,iP 0,iP 0,iP J,iP 0,iP 0,iP 0],.ip (c75 bO)]) (F:=[.cells (c27 o),.cells (c58 q),.cells [iP bf,iP am,iP aA,iP al,iP ah,iP ba,iP bh],.cells [bP ab],.cells [.bp 0 0],Xn [(3,.bp 1 0),(4,.bp 2 0),(5,.bp 3 0),(12,(fz 4))] .ready none]) (Hh:=λd=>[.cells (c27 o),.cells (c58 q),.cells [iP f.1,iP f.2.1,iP f.2.2.1,iP f.2.2.2.1,iP f.2.2.2.2.1,iP f.2.2.2.2.2.1,iP f.2.2.2.2.2.2.1],.cells [bP f.2.2.2.2.2.2.2.1],.cells [.bp 0 0],Xn [(3,.bp 1 0),(4,.bp 2 0),(5,.bp 3 0),(12,(fz 4))] (lst d) (lpd d .ret)]) aQ (Ye (Zq bV) (qc (PSub.refl _) (qc (Yo 2) qe)))⟩::es 1 [])),bT]
   obtain⟨bu,cq,a⟩:=Xa a
   obtain⟨cM,ch,a⟩:=Xa a
   refine gPL 2 [re 2,rs 8 (kX 22 c75 bz::es 1 (⟨_,n_yl (k:=5) (args:=[.agg [iP 3,iP 0,iP 0,iP J,iP 0,iP 0,iP 0],.ip (c75 bO)]) (F:=[.cells (c27 o),.cells (c58 q),.cells [iP bf,iP am,iP aA,iP al,iP ah,iP ba,iP bh],.cells [bP ab],.cells [.bp 0 0],Xn [(3,.bp 1 0),(4,.bp 2 0),(5,.bp 3 0),(12,(fz 4))] .ready none]) (Hh:=λd=>[.cells (c27 o),.cells (c58 q),.cells [iP f.1,iP f.2.1,iP f.2.2.1,iP f.2.2.2.1,iP f.2.2.2.2.1,iP f.2.2.2.2.2.1,iP f.2.2.2.2.2.2.1],.cells [bP f.2.2.2.2.2.2.2.1],.cells [.bp 0 0],Xn [(3,.bp 1 0),(4,.bp 2 0),(5,.bp 3 0),(12,(fz 4))] (lst d) (lpd d .ret)]) aQ (Ye (Zq bV) (qc (PSub.refl _) (qc (Yo 2) qe)))⟩::es 1 [])),bF,rs 5 (kX 22 c75 cq::es 2 (kL 2 c95 bu.ff::es 1 []))] 6 ch [] 2 (λ(u,ar,aj,a2,an,aX,aP,aC,aV)=>([(6,iP J),(91,iP (ln bu.ff)),(92,iP u)],[.cells [iP ar,iP aj,iP a2,iP an,iP aX,iP aP,iP aC],.cells [bP aV],.cells [.bp 0 0],Xn [(3,.bp 1 0),(4,.bp 2 0),(5,.bp 3 0),(12,(fz 4))] .ready none])) ?_
   rintro⟨u,ar,aj,a2,an,aX,aP,aC,aV⟩ co i bG
   rcases cor i with⟨av,i⟩|⟨av,i⟩
   ·refine gd 1 [re 1,bb av] [] [] ?_
    refine gMD [] 2 (λ(x:Int×Int×Int×Int×Int×Int×Int×Bool)=>match x with|(bd,au,aL,aZ,aF,aq,bc,aO)=>([],[.cells [iP bd,iP au,iP aL,iP aZ,iP aF,iP aq,iP bc],.cells [bP aO],.cells [.bp 0 0],Xn [(3,.bp 1 0),(4,.bp 2 0),(5,.bp 3 0),(12,(fz 4))] .ready none],JF276_2_195 u bd au aL aZ aF aq bc aO)) co ?_ ?_
    ·rintro⟨bd,au,aL,aZ,aF,aq,bc,aO⟩ i
     cases i
     exact gj [re 2]
    refine gB 7 ?_
    obtain⟨cK,cn,bx,cl,i⟩:=bs2 i
    obtain⟨cI,b8,i⟩:=Xa i
    refine gPL 1 [re 2,rs 5 (kX 22 c75 cn::es 3 (kX 2 c95 cl::es 2 (kL 2 c100 bx.fh::es 1 [])))] 8 b8 [] 2 (λ(s,ai,aN,ac,aJ,ax,be,aw,aE)=>([(7,iP u),(107,iP (ln bx.fh)),(108,iP s)],[.cells [iP ai,iP aN,iP ac,iP aJ,iP ax,iP be,iP aw],.cells [bP aE],.cells [.bp 0 0],Xn [(3,.bp 1 0),(4,.bp 2 0),(5,.bp 3 0),(12,(fz 4))] .ready none])) ?_
    rintro⟨s,ai,aN,ac,aJ,ax,be,aw,aE⟩ cr l bE
    rcases cor l with⟨a8,l⟩|⟨a8,l⟩
    ·refine gd 1 [re 1,bb a8] [] [] ?_
     refine gMD [] 2 (λ(x:Int×Int×Int×Int×Int×Int×Int×Bool)=>match x with|(aG,aH,a1,a7,a0,aU,bi,aR)=>([],[.cells [iP aG,iP aH,iP a1,iP a7,iP a0,iP aU,iP bi],.cells [bP aR],.cells [.bp 0 0],Xn [(3,.bp 1 0),(4,.bp 2 0),(5,.bp 3 0),(12,(fz 4))] .ready none],JF276_2_239 s aG aH a1 a7 a0 aU bi aR)) cr ?_ ?_
     ·rintro⟨aG,aH,a1,a7,a0,aU,bi,aR⟩ l
      cases l
      exact gj [re 2]
     refine gB 9 ?_
     obtain⟨cB,cA,cN,ct,bK,cx,l⟩:=bs3 l
     obtain⟨cG,ca,l⟩:=Xa l
     refine gPL 1 [re 2,rs 5 (kX 22 c75 cA::es 3 (kX 2 c95 ct::es 3 (kX 2 c100 cx::es 2 (kL 13 c147 bK.fg::es 1 []))))] 10 ca [] 2 (λ(aa,O,v,z,D,N,C,A,T)=>([(8,iP s),(127,iP (ln bK.fg)),(128,iP aa)],[.cells [iP O,iP v,iP z,iP D,iP N,iP C,iP A],.cells [bP T],.cells [.bp 0 0],Xn [(3,.bp 1 0),(4,.bp 2 0),(5,.bp 3 0),(12,(fz 4))] .ready none])) ?_
     rintro⟨aa,O,v,z,D,N,C,A,T⟩ cC h bM
     rcases cor h with⟨Y,h⟩|⟨Y,h⟩
     ·obtain⟨cL,bC,cH,bv,cF,bL,h⟩:=bs3 h
      obtain⟨bD,bU,c,bN,h⟩:=bs2 h
      rcases cor h with⟨ao,h⟩|⟨ao,h⟩
      ·cases h
       obtain rfl:=bM _ rfl
       cases l
       obtain rfl:=bE _ rfl
       cases i
       obtain rfl:=bG _ rfl
       cases a
       obtain rfl:=ak _ rfl
       obtain rfl:=soj X
       exact gH 6 [re 1,bb Y,re 2,rs 11 (kX 22 c75 bC::es 3 (kX 2 c95 bv::es 3 (kX 2 c100 bL::es 3 (kX 13 c147 bU::es 1 (⟨_,n_yl (k:=5) (args:=[.agg [iP 4,iP 0,iP u,iP J,iP s,iP aa,iP 0],.ip (c147 bD)]) (F:=[.cells (c27 o),.cells (c58 q),.cells [iP O,iP v,iP z,iP D,iP N,iP C,iP A],.cells [bP T],.cells [.bp 0 0],Xn [(3,.bp 1 0),(4,.bp 2 0),(5,.bp 3 0),(12,(fz 4))] .ready none]) (Hh:=λd=>[.cells (c27 o),.cells (c58 q),.cells [iP c.1,iP c.2.1,iP c.2.2.1,iP c.2.2.2.1,iP c.2.2.2.2.1,iP c.2.2.2.2.2.1,iP c.2.2.2.2.2.2.1],.cells [bP c.2.2.2.2.2.2.2.1],.cells [.bp 0 0],Xn [(3,.bp 1 0),(4,.bp 2 0),(5,.bp 3 0),(12,(fz 4))] (lst d) (lpd d .ret)]) ao (Ye (Zq bN) (qc (PSub.refl _) (qc (Yo 2) qe)))⟩::es 1 []))))),bT]
      cases h
      exact gj [re 1,bb Y,re 2,rs 11 (kX 22 c75 bC::es 3 (kX 2 c95 bv::es 3 (kX 2 c100 bL::es 3 (kX 13 c147 bU::es 1 (⟨_,n_yl (k:=5) (args:=[.agg [iP 4,iP 0,iP u,iP J,iP s,iP aa,iP 0],.ip (c147 bD)]) (F:=[.cells (c27 o),.cells (c58 q),.cells [iP O,iP v,iP z,iP D,iP N,iP C,iP A],.cells [bP T],.cells [.bp 0 0],Xn [(3,.bp 1 0),(4,.bp 2 0),(5,.bp 3 0),(12,(fz 4))] .ready none]) (Hh:=λd=>[.cells (c27 o),.cells (c58 q),.cells [iP c.1,iP c.2.1,iP c.2.2.1,iP c.2.2.2.1,iP c.2.2.2.2.1,iP c.2.2.2.2.2.1,iP c.2.2.2.2.2.2.1],.cells [bP c.2.2.2.2.2.2.2.1],.cells [.bp 0 0],Xn [(3,.bp 1 0),(4,.bp 2 0),(5,.bp 3 0),(12,(fz 4))] (lst d) (lpd d .ret)]) ao (Ye (Zq bN) (qc (PSub.refl _) (qc (Yo 2) qe)))⟩::es 1 []))))),bF,re 2]
     cases h
     obtain rfl:=bM _ rfl
     exact ge 10 [re 1,bb Y] λ_ hw=>Xh ⟨(O,v,z,D,N,C,A,T),l,hw⟩
    cases l
    obtain rfl:=bE _ rfl
    exact ge 8 [re 1,bb a8] λ_ hw=>Xh ⟨(ai,aN,ac,aJ,ax,be,aw,aE),i,hw⟩
   cases i
   obtain rfl:=bG _ rfl
   exact ge 6 [re 1,bb av] λ_ hw=>Xh ⟨(ar,aj,a2,an,aX,aP,aC,aV),a,hw⟩
  cases a
  obtain rfl:=ak _ rfl
  exact ge 4 [re 1,bb aW] λ_ hw=>Xh ⟨(bf,am,aA,al,ah,ba,bh,ab),X,hw⟩
 obtain⟨cE,b6,X⟩:=Xa X
 refine gPL 0 [rk 4 (kL 6 c68 o.fi) 1] 0 b6 [] 2 (λ(bw,t,I,S,G,R,y,V,K,H)=>([(3,iP bw),(15,iP (ln o.fi)),(16,iP t)],[.cells [iP I,iP S,iP G,iP R,iP y,iP V,iP K],.cells [bP H],.cells [.bp 0 0],Xn [(3,.bp 1 0),(4,.bp 2 0),(5,.bp 3 0),(12,(fz 4))] .ready none])) ?_
 rintro⟨bw,t,I,S,G,R,y,V,K,H⟩ cv b aB
 rcases cor b with⟨a4,b⟩|⟨a4,b⟩
 ·refine gd 1 [re 1,bb a4] [] [] ?_
  refine gMD [] 2 (λ(x:Int×Int×Int×Int×Int×Int×Int×Int×Bool)=>match x with|(af,a5,aS,aD,a9,ae,aM,ad,ag)=>([(3,iP af)],[.cells [iP a5,iP aS,iP aD,iP a9,iP ae,iP aM,iP ad],.cells [bP ag],.cells [.bp 0 0],Xn [(3,.bp 1 0),(4,.bp 2 0),(5,.bp 3 0),(12,(fz 4))] .ready none],JF276_2_347 t af a5 aS aD a9 ae aM ad ag)) cv ?_ ?_
  ·rintro⟨af,a5,aS,aD,a9,ae,aM,ad,ag⟩ b
   cases b
   exact gj [re 2]
  refine gB 1 ?_
  obtain⟨bI,bH,g,bJ,b⟩:=bs2 b
  rcases cor b with⟨aY,b⟩|⟨aY,b⟩
  ·cases b
   obtain rfl:=aB _ rfl
   obtain rfl:=soj X
   exact gH 6 [re 2,rs 8 (kX 6 c68 bH::es 1 (⟨_,n_yl (k:=5) (args:=[.agg [iP 1,iP t,iP 0,iP 0,iP 0,iP 0,iP 0],.ip (c68 bI)]) (F:=[.cells (c27 o),.cells (c58 q),.cells [iP I,iP S,iP G,iP R,iP y,iP V,iP K],.cells [bP H],.cells [.bp 0 0],Xn [(3,.bp 1 0),(4,.bp 2 0),(5,.bp 3 0),(12,(fz 4))] .ready none]) (Hh:=λd=>[.cells (c27 o),.cells (c58 q),.cells [iP g.1,iP g.2.1,iP g.2.2.1,iP g.2.2.2.1,iP g.2.2.2.2.1,iP g.2.2.2.2.2.1,iP g.2.2.2.2.2.2.1],.cells [bP g.2.2.2.2.2.2.2.1],.cells [.bp 0 0],Xn [(3,.bp 1 0),(4,.bp 2 0),(5,.bp 3 0),(12,(fz 4))] (lst d) (lpd d .ret)]) aY (Ye (Zq bJ) (qc (PSub.refl _) (qc (Yo 2) qe)))⟩::es 1 [])),bT]
  obtain⟨bX,cw,b⟩:=Xa b
  obtain⟨cJ,b3,b⟩:=Xa b
  refine gPL 2 [re 2,rs 8 (kX 6 c68 bH::es 1 (⟨_,n_yl (k:=5) (args:=[.agg [iP 1,iP t,iP 0,iP 0,iP 0,iP 0,iP 0],.ip (c68 bI)]) (F:=[.cells (c27 o),.cells (c58 q),.cells [iP I,iP S,iP G,iP R,iP y,iP V,iP K],.cells [bP H],.cells [.bp 0 0],Xn [(3,.bp 1 0),(4,.bp 2 0),(5,.bp 3 0),(12,(fz 4))] .ready none]) (Hh:=λd=>[.cells (c27 o),.cells (c58 q),.cells [iP g.1,iP g.2.1,iP g.2.2.1,iP g.2.2.2.1,iP g.2.2.2.2.1,iP g.2.2.2.2.2.1,iP g.2.2.2.2.2.2.1],.cells [bP g.2.2.2.2.2.2.2.1],.cells [.bp 0 0],Xn [(3,.bp 1 0),(4,.bp 2 0),(5,.bp 3 0),(12,(fz 4))] (lst d) (lpd d .ret)]) aY (Ye (Zq bJ) (qc (PSub.refl _) (qc (Yo 2) qe)))⟩::es 1 [])),bF,rs 5 (kX 6 c68 cw::es 2 (kL 3 c184 bX.fx::es 1 []))] 2 b3 [] 2 (λ(E,bW,W,U,P,Q,w,B,L,M)=>([(3,iP E),(4,iP t),(39,iP (ln bX.fx)),(40,iP bW)],[.cells [iP W,iP U,iP P,iP Q,iP w,iP B,iP L],.cells [bP M],.cells [.bp 0 0],Xn [(3,.bp 1 0),(4,.bp 2 0),(5,.bp 3 0),(12,(fz 4))] .ready none])) ?_
  rintro⟨E,bW,W,U,P,Q,w,B,L,M⟩ cP m bR
  rcases cor m with⟨Z,m⟩|⟨Z,m⟩
  ·obtain⟨cD,bB,bS,bQ,e,bA,m⟩:=bs3 m
   rcases cor m with⟨aK,m⟩|⟨aK,m⟩
   ·cases m
    obtain rfl:=bR _ rfl
    cases b
    obtain rfl:=aB _ rfl
    obtain rfl:=soj X
    exact gH 6 [re 1,bb Z,re 2,rs 8 (kX 6 c68 bB::es 3 (kX 3 c184 bQ::es 1 (⟨_,n_yl (k:=5) (args:=[.agg [iP 2,iP 0,iP E,iP 0,iP 0,iP 0,iP 0],.ip (c184 bS)]) (F:=[.cells (c27 o),.cells (c58 q),.cells [iP W,iP U,iP P,iP Q,iP w,iP B,iP L],.cells [bP M],.cells [.bp 0 0],Xn [(3,.bp 1 0),(4,.bp 2 0),(5,.bp 3 0),(12,(fz 4))] .ready none]) (Hh:=λd=>[.cells (c27 o),.cells (c58 q),.cells [iP e.1,iP e.2.1,iP e.2.2.1,iP e.2.2.2.1,iP e.2.2.2.2.1,iP e.2.2.2.2.2.1,iP e.2.2.2.2.2.2.1],.cells [bP e.2.2.2.2.2.2.2.1],.cells [.bp 0 0],Xn [(3,.bp 1 0),(4,.bp 2 0),(5,.bp 3 0),(12,(fz 4))] (lst d) (lpd d .ret)]) aK (Ye (Zq bA) (qc (PSub.refl _) (qc (Yo 2) qe)))⟩::es 1 []))),bT]
   cases m
   exact gj [re 1,bb Z,re 2,rs 8 (kX 6 c68 bB::es 3 (kX 3 c184 bQ::es 1 (⟨_,n_yl (k:=5) (args:=[.agg [iP 2,iP 0,iP E,iP 0,iP 0,iP 0,iP 0],.ip (c184 bS)]) (F:=[.cells (c27 o),.cells (c58 q),.cells [iP W,iP U,iP P,iP Q,iP w,iP B,iP L],.cells [bP M],.cells [.bp 0 0],Xn [(3,.bp 1 0),(4,.bp 2 0),(5,.bp 3 0),(12,(fz 4))] .ready none]) (Hh:=λd=>[.cells (c27 o),.cells (c58 q),.cells [iP e.1,iP e.2.1,iP e.2.2.1,iP e.2.2.2.1,iP e.2.2.2.2.1,iP e.2.2.2.2.2.1,iP e.2.2.2.2.2.2.1],.cells [bP e.2.2.2.2.2.2.2.1],.cells [.bp 0 0],Xn [(3,.bp 1 0),(4,.bp 2 0),(5,.bp 3 0),(12,(fz 4))] (lst d) (lpd d .ret)]) aK (Ye (Zq bA) (qc (PSub.refl _) (qc (Yo 2) qe)))⟩::es 1 []))),bF,re 3,re 2]
  cases m
  obtain rfl:=bR _ rfl
  exact ge 2 [re 1,bb Z] λ_ hw=>Xh ⟨(E,W,U,P,Q,w,B,L,M),b,hw⟩
 cases b
 obtain rfl:=aB _ rfl
 exact ge 0 [re 1,bb a4] λ_ hw=>Xh ⟨(I,S,G,R,y,V,K,H),X,hw⟩
theorem CF291 {f g e} (b:F291 f g=some e):A0 291 [.agg (c27 f),.agg (c58 g)] (.tup [.agg (c236 e.1),bP e.2]):=by
 refine g_callI mixed ok291 ?_
 rcases cor b with⟨m,b⟩|⟨m,b⟩
 ·obtain rfl:=soj b
  exact gE [re 4,re 3,bb m,re 3]
 refine gP 1 [re 4,re 3,bb m] [(2,.bp 0 0),(3,.bp 1 0),(4,.bp 2 0),(5,.bp 3 0)] [.cells (c27 f),.cells (c58 g),.cells [iP 0,iP 0,iP 0,iP 0,iP 0,iP 0,iP 0],.cells [bP false]] ?_
 refine gMD [2,3] 2 (λ(x:Int×Int×Int×Int×Int×Int×Int×Bool)=>match x with|(q,s,o,k,n,p,l,h)=>([],[.cells [iP q,iP s,iP o,iP k,iP n,iP p,iP l],.cells [bP h]],JF291_11 q s o k n p l h)) e ?_ ?_
 ·rintro⟨q,s,o,k,n,p,l,h⟩ b
  obtain rfl:=soj b
  exact gE [re 3]
 refine gD 0 [.r (⟨.st (.call (.c (fk 204)) [.c (.bp 0 0)]) [.cells (c27 f),.cells (c58 g),.cells [iP 0,iP 0,iP 0,iP 0,iP 0,iP 0,iP 0],.cells [bP false]] (fz 4) [.cells (c27 f),.cells (c58 g),.cells [iP 0,iP 0,iP 0,iP 0,iP 0,iP 0,iP 0],.cells [bP false],.cells [.bp 0 0]] 0,visitN⟩::[]) []] [2] [(12,(fz 4))] 4 [.cells [.bp 0 0]] ?_
 refine gB 0 ?_
 obtain⟨a,j,b⟩:=Xa b
 rcases cor b with⟨i,b⟩|⟨i,b⟩
 ·refine g_range [] [.bp 4 0] .ret [.cells (c27 f),.cells (c58 g),.cells [iP a.1,iP a.2.1,iP a.2.2.1,iP a.2.2.2.1,iP a.2.2.2.2.1,iP a.2.2.2.2.2.1,iP a.2.2.2.2.2.2.1],.cells [bP a.2.2.2.2.2.2.2.1],.cells [.bp 0 0],Xn [(3,.bp 1 0),(4,.bp 2 0),(5,.bp 3 0),(12,(fz 4))] .exhausted (some .ret)] (acall_b (H1:=λd=>[.cells (c27 f),.cells (c58 g),.cells [iP a.1,iP a.2.1,iP a.2.2.1,iP a.2.2.2.1,iP a.2.2.2.2.1,iP a.2.2.2.2.2.1,iP a.2.2.2.2.2.2.1],.cells [bP a.2.2.2.2.2.2.2.1],.cells [.bp 0 0],Xn [(3,.bp 1 0),(4,.bp 2 0),(5,.bp 3 0),(12,(fz 4))] (lst d) (lpd d .ret)]) i (CF276_2 j)) ?_
  obtain rfl:=soj b
  exact ends_cl (.inr rfl) (wm (le':=[(4,.bp 2 0),(5,.bp 3 0)]))
 refine g_range [] [.bp 4 0] .normal [.cells (c27 f),.cells (c58 g),.cells [iP a.1,iP a.2.1,iP a.2.2.1,iP a.2.2.2.1,iP a.2.2.2.2.1,iP a.2.2.2.2.2.1,iP a.2.2.2.2.2.2.1],.cells [bP a.2.2.2.2.2.2.2.1],.cells [.bp 0 0],Xn [(3,.bp 1 0),(4,.bp 2 0),(5,.bp 3 0),(12,(fz 4))] .exhausted none] (acall_b (H1:=λd=>[.cells (c27 f),.cells (c58 g),.cells [iP a.1,iP a.2.1,iP a.2.2.1,iP a.2.2.2.1,iP a.2.2.2.2.1,iP a.2.2.2.2.2.1,iP a.2.2.2.2.2.2.1],.cells [bP a.2.2.2.2.2.2.2.1],.cells [.bp 0 0],Xn [(3,.bp 1 0),(4,.bp 2 0),(5,.bp 3 0),(12,(fz 4))] (lst d) (lpd d .ret)]) i (CF276_2 j)) ?_
 exact⟨(a.1,a.2.1,a.2.2.1,a.2.2.2.1,a.2.2.2.2.1,a.2.2.2.2.2.1,a.2.2.2.2.2.2.1,a.2.2.2.2.2.2.2.1),b,(wm (le':=[(4,.bp 2 0),(5,.bp 3 0)])).trans (weak_cutI 4)⟩
theorem CF189 {h i} (g:F189 h=some i):A0 189 [eS 1 cI h] (eS 1 cI i):=by
 refine gC Tryz.func189 ?_
 rcases cor g with⟨F,g⟩|⟨F,g⟩
 ·refine gD 1 [re 1,rs 1 (kL 1 cI h::⟨.st (.mkSl 1 8 [iP 0] (.c (iP (ln h))) (.c (iP (ln h)))) [] (nP 0 1 cI ([]:List Int)) [.grow (List.length ([]:List Int)) 1] 0,n_mk0 F⟩::es 1 [])] [] [(3,nP 0 1 cI ([]:List Int))] 0 [.grow (List.length ([]:List Int)) 1] ?_
  refine gMd [0] (λ(_:Unit)=>([],JF189_4)) i ?_ ?_
  ·rintro⟨⟩ g
   refine Yp [re 2] .ret [(2,nP 0 1 cI ([]:List Int))] [.grow (List.length ([]:List Int)) 1] (λe o=>?_)
   obtain rfl:=soj g
   exact Zf (r:=(nP 0 1 cI ([]:List Int))) (.inr rfl) o (by kernel_rfl) (Ul cl_cI) ⟨rfl,rfl⟩
  obtain⟨Q,C,g⟩:=Xa g
  refine gPl 0 [re 1] 0 C [] (λG=>[(4,iP G)]) ?_
  rintro G P u K
  rcases cor u with⟨t,u⟩|⟨t,u⟩
  ·exact nomatch u
  cases u
  obtain rfl:=K _ rfl
  exact ge 0 [rk 2 (kL 1 cI h) 1,bb t] λ_ o=>Xh ⟨(),g,o⟩
 obtain⟨m,O,g⟩:=Xa g
 refine gD 1 [re 1,rs 1 (kL 1 cI h::⟨(.st (.mkSl 1 8 [iP 0] (.c (iP (ln h))) (.c (iP (ln h)))) [] (.bs 0 0 m 1 true) [.cells ((List.map (λx=>[PV.sc (.int .i64 x)]) (List.replicate m (0:Int))).flatten)] 0),(n_mkRow (f:=λx=>PV.sc (.int .i64 x)) O rfl)⟩::es 1 [])] [] [(3,.bs 0 0 m 1 true)] 0 [.cells ((List.map (λx=>[PV.sc (.int .i64 x)]) (List.replicate m (0:Int))).flatten)] ?_
 refine gMD [0] 0 (λd=>([],[.cells ((List.map (λx=>[PV.sc (.int .i64 x)]) d).flatten)],JF189_13 m d)) i ?_ ?_
 ·rintro d g
  refine Yp [re 2] .ret [(2,.bs 0 0 m 1 true)] [.cells ((List.map (λx=>[PV.sc (.int .i64 x)]) d).flatten)] (λe o=>?_)
  obtain⟨_,N,g⟩:=Xa g
  obtain rfl:=soj g
  exact ends_cutF (r:=(.sl false .no 1 (List.map cI d))) (.inr rfl) (o.trans (weak_freeze (H:=[.cells ((List.map (λx=>[PV.sc (.int .i64 x)]) d).flatten)]) (c:=cI) (l:=d) (s:=1) (k:=0) (le':=[(2,.sl false .no 1 (List.map cI d))]) (Nat.zero_le _) rfl (λ_=>rfl) cl_cI (fzc (.row (gfz_len N)) fze) (abk rfl abe))) (by kernel_rfl) (psub_row cl_cI) ⟨rfl,rfl⟩
 obtain⟨I,p,g⟩:=Xa g
 refine gPL 0 [re 1] 0 p [] 0 (λ(b,j)=>([(4,iP b)],[.cells ((List.map (λx=>[PV.sc (.int .i64 x)]) j).flatten)])) ?_
 rintro⟨b,j⟩ M a v
 rcases cor a with⟨n,a⟩|⟨n,a⟩
 ·obtain⟨J,D,q,z,B,w,a⟩:=bs3 a
  obtain⟨L,E,A,y,a⟩:=bs2 a
  cases a
  exact gj [rk 2 (kL 1 cI h) 1,bb n,.r (es 5 (⟨.pu (.iaddrS 1 (.c (.bs 0 0 m 1 true)) (.c (iP (wi (b-(1)))))) (.bp 0 (0+(Int.toNat (wi (b-(1))))*1)),n_iaddrB D⟩::⟨.fd (.load none (.c (.bp 0 (0+(Int.toNat (wi (b-(1))))*1)))) [0] [.cells ((List.map (λx=>[PV.sc (.int .i64 x)]) j).flatten)] (iP q),fd_loadB (f:=λx=>PV.sc (.int .i64 x)) z⟩::es 3 (kX 1 cI w::es 2 []))) (⟨.pu (.iaddrS 1 (.c (.bs 0 0 m 1 true)) (.c (iP b))) (.bp 0 (0+(Int.toNat b)*1)),n_iaddrB E⟩::⟨.fr (.store 1 (.c (.bp 0 (0+(Int.toNat b)*1))) (.c (iP (wi (q+B))))) [0] [.cells ((List.map (λx=>[PV.sc (.int .i64 x)]) j).flatten)] [.cells ((List.map (λx=>[PV.sc (.int .i64 x)]) A).flatten)] (.tup []),fr_storeB (f:=λx=>PV.sc (.int .i64 x)) y rfl (λ_=>⟨rfl,rfl⟩)⟩::[]),re 3]
 cases a
 obtain rfl:=v _ rfl
 exact ge 0 [rk 2 (kL 1 cI h) 1,bb n] λ_ o=>Xh ⟨_,g,o⟩
theorem CF100 {f d b} (a:F100 f d=some b):A0 100 [.agg (c100 f),iP d] (.tup [eS 1 cI b.1,iP b.2]):=by
 refine gC Tryz.func100 ?_
 obtain⟨h,e,a⟩:=Xa a
 rcases cor a with⟨c,a⟩|⟨c,a⟩
 ·obtain rfl:=soj a
  exact gE [re 3,rk 2 (kC (CF188 e)) 5,re 2,bb c,re 3]
 obtain⟨i,g,a⟩:=Xa a
 obtain rfl:=soj a
 exact gE [re 3,rk 2 (kC (CF188 e)) 5,re 2,bb c,rk 1 (kC (CF189 g)) 2]
theorem CF231_1 {p l n t d} (a:F231_1 p l n t=some d):A1 231 [.bp 0 0,.agg (c58 p)] (hC l n t) (.tup [.agg (c261 d.1),bP d.2]) (hC l n t):=by
 refine gC Tryz.func231 ?_
 obtain⟨c,v,a⟩:=Xa a
 refine gD 1 [re 3,.r (es 5 (kC (CF291 v)::es 5 [])) (es 1 [])] [1] [(4,.bp 3 0),(6,.bp 4 0),(7,bP c.2)] 2 [.cells (c58 p),.cells [iP 0,iP 0,iP 0,iP 0],.cells [iP c.1.fq,iP c.1.faB,iP c.1.fC,iP c.1.fo,iP c.1.fB,iP c.1.f9,iP c.1.faC]] ?_
 refine gS ?_
 refine gMd [7] (λm=>([(28,bP m)],JF231_1_7 l c m)) d ?_ ?_
 ·rintro m a
  rcases cor a with⟨o,a⟩|⟨o,a⟩
  ·obtain rfl:=soj a
   exact gH 2 [bb o,re 3]
  refine gNd [bb o] [28] [] ?_
  obtain⟨z,f,y,h,u,g,a⟩:=bs3 a
  obtain⟨x,j,i,k,a⟩:=bs2 a
  rcases cor a with⟨e,a⟩|⟨e,a⟩
  ·obtain rfl:=soj a
   exact gH 2 [.r (es 7 (kX 22 c75 f::es 2 [])) (es 1 []),rk 1 (kC (CF99 h)) 5,.r (es 4 (kX 2 c95 g::es 4 (kX 2 c100 j::es 2 (kC (CF100 k)::es 4 [])))) (es 1 []),rk 3 (kL 1 cI i.1) 1,bb e,re 3]
  obtain⟨w,q,a⟩:=Xa a
  obtain rfl:=soj a
  exact gH 2 [.r (es 7 (kX 22 c75 f::es 2 [])) (es 1 []),rk 1 (kC (CF99 h)) 5,.r (es 4 (kX 2 c95 g::es 4 (kX 2 c100 j::es 2 (kC (CF100 k)::es 4 [])))) (es 1 []),rk 3 (kL 1 cI i.1) 1,bb e,.r (es 5 (kX 1 cI q::es 5 [])) (es 3 [])]
 rcases cor a with⟨b,a⟩|⟨b,a⟩
 ·exact gj [rs 3 (rP 3 b (kU b::[]))] λ_ s=>⟨true,a,s⟩
 exact gj [rs 3 (rQ 3 b (kF true (c.1.fq !=4) b::[]))] λ_ s=>⟨_,a,s⟩
theorem CF315 {e d a} (c:F315 e d=some a):A0 315 [iP e,iP d] (bP a):=by
 refine gC Tryz.func315 ?_
 rcases cor c with⟨b,c⟩|⟨b,c⟩
 ·obtain rfl:=soj c
  exact gE [re 1,rs 3 (rQ 3 b (kT (decide (e<=d)) false b::es 1 []))]
 obtain rfl:=soj c
 exact gE [re 1,rs 3 (rP 3 b (kV b::es 1 []))]
theorem CF292 {m e} (a:F292 m=some e):A0 292 [.agg (c261 m)] (bP e):=by
 refine gC Tryz.func292 ?_
 obtain⟨n,f,a⟩:=Xa a
 rcases cor a with⟨b,a⟩|⟨b,a⟩
 ·obtain⟨g,i,a⟩:=Xa a
  rcases cor a with⟨c,a⟩|⟨c,a⟩
  ·obtain⟨k,l,a⟩:=Xa a
   rcases cor a with⟨d,a⟩|⟨d,a⟩
   ·obtain⟨h,j,a⟩:=Xa a
    obtain rfl:=soj a
    exact gE [re 2,re 1,rs 3 (kC (CF315 f)::es 1 (rQ 3 b (bq b::kC (CF315 i)::kT g false b::es 1 (rQ 3 c (bq c::kC (CF315 l)::kT k false c::es 1 (rQ 3 d (bq d::kC (CF315 j)::kT h false d::es 1 [])))))))]
   obtain rfl:=soj a
   exact gE [re 2,re 1,rs 3 (kC (CF315 f)::es 1 (rQ 3 b (bq b::kC (CF315 i)::kT g false b::es 1 (rQ 3 c (bq c::kC (CF315 l)::kT k false c::es 1 (rP 4 d (kV d::es 1 [])))))))]
  obtain rfl:=soj a
  exact gE [re 2,re 1,rs 3 (kC (CF315 f)::es 1 (rQ 3 b (bq b::kC (CF315 i)::kT g false b::es 1 (rP 4 c (kV c::es 1 (rp 4 bqF (es 2 [])))))))]
 obtain rfl:=soj a
 exact gE [re 2,re 1,rs 3 (kC (CF315 f)::es 1 (rP 4 b (kV b::es 1 (rp 4 bqF (es 2 (rp 4 bqF (es 2 [])))))))]
theorem CF293 {d a} (c:F293 d=some a):A0 293 [iP d] (bP a):=by
 refine gC Tryz.func293 ?_
 rcases cor c with⟨b,c⟩|⟨b,c⟩
 ·obtain rfl:=soj c
  exact gE [re 1,rs 3 (rP 2 b (kU b::es 1 []))]
 obtain rfl:=soj c
 exact gE [re 1,rs 3 (rQ 2 b (kF true (d==7) b::es 1 []))]
theorem CF199 {b a} (c:F199 b=some a):A0 199 [iP b] (bP a):=by
 refine gC Tryz.func199 ?_
 obtain rfl:=soj c
 exact gE [re 1,re 4]
theorem CF116 {k j g} (a:F116 k j=some g):A0 116 [iP k,iP j] (iP g):=by
 refine gC Tryz.func116 ?_
 obtain⟨l,e,m,d,a⟩:=bs2 a
 rcases cor a with⟨b,a⟩|⟨b,a⟩
 ·rcases cor a with⟨i,a⟩|⟨i,a⟩
  ·obtain rfl:=soj a
   exact gE [re 1,rk 1 (kC (CF199 e)) 1,rk 1 (kC (CF199 d)) 1,re 1,bb b,re 1,bb i,re 1]
  obtain rfl:=soj a
  exact gE [re 1,rk 1 (kC (CF199 e)) 1,rk 1 (kC (CF199 d)) 1,re 1,bb b,re 1,bb i,re 1]
 rcases cor a with⟨f,a⟩|⟨f,a⟩
 ·obtain rfl:=soj a
  exact gE [re 1,rk 1 (kC (CF199 e)) 1,rk 1 (kC (CF199 d)) 1,re 1,bb b,re 1,bb f,re 1]
 rcases cor a with⟨h,a⟩|⟨h,a⟩
 ·obtain rfl:=soj a
  exact gE [re 1,rk 1 (kC (CF199 e)) 1,rk 1 (kC (CF199 d)) 1,re 1,bb b,re 1,bb f,re 3,bb h,re 1]
 rcases cor a with⟨c,a⟩|⟨c,a⟩
 ·obtain rfl:=soj a
  exact gE [re 1,rk 1 (kC (CF199 e)) 1,rk 1 (kC (CF199 d)) 1,re 1,bb b,re 1,bb f,re 3,bb h,re 3,bb c,re 1]
 obtain rfl:=soj a
 exact gE [re 1,rk 1 (kC (CF199 e)) 1,rk 1 (kC (CF199 d)) 1,re 1,bb b,re 1,bb f,re 3,bb h,re 3,bb c,re 1]
theorem CF115 {f c} (d:F115 f=some c):A0 115 [eS 1 cI f] (iP c):=by
 refine gC Tryz.func115 ?_
 refine gd 1 [re 1,re 1] [] [(3,iP 0)] ?_
 refine gMd [0] (λ(_:Unit)=>([],JF115_1)) c ?_ ?_
 ·rintro⟨⟩ d
  obtain rfl:=soj d
  exact gE [re 2]
 obtain⟨n,h,d⟩:=Xa d
 refine gPl 0 [rk 1 (kL 1 cI f) 1] 0 h [0] (λi=>[(6,eS 1 cI f),(7,iP (ln f)),(8,iP i)]) ?_
 rintro i m a j
 rcases cor a with⟨g,a⟩|⟨g,a⟩
 ·obtain⟨k,e,a⟩:=Xa a
  rcases cor a with⟨b,a⟩|⟨b,a⟩
  ·cases a
   obtain rfl:=j _ rfl
   obtain rfl:=soj d
   exact gE [re 1,bb g,.r (kX 1 cI e::es 2 []) [],re 3,bb b,re 2]
  cases a
  exact gj [re 1,bb g,.r (kX 1 cI e::es 2 []) [],re 3,bb b,re 2]
 cases a
 obtain rfl:=j _ rfl
 exact ge 0 [re 1,bb g] λ_ l=>Xh ⟨(),d,l⟩
theorem CF294 {d c a} (b:F294 d c=some a):A0 294 [.agg (c261 d),.agg (c261 c)] (iP a):=by
 refine gC Tryz.func294 ?_
 obtain⟨i,g,j,f,h,e,b⟩:=bs3 b
 obtain rfl:=soj b
 exact gE [re 3,.r (es 4 (kC (CF116 g)::es 4 [])) (kC (CF116 f)::es 1 (kC (CF115 e)::es 1 []))]
theorem CF232 {f e} (a:F232 f=some e):A0 232 [.agg (c263 f)] (iP e):=by
 refine gC Tryz.func232 ?_
 refine gP 0 [re 2] [(1,.bp 0 0)] [.cells (c263 f)] ?_
 refine gS ?_
 refine gB 0 ?_
 refine gMd [] (λn=>([(3,bP n)],JF232_2 f n)) e ?_ ?_
 ·rintro n a
  refine gK n (λt=>?_) (λt=>?_)
  ·replace a:=cond_t t a
   obtain rfl:=soj a
   exact gE [re 1]
  replace a:=cond_f t a
  refine gMd [3] (λo=>([(12,bP o)],JF232_5 f o)) e ?_ ?_
  ·rintro o a
   refine gK o (λq=>?_) (λq=>?_)
   ·replace a:=cond_t q a
    obtain rfl:=soj a
    exact gE [re 1]
   replace a:=cond_f q a
   refine gMd [12] (λr=>([(23,bP r)],JF232_8 f r)) e ?_ ?_
   ·rintro r a
    rcases cor a with⟨m,a⟩|⟨m,a⟩
    ·obtain rfl:=soj a
     exact gE [bb m,re 1]
    obtain⟨v,l,a⟩:=Xa a
    rcases cor a with⟨i,a⟩|⟨i,a⟩
    ·obtain rfl:=soj a
     exact gE [bb m,rk 4 (kC (CF294 l)) 2,bb i,re 1]
    refine gNd [bb m,rk 4 (kC (CF294 l)) 2,bb i] [1,23] [] ?_
    obtain rfl:=soj a
    exact gE [re 1]
   rcases cor a with⟨b,a⟩|⟨b,a⟩
   ·exact gj [rs 8 (rP 5 b (kU b::es 1 []))] λ_ d=>⟨true,a,d⟩
   obtain⟨u,j,a⟩:=Xa a
   rcases cor a with⟨h,a⟩|⟨h,a⟩
   ·exact gj [rs 8 (rQ 2 b (bq b::kC (CF293 j)::bq b::es 1 (rQ 7 h (bq b::kT (f.fj.fB !=f.fTo.fB) false h::kF true (f.fj.fB !=f.fTo.fB) b::es 1 []))))] λ_ d=>⟨_,a,d⟩
   exact gj [rs 8 (rQ 2 b (bq b::kC (CF293 j)::bq b::es 1 (rP 7 h (bq b::kV h::kF true false b::es 1 []))))] λ_ d=>⟨false,a,d⟩
  obtain⟨w,k,a⟩:=Xa a
  rcases cor a with⟨c,a⟩|⟨c,a⟩
  ·exact gj [rs 2 (kC (CF292 k)::es 2 (rP 4 c (kU c::es 1 [])))] λ_ d=>⟨true,a,d⟩
  obtain⟨p,s,a⟩:=Xa a
  exact gj [rs 2 (kC (CF292 k)::es 2 (rQ 2 c (bq c::kC (CF292 s)::bq c::es 1 (kF true (!p) c::es 1 []))))] λ_ d=>⟨_,a,d⟩
 rcases cor a with⟨g,a⟩|⟨g,a⟩
 ·exact gj [rs 4 (rP 3 g (kU g::es 1 []))] λ_ d=>⟨true,a,d⟩
 exact gj [rs 4 (rQ 3 g (kF true (decide (f.fq>7)) g::es 1 []))] λ_ d=>⟨_,a,d⟩
theorem CF157_1 {b p o g} (t:F157_1 b p o=some g):A1 157 [.bp 0 0] (hC b p o) (.tup [eS 9 c263 g.1,eS 1 cB g.2]) (hC b p o):=by
 refine gC Tryz.func157 ?_
 refine gd 2 [re 2,re 1,re 1] [] [(4,eS 9 c263 Sl.nil),(5,eS 1 cB Sl.nil)] ?_
 refine gMD [0] 2 (λ(x:(List G263)×(List Bool))=>match x with|(i,j)=>([(4,oP 2 9 c263 i),(5,oP 3 1 cB j)],[.grow (List.length i) 9,.grow (List.length j) 1],JF157_1_5 i j)) g ?_ ?_
 ·rintro⟨i,j⟩ t
  refine Yp [re 4] .ret [(2,oP 2 9 c263 i),(3,oP 3 1 cB j)] (hC b p o++[.grow (List.length i) 9,.grow (List.length j) 1]) (λe C=>?_)
  obtain rfl:=soj t
  exact ends_cutH (r:=(.tup [oP 2 9 c263 i,oP 3 1 cB j])) (H3:=(hC b p o)) (X:=[.grow (List.length i) 9,.grow (List.length j) 1]) (.inr rfl) C rfl rfl (by kernel_rfl) AllBI.h (psub_tup (qs:=[eS 9 c263 (mkSl i),eS 1 cB (mkSl j)]) (pc (We cl263) (pc (We cl_cB) pe))) ⟨rfl,rfl⟩
 refine gd 0 [rk 5 (kL 7 c213 b.fp) 1] [] [(17,eS 7 c213 b.fp),(18,iP (ln b.fp)),(19,iP 0)] ?_
 refine gB 0 ?_
 obtain⟨J,q,t⟩:=Xa t
 refine gL q (λ(u,v,E)=>([(0,.bp 0 0),(4,oP 2 9 c263 u),(5,oP 3 1 cB v),(17,eS 7 c213 b.fp),(18,iP (ln b.fp)),(19,iP E)],hC b p o++[.grow (List.length u) 9,.grow (List.length v) 1])) ((((Wc (le':=[(0,.bp 0 0),(4,eS 9 c263 Sl.nil),(5,eS 1 cB Sl.nil),(17,eS 7 c213 b.fp),(18,iP (ln b.fp)),(19,iP 0)]) (by kernel_rfl)).trans (Uq (le':=[(0,.bp 0 0),(4,oP 2 9 c263 []),(5,oP 3 1 cB []),(17,eS 7 c213 b.fp),(18,iP (ln b.fp)),(19,iP 0)]) (wc (PSub.refl _) (wc Uk (wc Uk (wc (PSub.refl _) (wc (PSub.refl _) (wc (PSub.refl _) we)))))))).trans (Uj 9)).trans (Uj 1)) ?_
 rintro⟨u,v,E⟩ M a z
 rcases cor a with⟨f,a⟩|⟨f,a⟩
 ·obtain⟨K,l,G,m,s,n,a⟩:=bs3 a
  obtain⟨I,k,a⟩:=Xa a
  rcases cor a with⟨c,a⟩|⟨c,a⟩
  ·obtain⟨L,D,a⟩:=Xa a
   cases a
   exact gk 4 [re 1,bb f,.r (kX 7 c213 l::es 3 []) [],rk 3 (kQ [0,1] [] 0 0 (CF231_1 m)) 6,rk 3 (kQ [0,1] [] 0 0 (CF231_1 n)) 6,re 7,rs 3 (kA 2 9 c263 k::es 4 (rP 2 c (kU c::es 1 (rp 3 bqT (es 2 (kA 3 1 cB D::es 2 [])))))),re 2]
  rcases cor a with⟨d,a⟩|⟨d,a⟩
  ·obtain⟨H,B,a⟩:=Xa a
   cases a
   exact gk 4 [re 1,bb f,.r (kX 7 c213 l::es 3 []) [],rk 3 (kQ [0,1] [] 0 0 (CF231_1 m)) 6,rk 3 (kQ [0,1] [] 0 0 (CF231_1 n)) 6,re 7,rs 3 (kA 2 9 c263 k::es 4 (rQ 2 c (kF true (!s.2) c::es 1 (rP 3 d (kU d::es 1 (kA 3 1 cB B::es 2 [])))))),re 2]
  obtain⟨y,A,F,w,a⟩:=bs2 a
  cases a
  exact gk 4 [re 1,bb f,.r (kX 7 c213 l::es 3 []) [],rk 3 (kQ [0,1] [] 0 0 (CF231_1 m)) 6,rk 3 (kQ [0,1] [] 0 0 (CF231_1 n)) 6,re 7,rs 3 (kA 2 9 c263 k::es 4 (rQ 2 c (kF true (!s.2) c::es 1 (bq d::es 1 (bq d::kC (CF232 A)::bq d::es 1 (kF true (y !=0) d::es 1 (kA 3 1 cB w::es 2 []))))))),re 2]
 cases a
 obtain rfl:=z _ rfl
 exact ge 0 [re 1,bb f] λ_ C=>Xh ⟨(u,v),t,C⟩
theorem CF71_1 {c h o f} (g:F71_1 c h o=some f):A1 71 [.bp 0 0] (hC c h o) (.tup []) (hC c h f):=by
 refine gC Tryz.func71 ?_
 obtain⟨v,q,g⟩:=Xa g
 obtain⟨x,d,g⟩:=Xa g
 refine gPL 1 [rk 1 (kQ [0,1] [] 0 0 (CF157_1 q)) 5,rk 5 (kL 7 c213 c.fp) 1] 0 d [] 0 (λ(p,e)=>([(3,eS 1 cB v.2),(15,eS 7 c213 c.fp),(16,iP (ln c.fp)),(17,iP p)],hC c h e)) ?_
 rintro⟨p,e⟩ u a i
 rcases cor a with⟨b,a⟩|⟨b,a⟩
 ·obtain⟨w,m,t,n,s,l,a⟩:=bs3 a
  cases a
  exact gk 2 [re 1,bb b,rk 1 (kX 7 c213 m) 4,.r (es 3 (kX 1 cB n::es 3 [])) (kK [0,1] [] 0 0 (Yd l)::[]),re 2]
 cases a
 obtain rfl:=i _ rfl
 obtain rfl:=soj g
 exact g_rh 2 [re 1,bb b] (.exit 0) λ_ _ k j=>Xh (hn k j)
theorem CF295 {e b} (a:F295 e=some b):A0 295 [iP e] (iP b):=by
 refine gC Tryz.func295 ?_
 refine gd 0 [re 1] [] [] ?_
 refine gS ?_
 refine gMd [] (λh=>([(8,bP h)],JF295_2 e h)) b ?_ ?_
 ·rintro h a
  rcases cor a with⟨i,a⟩|⟨i,a⟩
  ·obtain rfl:=soj a
   exact gE [bb i,re 1]
  refine gNd [bb i] [8] [] ?_
  obtain⟨k,j,a⟩:=Xa a
  obtain rfl:=soj a
  exact gE [rk 3 ⟨.pu (.idxA 1 7 none (.c (.agg [iP 1,iP 2,iP 2,iP 4,iP 4,iP 6,iP 7])) (.c (iP (wi (e-(1)))))) (iP k),(n_idxA1 (f:=λx=>(iP x)) j rfl)⟩ 1]
 rcases cor a with⟨d,a⟩|⟨d,a⟩
 ·exact gj [rs 3 (rP 2 d (kU d::[]))] λ_ g=>⟨true,a,g⟩
 exact gj [rs 3 (rQ 2 d (kF true (decide (e>7)) d::[]))] λ_ g=>⟨_,a,g⟩
theorem CF233 {g h i} (d:F233 g h=some i):A0 233 [.agg (c263 g),.agg (c263 h)] (bP i):=by
 refine gC Tryz.func233 ?_
 obtain⟨q,k,d⟩:=Xa d
 rcases cor d with⟨c,d⟩|⟨c,d⟩
 ·obtain⟨n,m,o,l,d⟩:=bs2 d
  rcases cor d with⟨f,d⟩|⟨f,d⟩
  ·rcases cor d with⟨a,d⟩|⟨a,d⟩
   ·obtain⟨p,j,d⟩:=Xa d
    rcases cor d with⟨e,d⟩|⟨e,d⟩
    ·obtain rfl:=soj d
     exact gE [re 3,.r (es 2 (kC (CF295 k)::es 2 (rQ 2 c (bq c::kC (CF295 m)::rQ 2 c (bq c::kC (CF295 l)::bq c::es 1 (kT (n==o) false c::es 1 (rQ 7 f (kT (g.fj.fC==h.fj.fC) false f::es 1 (rQ 2 a (bq a::kC (CF293 j)::rQ 2 a (rP 6 e []))))))))))) (bq e::bq a::kU e::kT true false a::es 1 [])]
    obtain rfl:=soj d
    exact gE [re 3,.r (es 2 (kC (CF295 k)::es 2 (rQ 2 c (bq c::kC (CF295 m)::rQ 2 c (bq c::kC (CF295 l)::bq c::es 1 (kT (n==o) false c::es 1 (rQ 7 f (kT (g.fj.fC==h.fj.fC) false f::es 1 (rQ 2 a (bq a::kC (CF293 j)::rQ 2 a (rQ 6 e []))))))))))) (bq e::es 1 (bq a::kF true (g.fj.fB==h.fj.fB) e::kT (g.fj.fB==h.fj.fB) false a::es 1 []))]
   obtain rfl:=soj d
   exact gE [re 3,.r (es 2 (kC (CF295 k)::es 2 (rQ 2 c (bq c::kC (CF295 m)::rQ 2 c (bq c::kC (CF295 l)::bq c::es 1 (kT (n==o) false c::es 1 (rQ 7 f (kT (g.fj.fC==h.fj.fC) false f::es 1 (rP 5 a []))))))))) (bq a::kV a::es 1 [])]
  obtain rfl:=soj d
  exact gE [re 3,.r (es 2 (kC (CF295 k)::es 2 (rQ 2 c (bq c::kC (CF295 m)::rQ 2 c (bq c::kC (CF295 l)::bq c::es 1 (kT (n==o) false c::es 1 (rP 7 f (kV f::es 1 (rp 5 bqF []))))))))) (bq (t:=false) (b:=false) rfl::es 2 [])]
 obtain rfl:=soj d
 exact gE [re 3,.r (es 2 (kC (CF295 k)::es 2 (rP 7 c (kV c::es 1 (rp 7 bqF (es 2 (rp 5 bqF []))))))) (bq (t:=false) (b:=false) rfl::es 2 [])]
theorem CF235 {f d c} (a:F235 f d=some c):A0 235 [.agg (c263 f),.agg (c263 d)] (bP c):=by
 refine gC Tryz.func235 ?_
 obtain⟨i,e,a⟩:=Xa a
 rcases cor a with⟨b,a⟩|⟨b,a⟩
 ·obtain rfl:=soj a
  exact gE [re 3,rs 4 (kC (CF294 e)::es 2 (rP 6 b (kU b::es 1 [])))]
 obtain⟨h,g,a⟩:=Xa a
 obtain rfl:=soj a
 exact gE [re 3,rs 4 (kC (CF294 e)::es 2 (rQ 4 b (bq b::kC (CF294 g)::bq b::es 1 (kF true (decide (h<=0)) b::es 1 []))))]
theorem CF296 {f d c} (a:F296 f d=some c):A0 296 [.agg (c263 f),.agg (c263 d)] (bP c):=by
 refine gC Tryz.func296 ?_
 obtain⟨i,e,a⟩:=Xa a
 rcases cor a with⟨b,a⟩|⟨b,a⟩
 ·obtain⟨h,g,a⟩:=Xa a
  obtain rfl:=soj a
  exact gE [re 3,rs 4 (kC (CF294 e)::es 2 (rQ 4 b (bq b::kC (CF294 g)::bq b::es 1 (kT (decide (h<=0)) false b::es 1 []))))]
 obtain rfl:=soj a
 exact gE [re 3,rs 4 (kC (CF294 e)::es 2 (rP 6 b (kV b::es 1 [])))]
theorem CF238 {f d c} (b:F238 f d=some c):A0 238 [.agg (c263 f),.agg (c263 d)] (bP c):=by
 refine gC Tryz.func238 ?_
 obtain⟨k,e,b⟩:=Xa b
 rcases cor b with⟨a,b⟩|⟨a,b⟩
 ·obtain⟨i,g,h,j,b⟩:=bs2 b
  obtain rfl:=soj b
  exact gE [re 3,.r (es 2 (kC (CF235 e)::es 2 (rQ 2 a (bq a::kC (CF296 g)::rQ 2 a [])))) (bq a::kC (CF296 j)::bq a::es 1 (kT (i==h) false a::es 1 []))]
 obtain rfl:=soj b
 exact gE [re 3,.r (es 2 (kC (CF235 e)::es 2 (rP 5 a []))) (rP 2 a (kV a::es 1 []))]
theorem CF234 {d c a} (b:F234 d c=some a):A0 234 [.agg (c263 d),.agg (c263 c)] (bP a):=by
 refine gC Tryz.func234 ?_
 obtain⟨f,e,b⟩:=Xa b
 obtain rfl:=soj b
 exact gE [re 3,rk 2 (kC (CF235 e)) 2]
theorem CF237 {f d c} (a:F237 f d=some c):A0 237 [.agg (c263 f),.agg (c263 d)] (bP c):=by
 refine gC Tryz.func237 ?_
 obtain⟨i,e,a⟩:=Xa a
 rcases cor a with⟨b,a⟩|⟨b,a⟩
 ·obtain rfl:=soj a
  exact gE [re 3,rs 4 (kC (CF294 e)::es 2 (rP 6 b (kU b::es 1 [])))]
 obtain⟨h,g,a⟩:=Xa a
 obtain rfl:=soj a
 exact gE [re 3,rs 4 (kC (CF294 e)::es 2 (rQ 4 b (bq b::kC (CF294 g)::bq b::es 1 (kF true (decide (h<0)) b::es 1 []))))]
theorem CF236 {d c a} (b:F236 d c=some a):A0 236 [.agg (c263 d),.agg (c263 c)] (bP a):=by
 refine gC Tryz.func236 ?_
 obtain⟨f,e,b⟩:=Xa b
 obtain rfl:=soj b
 exact gE [re 3,rk 2 (kC (CF237 e)) 2]
theorem CF158 {b u i} (a:F158 b u=some i):A0 158 [.agg (c263 b),.agg (c263 u)] (bP i):=by
 refine gC Tryz.func158 ?_
 obtain⟨C,e,a⟩:=Xa a
 rcases cor a with⟨d,a⟩|⟨d,a⟩
 ·obtain rfl:=soj a
  exact gE [re 3,rk 2 (kC (CF233 e)) 1,bb d,re 1]
 rcases cor a with⟨t,a⟩|⟨t,a⟩
 ·obtain⟨B,z,a⟩:=Xa a
  obtain rfl:=soj a
  exact gE [re 3,rk 2 (kC (CF233 e)) 1,bb d,re 1,re 1,re 9,.r (es 3 (⟨.pu (.iaddrA 1 7 (.c (.bp 2 0)) (.c (iP (wi (b.fq-(1)))))) (.bp 2 0),Vh 0 t rfl⟩::es 3 [])) (kC (CF238 z)::es 1 [])]
 rcases cor a with⟨s,a⟩|⟨s,a⟩
 ·obtain⟨D,l,a⟩:=Xa a
  obtain rfl:=soj a
  exact gE [re 3,rk 2 (kC (CF233 e)) 1,bb d,re 1,re 1,re 9,.r (es 3 (⟨.pu (.iaddrA 1 7 (.c (.bp 2 0)) (.c (iP (wi (b.fq-(1)))))) (.bp 2 1),Vh 1 s rfl⟩::es 3 [])) (kC (CF234 l)::es 1 [])]
 rcases cor a with⟨j,a⟩|⟨j,a⟩
 ·obtain⟨v,m,a⟩:=Xa a
  obtain rfl:=soj a
  exact gE [re 3,rk 2 (kC (CF233 e)) 1,bb d,re 1,re 1,re 9,.r (es 3 (⟨.pu (.iaddrA 1 7 (.c (.bp 2 0)) (.c (iP (wi (b.fq-(1)))))) (.bp 2 2),Vh 2 j rfl⟩::es 3 [])) (kC (CF234 m)::es 1 [])]
 rcases cor a with⟨f,a⟩|⟨f,a⟩
 ·obtain⟨x,q,a⟩:=Xa a
  obtain rfl:=soj a
  exact gE [re 3,rk 2 (kC (CF233 e)) 1,bb d,re 1,re 1,re 9,.r (es 3 (⟨.pu (.iaddrA 1 7 (.c (.bp 2 0)) (.c (iP (wi (b.fq-(1)))))) (.bp 2 3),Vh 3 f rfl⟩::es 3 [])) (kC (CF236 q)::es 1 [])]
 rcases cor a with⟨g,a⟩|⟨g,a⟩
 ·obtain⟨y,o,a⟩:=Xa a
  obtain rfl:=soj a
  exact gE [re 3,rk 2 (kC (CF233 e)) 1,bb d,re 1,re 1,re 9,.r (es 3 (⟨.pu (.iaddrA 1 7 (.c (.bp 2 0)) (.c (iP (wi (b.fq-(1)))))) (.bp 2 4),Vh 4 g rfl⟩::es 3 [])) (kC (CF236 o)::es 1 [])]
 rcases cor a with⟨h,a⟩|⟨h,a⟩
 ·obtain⟨A,p,a⟩:=Xa a
  obtain rfl:=soj a
  exact gE [re 3,rk 2 (kC (CF233 e)) 1,bb d,re 1,re 1,re 9,.r (es 3 (⟨.pu (.iaddrA 1 7 (.c (.bp 2 0)) (.c (iP (wi (b.fq-(1)))))) (.bp 2 5),Vh 5 h rfl⟩::es 3 [])) (kC (CF234 p)::es 1 [])]
 rcases cor a with⟨k,a⟩|⟨k,a⟩
 ·obtain⟨w,n,a⟩:=Xa a
  obtain rfl:=soj a
  exact gE [re 3,rk 2 (kC (CF233 e)) 1,bb d,re 1,re 1,re 9,.r (es 3 (⟨.pu (.iaddrA 1 7 (.c (.bp 2 0)) (.c (iP (wi (b.fq-(1)))))) (.bp 2 6),Vh 6 k rfl⟩::es 3 [])) (kC (CF236 n)::es 1 [])]
 exact nomatch a
theorem CF72_1 {f t N x} (C:F72_1 f t N=some x):A1 72 [.bp 0 0] (hC f t N) (.tup []) (hC f t x):=by
 refine gC Tryz.func72 ?_
 obtain⟨K,R,C⟩:=Xa C
 obtain⟨U,u,C⟩:=Xa C
 refine gPL 1 [rk 1 (kQ [0,1] [] 0 0 (CF157_1 R)) 5,rk 5 (kL 7 c213 f.fp) 1] 0 u [] 0 (λ(s,o)=>([(2,eS 9 c263 K.1),(3,eS 1 cB K.2),(17,eS 7 c213 f.fp),(18,iP (ln f.fp)),(19,iP s)],hC f t o)) ?_
 rintro⟨s,o⟩ y b I
 rcases cor b with⟨p,b⟩|⟨p,b⟩
 ·refine gd 1 [re 1,bb p] [] [] ?_
  refine gMD [] 0 (λq=>([],hC f t q,JF72_1_19 s q)) y ?_ ?_
  ·rintro q b
   cases b
   exact gj [re 2]
  refine gB 1 ?_
  obtain⟨w,L,b⟩:=Xa b
  refine gD 1 [rk 1 (kX 7 c213 L) 4,re 1] [] [(4,iP s),(5,.bp 2 0),(6,bP false)] 2 [.cells (c213 w)] ?_
  refine gMd [4] (λi=>([(6,bP i)],JF72_1_23 w f t o s i)) y ?_ ?_
  ·rintro i b
   obtain⟨O,M,b⟩:=Xa b
   exact gk 2 [rk 4 (kK [0,1] [] 0 0 (Yd M)) 0] λ_ _ h=>⟨_,b,h⟩
  obtain⟨T,z,b⟩:=Xa b
  refine gPl 0 [re 1] 2 z [] (λ(g,l)=>[(6,bP g),(7,iP l)]) ?_
  rintro⟨g,l⟩ E a G
  refine gS ?_
  refine gMd [] (λn=>([(37,bP n)],Un K l s g n)) E ?_ ?_
  ·rintro n a
   rcases cor a with⟨m,a⟩|⟨m,a⟩
   ·refine gNd [bb m] [6,37] [] ?_
    obtain⟨Q,A,a⟩:=Xa a
    rcases cor a with⟨c,a⟩|⟨c,a⟩
    ·obtain⟨P,F,S,D,H,J,a⟩:=bs3 a
     cases a
     exact gj [.r (es 2 (kX 1 cB A::es 3 (rQ 2 c (bq c::kX 9 c263 F::rQ 3 c (bq c::kX 9 c263 D::bq c::es 1 []))))) (bq c::kC (CF158 J)::kT H false c::es 1 []),re 3]
    cases a
    exact gj [.r (es 2 (kX 1 cB A::es 3 (rP 8 c []))) (bq c::kV c::es 1 []),re 3]
   cases a
   obtain rfl:=G _ rfl
   exact ge 2 [bb m] λ_ h=>Xh ⟨_,b,h⟩
  rcases cor a with⟨d,a⟩|⟨d,a⟩
  ·obtain⟨v,B,a⟩:=Xa a
   rcases cor a with⟨e,a⟩|⟨e,a⟩
   ·exact gj [rs 4 (rQ 2 d (bq d::kX 1 cB B::rQ 2 d (kT (!v) false d::es 1 (rQ 2 e (kT (!g) false e::[])))))] λ_ h=>⟨_,a,h⟩
   exact gj [rs 4 (rQ 2 d (bq d::kX 1 cB B::rQ 2 d (kT (!v) false d::es 1 (rP 2 e (kV e::[])))))] λ_ h=>⟨false,a,h⟩
  exact gj [rs 4 (rP 5 d (kV d::es 1 (rp 2 bqF (es 1 []))))] λ_ h=>⟨false,a,h⟩
 cases b
 obtain rfl:=I _ rfl
 obtain rfl:=soj C
 exact g_rh 2 [re 1,bb p] (.exit 0) λ_ _ k j=>Xh (hn k j)
theorem CF159 {h g e} (a:F159 h g=some e):A0 159 [iP h,.agg (c75 g)] (bP e):=by
 refine gC Tryz.func159 ?_
 rcases cor a with⟨c,a⟩|⟨c,a⟩
 ·obtain⟨f,i,a⟩:=Xa a
  rcases cor a with⟨d,a⟩|⟨d,a⟩
  ·obtain rfl:=soj a
   exact gE [re 2,rs 4 (rQ 2 c (bq c::kC (Xz i)::bq c::es 1 (kT (!f) false c::es 1 (rP 4 d (kU d::es 1 [])))))]
  obtain⟨j,l,a⟩:=Xa a
  obtain rfl:=soj a
  exact gE [re 2,rs 4 (rQ 2 c (bq c::kC (Xz i)::bq c::es 1 (kT (!f) false c::es 1 (rQ 2 d (bq d::kC (Xz l)::bq d::es 1 (kF true (!j) d::es 1 []))))))]
 obtain⟨m,k,a⟩:=Xa a
 obtain rfl:=soj a
 exact gE [re 2,rs 4 (rP 4 c (kV c::es 1 (rq 2 bqF (bq (t:=false) (b:=false) rfl::kC (Xz k)::bq (t:=false) (b:=false) rfl::es 3 []))))]
theorem CF131_6 {a e n d} (l:F131_6 a e n=some d):A1 131 [.bp 0 0,(fk 159)] (hC a e n) (.tup []) (hC a e d):=by
 refine gC Tryz.func131 ?_
 obtain⟨v,g,l⟩:=Xa l
 refine gPL 0 [rk 5 (kL 22 c75 a.fc) 1] 0 g [] 0 (λ(p,o)=>([(10,eS 22 c75 a.fc),(11,iP (ln a.fc)),(12,iP p)],hC a e o)) ?_
 rintro⟨p,o⟩ u c f
 rcases cor c with⟨b,c⟩|⟨b,c⟩
 ·obtain⟨s,h,t,i,q,m,c⟩:=bs3 c
  cases c
  exact gk 2 [re 1,bb b,rk 1 (kX 22 c75 h) 4,.r (es 4 (kC (CF159 i)::es 2 [])) (kK [0,1] [] 0 0 (Yd m)::[]),re 2]
 cases c
 obtain rfl:=f _ rfl
 obtain rfl:=soj l
 exact g_rh 2 [re 1,bb b] (.exit 0) λ_ _ k j=>Xh (hn k j)
theorem CF245 {j b} (a:F245 j=some b):A0 245 [.sc (.int .u64 j)] (iP b):=by
 refine gC Tryz.func245 ?_
 refine gd 0 [re 1] [] [(2,iP 0)] ?_
 refine gMd [] (λ(x:Int×Int)=>match x with|(h,g)=>([(0,.sc (.int .u64 h)),(2,iP g)],JF245_3 h g)) b ?_ ?_
 ·rintro⟨h,g⟩ a
  refine gMd [] (λ(x:Int×Int)=>match x with|(i,l)=>([(0,.sc (.int .u64 i)),(2,iP l)],JF245_6 i l)) b ?_ ?_
  ·rintro⟨i,l⟩ a
   rcases cor a with⟨m,a⟩|⟨m,a⟩
   ·obtain⟨p,o,a⟩:=Xa a
    obtain rfl:=soj a
    exact gE [re 2,bb m,re 3,re 3,rk 3 ⟨.pu (.idxStr (.c (sP (ByteArray.mk #[0,1,2,2,3,3,3,3,4,4,4,4,4,4,4,4,5,5,5,5,5,5,5,5,5,5,5,5,5,5,5,5,6,6,6,6,6,6,6,6,6,6,6,6,6,6,6,6,6,6,6,6,6,6,6,6,6,6,6,6,6,6,6,6,7,7,7,7,7,7,7,7,7,7,7,7,7,7,7,7,7,7,7,7,7,7,7,7,7,7,7,7,7,7,7,7,7,7,7,7,7,7,7,7,7,7,7,7,7,7,7,7,7,7,7,7,7,7,7,7,7,7,7,7,7,7,7,7,8,8,8,8,8,8,8,8,8,8,8,8,8,8,8,8,8,8,8,8,8,8,8,8,8,8,8,8,8,8,8,8,8,8,8,8,8,8,8,8,8,8,8,8,8,8,8,8,8,8,8,8,8,8,8,8,8,8,8,8,8,8,8,8,8,8,8,8,8,8,8,8,8,8,8,8,8,8,8,8,8,8,8,8,8,8,8,8,8,8,8,8,8,8,8,8,8,8,8,8,8,8,8,8,8,8,8,8,8,8,8,8,8,8,8,8,8,8,8,8,8,8,8,8,8,8,8,8]))) (.c (.sc (.int .u8 (IntKind.wrap .u8 (Int.fdiv i (2^8))))))) (.sc (.int .u8 ((UInt8.toNat p:Nat):Int))),n_ch o⟩ 3]
   obtain⟨k,n,a⟩:=Xa a
   obtain rfl:=soj a
   exact gE [re 2,bb m,rk 3 ⟨.pu (.idxStr (.c (sP (ByteArray.mk #[0,1,2,2,3,3,3,3,4,4,4,4,4,4,4,4,5,5,5,5,5,5,5,5,5,5,5,5,5,5,5,5,6,6,6,6,6,6,6,6,6,6,6,6,6,6,6,6,6,6,6,6,6,6,6,6,6,6,6,6,6,6,6,6,7,7,7,7,7,7,7,7,7,7,7,7,7,7,7,7,7,7,7,7,7,7,7,7,7,7,7,7,7,7,7,7,7,7,7,7,7,7,7,7,7,7,7,7,7,7,7,7,7,7,7,7,7,7,7,7,7,7,7,7,7,7,7,7,8,8,8,8,8,8,8,8,8,8,8,8,8,8,8,8,8,8,8,8,8,8,8,8,8,8,8,8,8,8,8,8,8,8,8,8,8,8,8,8,8,8,8,8,8,8,8,8,8,8,8,8,8,8,8,8,8,8,8,8,8,8,8,8,8,8,8,8,8,8,8,8,8,8,8,8,8,8,8,8,8,8,8,8,8,8,8,8,8,8,8,8,8,8,8,8,8,8,8,8,8,8,8,8,8,8,8,8,8,8,8,8,8,8,8,8,8,8,8,8,8,8,8,8,8,8,8,8]))) (.c (.sc (.int .u8 (IntKind.wrap .u8 i))))) (.sc (.int .u8 ((UInt8.toNat k:Nat):Int))),n_ch n⟩ 3]
  rcases cor a with⟨e,a⟩|⟨e,a⟩
  ·exact gj [re 2,bb e,re 3,re 3] λ_ f=>⟨((Int.fdiv h (2^16)),wi (g+16)),a,f⟩
  exact gj [re 2,bb e] λ_ f=>⟨(h,g),a,f⟩
 rcases cor a with⟨d,a⟩|⟨d,a⟩
 ·exact gj [re 2,bb d,re 3,re 1] λ_ f=>⟨((Int.fdiv j (2^32)),32),a,f⟩
 exact gj [re 2,bb d] λ_ f=>⟨(j,0),a,f⟩
theorem CF198 {c a} (b:F198 c=some a):A0 198 [.sc (.int .u64 c)] (iP a):=by
 refine gC Tryz.func198 ?_
 obtain⟨e,d,b⟩:=Xa b
 obtain rfl:=soj b
 exact gE [re 1,bF,rk 1 (kC (CF245 d)) 1]
theorem CF161 {e d} (b:F161 e=some d):A0 161 [.agg (c265 e)] (bP d):=by
 refine gC Tryz.func161 ?_
 rcases cor b with⟨a,b⟩|⟨a,b⟩
 ·obtain⟨f,g,b⟩:=Xa b
  obtain rfl:=soj b
  exact gE [re 2,.r (es 4 (rQ 5 a (bq a::⟨.pu (.bin .shl (.c (iP 1)) (.c (iP (wi (e.fu-(1)))))) (iP f),n_shl g⟩::[]))) (bq a::es 1 (kT (e.faa==f) false a::es 1 []))]
 obtain rfl:=soj b
 exact gE [re 2,.r (es 4 (rP 6 a [])) (bq a::kV a::es 1 [])]
theorem CF239 {d f j} (a:F239 d f=some j):A0 239 [.agg (c265 d),.agg (c75 f)] (.tup [.agg (c265 j.1),bP j.2]):=by
 refine gC Tryz.func239 ?_
 refine gP 0 [re 4] [(2,.bp 0 0),(3,.bp 1 0),(4,.bp 2 0)] [.cells (c265 d),.cells (c75 f),.cells [bP false,iP 0,iP 0,iP 0,bP false,iP 0]] ?_
 refine gS ?_
 refine gMd [] (λQ=>([(13,bP Q)],JF239_3 d f Q)) j ?_ ?_
 ·rintro Q a
  rcases cor a with⟨R,a⟩|⟨R,a⟩
  ·obtain rfl:=soj a
   exact gE [bb R,re 3]
  refine gNd [bb R] [13] [] ?_
  refine gMD [] 0 (λ(x:Int×Int×Bool)=>match x with|(K,J,N)=>([],[.cells [bP d.fT,iP d.fQ,iP K,iP J,bP N,iP d.fu],.cells (c75 f),.cells [bP false,iP 0,iP 0,iP 0,bP false,iP 0]],JF239_8 f d K J N)) j ?_ ?_
  ·rintro⟨K,J,N⟩ a
   refine gMD [3] 0 (λ(x:Bool×Int)=>match x with|(O,E)=>([],[.cells [bP d.fT,iP d.fQ,iP K,iP J,bP O,iP E],.cells (c75 f),.cells [bP false,iP 0,iP 0,iP 0,bP false,iP 0]],JF239_11 d K J O E)) j ?_ ?_
   ·rintro⟨O,E⟩ a
    obtain rfl:=soj a
    exact gE [re 3]
   refine gd 0 [re 3] [] [(97,bP (f.fX !=0))] ?_
   refine gK (f.fX !=0) (λF=>?_) (λF=>?_)
   ·replace a:=cond_t F a
    refine gS ?_
    refine gMd [97] (λz=>([(120,bP z)],JF239_14 d K J N f z)) j ?_ ?_
    ·rintro z a
     rcases cor a with⟨D,a⟩|⟨D,a⟩
     ·obtain rfl:=soj a
      exact gE [bb D,re 3]
     refine gNd [bb D] [120] [] ?_
     exact gj [re 6] λ_ e=>⟨(true,f.fX),a,e⟩
    obtain⟨Y,u,a⟩:=Xa a
    rcases cor a with⟨i,a⟩|⟨i,a⟩
    ·exact gj [.r (es 1 (kC (CF161 u)::es 1 (rP 5 i (kU i::es 1 (rp 6 bqT []))))) (bqT::es 1 [])] λ_ e=>⟨true,a,e⟩
    rcases cor a with⟨n,a⟩|⟨n,a⟩
    ·rcases cor a with⟨k,a⟩|⟨k,a⟩
     ·exact gj [.r (es 1 (kC (CF161 u)::es 1 (rQ 4 i (rQ 5 n (bq i::kT (f.fX !=d.fu) false n::kF true (f.fX !=d.fu) i::es 1 (rP 6 k [])))))) (bq k::kU k::[])] λ_ e=>⟨true,a,e⟩
     obtain⟨V,P,a⟩:=Xa a
     exact gj [.r (es 1 (kC (CF161 u)::es 1 (rQ 4 i (rQ 5 n (bq i::kT (f.fX !=d.fu) false n::kF true (f.fX !=d.fu) i::es 1 (rQ 3 k (bq k::kC (CF198 P)::rQ 2 k []))))))) (bq k::es 1 (kF true (decide (V>=f.fX)) k::[]))] λ_ e=>⟨_,a,e⟩
    obtain⟨X,S,a⟩:=Xa a
    exact gj [.r (es 1 (kC (CF161 u)::es 1 (rQ 4 i (rP 5 n (bq i::kV n::kF true false i::es 1 (rq 3 bqF (bq (t:=false) (b:=false) rfl::kC (CF198 S)::rq 2 bqF []))))))) (bq (t:=false) (b:=false) rfl::es 2 [])] λ_ e=>⟨_,a,e⟩
   replace a:=cond_f F a
   exact gj [] λ_ e=>⟨(N,d.fu),a,e⟩
  refine gd 0 [re 5] [] [(19,bP (f.fy !=d.faa))] ?_
  refine gK (f.fy !=d.faa) (λB=>?_) (λB=>?_)
  ·replace a:=cond_t B a
   refine gS ?_
   refine gMd [19] (λv=>([(35,bP v)],JF239_27 d f v)) j ?_ ?_
   ·rintro v a
    rcases cor a with⟨A,a⟩|⟨A,a⟩
    ·obtain rfl:=soj a
     exact gE [bb A,re 3]
    refine gNd [bb A] [35] [] ?_
    obtain⟨M,T,a⟩:=Xa a
    refine gD 1 [rk 3 (kC (CF198 T)) 2,.r (es 9 []) (es 4 [])] [] [(6,iP (wi (M-(1))))] 0 [.cells [bP d.fT,iP d.fQ,iP (ior .i64 d.fH f.fy),iP f.fy,bP false,iP d.fu],.cells (c75 f),.cells [bP false,iP 0,iP 0,iP 0,bP false,iP 0]] ?_
    refine gB 0 ?_
    refine gd 0 [re 4] [] [(52,bP (d.fu==0))] ?_
    refine gK (d.fu==0) (λw=>?_) (λw=>?_)
    ·replace a:=cond_t w a
     refine gMd [6,52] (λC=>([(63,bP C)],JF239_33 d f C)) j ?_ ?_
     ·rintro C a
      rcases cor a with⟨H,a⟩|⟨H,a⟩
      ·obtain rfl:=soj a
       exact gE [bb H,re 3]
      exact gj [bb H] λ_ e=>⟨((ior .i64 d.fH f.fy),f.fy,false),a,e⟩
     rcases cor a with⟨p,a⟩|⟨p,a⟩
     ·exact gj [rs 5 (rP 2 p (kU p::[]))] λ_ e=>⟨true,a,e⟩
     exact gj [rs 5 (rQ 2 p (kF true (decide ((wi (M-(1)))>6)) p::[]))] λ_ e=>⟨_,a,e⟩
    replace a:=cond_f w a
    refine gMd [6,52] (λI=>([(65,bP I)],JF239_37 d f I)) j ?_ ?_
    ·rintro I a
     rcases cor a with⟨G,a⟩|⟨G,a⟩
     ·obtain rfl:=soj a
      exact gE [bb G,re 3]
     exact gj [bb G] λ_ e=>⟨((ior .i64 d.fH f.fy),f.fy,false),a,e⟩
    rcases cor a with⟨h,a⟩|⟨h,a⟩
    ·exact gj [.r (es 5 (rP 6 h [])) (bq h::kU h::es 1 [])] λ_ e=>⟨true,a,e⟩
    rcases cor a with⟨g,a⟩|⟨g,a⟩
    ·obtain⟨W,L,a⟩:=Xa a
     rcases cor a with⟨l,a⟩|⟨l,a⟩
     ·exact gj [.r (es 5 (rQ 6 h (bq g::es 1 (bq g::kC (CF161 L)::rQ 2 g (rP 6 l []))))) (bq l::bq g::kU l::bq h::kT true false g::kF true true h::es 1 [])] λ_ e=>⟨true,a,e⟩
     obtain⟨s,U,a⟩:=Xa a
     exact gj [.r (es 5 (rQ 6 h (bq g::es 1 (bq g::kC (CF161 L)::rQ 2 g (rQ 4 l (bq l::⟨.pu (.bin .shl (.c (iP 1)) (.c (iP d.fu))) (iP s),n_shl U⟩::bq l::es 1 [])))))) (bq l::es 1 (bq g::kF true ((ior .i64 d.fH f.fy) !=(wi (s-(1)))) l::bq h::kT ((ior .i64 d.fH f.fy) !=(wi (s-(1)))) false g::kF true ((ior .i64 d.fH f.fy) !=(wi (s-(1)))) h::es 1 []))] λ_ e=>⟨_,a,e⟩
    exact gj [.r (es 5 (rQ 6 h (rP 4 g []))) (bq g::bq h::kV g::kF true false h::es 1 [])] λ_ e=>⟨false,a,e⟩
   rcases cor a with⟨m,a⟩|⟨m,a⟩
   ·rcases cor a with⟨q,a⟩|⟨q,a⟩
    ·exact gj [rs 4 (rQ 3 m (kT (!d.fan) false m::es 1 (rP 6 q (kU q::[]))))] λ_ e=>⟨true,a,e⟩
    exact gj [rs 4 (rQ 3 m (kT (!d.fan) false m::es 1 (rQ 6 q (kF true ((iand .i64 f.fy d.fH) !=0) q::[]))))] λ_ e=>⟨_,a,e⟩
   exact gj [rs 4 (rP 3 m (kV m::es 1 (rq 6 bqF (es 1 []))))] λ_ e=>⟨_,a,e⟩
  replace a:=cond_f B a
  rcases cor a with⟨y,a⟩|⟨y,a⟩
  ·obtain rfl:=soj a
   exact gE [re 2,bb y,re 3]
  exact gj [re 2,bb y] λ_ e=>⟨(d.fH,d.faa,d.fan),a,e⟩
 rcases cor a with⟨o,a⟩|⟨o,a⟩
 ·exact gj [rs 3 (rP 3 o (kU o::[]))] λ_ e=>⟨true,a,e⟩
 exact gj [rs 3 (rQ 3 o (kF true (d.fQ==0) o::[]))] λ_ e=>⟨_,a,e⟩
theorem CF160 {e q b} (a:F160 e q=some b):A0 160 [.agg (c265 e),.agg (c75 q)] (.tup [.agg (c265 b.1),bP b.2]):=by
 refine gC Tryz.func160 ?_
 rcases cor a with⟨y,a⟩|⟨y,a⟩
 ·obtain⟨B,A,a⟩:=Xa a
  obtain rfl:=soj a
  exact gE [re 4,re 3,bb y,rk 2 (kC (CF239 A)) 4]
 refine gP 1 [re 4,re 3,bb y] [(2,.bp 0 0),(3,.bp 1 0),(4,.bp 2 0)] [.cells (c265 e),.cells (c75 q),.cells [bP false,iP 0,iP 0,iP 0,bP false,iP 0]] ?_
 refine gMD [] 0 (λ(x:Bool×Int×Int×Int×Bool×Int)=>match x with|(u,s,w,v,t,c)=>([],[.cells [bP u,iP s,iP w,iP v,bP t,iP c],.cells (c75 q),.cells [bP false,iP 0,iP 0,iP 0,bP false,iP 0]],JF160_11 q u s w v t c)) b ?_ ?_
 ·rintro⟨u,s,w,v,t,c⟩ a
  refine gMD [] 0 (λ(x:Bool×Int×Int×Int×Bool×Int)=>match x with|(i,h,g,l,j,m)=>([],[.cells [bP i,iP h,iP g,iP l,bP j,iP m],.cells (c75 q),.cells [bP false,iP 0,iP 0,iP 0,bP false,iP 0]],JF160_18 q i h g l j m)) b ?_ ?_
  ·rintro⟨i,h,g,l,j,m⟩ a
   rcases cor a with⟨n,a⟩|⟨n,a⟩
   ·obtain rfl:=soj a
    exact gE [re 5,re 3,bb n,re 2,re 3]
   obtain rfl:=soj a
   exact gE [re 5,re 3,bb n,re 3]
  rcases cor a with⟨d,a⟩|⟨d,a⟩
  ·rcases cor a with⟨o,a⟩|⟨o,a⟩
   ·obtain rfl:=soj a
    exact gE [re 2,bb d,re 2,bb o,re 3]
   exact gj [re 2,bb d,re 2,bb o,re 2] λ_ p=>⟨(true,0,0,0,false,0),a,p⟩
  exact gj [re 2,bb d] λ_ p=>⟨(u,s,w,v,t,c),a,p⟩
 rcases cor a with⟨f,a⟩|⟨f,a⟩
 ·obtain⟨z,r,a⟩:=Xa a
  rcases cor a with⟨k,a⟩|⟨k,a⟩
  ·obtain rfl:=soj a
   exact gE [re 3,bb f,rk 1 (kC (CF161 r)) 1,bb k,re 3]
  exact gj [re 3,bb f,rk 1 (kC (CF161 r)) 1,bb k,re 2] λ_ p=>⟨(false,0,0,0,false,0),a,p⟩
 exact gj [re 3,bb f] λ_ p=>⟨(e.fT,e.fQ,e.fH,e.faa,e.fan,e.fu),a,p⟩
theorem CF73_1 {j C K l} (a:Ve j C K=some l):A1 73 [.bp 0 0] (hC j C K) (.tup []) (hC j C l):=by
 refine gC Tryz.func73 ?_
 obtain⟨H,S,a⟩:=Xa a
 rcases cor a with⟨O,a⟩|⟨O,a⟩
 ·obtain rfl:=soj a
  exact gH 2 [rk 4 (kLA 1 3 c159 K) 1,rk 1 (kK [0,1] [] 0 0 (CF131_6 S)) 0,rk 4 (kLA 1 3 c159 H) 2,bb O]
 refine gD 4 [rk 4 (kLA 1 3 c159 K) 1,rk 1 (kK [0,1] [] 0 0 (CF131_6 S)) 0,rk 4 (kLA 1 3 c159 H) 2,bb O,re 1,re 1] [] [(3,.bp 2 0)] 0 (hC j C H++[.cells [bP false,iP 0,iP 0,iP 0,bP false,iP 0]]) ?_
 refine gMD [] 2 (λ(x:Bool×Int×Int×Int×Bool×Int)=>match x with|(w,s,y,h,n,B)=>([],[.cells [bP w,iP s,iP y,iP h,bP n,iP B]],JF73_1_16 j C H w s y h n B)) l ?_ ?_
 ·rintro⟨w,s,y,h,n,B⟩ a
  refine gMD [3] 2 (λA=>([(7,bP A)],[],Zv j C H A)) l ?_ ?_
  ·rintro A a
   obtain⟨Y,L,T,M,a⟩:=bs2 a
   obtain rfl:=soj a
   exact gHn 2 [.r (es 12 (kL 22 c75 j.fc::es 1 (kX 22 c75 L::es 2 []))) (kK [0,1] [] 0 0 (Yd M)::[])]
  rcases cor a with⟨d,a⟩|⟨d,a⟩
  ·rcases cor a with⟨e,a⟩|⟨e,a⟩
   ·exact gk 2 [rs 3 (rQ 3 d (kT (h==0) false d::es 1 (rP 5 e (kU e::es 1 []))))] λ_ _ i=>⟨true,a,i⟩
   rcases cor a with⟨g,a⟩|⟨g,a⟩
   ·obtain⟨F,P,a⟩:=Xa a
    exact gk 2 [rs 3 (rQ 3 d (kT (h==0) false d::es 1 (rQ 4 e (bq g::es 1 (bq g::kC (CF161 P)::bq g::es 1 (bq e::kT (!F) false g::kF true (!F) e::es 1 []))))))] λ_ _ i=>⟨_,a,i⟩
   exact gk 2 [rs 3 (rQ 3 d (kT (h==0) false d::es 1 (rQ 4 e (rP 3 g (bq e::kV g::kF true false e::es 1 [])))))] λ_ _ i=>⟨false,a,i⟩
  rcases cor a with⟨f,a⟩|⟨f,a⟩
  ·obtain⟨R,Q,a⟩:=Xa a
   exact gk 2 [rs 3 (rP 3 d (kV d::es 1 (rq 4 bqF (bq f::es 1 (bq f::kC (CF161 Q)::bq f::es 1 (bq (t:=false) (b:=false) rfl::kT (!R) false f::es 2 []))))))] λ_ _ i=>⟨_,a,i⟩
  exact gk 2 [rs 3 (rP 3 d (kV d::es 1 (rq 4 bqF (rP 3 f (bq (t:=false) (b:=false) rfl::kV f::es 2 [])))))] λ_ _ i=>⟨false,a,i⟩
 obtain⟨U,E,a⟩:=Xa a
 refine gPL 0 [rk 5 (kL 22 c75 j.fc) 1] 0 E [] 2 (λ(J,v,p,q,o,m,u)=>([(26,eS 22 c75 j.fc),(27,iP (ln j.fc)),(28,iP J)],[.cells [bP v,iP p,iP q,iP o,bP m,iP u]])) ?_
 rintro⟨J,v,p,q,o,m,u⟩ X c I
 rcases cor c with⟨k,c⟩|⟨k,c⟩
 ·obtain⟨V,G,Z,D,c⟩:=bs2 c
  rcases cor c with⟨z,c⟩|⟨z,c⟩
  ·obtain⟨W,N,c⟩:=Xa c
   cases c
   obtain rfl:=I _ rfl
   obtain rfl:=soj a
   exact gH 2 [re 1,bb k,.r (kX 22 c75 G::es 3 []) [],rk 2 (kC (CF160 D)) 5,re 2,bb z,rk 3 (kK [0,1] [] 0 0 (Yd N)) 0]
  cases c
  exact gk 3 [re 1,bb k,.r (kX 22 c75 G::es 3 []) [],rk 2 (kC (CF160 D)) 5,re 2,bb z,re 2]
 cases c
 obtain rfl:=I _ rfl
 exact ge 0 [re 1,bb k] λ_ i=>Xh ⟨(v,p,q,o,m,u),a,i⟩
theorem CF163_1 {e f c} (a:F163_1 e f=some c):A1 163 [.agg (c75 e),.bp 0 0] [.cells (c75 f)] (bP c) [.cells (c75 f)]:=by
 refine gC Tryz.func163 ?_
 rcases cor a with⟨b,a⟩|⟨b,a⟩
 ·rcases cor a with⟨d,a⟩|⟨d,a⟩
  ·obtain rfl:=soj a
   exact gH 1 [re 2,rs 4 (rQ 3 b (kT (e.faw !=0) false b::es 1 (rP 6 d (kU d::es 1 []))))]
  obtain rfl:=soj a
  exact gH 1 [re 2,rs 4 (rQ 3 b (kT (e.faw !=0) false b::es 1 (rQ 6 d (kF true ((iand .i64 f.fad e.fad) !=0) d::es 1 []))))]
 obtain rfl:=soj a
 exact gH 1 [re 2,rs 4 (rP 3 b (kV b::es 1 (rq 6 bqF (es 2 []))))]
theorem CF240_1 {h j d} (e:F240_1 h j=some d):A1 240 [eS 22 c75 h,(.fn (.func 163) [] [.bp 0 0])] [.cells (c75 j)] (iP d) [.cells (c75 j)]:=by
 refine gC Tryz.func240 ?_
 refine gd 0 [re 1] [] [] ?_
 refine gMd [0,1] (λ(_:Unit)=>([],JF240_1_2)) d ?_ ?_
 ·rintro⟨⟩ e
  obtain rfl:=soj e
  exact gH 1 [re 1]
 obtain⟨p,i,e⟩:=Xa e
 refine gPl 0 [rk 1 (kL 22 c75 h) 1] 0 i [] (λl=>[(7,iP (ln h)),(8,iP l)]) ?_
 rintro l q a k
 rcases cor a with⟨b,a⟩|⟨b,a⟩
 ·obtain⟨o,f,m,g,a⟩:=bs2 a
  rcases cor a with⟨c,a⟩|⟨c,a⟩
  ·cases a
   obtain rfl:=k _ rfl
   obtain rfl:=soj e
   exact gH 1 [re 1,bb b,re 2,rs 3 (kX 22 c75 f::es 1 (kQ [0] [] 0 1 (CF163_1 g)::[])),bb c,re 2]
  cases a
  exact gj [re 1,bb b,re 2,rs 3 (kX 22 c75 f::es 1 (kQ [0] [] 0 1 (CF163_1 g)::[])),bb c,re 2]
 cases a
 obtain rfl:=k _ rfl
 exact ge 0 [re 1,bb b] λ_ n=>Xh ⟨(),e,n⟩
theorem CF164_1 {d b a} (c:F164_1 d b=some a):A1 164 [eS 22 c75 d,(.fn (.func 163) [] [.bp 0 0])] [.cells (c75 b)] (bP a) [.cells (c75 b)]:=by
 refine gC Tryz.func164 ?_
 obtain⟨f,e,c⟩:=Xa c
 obtain rfl:=soj c
 exact gH 1 [re 1,rk 2 (kQ [0] [] 0 0 (CF240_1 e)) 2]
theorem CF297_1 {c b a} (d:F297_1 c b=some a):A1 297 [.agg (c75 c),.bp 0 0] [.cells [iP b]] (bP a) [.cells [iP b]]:=by
 refine gC Tryz.func297 ?_
 obtain rfl:=soj d
 exact gH 1 [re 2,re 6]
theorem CF240_2 {h j d} (e:F240_2 h j=some d):A1 240 [eS 22 c75 h,(.fn (.func 297) [] [.bp 0 0])] [.cells [iP j]] (iP d) [.cells [iP j]]:=by
 refine gC Tryz.func240 ?_
 refine gd 0 [re 1] [] [] ?_
 refine gMd [0,1] (λ(_:Unit)=>([],JF240_2_2)) d ?_ ?_
 ·rintro⟨⟩ e
  obtain rfl:=soj e
  exact gH 1 [re 1]
 obtain⟨p,i,e⟩:=Xa e
 refine gPl 0 [rk 1 (kL 22 c75 h) 1] 0 i [] (λl=>[(7,iP (ln h)),(8,iP l)]) ?_
 rintro l q a k
 rcases cor a with⟨b,a⟩|⟨b,a⟩
 ·obtain⟨o,f,m,g,a⟩:=bs2 a
  rcases cor a with⟨c,a⟩|⟨c,a⟩
  ·cases a
   obtain rfl:=k _ rfl
   obtain rfl:=soj e
   exact gH 1 [re 1,bb b,re 2,rs 3 (kX 22 c75 f::es 1 (kQ [0] [] 0 1 (CF297_1 g)::[])),bb c,re 2]
  cases a
  exact gj [re 1,bb b,re 2,rs 3 (kX 22 c75 f::es 1 (kQ [0] [] 0 1 (CF297_1 g)::[])),bb c,re 2]
 cases a
 obtain rfl:=k _ rfl
 exact ge 0 [re 1,bb b] λ_ n=>Xh ⟨(),e,n⟩
theorem CF242_1 {f d b c a} (e:F242_1 f d b c=some a):A1 242 [.bp 0 0,iP f] (hC d b c) (iP a) (hC d b c):=by
 refine gC Tryz.func242 ?_
 obtain⟨h,g,e⟩:=Xa e
 obtain rfl:=soj e
 exact gH 2 [re 2,rk 6 (kQ [2] [] 0 0 (CF240_2 g)) 1]
theorem CF241_1 {i f e a h b} (g:F241_1 i f e a h=some b):A1 241 [iP i,.bp 0 0,.bp 3 0] [.cells [.bp 1 0],.cells (c27 f++[iP e,oP 2 3 c159 a]),.grow (List.length a) 3,.cells [iP h]] (bP b) [.cells [.bp 1 0],.cells (c27 f++[iP e,oP 2 3 c159 a]),.grow (List.length a) 3,.cells [iP h]]:=by
 refine gC Tryz.func241 ?_
 obtain⟨k,d,j,c,g⟩:=bs2 g
 obtain rfl:=soj g
 exact gH 4 [re 1,.r (es 2 (kQ [1,2] [] 0 0 (CF242_1 d)::es 1 [])) (kC (Xz c)::es 1 [])]
theorem CF165_1 {o l k m n d} (a:F165_1 o l k m n=some d):A1 165 [.bp 0 0,iP o,iP l] (hC k m n) (bP d) (hC k m n):=by
 refine gC Tryz.func165 ?_
 refine gD 1 [re 3,re 2] [0,2] [(3,.bp 2 0),(7,(.fn (.func 241) [] [.bp 2 0,.bp 3 0]))] 2 [.cells [.bp 0 0],.cells [iP l]] ?_
 refine gS ?_
 refine gMd [] (λx=>([(15,bP x)],JF165_1_6 o k m n l x)) d ?_ ?_
 ·rintro x a
  rcases cor a with⟨y,a⟩|⟨y,a⟩
  ·obtain rfl:=soj a
   exact gH 2 [bb y,re 1]
  refine gNd [bb y] [15] [] ?_
  refine gS ?_
  refine gd 0 [re 1] [1] [(16,iP o)] ?_
  refine gB 0 ?_
  refine gMd [] (λq=>([(17,bP q)],JF165_1_9 k m n l o q)) d ?_ ?_
  ·rintro q a
   refine gK q (λg=>?_) (λg=>?_)
   ·replace a:=cond_t g a
    obtain⟨C,t,a⟩:=Xa a
    obtain rfl:=soj a
    exact gH 2 [rk 1 (kQ [2,0,1,3] [] 0 2 (CF241_1 t)) 1]
   replace a:=cond_f g a
   refine gMd [16,17] (λj=>([(22,bP j)],JF165_1_19 k m n l j)) d ?_ ?_
   ·rintro j a
    rcases cor a with⟨f,a⟩|⟨f,a⟩
    ·obtain⟨B,p,a⟩:=Xa a
     rcases cor a with⟨b,a⟩|⟨b,a⟩
     ·obtain⟨s,A,z,v,a⟩:=bs2 a
      obtain rfl:=soj a
      exact gH 2 [bb f,.r (es 1 (kQ [2,0,1,3] [] 0 2 (CF241_1 p)::es 1 (bq b::es 1 (bq b::kQ [0,1] [] 0 0 (CF242_1 A)::bq b::es 1 [])))) (bq b::kQ [0,1] [] 0 0 (CF242_1 v)::bq b::es 1 (kT (decide (s>z)) false b::es 1 []))]
     obtain rfl:=soj a
     exact gH 2 [bb f,.r (es 1 (kQ [2,0,1,3] [] 0 2 (CF241_1 p)::es 1 (rP 3 b []))) (rP 2 b (kV b::es 1 []))]
    refine gNd [bb f] [3,7,22] [] ?_
    obtain rfl:=soj a
    exact gH 2 [re 1]
   rcases cor a with⟨i,a⟩|⟨i,a⟩
   ·exact gj [re 2,bb i] λ_ e=>⟨_,a,e⟩
   exact gj [re 2,bb i,re 2] λ_ e=>⟨_,a,e⟩
  rcases cor a with⟨h,a⟩|⟨h,a⟩
  ·exact gj [re 2,bb h] λ_ e=>⟨_,a,e⟩
  exact gj [re 2,bb h,re 2] λ_ e=>⟨_,a,e⟩
 rcases cor a with⟨c,a⟩|⟨c,a⟩
 ·obtain⟨w,u,a⟩:=Xa a
  exact gj [rs 3 (bq c::es 1 (bq c::kQ [2,0,1,3] [] 0 2 (CF241_1 u)::bq c::es 1 (kT (!w) false c::[])))] λ_ e=>⟨_,a,e⟩
 exact gj [rs 3 (rP 3 c (kV c::[]))] λ_ e=>⟨false,a,e⟩
theorem CF162_1 {s l p t q o} (d:F162_1 s l p t q=some o):A1 162 [iP s,.agg (c75 l),.bp 0 0] [.cells [.bp 1 0],.cells (c27 p++[iP t,oP 2 3 c159 q]),.grow (List.length q) 3] (bP o) [.cells [.bp 1 0],.cells (c27 p++[iP t,oP 2 3 c159 q]),.grow (List.length q) 3]:=by
 refine gC Tryz.func162 ?_
 refine gD 0 [re 2] [1] [(4,.bp 3 0)] 3 [.cells (c75 l)] ?_
 refine gS ?_
 refine gMd [] (λv=>([(36,bP v)],Zw p s l t q v)) o ?_ ?_
 ·rintro v d
  rcases cor d with⟨w,d⟩|⟨w,d⟩
  ·obtain rfl:=soj d
   exact gH 3 [bb w,re 1]
  refine gNd [bb w] [36] [] ?_
  obtain⟨z,y,B,r,d⟩:=bs2 d
  rcases cor d with⟨g,d⟩|⟨g,d⟩
  ·obtain rfl:=soj d
   exact gH 3 [re 2,rs 6 (⟨.pu (.slSl 22 (.c (eS 22 c75 p.fc)) none (some (.c (iP s))) none) (eS 22 c75 z),n_sll y⟩::es 1 (kQ [3] [] 0 0 (CF164_1 r)::es 1 (rP 6 g (kU g::es 1 []))))]
  obtain⟨u,x,d⟩:=Xa d
  obtain rfl:=soj d
  exact gH 3 [re 2,rs 6 (⟨.pu (.slSl 22 (.c (eS 22 c75 p.fc)) none (some (.c (iP s))) none) (eS 22 c75 z),n_sll y⟩::es 1 (kQ [3] [] 0 0 (CF164_1 r)::es 1 (rQ 4 g (bq g::kQ [1,2] [] 0 0 (CF165_1 x)::bq g::es 1 (kF true (!u) g::es 1 [])))))]
 obtain⟨A,h,d⟩:=Xa d
 rcases cor d with⟨b,d⟩|⟨b,d⟩
 ·exact gj [rs 2 (kC (Xz h)::es 2 (rP 4 b (kU b::es 1 (rp 7 bqT (es 1 [])))))] λ_ i=>⟨true,d,i⟩
 obtain⟨k,j,d⟩:=Xa d
 rcases cor d with⟨a,d⟩|⟨a,d⟩
 ·exact gj [rs 2 (kC (Xz h)::es 2 (rQ 2 b (bq b::kC (Xz j)::bq b::es 1 (kF true (!k) b::es 1 (rP 7 a (kU a::[]))))))] λ_ i=>⟨true,d,i⟩
 rcases cor d with⟨e,d⟩|⟨e,d⟩
 ·rcases cor d with⟨n,d⟩|⟨n,d⟩
  ·exact gj [rs 2 (kC (Xz h)::es 2 (rQ 2 b (bq b::kC (Xz j)::bq b::es 1 (kF true (!k) b::es 1 (rQ 4 a (rP 3 e (bq a::kU e::bq a::es 1 (rq 4 bqT (rP 3 n (bqT::kU n::bq a::es 1 (kF true true a::[])))))))))))] λ_ i=>⟨true,d,i⟩
  exact gj [rs 2 (kC (Xz h)::es 2 (rQ 2 b (bq b::kC (Xz j)::bq b::es 1 (kF true (!k) b::es 1 (rQ 4 a (rP 3 e (bq a::kU e::bq a::es 1 (rq 4 bqT (rQ 3 n (bqT::kF true (l.fy !=0) n::bq a::es 1 (kF true (l.fy !=0) a::[])))))))))))] λ_ i=>⟨_,d,i⟩
 rcases cor d with⟨f,d⟩|⟨f,d⟩
 ·rcases cor d with⟨m,d⟩|⟨m,d⟩
  ·exact gj [rs 2 (kC (Xz h)::es 2 (rQ 2 b (bq b::kC (Xz j)::bq b::es 1 (kF true (!k) b::es 1 (rQ 4 a (rQ 3 e (bq a::kF true (l.fad !=0) e::bq a::es 1 (rQ 4 f (rP 3 m (bq f::kU m::bq a::kT true false f::kF true true a::[]))))))))))] λ_ i=>⟨true,d,i⟩
  exact gj [rs 2 (kC (Xz h)::es 2 (rQ 2 b (bq b::kC (Xz j)::bq b::es 1 (kF true (!k) b::es 1 (rQ 4 a (rQ 3 e (bq a::kF true (l.fad !=0) e::bq a::es 1 (rQ 4 f (rQ 3 m (bq f::kF true (l.fy !=0) m::bq a::kT (l.fy !=0) false f::kF true (l.fy !=0) a::[]))))))))))] λ_ i=>⟨_,d,i⟩
 exact gj [rs 2 (kC (Xz h)::es 2 (rQ 2 b (bq b::kC (Xz j)::bq b::es 1 (kF true (!k) b::es 1 (rQ 4 a (rQ 3 e (bq a::kF true (l.fad !=0) e::bq a::es 1 (rP 5 f (bq a::kV f::kF true false a::[])))))))))] λ_ i=>⟨false,d,i⟩
theorem CF131_7 {a e n d} (m:F131_7 a e n=some d):A1 131 [.bp 0 0,(.fn (.func 162) [] [.bp 2 0])] (hC a e n++[.cells [.bp 0 0]]) (.tup []) (hC a e d++[.cells [.bp 0 0]]):=by
 refine gC Tryz.func131 ?_
 obtain⟨v,g,m⟩:=Xa m
 refine gPL 0 [rk 5 (kL 22 c75 a.fc) 1] 0 g [] 0 (λ(p,o)=>([(10,eS 22 c75 a.fc),(11,iP (ln a.fc)),(12,iP p)],hC a e o++[.cells [.bp 0 0]])) ?_
 rintro⟨p,o⟩ u c f
 rcases cor c with⟨b,c⟩|⟨b,c⟩
 ·obtain⟨q,h,t,l,s,i,c⟩:=bs3 c
  cases c
  exact gk 3 [re 1,bb b,rk 1 (kX 22 c75 h) 4,.r (es 4 (kQ [2,0,1] [] 0 1 (CF162_1 l)::es 2 [])) (kK [0,1] [] 0 0 (Yd i)::[]),re 2]
 cases c
 obtain rfl:=f _ rfl
 obtain rfl:=soj m
 exact g_rh 3 [re 1,bb b] (.exit 0) λ_ _ k j=>Xh (hn k j)
theorem CF74_1 {d b e a} (c:Wt d b e=some a):A1 74 [.bp 0 0] (hC d b e) (.tup []) (hC d b a):=by
 refine gC Tryz.func74 ?_
 obtain⟨g,f,c⟩:=Xa c
 obtain rfl:=soj c
 exact gHn 2 [re 1,rk 2 (kK [0,1,2] [] 0 0 (CF131_7 f)) 0]
theorem CF166 {H s m} (f:F166 H s=some m):A0 166 [iP H,.agg (c75 s)] (bP m):=by
 refine gC Tryz.func166 ?_
 obtain⟨I,L,f⟩:=Xa f
 refine gP 1 [re 2,rk 1 (kC (CF99 L)) 5] [(3,.bp 0 0),(5,iP I.1)] [.cells (c75 s)] ?_
 refine gMd [] (λB=>([(7,bP B)],JF166_5 s I B)) m ?_ ?_
 ·rintro B f
  refine gMq (λz=>([(7,bP z)],[],JF166_7 z)) m ?_ ?_
  ·rintro z f
   obtain rfl:=soj f
   exact gE [re 2]
  obtain⟨M,w,f⟩:=Xa f
  refine gPl 0 [rk 2 (kL 3 c111 s.fm) 1] 0 w [] (λ(J,G)=>[(7,bP J),(31,eS 3 c111 s.fm),(32,iP (ln s.fm)),(33,iP G)]) ?_
  rintro⟨J,G⟩ N a D
  rcases cor a with⟨j,a⟩|⟨j,a⟩
  ·obtain⟨y,k,a⟩:=Xa a
   rcases cor a with⟨c,a⟩|⟨c,a⟩
   ·cases a
    exact gk 1 [re 1,bb j,rk 1 (kX 3 c111 k) 4,.r (es 2 (rP 6 c (kU c::es 1 (rp 4 bqT (es 2 (rp 3 bqT [])))))) (bqT::es 2 []),re 2]
   obtain⟨l,n,a⟩:=Xa a
   rcases cor a with⟨d,a⟩|⟨d,a⟩
   ·cases a
    exact gk 1 [re 1,bb j,rk 1 (kX 3 c111 k) 4,.r (es 2 (rQ 4 c (bq c::kC (Xz n)::bq c::es 1 (kF true (!l) c::es 1 (rP 4 d (kU d::es 1 (rp 3 bqT []))))))) (bqT::es 2 []),re 2]
   obtain⟨o,p,a⟩:=Xa a
   rcases cor a with⟨g,a⟩|⟨g,a⟩
   ·cases a
    exact gk 1 [re 1,bb j,rk 1 (kX 3 c111 k) 4,.r (es 2 (rQ 4 c (bq c::kC (Xz n)::bq c::es 1 (kF true (!l) c::es 1 (rQ 2 d (bq d::kC (Xz p)::bq d::es 1 (kF true (!o) d::es 1 (rP 3 g [])))))))) (bq g::kU g::es 1 []),re 2]
   rcases cor a with⟨h,a⟩|⟨h,a⟩
   ·obtain⟨x,A,a⟩:=Xa a
    cases a
    exact gk 1 [re 1,bb j,rk 1 (kX 3 c111 k) 4,.r (es 2 (rQ 4 c (bq c::kC (Xz n)::bq c::es 1 (kF true (!l) c::es 1 (rQ 2 d (bq d::kC (Xz p)::bq d::es 1 (kF true (!o) d::es 1 (rQ 3 g (rQ 6 h (bq h::kX 3 c111 A::rQ 2 h [])))))))))) (bq h::es 1 (bq g::kT (decide (y.fAt<=x.fAt)) false h::kF true (decide (y.fAt<=x.fAt)) g::es 1 [])),re 2]
   cases a
   exact gk 1 [re 1,bb j,rk 1 (kX 3 c111 k) 4,.r (es 2 (rQ 4 c (bq c::kC (Xz n)::bq c::es 1 (kF true (!l) c::es 1 (rQ 2 d (bq d::kC (Xz p)::bq d::es 1 (kF true (!o) d::es 1 (rQ 3 g (rP 9 h []))))))))) (bq h::bq g::kV h::kF true false g::es 1 []),re 2]
  cases a
  obtain rfl:=D _ rfl
  exact gke 0 0 [re 1,bb j] λ_ _ q=>Xh ⟨_,f,q⟩
 rcases cor f with⟨e,f⟩|⟨e,f⟩
 ·obtain⟨v,u,f⟩:=Xa f
  rcases cor f with⟨i,f⟩|⟨i,f⟩
  ·exact gj [rs 4 (rQ 2 e (bq e::kC (Xz u)::bq e::es 1 (kT (!v) false e::es 1 (rP 4 i (kU i::es 1 [])))))] λ_ q=>⟨true,f,q⟩
  obtain⟨F,E,f⟩:=Xa f
  exact gj [rs 4 (rQ 2 e (bq e::kC (Xz u)::bq e::es 1 (kT (!v) false e::es 1 (rQ 2 i (bq i::kC (Xz E)::bq i::es 1 (kF true (!F) i::es 1 []))))))] λ_ q=>⟨_,f,q⟩
 obtain⟨K,C,f⟩:=Xa f
 exact gj [rs 4 (rP 4 e (kV e::es 1 (rq 2 bqF (bq (t:=false) (b:=false) rfl::kC (Xz C)::bq (t:=false) (b:=false) rfl::es 3 []))))] λ_ q=>⟨_,f,q⟩
theorem CF131_8 {a e n d} (l:F131_8 a e n=some d):A1 131 [.bp 0 0,(fk 166)] (hC a e n) (.tup []) (hC a e d):=by
 refine gC Tryz.func131 ?_
 obtain⟨v,g,l⟩:=Xa l
 refine gPL 0 [rk 5 (kL 22 c75 a.fc) 1] 0 g [] 0 (λ(p,o)=>([(10,eS 22 c75 a.fc),(11,iP (ln a.fc)),(12,iP p)],hC a e o)) ?_
 rintro⟨p,o⟩ u c f
 rcases cor c with⟨b,c⟩|⟨b,c⟩
 ·obtain⟨s,h,t,i,q,m,c⟩:=bs3 c
  cases c
  exact gk 2 [re 1,bb b,rk 1 (kX 22 c75 h) 4,.r (es 4 (kC (CF166 i)::es 2 [])) (kK [0,1] [] 0 0 (Yd m)::[]),re 2]
 cases c
 obtain rfl:=f _ rfl
 obtain rfl:=soj l
 exact g_rh 2 [re 1,bb b] (.exit 0) λ_ _ k j=>Xh (hn k j)
theorem CF75_1 {d b e a} (c:Zt d b e=some a):A1 75 [.bp 0 0] (hC d b e) (.tup []) (hC d b a):=by
 refine gC Tryz.func75 ?_
 obtain⟨g,f,c⟩:=Xa c
 obtain rfl:=soj c
 exact gHn 2 [rk 1 (kK [0,1] [] 0 0 (CF131_8 f)) 0]
theorem CF167_1 {z F B u A D x E w y m p} (a:F167_1 z F B u A D x E w y m=some p):A1 167 [.agg [iP z,iP F,iP B,iP u,iP A,iP D,iP x],.agg (c147 E),.bp 0 0] [.cells [.bp 1 0],.cells (c27 w++[iP y,oP 2 3 c159 m]),.grow (List.length m) 3] (bP p) [.cells [.bp 1 0],.cells (c27 w++[iP y,oP 2 3 c159 m]),.grow (List.length m) 3]:=by
 refine gC Tryz.func167 ?_
 obtain⟨f,C,a⟩:=Xa a
 refine gD 1 [re 3,.r (es 5 (kC (CF152 C)::es 5 [])) (es 1 [])] [0,1] [(3,.bp 3 0),(4,.bp 4 0),(6,.bp 5 0),(7,bP f.2)] 3 [.cells [iP z,iP F,iP B,iP u,iP A,iP D,iP x],.cells (c147 E),.cells [iP f.1.fq,iP f.1.faB,iP f.1.fC,iP f.1.fo,iP f.1.fB,iP f.1.f9,iP f.1.faC]] ?_
 refine gS ?_
 refine gMd [4,7] (λo=>([(32,bP o)],Qd w u f o)) p ?_ ?_
 ·rintro o a
  rcases cor a with⟨q,a⟩|⟨q,a⟩
  ·obtain rfl:=soj a
   exact gH 3 [bb q,re 1]
  refine gNd [bb q] [32] [] ?_
  obtain⟨c,i,k,j,a⟩:=bs2 a
  rcases cor a with⟨b,a⟩|⟨b,a⟩
  ·obtain rfl:=soj a
   exact gH 3 [.r (es 7 (kX 22 c75 i::es 8 (kX 22 c75 j::es 4 []))) (es 1 []),rs 4 (rP 3 b (kU b::es 1 (rp 4 bqT (es 2 (rp 5 bqT (es 2 (rp 2 bqT (es 2 (rp 4 bqT (es 2 []))))))))))]
  rcases cor a with⟨e,a⟩|⟨e,a⟩
  ·obtain rfl:=soj a
   exact gH 3 [.r (es 7 (kX 22 c75 i::es 8 (kX 22 c75 j::es 4 []))) (es 1 []),rs 4 (rQ 3 b (kF true (c.faw !=0) b::es 1 (rP 4 e (kU e::es 1 (rp 5 bqT (es 2 (rp 2 bqT (es 2 (rp 4 bqT (es 2 []))))))))))]
  rcases cor a with⟨g,a⟩|⟨g,a⟩
  ·obtain rfl:=soj a
   exact gH 3 [.r (es 7 (kX 22 c75 i::es 8 (kX 22 c75 j::es 4 []))) (es 1 []),rs 4 (rQ 3 b (kF true (c.faw !=0) b::es 1 (rQ 4 e (kF true ((iand .i64 c.fad 12) !=0) e::es 1 (rP 5 g (kU g::es 1 (rp 2 bqT (es 2 (rp 4 bqT (es 2 []))))))))))]
  rcases cor a with⟨h,a⟩|⟨h,a⟩
  ·obtain rfl:=soj a
   exact gH 3 [.r (es 7 (kX 22 c75 i::es 8 (kX 22 c75 j::es 4 []))) (es 1 []),rs 4 (rQ 3 b (kF true (c.faw !=0) b::es 1 (rQ 4 e (kF true ((iand .i64 c.fad 12) !=0) e::es 1 (rQ 5 g (kF true (c.fy !=k.fy) g::es 1 (rP 2 h (kU h::es 1 (rp 4 bqT (es 2 []))))))))))]
  rcases cor a with⟨n,a⟩|⟨n,a⟩
  ·obtain rfl:=soj a
   exact gH 3 [.r (es 7 (kX 22 c75 i::es 8 (kX 22 c75 j::es 4 []))) (es 1 []),rs 4 (rQ 3 b (kF true (c.faw !=0) b::es 1 (rQ 4 e (kF true ((iand .i64 c.fad 12) !=0) e::es 1 (rQ 5 g (kF true (c.fy !=k.fy) g::es 1 (rQ 2 h (kF true k.faG h::es 1 (rP 4 n (kU n::es 1 []))))))))))]
  obtain rfl:=soj a
  exact gH 3 [.r (es 7 (kX 22 c75 i::es 8 (kX 22 c75 j::es 4 []))) (es 1 []),rs 4 (rQ 3 b (kF true (c.faw !=0) b::es 1 (rQ 4 e (kF true ((iand .i64 c.fad 12) !=0) e::es 1 (rQ 5 g (kF true (c.fy !=k.fy) g::es 1 (rQ 2 h (kF true k.faG h::es 1 (rQ 4 n (kF true ((iand .i64 k.fad 3) !=0) n::es 1 []))))))))))]
 rcases cor a with⟨d,a⟩|⟨d,a⟩
 ·exact gj [rs 3 (rP 3 d (kU d::es 1 (rp 5 bqT (es 1 []))))] λ_ v=>⟨true,a,v⟩
 obtain⟨s,t,a⟩:=Xa a
 rcases cor a with⟨l,a⟩|⟨l,a⟩
 ·exact gj [rs 3 (bq d::es 1 (bq d::kC (CF151 t)::bq d::es 1 (kF true (!s) d::es 1 (rP 5 l (kU l::[])))))] λ_ v=>⟨true,a,v⟩
 exact gj [rs 3 (bq d::es 1 (bq d::kC (CF151 t)::bq d::es 1 (kF true (!s) d::es 1 (rQ 5 l (kF true (f.1.fo==u) l::[])))))] λ_ v=>⟨_,a,v⟩
end
end Go.Proofs.YtibndgdocbbbeaaGreat
