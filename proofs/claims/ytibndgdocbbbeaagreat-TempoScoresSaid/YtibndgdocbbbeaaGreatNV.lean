/- A part of the proof. -/
import Derived.Test.YtibndgdocbbbeaaGreatFC4
import Derived.Test.YtibndgdocbbbeaaGreatSY13
set_option linter.all false
set_option maxRecDepth 100000
set_option maxHeartbeats 40000000
set_option synthInstance.maxSize 100000
namespace Go.Proofs.YtibndgdocbbbeaaGreat
open Go.PE Go.RowKit
noncomputable section
def JF20_3:Option Int:=some 0
def LF20_9 (d:Sl G114) (e:G27) (c:Int):Option (Int⊕Unit⊕Unit):=bif (decide (c<(ln d)))then ((gx (Sl.es d) c).bind λa=>(F16 a.fo 0 (wi ((ln e.fc)-(1)))).bind λb=>bif (!b)then (some (.inr (.inl ())))else (some (.inl (wi (c+1)))))else (some (.inr (.inr ())))
def F20 (c:G27) (a:Sl G114):Option Int:=bif ((ln a)==0)then (some 4)else ((Xg (λ(d:Int)=>LF20_9 a c d) 0).bind λb=>match b with|(.inl ())=>some 2|(.inr ())=>JF20_3)
theorem CF20 {f:G27} {c:(Sl G114)} {e:Int} (b:F20 f c=some e):ACall Tryz.prog 20 [.agg (c27 f),eS 2 c114 c] [] (λq h=>q=(iP e)/\h=[]):=by
 unfold F20 at b
 refine gC Tryz.func20 ?_
 rcases cor b with⟨m,b⟩|⟨m,b⟩
 ·obtain rfl:=soj b
  exact g_rr [re 2,.r (es 1 (kL 2 c114 c::es 1 [])) [],bb m,re 1] .ret λ_ _ k=>er k
 refine gP 1 [re 2,.r (es 1 (kL 2 c114 c::es 1 [])) [],bb m] [(1,eS 2 c114 c),(2,.bp 0 0)] [.cells (c27 f)] ?_
 refine gM (λ(_:Unit)=>([],[],JF20_3)) e ?_ ?_
 ·rintro⟨⟩ b
  replace b:JF20_3=some e:=b
  unfold JF20_3 at b
  obtain rfl:=soj b
  exact g_rr [re 1] .ret λ_ _ k=>er k
 refine gP 0 [re 1] [(1,eS 2 c114 c),(2,.bp 0 0),(5,iP 0)] [.cells (c27 f)] ?_
 refine gB 0 ?_
 obtain⟨v,l,b⟩:=Xa b
 refine gL l (λo=>([(1,eS 2 c114 c),(2,.bp 0 0),(5,iP o)],[.cells (c27 f)])) wm ?_
 rintro o t a p
 replace a:LF20_9 c f o=some t:=a
 unfold LF20_9 at a
 rcases cor a with⟨d,a⟩|⟨d,a⟩
 ·obtain⟨u,j,a⟩:=Xa a
  obtain⟨s,i,a⟩:=Xa a
  rcases cor a with⟨g,a⟩|⟨g,a⟩
  ·cases a
   obtain rfl:=p _ rfl
   obtain rfl:=soj b
   exact g_rr [.r (es 2 (kL 2 c114 c::es 1 [])) [],bb d,.r (es 2 (kX 2 c114 j::es 4 (kL 22 c75 f.fc::es 1 []))) (kC (CF16 i)::es 1 []),bb g,re 1] .ret λ_ _ k=>er k
  cases a
  exact g_to [.r (es 2 (kL 2 c114 c::es 1 [])) [],bb d,.r (es 2 (kX 2 c114 j::es 4 (kL 22 c75 f.fc::es 1 []))) (kC (CF16 i)::es 1 []),bb g,re 3] .normal λ_ n=>⟨rfl,n⟩
 cases a
 obtain rfl:=p _ rfl
 exact g_tc 0 [.r (es 2 (kL 2 c114 c::es 1 [])) [],bb d] (.exit 0) λ_ _ n=>Xh (⟨_,_,n,(),b,rfl,rfl⟩)
def JF23_3:Option Bool:=some true
def LF23_9 (d:Sl G90) (e:Sl G90) (c:Int):Option (Int⊕Unit⊕Unit):=bif (decide (c<(ln d)))then ((gx (Sl.es d) c).bind λa=>(gx (Sl.es e) c).bind λb=>bif (!((a.fN==b.fN)&&((a.fE==b.fE)&&((a.fj==b.fj)&&((a.fTo==b.fTo)&&((a.f8==b.f8)&&true))))))then (some (.inr (.inl ())))else (some (.inl (wi (c+1)))))else (some (.inr (.inr ())))
def F23 (b:Sl G90) (a:Sl G90):Option Bool:=bif ((ln b) !=(ln a))then (some false)else ((Xg (λ(d:Int)=>LF23_9 b a d) 0).bind λc=>match c with|(.inl ())=>some false|(.inr ())=>JF23_3)
theorem CF23 {c:(Sl G90)} {f:(Sl G90)} {e:Bool} (b:F23 c f=some e):ACall Tryz.prog 23 [eS 5 c90 c,eS 5 c90 f] [] (λq h=>q=(bP e)/\h=[]):=by
 unfold F23 at b
 refine gC Tryz.func23 ?_
 rcases cor b with⟨m,b⟩|⟨m,b⟩
 ·obtain rfl:=soj b
  exact g_rr [re 1,.r (es 1 (kL 5 c90 c::es 1 (kL 5 c90 f::es 1 []))) [],bb m,re 1] .ret λ_ _ k=>er k
 refine gP 1 [re 1,.r (es 1 (kL 5 c90 c::es 1 (kL 5 c90 f::es 1 []))) [],bb m] [(0,eS 5 c90 c),(1,eS 5 c90 f)] [] ?_
 refine gM (λ(_:Unit)=>([],[],JF23_3)) e ?_ ?_
 ·rintro⟨⟩ b
  replace b:JF23_3=some e:=b
  unfold JF23_3 at b
  obtain rfl:=soj b
  exact g_rr [re 1] .ret λ_ _ k=>er k
 refine gP 0 [re 1] [(0,eS 5 c90 c),(1,eS 5 c90 f),(5,iP 0)] [] ?_
 refine gB 0 ?_
 obtain⟨v,l,b⟩:=Xa b
 refine gL l (λo=>([(0,eS 5 c90 c),(1,eS 5 c90 f),(5,iP o)],[])) wm ?_
 rintro o t a p
 replace a:LF23_9 c f o=some t:=a
 unfold LF23_9 at a
 rcases cor a with⟨d,a⟩|⟨d,a⟩
 ·obtain⟨u,j,a⟩:=Xa a
  obtain⟨s,i,a⟩:=Xa a
  rcases cor a with⟨g,a⟩|⟨g,a⟩
  ·cases a
   obtain rfl:=p _ rfl
   obtain rfl:=soj b
   exact g_rr [.r (es 2 (kL 5 c90 c::es 1 [])) [],bb d,.r (es 2 (kX 5 c90 j::es 3 (kX 5 c90 i::es 1 []))) (es 1 []),bb g,re 1] .ret λ_ _ k=>er k
  cases a
  exact g_to [.r (es 2 (kL 5 c90 c::es 1 [])) [],bb d,.r (es 2 (kX 5 c90 j::es 3 (kX 5 c90 i::es 1 []))) (es 1 []),bb g,re 3] .normal λ_ n=>⟨rfl,n⟩
 cases a
 obtain rfl:=p _ rfl
 exact g_to [.r (es 2 (kL 5 c90 c::es 1 [])) [],bb d] (.exit 0) λ_ n=>Xh (⟨_,_,n,(),b,rfl,rfl⟩)
def JF95_14 (d:Int) (c:Int) (b:Int):Option Int:=(F92 c b (IntKind.wrap .u64 (wi ((wi (2*d))*483840)))).bind λa=>some (wi a.1)
def F95 (c:Int) (f:Int) (j:Int) (b:Int):Option Int:=(F91 (IntKind.wrap .u64 (wi (2*j))) (IntKind.wrap .u64 c)).bind λl=>(F91 l.2 (IntKind.wrap .u64 b)).bind λg=>(F91 (IntKind.wrap .u64 b) (IntKind.wrap .u64 (if (wi (c-f))>(wi (f-c))then (wi (c-f))else (wi (f-c))))).bind λi=>(F91 i.2 (IntKind.wrap .u64 b)).bind λa=>bif (decide (f>=c))then ((F177 g.2 a.2 0).bind λe=>(F177 (IntKind.wrap .u64 (g.1+(IntKind.wrap .u64 (l.1*(IntKind.wrap .u64 b))))) (IntKind.wrap .u64 (a.1+(IntKind.wrap .u64 (i.1*(IntKind.wrap .u64 b))))) e.2).bind λk=>JF95_14 j k.1 e.1)else ((F178 g.2 a.2 0).bind λd=>(F178 (IntKind.wrap .u64 (g.1+(IntKind.wrap .u64 (l.1*(IntKind.wrap .u64 b))))) (IntKind.wrap .u64 (a.1+(IntKind.wrap .u64 (i.1*(IntKind.wrap .u64 b))))) d.2).bind λh=>JF95_14 j h.1 d.1)
theorem CF95 {n:Int} {z:Int} {f:Int} {i:Int} {c:Int} (a:F95 n z f i=some c):ACall Tryz.prog 95 [iP n,iP z,iP f,iP i] [] (λq h=>q=(iP c)/\h=[]):=by
 unfold F95 at a
 refine gC Tryz.func95 ?_
 obtain⟨E,B,a⟩:=Xa a
 obtain⟨A,D,a⟩:=Xa a
 obtain⟨F,C,a⟩:=Xa a
 obtain⟨g,o,a⟩:=Xa a
 refine gP 8 [re 1,re 5,.r (es 5 (kC (CF91 B)::es 5 [])) [],.r (es 3 (kC (CF91 D)::es 5 [])) [],re 7,.r (es 10 (kC (CF91 C)::es 5 [])) [],.r (es 3 (kC (CF91 o)::es 5 [])) [],re 7,re 1] [(0,iP n),(1,iP z),(9,.sc (.int .u64 (IntKind.wrap .u64 (wi ((wi (2*f))*483840))))),(12,.sc (.int .u64 (IntKind.wrap .u64 (A.1+(IntKind.wrap .u64 (E.1*(IntKind.wrap .u64 i))))))),(13,.sc (.int .u64 A.2)),(16,.sc (.int .u64 (IntKind.wrap .u64 (g.1+(IntKind.wrap .u64 (F.1*(IntKind.wrap .u64 i))))))),(17,.sc (.int .u64 g.2))] [] ?_
 refine gM (λ(x:Int×Int)=>match x with|(d,b)=>([(9,.sc (.int .u64 (IntKind.wrap .u64 (wi ((wi (2*f))*483840))))),(12,.sc (.int .u64 d)),(13,.sc (.int .u64 b))],[],JF95_14 f d b)) c ?_ ?_
 ·rintro⟨d,b⟩ a
  replace a:JF95_14 f d b=some c:=a
  unfold JF95_14 at a
  obtain⟨G,y,a⟩:=Xa a
  obtain rfl:=soj a
  exact g_rr [.r (es 3 (kC (CF92 y)::es 5 [])) [],re 3] .ret λ_ _ k=>er k
 rcases cor a with⟨e,a⟩|⟨e,a⟩
 ·obtain⟨u,s,a⟩:=Xa a
  obtain⟨l,v,a⟩:=Xa a
  exact g_to [re 3,bb e,.r (es 2 (k177 s::es 5 [])) [],.r (es 3 (k177 v::es 4 [])) []] .normal λ_ w=>⟨_,_,w,(l.1,u.1),a,rfl,rfl⟩
 obtain⟨j,p,a⟩:=Xa a
 obtain⟨t,m,a⟩:=Xa a
 exact g_to [re 3,bb e,.r (es 2 (k178 p::es 5 [])) [],.r (es 3 (k178 m::es 4 [])) []] .normal λ_ w=>⟨_,_,w,(t.1,j.1),a,rfl,rfl⟩
def F173 (h:Int) (g:Int) (e:Int) (f:Int):Option (Int×Int):=(F91 (IntKind.wrap .u64 h) (IntKind.wrap .u64 g)).bind λd=>(F91 (IntKind.wrap .u64 e) (IntKind.wrap .u64 f)).bind λb=>(F177 d.2 b.2 0).bind λc=>(F177 d.1 b.1 c.2).bind λa=>some (a.1,c.1)
theorem CF173 {e:Int} {f:Int} {d:Int} {g:Int} {b:Int×Int} (a:F173 e f d g=some b):ACall Tryz.prog 173 [iP e,iP f,iP d,iP g] [] (λq h=>q=(.tup [.sc (.int .u64 b.1),.sc (.int .u64 b.2)])/\h=[]):=by
 unfold F173 at a
 refine gC Tryz.func173 ?_
 obtain⟨p,j,a⟩:=Xa a
 obtain⟨n,m,a⟩:=Xa a
 obtain⟨o,l,a⟩:=Xa a
 obtain⟨i,c,a⟩:=Xa a
 obtain rfl:=soj a
 exact g_rr [re 2,.r (es 4 (kC (CF91 j)::es 5 [])) [],.r (es 4 (kC (CF91 m)::es 5 [])) [],.r (es 2 (k177 l::es 5 [])) [],.r (es 3 (k177 c::es 4 [])) [],re 4] .ret λ_ _ k=>er k
def F85 (g:Int) (e:Int) (c:Int) (a:Int):Option Int:=(F173 g (wi ((wi (2*c))-a)) e a).bind λd=>(F91 d.2 (IntKind.wrap .u64 a)).bind λb=>(F92 (IntKind.wrap .u64 (b.1+(IntKind.wrap .u64 (d.1*(IntKind.wrap .u64 a))))) b.2 (IntKind.wrap .u64 ((IntKind.wrap .u64 (wi (2*c)))*483840))).bind λf=>some (wi f.1)
theorem CF85 {d:Int} {e:Int} {c:Int} {f:Int} {b:Int} (a:F85 d e c f=some b):ACall Tryz.prog 85 [iP d,iP e,iP c,iP f] [] (λq h=>q=(iP b)/\h=[]):=by
 unfold F85 at a
 refine gC Tryz.func85 ?_
 obtain⟨n,g,a⟩:=Xa a
 obtain⟨l,j,a⟩:=Xa a
 obtain⟨m,i,a⟩:=Xa a
 obtain rfl:=soj a
 exact g_rr [re 1,.r (es 7 (kC (CF173 g)::es 5 [])) [],.r (es 3 (kC (CF91 j)::es 5 [])) [],re 7,.r (es 6 (kC (CF92 i)::es 5 [])) [],re 3] .ret λ_ _ k=>er k
def F87 (a:G90) (b:Int):Option Int:=(F85 a.fj a.fTo (wi (a.fE-a.fN)) (wi (b-a.fN))).bind λc=>some (wi (a.f8+c))
theorem CF87 {d:G90} {c:Int} {a:Int} (b:F87 d c=some a):ACall Tryz.prog 87 [.agg (c90 d),iP c] [] (λq h=>q=(iP a)/\h=[]):=by
 unfold F87 at b
 refine gC Tryz.func87 ?_
 obtain⟨f,e,b⟩:=Xa b
 obtain rfl:=soj b
 exact g_rr [re 2,.r (es 15 (kC (CF85 e)::[])) (es 2 [])] .ret λ_ _ k=>er k
def Wh (a:List G90) (c:G90) (e:Bool):Option (List G90):=bif e then ((gx a (wi ((lnl a)-(1)))).bind λb=>(gset a (wi ((lnl a)-(1))) (⟨b.fN,c.fE,b.fj,b.fTo,b.f8⟩:G90)).bind λd=>some d)else ((gapp 40 a [c]).bind λf=>some f)
def F45_1 (a:List G90) (b:G90):Option (List G90):=bif (decide ((lnl a)>0))then (bif (b.fj==b.fTo)then ((gx a (wi ((lnl a)-(1)))).bind λd=>bif (d.fj==b.fj)then ((gx a (wi ((lnl a)-(1)))).bind λc=>Wh a b (c.fTo==b.fj))else (Wh a b false))else (Wh a b false))else (Wh a b false)
theorem CF45_1 {i:(List G90)} {f:G90} {k:(List G90)} (a:F45_1 i f=some k):ACall Tryz.prog 45 [tsP 0 5 i,.agg (c90 f)] [tgB 5 c90 i] (λq h=>q=tsP 0 5 k/\h=[tgB 5 c90 k]):=by
 unfold F45_1 at a
 refine gC Tryz.func45 ?_
 refine gP 0 [re 2] [(0,tsP 0 5 i),(3,.bp 1 0)] [tgB 5 c90 i,.cells (c90 f)] ?_
 refine gS ?_
 refine gP 0 [.r (es 1 (kTL 0 5 i::es 1 [])) []] [(0,tsP 0 5 i),(3,.bp 1 0),(5,iP (lnl i))] [tgB 5 c90 i,.cells (c90 f)] ?_
 refine gM (λ(p:Bool)=>([(0,tsP 0 5 i),(3,.bp 1 0),(5,iP (lnl i)),(38,bP p)],[tgB 5 c90 i,.cells (c90 f)],Wh i f p)) k ?_ ?_
 ·rintro p a
  replace a:Wh i f p=some k:=a
  unfold Wh at a
  rcases cor a with⟨v,a⟩|⟨v,a⟩
  ·obtain⟨z,x,a⟩:=Xa a
   obtain⟨y,w,a⟩:=Xa a
   obtain rfl:=soj a
   refine Yp [bb v,.r (es 5 (kTX 0 5 x::es 1 (kTW 0 5 1 c90 (iP f.fE) x w::[]))) [],re 2] .ret [(4,.ts 0 (List.length i) 5)] [tgB 5 c90 y,.cells (c90 f)] (λe j=>?_)
   exact ends_cutH (r:=.ts 0 (List.length i) 5) (H3:=[tgB 5 c90 y]) (X:=[.cells (c90 f)]) (.inr rfl) j rfl rfl (by kernel_rfl) AllBI.h (by rw[gset_len w];exact psub_ts rfl) ⟨rfl,rfl⟩
  refine Yp [bb v] .normal [(0,tsP 0 5 i),(3,.bp 1 0)] [tgB 5 c90 i,.cells (c90 f)] (λe j=>?_)
  refine⟨_,_,j,?_⟩
  obtain⟨s,u,a⟩:=Xa a
  obtain rfl:=soj a
  refine Yp [.r (es 3 (kTA 0 5 c90 u::es 1 [])) []] .ret [(4,tsP 0 5 s)] [tgB 5 c90 s,.cells (c90 f)] (λe j=>?_)
  exact ends_cutH (r:=tsP 0 5 s) (H3:=[tgB 5 c90 s]) (X:=[.cells (c90 f)]) (.inr rfl) j rfl rfl (by kernel_rfl) AllBI.h (psub_ts rfl) ⟨rfl,rfl⟩
 rcases cor a with⟨g,a⟩|⟨g,a⟩
 ·rcases cor a with⟨c,a⟩|⟨c,a⟩
  ·obtain⟨n,l,a⟩:=Xa a
   rcases cor a with⟨d,a⟩|⟨d,a⟩
   ·obtain⟨o,m,a⟩:=Xa a
    exact g_to [.r (es 3 (rq 5 (bq g) (kPt (bP (f.fj==f.fTo)) (bP false) g::es 1 (rq 3 (bq c) (bq c::kTX 0 5 l::bq c::es 1 (bq c::kTR 0 5 2 c90 l::rq 3 (bq c) (kPt (bP (n.fj==f.fj)) (bP false) c::es 1 (rq 3 (bq d) (bq d::kTX 0 5 m::bq d::es 1 (bq d::kTR 0 5 3 c90 m::rq 2 (bq d) [])))))))))) (bq d::es 1 (kPt (bP (o.fTo==f.fj)) (bP false) d::[]))] .normal λ_ j=>⟨_,_,j,o.fTo==f.fj,a,rfl,rfl⟩
   exact g_to [.r (es 3 (rq 5 (bq g) (kPt (bP (f.fj==f.fTo)) (bP false) g::es 1 (rq 3 (bq c) (bq c::kTX 0 5 l::bq c::es 1 (bq c::kTR 0 5 2 c90 l::rq 3 (bq c) (kPt (bP (n.fj==f.fj)) (bP false) c::es 1 (rp 8 (bq d) [])))))))) (bq d::kPf (.tup []) (bP false) d::[])] .normal λ_ j=>⟨_,_,j,false,a,rfl,rfl⟩
  exact g_to [.r (es 3 (rq 5 (bq g) (kPt (bP (f.fj==f.fTo)) (bP false) g::es 1 (rp 9 (bq c) (kPf (.tup []) (bP false) c::es 1 (rp 8 bqF [])))))) (bq (t:=false) (b:=false) rfl::es 1 [])] .normal λ_ j=>⟨_,_,j,false,a,rfl,rfl⟩
 exact g_to [.r (es 3 (rp 5 (bq g) (kPf (.tup []) (bP false) g::es 1 (rp 9 bqF (es 2 (rp 8 bqF [])))))) (bq (t:=false) (b:=false) rfl::es 1 [])] .normal λ_ j=>⟨_,_,j,false,a,rfl,rfl⟩
def JF48_2 (a:List G90):Option (Sl G90):=some (mkSl a)
def LF48_11 (f:Sl G90) (e:List G90) (g:Int) (b:Int):Option (((List G90)×Int×Int)⊕List G90):=bif (decide (b<(ln f)))then ((gx (Sl.es f) b).bind λa=>(F95 a.fj a.fTo (wi (a.fE-a.fN)) (wi (a.fE-a.fN))).bind λd=>(gapp 40 e [(⟨a.fN,a.fE,a.fj,a.fTo,g⟩:G90)]).bind λc=>some (.inl (c,wi (g+d),wi (b+1))))else (some (.inr e))
def F48 (b:Sl G90):Option (Sl G90):=(Xg (λ(x:(List G90)×Int×Int)=>match x with|(v3,v4,v5)=>LF48_11 b v3 v4 v5) ([],0,0)).bind λa=>match a with|v6=>JF48_2 v6
theorem CF48 {b:(Sl G90)} {f:(Sl G90)} (g:F48 b=some f):ACall Tryz.prog 48 [eS 5 c90 b] [] (λq h=>q=(eS 5 c90 f)/\h=[]):=by
 unfold F48 at g
 refine gCT 5 Tryz.func48 ?_
 refine gP 2 [re 1,re 1,re 1] [(0,eS 5 c90 b),(3,eS 5 c90 Sl.nil),(4,iP 0)] [.tgrow 0 5 []] ?_
 refine gM (λ(d:List G90)=>([(3,tsP 0 5 d)],[tgB 5 c90 d],JF48_2 d)) f ?_ ?_
 ·rintro d g
  replace g:JF48_2 d=some f:=g
  unfold JF48_2 at g
  obtain rfl:=soj g
  refine Yp [re 2] .ret [(2,tsP 0 5 d)] [tgB 5 c90 d] (λe j=>?_)
  exact ends_cutF (r:=oP 0 5 c90 d) (.inr rfl) (j.trans (weak_frzT (le':=[(2,oP 0 5 c90 d)]) (l:=d) (c:=c90) 0 (Nat.zero_le _) rfl (λ_=>rfl) (ftr rfl fte))) (by kernel_rfl) (We cl90) ⟨rfl,rfl⟩
 refine gP 0 [re 1] [(0,eS 5 c90 b),(3,eS 5 c90 Sl.nil),(4,iP 0),(5,iP 0)] [.tgrow 0 5 []] ?_
 refine gB 0 ?_
 obtain⟨z,n,g⟩:=Xa g
 refine gL n (λ(k,u,p)=>([(0,eS 5 c90 b),(3,tsP 0 5 k),(4,iP u),(5,iP p)],[tgB 5 c90 k])) ((Wc (le':=[(0,eS 5 c90 b),(3,eS 5 c90 Sl.nil),(4,iP 0),(5,iP 0)]) (by kernel_rfl)).trans (Uq (le':=[(0,eS 5 c90 b),(3,tsP 0 5 []),(4,iP 0),(5,iP 0)]) (wc (PSub.refl _) (wc psub_tnil (wc (PSub.refl _) (wc (PSub.refl _) we)))))) ?_
 rintro⟨k,u,p⟩ w a m
 replace a:LF48_11 b k u p=some w:=a
 unfold LF48_11 at a
 rcases cor a with⟨i,a⟩|⟨i,a⟩
 ·obtain⟨v,o,a⟩:=Xa a
  obtain⟨y,s,a⟩:=Xa a
  obtain⟨x,t,a⟩:=Xa a
  cases a
  exact g_tc 1 [.r (es 2 (kL 5 c90 b::es 1 [])) [],bb i,.r (es 2 (kX 5 c90 o::es 3 [])) [],re 3,.r (es 15 (kC (CF95 s)::es 2 [])) [],.r (es 3 (kTA 0 5 c90 t::es 1 [])) [],re 3] .normal λ_ _ j=>⟨rfl,j⟩
 cases a
 obtain rfl:=m _ rfl
 exact g_tc 1 [.r (es 2 (kL 5 c90 b::es 1 [])) [],bb i] (.exit 0) λ_ _ j=>Xh (⟨_,_,j,k,g,rfl,rfl⟩)
end
end Go.Proofs.YtibndgdocbbbeaaGreat
set_option maxRecDepth 100000
set_option maxHeartbeats 40000000
namespace Go.Proofs.YtibndgdocbbbeaaGreat
open Go.PE Go.RowKit
noncomputable section
abbrev rwS (l:List G90):Blk:=.cells ((List.map c90 l).flatten)
theorem n_apB {v:Sl G90} (h:Sl.isNil v=false) (d:v.es≠[]) (f:v.es.length*40<=140737488355328):Nt.ok Tryz.prog (.st (.appendM 5 40 (.c (.sl false .full 5 [])) (.c (eS 5 c90 v))) [] (.bs 0 0 (List.length v.es) 5 false) [rwS v.es] 0):=by
 have key:∀ (r:Right) (l:List G90),l≠[]->l.length*40<=140737488355328->aop [] [] (.appendM 5 40 (.c (.sl false .full 5 [])) (.c (.sl false r 5 (l.map c90))))=some (.bs 0 0 (List.length l) 5 false,[rwS l]):=λr l d f=>by
  have g:(l.map c90).isEmpty=false:=by cases l with
   |nil=>exact absurd rfl d
   |cons a l=>rfl
  have b:(l.map c90).all (λe=>e.all PV.cellP)=true:=List.all_eq_true.2 λe m=>by
   obtain⟨x,_,rfl⟩:=List.mem_map.1 m
   rfl
  show Vx [] 5 40 (.sl false .full 5 []) (.sl false r 5 (l.map c90))=_
  have j:((5==5)&&((5==5)||(([]:List (List PV))).isEmpty)&&decide ((([]:List (List PV)).length+(l.map c90).length)*40<=140737488355328)&&decide (0<40)&&([]:List (List PV)).all (λe=>e.all PV.cellP)&&(l.map c90).all (λe=>e.all PV.cellP))=true:=by
   rw[b,List.length_map,List.length_nil,Nat.zero_add,decide_eq_true f]
   rfl
  simp only[Vx,Zr,g]
  rw[if_neg (by simp),if_pos j]
  simp
 refine⟨?_,by simp,λk n=>by omega⟩
 have i:aop [] [] (.appendM 5 40 (.c (.sl false .full 5 [])) (.c (eS 5 c90 v)))=some (.bs 0 0 (List.length v.es) 5 false,[rwS v.es]):=by
  cases v with
  |nil=>cases h
  |no l=>exact key _ l d f
  |full l=>exact key _ l d f
 simp only[AStep,i]
 exact⟨trivial,trivial⟩
theorem run49 {v:Sl G90} (a:Sl.isNil v=false) (d:v.es≠[]) (f:v.es.length*40<=140737488355328) {Q:PV->List Blk->Prop} (b:∀ e,WeakS [] e [rwS v.es] (mk Tryz.f49.ntmps [(2,.bs 0 0 (List.length v.es) 5 false)]) [rwS v.es]->Go.PE.Ends (rsOf Tryz.prog Tryz.f49) [] Q .ret e [rwS v.es]):ACall Tryz.prog 49 [eS 5 c90 v] [] Q:=by
 refine gC Tryz.func49 ?_
 exact Yp [re 1,.r (es 1 (⟨(.pu (.eqN .sl false (.c (eS 5 c90 v)) (.c (.sl true .full 0 []))) (bP (Sl.isNil v))),Wx rfl⟩::[])) [],bb a,.r (es 2 (⟨_,n_apB a d f⟩::es 1 [])) []] .ret [(2,.bs 0 0 (List.length v.es) 5 false)] [rwS v.es] b
theorem CF49b {l:List G90} (b:l≠[]) (c:l.length*40<=140737488355328):ACall Tryz.prog 49 [eS 5 c90 (.no l)] [] λq k=>q=.bs 0 0 (List.length l) 5 false/\k=[rwS l]:=
 run49 (v:=.no l) rfl b c λe a=>⟨.inr rfl,_,_,a,_,by kernel_rfl,.inl ⟨rfl,rfl⟩⟩
def F49 (a:Sl G90):Option (Sl G90):=bif Sl.isNil a then some .nil else bif decide (0<a.es.length)&&decide (a.es.length*40<=140737488355328)then some (.no a.es)else none
theorem CF49 {a:Sl G90} {d} (b:F49 a=some d):A0 49 [eS 5 c90 a] (eS 5 c90 d):=by
 unfold F49 at b
 rcases cor b with ⟨g,b⟩|⟨g,b⟩
 ·obtain rfl:=soj b
  refine gC Tryz.func49 ?_
  exact gE [re 1,.r (es 1 (⟨(.pu (.eqN .sl false (.c (eS 5 c90 a)) (.c (.sl true .full 0 []))) (bP (Sl.isNil a))),(Wx rfl)⟩::[])) [],bb g,re 1]
 rcases cor b with ⟨f,b⟩|⟨_,b⟩
 ·obtain rfl:=soj b
  simp only[Bool.and_eq_true,decide_eq_true_eq]at f
  have h:a.es≠[]:=λe=>by rw[e]at f;exact absurd f.1 (by simp)
  refine run49 g h f.2 λe j=>?_
  have i:PV.sl false .no 5 ((a.es.take a.es.length).map c90)=eS 5 c90 (.no a.es):=by rw[List.take_length];rfl
  refine ends_cutF (r:=.sl false .no 5 ((a.es.take a.es.length).map c90)) (.inr rfl) (j.trans (weak_frzG (le':=[(2,.sl false .no 5 ((a.es.take a.es.length).map c90))]) (H':=[.cells []]) (l:=a.es) (c:=c90) (s:=5) (k:=0) (Nat.zero_le _) rfl (λ_=>rfl) cl90 ⟨.row (Nat.le_refl _),trivial⟩ ⟨.inl ⟨rfl,rfl⟩,trivial⟩)) (by kernel_rfl) (by rw[i];exact psub_cl (cl_eS cl90)) ⟨rfl,rfl⟩
 ·cases b
def LF46 (n:Nat) (b:List G90) (c a:Int):Option ((List G90×Int×Int)⊕List G90):=bif decide (a<(n:Int))then ((gin a n).bind λ_=>(gx b a).bind λx=>(gset b a ⟨x.fN,x.fE,x.fj,x.fTo,c⟩).bind λl=>(gx l a).bind λy=>(F87 y y.fE).bind λt=>some (.inl (l,t,wi (a+1))))else some (.inr b)
def F46 (a:List G90):Option (Sl G90):=bif decide (0<a.length)&&decide (a.length*40<=140737488355328)then ((Xg (λ(x:List G90×Int×Int)=>match x with|(v3,v4,v5)=>LF46 a.length v3 v4 v5) (a,0,0)).bind λb=>bif decide (b.length=a.length)then some (.no b)else none)else none
abbrev mapC (n:Nat):Blk:=.cells [.bs 0 0 n 5 false,.sl true .full 0 []]
theorem CF46 {a:List G90} {i} (d:F46 a=some i):ACall Tryz.prog 46 [eS 5 c90 (.no a)] [] λq k=>q=.bp 1 0/\k=[.cells [],.cells [eS 5 c90 i,.sl true .full 0 []]]:=by
 unfold F46 at d
 rcases cor d with ⟨n,d⟩|⟨_,d⟩
 case inr=>cases d
 simp only[Bool.and_eq_true,decide_eq_true_eq]at n
 have H:a≠[]:=λe=>by rw[e]at n;exact absurd n.1 (by simp)
 obtain⟨J,C,d⟩:=Xa d
 rcases cor d with ⟨A,d⟩|⟨_,d⟩
 case inr=>cases d
 obtain rfl:=soj d
 simp only[decide_eq_true_eq]at A
 refine gC Tryz.func46 ?_
 refine gP 2 [re 1,.r (es 1 (⟨.st (.call (.c (.fn (.func 49) [] [])) [.c (eS 5 c90 (.no a))]) [] (.bs 0 0 (List.length a) 5 false) [rwS a] 0,⟨by
   show XCall Tryz.prog 49 [eS 5 c90 (.no a)] [] _
   exact .inl (CF49b H n.2),Same.app _ _ _⟩⟩::es 3 [])) [],re 1] [(3,.bp 1 0),(4,iP 0)] [rwS a,mapC (List.length a)] ?_
 refine gS ?_
 refine gP 0 [.r (es 4 (⟨.pu (.len (.c (.bs 0 0 (List.length a) 5 false))) (iP ((List.length a:Nat):Int)),n_lenB⟩::es 1 [])) []] [(3,.bp 1 0),(4,iP 0),(15,iP ((List.length a:Nat):Int)),(16,iP 0)] [rwS a,mapC (List.length a)] ?_
 refine gB 0 ?_
 refine gL C (λ(f,m,g)=>([(3,.bp 1 0),(4,iP m),(15,iP ((List.length a:Nat):Int)),(16,iP g)],[rwS f,mapC (List.length a)])) wm ?_
 rintro⟨f,m,g⟩ o b p
 replace b:LF46 a.length f m g=some o:=b
 unfold LF46 at b
 rcases cor b with ⟨v,b⟩|⟨v,b⟩
 ·obtain⟨u,F,x,B,l,G,b⟩:=bs3 b
  obtain⟨y,w,t,E,b⟩:=bs2 b
  cases b
  exact g_to [re 1,bb v,re 2,
   .r (es 5 (⟨.pu (.iaddrS 5 (.c (.bs 0 0 (List.length a) 5 false)) (.c (iP g))) (.bp 0 (0+Int.toNat g*5)),n_iaddrB F⟩::es 1 [])) [],
   .r (es 4 (⟨.fr (.store 1 (.c (.bp 0 (0+Int.toNat g*5+4))) (.c (iP m))) [0] [rwS f] [rwS l] (.tup []),fr_storeR G (λ_=>rfl) (λz I=>by cases B.symm.trans I;rfl) (by decide) rfl rfl⟩::[])) [],
   .r (es 2 (⟨.fd (.load (some 5) (.c (.bp 0 (0+Int.toNat g*5)))) [0] [rwS l] (.agg (c90 y)),fd_loadRA w (λ_=>rfl)⟩::es 3 (⟨.fd (.load none (.c (.bp 0 (0+Int.toNat g*5+1)))) [0] [rwS l] (iP y.fE),fd_loadR w (λ_=>rfl) rfl⟩::[]))) (kC (CF87 E)::es 1 []),re 2] .normal λ_ j=>⟨rfl,j⟩
 ·cases b
  obtain rfl:=p _ rfl
  refine Yp [re 1,bb v] (.exit 0) [(3,.bp 1 0)] [rwS f,mapC (List.length a)] (λe j=>?_)
  refine Xh ⟨_,_,j,?_⟩
  have D:PV.sl false .no 5 ((f.take a.length).map c90)=eS 5 c90 (.no f):=by rw[<-A,List.take_length];rfl
  refine Yp [re 2] .ret [(2,.bp 1 0)] [rwS f,mapC (List.length a)] (λe j=>?_)
  rw[<-D]
  exact⟨.inr rfl,_,_,j.trans (weak_frzG (le':=[(2,.bp 1 0)]) (H':=[.cells [],.cells [.sl false .no 5 ((f.take a.length).map c90),.sl true .full 0 []]]) (l:=f) (c:=c90) (s:=5) (k:=0) (Nat.zero_le _) rfl (λ_=>rfl) cl90 ⟨.bp (by decide),trivial⟩ ⟨.inl ⟨rfl,rfl⟩,.inr (.inl ⟨_,_,rfl,rfl,⟨.row (by omega),.cl (by exact ClP.h),trivial⟩⟩),trivial⟩),_,by kernel_rfl,.inl ⟨rfl,rfl⟩⟩
def k46 (F:List Blk) {v:List G90} {b} (h:F46 v=some b):BN Tryz.prog:=⟨.st (.call (.c (.fn (.func 46) [] [])) [.c (eS 5 c90 (mkSl v))]) F (.bp F.length 0) (F++[.cells [eS 5 c90 b,.sl true .full 0 []]]) F.length,⟨by
 have d:mkSl v=.no v:=by
  unfold F46 at h
  cases v with
  |nil=>simp at h
  |cons a l=>rfl
 rw[d]
 show XCall Tryz.prog 46 [eS 5 c90 (.no v)] F _
 exact .inl (acall_push 1 F (CF46 h) rfl push_bp (Cls.cons (cl_eS cl90) Cls.nil) (Cls.cons (cl_eS cl90) (Cls.cons ClP.h Cls.nil))),Same.app _ _ _⟩⟩
end
end Go.Proofs.YtibndgdocbbbeaaGreat
