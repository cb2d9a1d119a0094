/- A part of the proof. -/
import Derived.Test.YtibndgdocbbbeaaGreatNV
set_option linter.all false
set_option maxRecDepth 100000
set_option maxHeartbeats 40000000
set_option synthInstance.maxSize 100000
namespace Go.Proofs.YtibndgdocbbbeaaGreat
open Go.PE Go.RowKit
noncomputable section
def JF19_16 (a:List G90) (b:List Int):Option ((Option G119)×Int):=(F46 a).bind λc=>some ((some (⟨c,Sl.no b⟩:G119)),0)
def JF19_34 (b:Int) (d:List G90) (a:List Int) (c:Int):Option (((List G90)×(List Int)×Int×Int)⊕((List G90)×(List Int))):=some (.inl (d,a,c,wi (b+1)))
def JF19_47 (b:List Int) (d:Int) (e:List G90) (a:Int):Option (((List G90)×(List Int)×Int×Int)⊕((List G90)×(List Int))):=(gapp 8 b (Sl.es (Sl.full [a]))).bind λc=>JF19_34 d e c a
def LF19_59 (b:List Int) (d:(Sl G173)×(Sl Int)) (e:List G90) (c:Int) (a:Int):Option (((List G90)×Int×Int)⊕((List G90)×Int)):=bif (decide (a<(lnl b)))then ((gx b (wi (a-(1)))).bind λl=>(F41 d.1 l).bind λg=>(gx b a).bind λf=>(gx b (wi (a-(1)))).bind λh=>(gx b (wi (a-(1)))).bind λn=>(F40 d.1 g n).bind λi=>(gx b a).bind λm=>(F40 d.1 g m).bind λk=>(F45_1 e (⟨c,wi ((wi (c+f))-h),i,k,0⟩:G90)).bind λj=>some (.inl (j,wi ((wi (c+f))-h),wi (a+1))))else (some (.inr (e,c)))
def JF19_40 (a:(Sl G173)×(Sl Int)) (g:G114) (e:List G90) (j:Int) (h:List Int) (d:Int) (f:List Int):Option (((List G90)×(List Int)×Int×Int)⊕((List G90)×(List Int))):=(gx (Sl.es a.2) (wi (g.fo+1))).bind λb=>(gapp 8 f (Sl.es (Sl.full [b]))).bind λc=>(Xg (λ(x:(List G90)×Int×Int)=>match x with|(v50,v51,v52)=>LF19_59 c a v50 v51 v52) (e,j,1)).bind λi=>match i with|(v53,v54)=>JF19_47 h d v53 v54
def LF19_88 (d:G75) (e:(Sl G173)×(Sl Int)) (g:G114) (b:List Int) (a:Int):Option (((List Int)×Int)⊕List Int):=bif (decide (a<(ln d.fm)))then ((gx (Sl.es d.fm) a).bind λc=>bif (decide (c.fAt>0))then ((gx (Sl.es e.2) g.fo).bind λf=>(gapp 8 b (Sl.es (Sl.full [wi (f+c.fAt)]))).bind λh=>some (.inl (h,wi (a+1))))else (some (.inl (b,wi (a+1)))))else (some (.inr b))
def LF19_29 (j:Sl G114) (c:(Sl G173)×(Sl Int)) (k:G27) (d:List G90) (e:List Int) (i:Int) (b:Int):Option (((List G90)×(List Int)×Int×Int)⊕((List G90)×(List Int))):=bif (decide (b<(ln j)))then ((gx (Sl.es j) b).bind λa=>(gx (Sl.es c.2) a.fo).bind λf=>(gx (Sl.es k.fc) a.fo).bind λh=>(Xg (λ(x:(List Int)×Int)=>match x with|(v81,v82)=>LF19_88 h c a v81 v82) ([f],0)).bind λg=>match g with|v83=>JF19_40 c a d i e b v83)else (some (.inr (d,e)))
def F19 (b:G27) (a:Sl G114):Option ((Option G119)×Int):=(F14 b).bind λe=>bif (!e)then (some (none,24))else (bif ((ln a)==0)then (some (none,4))else (bif (decide ((ln a)>8192))then (some (none,9))else ((F43_1 a b).bind λf=>bif f then (some (none,2))else ((F39 b).bind λd=>(Xg (λ(x:(List G90)×(List Int)×Int×Int)=>match x with|(v19,v20,v21,v22)=>LF19_29 a d b v19 v20 v21 v22) ([],[0],0,0)).bind λc=>match c with|(v23,v24)=>JF19_16 v23 v24))))
theorem CF19 {t:G27} {i:(Sl G114)} {E:(Option G119)×Int} (n:F19 t i=some E):ACall Tryz.prog 19 [.agg (c27 t),eS 2 c114 i] [] (λq h=>q=(.tup [pO E.1,iP E.2])/\h=[]):=by
 unfold F19 at n
 refine gCT 5 Tryz.func19 ?_
 obtain⟨v2,h3,n⟩:=Xa n
 rcases cor n with⟨U,n⟩|⟨U,n⟩
 ·obtain rfl:=soj n
  exact g_rr [re 3,.r (es 1 (kC (CF14 h3)::es 2 [])) [],bb U,re 2] .ret λ_ _ k=>er k
 rcases cor n with⟨X,n⟩|⟨X,n⟩
 ·obtain rfl:=soj n
  exact g_rr [re 3,.r (es 1 (kC (CF14 h3)::es 2 [])) [],bb U,.r (es 1 (kL 2 c114 i::es 2 [])) [],bb X,re 2] .ret λ_ _ k=>er k
 rcases cor n with⟨h6,n⟩|⟨h6,n⟩
 ·obtain rfl:=soj n
  exact g_rr [re 3,.r (es 1 (kC (CF14 h3)::es 2 [])) [],bb U,.r (es 1 (kL 2 c114 i::es 2 [])) [],bb X,.r (es 1 (kL 2 c114 i::es 2 [])) [],bb h6,re 2] .ret λ_ _ k=>er k
 obtain⟨v9,W,n⟩:=Xa n
 rcases cor n with⟨P,n⟩|⟨P,n⟩
 ·obtain rfl:=soj n
  exact g_rr [re 3,.r (es 1 (kC (CF14 h3)::es 2 [])) [],bb U,.r (es 1 (kL 2 c114 i::es 2 [])) [],bb X,.r (es 1 (kL 2 c114 i::es 2 [])) [],bb h6,.r (es 2 (kQ [1] [] 0 0 (CF43_1 W)::es 1 [])) [],bb P,re 2] .ret λ_ _ k=>er k
 obtain⟨a,ak,n⟩:=Xa n
 refine gP 4 [re 3,.r (es 1 (kC (CF14 h3)::es 2 [])) [],bb U,.r (es 1 (kL 2 c114 i::es 2 [])) [],bb X,.r (es 1 (kL 2 c114 i::es 2 [])) [],bb h6,.r (es 2 (kQ [1] [] 0 0 (CF43_1 W)::es 1 [])) [],bb P,.r (es 1 (kC (CF39 ak)::es 5 [])) [],re 1,re 3] [(1,eS 2 c114 i),(2,.bp 1 0),(6,eS 3 c173 a.1),(7,eS 1 cI a.2),(8,eS 5 c90 Sl.nil),(9,eS 1 cI (Sl.full [0])),(10,iP 0)] [.tgrow 0 5 [],.cells (c27 t)] ?_
 refine gM (λ(x:(List G90)×(List Int))=>match x with|(y,p)=>([(8,eS 5 c90 (mkSl y)),(9,nP 2 1 cI p)],[.grow (List.length y) 5,.cells (c27 t),.grow (List.length p) 1],JF19_16 y p)) E ?_ ?_
 ·rintro⟨y,p⟩ n
  replace n:JF19_16 y p=some E:=n
  unfold JF19_16 at n
  obtain⟨L,ah,n⟩:=Xa n
  obtain rfl:=soj n
  refine Yp [.r (es 1 (k46 [.grow (List.length y) 5,.cells (c27 t),.grow (List.length p) 1] ah::es 1 [])) [],re 5,re 3] .ret [(4,.bp 3 0),(5,iP 0)] [.grow (List.length y) 5,.cells (c27 t),.grow (List.length p) 1,.cells [eS 5 c90 L,nP 2 1 cI p]] (λe z=>?_)
  exact ends_cutF (r:=.tup [.ip (c119 ⟨L,.no p⟩),iP 0]) (.inr rfl) (z.trans ((weak_blk 3 rfl (qc (PSub.refl _) (qc psub_accn0 qe))).trans (weak_frzG (l:=[(⟨L,.no p⟩:G119)]) (c:=c119) (s:=2) (k:=3) (le':=[(4,.ip (c119 ⟨L,.no p⟩)),(5,iP 0)]) (H':=[.grow (List.length y) 5,.cells (c27 t),.grow (List.length p) 1,.cells []]) (Nat.zero_le _) rfl (λ_=>rfl) cl119 ⟨.ptr,.cl (.sc _),trivial⟩ ⟨.inr (.inr ⟨trivial,rfl⟩),.inr (.inr ⟨cl27 t,rfl⟩),.inr (.inr ⟨trivial,rfl⟩),.inl ⟨rfl,rfl⟩,trivial⟩))) (by kernel_rfl) (psub_cl (.tup (Cls.cons (.ip (cl119 _)) (Cls.cons (.sc _) Cls.nil)))) ⟨rfl,rfl⟩
 refine gP 0 [.r (es 1 (kL 2 c114 i::es 1 [])) []] [(2,.bp 1 0),(6,eS 3 c173 a.1),(7,eS 1 cI a.2),(8,eS 5 c90 Sl.nil),(9,eS 1 cI (Sl.full [0])),(10,iP 0),(42,eS 2 c114 i),(43,iP (ln i)),(44,iP 0)] [.tgrow 0 5 [],.cells (c27 t)] ?_
 refine gB 1 ?_
 obtain⟨aN,Y,n⟩:=Xa n
 refine gL Y (λ(f,d,o,j)=>([(2,.bp 1 0),(6,eS 3 c173 a.1),(7,eS 1 cI a.2),(8,tsP 0 5 f),(9,nP 2 1 cI d),(10,iP o),(42,eS 2 c114 i),(43,iP (ln i)),(44,iP j)],[tgB 5 c90 f,.cells (c27 t),.grow (List.length d) 1])) (((Wc (le':=[(2,.bp 1 0),(6,eS 3 c173 a.1),(7,eS 1 cI a.2),(8,eS 5 c90 Sl.nil),(9,eS 1 cI (Sl.full [0])),(10,iP 0),(42,eS 2 c114 i),(43,iP (ln i)),(44,iP 0)]) (by kernel_rfl)).trans (Uq (le':=[(2,.bp 1 0),(6,eS 3 c173 a.1),(7,eS 1 cI a.2),(8,tsP 0 5 []),(9,eS 1 cI (Sl.full [0])),(10,iP 0),(42,eS 2 c114 i),(43,iP (ln i)),(44,iP 0)]) (wc (PSub.refl _) (wc (PSub.refl _) (wc (PSub.refl _) (wc psub_tnil (wc (PSub.refl _) (wc (PSub.refl _) (wc (PSub.refl _) (wc (PSub.refl _) (wc (PSub.refl _) we))))))))))).trans (weak_lit (le':=[(2,.bp 1 0),(6,eS 3 c173 a.1),(7,eS 1 cI a.2),(8,tsP 0 5 []),(9,nP 2 1 cI [0]),(10,iP 0),(42,eS 2 c114 i),(43,iP (ln i)),(44,iP 0)]) _ 1 (kc (Xy _) (kc (Xy _) (kc (Xy _) (kc (Xy _) (kc pk_lit (kc (Xy _) (kc (Xy _) (kc (Xy _) (kc (Xy _) ke))))))))))) ?_
 rintro⟨f,d,o,j⟩ A b ap
 replace b:LF19_29 i a t f d o j=some A:=b
 unfold LF19_29 at b
 rcases cor b with⟨Q,b⟩|⟨Q,b⟩
 ·refine gP 1 [re 1,bb Q] [(2,.bp 1 0),(6,eS 3 c173 a.1),(7,eS 1 cI a.2),(8,tsP 0 5 f),(9,nP 2 1 cI d),(10,iP o),(42,eS 2 c114 i),(43,iP (ln i)),(44,iP j)] [tgB 5 c90 f,.cells (c27 t),.grow (List.length d) 1] ?_
  refine gM (λ(x:(List G90)×(List Int)×Int)=>match x with|(I,F,N)=>([(2,.bp 1 0),(6,eS 3 c173 a.1),(7,eS 1 cI a.2),(8,tsP 0 5 I),(9,nP 2 1 cI F),(10,iP N),(42,eS 2 c114 i),(43,iP (ln i)),(44,iP j)],[tgB 5 c90 I,.cells (c27 t),.grow (List.length F) 1],JF19_34 j I F N)) A ?_ ?_
  ·rintro⟨I,F,N⟩ b
   replace b:JF19_34 j I F N=some A:=b
   unfold JF19_34 at b
   cases b
   exact g_to [re 2] .normal λ_ z=>⟨rfl,z⟩
  refine gB 2 ?_
  obtain⟨v,aw,b⟩:=Xa b
  obtain⟨J,am,b⟩:=Xa b
  refine gP 1 [.r (kX 2 c114 aw::es 3 []) [],.r (es 3 (kX 1 cI am::es 3 [])) []] [(2,.bp 1 0),(6,eS 3 c173 a.1),(7,eS 1 cI a.2),(8,tsP 0 5 f),(9,nP 2 1 cI d),(10,iP o),(12,.bp 3 0),(13,eS 1 cI (Sl.full [J])),(42,eS 2 c114 i),(43,iP (ln i)),(44,iP j)] [tgB 5 c90 f,.cells (c27 t),.grow (List.length d) 1,.cells (c114 v)] ?_
  refine gM (λ(G:List Int)=>([(2,.bp 1 0),(6,eS 3 c173 a.1),(7,eS 1 cI a.2),(8,tsP 0 5 f),(9,nP 2 1 cI d),(10,iP o),(12,.bp 3 0),(13,nP 4 1 cI G),(42,eS 2 c114 i),(43,iP (ln i)),(44,iP j)],[tgB 5 c90 f,.cells (c27 t),.grow (List.length d) 1,.cells (c114 v),.grow (List.length G) 1],JF19_40 a v f o d j G)) A ?_ ?_
  ·rintro G b
   replace b:JF19_40 a v f o d j G=some A:=b
   unfold JF19_40 at b
   obtain⟨aH,aq,b⟩:=Xa b
   obtain⟨w,ar,b⟩:=Xa b
   refine gP 0 [.r (es 5 (kX 1 cI aq::es 2 (kAN 4 1 cI ar::es 1 []))) []] [(2,.bp 1 0),(6,eS 3 c173 a.1),(7,eS 1 cI a.2),(8,tsP 0 5 f),(9,nP 2 1 cI d),(10,iP o),(13,nP 4 1 cI w),(42,eS 2 c114 i),(43,iP (ln i)),(44,iP j)] [tgB 5 c90 f,.cells (c27 t),.grow (List.length d) 1,.cells (c114 v),.grow (List.length w) 1] ?_
   refine gM (λ(x:(List G90)×Int)=>match x with|(B,H)=>([(2,.bp 1 0),(6,eS 3 c173 a.1),(7,eS 1 cI a.2),(8,tsP 0 5 B),(9,nP 2 1 cI d),(10,iP H),(42,eS 2 c114 i),(43,iP (ln i)),(44,iP j)],[tgB 5 c90 B,.cells (c27 t),.grow (List.length d) 1],JF19_47 d j B H)) A ?_ ?_
   ·rintro⟨B,H⟩ b
    replace b:JF19_47 d j B H=some A:=b
    unfold JF19_47 at b
    obtain⟨ac,aA,b⟩:=Xa b
    exact g_to [.r (es 3 (kAN 2 1 cI aA::es 1 [])) []] .normal λ_ z=>⟨_,_,z,(B,ac,H),b,rfl,rfl⟩
   refine gP 0 [re 1] [(2,.bp 1 0),(6,eS 3 c173 a.1),(7,eS 1 cI a.2),(8,tsP 0 5 f),(9,nP 2 1 cI d),(10,iP o),(13,nP 4 1 cI w),(16,iP 1),(42,eS 2 c114 i),(43,iP (ln i)),(44,iP j)] [tgB 5 c90 f,.cells (c27 t),.grow (List.length d) 1,.cells (c114 v),.grow (List.length w) 1] ?_
   refine gB 5 ?_
   obtain⟨aO,V,b⟩:=Xa b
   refine gL V (λ(C,M,O)=>([(2,.bp 1 0),(6,eS 3 c173 a.1),(7,eS 1 cI a.2),(8,tsP 0 5 C),(9,nP 2 1 cI d),(10,iP M),(13,nP 4 1 cI w),(16,iP O),(42,eS 2 c114 i),(43,iP (ln i)),(44,iP j)],[tgB 5 c90 C,.cells (c27 t),.grow (List.length d) 1,.cells (c114 v),.grow (List.length w) 1])) wm ?_
   rintro⟨C,M,O⟩ an g ay
   replace g:LF19_59 w a C M O=some an:=g
   unfold LF19_59 at g
   rcases cor g with⟨T,g⟩|⟨T,g⟩
   ·obtain⟨aC,aB,g⟩:=Xa g
    obtain⟨aD,ao,g⟩:=Xa g
    obtain⟨aL,ad,g⟩:=Xa g
    obtain⟨aP,ae,g⟩:=Xa g
    obtain⟨aI,av,g⟩:=Xa g
    obtain⟨aQ,ai,g⟩:=Xa g
    obtain⟨aK,aj,g⟩:=Xa g
    obtain⟨aE,au,g⟩:=Xa g
    obtain⟨aR,ax,g⟩:=Xa g
    cases g
    exact g_to [.r (es 2 (kLN 4 1 cI w::es 1 [])) [],bb T,.r (es 4 (kXN 4 1 cI aB::es 1 (kC (CF41 ao)::es 1 []))) [],.r (es 3 (kXN 4 1 cI ad::es 5 (kXN 4 1 cI ae::es 1 []))) (es 2 []),.r (es 8 (kXN 4 1 cI av::es 1 (kC (CF40 ai)::es 4 (kXN 4 1 cI aj::es 1 (kC (CF40 au)::es 1 []))))) (kK [0] [] 0 0 (CF45_1 ax)::es 1 []),re 2,re 3] .normal λ_ z=>⟨rfl,z⟩
   cases g
   obtain rfl:=ay _ rfl
   exact g_tc 3 [.r (es 2 (kLN 4 1 cI w::es 1 [])) [],bb T] (.exit 5) λ_ _ z=>Xh (⟨_,_,z,(C,M),b,rfl,rfl⟩)
  obtain⟨u,af,b⟩:=Xa b
  refine gP 0 [.r (es 4 (kX 22 c75 af::es 2 (kL 3 c111 u.fm::es 1 []))) []] [(2,.bp 1 0),(6,eS 3 c173 a.1),(7,eS 1 cI a.2),(8,tsP 0 5 f),(9,nP 2 1 cI d),(10,iP o),(12,.bp 3 0),(13,eS 1 cI (Sl.full [J])),(42,eS 2 c114 i),(43,iP (ln i)),(44,iP j),(60,eS 3 c111 u.fm),(61,iP (ln u.fm)),(62,iP 0)] [tgB 5 c90 f,.cells (c27 t),.grow (List.length d) 1,.cells (c114 v)] ?_
  refine gB 3 ?_
  obtain⟨aM,Z,b⟩:=Xa b
  refine gL Z (λ(D,S)=>([(2,.bp 1 0),(6,eS 3 c173 a.1),(7,eS 1 cI a.2),(8,tsP 0 5 f),(9,nP 2 1 cI d),(10,iP o),(12,.bp 3 0),(13,nP 4 1 cI D),(42,eS 2 c114 i),(43,iP (ln i)),(44,iP j),(60,eS 3 c111 u.fm),(61,iP (ln u.fm)),(62,iP S)],[tgB 5 c90 f,.cells (c27 t),.grow (List.length d) 1,.cells (c114 v),.grow (List.length D) 1])) ((Wc (le':=[(2,.bp 1 0),(6,eS 3 c173 a.1),(7,eS 1 cI a.2),(8,tsP 0 5 f),(9,nP 2 1 cI d),(10,iP o),(12,.bp 3 0),(13,eS 1 cI (Sl.full [J])),(42,eS 2 c114 i),(43,iP (ln i)),(44,iP j),(60,eS 3 c111 u.fm),(61,iP (ln u.fm)),(62,iP 0)]) (by kernel_rfl)).trans (weak_lit (le':=[(2,.bp 1 0),(6,eS 3 c173 a.1),(7,eS 1 cI a.2),(8,tsP 0 5 f),(9,nP 2 1 cI d),(10,iP o),(12,.bp 3 0),(13,nP 4 1 cI [J]),(42,eS 2 c114 i),(43,iP (ln i)),(44,iP j),(60,eS 3 c111 u.fm),(61,iP (ln u.fm)),(62,iP 0)]) _ 1 (kc (Xy _) (kc (Xy _) (kc (Xy _) (kc (Xy _) (kc (Xy _) (kc (Xy _) (kc (Xy _) (kc pk_lit (kc (Xy _) (kc (Xy _) (kc (Xy _) (kc (Xy _) (kc (Xy _) (kc (Xy _) ke)))))))))))))))) ?_
  rintro⟨D,S⟩ ag m ab
  replace m:LF19_88 u a v D S=some ag:=m
  unfold LF19_88 at m
  rcases cor m with⟨K,m⟩|⟨K,m⟩
  ·obtain⟨aJ,aa,m⟩:=Xa m
   rcases cor m with⟨R,m⟩|⟨R,m⟩
   ·obtain⟨aG,az,m⟩:=Xa m
    obtain⟨aF,al,m⟩:=Xa m
    cases m
    exact g_tc 5 [re 1,bb K,.r (kX 3 c111 aa::es 3 []) [],re 3,bb R,.r (es 4 (kX 1 cI az::es 5 [])) (kAN 4 1 cI al::es 1 []),re 2] .normal λ_ _ z=>⟨rfl,z⟩
   cases m
   exact g_tc 5 [re 1,bb K,.r (kX 3 c111 aa::es 3 []) [],re 3,bb R,re 2] .normal λ_ _ z=>⟨rfl,z⟩
  cases m
  obtain rfl:=ab _ rfl
  exact g_to [re 1,bb K] (.exit 3) λ_ z=>Xh (⟨_,_,z,D,b,rfl,rfl⟩)
 cases b
 obtain rfl:=ap _ rfl
 exact g_to (le':=[(8,tsP 0 5 f),(9,nP 2 1 cI d)]) (H':=[tgB 5 c90 f,.cells (c27 t),.grow (List.length d) 1]) [re 1,bb Q] (.exit 1) λ_ z=>Xh (⟨_,_,(z.trans ((weak_frzT (le':=[(8,oP 0 5 c90 f),(9,nP 2 1 cI d)]) (l:=f) (c:=c90) 0 (Nat.zero_le _) rfl (λ_=>rfl) (ftr rfl (ft rfl fte))).trans (Uq (le':=[(8,eS 5 c90 (mkSl f)),(9,nP 2 1 cI d)]) (wc psub_own (wc (PSub.refl _) we))))),(f,d),n,rfl,rfl⟩)
def JF21_9 (c:List G90) (d:List Int) (e:Int):Option ((Sl G90)×(Sl Int)):=(F48 (mkSl c)).bind λa=>(gapp 8 d (Sl.es (Sl.full [e]))).bind λb=>some (a,mkSl b)
def JF21_30 (d:Int) (b:List G90) (a:List Int) (c:Int):Option (((List G90)×(List Int)×Int×Int)⊕((List G90)×(List Int)×Int)):=some (.inl (b,a,c,wi (d+1)))
def Vr (b:List G90) (c:Int) (a:Int) (e:Int) (f:Int) (h:Int) (j:Bool):Option (((List G90)×Int×Int)⊕((List G90)×Int)):=bif j then ((gx b (wi ((lnl b)-(1)))).bind λd=>(gset b (wi ((lnl b)-(1))) (⟨d.fN,wi ((wi (c+a))-e),d.fj,d.fTo,d.f8⟩:G90)).bind λi=>some (.inl (i,wi ((wi (c+a))-e),a)))else ((gapp 40 b [(⟨c,wi ((wi (c+a))-e),f,h,0⟩:G90)]).bind λg=>some (.inl (g,wi ((wi (c+a))-e),a)))
def JF21_53 (j:Sl G108) (d:Int) (a:List G90) (f:Int) (c:Int):Option (((List G90)×Int×Int)⊕((List G90)×Int)):=(F17 j d false).bind λb=>(F17 j c true).bind λe=>bif (decide ((lnl a)>0))then ((gx a (wi ((lnl a)-(1)))).bind λi=>(gx a (wi ((lnl a)-(1)))).bind λg=>bif (i.fj==g.fTo)then (bif (b==e)then ((gx a (wi ((lnl a)-(1)))).bind λh=>Vr a f c d b e (b==h.fj))else (Vr a f c d b e false))else (Vr a f c d b e false))else (Vr a f c d b e false)
def JF21_86 (a:Int) (b:Int):Option ((Int×Int)⊕Int):=some (.inl (b,wi (a-(1))))
def JF21_88 (e:Sl G108) (a:Int) (c:Int) (b:Bool):Option ((Int×Int)⊕Int):=bif b then ((gx (Sl.es e) a).bind λd=>JF21_86 a d.fat)else (JF21_86 a c)
def LF21_83 (c:Sl G108) (d:Int) (b:Int) (a:Int):Option ((Int×Int)⊕Int):=bif (decide (a>=0))then ((gx (Sl.es c) a).bind λf=>bif (decide (f.fat>d))then ((gx (Sl.es c) a).bind λe=>JF21_88 c a b (decide (e.fat<b)))else (JF21_88 c a b false))else (some (.inr b))
def LF21_46 (i:(Sl Int)×Int) (b:G114) (h:Sl G108) (c:List G90) (d:Int) (a:Int):Option (((List G90)×Int×Int)⊕((List G90)×Int)):=(gx (Sl.es i.1) (wi (b.fo+1))).bind λe=>bif (decide (a<e))then ((gx (Sl.es i.1) (wi (b.fo+1))).bind λf=>(Xg (λ(x:Int×Int)=>match x with|(v76,v77)=>LF21_83 h a v76 v77) (f,wi ((ln h)-(1)))).bind λg=>match g with|v78=>JF21_53 h a c d v78)else (some (.inr (c,d)))
def LF21_25 (j:Sl G114) (i:(Sl Int)×Int) (k:Sl G108) (d:List G90) (e:List Int) (b:Int) (a:Int):Option (((List G90)×(List Int)×Int×Int)⊕((List G90)×(List Int)×Int)):=bif (decide (a<(ln j)))then ((gx (Sl.es j) a).bind λc=>(gapp 8 e (Sl.es (Sl.full [b]))).bind λh=>(gx (Sl.es i.1) c.fo).bind λg=>(Xg (λ(x:(List G90)×Int×Int)=>match x with|(v37,v38,v39)=>LF21_46 i c k v37 v38 v39) (d,b,g)).bind λf=>match f with|(v40,v41)=>JF21_30 a v40 h v41)else (some (.inr (d,e,b)))
def F21 (c:G27) (d:Sl G114):Option ((Sl G90)×(Sl Int)):=(F47 c).bind λb=>(F18 c b.1).bind λe=>(Xg (λ(x:(List G90)×(List Int)×Int×Int)=>match x with|(v14,v15,v16,v17)=>LF21_25 d b e v14 v15 v16 v17) ([],[],0,0)).bind λa=>match a with|(v18,v19,v20)=>JF21_9 v18 v19 v20
theorem CF21 {y:G27} {w:(Sl G114)} {O:(Sl G90)×(Sl Int)} (G:F21 y w=some O):ACall Tryz.prog 21 [.agg (c27 y),eS 2 c114 w] [] (λq h=>q=(.tup [eS 5 c90 O.1,eS 1 cI O.2])/\h=[]):=by
 unfold F21 at G
 refine gCT 5 Tryz.func21 ?_
 obtain⟨B,h3,G⟩:=Xa G
 obtain⟨u,h5,G⟩:=Xa G
 refine gP 5 [re 3,.r (es 1 (kC (CF47 h3)::es 5 [])) [],.r (es 2 (kC (CF18 h5)::es 1 [])) [],re 1,re 1,re 1] [(1,eS 2 c114 w),(6,eS 1 cI B.1),(8,eS 3 c108 u),(9,eS 5 c90 Sl.nil),(10,eS 1 cI Sl.nil),(11,iP 0)] [.tgrow 0 5 [],.cells (c27 y)] ?_
 refine gM (λ(x:(List G90)×(List Int)×Int)=>match x with|(v6,v7,v8)=>([(9,eS 5 c90 (mkSl v6)),(10,oP 2 1 cI v7),(11,iP v8)],[.grow (List.length v6) 5,.cells (c27 y),.grow (List.length v7) 1],JF21_9 v6 v7 v8)) O ?_ ?_
 ·rintro⟨v6,v7,v8⟩ G
  replace G:JF21_9 v6 v7 v8=some O:=G
  unfold JF21_9 at G
  obtain⟨Y,au,G⟩:=Xa G
  obtain⟨U,av,G⟩:=Xa G
  refine Yp [.r (es 1 (kC (CF48 au)::es 3 (kA 2 1 cI av::es 2 []))) []] .ret [(4,eS 5 c90 Y),(5,oP 2 1 cI U)] [.grow (List.length v6) 5,.cells (c27 y),.grow (List.length U) 1] (λe o=>?_)
  obtain rfl:=soj G
  exact Zf (r:=(.tup [eS 5 c90 Y,oP 2 1 cI U])) (.inr rfl) o (by kernel_rfl) (psub_tup (qs:=[eS 5 c90 Y,eS 1 cI (mkSl U)]) (pc (psub_cl (cl_eS cl90)) (pc (We cl_cI) pe))) ⟨rfl,rfl⟩
 refine gP 0 [re 1] [(1,eS 2 c114 w),(6,eS 1 cI B.1),(8,eS 3 c108 u),(9,eS 5 c90 Sl.nil),(10,eS 1 cI Sl.nil),(11,iP 0),(12,iP 0)] [.tgrow 0 5 [],.cells (c27 y)] ?_
 refine gB 0 ?_
 obtain⟨aJ,ao,G⟩:=Xa G
 refine gL ao (λ(s,z,E,n)=>([(1,eS 2 c114 w),(6,eS 1 cI B.1),(8,eS 3 c108 u),(9,tsP 0 5 s),(10,oP 2 1 cI z),(11,iP E),(12,iP n)],[tgB 5 c90 s,.cells (c27 y),.grow (List.length z) 1])) (((Wc (le':=[(1,eS 2 c114 w),(6,eS 1 cI B.1),(8,eS 3 c108 u),(9,eS 5 c90 Sl.nil),(10,eS 1 cI Sl.nil),(11,iP 0),(12,iP 0)]) (by kernel_rfl)).trans (Uq (le':=[(1,eS 2 c114 w),(6,eS 1 cI B.1),(8,eS 3 c108 u),(9,tsP 0 5 []),(10,oP 2 1 cI []),(11,iP 0),(12,iP 0)]) (wc (PSub.refl _) (wc (PSub.refl _) (wc (PSub.refl _) (wc psub_tnil (wc Uk (wc (PSub.refl _) (wc (PSub.refl _) we))))))))).trans (Uj 1)) ?_
 rintro⟨s,z,E,n⟩ X m aE
 replace m:LF21_25 w B u s z E n=some X:=m
 unfold LF21_25 at m
 rcases cor m with⟨W,m⟩|⟨W,m⟩
 ·refine gP 0 [.r (es 2 (kL 2 c114 w::es 1 [])) [],bb W] [(1,eS 2 c114 w),(6,eS 1 cI B.1),(8,eS 3 c108 u),(9,tsP 0 5 s),(10,oP 2 1 cI z),(11,iP E),(12,iP n)] [tgB 5 c90 s,.cells (c27 y),.grow (List.length z) 1] ?_
  refine gM (λ(x:(List G90)×(List Int)×Int)=>match x with|(Q,P,R)=>([(1,eS 2 c114 w),(6,eS 1 cI B.1),(8,eS 3 c108 u),(9,tsP 0 5 Q),(10,oP 2 1 cI P),(11,iP R),(12,iP n)],[tgB 5 c90 Q,.cells (c27 y),.grow (List.length P) 1],JF21_30 n Q P R)) X ?_ ?_
  ·rintro⟨Q,P,R⟩ m
   replace m:JF21_30 n Q P R=some X:=m
   unfold JF21_30 at m
   cases m
   exact g_to [re 3] .normal λ_ o=>⟨rfl,o⟩
  refine gB 1 ?_
  obtain⟨v,aC,m⟩:=Xa m
  obtain⟨i,aH,m⟩:=Xa m
  obtain⟨aA,aD,m⟩:=Xa m
  refine gP 2 [.r (es 2 (kX 2 c114 aC::es 3 [])) [],.r (es 3 (kA 2 1 cI aH::es 1 [])) [],.r (es 2 (kX 1 cI aD::es 2 [])) []] [(1,eS 2 c114 w),(6,eS 1 cI B.1),(8,eS 3 c108 u),(9,tsP 0 5 s),(10,oP 2 1 cI i),(11,iP E),(12,iP n),(13,iP v.fo),(14,iP aA)] [tgB 5 c90 s,.cells (c27 y),.grow (List.length i) 1] ?_
  refine gB 2 ?_
  obtain⟨aK,aj,m⟩:=Xa m
  refine gL aj (λ(f,j,k)=>([(1,eS 2 c114 w),(6,eS 1 cI B.1),(8,eS 3 c108 u),(9,tsP 0 5 f),(10,oP 2 1 cI i),(11,iP j),(12,iP n),(13,iP v.fo),(14,iP k)],[tgB 5 c90 f,.cells (c27 y),.grow (List.length i) 1])) wm ?_
  rintro⟨f,j,k⟩ N a aI
  replace a:LF21_46 B v u f j k=some N:=a
  unfold LF21_46 at a
  obtain⟨aN,ag,a⟩:=Xa a
  rcases cor a with⟨ae,a⟩|⟨ae,a⟩
  ·refine gP 0 [.r (es 4 (kX 1 cI ag::es 2 [])) [],bb ae] [(1,eS 2 c114 w),(6,eS 1 cI B.1),(8,eS 3 c108 u),(9,tsP 0 5 f),(10,oP 2 1 cI i),(11,iP j),(12,iP n),(13,iP v.fo),(14,iP k)] [tgB 5 c90 f,.cells (c27 y),.grow (List.length i) 1] ?_
   refine gB 3 ?_
   obtain⟨af,aw,a⟩:=Xa a
   refine gP 0 [.r (es 3 (kX 1 cI aw::es 2 [])) []] [(1,eS 2 c114 w),(6,eS 1 cI B.1),(8,eS 3 c108 u),(9,tsP 0 5 f),(10,oP 2 1 cI i),(11,iP j),(12,iP n),(13,iP v.fo),(14,iP k),(15,iP af)] [tgB 5 c90 f,.cells (c27 y),.grow (List.length i) 1] ?_
   refine gM (λ(p:Int)=>([(1,eS 2 c114 w),(6,eS 1 cI B.1),(8,eS 3 c108 u),(9,tsP 0 5 f),(10,oP 2 1 cI i),(11,iP j),(12,iP n),(13,iP v.fo),(14,iP k),(15,iP p)],[tgB 5 c90 f,.cells (c27 y),.grow (List.length i) 1],JF21_53 u k f j p)) N ?_ ?_
   ·rintro p a
    replace a:JF21_53 u k f j p=some N:=a
    unfold JF21_53 at a
    obtain⟨F,az,a⟩:=Xa a
    obtain⟨J,ax,a⟩:=Xa a
    refine gP 2 [.r (es 8 (kC (CF17 az)::es 2 (kC (CF17 ax)::es 3 []))) [],re 5,.r (es 1 (kTL 0 5 f::es 1 [])) []] [(1,eS 2 c114 w),(6,eS 1 cI B.1),(8,eS 3 c108 u),(9,tsP 0 5 f),(10,oP 2 1 cI i),(11,iP (wi ((wi (j+p))-k))),(12,iP n),(13,iP v.fo),(14,iP p),(17,.bp 3 0),(18,iP (lnl f))] [tgB 5 c90 f,.cells (c27 y),.grow (List.length i) 1,.cells [iP j,iP (wi ((wi (j+p))-k)),iP F,iP J,iP 0]] ?_
    refine gM (λ(V:Bool)=>([(1,eS 2 c114 w),(6,eS 1 cI B.1),(8,eS 3 c108 u),(9,tsP 0 5 f),(10,oP 2 1 cI i),(11,iP (wi ((wi (j+p))-k))),(12,iP n),(13,iP v.fo),(14,iP p),(17,.bp 3 0),(18,iP (lnl f)),(138,bP V)],[tgB 5 c90 f,.cells (c27 y),.grow (List.length i) 1,.cells [iP j,iP (wi ((wi (j+p))-k)),iP F,iP J,iP 0]],Vr f j p k F J V)) N ?_ ?_
    ·rintro V a
     replace a:Vr f j p k F J V=some N:=a
     unfold Vr at a
     rcases cor a with⟨ad,a⟩|⟨ad,a⟩
     ·obtain⟨aL,ap,a⟩:=Xa a
      obtain⟨aq,am,a⟩:=Xa a
      cases a
      exact g_tc (le':=[(1,eS 2 c114 w),(6,eS 1 cI B.1),(8,eS 3 c108 u),(9,.ts 0 (List.length f) 5),(10,oP 2 1 cI i),(11,iP (wi ((wi (j+p))-k))),(12,iP n),(13,iP v.fo),(14,iP p)]) (H':=[tgB 5 c90 aq,.cells (c27 y),.grow (List.length i) 1]) 3 [bb ad,.r (es 5 (kTX 0 5 ap::es 1 (kTW 0 5 1 c90 (iP (wi ((wi (j+p))-k))) ap am::[]))) []] .normal λ_ _ o=>⟨rfl,by rw[gset_len am]at o;exact o⟩
     obtain⟨aO,ar,a⟩:=Xa a
     cases a
     exact g_tc 3 [bb ad,.r (es 3 (kTA 0 5 c90 ar::es 1 [])) []] .normal λ_ _ o=>⟨rfl,o⟩
    rcases cor a with⟨d,a⟩|⟨d,a⟩
    ·obtain⟨ab,L,a⟩:=Xa a
     obtain⟨Z,K,a⟩:=Xa a
     rcases cor a with⟨H,a⟩|⟨H,a⟩
     ·rcases cor a with⟨C,a⟩|⟨C,a⟩
      ·obtain⟨an,ah,a⟩:=Xa a
       exact g_to [.r (es 3 (rq 3 (bq d) (bq d::kTX 0 5 L::bq d::es 1 (bq d::kTR 0 5 2 c90 L::rq 3 (bq d) (bq d::kTX 0 5 K::bq d::es 1 (bq d::kTR 0 5 3 c90 K::bq d::es 1 (kPt (bP (ab.fj==Z.fTo)) (bP false) d::es 1 (rq 5 (bq H) (kPt (bP (F==J)) (bP false) H::es 1 (rq 5 (bq C) (bq C::kTX 0 5 ah::bq C::es 1 (bq C::kTR 0 5 2 c90 ah::[])))))))))))) (bq C::es 1 (kPt (bP (F==an.fj)) (bP false) C::[]))] .normal λ_ o=>⟨_,_,o,F==an.fj,a,rfl,rfl⟩
      exact g_to [.r (es 3 (rq 3 (bq d) (bq d::kTX 0 5 L::bq d::es 1 (bq d::kTR 0 5 2 c90 L::rq 3 (bq d) (bq d::kTX 0 5 K::bq d::es 1 (bq d::kTR 0 5 3 c90 K::bq d::es 1 (kPt (bP (ab.fj==Z.fTo)) (bP false) d::es 1 (rq 5 (bq H) (kPt (bP (F==J)) (bP false) H::es 1 (rp 8 (bq C) [])))))))))) (bq C::kPf (.tup []) (bP false) C::[])] .normal λ_ o=>⟨_,_,o,false,a,rfl,rfl⟩
     exact g_to [.r (es 3 (rq 3 (bq d) (bq d::kTX 0 5 L::bq d::es 1 (bq d::kTR 0 5 2 c90 L::rq 3 (bq d) (bq d::kTX 0 5 K::bq d::es 1 (bq d::kTR 0 5 3 c90 K::bq d::es 1 (kPt (bP (ab.fj==Z.fTo)) (bP false) d::es 1 (rp 5 (bq H) (kPf (.tup []) (bP false) H::es 1 (rp 8 bqF [])))))))))) (bq (t:=false) (b:=false) rfl::es 1 [])] .normal λ_ o=>⟨_,_,o,false,a,rfl,rfl⟩
    exact g_to [.r (es 3 (rp 13 (bq d) (kPf (.tup []) (bP false) d::es 1 (rp 5 bqF (es 2 (rp 8 bqF [])))))) (bq (t:=false) (b:=false) rfl::es 1 [])] .normal λ_ o=>⟨_,_,o,false,a,rfl,rfl⟩
   refine gP 0 [.r (es 1 (kL 3 c108 u::es 2 [])) []] [(1,eS 2 c114 w),(6,eS 1 cI B.1),(8,eS 3 c108 u),(9,tsP 0 5 f),(10,oP 2 1 cI i),(11,iP j),(12,iP n),(13,iP v.fo),(14,iP k),(15,iP af),(16,iP (wi ((ln u)-(1))))] [tgB 5 c90 f,.cells (c27 y),.grow (List.length i) 1] ?_
   refine gB 4 ?_
   obtain⟨aM,ai,a⟩:=Xa a
   refine gL ai (λ(A,D)=>([(1,eS 2 c114 w),(6,eS 1 cI B.1),(8,eS 3 c108 u),(9,tsP 0 5 f),(10,oP 2 1 cI i),(11,iP j),(12,iP n),(13,iP v.fo),(14,iP k),(15,iP A),(16,iP D)],[tgB 5 c90 f,.cells (c27 y),.grow (List.length i) 1])) wm ?_
   rintro⟨A,D⟩ M g aG
   replace g:LF21_83 u k A D=some M:=g
   unfold LF21_83 at g
   rcases cor g with⟨aa,g⟩|⟨aa,g⟩
   ·refine gP 0 [re 2,bb aa] [(1,eS 2 c114 w),(6,eS 1 cI B.1),(8,eS 3 c108 u),(9,tsP 0 5 f),(10,oP 2 1 cI i),(11,iP j),(12,iP n),(13,iP v.fo),(14,iP k),(15,iP A),(16,iP D)] [tgB 5 c90 f,.cells (c27 y),.grow (List.length i) 1] ?_
    refine gM (λ(S:Int)=>([(1,eS 2 c114 w),(6,eS 1 cI B.1),(8,eS 3 c108 u),(9,tsP 0 5 f),(10,oP 2 1 cI i),(11,iP j),(12,iP n),(13,iP v.fo),(14,iP k),(15,iP S),(16,iP D)],[tgB 5 c90 f,.cells (c27 y),.grow (List.length i) 1],JF21_86 D S)) M ?_ ?_
    ·rintro S g
     replace g:JF21_86 D S=some M:=g
     unfold JF21_86 at g
     cases g
     exact g_to [re 3] .normal λ_ o=>⟨rfl,o⟩
    refine gB 5 ?_
    refine gM (λ(T:Bool)=>([(1,eS 2 c114 w),(6,eS 1 cI B.1),(8,eS 3 c108 u),(9,tsP 0 5 f),(10,oP 2 1 cI i),(11,iP j),(12,iP n),(13,iP v.fo),(14,iP k),(15,iP A),(16,iP D),(80,bP T)],[tgB 5 c90 f,.cells (c27 y),.grow (List.length i) 1],JF21_88 u D A T)) M ?_ ?_
    ·rintro T g
     replace g:JF21_88 u D A T=some M:=g
     unfold JF21_88 at g
     rcases cor g with⟨ac,g⟩|⟨ac,g⟩
     ·obtain⟨aB,aF,g⟩:=Xa g
      exact g_to [bb ac,.r (es 2 (kX 3 c108 aF::es 3 [])) []] .normal λ_ o=>⟨_,_,o,aB.fat,g,rfl,rfl⟩
     exact g_to [bb ac] .normal λ_ o=>⟨_,_,o,A,g,rfl,rfl⟩
    obtain⟨aP,al,g⟩:=Xa g
    rcases cor g with⟨I,g⟩|⟨I,g⟩
    ·obtain⟨ak,ay,g⟩:=Xa g
     exact g_to [.r (es 2 (kX 3 c108 al::es 5 (rq 2 (bq I) (bq I::kX 3 c108 ay::rq 4 (bq I) (kPt (bP (decide (ak.fat<A))) (bP false) I::[]))))) []] .normal λ_ o=>⟨_,_,o,decide (ak.fat<A),g,rfl,rfl⟩
    exact g_to [.r (es 2 (kX 3 c108 al::es 5 (rp 7 (bq I) (kPf (.tup []) (bP false) I::[])))) []] .normal λ_ o=>⟨_,_,o,false,g,rfl,rfl⟩
   cases g
   obtain rfl:=aG _ rfl
   exact g_to [re 2,bb aa] (.exit 4) λ_ o=>Xh (⟨_,_,o,A,a,rfl,rfl⟩)
  cases a
  obtain rfl:=aI _ rfl
  exact g_to [.r (es 4 (kX 1 cI ag::es 2 [])) [],bb ae] (.exit 2) λ_ o=>Xh (⟨_,_,o,(f,i,j),m,rfl,rfl⟩)
 cases m
 obtain rfl:=aE _ rfl
 exact g_to (le':=[(9,tsP 0 5 s),(10,oP 2 1 cI z),(11,iP E)]) (H':=[tgB 5 c90 s,.cells (c27 y),.grow (List.length z) 1]) [.r (es 2 (kL 2 c114 w::es 1 [])) [],bb W] (.exit 0) λ_ o=>Xh (⟨_,_,(o.trans ((weak_frzT (le':=[(9,oP 0 5 c90 s),(10,oP 2 1 cI z),(11,iP E)]) (l:=s) (c:=c90) 0 (Nat.zero_le _) rfl (λ_=>rfl) (ftr rfl (ft rfl (ft rfl fte)))).trans (Uq (le':=[(9,eS 5 c90 (mkSl s)),(10,oP 2 1 cI z),(11,iP E)]) (wc psub_own (wc (PSub.refl _) (wc (PSub.refl _) we)))))),(s,z,E),G,rfl,rfl⟩)
end
end Go.Proofs.YtibndgdocbbbeaaGreat
