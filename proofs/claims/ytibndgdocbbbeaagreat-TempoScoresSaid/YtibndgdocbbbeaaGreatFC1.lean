/- A part of the proof. -/
import Derived.Test.YtibndgdocbbbeaaGreatSY13
import Derived.Test.YtibndgdocbbbeaaGreatFD
import Derived.Test.YtibndgdocbbbeaaGreatFB
import Derived.Test.YtibndgdocbbbeaaGreatTC
import Derived.Test.YtibndgdocbbbeaaGreatHA
set_option linter.all false
set_option maxRecDepth 100000
set_option maxHeartbeats 40000000
set_option synthInstance.maxSize 100000
namespace Go.Proofs.YtibndgdocbbbeaaGreat
open Go.PE
noncomputable section
abbrev A1 (f:FuncId) (a:List PV) (H:List Blk) (r:PV) (K:List Blk):Prop:=ACall Tryz.prog f a H (λq h=>q=r/\h=K)
theorem CF326 {c b a} (d:F326 c b=some a):A0 326 [eS 4 c425 c,iP b] (iP a):=by
 cases d
 exact tupletC (λt:G425=>⟨t.fav,t.fI,t.fap,t.far⟩) (λ_=>rfl)
theorem CF202 {d a} (c:F202 d=some a):A0 202 [.sc (.int .u8 d)] (bP a):=by
 refine gC Tryz.func202 ?_
 rcases cor c with⟨b,c⟩|⟨b,c⟩
 ·obtain rfl:=soj c
  exact gE [re 1,rs 3 (rP 2 b (kU b::es 1 []))]
 obtain rfl:=soj c
 exact gE [re 1,rs 3 (rQ 2 b (kF true (d==127) b::es 1 []))]
theorem CF275_1 {g c} (d:F275_1 g=some c):A0 275 [eS 1 (cK .u8) g,(fk 202)] (iP c):=by
 refine gC Tryz.func275 ?_
 refine gd 0 [re 1] [] [] ?_
 refine gMq (λ(_:Unit)=>([],[],JF275_1_1)) c ?_ ?_
 ·rintro⟨⟩ d
  obtain rfl:=soj d
  exact gE [re 1]
 obtain⟨o,i,d⟩:=Xa d
 refine gPl 0 [rk 1 (kL 1 (cK .u8) g) 1] 0 i [] (λj=>[(7,iP (ln g)),(8,iP j)]) ?_
 rintro j p a k
 rcases cor a with⟨h,a⟩|⟨h,a⟩
 ·obtain⟨l,f,m,e,a⟩:=bs2 a
  rcases cor a with⟨b,a⟩|⟨b,a⟩
  ·cases a
   obtain rfl:=k _ rfl
   obtain rfl:=soj d
   exact gE [re 1,bb h,re 2,rs 3 (kX 1 (cK .u8) f::es 1 (kC (CF202 e)::[])),bb b,re 2]
  cases a
  exact gj [re 1,bb h,re 2,rs 3 (kX 1 (cK .u8) f::es 1 (kC (CF202 e)::[])),bb b,re 2]
 cases a
 obtain rfl:=k _ rfl
 exact ge 0 [re 1,bb h] λ_ n=>Xh ⟨(),d,n⟩
theorem CF203_1 {c a} (b:F203_1 c=some a):A0 203 [eS 1 (cK .u8) c,(fk 202)] (bP a):=by
 refine gC Tryz.func203 ?_
 obtain⟨e,d,b⟩:=Xa b
 obtain rfl:=soj b
 exact gE [re 1,rk 2 (kC (CF275_1 d)) 2]
theorem CF124 {e d} (b:F124 e=some d):A0 124 [sP e] (bP d):=by
 refine gC Tryz.func124 ?_
 rcases cor b with⟨a,b⟩|⟨a,b⟩
 ·obtain⟨g,i,h,f,b⟩:=bs2 b
  obtain rfl:=soj b
  exact gE [re 1,re 1,rs 4 (bq a::es 1 (bq a::⟨.fd (.strBytes (.c (sP e))) [] [] (eS 1 (cK .u8) g),fd_strBytes i⟩::bq a::es 1 (bq a::kC (CF203_1 f)::bq a::es 1 (kT (!h) false a::es 1 []))))]
 obtain rfl:=soj b
 exact gE [re 1,re 1,rs 4 (rP 5 a (kV a::es 1 []))]
theorem Yd {g f d e h b} (a:Yf g f d e h=some b):A1 123 [.bp 0 0,bP g,.agg (c58 f)] (hC d e h) (.tup []) (hC d e b):=by
 refine gC Tryz.func123 ?_
 rcases cor a with⟨c,a⟩|⟨c,a⟩
 ·obtain⟨j,i,a⟩:=Xa a
  obtain rfl:=soj a
  exact gHn 2 [re 1,re 1,bb c,.r (es 12 (kA 1 3 c159 i::[])) (es 3 [])]
 obtain rfl:=soj a
 exact gHn 2 [re 1,re 1,bb c]
theorem Xz {e f d a} (b:F125 e f d=some a):A0 125 [iP e,iP f,iP d] (bP a):=by
 refine gC Tryz.func125 ?_
 rcases cor b with⟨c,b⟩|⟨c,b⟩
 ·obtain rfl:=soj b
  exact gE [re 1,rs 4 (rQ 3 c (kT (decide (e<=d)) false c::es 1 []))]
 obtain rfl:=soj b
 exact gE [re 1,rs 4 (rP 3 c (kV c::es 1 []))]
theorem CF126 {b f} (a:F126 b=some f):A0 126 [.agg (c65 b)] (iP f):=by
 refine gC Tryz.func126 ?_
 refine gP 0 [re 2] [(1,.bp 0 0)] [.cells (c65 b)] ?_
 refine gS ?_
 refine gMq (λh=>([(20,bP h)],[],JF126_2 h)) f ?_ ?_
 ·rintro h a
  rcases cor a with⟨i,a⟩|⟨i,a⟩
  ·obtain rfl:=soj a
   exact gE [bb i,re 1]
  refine gNd [bb i] [20] [] ?_
  obtain rfl:=soj a
  exact gE [re 1]
 rcases cor a with⟨c,a⟩|⟨c,a⟩
 ·exact gk 0 [rs 4 (rP 3 c (kU c::es 1 (rp 3 bqT (es 2 (rp 3 bqT (es 1 []))))))] λ_ _ d=>⟨true,a,d⟩
 rcases cor a with⟨e,a⟩|⟨e,a⟩
 ·exact gk 0 [rs 4 (rQ 3 c (kF true (decide (b.fak>77)) c::es 1 (rP 3 e (kU e::es 1 (rp 3 bqT (es 1 []))))))] λ_ _ d=>⟨true,a,d⟩
 rcases cor a with⟨g,a⟩|⟨g,a⟩
 ·exact gk 0 [rs 4 (rQ 3 c (kF true (decide (b.fak>77)) c::es 1 (rQ 3 e (kF true (decide (b.fac<(-140))) e::es 1 (rP 3 g (kU g::[]))))))] λ_ _ d=>⟨true,a,d⟩
 exact gk 0 [rs 4 (rQ 3 c (kF true (decide (b.fak>77)) c::es 1 (rQ 3 e (kF true (decide (b.fac<(-140))) e::es 1 (rQ 3 g (kF true (decide (b.fac>140)) g::[]))))))] λ_ _ d=>⟨_,a,d⟩
theorem CF123_2 {i h g c e f b} (a:Vm i h g c e f=some b):A1 123 [.bp 0 0,bP i,.agg [iP h,iP g]] (hC c e f) (.tup []) (hC c e b):=by
 refine gC Tryz.func123 ?_
 rcases cor a with⟨d,a⟩|⟨d,a⟩
 ·obtain⟨k,j,a⟩:=Xa a
  obtain rfl:=soj a
  exact gHn 2 [re 1,re 1,bb d,.r (es 12 (kA 1 3 c159 j::[])) (es 3 [])]
 obtain rfl:=soj a
 exact gHn 2 [re 1,re 1,bb d]
theorem CF60_1 {k y v2 H} (g:F60_1 k y v2=some H):A1 60 [.bp 0 0] (hC k y v2) (.tup []) (hC k y H):=by
 refine gC Tryz.func60 ?_
 refine gMD [] 0 (λv4=>([],hC k y v4,JF60_1_5 k y v4)) H ?_ ?_
 ·rintro v4 g
  refine gMD [] 0 (λv6=>([],hC k y v6,JF60_1_7 k y v6)) H ?_ ?_
  ·rintro v6 g
   obtain⟨v8,h9,g⟩:=Xa g
   rcases cor g with⟨b,g⟩|⟨b,g⟩
   ·obtain⟨aP,an,g⟩:=Xa g
    obtain rfl:=soj g
    exact gHn 2 [rs 6 (kC (CF124 h9)::es 2 (rP 8 b (kU b::es 1 (rp 8 bqT (es 2 (rp 7 bqT (es 2 (rp 7 bqT (es 2 (kK [0,1] [] 0 0 (CF123_2 an)::[]))))))))))]
   obtain⟨F,G,g⟩:=Xa g
   rcases cor g with⟨h,g⟩|⟨h,g⟩
   ·obtain⟨aO,av,g⟩:=Xa g
    obtain rfl:=soj g
    exact gHn 2 [rs 6 (kC (CF124 h9)::es 2 (rQ 5 b (bq b::kL 6 c68 k.fi::bq b::kC (Xz G)::bq b::es 1 (kF true (!F) b::es 1 (rP 8 h (kU h::es 1 (rp 7 bqT (es 2 (rp 7 bqT (es 2 (kK [0,1] [] 0 0 (CF123_2 av)::[])))))))))))]
   obtain⟨V,O,g⟩:=Xa g
   rcases cor g with⟨q,g⟩|⟨q,g⟩
   ·obtain⟨aN,ao,g⟩:=Xa g
    obtain rfl:=soj g
    exact gHn 2 [rs 6 (kC (CF124 h9)::es 2 (rQ 5 b (bq b::kL 6 c68 k.fi::bq b::kC (Xz G)::bq b::es 1 (kF true (!F) b::es 1 (rQ 5 h (bq h::kL 22 c75 k.fc::bq h::kC (Xz O)::bq h::es 1 (kF true (!V) h::es 1 (rP 7 q (kU q::es 1 (rp 7 bqT (es 2 (kK [0,1] [] 0 0 (CF123_2 ao)::[]))))))))))))]
   rcases cor g with⟨x,g⟩|⟨x,g⟩
   ·obtain⟨aI,ay,g⟩:=Xa g
    obtain rfl:=soj g
    exact gHn 2 [rs 6 (kC (CF124 h9)::es 2 (rQ 5 b (bq b::kL 6 c68 k.fi::bq b::kC (Xz G)::bq b::es 1 (kF true (!F) b::es 1 (rQ 5 h (bq h::kL 22 c75 k.fc::bq h::kC (Xz O)::bq h::es 1 (kF true (!V) h::es 1 (rQ 5 q (bq q::kL 7 c213 k.fp::bq q::es 1 (kF true (decide ((ln k.fp)>4096)) q::es 1 (rP 7 x (kU x::es 1 (kK [0,1] [] 0 0 (CF123_2 ay)::[])))))))))))))]
   obtain⟨aK,ap,g⟩:=Xa g
   obtain rfl:=soj g
   exact gHn 2 [rs 6 (kC (CF124 h9)::es 2 (rQ 5 b (bq b::kL 6 c68 k.fi::bq b::kC (Xz G)::bq b::es 1 (kF true (!F) b::es 1 (rQ 5 h (bq h::kL 22 c75 k.fc::bq h::kC (Xz O)::bq h::es 1 (kF true (!V) h::es 1 (rQ 5 q (bq q::kL 7 c213 k.fp::bq q::es 1 (kF true (decide ((ln k.fp)>4096)) q::es 1 (rQ 5 x (bq x::kL 2 c58 k.fG::bq x::es 1 (kF true (decide ((ln k.fG)>100)) x::es 1 (kK [0,1] [] 0 0 (CF123_2 ap)::[]))))))))))))))]
  obtain⟨aM,ad,g⟩:=Xa g
  refine gPL 0 [rk 5 (kL 22 c75 k.fc) 1] 2 ad [] 0 (λ(C,E)=>([(47,eS 22 c75 k.fc),(48,iP (ln k.fc)),(49,iP C)],hC k y E)) ?_
  rintro⟨C,E⟩ T c au
  rcases cor c with⟨P,c⟩|⟨P,c⟩
  ·refine gd 1 [re 1,bb P] [] [] ?_
   refine gMD [] 0 (λY=>([],hC k y Y,JF60_1_68 C Y)) T ?_ ?_
   ·rintro Y c
    cases c
    exact gj [re 2]
   refine gB 3 ?_
   obtain⟨w,aw,c⟩:=Xa c
   refine gD 0 [.r (kX 22 c75 aw::es 3 []) []] [] [(5,.bp 2 0)] 2 [.cells (c75 w)] ?_
   refine gMd [] (λZ=>([(6,bP Z)],JF60_1_72 w k y E C Z)) T ?_ ?_
   ·rintro Z c
    refine gMd [] (λX=>([(6,bP X)],JF60_1_74 w k y E C X)) T ?_ ?_
    ·rintro X c
     obtain⟨aL,ar,c⟩:=Xa c
     exact gk 2 [rk 4 (kK [0,1] [] 0 0 (Yd ar)) 0] λ_ _ t=>⟨_,c,t⟩
    obtain⟨aJ,ah,c⟩:=Xa c
    refine gPl 0 [rk 2 (kL 2 c95 w.ff) 1] 4 ah [] (λ(aj,D)=>[(6,bP aj),(64,eS 2 c95 w.ff),(65,iP (ln w.ff)),(66,iP D)]) ?_
    rintro⟨aj,D⟩ ai e aq
    rcases cor e with⟨Q,e⟩|⟨Q,e⟩
    ·refine gd 1 [re 1,bb Q] [] [] ?_
     refine gMd [] (λR=>([(6,bP R)],JF60_1_92 D R)) ai ?_ ?_
     ·rintro R e
      cases e
      exact gj [re 2]
     refine gB 5 ?_
     obtain⟨o,ax,e⟩:=Xa e
     refine gD 0 [.r (kX 2 c95 ax::es 3 []) []] [] [(8,.bp 3 0)] 3 [.cells (c95 o)] ?_
     refine gMd [] (λS=>([(6,bP S)],JF60_1_96 o D S)) ai ?_ ?_
     ·rintro S e
      obtain⟨aB,W,e⟩:=Xa e
      refine gPl 0 [rk 2 (kL 2 c100 o.fh) 1] 6 W [8] (λ(ak,am)=>[(6,bP ak),(84,eS 2 c100 o.fh),(85,iP (ln o.fh)),(86,iP am)]) ?_
      rintro⟨ak,am⟩ aE d af
      rcases cor d with⟨v,d⟩|⟨v,d⟩
      ·obtain⟨s,A,d⟩:=Xa d
       rcases cor d with⟨i,d⟩|⟨i,d⟩
       ·cases d
        exact gk 4 [re 1,bb v,.r (kX 2 c100 A::es 3 []) [],rs 2 (rP 4 i (kU i::es 1 (rp 4 bqT (es 2 [])))),re 2]
       rcases cor d with⟨m,d⟩|⟨m,d⟩
       ·cases d
        exact gk 4 [re 1,bb v,.r (kX 2 c100 A::es 3 []) [],rs 2 (rQ 2 i (bq i::kL 13 c147 s.fg::bq i::es 1 (kF true (decide ((ln s.fg)>128)) i::es 1 (rP 4 m (kU m::es 1 []))))),re 2]
       cases d
       exact gk 4 [re 1,bb v,.r (kX 2 c100 A::es 3 []) [],rs 2 (rQ 2 i (bq i::kL 13 c147 s.fg::bq i::es 1 (kF true (decide ((ln s.fg)>128)) i::es 1 (rQ 2 m (bq m::kL 4 c425 s.fY::bq m::es 1 (kF true (decide ((ln s.fY)>16)) m::es 1 [])))))),re 2]
      cases d
      obtain rfl:=af _ rfl
      exact gke 3 6 [re 1,bb v] λ_ _ t=>Xh ⟨_,e,t⟩
     rcases cor e with⟨j,e⟩|⟨j,e⟩
     ·exact gj [rs 2 (rP 4 j (kU j::es 1 (rp 4 bqT (es 2 []))))] λ_ t=>⟨true,e,t⟩
     rcases cor e with⟨n,e⟩|⟨n,e⟩
     ·exact gj [rs 2 (rQ 2 j (bq j::kL 2 c230 o.fR::bq j::es 1 (kF true (decide ((ln o.fR)>64)) j::es 1 (rP 4 n (kU n::es 1 [])))))] λ_ t=>⟨true,e,t⟩
     exact gj [rs 2 (rQ 2 j (bq j::kL 2 c230 o.fR::bq j::es 1 (kF true (decide ((ln o.fR)>64)) j::es 1 (rQ 2 n (bq n::kL 2 c100 o.fh::bq n::es 1 (kF true (decide ((ln o.fh)>2)) n::es 1 []))))))] λ_ t=>⟨_,e,t⟩
    cases e
    obtain rfl:=aq _ rfl
    exact ge 4 [re 1,bb Q] λ_ t=>Xh ⟨_,c,t⟩
   obtain⟨aH,J,c⟩:=Xa c
   rcases cor c with⟨l,c⟩|⟨l,c⟩
   ·exact gj [rs 2 (kC (CF124 J)::es 2 (rP 4 l (kU l::es 1 [])))] λ_ t=>⟨true,c,t⟩
   exact gj [rs 2 (kC (CF124 J)::es 2 (rQ 2 l (bq l::kL 3 c111 w.fm::bq l::es 1 (kF true (decide ((ln w.fm)>64)) l::es 1 []))))] λ_ t=>⟨_,c,t⟩
  cases c
  obtain rfl:=au _ rfl
  exact ge 2 [re 1,bb P] λ_ t=>Xh ⟨_,g,t⟩
 obtain⟨aC,U,g⟩:=Xa g
 refine gPL 0 [rk 5 (kL 6 c68 k.fi) 1] 0 U [] 0 (λ(L,N)=>([(15,eS 6 c68 k.fi),(16,iP (ln k.fi)),(17,iP L)],hC k y N)) ?_
 rintro⟨L,N⟩ aF a ae
 rcases cor a with⟨u,a⟩|⟨u,a⟩
 ·obtain⟨K,B,az,z,a⟩:=bs2 a
  rcases cor a with⟨f,a⟩|⟨f,a⟩
  ·obtain⟨aD,aa,a⟩:=Xa a
   cases a
   exact gk 2 [re 1,bb u,.r (kX 6 c68 B::es 3 []) [],.r (es 3 (kC (CF124 z)::es 2 (rP 5 f (kU f::es 1 (rp 4 bqT (es 3 [])))))) (kK [0,1] [] 0 0 (Yd aa)::[]),re 2]
  obtain⟨I,M,a⟩:=Xa a
  rcases cor a with⟨p,a⟩|⟨p,a⟩
  ·obtain⟨aA,ac,a⟩:=Xa a
   cases a
   exact gk 2 [re 1,bb u,.r (kX 6 c68 B::es 3 []) [],.r (es 3 (kC (CF124 z)::es 2 (rQ 2 f (bq f::kL 3 c184 K.fx::bq f::kC (Xz M)::bq f::es 1 (kF true (!I) f::es 1 (rP 4 p (kU p::es 2 []))))))) (kK [0,1] [] 0 0 (Yd ac)::[]),re 2]
  obtain⟨ab,al,aG,ag,a⟩:=bs2 a
  cases a
  exact gk 2 [re 1,bb u,.r (kX 6 c68 B::es 3 []) [],.r (es 3 (kC (CF124 z)::es 2 (rQ 2 f (bq f::kL 3 c184 K.fx::bq f::kC (Xz M)::bq f::es 1 (kF true (!I) f::es 1 (rQ 2 p (bq p::kC (CF126 al)::bq p::es 1 (kF true (ab !=0) p::es 2 [])))))))) (kK [0,1] [] 0 0 (Yd ag)::[]),re 2]
 cases a
 obtain rfl:=ae _ rfl
 exact ge 0 [re 1,bb u] λ_ t=>Xh ⟨_,g,t⟩
theorem visitC {F:List Blk} {b o:Nat}:ACall Tryz.prog 204 [.bp b o] F (λq h=>q=(.fn (.func 276) [] [.bp F.length 0])/\h=F++[.cells [.bp b o]]):=by
 refine g_callI mixed ok204 ?_
 refine g_reg rfl [(1,.bp F.length 0)] (F++[.cells [.bp b o]]) [.ev,.ev] [] (by kernel_rfl) ⟨trivial,trivial,trivial⟩ trivial ?_
 refine g_reg rfl [(2,(.fn (.func 276) [] [.bp F.length 0]))] (F++[.cells [.bp b o]]) [.ev,.ev] [] (by kernel_rfl) ⟨trivial,trivial,trivial⟩ trivial ?_
 exact g_ret rfl ⟨.inr rfl,_,_,WeakS.refl _ _ _,(.fn (.func 276) [] [.bp F.length 0]),by kernel_rfl,.inl ⟨rfl,rfl⟩⟩
theorem visitN {F:List Blk} {b o a:Nat}:Nt.ok Tryz.prog (.st (.call (.c (fk 204)) [.c (.bp b o)]) F (.fn (.func 276) [] [.bp F.length 0]) (F++[.cells [.bp b o]]) a):=
 ⟨by
  show XCall Tryz.prog 204 [.bp b o] F _
  exact .inl visitC,Same.app _ _ _⟩
theorem CR127_0_1 {k m i o p l g f c a b} (n:Qa k m i o p l g f c a=some b):ARound Tryz.prog 4 [.agg [iP k,iP m,iP i,iP o,iP p,iP l,iP g],.ip (c58 f)] [.cells (c27 c),.cells [oP 2 2 c58 a],.grow (List.length a) 2,.cells [.bp 0 0],Xv [(3,.bp 1 0),(6,(fz 3))] .ready none] (λq h=>q=(bP (!false))/\h=[.cells (c27 c),.cells [oP 2 2 c58 b],.grow (List.length b) 2,.cells [.bp 0 0],Xv [(3,.bp 1 0),(6,(fz 3))] .ready none]):=by
 refine g_yl (N:=af127.ntmps) (le:=[(3,.bp 1 0),(6,(fz 3))]) (ps:=#[7,8]) (ai:=c127_9) (bd:=c127_10) (cA:=(Zn cd127 [1,1,0,1,0,0])) (cB:=(Zn cd127 [1,1,0,1,0,1])) mixed (by kernel_rfl) (by kernel_rfl) (by kernel_rfl) (by kernel_rfl) [(3,.bp 1 0),(6,(fz 3)),(7,.agg [iP k,iP m,iP i,iP o,iP p,iP l,iP g]),(8,.ip (c58 f))] [re 1] [(3,.bp 1 0),(5,.ip (c58 f))] [.cells (c27 c),.cells [oP 2 2 c58 a],.grow (List.length a) 2,.cells [.bp 0 0],Xv [(3,.bp 1 0),(6,(fz 3))] .ready none] [.cells (c27 c),.cells [oP 2 2 c58 a],.grow (List.length a) 2,.cells [.bp 0 0],Xv [(3,.bp 1 0),(6,(fz 3))] .busy none] ?_
 obtain⟨d,j,n⟩:=Xa n
 refine Yp [.r (es 5 []) (kA 2 2 c58 j::es 1 [])] .normal [] [.cells (c27 c),.cells [oP 2 2 c58 d],.grow (List.length d) 2,.cells [.bp 0 0],Xv [(3,.bp 1 0),(6,(fz 3))] .busy none] (λe s=>?_)
 obtain rfl:=soj n
 exact round_end s
theorem CF276_1 {g v1 v} (u:F276_1 g v1=some v):A1 276 [.yl 4,.bp 3 0] [.cells (c27 g),.cells [oP 2 2 c58 v1],.grow (List.length v1) 2,.cells [.bp 0 0],Xv [(3,.bp 1 0),(6,(fz 3))] .ready none] (.tup []) [.cells (c27 g),.cells [oP 2 2 c58 v],.grow (List.length v) 2,.cells [.bp 0 0],Xv [(3,.bp 1 0),(6,(fz 3))] .ready none]:=by
 refine gC Tryz.func276 ?_
 refine gd 0 [re 1] [] [(3,iP 0)] ?_
 refine gMD [3] 1 (λv3=>([],[.cells [oP 2 2 c58 v3],.grow (List.length v3) 2,.cells [.bp 0 0],Xv [(3,.bp 1 0),(6,(fz 3))] .ready none],JF276_1_4 g v3)) v ?_ ?_
 ·rintro v3 u
  refine gMD [] 1 (λv5=>([],[.cells [oP 2 2 c58 v5],.grow (List.length v5) 2,.cells [.bp 0 0],Xv [(3,.bp 1 0),(6,(fz 3))] .ready none],JF276_1_6 g v5)) v ?_ ?_
  ·rintro v5 u
   obtain⟨a4,ah,u⟩:=Xa u
   refine gPL 0 [rk 4 (kL 7 c213 g.fp) 1] 12 ah [] 1 (λ(v7,v8)=>([(166,iP (ln g.fp)),(167,iP v7)],[.cells [oP 2 2 c58 v8],.grow (List.length v8) 2,.cells [.bp 0 0],Xv [(3,.bp 1 0),(6,(fz 3))] .ready none])) ?_
   rintro⟨v7,v8⟩ a3 n az
   rcases cor n with⟨R,n⟩|⟨R,n⟩
   ·obtain⟨aR,aA,ap,aO,n⟩:=bs2 n
    cases n
    exact gj [re 1,bb R,re 2,rs 8 (kX 7 c213 aA::es 1 (⟨_,n_yl (k:=4) (args:=[.agg [iP 5,iP 0,iP 0,iP 0,iP 0,iP 0,iP v7],.ip (c213 aR)]) (F:=[.cells (c27 g),.cells [oP 2 2 c58 v8],.grow (List.length v8) 2,.cells [.bp 0 0],Xv [(3,.bp 1 0),(6,(fz 3))] .ready none]) (Hh:=λd=>[.cells (c27 g),.cells [oP 2 2 c58 ap],.grow (List.length ap) 2,.cells [.bp 0 0],Xv [(3,.bp 1 0),(6,(fz 3))] .ready none]) (Eq.refl false) (Ye (CR127_0_1 aO) (qc (PSub.refl _) (qc (Yo 2) qe)))⟩::es 1 [])),bF,re 2]
   cases n
   obtain rfl:=az _ rfl
   obtain rfl:=soj u
   exact g_rh 5 [re 1,bb R] (.exit 12) λ_ _ k j=>Xh (hn k j)
  obtain⟨a2,Z,u⟩:=Xa u
  refine gPL 0 [rk 4 (kL 22 c75 g.fc) 1] 4 Z [] 1 (λ(q,z)=>([(67,iP (ln g.fc)),(68,iP q)],[.cells [oP 2 2 c58 z],.grow (List.length z) 2,.cells [.bp 0 0],Xv [(3,.bp 1 0),(6,(fz 3))] .ready none])) ?_
  rintro⟨q,z⟩ aS b aP
  rcases cor b with⟨P,b⟩|⟨P,b⟩
  ·refine gd 1 [re 1,bb P] [] [] ?_
   refine gMD [] 1 (λE=>([],[.cells [oP 2 2 c58 E],.grow (List.length E) 2,.cells [.bp 0 0],Xv [(3,.bp 1 0),(6,(fz 3))] .ready none],JF276_1_40 q E)) aS ?_ ?_
   ·rintro E b
    cases b
    exact gj [re 2]
   refine gB 5 ?_
   obtain⟨aI,aK,ak,aJ,al,aN,b⟩:=bs3 b
   obtain⟨aZ,ai,b⟩:=Xa b
   refine gPL 2 [re 2,rs 8 (kX 22 c75 aK::es 1 (⟨_,n_yl (k:=4) (args:=[.agg [iP 3,iP 0,iP 0,iP q,iP 0,iP 0,iP 0],.ip (c75 aI)]) (F:=[.cells (c27 g),.cells [oP 2 2 c58 z],.grow (List.length z) 2,.cells [.bp 0 0],Xv [(3,.bp 1 0),(6,(fz 3))] .ready none]) (Hh:=λd=>[.cells (c27 g),.cells [oP 2 2 c58 ak],.grow (List.length ak) 2,.cells [.bp 0 0],Xv [(3,.bp 1 0),(6,(fz 3))] .ready none]) (Eq.refl false) (Ye (CR127_0_1 aJ) (qc (PSub.refl _) (qc (Yo 2) qe)))⟩::es 1 [])),bF,rs 5 (kX 22 c75 aN::es 2 (kL 2 c95 al.ff::es 1 []))] 6 ai [] 1 (λ(t,V)=>([(6,iP q),(91,iP (ln al.ff)),(92,iP t)],[.cells [oP 2 2 c58 V],.grow (List.length V) 2,.cells [.bp 0 0],Xv [(3,.bp 1 0),(6,(fz 3))] .ready none])) ?_
   rintro⟨t,V⟩ aL f aF
   rcases cor f with⟨T,f⟩|⟨T,f⟩
   ·refine gd 1 [re 1,bb T] [] [] ?_
    refine gMD [] 1 (λC=>([],[.cells [oP 2 2 c58 C],.grow (List.length C) 2,.cells [.bp 0 0],Xv [(3,.bp 1 0),(6,(fz 3))] .ready none],JF276_1_67 t C)) aL ?_ ?_
    ·rintro C f
     cases f
     exact gj [re 2]
    refine gB 7 ?_
    obtain⟨a6,aM,ab,aC,f⟩:=bs2 f
    obtain⟨a0,ad,f⟩:=Xa f
    refine gPL 1 [re 2,rs 5 (kX 22 c75 aM::es 3 (kX 2 c95 aC::es 2 (kL 2 c100 ab.fh::es 1 [])))] 8 ad [] 1 (λ(r,Q)=>([(7,iP t),(107,iP (ln ab.fh)),(108,iP r)],[.cells [oP 2 2 c58 Q],.grow (List.length Q) 2,.cells [.bp 0 0],Xv [(3,.bp 1 0),(6,(fz 3))] .ready none])) ?_
    rintro⟨r,Q⟩ aB e aQ
    rcases cor e with⟨M,e⟩|⟨M,e⟩
    ·refine gd 1 [re 1,bb M] [] [] ?_
     refine gMD [] 1 (λD=>([],[.cells [oP 2 2 c58 D],.grow (List.length D) 2,.cells [.bp 0 0],Xv [(3,.bp 1 0),(6,(fz 3))] .ready none],JF276_1_82 r D)) aB ?_ ?_
     ·rintro D e
      cases e
      exact gj [re 2]
     refine gB 9 ?_
     obtain⟨a9,aE,a5,ay,aq,aD,e⟩:=bs3 e
     obtain⟨a7,av,e⟩:=Xa e
     refine gPL 1 [re 2,rs 5 (kX 22 c75 aE::es 3 (kX 2 c95 ay::es 3 (kX 2 c100 aD::es 2 (kL 13 c147 aq.fg::es 1 []))))] 10 av [] 1 (λ(U,w)=>([(8,iP r),(127,iP (ln aq.fg)),(128,iP U)],[.cells [oP 2 2 c58 w],.grow (List.length w) 2,.cells [.bp 0 0],Xv [(3,.bp 1 0),(6,(fz 3))] .ready none])) ?_
     rintro⟨U,w⟩ a1 i aH
     rcases cor i with⟨S,i⟩|⟨S,i⟩
     ·obtain⟨a8,aG,aU,ae,aY,ao,i⟩:=bs3 i
      obtain⟨W,aj,G,aw,i⟩:=bs2 i
      cases i
      exact gj [re 1,bb S,re 2,rs 11 (kX 22 c75 aG::es 3 (kX 2 c95 ae::es 3 (kX 2 c100 ao::es 3 (kX 13 c147 aj::es 1 (⟨_,n_yl (k:=4) (args:=[.agg [iP 4,iP 0,iP t,iP q,iP r,iP U,iP 0],.ip (c147 W)]) (F:=[.cells (c27 g),.cells [oP 2 2 c58 w],.grow (List.length w) 2,.cells [.bp 0 0],Xv [(3,.bp 1 0),(6,(fz 3))] .ready none]) (Hh:=λd=>[.cells (c27 g),.cells [oP 2 2 c58 G],.grow (List.length G) 2,.cells [.bp 0 0],Xv [(3,.bp 1 0),(6,(fz 3))] .ready none]) (Eq.refl false) (Ye (CR127_0_1 aw) (qc (PSub.refl _) (qc (Yo 2) qe)))⟩::es 1 []))))),bF,re 2]
     cases i
     obtain rfl:=aH _ rfl
     exact ge 10 [re 1,bb S] λ_ A=>Xh ⟨_,e,A⟩
    cases e
    obtain rfl:=aQ _ rfl
    exact ge 8 [re 1,bb M] λ_ A=>Xh ⟨_,f,A⟩
   cases f
   obtain rfl:=aF _ rfl
   exact ge 6 [re 1,bb T] λ_ A=>Xh ⟨_,b,A⟩
  cases b
  obtain rfl:=aP _ rfl
  exact ge 4 [re 1,bb P] λ_ A=>Xh ⟨_,u,A⟩
 obtain⟨aT,O,u⟩:=Xa u
 refine gPL 0 [rk 4 (kL 6 c68 g.fi) 1] 0 O [] 1 (λ(K,m,l)=>([(3,iP K),(15,iP (ln g.fi)),(16,iP m)],[.cells [oP 2 2 c58 l],.grow (List.length l) 2,.cells [.bp 0 0],Xv [(3,.bp 1 0),(6,(fz 3))] .ready none])) ?_
 rintro⟨K,m,l⟩ ax a au
 rcases cor a with⟨s,a⟩|⟨s,a⟩
 ·refine gd 1 [re 1,bb s] [] [] ?_
  refine gMD [] 1 (λ(x:Int×(List G58))=>match x with|(y,o)=>([(3,iP y)],[.cells [oP 2 2 c58 o],.grow (List.length o) 2,.cells [.bp 0 0],Xv [(3,.bp 1 0),(6,(fz 3))] .ready none],JF276_1_130 m y o)) ax ?_ ?_
  ·rintro⟨y,o⟩ a
   cases a
   exact gj [re 2]
  refine gB 1 ?_
  obtain⟨aa,af,I,an,J,ac,a⟩:=bs3 a
  obtain⟨aX,N,a⟩:=Xa a
  refine gPL 2 [re 2,rs 8 (kX 6 c68 af::es 1 (⟨_,n_yl (k:=4) (args:=[.agg [iP 1,iP m,iP 0,iP 0,iP 0,iP 0,iP 0],.ip (c68 aa)]) (F:=[.cells (c27 g),.cells [oP 2 2 c58 l],.grow (List.length l) 2,.cells [.bp 0 0],Xv [(3,.bp 1 0),(6,(fz 3))] .ready none]) (Hh:=λd=>[.cells (c27 g),.cells [oP 2 2 c58 I],.grow (List.length I) 2,.cells [.bp 0 0],Xv [(3,.bp 1 0),(6,(fz 3))] .ready none]) (Eq.refl false) (Ye (CR127_0_1 an) (qc (PSub.refl _) (qc (Yo 2) qe)))⟩::es 1 [])),bF,rs 5 (kX 6 c68 ac::es 2 (kL 3 c184 J.fx::es 1 []))] 2 N [] 1 (λ(p,L,h)=>([(3,iP p),(4,iP m),(39,iP (ln J.fx)),(40,iP L)],[.cells [oP 2 2 c58 h],.grow (List.length h) 2,.cells [.bp 0 0],Xv [(3,.bp 1 0),(6,(fz 3))] .ready none])) ?_
  rintro⟨p,L,h⟩ aW c ar
  rcases cor c with⟨B,c⟩|⟨B,c⟩
  ·obtain⟨aV,Y,am,X,H,ag,c⟩:=bs3 c
   cases c
   exact gj [re 1,bb B,re 2,rs 8 (kX 6 c68 Y::es 3 (kX 3 c184 X::es 1 (⟨_,n_yl (k:=4) (args:=[.agg [iP 2,iP 0,iP p,iP 0,iP 0,iP 0,iP 0],.ip (c184 am)]) (F:=[.cells (c27 g),.cells [oP 2 2 c58 h],.grow (List.length h) 2,.cells [.bp 0 0],Xv [(3,.bp 1 0),(6,(fz 3))] .ready none]) (Hh:=λd=>[.cells (c27 g),.cells [oP 2 2 c58 H],.grow (List.length H) 2,.cells [.bp 0 0],Xv [(3,.bp 1 0),(6,(fz 3))] .ready none]) (Eq.refl false) (Ye (CR127_0_1 ag) (qc (PSub.refl _) (qc (Yo 2) qe)))⟩::es 1 []))),bF,re 3,re 2]
  cases c
  obtain rfl:=ar _ rfl
  exact ge 2 [re 1,bb B] λ_ A=>Xh ⟨(p,h),a,A⟩
 cases a
 obtain rfl:=au _ rfl
 exact ge 0 [re 1,bb s] λ_ A=>Xh ⟨_,u,A⟩
theorem CF127 {a d} (f:F127 a=some d):A0 127 [.agg (c27 a)] (eS 2 c58 d):=by
 refine g_callI mixed ok127 ?_
 refine gPW 1 [re 2,re 1] [(1,.bp 0 0),(3,.bp 1 0)] [.cells (c27 a),.cells [eS 2 c58 Sl.nil]] [(1,.bp 0 0),(3,.bp 1 0)] [.cells (c27 a),.cells [oP 2 2 c58 ([]:List G58)],.grow (List.length ([]:List G58)) 2] ((WeakS.refl _ _ _).trans ((Uj 2).trans (weak_blk (cs':=[oP 2 2 c58 ([]:List G58)]) 1 rfl (qc Uk qe)))) ?_
 refine gMq (λb=>([(3,.bp 1 0)],[.cells (c27 a),.cells [oP 2 2 c58 b],.grow (List.length b) 2],JF127_2 b)) d ?_ ?_
 ·rintro b f
  refine Yp [re 2] .ret [(2,oP 2 2 c58 b)] [.cells (c27 a),.cells [oP 2 2 c58 b],.grow (List.length b) 2] (λe i=>?_)
  obtain rfl:=soj f
  exact Zf (r:=(oP 2 2 c58 b)) (.inr rfl) i (by kernel_rfl) (We cl58) ⟨rfl,rfl⟩
 refine gP 0 [.r (⟨.st (.call (.c (fk 204)) [.c (.bp 0 0)]) [.cells (c27 a),.cells [oP 2 2 c58 ([]:List G58)],.grow (List.length ([]:List G58)) 2] (fz 3) [.cells (c27 a),.cells [oP 2 2 c58 ([]:List G58)],.grow (List.length ([]:List G58)) 2,.cells [.bp 0 0]] 0,visitN⟩::[]) []] [(3,.bp 1 0),(6,(fz 3))] [.cells (c27 a),.cells [oP 2 2 c58 ([]:List G58)],.grow (List.length ([]:List G58)) 2,.cells [.bp 0 0]] ?_
 refine gB 0 ?_
 obtain⟨g,h,f⟩:=Xa f
 refine g_range [] [.bp 3 0] .normal [.cells (c27 a),.cells [oP 2 2 c58 g],.grow (List.length g) 2,.cells [.bp 0 0],Xv [(3,.bp 1 0),(6,(fz 3))] .exhausted none] (CF276_1 h) ?_
 exact⟨_,f,(wm (le':=[(3,.bp 1 0)])).trans (weak_cutI 3)⟩
theorem CF128 {e c} (a:F128 e=some c):A0 128 [.agg (c58 e)] (bP c):=by
 refine gC Tryz.func128 ?_
 obtain⟨h,d,a⟩:=Xa a
 rcases cor a with⟨b,a⟩|⟨b,a⟩
 ·obtain⟨g,f,a⟩:=Xa a
  obtain rfl:=soj a
  exact gE [re 2,rs 2 (kC (Xz d)::es 1 (rQ 2 b (bq b::kC (Xz f)::kT g false b::es 1 [])))]
 obtain rfl:=soj a
 exact gE [re 2,rs 2 (kC (Xz d)::es 1 (rP 3 b (kV b::es 1 [])))]
theorem CF129 {e j d} (f:F129 e j=some d):A0 129 [.agg (c27 e),iP j] (iP d):=by
 refine gC Tryz.func129 ?_
 refine gD 0 [re 2] [0] [(2,.bp 0 0)] 0 [.cells (c27 e)] ?_
 refine gMq (λ(_:Unit)=>([],[],JF129_2)) d ?_ ?_
 ·rintro⟨⟩ f
  obtain rfl:=soj f
  exact gE [re 1]
 obtain⟨n,h,f⟩:=Xa f
 refine gPl 0 [rk 2 (kL 2 c58 e.fG) 1] 0 h [2] (λk=>[(8,eS 2 c58 e.fG),(9,iP (ln e.fG)),(10,iP k)]) ?_
 rintro k o a i
 rcases cor a with⟨b,a⟩|⟨b,a⟩
 ·obtain⟨m,g,a⟩:=Xa a
  rcases cor a with⟨c,a⟩|⟨c,a⟩
  ·cases a
   obtain rfl:=i _ rfl
   obtain rfl:=soj f
   exact gE [re 1,bb b,.r (kX 2 c58 g::es 3 []) [],re 4,bb c,re 3]
  cases a
  exact gk 1 [re 1,bb b,.r (kX 2 c58 g::es 3 []) [],re 4,bb c,re 2]
 cases a
 obtain rfl:=i _ rfl
 exact gke 0 0 [re 1,bb b] λ_ _ l=>Xh ⟨(),f,l⟩
theorem CF61_1 {p A Y q} (n:F61_1 p A Y=some q):A1 61 [.bp 0 0] (hC p A Y) (.tup []) (hC p A q):=by
 refine gC Tryz.func61 ?_
 refine gD 0 [re 2] [] [(2,.mp 2)] 2 [gmB kv58 bP (⟨[],[],0⟩)] ?_
 refine gMD [2] 0 (λL=>([],hC p A L,JF61_1_5 p A L)) q ?_ ?_
 ·rintro L n
  refine gd 0 [re 1] [] [(5,bP false)] ?_
  refine gMd [] (λM=>([(5,bP M)],JF61_1_7 p A L M)) q ?_ ?_
  ·rintro M n
   obtain⟨Z,T,n⟩:=Xa n
   obtain rfl:=soj n
   exact gHn 2 [rk 3 (kK [0,1] [] 0 0 (CF123_2 T)) 0]
  obtain⟨ag,E,n⟩:=Xa n
  refine gPl 0 [rk 5 (kL 2 c58 p.fG) 1] 2 E [] (λ(I,J)=>[(5,bP I),(49,eS 2 c58 p.fG),(50,iP (ln p.fG)),(51,iP J)]) ?_
  rintro⟨I,J⟩ ah b O
  rcases cor b with⟨m,b⟩|⟨m,b⟩
  ·obtain⟨F,s,b⟩:=Xa b
   rcases cor b with⟨d,b⟩|⟨d,b⟩
   ·cases b
    exact gk 2 [re 1,bb m,rk 1 (kX 2 c58 s) 4,.r (es 2 (rP 3 d (kU d::es 1 (rp 3 bqT [])))) (bqT::es 2 []),re 2]
   obtain⟨w,u,b⟩:=Xa b
   rcases cor b with⟨g,b⟩|⟨g,b⟩
   ·cases b
    exact gk 2 [re 1,bb m,rk 1 (kX 2 c58 s) 4,.r (es 2 (bq d::es 1 (bq d::kC (CF128 u)::bq d::es 1 (kF true (!w) d::es 1 (rP 3 g []))))) (bq g::kU g::es 1 []),re 2]
   rcases cor b with⟨h,b⟩|⟨h,b⟩
   ·obtain⟨C,Q,b⟩:=Xa b
    cases b
    exact gk 2 [re 1,bb m,rk 1 (kX 2 c58 s) 4,.r (es 2 (bq d::es 1 (bq d::kC (CF128 u)::bq d::es 1 (kF true (!w) d::es 1 (rQ 3 g (rQ 9 h (bq h::kX 2 c58 Q::rQ 2 h []))))))) (bq h::es 1 (bq g::kT (decide (F.fM<=C.fM)) false h::kF true (decide (F.fM<=C.fM)) g::es 1 [])),re 2]
   cases b
   exact gk 2 [re 1,bb m,rk 1 (kX 2 c58 s) 4,.r (es 2 (bq d::es 1 (bq d::kC (CF128 u)::bq d::es 1 (kF true (!w) d::es 1 (rQ 3 g (rP 12 h [])))))) (bq h::bq g::kV h::kF true false g::es 1 []),re 2]
  cases b
  obtain rfl:=O _ rfl
  exact ge 2 [re 1,bb m] λ_ W=>Xh ⟨_,n,W⟩
 obtain⟨z,X,n⟩:=Xa n
 obtain⟨aa,G,n⟩:=Xa n
 refine gPL 0 [rs 4 (kC (CF127 X)::kL 2 c58 z::es 1 [])] 0 G [] 0 (λ(K,H,f)=>([(13,eS 2 c58 z),(14,iP (ln z)),(15,iP K)],(hC p A H++[gmB kv58 bP f]))) ?_
 rintro⟨K,H,f⟩ ab a U
 rcases cor a with⟨o,a⟩|⟨o,a⟩
 ·obtain⟨e,B,ac,y,a⟩:=bs2 a
  rcases cor a with⟨j,a⟩|⟨j,a⟩
  ·obtain⟨ae,V,a⟩:=Xa a
   cases a
   exact gk 3 [re 1,bb o,.r (kX 2 c58 B::es 3 []) [],.r (es 2 (kC (CF128 y)::es 2 (rP 3 j (kU j::es 1 (rp 10 bqT (es 2 [])))))) (kK [0,1] [] 0 0 (Yd V)::[]),rk 2 ⟨.fr (.mapUp [.i,.i] true (.c (.mp 2)) (.c (.agg (c58 e))) (.c (bP true))) [2] [gmB kv58 bP f] [gmB kv58 bP (gmPut keq58 f e true)] (.tup []),fr_mapUp (kv:=kv58) (pv:=λx=>PV.sc (.bool x)) (k:=e) (v:=true) rfl rfl ⟨rfl,rfl⟩ (λ_ _=>rfl)⟩ 0,re 2]
  obtain⟨t,D,a⟩:=Xa a
  rcases cor a with⟨l,a⟩|⟨l,a⟩
  ·obtain⟨af,N,a⟩:=Xa a
   cases a
   exact gk 3 [re 1,bb o,.r (kX 2 c58 B::es 3 []) [],.r (es 2 (kC (CF128 y)::es 2 (rQ 2 j (bq j::⟨.fd (.lookup [.i,.i] true (bP false) (.c (.mp 2)) (.c (.agg (c58 e))) false) [2] [gmB kv58 bP f] (bP t),fd_lookup (kv:=kv58) (pv:=λx=>PV.sc (.bool x)) D rfl rfl ⟨rfl,rfl⟩ (λ_ _=>rfl)⟩::kF true t j::es 1 (rP 10 l (kU l::es 1 [])))))) (kK [0,1] [] 0 0 (Yd N)::[]),rk 2 ⟨.fr (.mapUp [.i,.i] true (.c (.mp 2)) (.c (.agg (c58 e))) (.c (bP true))) [2] [gmB kv58 bP f] [gmB kv58 bP (gmPut keq58 f e true)] (.tup []),fr_mapUp (kv:=kv58) (pv:=λx=>PV.sc (.bool x)) (k:=e) (v:=true) rfl rfl ⟨rfl,rfl⟩ (λ_ _=>rfl)⟩ 0,re 2]
  obtain⟨S,P,ad,R,a⟩:=bs2 a
  cases a
  exact gk 3 [re 1,bb o,.r (kX 2 c58 B::es 3 []) [],.r (es 2 (kC (CF128 y)::es 2 (rQ 2 j (bq j::⟨.fd (.lookup [.i,.i] true (bP false) (.c (.mp 2)) (.c (.agg (c58 e))) false) [2] [gmB kv58 bP f] (bP t),fd_lookup (kv:=kv58) (pv:=λx=>PV.sc (.bool x)) D rfl rfl ⟨rfl,rfl⟩ (λ_ _=>rfl)⟩::kF true t j::es 1 (rQ 8 l (bq l::kC (CF129 P)::bq l::es 1 (kF true (decide (e.fU>S)) l::es 1 []))))))) (kK [0,1] [] 0 0 (Yd R)::[]),rk 2 ⟨.fr (.mapUp [.i,.i] true (.c (.mp 2)) (.c (.agg (c58 e))) (.c (bP true))) [2] [gmB kv58 bP f] [gmB kv58 bP (gmPut keq58 f e true)] (.tup []),fr_mapUp (kv:=kv58) (pv:=λx=>PV.sc (.bool x)) (k:=e) (v:=true) rfl rfl ⟨rfl,rfl⟩ (λ_ _=>rfl)⟩ 0,re 2]
 cases a
 obtain rfl:=U _ rfl
 exact gke 2 0 [re 1,bb o] λ_ _ W=>Xh ⟨_,n,W⟩
theorem CF130 {d b} (e:F130 d=some b):A0 130 [.agg (c27 d)] (iP b):=by
 refine gC Tryz.func130 ?_
 refine gP 1 [re 2,re 1] [(1,.bp 0 0),(3,iP 0)] [.cells (c27 d)] ?_
 refine gMq (λi=>([(3,iP i)],[],JF130_2 i)) b ?_ ?_
 ·rintro i e
  obtain rfl:=soj e
  exact gE [re 2]
 obtain⟨n,h,e⟩:=Xa e
 refine gPl 0 [rk 2 (kL 6 c68 d.fi) 1] 0 h [1] (λ(j,k)=>[(3,iP j),(7,eS 6 c68 d.fi),(8,iP (ln d.fi)),(9,iP k)]) ?_
 rintro⟨j,k⟩ o a l
 rcases cor a with⟨c,a⟩|⟨c,a⟩
 ·obtain⟨g,f,a⟩:=Xa a
  cases a
  exact gk 1 [re 1,bb c,.r (kX 6 c68 f::es 3 []) [],rk 3 (kL 3 c184 g.fx) 2,re 2]
 cases a
 obtain rfl:=l _ rfl
 exact gke 0 0 [re 1,bb c] λ_ _ m=>Xh ⟨_,e,m⟩
theorem CF132_1 {H m A o} (x:F132_1 H m A=some o):A1 132 [iP H,.agg (c75 m),.bp 0 0] [.cells [iP A]] (bP o) [.cells [iP A]]:=by
 refine gC Tryz.func132 ?_
 refine gD 1 [re 2,rk 2 (kL 2 c95 m.ff) 3] [0,1,2] [(4,.bp 1 0),(6,bP ((ln m.ff) !=A))] 1 [.cells (c75 m)] ?_
 refine gMD [4] 1 (λE=>([(6,bP E)],[],JF132_1_4 E)) o ?_ ?_
 ·rintro E x
  obtain rfl:=soj x
  exact gH 1 [re 2]
 obtain⟨M,G,x⟩:=Xa x
 refine gPl 0 [rk 2 (kL 2 c95 m.ff) 1] 0 G [4] (λ(J,z)=>[(6,bP J),(18,eS 2 c95 m.ff),(19,iP (ln m.ff)),(20,iP z)]) ?_
 rintro⟨J,z⟩ I a D
 rcases cor a with⟨p,a⟩|⟨p,a⟩
 ·refine gd 1 [re 1,bb p] [] [] ?_
  refine gMd [] (λn=>([(6,bP n)],JF132_1_15 z n)) I ?_ ?_
  ·rintro n a
   cases a
   exact gj [re 2]
  refine gB 1 ?_
  obtain⟨f,F,a⟩:=Xa a
  refine gD 1 [.r (kX 2 c95 F::es 3 []) [],re 3] [] [(9,eS 2 c100 f.fh)] 2 [.cells (c95 f)] ?_
  refine gMD [] 2 (λq=>([(6,bP q)],[],Vl f z q)) I ?_ ?_
  ·rintro q a
   obtain⟨K,w,a⟩:=Xa a
   refine gPl 0 [rk 1 (kL 2 c100 f.fh) 1] 2 w [9] (λ(t,y)=>[(6,bP t),(51,eS 2 c100 f.fh),(52,iP (ln f.fh)),(53,iP y)]) ?_
   rintro⟨t,y⟩ L b C
   rcases cor b with⟨i,b⟩|⟨i,b⟩
   ·obtain⟨j,s,b⟩:=Xa b
    rcases cor b with⟨e,b⟩|⟨e,b⟩
    ·cases b
     exact gk 2 [re 1,bb i,.r (kX 2 c100 s::es 3 []) [],rs 2 (rP 6 e (kU e::es 1 [])),re 2]
    rcases cor b with⟨h,b⟩|⟨h,b⟩
    ·cases b
     exact gk 2 [re 1,bb i,.r (kX 2 c100 s::es 3 []) [],rs 2 (rQ 2 e (bq e::kL 13 c147 j.fg::rQ 2 e (rQ 2 h (bq h::kL 4 c425 j.fY::bq h::es 1 (bq e::kT (decide ((ln j.fY)>0)) false h::kF true (decide ((ln j.fY)>0)) e::es 1 []))))),re 2]
    cases b
    exact gk 2 [re 1,bb i,.r (kX 2 c100 s::es 3 []) [],rs 2 (rQ 2 e (bq e::kL 13 c147 j.fg::rQ 2 e (rP 4 h (bq e::kV h::kF true false e::es 1 [])))),re 2]
   cases b
   obtain rfl:=C _ rfl
   exact ge 2 [re 1,bb i] λ_ k=>Xh ⟨_,a,k⟩
  rcases cor a with⟨c,a⟩|⟨c,a⟩
  ·exact gk 2 [rs 2 (rP 3 c (kU c::es 1 (rp 6 bqT (es 2 (rp 9 bqT (es 2 []))))))] λ_ _ k=>⟨true,a,k⟩
  rcases cor a with⟨d,a⟩|⟨d,a⟩
  ·exact gk 2 [rs 2 (bq c::es 1 (bq c::kL 2 c100 f.fh::bq c::es 1 (kF true ((ln f.fh)==0) c::es 1 (rP 6 d (kU d::es 1 (rp 9 bqT (es 2 [])))))))] λ_ _ k=>⟨true,a,k⟩
  obtain⟨l,v,a⟩:=Xa a
  rcases cor a with⟨g,a⟩|⟨g,a⟩
  ·exact gk 2 [rs 2 (bq c::es 1 (bq c::kL 2 c100 f.fh::bq c::es 1 (kF true ((ln f.fh)==0) c::es 1 (bq d::es 1 (bq d::kX 2 c100 v::rQ 2 d (bq d::kL 13 c147 l.fg::bq d::es 1 (kF true ((ln l.fg)==0) d::es 1 (rP 9 g (kU g::es 1 [])))))))))] λ_ _ k=>⟨true,a,k⟩
  obtain⟨u,B,a⟩:=Xa a
  exact gk 2 [rs 2 (bq c::es 1 (bq c::kL 2 c100 f.fh::bq c::es 1 (kF true ((ln f.fh)==0) c::es 1 (bq d::es 1 (bq d::kX 2 c100 v::rQ 2 d (bq d::kL 13 c147 l.fg::bq d::es 1 (kF true ((ln l.fg)==0) d::es 1 (rQ 2 g (bq g::kL 2 c100 f.fh::bq g::es 1 (bq g::kX 2 c100 B::rQ 2 g (bq g::kL 13 c147 u.fg::bq g::es 1 (kF true ((ln u.fg)==0) g::es 1 []))))))))))))] λ_ _ k=>⟨_,a,k⟩
 cases a
 obtain rfl:=D _ rfl
 exact gke 1 0 [re 1,bb p] λ_ _ k=>Xh ⟨_,x,k⟩
theorem CF131_1 {c e p f d} (m:F131_1 c e p f=some d):A1 131 [.bp 0 0,(.fn (.func 132) [] [.bp 2 0])] (hC c e p++[.cells [iP f]]) (.tup []) (hC c e d++[.cells [iP f]]):=by
 refine gC Tryz.func131 ?_
 obtain⟨v,l,m⟩:=Xa m
 refine gPL 0 [rk 5 (kL 22 c75 c.fc) 1] 0 l [] 0 (λ(q,o)=>([(10,eS 22 c75 c.fc),(11,iP (ln c.fc)),(12,iP q)],hC c e o++[.cells [iP f]])) ?_
 rintro⟨q,o⟩ w a n
 rcases cor a with⟨b,a⟩|⟨b,a⟩
 ·obtain⟨t,g,u,h,s,i,a⟩:=bs3 a
  cases a
  exact gk 3 [re 1,bb b,rk 1 (kX 22 c75 g) 4,.r (es 4 (kQ [2] [] 0 1 (CF132_1 h)::es 2 [])) (kK [0,1] [] 0 0 (Yd i)::[]),re 2]
 cases a
 obtain rfl:=n _ rfl
 obtain rfl:=soj m
 exact g_rh 3 [re 1,bb b] (.exit 0) λ_ _ k j=>Xh (hn k j)
theorem CF62_1 {d b f a} (e:F62_1 d b f=some a):A1 62 [.bp 0 0] (hC d b f) (.tup []) (hC d b a):=by
 refine gC Tryz.func62 ?_
 obtain⟨i,h,g,c,e⟩:=bs2 e
 obtain rfl:=soj e
 exact gHn 2 [rk 4 (kC (CF130 h)) 2,rk 2 (kK [0,1,2] [] 0 0 (CF131_1 c)) 0]
theorem CF277 {a} (b:F277=some a):A0 277 [] (.agg (c385 a)):=by
 refine gC Tryz.func277 ?_
 obtain rfl:=soj b
 exact gE [re 1,re 11]
theorem CF205 {e b} (a:F205 e=some b):A0 205 [iP e] (.tup [.agg (c326 b.1),iP b.2]):=by
 refine gC Tryz.func205 ?_
 refine gD 0 [re 2] [] [(2,.bp 0 0)] 0 [.cells [sP (ByteArray.mk #[]),.sc (.int .u8 0),iP 0,iP 0,iP 0,iP 0,iP 0]] ?_
 refine gS ?_
 refine gMd [] (λg=>([(9,bP g)],JF205_2 e g)) b ?_ ?_
 ·rintro g a
  rcases cor a with⟨h,a⟩|⟨h,a⟩
  ·obtain rfl:=soj a
   exact gE [bb h,re 3]
  refine gNd [bb h] [9] [] ?_
  obtain⟨l,k,i,j,a⟩:=bs2 a
  obtain rfl:=soj a
  exact gE [.r (kC (CF277 k)::es 2 (⟨.pu (.idxA 7 9 (some 7) (.c (.agg (c385 l))) (.c (iP (wi (e-(1)))))) (.agg (c326 i)),(n_idxA (c:=c326) j (λ_=>rfl) rfl)⟩::es 2 [])) []]
 rcases cor a with⟨d,a⟩|⟨d,a⟩
 ·exact gj [rs 3 (rP 2 d (kU d::[]))] λ_ f=>⟨true,a,f⟩
 exact gj [rs 3 (rQ 2 d (kF true (decide (e>9)) d::[]))] λ_ f=>⟨_,a,f⟩
theorem CF133 {c a} (b:F133 c=some a):A0 133 [iP c] (iP a):=by
 refine gC Tryz.func133 ?_
 obtain⟨e,d,b⟩:=Xa b
 obtain rfl:=soj b
 exact gE [re 1,rk 1 (kC (CF205 d)) 6,re 2]
theorem CF172 {t o} (g:F172 t=some o):A0 172 [.agg (c71 t)] (bP o):=by
 refine gC Tryz.func172 ?_
 rcases cor g with⟨B,g⟩|⟨B,g⟩
 ·obtain rfl:=soj g
  exact gE [re 2,re 4,bb B,re 1]
 refine gP 2 [re 2,re 4,bb B,re 2] [(1,.bp 0 0),(3,iP 0),(4,iP 0)] [.cells (c71 t)] ?_
 refine gMd [] (λ(x:Int×Int)=>match x with|(A,z)=>([(3,iP A),(4,iP z)],JF172_4 t A z)) o ?_ ?_
 ·rintro⟨A,z⟩ g
  rcases cor g with⟨v,g⟩|⟨v,g⟩
  ·obtain rfl:=soj g
   exact gE [rs 5 (rQ 2 v (kT (decide (z>=2)) false v::es 1 []))]
  obtain rfl:=soj g
  exact gE [rs 5 (rP 2 v (kV v::es 1 []))]
 obtain⟨D,y,g⟩:=Xa g
 refine gPl 0 [re 3] 0 y [] (λ(s,k,l)=>[(3,iP s),(4,iP k),(12,.agg (c69 t.fV)),(13,iP l)]) ?_
 rintro⟨s,k,l⟩ w a u
 rcases cor a with⟨r,a⟩|⟨r,a⟩
 ·refine gd 1 [re 1,bb r] [] [] ?_
  refine gMd [] (λ(x:Int×Int)=>match x with|(p,q)=>([(3,iP p),(4,iP q)],JF172_19 l p q)) w ?_ ?_
  ·rintro⟨p,q⟩ a
   cases a
   exact gj [re 2]
  refine gB 1 ?_
  obtain⟨e,C,a⟩:=Xa a
  refine gd 0 [rk 1 ⟨.pu (.idxA 1 6 none (.c (.agg (c69 t.fV))) (.c (iP l))) (iP e),(n_idxA1 (f:=λx=>(iP x)) C rfl)⟩ 2] [] [(5,iP l),(6,iP e)] ?_
  refine gB 2 ?_
  refine gMd [5] (λm=>([(17,bP m)],JF172_23 e l s k m)) w ?_ ?_
  ·rintro m a
   rcases cor a with⟨j,a⟩|⟨j,a⟩
   ·cases a
    obtain rfl:=u _ rfl
    obtain rfl:=soj g
    exact gE [bb j,re 1]
   rcases cor a with⟨n,a⟩|⟨n,a⟩
   ·exact gj [bb j,re 3,bb n,re 7] λ_ h=>⟨((wi (s+e)),wi (k+1)),a,h⟩
   exact gj [bb j,re 3,bb n] λ_ h=>⟨(s,k),a,h⟩
  rcases cor a with⟨d,a⟩|⟨d,a⟩
  ·exact gj [rs 3 (rP 2 d (kU d::es 1 (rp 4 bqT (es 2 []))))] λ_ h=>⟨true,a,h⟩
  rcases cor a with⟨b,a⟩|⟨b,a⟩
  ·exact gj [rs 3 (rQ 2 d (kF true (decide (e>64)) d::es 1 (rP 4 b (kU b::es 1 []))))] λ_ h=>⟨true,a,h⟩
  rcases cor a with⟨i,a⟩|⟨i,a⟩
  ·exact gj [rs 3 (rQ 2 d (kF true (decide (e>64)) d::es 1 (rQ 3 b (rQ 3 i (bq b::kT (l !=k) false i::kF true (l !=k) b::es 1 [])))))] λ_ h=>⟨_,a,h⟩
  exact gj [rs 3 (rQ 2 d (kF true (decide (e>64)) d::es 1 (rQ 3 b (rP 3 i (bq b::kV i::kF true false b::es 1 [])))))] λ_ h=>⟨false,a,h⟩
 cases a
 obtain rfl:=u _ rfl
 exact ge 0 [re 1,bb r] λ_ h=>Xh ⟨(s,k),g,h⟩
theorem CF83 {e g} (a:F83 e=some g):A0 83 [.agg (c71 e)] (iP g):=by
 refine gC Tryz.func83 ?_
 refine gP 0 [re 2] [(1,.bp 0 0)] [.cells (c71 e)] ?_
 refine gS ?_
 refine gB 0 ?_
 refine gMd [] (λi=>([(3,bP i)],JF83_2 e i)) g ?_ ?_
 ·rintro i a
  refine gK i (λl=>?_) (λl=>?_)
  ·replace a:=cond_t l a
   obtain rfl:=soj a
   exact gE [re 1]
  replace a:=cond_f l a
  refine gMd [3] (λk=>([(12,bP k)],JF83_5 e k)) g ?_ ?_
  ·rintro k a
   rcases cor a with⟨h,a⟩|⟨h,a⟩
   ·obtain rfl:=soj a
    exact gE [bb h,re 1]
   obtain⟨n,m,a⟩:=Xa a
   rcases cor a with⟨j,a⟩|⟨j,a⟩
   ·obtain rfl:=soj a
    exact gE [bb h,rk 1 (kC (CF172 m)) 2,bb j,re 1]
   refine gNd [bb h,rk 1 (kC (CF172 m)) 2,bb j] [1,12] [] ?_
   obtain rfl:=soj a
   exact gE [re 1]
  rcases cor a with⟨b,a⟩|⟨b,a⟩
  ·exact gj [rs 4 (rP 3 b (kU b::es 1 (rp 7 bqT (es 2 []))))] λ_ f=>⟨true,a,f⟩
  rcases cor a with⟨d,a⟩|⟨d,a⟩
  ·exact gj [rs 4 (rQ 3 b (kF true (decide (e.fJ>64)) b::es 1 (rP 7 d (kU d::es 1 []))))] λ_ f=>⟨true,a,f⟩
  exact gj [rs 4 (rQ 3 b (kF true (decide (e.fJ>64)) b::es 1 (rQ 7 d (kF true ((iand .i64 e.fJ (wi (e.fJ-(1)))) !=0) d::es 1 []))))] λ_ f=>⟨_,a,f⟩
 rcases cor a with⟨c,a⟩|⟨c,a⟩
 ·exact gj [rs 4 (rP 3 c (kU c::es 1 []))] λ_ f=>⟨true,a,f⟩
 exact gj [rs 4 (rQ 3 c (kF true (decide (e.fI>64)) c::es 1 []))] λ_ f=>⟨_,a,f⟩
theorem CF305 {b a} (d:F305 b=some a):A0 305 [.agg (c71 b)] (iP a):=by
 refine gC Tryz.func305 ?_
 obtain⟨e,f,d⟩:=Xa d
 obtain rfl:=soj d
 exact gE [re 2,rk 2 ⟨.pu (.bin .quo (.c (iP 1935360)) (.c (iP b.fJ))) (iP e),n_quo f⟩ 1]
theorem CF256 {c a} (b:F256 c=some a):A0 256 [.agg (c71 c)] (iP a):=by
 refine gC Tryz.func256 ?_
 obtain⟨e,d,b⟩:=Xa b
 obtain rfl:=soj b
 exact gE [re 2,.r (es 3 (kC (CF305 d)::[])) (es 2 [])]
theorem CF187 {e b} (a:F187 e=some b):A0 187 [.agg (c71 e)] (.tup [iP b.1,iP b.2]):=by
 refine gC Tryz.func187 ?_
 obtain⟨g,d,a⟩:=Xa a
 rcases cor a with⟨c,a⟩|⟨c,a⟩
 ·obtain rfl:=soj a
  exact gE [re 3,rk 1 (kC (CF83 d)) 1,re 2,bb c,re 3]
 obtain⟨h,f,a⟩:=Xa a
 obtain rfl:=soj a
 exact gE [re 3,rk 1 (kC (CF83 d)) 1,re 2,bb c,rk 1 (kC (CF256 f)) 2]
theorem CF99 {j b} (a:F99 j=some b):A0 99 [.agg (c75 j)] (.tup [iP b.1,iP b.2]):=by
 refine gC Tryz.func99 ?_
 obtain⟨k,l,a⟩:=Xa a
 refine gP 1 [re 3,rk 2 (kC (CF187 l)) 5] [(1,.bp 0 0),(4,iP k.1),(5,iP k.2)] [.cells (c75 j)] ?_
 refine gMq (λh=>([(4,iP h)],[],JF99_4 h)) b ?_ ?_
 ·rintro h a
  rcases cor a with⟨e,a⟩|⟨e,a⟩
  ·obtain rfl:=soj a
   exact gE [re 4,bb e,re 2]
  rcases cor a with⟨f,a⟩|⟨f,a⟩
  ·obtain rfl:=soj a
   exact gE [re 4,bb e,re 3,bb f,re 2]
  obtain rfl:=soj a
  exact gE [re 4,bb e,re 3,bb f,re 3]
 rcases cor a with⟨c,a⟩|⟨c,a⟩
 ·obtain rfl:=soj a
  exact gE [re 3,bb c,re 3]
 rcases cor a with⟨d,a⟩|⟨d,a⟩
 ·obtain rfl:=soj a
  exact gE [re 3,bb c,re 4,bb d,re 2]
 rcases cor a with⟨g,a⟩|⟨g,a⟩
 ·exact gk 0 [re 3,bb c,re 4,bb d,re 4,bb g,re 3] λ_ _ i=>⟨_,a,i⟩
 exact gk 0 [re 3,bb c,re 4,bb d,re 4,bb g] λ_ _ i=>⟨_,a,i⟩
theorem CF134 {J s n} (i:F134 J s=some n):A0 134 [iP J,.agg (c75 s)] (bP n):=by
 refine gC Tryz.func134 ?_
 obtain⟨A,O,i⟩:=Xa i
 refine gP 2 [re 2,rk 1 (kC (CF99 O)) 5,re 1] [(3,.bp 0 0),(5,iP A.1),(6,iP A.2),(7,bP false)] [.cells (c75 s)] ?_
 refine gMD [3,5] 0 (λC=>([(7,bP C)],[],JF134_5 A C)) n ?_ ?_
 ·rintro C i
  rcases cor i with⟨x,i⟩|⟨x,i⟩
  ·obtain rfl:=soj i
   exact gE [rs 2 (rQ 2 x (kT (A.2==0) false x::es 1 []))]
  obtain rfl:=soj i
  exact gE [rs 2 (rP 2 x (kV x::es 1 []))]
 obtain⟨M,y,i⟩:=Xa i
 refine gPl 0 [rk 2 (kL 2 c95 s.ff) 1] 0 y [3] (λ(K,G)=>[(7,bP K),(18,eS 2 c95 s.ff),(19,iP (ln s.ff)),(20,iP G)]) ?_
 rintro⟨K,G⟩ F d D
 rcases cor d with⟨o,d⟩|⟨o,d⟩
 ·refine gd 1 [re 1,bb o] [] [] ?_
  refine gMd [] (λq=>([(7,bP q)],JF134_17 G q)) F ?_ ?_
  ·rintro q d
   cases d
   exact gj [re 2]
  refine gB 1 ?_
  obtain⟨l,H,d⟩:=Xa d
  obtain⟨L,w,d⟩:=Xa d
  refine gPL 1 [.r (kX 2 c95 H::es 3 []) [],rk 2 (kL 2 c230 l.fR) 1] 2 w [] 1 (λ(t,z)=>([(7,bP t),(9,.bp 1 0),(25,eS 2 c230 l.fR),(26,iP (ln l.fR)),(27,iP z)],[.cells (c95 l)])) ?_
  rintro⟨t,z⟩ N a B
  rcases cor a with⟨g,a⟩|⟨g,a⟩
  ·obtain⟨u,h,a⟩:=Xa a
   rcases cor a with⟨b,a⟩|⟨b,a⟩
   ·cases a
    exact gk 2 [re 1,bb g,rk 1 (kX 2 c230 h) 4,.r (es 2 (rP 4 b (kU b::es 1 (rp 6 bqT (es 2 (rp 3 bqT [])))))) (bqT::es 2 []),re 2]
   obtain⟨j,k,a⟩:=Xa a
   rcases cor a with⟨c,a⟩|⟨c,a⟩
   ·cases a
    exact gk 2 [re 1,bb g,rk 1 (kX 2 c230 h) 4,.r (es 2 (rQ 2 b (bq b::kC (CF133 k)::bq b::es 1 (kF true (j !=0) b::es 1 (rP 6 c (kU c::es 1 (rp 3 bqT []))))))) (bqT::es 2 []),re 2]
   obtain⟨m,p,a⟩:=Xa a
   rcases cor a with⟨e,a⟩|⟨e,a⟩
   ·cases a
    exact gk 2 [re 1,bb g,rk 1 (kX 2 c230 h) 4,.r (es 2 (rQ 2 b (bq b::kC (CF133 k)::bq b::es 1 (kF true (j !=0) b::es 1 (rQ 4 c (bq c::kC (Xz p)::bq c::es 1 (kF true (!m) c::es 1 (rP 3 e [])))))))) (bq e::kU e::es 1 []),re 2]
   rcases cor a with⟨f,a⟩|⟨f,a⟩
   ·obtain⟨v,E,a⟩:=Xa a
    cases a
    exact gk 2 [re 1,bb g,rk 1 (kX 2 c230 h) 4,.r (es 2 (rQ 2 b (bq b::kC (CF133 k)::bq b::es 1 (kF true (j !=0) b::es 1 (rQ 4 c (bq c::kC (Xz p)::bq c::es 1 (kF true (!m) c::es 1 (rQ 3 e (rQ 6 f (bq f::kX 2 c230 E::rQ 2 f [])))))))))) (bq f::es 1 (bq e::kT (decide (u.fAt<=v.fAt)) false f::kF true (decide (u.fAt<=v.fAt)) e::es 1 [])),re 2]
   cases a
   exact gk 2 [re 1,bb g,rk 1 (kX 2 c230 h) 4,.r (es 2 (rQ 2 b (bq b::kC (CF133 k)::bq b::es 1 (kF true (j !=0) b::es 1 (rQ 4 c (bq c::kC (Xz p)::bq c::es 1 (kF true (!m) c::es 1 (rQ 3 e (rP 9 f []))))))))) (bq f::bq e::kV f::kF true false e::es 1 []),re 2]
  cases a
  obtain rfl:=B _ rfl
  exact gke 1 2 [re 1,bb g] λ_ _ I=>Xh ⟨_,d,I⟩
 cases d
 obtain rfl:=D _ rfl
 exact gke 0 0 [re 1,bb o] λ_ _ I=>Xh ⟨_,i,I⟩
theorem CF131_2 {a e n d} (l:F131_2 a e n=some d):A1 131 [.bp 0 0,(fk 134)] (hC a e n) (.tup []) (hC a e d):=by
 refine gC Tryz.func131 ?_
 obtain⟨v,g,l⟩:=Xa l
 refine gPL 0 [rk 5 (kL 22 c75 a.fc) 1] 0 g [] 0 (λ(p,o)=>([(10,eS 22 c75 a.fc),(11,iP (ln a.fc)),(12,iP p)],hC a e o)) ?_
 rintro⟨p,o⟩ u c f
 rcases cor c with⟨b,c⟩|⟨b,c⟩
 ·obtain⟨s,h,t,i,q,m,c⟩:=bs3 c
  cases c
  exact gk 2 [re 1,bb b,rk 1 (kX 22 c75 h) 4,.r (es 4 (kC (CF134 i)::es 2 [])) (kK [0,1] [] 0 0 (Yd m)::[]),re 2]
 cases c
 obtain rfl:=f _ rfl
 obtain rfl:=soj l
 exact g_rh 2 [re 1,bb b] (.exit 0) λ_ _ k j=>Xh (hn k j)
theorem CF63_1 {c e B g} (k:F63_1 c e B=some g):A1 63 [.bp 0 0] (hC c e B) (.tup []) (hC c e g):=by
 refine gC Tryz.func63 ?_
 refine gMD [] 0 (λs=>([],hC c e s,JF63_1_5 c e s)) g ?_ ?_
 ·rintro s k
  obtain⟨I,u,k⟩:=Xa k
  obtain rfl:=soj k
  exact gHn 2 [rk 1 (kK [0,1] [] 0 0 (CF131_2 u)) 0]
 obtain⟨C,l,k⟩:=Xa k
 refine gPL 0 [rk 5 (kL 6 c68 c.fi) 1] 0 l [] 0 (λ(i,o)=>([(10,eS 6 c68 c.fi),(11,iP (ln c.fi)),(12,iP i)],hC c e o)) ?_
 rintro⟨i,o⟩ A a v
 rcases cor a with⟨j,a⟩|⟨j,a⟩
 ·refine gd 1 [re 1,bb j] [] [] ?_
  refine gMD [] 0 (λf=>([],hC c e f,JF63_1_21 i f)) A ?_ ?_
  ·rintro f a
   cases a
   exact gj [re 2]
  refine gB 1 ?_
  obtain⟨d,q,a⟩:=Xa a
  obtain⟨E,n,a⟩:=Xa a
  refine gPL 1 [.r (kX 6 c68 q::es 3 []) [],rk 2 (kL 3 c184 d.fx) 1] 2 n [] 0 (λ(p,m)=>([(17,eS 3 c184 d.fx),(18,iP (ln d.fx)),(19,iP p)],hC c e m++[.cells (c68 d)])) ?_
  rintro⟨p,m⟩ G b y
  rcases cor b with⟨h,b⟩|⟨h,b⟩
  ·obtain⟨H,z,D,t,F,w,b⟩:=bs3 b
   cases b
   exact gk 3 [re 1,bb h,.r (kX 3 c184 z::es 3 []) [],.r (es 3 (kC (CF133 t)::es 3 [])) (kK [0,1] [] 0 0 (Yd w)::[]),re 2]
  cases b
  obtain rfl:=y _ rfl
  exact gke 2 2 [re 1,bb h] λ_ _ x=>Xh ⟨_,a,x⟩
 cases a
 obtain rfl:=v _ rfl
 exact ge 0 [re 1,bb j] λ_ x=>Xh ⟨_,k,x⟩
theorem CF78 {g b} (a:F78 g=some b):A0 78 [iP g] (iP b):=by
 refine gC Tryz.func78 ?_
 refine gd 0 [re 1] [] [] ?_
 refine gS ?_
 refine gMq (λe=>([(8,bP e)],[],JF78_2 e)) b ?_ ?_
 ·rintro e a
  rcases cor a with⟨f,a⟩|⟨f,a⟩
  ·obtain rfl:=soj a
   exact gE [bb f,re 1]
  refine gNd [bb f] [8] [] ?_
  obtain rfl:=soj a
  exact gE [re 1]
 rcases cor a with⟨c,a⟩|⟨c,a⟩
 ·exact gj [rs 3 (rP 2 c (kU c::[]))] λ_ d=>⟨true,a,d⟩
 exact gj [rs 3 (rQ 2 c (kF true (decide (g>7)) c::[]))] λ_ d=>⟨_,a,d⟩
theorem CF136 {q e d} (a:F136 q e=some d):A0 136 [iP q,.agg (c65 e)] (.tup [iP d.1,iP d.2]):=by
 refine gC Tryz.func136 ?_
 obtain⟨C,x,a⟩:=Xa a
 rcases cor a with⟨t,a⟩|⟨t,a⟩
 ·obtain rfl:=soj a
  exact gE [re 3,rk 1 (kC (CF78 x)) 1,re 2,bb t,re 3]
 refine gD 1 [re 3,rk 1 (kC (CF78 x)) 1,re 2,bb t] [1] [(3,.bp 0 0)] 0 [.cells (c65 e)] ?_
 refine gS ?_
 refine gMd [] (λu=>([(29,bP u)],JF136_6 q e u)) d ?_ ?_
 ·rintro u a
  rcases cor a with⟨w,a⟩|⟨w,a⟩
  ·obtain rfl:=soj a
   exact gE [bb w,re 2]
  refine gNd [bb w] [29] [] ?_
  refine gd 0 [re 10] [3] [(0,iP (wi (q+(wi ((wi (7*e.fac))-(wi (12*e.fak)))))))] ?_
  refine gMq (λv=>([(0,iP v)],[],JF136_9 v)) d ?_ ?_
  ·rintro v a
   refine gMd [] (λj=>([(0,iP j)],JF136_11 j)) d ?_ ?_
   ·rintro j a
    obtain rfl:=soj a
    exact gE [re 3]
   refine gB 2 ?_
   obtain⟨A,m,a⟩:=Xa a
   refine gL m (λn=>([(0,iP n)],[])) wm ?_
   rintro n B h r
   rcases cor h with⟨l,h⟩|⟨l,h⟩
   ·cases h
    exact gj [re 2,bb l,re 3]
   cases h
   obtain rfl:=r _ rfl
   exact ge 2 [re 2,bb l] λ_ g=>Xh ⟨_,a,g⟩
  refine gB 0 ?_
  obtain⟨y,p,a⟩:=Xa a
  refine gL p (λo=>([(0,iP o)],[.cells (c65 e)])) wm ?_
  rintro o z f s
  rcases cor f with⟨k,f⟩|⟨k,f⟩
  ·cases f
   exact gj [re 2,bb k,re 3]
  cases f
  obtain rfl:=s _ rfl
  exact gke 0 0 [re 2,bb k] λ_ _ g=>Xh ⟨_,a,g⟩
 rcases cor a with⟨b,a⟩|⟨b,a⟩
 ·exact gj [rs 4 (rP 3 b (kU b::es 1 (rp 3 bqT (es 2 (rp 3 bqT (es 1 []))))))] λ_ g=>⟨true,a,g⟩
 rcases cor a with⟨c,a⟩|⟨c,a⟩
 ·exact gj [rs 4 (rQ 3 b (kF true (decide (e.fak>77)) b::es 1 (rP 3 c (kU c::es 1 (rp 3 bqT (es 1 []))))))] λ_ g=>⟨true,a,g⟩
 rcases cor a with⟨i,a⟩|⟨i,a⟩
 ·exact gj [rs 4 (rQ 3 b (kF true (decide (e.fak>77)) b::es 1 (rQ 3 c (kF true (decide (e.fac<(-140))) c::es 1 (rP 3 i (kU i::[]))))))] λ_ g=>⟨true,a,g⟩
 exact gj [rs 4 (rQ 3 b (kF true (decide (e.fak>77)) b::es 1 (rQ 3 c (kF true (decide (e.fac<(-140))) c::es 1 (rQ 3 i (kF true (decide (e.fac>140)) i::[]))))))] λ_ g=>⟨_,a,g⟩
theorem CF135_1 {B q k w p f} (c:F135_1 B q k w p=some f):A1 135 [iP B,.agg (c75 q),.bp 0 0] [.cells [.bp 1 0],.cells (c27 k++[iP w,oP 2 3 c159 p]),.grow (List.length p) 3] (bP f) [.cells [.bp 1 0],.cells (c27 k++[iP w,oP 2 3 c159 p]),.grow (List.length p) 3]:=by
 refine gC Tryz.func135 ?_
 obtain⟨F,E,c⟩:=Xa c
 refine gD 1 [re 2,rk 1 (kC (CF99 E)) 5] [0,1] [(4,.bp 3 0),(7,iP F.2)] 3 [.cells (c75 q)] ?_
 refine gMd [7] (λA=>([(8,bP A)],Uo k q A)) f ?_ ?_
 ·rintro A c
  refine gMD [2,4] 3 (λt=>([(8,bP t)],[],JF135_1_10 t)) f ?_ ?_
  ·rintro t c
   obtain rfl:=soj c
   exact gH 3 [re 2]
  obtain⟨C,n,c⟩:=Xa c
  refine gPl 0 [rk 5 (kL 6 c68 k.fi) 1] 0 n [] (λ(g,h)=>[(8,bP g),(28,eS 6 c68 k.fi),(29,iP (ln k.fi)),(30,iP h)]) ?_
  rintro⟨g,h⟩ s a z
  rcases cor a with⟨m,a⟩|⟨m,a⟩
  ·refine gd 1 [re 1,bb m] [] [] ?_
   refine gMd [] (λi=>([(8,bP i)],JF135_1_21 h i)) s ?_ ?_
   ·rintro i a
    cases a
    exact gj [re 2]
   refine gB 1 ?_
   obtain⟨o,x,a⟩:=Xa a
   refine gD 0 [.r (kX 6 c68 x::es 3 []) []] [] [(10,.bp 4 0)] 4 [.cells (c68 o)] ?_
   refine gMd [] (λl=>([(42,bP l)],Wp q o h g l)) s ?_ ?_
   ·rintro l a
    rcases cor a with⟨j,a⟩|⟨j,a⟩
    ·obtain⟨D,u,a⟩:=Xa a
     exact gk 4 [bb j,rk 4 (kC (CF136 u)) 4,re 3] λ_ _ d=>⟨_,a,d⟩
    exact gk 4 [bb j] λ_ _ d=>⟨_,a,d⟩
   rcases cor a with⟨e,a⟩|⟨e,a⟩
   ·exact gj [rs 6 (rQ 2 e (kT (!g) false e::[]))] λ_ d=>⟨_,a,d⟩
   exact gj [rs 6 (rP 2 e (kV e::[]))] λ_ d=>⟨false,a,d⟩
  cases a
  obtain rfl:=z _ rfl
  exact gke 3 0 [re 1,bb m] λ_ _ d=>Xh ⟨_,c,d⟩
 rcases cor c with⟨b,c⟩|⟨b,c⟩
 ·exact gj [rs 3 (rP 4 b (kU b::es 1 []))] λ_ d=>⟨true,c,d⟩
 obtain⟨y,v,c⟩:=Xa c
 exact gj [rs 3 (rQ 2 b (bq b::kC (Xz v)::bq b::es 1 (kF true (!y) b::es 1 [])))] λ_ d=>⟨_,c,d⟩
theorem CF131_3 {a e n d} (m:F131_3 a e n=some d):A1 131 [.bp 0 0,(.fn (.func 135) [] [.bp 2 0])] (hC a e n++[.cells [.bp 0 0]]) (.tup []) (hC a e d++[.cells [.bp 0 0]]):=by
 refine gC Tryz.func131 ?_
 obtain⟨v,g,m⟩:=Xa m
 refine gPL 0 [rk 5 (kL 22 c75 a.fc) 1] 0 g [] 0 (λ(p,o)=>([(10,eS 22 c75 a.fc),(11,iP (ln a.fc)),(12,iP p)],hC a e o++[.cells [.bp 0 0]])) ?_
 rintro⟨p,o⟩ u c f
 rcases cor c with⟨b,c⟩|⟨b,c⟩
 ·obtain⟨q,h,t,l,s,i,c⟩:=bs3 c
  cases c
  exact gk 3 [re 1,bb b,rk 1 (kX 22 c75 h) 4,.r (es 4 (kQ [2,0,1] [] 0 1 (CF135_1 l)::es 2 [])) (kK [0,1] [] 0 0 (Yd i)::[]),re 2]
 cases c
 obtain rfl:=f _ rfl
 obtain rfl:=soj m
 exact g_rh 3 [re 1,bb b] (.exit 0) λ_ _ k j=>Xh (hn k j)
theorem CF64_1 {d b e a} (c:F64_1 d b e=some a):A1 64 [.bp 0 0] (hC d b e) (.tup []) (hC d b a):=by
 refine gC Tryz.func64 ?_
 obtain⟨g,f,c⟩:=Xa c
 obtain rfl:=soj c
 exact gHn 2 [re 1,rk 2 (kK [0,1,2] [] 0 0 (CF131_3 f)) 0]
theorem CF215 {g f b} (a:F215 g f=some b):A0 215 [iP g,iP f] (iP b):=by
 refine gC Tryz.func215 ?_
 refine gd 0 [re 1] [] [] ?_
 refine gS ?_
 refine gMq (λd=>([(11,bP d)],[],JF215_3 d)) b ?_ ?_
 ·rintro d a
  rcases cor a with⟨h,a⟩|⟨h,a⟩
  ·obtain rfl:=soj a
   exact gE [bb h,re 1]
  refine gNd [bb h] [11] [] ?_
  obtain rfl:=soj a
  exact gE [re 1]
 rcases cor a with⟨c,a⟩|⟨c,a⟩
 ·exact gj [rs 3 (rP 3 c (kU c::[]))] λ_ e=>⟨true,a,e⟩
 exact gj [rs 3 (rQ 3 c (kF true (decide (g>f)) c::[]))] λ_ e=>⟨_,a,e⟩
theorem CF214 {f c} (d:F214 f=some c):A0 214 [eS 1 cI f] (iP c):=by
 refine gC Tryz.func214 ?_
 refine gd 0 [re 1] [] [] ?_
 refine gMq (λ(_:Unit)=>([],[],JF214_1)) c ?_ ?_
 ·rintro⟨⟩ d
  obtain rfl:=soj d
  exact gE [re 1]
 obtain⟨n,h,d⟩:=Xa d
 refine gPl 0 [rk 1 (kL 1 cI f) 1] 0 h [0] (λi=>[(5,eS 1 cI f),(6,iP (ln f)),(7,iP i)]) ?_
 rintro i m a j
 rcases cor a with⟨g,a⟩|⟨g,a⟩
 ·obtain⟨k,e,a⟩:=Xa a
  rcases cor a with⟨b,a⟩|⟨b,a⟩
  ·cases a
   obtain rfl:=j _ rfl
   obtain rfl:=soj d
   exact gE [re 1,bb g,.r (kX 1 cI e::es 2 []) [],re 2,bb b,re 2]
  cases a
  exact gj [re 1,bb g,.r (kX 1 cI e::es 2 []) [],re 2,bb b,re 2]
 cases a
 obtain rfl:=j _ rfl
 exact ge 0 [re 1,bb g] λ_ l=>Xh ⟨(),d,l⟩
theorem CF216 {d a} (c:F216 d=some a):A0 216 [iP d] (bP a):=by
 refine gC Tryz.func216 ?_
 rcases cor c with⟨b,c⟩|⟨b,c⟩
 ·obtain rfl:=soj c
  exact gE [re 1,rs 3 (rQ 2 b (kT (decide (d<=4)) false b::es 1 []))]
 obtain rfl:=soj c
 exact gE [re 1,rs 3 (rP 2 b (kV b::es 1 []))]
theorem CF284 {d a} (b:F284 d=some a):A0 284 [iP d] (iP a):=by
 refine gC Tryz.func284 ?_
 rcases cor b with⟨c,b⟩|⟨c,b⟩
 ·obtain rfl:=soj b
  exact gE [re 1,re 2,bb c,re 1]
 obtain rfl:=soj b
 exact gE [re 1,re 2,bb c,re 3]
theorem CF218 {c d} (a:F218 c=some d):A0 218 [.agg (c147 c)] (.agg (c147 d)):=by
 refine gC Tryz.func218 ?_
 refine gP 0 [re 2] [(1,.bp 0 0),(2,.bp 1 0)] [.cells (c147 c),.cells [iP 0,iP 0,iP 0,iP 0,iP 0,eS 5 c182 Sl.nil,eS 5 c245 Sl.nil,iP 0,iP 0,iP 0,eS 2 c171 Sl.nil,iP 0,iP 0]] ?_
 refine gS ?_
 refine gMd [] (λk=>([(12,bP k)],JF218_2 c k)) d ?_ ?_
 ·rintro k a
  rcases cor a with⟨l,a⟩|⟨l,a⟩
  ·obtain rfl:=soj a
   exact gE [bb l,re 2]
  refine gNd [bb l] [12] [] ?_
  refine gD 0 [re 9] [] [(3,.bp 2 0)] 2 [.cells (c58 c.fID++[iP c.fq,iP 0,iP 0,.sl true .full 0 [],.sl true .full 0 [],iP 0,iP 0,iP c.f4,.sl true .full 0 [],iP 0,iP 0])] ?_
  refine gMD [] 2 (λ(x:Int×Int)=>match x with|(m,i)=>([],[.cells (c58 c.fID++[iP c.fq,iP m,iP i,.sl true .full 0 [],.sl true .full 0 [],iP 0,iP 0,iP c.f4,.sl true .full 0 [],iP 0,iP 0])],JF218_6 c m i)) d ?_ ?_
  ·rintro⟨m,i⟩ a
   rcases cor a with⟨j,a⟩|⟨j,a⟩
   ·obtain⟨o,n,a⟩:=Xa a
    obtain rfl:=soj a
    exact gE [re 3,bb j,rk 2 (kC (CF284 n)) 2,re 2]
   obtain rfl:=soj a
   exact gE [re 3,bb j,re 2]
  rcases cor a with⟨e,a⟩|⟨e,a⟩
  ·exact gj [re 3,bb e,re 4] λ_ f=>⟨(c.fw.fA,c.fw.fF),a,f⟩
  exact gj [re 3,bb e] λ_ f=>⟨(0,0),a,f⟩
 rcases cor a with⟨b,a⟩|⟨b,a⟩
 ·exact gj [rs 4 (rP 4 b (kU b::[]))] λ_ f=>⟨true,a,f⟩
 obtain⟨h,g,a⟩:=Xa a
 exact gj [rs 4 (rQ 2 b (bq b::kC (CF216 g)::bq b::es 1 (kF true (!h) b::[])))] λ_ f=>⟨_,a,f⟩
theorem CF281 {f i e} (b:F281 f i=some e):A0 281 [eS 5 c182 f,eS 5 c182 i] (bP e):=by
 refine gC Tryz.func281 ?_
 rcases cor b with⟨k,b⟩|⟨k,b⟩
 ·obtain rfl:=soj b
  exact gE [re 1,rs 1 (kL 5 c182 f::es 1 (kL 5 c182 i::es 1 [])),bb k,re 1]
 refine gd 1 [re 1,rs 1 (kL 5 c182 f::es 1 (kL 5 c182 i::es 1 [])),bb k] [] [] ?_
 refine gMq (λ(_:Unit)=>([],[],JF281_3)) e ?_ ?_
 ·rintro⟨⟩ b
  obtain rfl:=soj b
  exact gE [re 1]
 obtain⟨q,j,b⟩:=Xa b
 refine gPl 0 [rk 1 (kL 5 c182 f) 1] 0 j [] (λm=>[(12,iP (ln f)),(13,iP m)]) ?_
 rintro m s a l
 rcases cor a with⟨c,a⟩|⟨c,a⟩
 ·obtain⟨p,h,n,g,a⟩:=bs2 a
  rcases cor a with⟨d,a⟩|⟨d,a⟩
  ·cases a
   obtain rfl:=l _ rfl
   obtain rfl:=soj b
   exact gE [re 1,bb c,re 2,.r (es 2 (kX 5 c182 h::es 3 (kX 5 c182 g::es 1 []))) (es 1 []),bb d,re 1]
  cases a
  exact gj [re 1,bb c,re 2,.r (es 2 (kX 5 c182 h::es 3 (kX 5 c182 g::es 1 []))) (es 1 []),bb d,re 2]
 cases a
 obtain rfl:=l _ rfl
 exact ge 0 [re 1,bb c] λ_ o=>Xh ⟨(),b,o⟩
theorem CF282 {f i e} (b:F282 f i=some e):A0 282 [eS 5 c245 f,eS 5 c245 i] (bP e):=by
 refine gC Tryz.func282 ?_
 rcases cor b with⟨k,b⟩|⟨k,b⟩
 ·obtain rfl:=soj b
  exact gE [re 1,rs 1 (kL 5 c245 f::es 1 (kL 5 c245 i::es 1 [])),bb k,re 1]
 refine gd 1 [re 1,rs 1 (kL 5 c245 f::es 1 (kL 5 c245 i::es 1 [])),bb k] [] [] ?_
 refine gMq (λ(_:Unit)=>([],[],JF282_3)) e ?_ ?_
 ·rintro⟨⟩ b
  obtain rfl:=soj b
  exact gE [re 1]
 obtain⟨q,j,b⟩:=Xa b
 refine gPl 0 [rk 1 (kL 5 c245 f) 1] 0 j [] (λm=>[(12,iP (ln f)),(13,iP m)]) ?_
 rintro m s a l
 rcases cor a with⟨c,a⟩|⟨c,a⟩
 ·obtain⟨p,h,n,g,a⟩:=bs2 a
  rcases cor a with⟨d,a⟩|⟨d,a⟩
  ·cases a
   obtain rfl:=l _ rfl
   obtain rfl:=soj b
   exact gE [re 1,bb c,re 2,.r (es 2 (kX 5 c245 h::es 3 (kX 5 c245 g::es 1 []))) (es 1 []),bb d,re 1]
  cases a
  exact gj [re 1,bb c,re 2,.r (es 2 (kX 5 c245 h::es 3 (kX 5 c245 g::es 1 []))) (es 1 []),bb d,re 2]
 cases a
 obtain rfl:=l _ rfl
 exact ge 0 [re 1,bb c] λ_ o=>Xh ⟨(),b,o⟩
theorem CF283 {f i e} (b:F283 f i=some e):A0 283 [eS 2 c171 f,eS 2 c171 i] (bP e):=by
 refine gC Tryz.func283 ?_
 rcases cor b with⟨k,b⟩|⟨k,b⟩
 ·obtain rfl:=soj b
  exact gE [re 1,rs 1 (kL 2 c171 f::es 1 (kL 2 c171 i::es 1 [])),bb k,re 1]
 refine gd 1 [re 1,rs 1 (kL 2 c171 f::es 1 (kL 2 c171 i::es 1 [])),bb k] [] [] ?_
 refine gMq (λ(_:Unit)=>([],[],JF283_3)) e ?_ ?_
 ·rintro⟨⟩ b
  obtain rfl:=soj b
  exact gE [re 1]
 obtain⟨q,j,b⟩:=Xa b
 refine gPl 0 [rk 1 (kL 2 c171 f) 1] 0 j [] (λm=>[(12,iP (ln f)),(13,iP m)]) ?_
 rintro m s a l
 rcases cor a with⟨c,a⟩|⟨c,a⟩
 ·obtain⟨p,h,n,g,a⟩:=bs2 a
  rcases cor a with⟨d,a⟩|⟨d,a⟩
  ·cases a
   obtain rfl:=l _ rfl
   obtain rfl:=soj b
   exact gE [re 1,bb c,re 2,.r (es 2 (kX 2 c171 h::es 3 (kX 2 c171 g::es 1 []))) (es 1 []),bb d,re 1]
  cases a
  exact gj [re 1,bb c,re 2,.r (es 2 (kX 2 c171 h::es 3 (kX 2 c171 g::es 1 []))) (es 1 []),bb d,re 2]
 cases a
 obtain rfl:=l _ rfl
 exact ge 0 [re 1,bb c] λ_ o=>Xh ⟨(),b,o⟩
theorem CF217 {a b n} (c:F217 a b=some n):A0 217 [.agg (c147 a),.agg (c147 b)] (bP n):=by
 refine gC Tryz.func217 ?_
 refine gP 0 [re 3] [(2,.bp 0 0),(3,.bp 1 0)] [.cells (c147 a),.cells (c147 b)] ?_
 refine gMq (λs=>([(4,bP s)],[],Wk s)) n ?_ ?_
 ·rintro s c
  obtain rfl:=soj c
  exact gE []
 rcases cor c with⟨e,c⟩|⟨e,c⟩
 ·rcases cor c with⟨g,c⟩|⟨g,c⟩
  ·rcases cor c with⟨i,c⟩|⟨i,c⟩
   ·rcases cor c with⟨j,c⟩|⟨j,c⟩
    ·rcases cor c with⟨k,c⟩|⟨k,c⟩
     ·rcases cor c with⟨m,c⟩|⟨m,c⟩
      ·rcases cor c with⟨d,c⟩|⟨d,c⟩
       ·obtain⟨p,o,c⟩:=Xa c
        rcases cor c with⟨f,c⟩|⟨f,c⟩
        ·obtain⟨r,q,c⟩:=Xa c
         rcases cor c with⟨l,c⟩|⟨l,c⟩
         ·obtain⟨t,u,c⟩:=Xa c
          exact gk 0 [rs 6 (rQ 5 e (kT ((a.fw.fA==b.fw.fA)&&((a.fw.fF==b.fw.fF)&&true)) false e::es 1 (rQ 5 g (kT (a.fZ==b.fZ) false g::es 1 (rQ 5 i (kT (a.fab==b.fab) false i::es 1 (rQ 5 j (kT (a.f4==b.f4) false j::es 1 (rQ 5 k (kT (a.fao==b.fao) false k::es 1 (rQ 5 m (kT (a.fau==b.fau) false m::es 1 (rQ 4 d (bq d::kC (CF281 o)::kT p false d::es 1 (rQ 4 f (bq f::kC (CF282 q)::kT r false f::es 1 (rQ 4 l (bq l::kC (CF283 u)::kT t false l::es 1 []))))))))))))))))))] λ_ _ h=>⟨_,c,h⟩
         exact gk 0 [rs 6 (rQ 5 e (kT ((a.fw.fA==b.fw.fA)&&((a.fw.fF==b.fw.fF)&&true)) false e::es 1 (rQ 5 g (kT (a.fZ==b.fZ) false g::es 1 (rQ 5 i (kT (a.fab==b.fab) false i::es 1 (rQ 5 j (kT (a.f4==b.f4) false j::es 1 (rQ 5 k (kT (a.fao==b.fao) false k::es 1 (rQ 5 m (kT (a.fau==b.fau) false m::es 1 (rQ 4 d (bq d::kC (CF281 o)::kT p false d::es 1 (rQ 4 f (bq f::kC (CF282 q)::kT r false f::es 1 (rP 5 l (kV l::es 1 []))))))))))))))))))] λ_ _ h=>⟨false,c,h⟩
        exact gk 0 [rs 6 (rQ 5 e (kT ((a.fw.fA==b.fw.fA)&&((a.fw.fF==b.fw.fF)&&true)) false e::es 1 (rQ 5 g (kT (a.fZ==b.fZ) false g::es 1 (rQ 5 i (kT (a.fab==b.fab) false i::es 1 (rQ 5 j (kT (a.f4==b.f4) false j::es 1 (rQ 5 k (kT (a.fao==b.fao) false k::es 1 (rQ 5 m (kT (a.fau==b.fau) false m::es 1 (rQ 4 d (bq d::kC (CF281 o)::kT p false d::es 1 (rP 5 f (kV f::es 1 (rp 5 bqF (es 2 []))))))))))))))))))] λ_ _ h=>⟨false,c,h⟩
       exact gk 0 [rs 6 (rQ 5 e (kT ((a.fw.fA==b.fw.fA)&&((a.fw.fF==b.fw.fF)&&true)) false e::es 1 (rQ 5 g (kT (a.fZ==b.fZ) false g::es 1 (rQ 5 i (kT (a.fab==b.fab) false i::es 1 (rQ 5 j (kT (a.f4==b.f4) false j::es 1 (rQ 5 k (kT (a.fao==b.fao) false k::es 1 (rQ 5 m (kT (a.fau==b.fau) false m::es 1 (rP 5 d (kV d::es 1 (rp 5 bqF (es 2 (rp 5 bqF (es 2 []))))))))))))))))))] λ_ _ h=>⟨false,c,h⟩
      exact gk 0 [rs 6 (rQ 5 e (kT ((a.fw.fA==b.fw.fA)&&((a.fw.fF==b.fw.fF)&&true)) false e::es 1 (rQ 5 g (kT (a.fZ==b.fZ) false g::es 1 (rQ 5 i (kT (a.fab==b.fab) false i::es 1 (rQ 5 j (kT (a.f4==b.f4) false j::es 1 (rQ 5 k (kT (a.fao==b.fao) false k::es 1 (rP 5 m (kV m::es 1 (rp 5 bqF (es 2 (rp 5 bqF (es 2 (rp 5 bqF (es 2 []))))))))))))))))))] λ_ _ h=>⟨false,c,h⟩
     exact gk 0 [rs 6 (rQ 5 e (kT ((a.fw.fA==b.fw.fA)&&((a.fw.fF==b.fw.fF)&&true)) false e::es 1 (rQ 5 g (kT (a.fZ==b.fZ) false g::es 1 (rQ 5 i (kT (a.fab==b.fab) false i::es 1 (rQ 5 j (kT (a.f4==b.f4) false j::es 1 (rP 5 k (kV k::es 1 (rp 5 bqF (es 2 (rp 5 bqF (es 2 (rp 5 bqF (es 2 (rp 5 bqF (es 2 []))))))))))))))))))] λ_ _ h=>⟨false,c,h⟩
    exact gk 0 [rs 6 (rQ 5 e (kT ((a.fw.fA==b.fw.fA)&&((a.fw.fF==b.fw.fF)&&true)) false e::es 1 (rQ 5 g (kT (a.fZ==b.fZ) false g::es 1 (rQ 5 i (kT (a.fab==b.fab) false i::es 1 (rP 5 j (kV j::es 1 (rp 5 bqF (es 2 (rp 5 bqF (es 2 (rp 5 bqF (es 2 (rp 5 bqF (es 2 (rp 5 bqF (es 2 []))))))))))))))))))] λ_ _ h=>⟨false,c,h⟩
   exact gk 0 [rs 6 (rQ 5 e (kT ((a.fw.fA==b.fw.fA)&&((a.fw.fF==b.fw.fF)&&true)) false e::es 1 (rQ 5 g (kT (a.fZ==b.fZ) false g::es 1 (rP 5 i (kV i::es 1 (rp 5 bqF (es 2 (rp 5 bqF (es 2 (rp 5 bqF (es 2 (rp 5 bqF (es 2 (rp 5 bqF (es 2 (rp 5 bqF (es 2 []))))))))))))))))))] λ_ _ h=>⟨false,c,h⟩
  exact gk 0 [rs 6 (rQ 5 e (kT ((a.fw.fA==b.fw.fA)&&((a.fw.fF==b.fw.fF)&&true)) false e::es 1 (rP 5 g (kV g::es 1 (rp 5 bqF (es 2 (rp 5 bqF (es 2 (rp 5 bqF (es 2 (rp 5 bqF (es 2 (rp 5 bqF (es 2 (rp 5 bqF (es 2 (rp 5 bqF (es 2 []))))))))))))))))))] λ_ _ h=>⟨false,c,h⟩
 exact gk 0 [rs 6 (rP 5 e (kV e::es 1 (rp 5 bqF (es 2 (rp 5 bqF (es 2 (rp 5 bqF (es 2 (rp 5 bqF (es 2 (rp 5 bqF (es 2 (rp 5 bqF (es 2 (rp 5 bqF (es 2 (rp 5 bqF (es 2 []))))))))))))))))))] λ_ _ h=>⟨false,c,h⟩
theorem CF219 {b f} (a:F219 b=some f):A0 219 [.agg (c142 b)] (iP f):=by
 refine gC Tryz.func219 ?_
 refine gP 0 [re 2] [(1,.bp 0 0)] [.cells (c142 b)] ?_
 refine gS ?_
 refine gMq (λh=>([(20,bP h)],[],Vs h)) f ?_ ?_
 ·rintro h a
  rcases cor a with⟨i,a⟩|⟨i,a⟩
  ·obtain rfl:=soj a
   exact gE [bb i,re 1]
  refine gNd [bb i] [20] [] ?_
  obtain rfl:=soj a
  exact gE [re 1]
 rcases cor a with⟨c,a⟩|⟨c,a⟩
 ·exact gk 0 [rs 4 (rP 3 c (kU c::es 1 (rp 3 bqT (es 2 (rp 3 bqT (es 1 []))))))] λ_ _ d=>⟨true,a,d⟩
 rcases cor a with⟨e,a⟩|⟨e,a⟩
 ·exact gk 0 [rs 4 (rQ 3 c (kF true (decide (b.fA>8)) c::es 1 (rP 3 e (kU e::es 1 (rp 3 bqT (es 1 []))))))] λ_ _ d=>⟨true,a,d⟩
 rcases cor a with⟨g,a⟩|⟨g,a⟩
 ·exact gk 0 [rs 4 (rQ 3 c (kF true (decide (b.fA>8)) c::es 1 (rQ 3 e (kF true (decide (b.fF<0)) e::es 1 (rP 3 g (kU g::[]))))))] λ_ _ d=>⟨true,a,d⟩
 exact gk 0 [rs 4 (rQ 3 c (kF true (decide (b.fA>8)) c::es 1 (rQ 3 e (kF true (decide (b.fF<0)) e::es 1 (rQ 3 g (kF true (decide (b.fF>3)) g::[]))))))] λ_ _ d=>⟨_,a,d⟩
theorem CF243 {a} (b:F243=some a):A0 243 [] (.agg (c273 a)):=by
 refine gC Tryz.func243 ?_
 obtain rfl:=soj b
 exact gE [re 1,re 2]
theorem CF169 {b a} (d:F169 b=some a):A0 169 [.agg (c80 b)] (iP a):=by
 refine gC Tryz.func169 ?_
 obtain⟨g,h,e,i,d⟩:=bs2 d
 obtain rfl:=soj d
 exact gE [re 2,.r (es 4 (kC (CF243 h)::es 2 (⟨.pu (.idxA 1 7 none (.c (.agg (c273 g))) (.c (iP b.fW))) (iP e),(n_idxA1 (f:=λx=>(iP x)) i rfl)⟩::es 3 []))) (es 2 [])]
theorem CF168 {d i} (a:F168 d=some i):A0 168 [.agg (c80 d)] (iP i):=by
 refine gC Tryz.func168 ?_
 refine gP 0 [re 2] [(1,.bp 0 0)] [.cells (c80 d)] ?_
 refine gS ?_
 refine gMd [] (λm=>([(31,bP m)],Vt d m)) i ?_ ?_
 ·rintro m a
  rcases cor a with⟨n,a⟩|⟨n,a⟩
  ·obtain rfl:=soj a
   exact gE [bb n,re 1]
  refine gNd [bb n] [31] [] ?_
  refine gS ?_
  obtain⟨o,p,a⟩:=Xa a
  refine gd 0 [rk 1 (kC (CF169 p)) 1] [1] [(3,iP o)] ?_
  refine gMq (λk=>([(39,bP k)],[],JF168_7 k)) i ?_ ?_
  ·rintro k a
   rcases cor a with⟨l,a⟩|⟨l,a⟩
   ·obtain rfl:=soj a
    exact gE [bb l,re 1]
   refine gNd [bb l] [39] [] ?_
   obtain rfl:=soj a
   exact gE [re 1]
  rcases cor a with⟨j,a⟩|⟨j,a⟩
  ·exact gk 0 [rs 3 (rP 2 j (kU j::[]))] λ_ _ g=>⟨true,a,g⟩
  exact gk 0 [rs 3 (rQ 2 j (kF true (decide (o>127)) j::[]))] λ_ _ g=>⟨_,a,g⟩
 rcases cor a with⟨b,a⟩|⟨b,a⟩
 ·exact gj [rs 4 (rP 3 b (kU b::es 1 (rp 3 bqT (es 2 (rp 3 bqT (es 2 (rp 3 bqT (es 2 (rp 3 bqT (es 1 []))))))))))] λ_ g=>⟨true,a,g⟩
 rcases cor a with⟨c,a⟩|⟨c,a⟩
 ·exact gj [rs 4 (rQ 3 b (kF true (decide (d.fW>6)) b::es 1 (rP 3 c (kU c::es 1 (rp 3 bqT (es 2 (rp 3 bqT (es 2 (rp 3 bqT (es 1 []))))))))))] λ_ g=>⟨true,a,g⟩
 rcases cor a with⟨e,a⟩|⟨e,a⟩
 ·exact gj [rs 4 (rQ 3 b (kF true (decide (d.fW>6)) b::es 1 (rQ 3 c (kF true (decide (d.fal<(-2))) c::es 1 (rP 3 e (kU e::es 1 (rp 3 bqT (es 2 (rp 3 bqT (es 1 []))))))))))] λ_ g=>⟨true,a,g⟩
 rcases cor a with⟨f,a⟩|⟨f,a⟩
 ·exact gj [rs 4 (rQ 3 b (kF true (decide (d.fW>6)) b::es 1 (rQ 3 c (kF true (decide (d.fal<(-2))) c::es 1 (rQ 3 e (kF true (decide (d.fal>2)) e::es 1 (rP 3 f (kU f::es 1 (rp 3 bqT (es 1 []))))))))))] λ_ g=>⟨true,a,g⟩
 rcases cor a with⟨h,a⟩|⟨h,a⟩
 ·exact gj [rs 4 (rQ 3 b (kF true (decide (d.fW>6)) b::es 1 (rQ 3 c (kF true (decide (d.fal<(-2))) c::es 1 (rQ 3 e (kF true (decide (d.fal>2)) e::es 1 (rQ 3 f (kF true (decide (d.fas<(-1))) f::es 1 (rP 3 h (kU h::[]))))))))))] λ_ g=>⟨true,a,g⟩
 exact gj [rs 4 (rQ 3 b (kF true (decide (d.fW>6)) b::es 1 (rQ 3 c (kF true (decide (d.fal<(-2))) c::es 1 (rQ 3 e (kF true (decide (d.fal>2)) e::es 1 (rQ 3 f (kF true (decide (d.fas<(-1))) f::es 1 (rQ 3 h (kF true (decide (d.fas>9)) h::[]))))))))))] λ_ g=>⟨_,a,g⟩
theorem CF77 {e b} (a:F77 e=some b):A0 77 [.agg (c80 e)] (.tup [iP b.1,iP b.2]):=by
 refine gC Tryz.func77 ?_
 obtain⟨g,d,a⟩:=Xa a
 rcases cor a with⟨c,a⟩|⟨c,a⟩
 ·obtain rfl:=soj a
  exact gE [re 3,rk 1 (kC (CF168 d)) 1,re 2,bb c,re 3]
 obtain⟨h,f,a⟩:=Xa a
 obtain rfl:=soj a
 exact gE [re 3,rk 1 (kC (CF168 d)) 1,re 2,bb c,rk 1 (kC (CF169 f)) 2]
theorem CF260 {i b} (a:F260 i=some b):A0 260 [.agg (c80 i)] (.tup [iP b.1,iP b.2]):=by
 refine gC Tryz.func260 ?_
 obtain⟨d,j,a⟩:=Xa a
 refine gP 1 [re 3,rk 1 (kC (CF77 j)) 5] [(4,iP d.1),(5,iP d.2)] [.cells (c80 i)] ?_
 refine gS ?_
 refine gMD [5] 0 (λg=>([(20,bP g)],[],JF260_4 d g)) b ?_ ?_
 ·rintro g a
  rcases cor a with⟨h,a⟩|⟨h,a⟩
  ·obtain rfl:=soj a
   exact gE [bb h,re 2]
  refine gNd [bb h] [20] [] ?_
  obtain rfl:=soj a
  exact gE [re 3]
 rcases cor a with⟨c,a⟩|⟨c,a⟩
 ·exact gk 0 [rs 3 (rP 2 c (kU c::es 1 (rp 2 bqT (es 1 []))))] λ_ _ f=>⟨true,a,f⟩
 rcases cor a with⟨e,a⟩|⟨e,a⟩
 ·exact gk 0 [rs 3 (rQ 2 c (kF true (decide (d.1<0)) c::es 1 (rP 2 e (kU e::[]))))] λ_ _ f=>⟨true,a,f⟩
 exact gk 0 [rs 3 (rQ 2 c (kF true (decide (d.1<0)) c::es 1 (rQ 2 e (kF true (decide (d.1>127)) e::[]))))] λ_ _ f=>⟨_,a,f⟩
theorem CF285 {c a} (b:F285 c=some a):A0 285 [.agg (c182 c)] (iP a):=by
 refine gC Tryz.func285 ?_
 obtain⟨i,e,h,f,g,d,b⟩:=bs3 b
 obtain rfl:=soj b
 exact gE [re 2,rk 2 (kC (CF260 e)) 5,rs 3 (kC (CF215 f)::es 1 (kC (CF214 d)::es 1 []))]
theorem CF220 {d i} (b:F220 d=some i):A0 220 [eS 5 c182 d] (iP i):=by
 refine gC Tryz.func220 ?_
 rcases cor b with⟨l,b⟩|⟨l,b⟩
 ·obtain rfl:=soj b
  exact gE [re 1,rk 1 (kL 5 c182 d) 2,bb l,re 1]
 rcases cor b with⟨n,b⟩|⟨n,b⟩
 ·obtain rfl:=soj b
  exact gE [re 1,rk 1 (kL 5 c182 d) 2,bb l,rk 1 (kL 5 c182 d) 2,bb n,re 1]
 refine gd 2 [re 1,rk 1 (kL 5 c182 d) 2,bb l,rk 1 (kL 5 c182 d) 2,bb n,re 1] [] [(3,iP (-1))] ?_
 refine gMq (λ(_:Unit)=>([],[],JF220_3)) i ?_ ?_
 ·rintro⟨⟩ b
  obtain rfl:=soj b
  exact gE [re 1]
 obtain⟨w,m,b⟩:=Xa b
 refine gPl 0 [rk 1 (kL 5 c182 d) 1] 1 m [0] (λ(p,o)=>[(3,iP p),(17,eS 5 c182 d),(18,iP (ln d)),(19,iP o)]) ?_
 rintro⟨p,o⟩ v a f
 rcases cor a with⟨c,a⟩|⟨c,a⟩
 ·obtain⟨q,g,s,j,a⟩:=bs2 a
  rcases cor a with⟨e,a⟩|⟨e,a⟩
  ·cases a
   obtain rfl:=f _ rfl
   obtain rfl:=soj b
   exact gE [re 1,bb c,.r (kX 5 c182 g::es 3 []) [],rk 1 (kC (CF285 j)) 1,re 2,bb e,re 2]
  obtain⟨t,k,a⟩:=Xa a
  rcases cor a with⟨h,a⟩|⟨h,a⟩
  ·cases a
   obtain rfl:=f _ rfl
   obtain rfl:=soj b
   exact gE [re 1,bb c,.r (kX 5 c182 g::es 3 []) [],rk 1 (kC (CF285 j)) 1,re 2,bb e,rk 2 (kC (CF260 k)) 5,re 3,bb h,re 1]
  cases a
  exact gk 0 [re 1,bb c,.r (kX 5 c182 g::es 3 []) [],rk 1 (kC (CF285 j)) 1,re 2,bb e,rk 2 (kC (CF260 k)) 5,re 3,bb h,re 2,re 2]
 cases a
 obtain rfl:=f _ rfl
 exact ge 1 [re 1,bb c] λ_ u=>Xh ⟨(),b,u⟩
theorem CF193 {h g} (b:F193 h=some g):A0 193 [eS 5 c245 h] (iP g):=by
 refine gC Tryz.func193 ?_
 rcases cor b with⟨p,b⟩|⟨p,b⟩
 ·obtain rfl:=soj b
  exact gE [re 1,rk 1 (kL 5 c245 h) 1,bb p,re 1]
 refine gd 1 [re 1,rk 1 (kL 5 c245 h) 1,bb p] [] [] ?_
 refine gMq (λ(_:Unit)=>([],[],JF193_2)) g ?_ ?_
 ·rintro⟨⟩ b
  obtain rfl:=soj b
  exact gE [re 1]
 obtain⟨u,o,b⟩:=Xa b
 refine gPl 0 [rk 1 (kL 5 c245 h) 1] 0 o [0] (λq=>[(10,eS 5 c245 h),(11,iP (ln h)),(12,iP q)]) ?_
 rintro q t a n
 rcases cor a with⟨e,a⟩|⟨e,a⟩
 ·refine gd 1 [re 1,bb e] [] [] ?_
  refine gS ?_
  refine gB 1 ?_
  obtain⟨m,k,s,j,a⟩:=bs2 a
  rcases cor a with⟨d,a⟩|⟨d,a⟩
  ·cases a
   obtain rfl:=n _ rfl
   obtain rfl:=soj b
   exact gE [.r (kX 5 c245 k::es 3 []) [],rk 2 (kC (CF260 j)) 5,re 2,bb d,re 2]
  refine gD 1 [.r (kX 5 c245 k::es 3 []) [],rk 2 (kC (CF260 j)) 5,re 2,bb d] [] [(4,.bp 0 0)] 0 [.cells (c245 m)] ?_
  refine gMD [4] 0 (λf=>([(32,bP f)],[],JF193_17 q f)) t ?_ ?_
  ·rintro f a
   rcases cor a with⟨i,a⟩|⟨i,a⟩
   ·cases a
    obtain rfl:=n _ rfl
    obtain rfl:=soj b
    exact gE [bb i,re 1]
   refine gNd [bb i] [32] [] ?_
   cases a
   exact gj [re 2]
  rcases cor a with⟨c,a⟩|⟨c,a⟩
  ·exact gk 0 [rs 4 (rP 3 c (kU c::[]))] λ_ _ l=>⟨true,a,l⟩
  exact gk 0 [rs 4 (rQ 3 c (kF true (decide (m.fA>6)) c::[]))] λ_ _ l=>⟨_,a,l⟩
 cases a
 obtain rfl:=n _ rfl
 exact ge 0 [re 1,bb e] λ_ l=>Xh ⟨(),b,l⟩
theorem CF286 {i h} (b:F286 i=some h):A0 286 [.agg (c171 i)] (iP h):=by
 refine gC Tryz.func286 ?_
 refine gP 0 [re 2] [(1,.bp 0 0)] [.cells (c171 i)] ?_
 refine gS ?_
 refine gB 0 ?_
 refine gMd [] (λx=>([(4,bP x)],JF286_2 i x)) h ?_ ?_
 ·rintro x b
  rcases cor b with⟨s,b⟩|⟨s,b⟩
  ·obtain rfl:=soj b
   exact gE [bb s,re 1]
  rcases cor b with⟨v,b⟩|⟨v,b⟩
  ·obtain rfl:=soj b
   exact gE [bb s,re 5,bb v,re 1]
  refine gNd [bb s,re 5,bb v] [4] [] ?_
  refine gMd [] (λ(_:Unit)=>([],JF286_5 i)) h ?_ ?_
  ·rintro⟨⟩ b
   refine gS ?_
   refine gMq (λt=>([(44,bP t)],[],JF286_7 t)) h ?_ ?_
   ·rintro t b
    rcases cor b with⟨u,b⟩|⟨u,b⟩
    ·obtain rfl:=soj b
     exact gE [bb u,re 1]
    refine gNd [bb u] [44] [] ?_
    obtain rfl:=soj b
    exact gE [re 1]
   rcases cor b with⟨p,b⟩|⟨p,b⟩
   ·exact gk 0 [rs 4 (rQ 3 p (kT (i.faq==1) false p::[]))] λ_ _ f=>⟨_,b,f⟩
   exact gk 0 [rs 4 (rP 3 p (kV p::[]))] λ_ _ f=>⟨false,b,f⟩
  obtain⟨z,q,b⟩:=Xa b
  refine gPl 0 [re 4] 1 q [] (λd=>[(20,iP (lns i.fP)),(21,iP d)]) ?_
  rintro d y a m
  rcases cor a with⟨l,a⟩|⟨l,a⟩
  ·refine gd 1 [re 1,bb l] [] [] ?_
   refine gS ?_
   refine gB 2 ?_
   refine gd 0 [re 2] [] [(3,iP d)] ?_
   refine gMd [3] (λj=>([(35,bP j)],JF286_18 d j)) y ?_ ?_
   ·rintro j a
    rcases cor a with⟨k,a⟩|⟨k,a⟩
    ·cases a
     obtain rfl:=m _ rfl
     obtain rfl:=soj b
     exact gE [bb k,re 1]
    refine gNd [bb k] [35] [] ?_
    cases a
    exact gj [re 2]
   obtain⟨n,r,a⟩:=Xa a
   rcases cor a with⟨e,a⟩|⟨e,a⟩
   ·exact gj [rs 3 (⟨.pu (.idxStr (.c (sP i.fP)) (.c (iP d))) (.sc (.int .u8 ((UInt8.toNat n:Nat):Int))),n_ch r⟩::es 2 (rP 5 e (kU e::[])))] λ_ f=>⟨true,a,f⟩
   obtain⟨o,w,a⟩:=Xa a
   exact gj [rs 3 (⟨.pu (.idxStr (.c (sP i.fP)) (.c (iP d))) (.sc (.int .u8 ((UInt8.toNat n:Nat):Int))),n_ch r⟩::es 2 (rQ 3 e (bq e::⟨.pu (.idxStr (.c (sP i.fP)) (.c (iP d))) (.sc (.int .u8 ((UInt8.toNat o:Nat):Int))),n_ch w⟩::bq e::es 1 (kF true (((UInt8.toNat o:Nat):Int)==127) e::[]))))] λ_ f=>⟨_,a,f⟩
  cases a
  obtain rfl:=m _ rfl
  exact ge 1 [re 1,bb l] λ_ f=>Xh ⟨(),b,f⟩
 rcases cor b with⟨g,b⟩|⟨g,b⟩
 ·exact gj [rs 4 (rP 3 g (kU g::es 1 []))] λ_ f=>⟨true,b,f⟩
 exact gj [rs 4 (rQ 3 g (kF true (decide (i.faq>2)) g::es 1 []))] λ_ f=>⟨_,b,f⟩
theorem CF287 {b a} (c:F287 b=some a):A0 287 [.agg (c171 b)] (bP a):=by
 refine gC Tryz.func287 ?_
 obtain rfl:=soj c
 exact gE [re 2,re 4]
theorem CF221 {c d} (b:F221 c=some d):A0 221 [eS 2 c171 c] (iP d):=by
 refine gC Tryz.func221 ?_
 rcases cor b with⟨o,b⟩|⟨o,b⟩
 ·obtain rfl:=soj b
  exact gE [re 1,rk 1 (kL 2 c171 c) 1,bb o,re 1]
 refine gd 1 [re 1,rk 1 (kL 2 c171 c) 1,bb o] [] [] ?_
 refine gMd [] (λ(_:Unit)=>([],JF221_2 c)) d ?_ ?_
 ·rintro⟨⟩ b
  refine gS ?_
  refine gd 0 [rk 1 (kL 2 c171 c) 1] [] [(6,iP (ln c))] ?_
  refine gMq (λq=>([(33,bP q)],[],JF221_4 q)) d ?_ ?_
  ·rintro q b
   rcases cor b with⟨p,b⟩|⟨p,b⟩
   ·obtain rfl:=soj b
    exact gE [bb p,re 1]
   refine gNd [bb p] [33] [] ?_
   obtain rfl:=soj b
   exact gE [re 1]
  rcases cor b with⟨f,b⟩|⟨f,b⟩
  ·obtain⟨y,s,t,n,b⟩:=bs2 b
   exact gj [rs 3 (rQ 3 f (bq f::kX 2 c171 s::bq f::es 1 (bq f::kC (CF287 n)::kT t false f::[])))] λ_ k=>⟨_,b,k⟩
  exact gj [rs 3 (rP 6 f (kV f::[]))] λ_ k=>⟨false,b,k⟩
 obtain⟨v,h,b⟩:=Xa b
 refine gPl 0 [rk 1 (kL 2 c171 c) 1] 0 h [] (λm=>[(10,eS 2 c171 c),(11,iP (ln c)),(12,iP m)]) ?_
 rintro m u a l
 rcases cor a with⟨e,a⟩|⟨e,a⟩
 ·obtain⟨w,i,x,j,a⟩:=bs2 a
  rcases cor a with⟨g,a⟩|⟨g,a⟩
  ·cases a
   obtain rfl:=l _ rfl
   obtain rfl:=soj b
   exact gE [re 1,bb e,.r (kX 2 c171 i::es 3 []) [],rk 1 (kC (CF286 j)) 1,re 2,bb g,re 2]
  cases a
  exact gk 0 [re 1,bb e,.r (kX 2 c171 i::es 3 []) [],rk 1 (kC (CF286 j)) 1,re 2,bb g,re 2]
 cases a
 obtain rfl:=l _ rfl
 exact ge 0 [re 1,bb e] λ_ k=>Xh ⟨(),b,k⟩
theorem CF142 {k c} (a:F142 k=some c):A0 142 [.agg (c147 k)] (iP c):=by
 refine gC Tryz.func142 ?_
 obtain⟨U,t,R,u,S,v,a⟩:=bs3 a
 rcases cor a with⟨l,a⟩|⟨l,a⟩
 ·obtain rfl:=soj a
  exact gE [re 2,.r (es 3 (kC (CF215 t)::es 3 [])) (kC (CF215 u)::es 1 (kC (CF214 v)::es 1 [])),re 2,bb l,re 2]
 obtain⟨T,z,a⟩:=Xa a
 rcases cor a with⟨e,a⟩|⟨e,a⟩
 ·obtain rfl:=soj a
  exact gE [re 2,.r (es 3 (kC (CF215 t)::es 3 [])) (kC (CF215 u)::es 1 (kC (CF214 v)::es 1 [])),re 2,bb l,rk 2 (kC (CF216 z)) 1,bb e,re 1]
 obtain⟨M,p,H,n,a⟩:=bs2 a
 rcases cor a with⟨h,a⟩|⟨h,a⟩
 ·obtain rfl:=soj a
  exact gE [re 2,.r (es 3 (kC (CF215 t)::es 3 [])) (kC (CF215 u)::es 1 (kC (CF214 v)::es 1 [])),re 2,bb l,rk 2 (kC (CF216 z)) 1,bb e,.r (es 2 (kC (CF218 p)::[])) (kC (CF217 n)::es 1 []),bb h,re 1]
 refine gP 3 [re 2,.r (es 3 (kC (CF215 t)::es 3 [])) (kC (CF215 u)::es 1 (kC (CF214 v)::es 1 [])),re 2,bb l,rk 2 (kC (CF216 z)) 1,bb e,.r (es 2 (kC (CF218 p)::[])) (kC (CF217 n)::es 1 []),bb h] [(1,.bp 0 0)] [.cells (c147 k)] ?_
 refine gS ?_
 refine gMd [] (λi=>([(35,bP i)],JF142_17 k i)) c ?_ ?_
 ·rintro i a
  rcases cor a with⟨g,a⟩|⟨g,a⟩
  ·obtain rfl:=soj a
   exact gE [bb g,re 1]
  refine gNd [bb g] [35] [] ?_
  refine gMd [] (λ(_:Unit)=>([],JF142_19 k)) c ?_ ?_
  ·rintro⟨⟩ a
   obtain⟨J,E,G,D,P,x,a⟩:=bs3 a
   obtain⟨F,y,N,C,K,w,a⟩:=bs3 a
   obtain rfl:=soj a
   exact gE [.r (es 2 (kC (CF215 E)::es 2 (kC (CF215 D)::es 2 (kC (CF215 x)::es 2 (kC (CF215 y)::es 2 []))))) (kC (CF215 C)::es 1 (kC (CF214 w)::es 1 []))]
  rcases cor a with⟨d,a⟩|⟨d,a⟩
  ·obtain⟨Q,s,I,m,O,q,a⟩:=bs3 a
   obtain⟨L,o,a⟩:=Xa a
   rcases cor a with⟨f,a⟩|⟨f,a⟩
   ·obtain rfl:=soj a
    exact gE [re 3,bb d,.r (es 2 (kC (CF220 s)::es 2 (kC (CF193 m)::es 2 []))) (kC (CF221 q)::es 1 (kC (CF214 o)::es 1 [])),re 2,bb f,re 2]
   exact gj [re 3,bb d,.r (es 2 (kC (CF220 s)::es 2 (kC (CF193 m)::es 2 []))) (kC (CF221 q)::es 1 (kC (CF214 o)::es 1 [])),re 2,bb f] λ_ j=>⟨(),a,j⟩
  exact gj [re 3,bb d] λ_ j=>⟨(),a,j⟩
 rcases cor a with⟨b,a⟩|⟨b,a⟩
 ·obtain⟨B,A,a⟩:=Xa a
  exact gj [rs 4 (rQ 2 b (bq b::kC (CF219 A)::bq b::es 1 (kT (B !=0) false b::[])))] λ_ j=>⟨_,a,j⟩
 exact gj [rs 4 (rP 4 b (kV b::[]))] λ_ j=>⟨false,a,j⟩
theorem CF207 {c a} (b:F207 c=some a):A0 207 [.agg (c147 c)] (bP a):=by
 refine gC Tryz.func207 ?_
 obtain⟨e,d,b⟩:=Xa b
 obtain rfl:=soj b
 exact gE [re 2,rk 1 (kC (CF142 d)) 2]
theorem CF280_1 {g c} (d:F280_1 g=some c):A0 280 [eS 13 c147 g,(fk 207)] (iP c):=by
 refine gC Tryz.func280 ?_
 refine gd 0 [re 1] [] [] ?_
 refine gMq (λ(_:Unit)=>([],[],JF280_1_1)) c ?_ ?_
 ·rintro⟨⟩ d
  obtain rfl:=soj d
  exact gE [re 1]
 obtain⟨o,i,d⟩:=Xa d
 refine gPl 0 [rk 1 (kL 13 c147 g) 1] 0 i [] (λj=>[(7,iP (ln g)),(8,iP j)]) ?_
 rintro j p a k
 rcases cor a with⟨h,a⟩|⟨h,a⟩
 ·obtain⟨l,f,m,e,a⟩:=bs2 a
  rcases cor a with⟨b,a⟩|⟨b,a⟩
  ·cases a
   obtain rfl:=k _ rfl
   obtain rfl:=soj d
   exact gE [re 1,bb h,re 2,rs 3 (kX 13 c147 f::es 1 (kC (CF207 e)::[])),bb b,re 2]
  cases a
  exact gj [re 1,bb h,re 2,rs 3 (kX 13 c147 f::es 1 (kC (CF207 e)::[])),bb b,re 2]
 cases a
 obtain rfl:=k _ rfl
 exact ge 0 [re 1,bb h] λ_ n=>Xh ⟨(),d,n⟩
theorem CF212_1 {c a} (b:F212_1 c=some a):A0 212 [eS 13 c147 c,(fk 207)] (bP a):=by
 refine gC Tryz.func212 ?_
 obtain⟨e,d,b⟩:=Xa b
 obtain rfl:=soj b
 exact gE [re 1,rk 2 (kC (CF280_1 d)) 2]
end
end Go.Proofs.YtibndgdocbbbeaaGreat
