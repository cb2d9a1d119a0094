/- A part of the proof. -/
import Derived.Test.YtibndgdocbbbeaaGreatFC3
import Derived.Test.YtibndgdocbbbeaaGreatHD
import Derived.Test.YtibndgdocbbbeaaGreatSY13
import Derived.Test.YtibndgdocbbbeaaGreatHA
set_option linter.all false
set_option maxRecDepth 100000
set_option maxHeartbeats 40000000
set_option synthInstance.maxSize 100000
namespace Go.Proofs.YtibndgdocbbbeaaGreat
open Go.PE
noncomputable section
theorem CF140_5 {e h T v} (S:F140_5 e h T=some v):A1 140 [.bp 0 0,(.fn (.func 167) [] [.bp 2 0])] (hC e h T++[.cells [.bp 0 0]]) (.tup []) (hC e h v++[.cells [.bp 0 0]]):=by
 refine gC Tryz.func140 ?_
 obtain⟨o7,F,S⟩:=Xa S
 refine gPL 0 [rk 5 (kL 22 c75 e.fc) 1] 0 F [] 0 (λ(E,U)=>([(16,eS 22 c75 e.fc),(17,iP (ln e.fc)),(18,iP E)],hC e h U++[.cells [.bp 0 0]])) ?_
 rintro⟨E,U⟩ X g M
 rcases cor g with⟨t,g⟩|⟨t,g⟩
 ·refine gd 1 [re 1,bb t] [] [] ?_
  refine gMD [] 0 (λo=>([],hC e h o++[.cells [.bp 0 0]],Qg E o)) X ?_ ?_
  ·rintro o g
   cases g
   exact gj [re 2]
  refine gB 1 ?_
  obtain⟨c,Q,g⟩:=Xa g
  obtain⟨ac,D,g⟩:=Xa g
  refine gPL 1 [rk 1 (kX 22 c75 Q) 4,rk 2 (kL 2 c95 c.ff) 1] 2 D [] 0 (λ(m,B)=>([(4,iP E),(24,eS 2 c95 c.ff),(25,iP (ln c.ff)),(26,iP m)],hC e h B++[.cells [.bp 0 0],.cells (c75 c)])) ?_
  rintro⟨m,B⟩ G a L
  rcases cor a with⟨p,a⟩|⟨p,a⟩
  ·refine gd 1 [re 1,bb p] [] [] ?_
   refine gMD [] 0 (λn=>([],hC e h n++[.cells [.bp 0 0],.cells (c75 c)],Qf m n)) G ?_ ?_
   ·rintro n a
    cases a
    exact gj [re 2]
   refine gB 3 ?_
   obtain⟨f,K,a⟩:=Xa a
   obtain⟨Z,y,a⟩:=Xa a
   refine gPL 1 [rk 1 (kX 2 c95 K) 4,rk 2 (kL 2 c100 f.fh) 1] 4 y [] 0 (λ(l,z)=>([(6,iP m),(32,eS 2 c100 f.fh),(33,iP (ln f.fh)),(34,iP l)],hC e h z++[.cells [.bp 0 0],.cells (c75 c),.cells (c95 f)])) ?_
   rintro⟨l,z⟩ R b N
   rcases cor b with⟨u,b⟩|⟨u,b⟩
   ·refine gd 1 [re 1,bb u] [] [] ?_
    refine gMD [] 0 (λq=>([],hC e h q++[.cells [.bp 0 0],.cells (c75 c),.cells (c95 f)],Qe l q)) R ?_ ?_
    ·rintro q b
     cases b
     exact gj [re 2]
    refine gB 5 ?_
    obtain⟨i,H,b⟩:=Xa b
    obtain⟨aa,A,b⟩:=Xa b
    refine gPL 1 [rk 1 (kX 2 c100 H) 4,rk 2 (kL 13 c147 i.fg) 1] 6 A [] 0 (λ(w,x)=>([(8,iP l),(40,eS 13 c147 i.fg),(41,iP (ln i.fg)),(42,iP w)],hC e h x++[.cells [.bp 0 0],.cells (c75 c),.cells (c95 f),.cells (c100 i)])) ?_
    rintro⟨w,x⟩ ab d O
    rcases cor d with⟨s,d⟩|⟨s,d⟩
    ·obtain⟨V,P,Y,I,W,J,d⟩:=bs3 d
     cases d
     exact gk 6 [re 1,bb s,rk 1 (kX 13 c147 P) 4,.r (es 8 (kQ [2,0,1] [] 0 1 (CF167_1 I)::es 2 [])) (kK [0,1] [] 0 0 (Yd J)::[]),re 2]
    cases d
    obtain rfl:=O _ rfl
    exact gke 5 6 [re 1,bb s] λ_ _ C=>Xh ⟨_,b,C⟩
   cases b
   obtain rfl:=N _ rfl
   exact gke 4 4 [re 1,bb u] λ_ _ C=>Xh ⟨_,a,C⟩
  cases a
  obtain rfl:=L _ rfl
  exact gke 3 2 [re 1,bb p] λ_ _ C=>Xh ⟨_,g,C⟩
 cases g
 obtain rfl:=M _ rfl
 obtain rfl:=soj S
 exact g_rh 3 [re 1,bb t] (.exit 0) λ_ _ k j=>Xh (hn k j)
theorem CF76_1 {d b e a} (c:Zx d b e=some a):A1 76 [.bp 0 0] (hC d b e) (.tup []) (hC d b a):=by
 refine gC Tryz.func76 ?_
 obtain⟨g,f,c⟩:=Xa c
 obtain rfl:=soj c
 exact gHn 2 [re 1,rk 2 (kK [0,1,2] [] 0 0 (CF140_5 f)) 0]
abbrev ql_0:PV:=(.sl false .full 1 [[(.fn (.func 60) [.bp 1 0] [])],[(.fn (.func 61) [.bp 1 0] [])],[(.fn (.func 62) [.bp 1 0] [])],[(.fn (.func 63) [.bp 1 0] [])],[(.fn (.func 64) [.bp 1 0] [])],[(.fn (.func 65) [.bp 1 0] [])],[(.fn (.func 66) [.bp 1 0] [])],[(.fn (.func 67) [.bp 1 0] [])],[(.fn (.func 68) [.bp 1 0] [])],[(.fn (.func 69) [.bp 1 0] [])],[(.fn (.func 70) [.bp 1 0] [])],[(.fn (.func 71) [.bp 1 0] [])],[(.fn (.func 72) [.bp 1 0] [])],[(.fn (.func 73) [.bp 1 0] [])],[(.fn (.func 74) [.bp 1 0] [])],[(.fn (.func 75) [.bp 1 0] [])],[(.fn (.func 76) [.bp 1 0] [])]])
theorem CF29 {c f} (a:F29 c=some f):A0 29 [.agg (c27 c)] (eS 3 c159 f):=by
 refine gC Tryz.func29 ?_
 refine gPW 1 [re 2,re 4] [(3,.bp 1 0)] [.cells (c27 c),.cells (c27 c++[iP 0,eS 3 c159 Sl.nil])] [(3,.bp 1 0)] [.cells (c27 c),.cells (c27 c++[iP 0,oP 2 3 c159 ([]:List G159)]),.grow (List.length ([]:List G159)) 3] ((WeakS.refl _ _ _).trans ((Uj 3).trans (weak_blk (cs':=[sP c.fay,bP c.faH,eS 6 c68 c.fi,eS 22 c75 c.fc,eS 7 c213 c.fp,eS 2 c58 c.fG,iP 0,oP 2 3 c159 ([]:List G159)]) 1 rfl (qc (PSub.refl _) (qc (PSub.refl _) (qc (PSub.refl _) (qc (PSub.refl _) (qc (PSub.refl _) (qc (PSub.refl _) (qc (PSub.refl _) (qc Uk qe))))))))))) ?_
 refine gP 0 [re 36] [(3,.bp 1 0),(4,ql_0)] [.cells (c27 c),.cells (c27 c++[iP 0,oP 2 3 c159 ([]:List G159)]),.grow (List.length ([]:List G159)) 3] ?_
 refine gMD [4] 1 (λ(x:Int×(List G159))=>match x with|(v1,X)=>([],[.cells (c27 c++[iP v1,oP 2 3 c159 X]),.grow (List.length X) 3],Wa v1 X)) f ?_ ?_
 ·rintro⟨v1,X⟩ a
  refine Yp [re 5] .ret [(2,oP 2 3 c159 X)] [.cells (c27 c),.cells (c27 c++[iP v1,oP 2 3 c159 X]),.grow (List.length X) 3] (λe d=>?_)
  obtain rfl:=soj a
  exact Zf (r:=(oP 2 3 c159 X)) (.inr rfl) d (by kernel_rfl) (We cl159) ⟨rfl,rfl⟩
 refine gd 0 [re 3] [4] [(45,ql_0),(46,iP 17),(47,iP 0)] ?_
 refine gB 0 ?_
 refine gU 18 (Wc (le':=[(3,.bp 1 0),(45,ql_0),(46,iP 17),(47,iP 0)]) (by kernel_rfl)) ?_
 refine Zb ?_
 refine gP 1 [re 1,bT] [(3,.bp 1 0),(45,ql_0),(46,iP 17),(47,iP 0)] [.cells (c27 c),.cells (c27 c++[iP 0,oP 2 3 c159 ([]:List G159)]),.grow (List.length ([]:List G159)) 3] ?_
 refine gS ?_
 refine gB 1 ?_
 refine gD 1 [re 5,re 6] [] [(6,(.fn (.func 60) [.bp 1 0] []))] 1 [.cells (c27 c++[iP 1,oP 2 3 c159 ([]:List G159)]),.grow (List.length ([]:List G159)) 3] ?_
 refine gS ?_
 refine gMd [] (λ(_:Unit)=>([(86,bP false)],JF29_4 c)) f ?_ ?_
 ·rintro⟨⟩ a
  refine gNd [bF] [86] [] ?_
  obtain⟨W,h9,a⟩:=Xa a
  refine gND [rk 1 (kK [1,2] [] 1 0 (CF60_1 h9)) 0] [6] [] 1 [.cells (c27 c++[iP 1,oP 2 3 c159 W]),.grow (List.length W) 3] ?_
  refine gNd [re 2] [] [(47,iP 1)] ?_
  refine Zb ?_
  refine gP 1 [re 1,bT] [(3,.bp 1 0),(45,ql_0),(46,iP 17),(47,iP 1)] [.cells (c27 c),.cells (c27 c++[iP 1,oP 2 3 c159 W]),.grow (List.length W) 3] ?_
  refine gS ?_
  refine gB 1 ?_
  refine gD 1 [re 5,re 6] [] [(6,(.fn (.func 61) [.bp 1 0] []))] 1 [.cells (c27 c++[iP 2,oP 2 3 c159 W]),.grow (List.length W) 3] ?_
  refine gS ?_
  refine gMd [] (λaa=>([(86,bP aa)],JF29_11 W c aa)) f ?_ ?_
  ·rintro aa a
   rcases cor a with⟨ab,a⟩|⟨ab,a⟩
   ·exact ge 0 [bb ab] λ_ d=>q_miss rfl (Xh ⟨(2,W),a,d⟩)
   refine gNd [bb ab] [86] [] ?_
   obtain⟨O,aK,a⟩:=Xa a
   refine gND [rk 1 (kK [1,2] [] 1 0 (CF61_1 aK)) 0] [6] [] 1 [.cells (c27 c++[iP 2,oP 2 3 c159 O]),.grow (List.length O) 3] ?_
   refine gNd [re 2] [] [(47,iP 2)] ?_
   refine Zb ?_
   refine gP 1 [re 1,bT] [(3,.bp 1 0),(45,ql_0),(46,iP 17),(47,iP 2)] [.cells (c27 c),.cells (c27 c++[iP 2,oP 2 3 c159 O]),.grow (List.length O) 3] ?_
   refine gS ?_
   refine gB 1 ?_
   refine gD 1 [re 5,re 6] [] [(6,(.fn (.func 62) [.bp 1 0] []))] 1 [.cells (c27 c++[iP 3,oP 2 3 c159 O]),.grow (List.length O) 3] ?_
   refine gS ?_
   refine gMd [] (λ(_:Unit)=>([(86,bP false)],JF29_18 c O)) f ?_ ?_
   ·rintro⟨⟩ a
    refine gNd [bF] [86] [] ?_
    obtain⟨K,aP,a⟩:=Xa a
    refine gND [rk 1 (kK [1,2] [] 1 0 (CF62_1 aP)) 0] [6] [] 1 [.cells (c27 c++[iP 3,oP 2 3 c159 K]),.grow (List.length K) 3] ?_
    refine gNd [re 2] [] [(47,iP 3)] ?_
    refine Zb ?_
    refine gP 1 [re 1,bT] [(3,.bp 1 0),(45,ql_0),(46,iP 17),(47,iP 3)] [.cells (c27 c),.cells (c27 c++[iP 3,oP 2 3 c159 K]),.grow (List.length K) 3] ?_
    refine gS ?_
    refine gB 1 ?_
    refine gD 1 [re 5,re 6] [] [(6,(.fn (.func 63) [.bp 1 0] []))] 1 [.cells (c27 c++[iP 4,oP 2 3 c159 K]),.grow (List.length K) 3] ?_
    refine gS ?_
    refine gMd [] (λ(_:Unit)=>([(86,bP false)],JF29_24 c K)) f ?_ ?_
    ·rintro⟨⟩ a
     refine gNd [bF] [86] [] ?_
     obtain⟨N,aO,a⟩:=Xa a
     refine gND [rk 1 (kK [1,2] [] 1 0 (CF63_1 aO)) 0] [6] [] 1 [.cells (c27 c++[iP 4,oP 2 3 c159 N]),.grow (List.length N) 3] ?_
     refine gNd [re 2] [] [(47,iP 4)] ?_
     refine Zb ?_
     refine gP 1 [re 1,bT] [(3,.bp 1 0),(45,ql_0),(46,iP 17),(47,iP 4)] [.cells (c27 c),.cells (c27 c++[iP 4,oP 2 3 c159 N]),.grow (List.length N) 3] ?_
     refine gS ?_
     refine gB 1 ?_
     refine gD 1 [re 5,re 6] [] [(6,(.fn (.func 64) [.bp 1 0] []))] 1 [.cells (c27 c++[iP 5,oP 2 3 c159 N]),.grow (List.length N) 3] ?_
     refine gS ?_
     refine gMd [] (λ(_:Unit)=>([(86,bP false)],JF29_30 c N)) f ?_ ?_
     ·rintro⟨⟩ a
      refine gNd [bF] [86] [] ?_
      obtain⟨J,aM,a⟩:=Xa a
      refine gND [rk 1 (kK [1,2] [] 1 0 (CF64_1 aM)) 0] [6] [] 1 [.cells (c27 c++[iP 5,oP 2 3 c159 J]),.grow (List.length J) 3] ?_
      refine gNd [re 2] [] [(47,iP 5)] ?_
      refine Zb ?_
      refine gP 1 [re 1,bT] [(3,.bp 1 0),(45,ql_0),(46,iP 17),(47,iP 5)] [.cells (c27 c),.cells (c27 c++[iP 5,oP 2 3 c159 J]),.grow (List.length J) 3] ?_
      refine gS ?_
      refine gB 1 ?_
      refine gD 1 [re 5,re 6] [] [(6,(.fn (.func 65) [.bp 1 0] []))] 1 [.cells (c27 c++[iP 6,oP 2 3 c159 J]),.grow (List.length J) 3] ?_
      refine gS ?_
      refine gMd [] (λ(_:Unit)=>([(86,bP false)],JF29_36 c J)) f ?_ ?_
      ·rintro⟨⟩ a
       refine gNd [bF] [86] [] ?_
       obtain⟨L,aG,a⟩:=Xa a
       refine gND [rk 1 (kK [1,2] [] 1 0 (CF65_1 aG)) 0] [6] [] 1 [.cells (c27 c++[iP 6,oP 2 3 c159 L]),.grow (List.length L) 3] ?_
       refine gNd [re 2] [] [(47,iP 6)] ?_
       refine Zb ?_
       refine gP 1 [re 1,bT] [(3,.bp 1 0),(45,ql_0),(46,iP 17),(47,iP 6)] [.cells (c27 c),.cells (c27 c++[iP 6,oP 2 3 c159 L]),.grow (List.length L) 3] ?_
       refine gS ?_
       refine gB 1 ?_
       refine gD 1 [re 5,re 6] [] [(6,(.fn (.func 66) [.bp 1 0] []))] 1 [.cells (c27 c++[iP 7,oP 2 3 c159 L]),.grow (List.length L) 3] ?_
       refine gS ?_
       refine gMd [] (λ(_:Unit)=>([(86,bP false)],JF29_42 c L)) f ?_ ?_
       ·rintro⟨⟩ a
        refine gNd [bF] [86] [] ?_
        obtain⟨M,aR,a⟩:=Xa a
        refine gND [rk 1 (kK [1,2] [] 1 0 (CF66_1 aR)) 0] [6] [] 1 [.cells (c27 c++[iP 7,oP 2 3 c159 M]),.grow (List.length M) 3] ?_
        refine gNd [re 2] [] [(47,iP 7)] ?_
        refine Zb ?_
        refine gP 1 [re 1,bT] [(3,.bp 1 0),(45,ql_0),(46,iP 17),(47,iP 7)] [.cells (c27 c),.cells (c27 c++[iP 7,oP 2 3 c159 M]),.grow (List.length M) 3] ?_
        refine gS ?_
        refine gB 1 ?_
        refine gD 1 [re 5,re 6] [] [(6,(.fn (.func 67) [.bp 1 0] []))] 1 [.cells (c27 c++[iP 8,oP 2 3 c159 M]),.grow (List.length M) 3] ?_
        refine gS ?_
        refine gMd [] (λ(_:Unit)=>([(86,bP false)],JF29_48 c M)) f ?_ ?_
        ·rintro⟨⟩ a
         refine gNd [bF] [86] [] ?_
         obtain⟨I,aL,a⟩:=Xa a
         refine gND [rk 1 (kK [1,2] [] 1 0 (CF67_1 aL)) 0] [6] [] 1 [.cells (c27 c++[iP 8,oP 2 3 c159 I]),.grow (List.length I) 3] ?_
         refine gNd [re 2] [] [(47,iP 8)] ?_
         refine Zb ?_
         refine gP 1 [re 1,bT] [(3,.bp 1 0),(45,ql_0),(46,iP 17),(47,iP 8)] [.cells (c27 c),.cells (c27 c++[iP 8,oP 2 3 c159 I]),.grow (List.length I) 3] ?_
         refine gS ?_
         refine gB 1 ?_
         refine gD 1 [re 5,re 6] [] [(6,(.fn (.func 68) [.bp 1 0] []))] 1 [.cells (c27 c++[iP 9,oP 2 3 c159 I]),.grow (List.length I) 3] ?_
         refine gS ?_
         refine gMd [] (λ(_:Unit)=>([(86,bP false)],JF29_54 c I)) f ?_ ?_
         ·rintro⟨⟩ a
          refine gNd [bF] [86] [] ?_
          obtain⟨n,aH,a⟩:=Xa a
          refine gND [rk 1 (kK [1,2] [] 1 0 (CF68_1 aH)) 0] [6] [] 1 [.cells (c27 c++[iP 9,oP 2 3 c159 n]),.grow (List.length n) 3] ?_
          refine gNd [re 2] [] [(47,iP 9)] ?_
          refine Zb ?_
          refine gP 1 [re 1,bT] [(3,.bp 1 0),(45,ql_0),(46,iP 17),(47,iP 9)] [.cells (c27 c),.cells (c27 c++[iP 9,oP 2 3 c159 n]),.grow (List.length n) 3] ?_
          refine gS ?_
          refine gB 1 ?_
          refine gD 1 [re 5,re 6] [] [(6,(.fn (.func 69) [.bp 1 0] []))] 1 [.cells (c27 c++[iP 10,oP 2 3 c159 n]),.grow (List.length n) 3] ?_
          refine gS ?_
          refine gMd [] (λac=>([(86,bP ac)],Uh n c ac)) f ?_ ?_
          ·rintro ac a
           rcases cor a with⟨aj,a⟩|⟨aj,a⟩
           ·exact ge 0 [bb aj] λ_ d=>q_miss rfl (Xh ⟨(10,n),a,d⟩)
           refine gNd [bb aj] [86] [] ?_
           obtain⟨i,aI,a⟩:=Xa a
           refine gND [rk 1 (kK [1,2] [] 1 0 (CF69_1 aI)) 0] [6] [] 1 [.cells (c27 c++[iP 10,oP 2 3 c159 i]),.grow (List.length i) 3] ?_
           refine gNd [re 2] [] [(47,iP 10)] ?_
           refine Zb ?_
           refine gP 1 [re 1,bT] [(3,.bp 1 0),(45,ql_0),(46,iP 17),(47,iP 10)] [.cells (c27 c),.cells (c27 c++[iP 10,oP 2 3 c159 i]),.grow (List.length i) 3] ?_
           refine gS ?_
           refine gB 1 ?_
           refine gD 1 [re 5,re 6] [] [(6,(.fn (.func 70) [.bp 1 0] []))] 1 [.cells (c27 c++[iP 11,oP 2 3 c159 i]),.grow (List.length i) 3] ?_
           refine gS ?_
           refine gMd [] (λad=>([(86,bP ad)],Ug i c ad)) f ?_ ?_
           ·rintro ad a
            rcases cor a with⟨ae,a⟩|⟨ae,a⟩
            ·exact ge 0 [bb ae] λ_ d=>q_miss rfl (Xh ⟨(11,i),a,d⟩)
            refine gNd [bb ae] [86] [] ?_
            obtain⟨j,aF,a⟩:=Xa a
            refine gND [rk 1 (kK [1,2] [] 1 0 (CF70_1 aF)) 0] [6] [] 1 [.cells (c27 c++[iP 11,oP 2 3 c159 j]),.grow (List.length j) 3] ?_
            refine gNd [re 2] [] [(47,iP 11)] ?_
            refine Zb ?_
            refine gP 1 [re 1,bT] [(3,.bp 1 0),(45,ql_0),(46,iP 17),(47,iP 11)] [.cells (c27 c),.cells (c27 c++[iP 11,oP 2 3 c159 j]),.grow (List.length j) 3] ?_
            refine gS ?_
            refine gB 1 ?_
            refine gD 1 [re 5,re 6] [] [(6,(.fn (.func 71) [.bp 1 0] []))] 1 [.cells (c27 c++[iP 12,oP 2 3 c159 j]),.grow (List.length j) 3] ?_
            refine gS ?_
            refine gMd [] (λag=>([(86,bP ag)],Uf j c ag)) f ?_ ?_
            ·rintro ag a
             rcases cor a with⟨af,a⟩|⟨af,a⟩
             ·exact ge 0 [bb af] λ_ d=>q_miss rfl (Xh ⟨(12,j),a,d⟩)
             refine gNd [bb af] [86] [] ?_
             obtain⟨l,aJ,a⟩:=Xa a
             refine gND [rk 1 (kK [1,2] [] 1 0 (CF71_1 aJ)) 0] [6] [] 1 [.cells (c27 c++[iP 12,oP 2 3 c159 l]),.grow (List.length l) 3] ?_
             refine gNd [re 2] [] [(47,iP 12)] ?_
             refine Zb ?_
             refine gP 1 [re 1,bT] [(3,.bp 1 0),(45,ql_0),(46,iP 17),(47,iP 12)] [.cells (c27 c),.cells (c27 c++[iP 12,oP 2 3 c159 l]),.grow (List.length l) 3] ?_
             refine gS ?_
             refine gB 1 ?_
             refine gD 1 [re 5,re 6] [] [(6,(.fn (.func 72) [.bp 1 0] []))] 1 [.cells (c27 c++[iP 13,oP 2 3 c159 l]),.grow (List.length l) 3] ?_
             refine gS ?_
             refine gMd [] (λZ=>([(86,bP Z)],Ue l c Z)) f ?_ ?_
             ·rintro Z a
              rcases cor a with⟨Y,a⟩|⟨Y,a⟩
              ·exact ge 0 [bb Y] λ_ d=>q_miss rfl (Xh ⟨(13,l),a,d⟩)
              refine gNd [bb Y] [86] [] ?_
              obtain⟨k,aQ,a⟩:=Xa a
              refine gND [rk 1 (kK [1,2] [] 1 0 (CF72_1 aQ)) 0] [6] [] 1 [.cells (c27 c++[iP 13,oP 2 3 c159 k]),.grow (List.length k) 3] ?_
              refine gNd [re 2] [] [(47,iP 13)] ?_
              refine Zb ?_
              refine gP 1 [re 1,bT] [(3,.bp 1 0),(45,ql_0),(46,iP 17),(47,iP 13)] [.cells (c27 c),.cells (c27 c++[iP 13,oP 2 3 c159 k]),.grow (List.length k) 3] ?_
              refine gS ?_
              refine gB 1 ?_
              refine gD 1 [re 5,re 6] [] [(6,(.fn (.func 73) [.bp 1 0] []))] 1 [.cells (c27 c++[iP 14,oP 2 3 c159 k]),.grow (List.length k) 3] ?_
              refine gS ?_
              refine gMd [] (λai=>([(86,bP ai)],Ud k c ai)) f ?_ ?_
              ·rintro ai a
               rcases cor a with⟨ah,a⟩|⟨ah,a⟩
               ·exact ge 0 [bb ah] λ_ d=>q_miss rfl (Xh ⟨(14,k),a,d⟩)
               refine gNd [bb ah] [86] [] ?_
               obtain⟨m,aN,a⟩:=Xa a
               refine gND [rk 1 (kK [1,2] [] 1 0 (CF73_1 aN)) 0] [6] [] 1 [.cells (c27 c++[iP 14,oP 2 3 c159 m]),.grow (List.length m) 3] ?_
               refine gNd [re 2] [] [(47,iP 14)] ?_
               refine Zb ?_
               refine gP 1 [re 1,bT] [(3,.bp 1 0),(45,ql_0),(46,iP 17),(47,iP 14)] [.cells (c27 c),.cells (c27 c++[iP 14,oP 2 3 c159 m]),.grow (List.length m) 3] ?_
               refine gS ?_
               refine gB 1 ?_
               refine gD 1 [re 5,re 6] [] [(6,(.fn (.func 74) [.bp 1 0] []))] 1 [.cells (c27 c++[iP 15,oP 2 3 c159 m]),.grow (List.length m) 3] ?_
               refine gS ?_
               refine gMd [] (λP=>([(86,bP P)],Vd m c P)) f ?_ ?_
               ·rintro P a
                rcases cor a with⟨T,a⟩|⟨T,a⟩
                ·exact ge 0 [bb T] λ_ d=>q_miss rfl (Xh ⟨(15,m),a,d⟩)
                refine gNd [bb T] [86] [] ?_
                obtain⟨h,aw,a⟩:=Xa a
                refine gND [rk 1 (kK [1,2] [] 1 0 (CF74_1 aw)) 0] [6] [] 1 [.cells (c27 c++[iP 15,oP 2 3 c159 h]),.grow (List.length h) 3] ?_
                refine gNd [re 2] [] [(47,iP 15)] ?_
                refine Zb ?_
                refine gP 1 [re 1,bT] [(3,.bp 1 0),(45,ql_0),(46,iP 17),(47,iP 15)] [.cells (c27 c),.cells (c27 c++[iP 15,oP 2 3 c159 h]),.grow (List.length h) 3] ?_
                refine gS ?_
                refine gB 1 ?_
                refine gD 1 [re 5,re 6] [] [(6,(.fn (.func 75) [.bp 1 0] []))] 1 [.cells (c27 c++[iP 16,oP 2 3 c159 h]),.grow (List.length h) 3] ?_
                refine gS ?_
                refine gMd [] (λU=>([(86,bP U)],Vc h c U)) f ?_ ?_
                ·rintro U a
                 rcases cor a with⟨R,a⟩|⟨R,a⟩
                 ·exact ge 0 [bb R] λ_ d=>q_miss rfl (Xh ⟨(16,h),a,d⟩)
                 refine gNd [bb R] [86] [] ?_
                 obtain⟨g,ar,a⟩:=Xa a
                 refine gND [rk 1 (kK [1,2] [] 1 0 (CF75_1 ar)) 0] [6] [] 1 [.cells (c27 c++[iP 16,oP 2 3 c159 g]),.grow (List.length g) 3] ?_
                 refine gNd [re 2] [] [(47,iP 16)] ?_
                 refine Zb ?_
                 refine gP 1 [re 1,bT] [(3,.bp 1 0),(45,ql_0),(46,iP 17),(47,iP 16)] [.cells (c27 c),.cells (c27 c++[iP 16,oP 2 3 c159 g]),.grow (List.length g) 3] ?_
                 refine gS ?_
                 refine gB 1 ?_
                 refine gD 1 [re 5,re 6] [] [(6,(.fn (.func 76) [.bp 1 0] []))] 1 [.cells (c27 c++[iP 17,oP 2 3 c159 g]),.grow (List.length g) 3] ?_
                 refine gS ?_
                 refine gMd [] (λV=>([(86,bP V)],Vb g c V)) f ?_ ?_
                 ·rintro V a
                  rcases cor a with⟨Q,a⟩|⟨Q,a⟩
                  ·exact ge 0 [bb Q] λ_ d=>q_miss rfl (Xh ⟨(17,g),a,d⟩)
                  refine gNd [bb Q] [86] [] ?_
                  obtain⟨S,am,a⟩:=Xa a
                  refine gND [rk 1 (kK [1,2] [] 1 0 (CF76_1 am)) 0] [6] [] 1 [.cells (c27 c++[iP 17,oP 2 3 c159 S]),.grow (List.length S) 3] ?_
                  refine gNd [re 2] [] [(47,iP 17)] ?_
                  refine Zb ?_
                  exact ge 0 [re 1,bF] λ_ d=>Xh ⟨(17,S),a,d⟩
                 rcases cor a with⟨y,a⟩|⟨y,a⟩
                 ·obtain⟨aq,aA,a⟩:=Xa a
                  exact gj [rs 4 (kLA 2 3 c159 g::es 2 (rQ 6 y (rq 6 bqF (rq 4 bqT (bqT::kXA 2 3 c159 aA::rq 3 bqT (bq (t:=false) (b:=false) rfl::es 1 (bq y::es 1 (kT (decide (aq.fam<10)) false y::[]))))))))] λ_ d=>⟨_,a,d⟩
                 exact gj [rs 4 (kLA 2 3 c159 g::es 2 (rP 7 y (kV y::[])))] λ_ d=>⟨false,a,d⟩
                rcases cor a with⟨q,a⟩|⟨q,a⟩
                ·obtain⟨az,aE,a⟩:=Xa a
                 exact gj [rs 4 (kLA 2 3 c159 h::es 2 (rQ 6 q (rq 6 bqF (rq 4 bqT (bqT::kXA 2 3 c159 aE::rq 3 bqT (bq (t:=false) (b:=false) rfl::es 1 (bq q::es 1 (kT (decide (az.fam<10)) false q::[]))))))))] λ_ d=>⟨_,a,d⟩
                exact gj [rs 4 (kLA 2 3 c159 h::es 2 (rP 7 q (kV q::[])))] λ_ d=>⟨false,a,d⟩
               rcases cor a with⟨o,a⟩|⟨o,a⟩
               ·obtain⟨an,au,a⟩:=Xa a
                exact gj [rs 4 (kLA 2 3 c159 m::es 2 (rQ 6 o (rq 6 bqF (rq 4 bqT (bqT::kXA 2 3 c159 au::rq 3 bqT (bq (t:=false) (b:=false) rfl::es 1 (bq o::es 1 (kT (decide (an.fam<10)) false o::[]))))))))] λ_ d=>⟨_,a,d⟩
               exact gj [rs 4 (kLA 2 3 c159 m::es 2 (rP 7 o (kV o::[])))] λ_ d=>⟨false,a,d⟩
              rcases cor a with⟨C,a⟩|⟨C,a⟩
              ·obtain⟨aC,ak,a⟩:=Xa a
               exact gj [rs 4 (kLA 2 3 c159 k::es 2 (rQ 6 C (rq 6 bqF (rq 4 bqT (bqT::kXA 2 3 c159 ak::rq 3 bqT (bq (t:=false) (b:=false) rfl::es 1 (bq C::es 1 (kT (decide (aC.fam<10)) false C::[]))))))))] λ_ d=>⟨_,a,d⟩
              exact gj [rs 4 (kLA 2 3 c159 k::es 2 (rP 7 C (kV C::[])))] λ_ d=>⟨false,a,d⟩
             rcases cor a with⟨u,a⟩|⟨u,a⟩
             ·obtain⟨av,ax,a⟩:=Xa a
              exact gj [rs 4 (kLA 2 3 c159 l::es 2 (rQ 6 u (rq 6 bqF (rq 4 bqT (bqT::kXA 2 3 c159 ax::rq 3 bqT (bq (t:=false) (b:=false) rfl::es 1 (bq u::es 1 (kT (decide (av.fam<10)) false u::[]))))))))] λ_ d=>⟨_,a,d⟩
             exact gj [rs 4 (kLA 2 3 c159 l::es 2 (rP 7 u (kV u::[])))] λ_ d=>⟨false,a,d⟩
            rcases cor a with⟨p,a⟩|⟨p,a⟩
            ·obtain⟨al,aB,a⟩:=Xa a
             exact gj [rs 4 (kLA 2 3 c159 j::es 2 (rQ 6 p (rq 6 bqF (rq 4 bqT (bqT::kXA 2 3 c159 aB::rq 3 bqT (bq (t:=false) (b:=false) rfl::es 1 (bq p::es 1 (kT (decide (al.fam<10)) false p::[]))))))))] λ_ d=>⟨_,a,d⟩
            exact gj [rs 4 (kLA 2 3 c159 j::es 2 (rP 7 p (kV p::[])))] λ_ d=>⟨false,a,d⟩
           rcases cor a with⟨z,a⟩|⟨z,a⟩
           ·obtain⟨ap,ay,a⟩:=Xa a
            exact gj [rs 4 (kLA 2 3 c159 i::es 2 (rQ 6 z (rq 6 bqF (rq 4 bqT (bqT::kXA 2 3 c159 ay::rq 3 bqT (bq (t:=false) (b:=false) rfl::es 1 (bq z::es 1 (kT (decide (ap.fam<10)) false z::[]))))))))] λ_ d=>⟨_,a,d⟩
           exact gj [rs 4 (kLA 2 3 c159 i::es 2 (rP 7 z (kV z::[])))] λ_ d=>⟨false,a,d⟩
          rcases cor a with⟨A,a⟩|⟨A,a⟩
          ·obtain⟨ao,aD,a⟩:=Xa a
           exact gj [rs 4 (kLA 2 3 c159 n::es 2 (rQ 6 A (rq 6 bqF (rq 4 bqT (bqT::kXA 2 3 c159 aD::rq 3 bqT (bq (t:=false) (b:=false) rfl::es 1 (bq A::es 1 (kT (decide (ao.fam<10)) false A::[]))))))))] λ_ d=>⟨_,a,d⟩
          exact gj [rs 4 (kLA 2 3 c159 n::es 2 (rP 7 A (kV A::[])))] λ_ d=>⟨false,a,d⟩
         rcases cor a with⟨B,a⟩|⟨B,a⟩
         ·exact gj [rs 4 (kLA 2 3 c159 I::es 2 (rQ 6 B (rq 6 bqF (rp 9 bqF (es 1 (bq B::es 1 (kT false false B::[])))))))] λ_ d=>⟨(),a,d⟩
         exact gj [rs 4 (kLA 2 3 c159 I::es 2 (rP 7 B (kV B::[])))] λ_ d=>⟨(),a,d⟩
        rcases cor a with⟨H,a⟩|⟨H,a⟩
        ·exact gj [rs 4 (kLA 2 3 c159 M::es 2 (rQ 6 H (rq 6 bqF (rp 9 bqF (es 1 (bq H::es 1 (kT false false H::[])))))))] λ_ d=>⟨(),a,d⟩
        exact gj [rs 4 (kLA 2 3 c159 M::es 2 (rP 7 H (kV H::[])))] λ_ d=>⟨(),a,d⟩
       rcases cor a with⟨w,a⟩|⟨w,a⟩
       ·exact gj [rs 4 (kLA 2 3 c159 L::es 2 (rQ 6 w (rq 6 bqF (rp 9 bqF (es 1 (bq w::es 1 (kT false false w::[])))))))] λ_ d=>⟨(),a,d⟩
       exact gj [rs 4 (kLA 2 3 c159 L::es 2 (rP 7 w (kV w::[])))] λ_ d=>⟨(),a,d⟩
      rcases cor a with⟨F,a⟩|⟨F,a⟩
      ·exact gj [rs 4 (kLA 2 3 c159 J::es 2 (rQ 6 F (rq 6 bqF (rp 9 bqF (es 1 (bq F::es 1 (kT false false F::[])))))))] λ_ d=>⟨(),a,d⟩
      exact gj [rs 4 (kLA 2 3 c159 J::es 2 (rP 7 F (kV F::[])))] λ_ d=>⟨(),a,d⟩
     rcases cor a with⟨E,a⟩|⟨E,a⟩
     ·exact gj [rs 4 (kLA 2 3 c159 N::es 2 (rQ 6 E (rq 6 bqF (rp 9 bqF (es 1 (bq E::es 1 (kT false false E::[])))))))] λ_ d=>⟨(),a,d⟩
     exact gj [rs 4 (kLA 2 3 c159 N::es 2 (rP 7 E (kV E::[])))] λ_ d=>⟨(),a,d⟩
    rcases cor a with⟨v,a⟩|⟨v,a⟩
    ·exact gj [rs 4 (kLA 2 3 c159 K::es 2 (rQ 6 v (rq 6 bqF (rp 9 bqF (es 1 (bq v::es 1 (kT false false v::[])))))))] λ_ d=>⟨(),a,d⟩
    exact gj [rs 4 (kLA 2 3 c159 K::es 2 (rP 7 v (kV v::[])))] λ_ d=>⟨(),a,d⟩
   rcases cor a with⟨D,a⟩|⟨D,a⟩
   ·exact gj [rs 4 (kLA 2 3 c159 O::es 2 (rQ 6 D (rq 6 bqF (rp 9 bqF (es 1 (bq D::es 1 (kT false false D::[])))))))] λ_ d=>⟨(),a,d⟩
   exact gj [rs 4 (kLA 2 3 c159 O::es 2 (rP 7 D (kV D::[])))] λ_ d=>⟨(),a,d⟩
  rcases cor a with⟨G,a⟩|⟨G,a⟩
  ·exact gj [rs 4 (kLA 2 3 c159 W::es 2 (rQ 6 G (rp 7 bqT (bq G::es 1 (kT true false G::[])))))] λ_ d=>⟨true,a,d⟩
  exact gj [rs 4 (kLA 2 3 c159 W::es 2 (rP 7 G (kV G::[])))] λ_ d=>⟨false,a,d⟩
 rcases cor a with⟨s,a⟩|⟨s,a⟩
 ·exact gj [rs 4 (kLA 2 3 c159 ([]:List G159)::es 2 (rQ 6 s (rq 6 bqF (rp 9 bqF (es 1 (bq s::es 1 (kT false false s::[])))))))] λ_ d=>⟨(),a,d⟩
 exact gj [rs 4 (kLA 2 3 c159 ([]:List G159)::es 2 (rP 7 s (kV s::[])))] λ_ d=>⟨(),a,d⟩
theorem CF14 {c a} (b:F14 c=some a):A0 14 [.agg (c27 c)] (bP a):=by
 refine gC Tryz.func14 ?_
 obtain⟨d,e,b⟩:=Xa b
 obtain rfl:=soj b
 exact gE [re 2,rs 1 (kC (CF29 e)::kL 3 c159 d::es 2 [])]
theorem CF37 {g m} (f:F37 g=some m):A0 37 [.agg (c100 g)] (bP m):=by
 refine gC Tryz.func37 ?_
 refine gP 0 [re 2] [(1,.bp 0 0)] [.cells (c100 g)] ?_
 refine gMd [] (λ(_:Unit)=>([],JF37_1 g)) m ?_ ?_
 ·rintro⟨⟩ f
  rcases cor f with⟨n,f⟩|⟨n,f⟩
  ·obtain rfl:=soj f
   exact gE [rs 2 (kL 13 c147 g.fg::es 2 (rQ 2 n (bq n::kL 4 c425 g.fY::bq n::es 1 (kT (decide ((ln g.fY)<=6)) false n::es 1 []))))]
  obtain rfl:=soj f
  exact gE [rs 2 (kL 13 c147 g.fg::es 2 (rP 4 n (kV n::es 1 [])))]
 obtain⟨B,w,f⟩:=Xa f
 refine gPl 0 [re 1] 0 w [] (λs=>[(3,iP s)]) ?_
 rintro s x b v
 rcases cor b with⟨u,b⟩|⟨u,b⟩
 ·refine gd 0 [rk 3 (kL 13 c147 g.fg) 1,bb u] [] [] ?_
  refine gMd [] (λ(_:Unit)=>([],JF37_10 s)) x ?_ ?_
  ·rintro⟨⟩ b
   cases b
   exact gj [re 3]
  refine gB 1 ?_
  obtain⟨a,t,b⟩:=Xa b
  refine gD 0 [rk 3 (kX 13 c147 t) 3] [] [(4,.bp 1 0)] 1 [.cells (c147 a)] ?_
  refine gS ?_
  refine gMd [] (λk=>([(33,bP k)],JF37_14 a s k)) x ?_ ?_
  ·rintro k b
   rcases cor b with⟨j,b⟩|⟨j,b⟩
   ·cases b
    obtain rfl:=v _ rfl
    obtain rfl:=soj f
    exact gE [bb j,re 1]
   refine gNd [bb j] [33] [] ?_
   obtain⟨y,r,b⟩:=Xa b
   refine gPl 0 [re 1] 2 r [] (λp=>[(5,iP p)]) ?_
   rintro p z c o
   rcases cor c with⟨h,c⟩|⟨h,c⟩
   ·obtain⟨A,q,c⟩:=Xa c
    rcases cor c with⟨l,c⟩|⟨l,c⟩
    ·cases c
     obtain rfl:=o _ rfl
     cases b
     obtain rfl:=v _ rfl
     obtain rfl:=soj f
     exact gE [rk 3 (kL 2 c171 a.fv) 1,bb h,rk 3 (kX 2 c171 q) 4,bb l,re 1]
    cases c
    exact gj [rk 3 (kL 2 c171 a.fv) 1,bb h,rk 3 (kX 2 c171 q) 4,bb l,re 3]
   cases c
   obtain rfl:=o _ rfl
   exact gke 1 2 [rk 3 (kL 2 c171 a.fv) 1,bb h] λ_ _ i=>Xh ⟨(),b,i⟩
  rcases cor b with⟨d,b⟩|⟨d,b⟩
  ·exact gj [rs 2 (kL 5 c182 a.fD::es 2 (rP 4 d (kU d::es 1 (rp 4 bqT (es 1 [])))))] λ_ i=>⟨true,b,i⟩
  rcases cor b with⟨e,b⟩|⟨e,b⟩
  ·exact gj [rs 2 (kL 5 c182 a.fD::es 2 (rQ 2 d (bq d::kL 5 c245 a.fS::bq d::es 1 (kF true (decide ((ln a.fS)>12)) d::es 1 (rP 4 e (kU e::[]))))))] λ_ i=>⟨true,b,i⟩
  exact gj [rs 2 (kL 5 c182 a.fD::es 2 (rQ 2 d (bq d::kL 5 c245 a.fS::bq d::es 1 (kF true (decide ((ln a.fS)>12)) d::es 1 (rQ 2 e (bq e::kL 2 c171 a.fv::bq e::es 1 (kF true (decide ((ln a.fv)>12)) e::[])))))))] λ_ i=>⟨_,b,i⟩
 cases b
 obtain rfl:=v _ rfl
 exact ge 0 [rk 3 (kL 13 c147 g.fg) 1,bb u] λ_ i=>Xh ⟨(),f,i⟩
theorem CF38 {i d} (j:F38 i=some d):A0 38 [.agg (c100 i)] (iP d):=by
 refine gC Tryz.func38 ?_
 refine gP 1 [re 2,re 1] [(1,.bp 0 0),(3,iP 0)] [.cells (c100 i)] ?_
 refine gMq (λr=>([(3,iP r)],[],JF38_2 r)) d ?_ ?_
 ·rintro r j
  obtain rfl:=soj j
  exact gE [re 2]
 obtain⟨B,p,j⟩:=Xa j
 refine gPl 0 [re 1] 0 p [] (λ(u,t)=>[(3,iP u),(4,iP t)]) ?_
 rintro⟨u,t⟩ z b y
 rcases cor b with⟨f,b⟩|⟨f,b⟩
 ·refine gd 0 [rk 3 (kL 13 c147 i.fg) 1,bb f] [] [] ?_
  refine gMd [] (λc=>([(3,iP c)],JF38_13 t c)) z ?_ ?_
  ·rintro c b
   cases b
   exact gj [re 3]
  refine gB 1 ?_
  obtain⟨w,l,b⟩:=Xa b
  refine gPl 0 [re 1] 2 l [] (λ(g,k)=>[(3,iP g),(5,iP k)]) ?_
  rintro⟨g,k⟩ x a n
  obtain⟨h,m,a⟩:=Xa a
  rcases cor a with⟨e,a⟩|⟨e,a⟩
  ·obtain⟨A,s,v,o,a⟩:=bs2 a
   cases a
   exact gj [rs 4 (kX 13 c147 m::es 2 (kL 2 c171 h.fv::es 1 [])),bb e,rs 4 (kX 13 c147 s::es 3 (kX 2 c171 o::es 5 [])),re 3]
  cases a
  obtain rfl:=n _ rfl
  exact ge 2 [rs 4 (kX 13 c147 m::es 2 (kL 2 c171 h.fv::es 1 [])),bb e] λ_ q=>Xh ⟨_,b,q⟩
 cases b
 obtain rfl:=y _ rfl
 exact gke 0 0 [rk 3 (kL 13 c147 i.fg) 1,bb f] λ_ _ q=>Xh ⟨_,j,q⟩
theorem CF12 {e v} (f:F12 e=some v):A0 12 [.agg (c27 e)] (bP v):=by
 refine gC Tryz.func12 ?_
 refine gP 1 [re 2,re 2] [(1,.bp 0 0),(3,iP 0),(4,iP 0)] [.cells (c27 e)] ?_
 refine gMd [] (λ(_:Unit)=>([],JF12_1 e)) v ?_ ?_
 ·rintro⟨⟩ f
  refine gMd [3,4] (λ(_:Unit)=>([],JF12_2 e)) v ?_ ?_
  ·rintro⟨⟩ f
   rcases cor f with⟨k,f⟩|⟨k,f⟩
   ·rcases cor f with⟨l,f⟩|⟨l,f⟩
    ·rcases cor f with⟨t,f⟩|⟨t,f⟩
     ·rcases cor f with⟨h6,f⟩|⟨h6,f⟩
      ·obtain rfl:=soj f
       exact gE [rs 2 (kL 6 c68 e.fi::es 2 (rQ 2 k (bq k::kL 22 c75 e.fc::bq k::es 1 (kT (decide ((ln e.fc)<=10)) false k::es 1 (rQ 2 l (bq l::kL 7 c213 e.fp::bq l::es 1 (kT (decide ((ln e.fp)<=10)) false l::es 1 (rQ 2 t (bq t::kL 2 c58 e.fG::bq t::es 1 (kT (decide ((ln e.fG)<=5)) false t::es 1 (rQ 4 h6 (kT (decide ((lns e.fay)<=300)) false h6::es 1 []))))))))))))]
      obtain rfl:=soj f
      exact gE [rs 2 (kL 6 c68 e.fi::es 2 (rQ 2 k (bq k::kL 22 c75 e.fc::bq k::es 1 (kT (decide ((ln e.fc)<=10)) false k::es 1 (rQ 2 l (bq l::kL 7 c213 e.fp::bq l::es 1 (kT (decide ((ln e.fp)<=10)) false l::es 1 (rQ 2 t (bq t::kL 2 c58 e.fG::bq t::es 1 (kT (decide ((ln e.fG)<=5)) false t::es 1 (rP 4 h6 (kV h6::es 1 []))))))))))))]
     obtain rfl:=soj f
     exact gE [rs 2 (kL 6 c68 e.fi::es 2 (rQ 2 k (bq k::kL 22 c75 e.fc::bq k::es 1 (kT (decide ((ln e.fc)<=10)) false k::es 1 (rQ 2 l (bq l::kL 7 c213 e.fp::bq l::es 1 (kT (decide ((ln e.fp)<=10)) false l::es 1 (rP 4 t (kV t::es 1 (rp 4 bqF (es 2 [])))))))))))]
    obtain rfl:=soj f
    exact gE [rs 2 (kL 6 c68 e.fi::es 2 (rQ 2 k (bq k::kL 22 c75 e.fc::bq k::es 1 (kT (decide ((ln e.fc)<=10)) false k::es 1 (rP 4 l (kV l::es 1 (rp 4 bqF (es 2 (rp 4 bqF (es 2 []))))))))))]
   obtain rfl:=soj f
   exact gE [rs 2 (kL 6 c68 e.fi::es 2 (rP 4 k (kV k::es 1 (rp 4 bqF (es 2 (rp 4 bqF (es 2 (rp 4 bqF (es 2 [])))))))))]
  obtain⟨aE,ah,f⟩:=Xa f
  refine gPl 0 [re 1] 2 ah [] (λ(v7,v8,v9)=>[(3,iP v7),(4,iP v8),(6,iP v9)]) ?_
  rintro⟨v7,v8,v9⟩ af a p
  rcases cor a with⟨N,a⟩|⟨N,a⟩
  ·refine gd 0 [rk 3 (kL 22 c75 e.fc) 1,bb N] [] [] ?_
   refine gMd [] (λ(x:Int×Int)=>match x with|(Q,T)=>([(3,iP Q),(4,iP T)],JF12_18 v9 Q T)) af ?_ ?_
   ·rintro⟨Q,T⟩ a
    cases a
    exact gj [re 3]
   refine gB 3 ?_
   obtain⟨g,av,a⟩:=Xa a
   refine gD 0 [rk 3 (kX 22 c75 av) 3] [] [(7,.bp 1 0)] 1 [.cells (c75 g)] ?_
   refine gS ?_
   refine gMd [] (λH=>([(62,bP H)],JF12_22 g v7 v8 v9 H)) af ?_ ?_
   ·rintro H a
    rcases cor a with⟨M,a⟩|⟨M,a⟩
    ·cases a
     obtain rfl:=p _ rfl
     obtain rfl:=soj f
     exact gE [bb M,re 1]
    refine gNd [bb M] [62] [] ?_
    obtain⟨aI,aj,a⟩:=Xa a
    refine gPl 0 [re 1] 4 aj [] (λ(z,y,u)=>[(3,iP z),(4,iP y),(8,iP u)]) ?_
    rintro⟨z,y,u⟩ ac c w
    rcases cor c with⟨V,c⟩|⟨V,c⟩
    ·refine gd 0 [rk 3 (kL 2 c95 g.ff) 1,bb V] [] [] ?_
     refine gMd [] (λ(x:Int×Int)=>match x with|(J,G)=>([(3,iP J),(4,iP G)],JF12_37 u J G)) ac ?_ ?_
     ·rintro⟨J,G⟩ c
      cases c
      exact gj [re 3]
     refine gB 5 ?_
     refine gS ?_
     refine gMd [] (λB=>([(87,bP B)],JF12_39 g u z y B)) ac ?_ ?_
     ·rintro B c
      rcases cor c with⟨C,c⟩|⟨C,c⟩
      ·cases c
       obtain rfl:=w _ rfl
       cases a
       obtain rfl:=p _ rfl
       obtain rfl:=soj f
       exact gE [bb C,re 1]
      refine gNd [bb C] [87] [] ?_
      obtain⟨aG,ag,c⟩:=Xa c
      refine gPl 0 [re 1] 6 ag [] (λ(s,n,L)=>[(3,iP s),(4,iP n),(9,iP L)]) ?_
      rintro⟨s,n,L⟩ aq b U
      obtain⟨am,X,b⟩:=Xa b
      rcases cor b with⟨F,b⟩|⟨F,b⟩
      ·refine gd 0 [rs 4 (kX 2 c95 X::es 2 (kL 2 c100 am.fh::es 1 [])),bb F] [] [] ?_
       refine gS ?_
       refine gB 7 ?_
       obtain⟨aD,ai,aC,ad,aJ,Y,b⟩:=bs3 b
       rcases cor b with⟨P,b⟩|⟨P,b⟩
       ·cases b
        obtain rfl:=U _ rfl
        cases c
        obtain rfl:=w _ rfl
        cases a
        obtain rfl:=p _ rfl
        obtain rfl:=soj f
        exact gE [rs 3 (kX 2 c95 ai::es 3 (kX 2 c100 ad::es 1 (kC (CF37 Y)::es 1 []))),bb P,re 1]
       obtain⟨aA,az,A,au,aF,an,b⟩:=bs3 b
       obtain⟨aH,ao,I,ax,b⟩:=bs2 b
       refine gd 1 [rs 3 (kX 2 c95 ai::es 3 (kX 2 c100 ad::es 1 (kC (CF37 Y)::es 1 []))),bb P,.r (es 4 (kX 2 c95 az::es 3 (kX 2 c100 au::es 2 (kL 13 c147 A.fg::es 5 (kX 2 c95 an::es 3 (kX 2 c100 ao::es 1 (kC (CF38 ax)::es 2 []))))))) (es 1 [])] [] [(3,iP (wi (s+(ln A.fg)))),(4,iP (wi (n+I)))] ?_
       refine gMd [] (λR=>([(140,bP R)],JF12_72 s A n I L R)) aq ?_ ?_
       ·rintro R b
        rcases cor b with⟨K,b⟩|⟨K,b⟩
        ·cases b
         obtain rfl:=U _ rfl
         cases c
         obtain rfl:=w _ rfl
         cases a
         obtain rfl:=p _ rfl
         obtain rfl:=soj f
         exact gE [bb K,re 1]
        refine gNd [bb K] [140] [] ?_
        cases b
        exact gj [re 3]
       rcases cor b with⟨o,b⟩|⟨o,b⟩
       ·exact gj [rs 3 (rP 2 o (kU o::[]))] λ_ h=>⟨true,b,h⟩
       exact gj [rs 3 (rQ 2 o (kF true (decide ((wi (n+I))>20000)) o::[]))] λ_ h=>⟨_,b,h⟩
      cases b
      obtain rfl:=U _ rfl
      exact ge 6 [rs 4 (kX 2 c95 X::es 2 (kL 2 c100 am.fh::es 1 [])),bb F] λ_ h=>Xh ⟨(s,n),c,h⟩
     obtain⟨Z,ak,c⟩:=Xa c
     rcases cor c with⟨j,c⟩|⟨j,c⟩
     ·exact gj [rs 3 (kX 2 c95 ak::es 2 (kL 2 c230 Z.fR::es 2 (rP 8 j (kU j::[]))))] λ_ h=>⟨true,c,h⟩
     obtain⟨ab,ay,c⟩:=Xa c
     exact gj [rs 3 (kX 2 c95 ak::es 2 (kL 2 c230 Z.fR::es 2 (rQ 3 j (bq j::kX 2 c95 ay::rQ 2 j (bq j::kL 2 c100 ab.fh::bq j::es 1 (kF true (decide ((ln ab.fh)>3)) j::[]))))))] λ_ h=>⟨_,c,h⟩
    cases c
    obtain rfl:=w _ rfl
    exact gke 1 4 [rk 3 (kL 2 c95 g.ff) 1,bb V] λ_ _ h=>Xh ⟨(z,y),a,h⟩
   rcases cor a with⟨i,a⟩|⟨i,a⟩
   ·exact gj [rs 2 (kL 2 c95 g.ff::es 2 (rP 4 i (kU i::es 1 (rp 4 bqT (es 1 [])))))] λ_ h=>⟨true,a,h⟩
   rcases cor a with⟨q,a⟩|⟨q,a⟩
   ·exact gj [rs 2 (kL 2 c95 g.ff::es 2 (rQ 2 i (bq i::kL 3 c111 g.fm::bq i::es 1 (kF true (decide ((ln g.fm)>5)) i::es 1 (rP 4 q (kU q::[]))))))] λ_ h=>⟨true,a,h⟩
   exact gj [rs 2 (kL 2 c95 g.ff::es 2 (rQ 2 i (bq i::kL 3 c111 g.fm::bq i::es 1 (kF true (decide ((ln g.fm)>5)) i::es 1 (rQ 4 q (kF true (decide ((lns g.fax)>300)) q::[]))))))] λ_ h=>⟨_,a,h⟩
  cases a
  obtain rfl:=p _ rfl
  exact ge 2 [rk 3 (kL 22 c75 e.fc) 1,bb N] λ_ h=>Xh ⟨(),f,h⟩
 obtain⟨aB,aa,f⟩:=Xa f
 refine gPl 0 [re 1] 0 aa [] (λO=>[(5,iP O)]) ?_
 rintro O aw d W
 rcases cor d with⟨E,d⟩|⟨E,d⟩
 ·refine gd 0 [rk 3 (kL 6 c68 e.fi) 1,bb E] [] [] ?_
  refine gS ?_
  refine gB 1 ?_
  refine gMd [] (λD=>([(34,bP D)],JF12_90 O D)) aw ?_ ?_
  ·rintro D d
   rcases cor d with⟨S,d⟩|⟨S,d⟩
   ·cases d
    obtain rfl:=W _ rfl
    obtain rfl:=soj f
    exact gE [bb S,re 1]
   refine gNd [bb S] [34] [] ?_
   cases d
   exact gj [re 3]
  obtain⟨al,ae,d⟩:=Xa d
  rcases cor d with⟨m,d⟩|⟨m,d⟩
  ·exact gj [rs 3 (kX 6 c68 ae::es 2 (kL 3 c184 al.fx::es 2 (rP 8 m (kU m::[]))))] λ_ h=>⟨true,d,h⟩
  obtain⟨ap,ar,d⟩:=Xa d
  exact gj [rs 3 (kX 6 c68 ae::es 2 (kL 3 c184 al.fx::es 2 (rQ 3 m (bq m::kX 6 c68 ar::rQ 4 m (kF true (decide ((lns ap.faz)>300)) m::[])))))] λ_ h=>⟨_,d,h⟩
 cases d
 obtain rfl:=W _ rfl
 exact ge 0 [rk 3 (kL 6 c68 e.fi) 1,bb E] λ_ h=>Xh ⟨(),f,h⟩
theorem CF94 {a c} (g:F94 a=some c):A0 94 [.agg (c27 a)] (eS 1 cI c):=by
 refine gC Tryz.func94 ?_
 refine gP 1 [re 2,re 2] [(1,.bp 0 0),(3,eS 1 cI (Sl.full [0]))] [.cells (c27 a)] ?_
 refine gMD [1] 1 (λd=>([(3,nP 1 1 cI d)],[.grow (List.length d) 1],JF94_2 d)) c ?_ ?_
 ·rintro d g
  refine Yp [re 2] .ret [(2,nP 1 1 cI d)] [.cells (c27 a),.grow (List.length d) 1] (λe m=>?_)
  obtain rfl:=soj g
  exact Zf (r:=(nP 1 1 cI d)) (.inr rfl) m (by kernel_rfl) (Ul cl_cI) ⟨rfl,rfl⟩
 refine gd 0 [rk 2 (kL 22 c75 a.fc) 1] [1] [(10,eS 22 c75 a.fc),(11,iP (ln a.fc)),(12,iP 0)] ?_
 refine gB 0 ?_
 obtain⟨v,k,g⟩:=Xa g
 refine gL k (λ(n,o)=>([(3,nP 1 1 cI n),(10,eS 22 c75 a.fc),(11,iP (ln a.fc)),(12,iP o)],[.cells (c27 a),.grow (List.length n) 1])) ((Wc (le':=[(3,eS 1 cI (Sl.full [0])),(10,eS 22 c75 a.fc),(11,iP (ln a.fc)),(12,iP 0)]) (by kernel_rfl)).trans (weak_lit (le':=[(3,nP 1 1 cI [0]),(10,eS 22 c75 a.fc),(11,iP (ln a.fc)),(12,iP 0)]) _ 1 (kc pk_lit (kc (Xy _) (kc (Xy _) (kc (Xy _) ke)))))) ?_
 rintro⟨n,o⟩ w b t
 rcases cor b with⟨f,b⟩|⟨f,b⟩
 ·obtain⟨q,i,p,h,s,j,b⟩:=bs3 b
  obtain⟨u,l,b⟩:=Xa b
  cases b
  exact gk 2 [re 1,bb f,rk 1 (kX 22 c75 i) 4,rk 1 (kC (CF99 h)) 5,rs 3 (kXN 1 1 cI j::es 4 (kAN 1 1 cI l::es 1 [])),re 2]
 cases b
 obtain rfl:=t _ rfl
 exact ge 0 [re 1,bb f] λ_ m=>Xh ⟨_,g,m⟩
theorem CF47 {e b} (a:F47 e=some b):A0 47 [.agg (c27 e)] (.tup [eS 1 cI b.1,iP b.2]):=by
 refine gC Tryz.func47 ?_
 obtain⟨g,d,a⟩:=Xa a
 rcases cor a with⟨c,a⟩|⟨c,a⟩
 ·obtain rfl:=soj a
  exact gE [re 3,rk 1 (kC (CF14 d)) 1,bb c,re 2]
 obtain⟨h,f,a⟩:=Xa a
 obtain rfl:=soj a
 exact gE [re 3,rk 1 (kC (CF14 d)) 1,bb c,rk 1 (kC (CF94 f)) 2]
theorem CF39 {c f} (m:F39 c=some f):A0 39 [.agg (c27 c)] (.tup [eS 3 c173 f.1,eS 1 cI f.2]):=by
 refine gC Tryz.func39 ?_
 obtain⟨i,G,m⟩:=Xa m
 refine gP 2 [re 3,rk 1 (kC (CF47 G)) 5,re 3] [(1,.bp 0 0),(4,eS 1 cI i.1),(6,eS 3 c173 (Sl.full [(⟨-1,500000,false⟩:G173)]))] [.cells (c27 c)] ?_
 refine gMD [1] 1 (λh=>([(6,nP 1 3 c173 h)],[.grow (List.length h) 3],JF39_4 i h)) f ?_ ?_
 ·rintro h m
  refine Yp [re 4] .ret [(2,nP 1 3 c173 h),(3,eS 1 cI i.1)] [.cells (c27 c),.grow (List.length h) 3] (λe o=>?_)
  obtain rfl:=soj m
  exact Zf (r:=(.tup [nP 1 3 c173 h,eS 1 cI i.1])) (.inr rfl) o (by kernel_rfl) (psub_tup (qs:=[eS 3 c173 (Sl.no h),eS 1 cI i.1]) (pc (Ul cl173) (pc (psub_cl (cl_eS cl_cI)) pe))) ⟨rfl,rfl⟩
 refine gd 0 [rk 2 (kL 22 c75 c.fc) 1] [1] [(19,eS 22 c75 c.fc),(20,iP (ln c.fc)),(21,iP 0)] ?_
 refine gB 0 ?_
 obtain⟨H,w,m⟩:=Xa m
 refine gL w (λ(y,q)=>([(4,eS 1 cI i.1),(6,nP 1 3 c173 y),(19,eS 22 c75 c.fc),(20,iP (ln c.fc)),(21,iP q)],[.cells (c27 c),.grow (List.length y) 3])) ((Wc (le':=[(4,eS 1 cI i.1),(6,eS 3 c173 (Sl.full [(⟨-1,500000,false⟩:G173)])),(19,eS 22 c75 c.fc),(20,iP (ln c.fc)),(21,iP 0)]) (by kernel_rfl)).trans (weak_lit (le':=[(4,eS 1 cI i.1),(6,nP 1 3 c173 [(⟨-1,500000,false⟩:G173)]),(19,eS 22 c75 c.fc),(20,iP (ln c.fc)),(21,iP 0)]) _ 3 (kc (Xy _) (kc pk_lit (kc (Xy _) (kc (Xy _) (kc (Xy _) ke))))))) ?_
 rintro⟨y,q⟩ F a u
 rcases cor a with⟨k,a⟩|⟨k,a⟩
 ·refine gd 1 [re 1,bb k] [] [] ?_
  refine gMD [] 1 (λd=>([(6,nP 1 3 c173 d)],[.grow (List.length d) 3],JF39_15 q d)) F ?_ ?_
  ·rintro d a
   cases a
   exact gj [re 2]
  refine gB 1 ?_
  obtain⟨g,v,a⟩:=Xa a
  obtain⟨A,n,a⟩:=Xa a
  refine gPL 1 [rk 1 (kX 22 c75 v) 4,rk 2 (kL 3 c111 g.fm) 1] 2 n [] 1 (λ(l,p)=>([(6,nP 1 3 c173 l),(7,iP q),(27,eS 3 c111 g.fm),(28,iP (ln g.fm)),(29,iP p)],[.grow (List.length l) 3,.cells (c75 g)])) ?_
  rintro⟨l,p⟩ C b x
  rcases cor b with⟨j,b⟩|⟨j,b⟩
  ·obtain⟨E,s,B,z,D,t,b⟩:=bs3 b
   cases b
   exact gk 3 [re 1,bb j,.r (kX 3 c111 s::es 3 []) [],.r (es 3 (kX 1 cI z::es 10 [])) (kAN 1 3 c173 t::es 1 []),re 2]
  cases b
  obtain rfl:=x _ rfl
  exact gke 2 2 [re 1,bb j] λ_ _ o=>Xh ⟨_,a,o⟩
 cases a
 obtain rfl:=u _ rfl
 exact ge 0 [re 1,bb k] λ_ o=>Xh ⟨_,m,o⟩
theorem CF90_1 {e b c a} (d:F90_1 e b c=some a):A1 90 [iP e,.bp 0 0,.bp 1 0] [.cells [eS 3 c173 b],.cells [iP c]] (bP a) [.cells [eS 3 c173 b],.cells [iP c]]:=by
 refine gC Tryz.func90 ?_
 obtain⟨g,f,d⟩:=Xa d
 obtain rfl:=soj d
 exact gH 2 [re 1,.r (es 2 (kX 3 c173 f::es 3 [])) (es 2 [])]
theorem CF89_1 {i h g c} (f:F89_1 i h g=some c):A1 89 [iP i,(.fn (.func 90) [] [.bp 0 0,.bp 1 0])] [.cells [eS 3 c173 h],.cells [iP g]] (iP c) [.cells [eS 3 c173 h],.cells [iP g]]:=by
 refine gC Tryz.func89 ?_
 refine gd 1 [re 1,re 3] [0] [(5,iP 0),(6,iP i)] ?_
 refine gMd [1,6] (λl=>([(5,iP l)],JF89_1_4 l)) c ?_ ?_
 ·rintro l f
  obtain rfl:=soj f
  exact gH 2 [re 2]
 refine gB 0 ?_
 obtain⟨q,j,f⟩:=Xa f
 refine gL j (λ(n,m)=>([(1,(.fn (.func 90) [] [.bp 0 0,.bp 1 0])),(5,iP n),(6,iP m)],[.cells [eS 3 c173 h],.cells [iP g]])) wm ?_
 rintro⟨n,m⟩ r a k
 rcases cor a with⟨b,a⟩|⟨b,a⟩
 ·obtain⟨o,e,a⟩:=Xa a
  rcases cor a with⟨d,a⟩|⟨d,a⟩
  ·cases a
   exact gj [re 3,bb b,re 7,rk 2 (kQ [0,1] [] 0 2 (CF90_1 e)) 1,bb d,re 3]
  cases a
  exact gj [re 3,bb b,re 7,rk 2 (kQ [0,1] [] 0 2 (CF90_1 e)) 1,bb d,re 2]
 cases a
 obtain rfl:=k _ rfl
 exact ge 0 [re 3,bb b] λ_ p=>Xh ⟨_,f,p⟩
theorem CF41 {c d a} (b:F41 c d=some a):A0 41 [eS 3 c173 c,iP d] (iP a):=by
 refine gC Tryz.func41 ?_
 obtain⟨f,e,b⟩:=Xa b
 obtain rfl:=soj b
 exact gE [re 3,rs 1 (kL 3 c173 c::es 1 (kQ [0,1] [] 0 0 (CF89_1 e)::es 2 []))]
theorem CF40 {l n f h} (a:F40 l n f=some h):A0 40 [eS 3 c173 l,iP n,iP f] (iP h):=by
 refine gC Tryz.func40 ?_
 obtain⟨d,t,a⟩:=Xa a
 refine gD 1 [re 1,rk 2 (kX 3 c173 t) 3] [] [(7,.bp 0 0)] 0 [.cells (c173 d)] ?_
 refine gS ?_
 refine gMd [] (λo=>([(25,bP o)],JF40_6 d l n f o)) h ?_ ?_
 ·rintro o a
  rcases cor a with⟨p,a⟩|⟨p,a⟩
  ·obtain rfl:=soj a
   exact gE [bb p,re 3]
  refine gNd [bb p] [25] [] ?_
  obtain⟨e,s,j,m,k,i,a⟩:=bs3 a
  rcases cor a with⟨g,a⟩|⟨g,a⟩
  ·obtain rfl:=soj a
   exact gE [rk 3 (kX 3 c173 s) 3,.r (es 16 []) (es 1 []),rk 2 ⟨.pu (.bin .quo (.c (iP (wi ((wi (e.f7-d.f7))*(wi (f-d.fL)))))) (.c (iP (wi (e.fL-d.fL))))) (iP j),n_quo m⟩ 1,rk 2 ⟨.pu (.bin .rem (.c (iP (wi ((wi (e.f7-d.f7))*(wi (f-d.fL)))))) (.c (iP (wi (e.fL-d.fL))))) (iP k),n_rem i⟩ 1,bb g,re 3,re 5]
  obtain rfl:=soj a
  exact gE [rk 3 (kX 3 c173 s) 3,.r (es 16 []) (es 1 []),rk 2 ⟨.pu (.bin .quo (.c (iP (wi ((wi (e.f7-d.f7))*(wi (f-d.fL)))))) (.c (iP (wi (e.fL-d.fL))))) (iP j),n_quo m⟩ 1,rk 2 ⟨.pu (.bin .rem (.c (iP (wi ((wi (e.f7-d.f7))*(wi (f-d.fL)))))) (.c (iP (wi (e.fL-d.fL))))) (iP k),n_rem i⟩ 1,bb g,re 5]
 rcases cor a with⟨b,a⟩|⟨b,a⟩
 ·exact gj [rs 4 (rP 5 b (kU b::[]))] λ_ q=>⟨true,a,q⟩
 exact gj [rs 4 (rQ 3 b (bq b::kL 3 c173 l::bq b::es 1 (kF true ((wi (n+1))==(ln l)) b::[])))] λ_ q=>⟨_,a,q⟩
theorem CF16 {e f d a} (b:F16 e f d=some a):A0 16 [iP e,iP f,iP d] (bP a):=by
 refine gC Tryz.func16 ?_
 rcases cor b with⟨c,b⟩|⟨c,b⟩
 ·obtain rfl:=soj b
  exact gE [re 1,rs 4 (rQ 3 c (kT (decide (e<=d)) false c::es 1 []))]
 obtain rfl:=soj b
 exact gE [re 1,rs 4 (rP 3 c (kV c::es 1 []))]
theorem CF18 {g o f} (q:F18 g o=some f):A0 18 [.agg (c27 g),eS 1 cI o] (eS 3 c108 f):=by
 refine gC Tryz.func18 ?_
 refine gD 1 [re 2,re 1] [0] [(2,.bp 0 0),(5,eS 3 c108 Sl.nil)] 0 [.cells (c27 g)] ?_
 refine gMD [1,2] 1 (λh=>([(5,oP 1 3 c108 h)],[.grow (List.length h) 3],JF18_3 h)) f ?_ ?_
 ·rintro h q
  refine Yp [re 2] .ret [(4,oP 1 3 c108 h)] [.cells (c27 g),.grow (List.length h) 3] (λe n=>?_)
  obtain rfl:=soj q
  exact Zf (r:=(oP 1 3 c108 h)) (.inr rfl) n (by kernel_rfl) (We cl108) ⟨rfl,rfl⟩
 refine gd 0 [re 1] [] [(6,iP 0)] ?_
 refine gB 0 ?_
 obtain⟨I,s,q⟩:=Xa q
 refine gL s (λ(x,z)=>([(1,eS 1 cI o),(2,.bp 0 0),(5,oP 1 3 c108 x),(6,iP z)],[.cells (c27 g),.grow (List.length x) 3])) (((Wc (le':=[(1,eS 1 cI o),(2,.bp 0 0),(5,eS 3 c108 Sl.nil),(6,iP 0)]) (by kernel_rfl)).trans (Uq (le':=[(1,eS 1 cI o),(2,.bp 0 0),(5,oP 1 3 c108 []),(6,iP 0)]) (wc (PSub.refl _) (wc (PSub.refl _) (wc Uk (wc (PSub.refl _) we)))))).trans (Uj 3)) ?_
 rintro⟨x,z⟩ C c y
 rcases cor c with⟨i,c⟩|⟨i,c⟩
 ·refine gd 0 [rk 3 (kL 22 c75 g.fc) 1,bb i] [] [] ?_
  refine gMD [] 1 (λb=>([(5,oP 1 3 c108 b)],[.grow (List.length b) 3],JF18_14 z b)) C ?_ ?_
  ·rintro b c
   cases c
   exact gj [re 3]
  refine gB 1 ?_
  obtain⟨H,p,c⟩:=Xa c
  refine gPL 0 [re 1] 2 p [] 1 (λ(j,l)=>([(5,oP 1 3 c108 j),(7,iP l)],[.grow (List.length j) 3])) ?_
  rintro⟨j,l⟩ G a A
  obtain⟨k,m,a⟩:=Xa a
  rcases cor a with⟨d,a⟩|⟨d,a⟩
  ·obtain⟨B,u,F,v,E,t,a⟩:=bs3 a
   obtain⟨D,w,a⟩:=Xa a
   cases a
   exact gk 2 [rs 4 (kX 22 c75 m::es 2 (kL 3 c111 k.fm::es 1 [])),bb d,rs 3 (kX 22 c75 u::es 3 (kX 3 c111 v::es 3 [])),.r (es 3 (kX 1 cI t::es 10 [])) (kA 1 3 c108 w::es 1 []),re 3]
  cases a
  obtain rfl:=A _ rfl
  exact ge 2 [rs 4 (kX 22 c75 m::es 2 (kL 3 c111 k.fm::es 1 [])),bb d] λ_ n=>Xh ⟨_,c,n⟩
 cases c
 obtain rfl:=y _ rfl
 exact ge 0 [rk 3 (kL 22 c75 g.fc) 1,bb i] λ_ n=>Xh ⟨_,q,n⟩
theorem CF91 {c b a} (d:F91 c b=some a):A0 91 [.sc (.int .u64 c),.sc (.int .u64 b)] (.tup [.sc (.int .u64 a.1),.sc (.int .u64 a.2)]):=by
 refine gC Tryz.func91 ?_
 obtain rfl:=soj d
 exact gE [re 2,re 3,re 3,re 3,re 3,re 4,re 7,re 3,re 3,re 6,re 9,re 4]
theorem CF42 {j i g h b} (a:F42 j i g h=some b):A0 42 [iP j,iP i,iP g,iP h] (iP b):=by
 refine gC Tryz.func42 ?_
 obtain⟨l,f,k,e,a⟩:=bs2 a
 rcases cor a with⟨c,a⟩|⟨c,a⟩
 ·obtain rfl:=soj a
  exact gE [re 1,rk 10 (kC (CF91 f)) 5,rk 4 (kC (CF92 e)) 5,re 3,bb c,re 5]
 rcases cor a with⟨d,a⟩|⟨d,a⟩
 ·obtain rfl:=soj a
  exact gE [re 1,rk 10 (kC (CF91 f)) 5,rk 4 (kC (CF92 e)) 5,re 3,bb c,re 2,bb d,re 3,re 5]
 obtain rfl:=soj a
 exact gE [re 1,rk 10 (kC (CF91 f)) 5,rk 4 (kC (CF92 e)) 5,re 3,bb c,re 2,bb d,re 5]
theorem CF17 {i w v g} (c:F17 i w v=some g):A0 17 [eS 3 c108 i,iP w,bP v] (iP g):=by
 refine gC Tryz.func17 ?_
 refine gd 1 [re 1,re 1] [] [(7,iP (-1))] ?_
 refine gMd [2] (λs=>([(7,iP s)],JF17_4 i w s)) g ?_ ?_
 ·rintro s c
  rcases cor c with⟨z,c⟩|⟨z,c⟩
  ·obtain rfl:=soj c
   exact gE [re 2,bb z,re 1]
  refine gd 0 [re 2,bb z] [] [] ?_
  refine gS ?_
  refine gMd [] (λx=>([(50,bP x)],JF17_7 i s w x)) g ?_ ?_
  ·rintro x c
   rcases cor c with⟨E,c⟩|⟨E,c⟩
   ·obtain⟨S,D,c⟩:=Xa c
    obtain rfl:=soj c
    exact gE [bb E,rk 2 (kX 3 c108 D) 3]
   refine gNd [bb E] [50] [] ?_
   obtain⟨M,G,I,F,O,H,c⟩:=bs3 c
   obtain⟨N,C,P,y,R,A,c⟩:=bs3 c
   obtain rfl:=soj c
   exact gE [.r (es 2 (kX 3 c108 G::es 5 (kX 3 c108 F::es 5 (kX 3 c108 H::es 4 (kX 3 c108 C::es 6 (kX 3 c108 y::es 3 [])))))) (kC (CF42 A)::es 1 [])]
  obtain⟨K,u,c⟩:=Xa c
  rcases cor c with⟨d,c⟩|⟨d,c⟩
  ·exact gj [rs 2 (kX 3 c108 u::es 4 (rP 5 d (kU d::[])))] λ_ e=>⟨true,c,e⟩
  exact gj [rs 2 (kX 3 c108 u::es 4 (rQ 3 d (bq d::kL 3 c108 i::bq d::es 1 (kF true ((wi (s+1))==(ln i)) d::[]))))] λ_ e=>⟨_,c,e⟩
 obtain⟨Q,p,c⟩:=Xa c
 refine gPl 0 [re 1] 0 p [] (λ(k,h)=>[(7,iP k),(8,iP h)]) ?_
 rintro⟨k,h⟩ t a B
 rcases cor a with⟨o,a⟩|⟨o,a⟩
 ·refine gd 0 [rk 2 (kL 3 c108 i) 1,bb o] [] [] ?_
  refine gMd [] (λl=>([(7,iP l)],JF17_36 h l)) t ?_ ?_
  ·rintro l a
   cases a
   exact gj [re 3]
  refine gB 1 ?_
  refine gMd [] (λn=>([(34,bP n)],Ui h k n)) t ?_ ?_
  ·rintro n a
   rcases cor a with⟨j,a⟩|⟨j,a⟩
   ·exact gj [bb j,re 2] λ_ e=>⟨_,a,e⟩
   exact gj [bb j] λ_ e=>⟨_,a,e⟩
  obtain⟨J,m,a⟩:=Xa a
  rcases cor a with⟨b,a⟩|⟨b,a⟩
  ·exact gj [rs 2 (kX 3 c108 m::es 5 (rP 9 b (kU b::[])))] λ_ e=>⟨true,a,e⟩
  obtain⟨L,q,a⟩:=Xa a
  rcases cor a with⟨f,a⟩|⟨f,a⟩
  ·exact gj [rs 2 (kX 3 c108 m::es 5 (rQ 2 b (bq b::kX 3 c108 q::rQ 5 b (rQ 2 f (bq b::kT (!v) false f::kF true (!v) b::[])))))] λ_ e=>⟨_,a,e⟩
  exact gj [rs 2 (kX 3 c108 m::es 5 (rQ 2 b (bq b::kX 3 c108 q::rQ 5 b (rP 2 f (bq b::kV f::kF true false b::[])))))] λ_ e=>⟨false,a,e⟩
 cases a
 obtain rfl:=B _ rfl
 exact ge 0 [rk 2 (kL 3 c108 i) 1,bb o] λ_ e=>Xh ⟨_,c,e⟩
theorem CF44_1 {e b c} (d:F44_1 e b=some c):A1 44 [.agg (c114 e),.bp 0 0] [.cells (c27 b)] (bP c) [.cells (c27 b)]:=by
 refine gC Tryz.func44 ?_
 rcases cor d with⟨a,d⟩|⟨a,d⟩
 ·obtain rfl:=soj d
  exact gH 1 [re 2,rs 4 (rP 6 a (kU a::es 1 []))]
 obtain rfl:=soj d
 exact gH 1 [re 2,rs 4 (rQ 4 a (bq a::kL 22 c75 b.fc::bq a::es 1 (kF true (decide (e.fo>=(ln b.fc))) a::es 1 [])))]
theorem CF93_1 {h j d} (e:F93_1 h j=some d):A1 93 [eS 2 c114 h,(.fn (.func 44) [] [.bp 0 0])] [.cells (c27 j)] (iP d) [.cells (c27 j)]:=by
 refine gC Tryz.func93 ?_
 refine gd 0 [re 1] [] [] ?_
 refine gMd [0,1] (λ(_:Unit)=>([],JF93_1_2)) d ?_ ?_
 ·rintro⟨⟩ e
  obtain rfl:=soj e
  exact gH 1 [re 1]
 obtain⟨p,i,e⟩:=Xa e
 refine gPl 0 [rk 1 (kL 2 c114 h) 1] 0 i [] (λl=>[(7,iP (ln h)),(8,iP l)]) ?_
 rintro l q a k
 rcases cor a with⟨b,a⟩|⟨b,a⟩
 ·obtain⟨o,f,m,g,a⟩:=bs2 a
  rcases cor a with⟨c,a⟩|⟨c,a⟩
  ·cases a
   obtain rfl:=k _ rfl
   obtain rfl:=soj e
   exact gH 1 [re 1,bb b,re 2,rs 3 (kX 2 c114 f::es 1 (kQ [0] [] 0 1 (CF44_1 g)::[])),bb c,re 2]
  cases a
  exact gj [re 1,bb b,re 2,rs 3 (kX 2 c114 f::es 1 (kQ [0] [] 0 1 (CF44_1 g)::[])),bb c,re 2]
 cases a
 obtain rfl:=k _ rfl
 exact ge 0 [re 1,bb b] λ_ n=>Xh ⟨(),e,n⟩
theorem CF43_1 {d b a} (c:F43_1 d b=some a):A1 43 [eS 2 c114 d,(.fn (.func 44) [] [.bp 0 0])] [.cells (c27 b)] (bP a) [.cells (c27 b)]:=by
 refine gC Tryz.func43 ?_
 obtain⟨f,e,c⟩:=Xa c
 obtain rfl:=soj c
 exact gH 1 [re 1,rk 2 (kQ [0] [] 0 0 (CF93_1 e)) 2]
end
end Go.Proofs.YtibndgdocbbbeaaGreat
