/- A part of the proof. -/
import Derived.Test.YtibndgdocbbbeaaGreatFC1
import Derived.Test.YtibndgdocbbbeaaGreatSY13
import Derived.Test.YtibndgdocbbbeaaGreatHA
set_option linter.all false
set_option maxRecDepth 100000
set_option maxHeartbeats 40000000
set_option synthInstance.maxSize 100000
namespace Go.Proofs.YtibndgdocbbbeaaGreat
open Go.PE
noncomputable section
theorem CF306 {d c} (b:F306 d=some c):A0 306 [.agg (c100 d)] (bP c):=by
 refine gC Tryz.func306 ?_
 rcases cor b with⟨a,b⟩|⟨a,b⟩
 ·obtain⟨e,f,b⟩:=Xa b
  obtain rfl:=soj b
  exact gE [re 2,rs 2 (kL 13 c147 d.fg::es 2 (rQ 2 a (bq a::kX 13 c147 f::rQ 3 a (kT (e.fq==3) false a::es 1 []))))]
 obtain rfl:=soj b
 exact gE [re 2,rs 2 (kL 13 c147 d.fg::es 2 (rP 6 a (kV a::es 1 [])))]
theorem CF336 {f d} (e:F336 f=some d):A0 336 [.agg (c142 f)] (iP d):=by
 refine gC Tryz.func336 ?_
 obtain⟨h,n,e⟩:=Xa e
 refine gP 2 [re 2,rk 3 ⟨.pu (.bin .shr (.c (iP 3870720)) (.c (iP (wi (f.fA+1))))) (iP h),n_shr n⟩ 1,re 2] [(1,.bp 0 0),(3,iP h),(4,iP h)] [.cells (c142 f)] ?_
 refine gMq (λj=>([(4,iP j)],[],JF336_4 j)) d ?_ ?_
 ·rintro j e
  obtain rfl:=soj e
  exact gE [re 2]
 obtain⟨q,i,e⟩:=Xa e
 refine gPl 0 [re 3] 0 i [1] (λ(l,k,m)=>[(3,iP l),(4,iP k),(11,iP f.fF),(12,iP m)]) ?_
 rintro⟨l,k,m⟩ o a g
 rcases cor a with⟨b,a⟩|⟨b,a⟩
 ·cases a
  exact gj [re 1,bb b,re 3,re 4,re 2]
 cases a
 obtain rfl:=g _ rfl
 exact gke 0 0 [re 1,bb b] λ_ _ p=>Xh ⟨_,e,p⟩
theorem CF330 {e b} (a:F330 e=some b):A0 330 [.agg (c142 e)] (.tup [iP b.1,iP b.2]):=by
 refine gC Tryz.func330 ?_
 obtain⟨g,d,a⟩:=Xa a
 rcases cor a with⟨c,a⟩|⟨c,a⟩
 ·obtain rfl:=soj a
  exact gE [re 3,rk 1 (kC (CF219 d)) 1,re 2,bb c,re 3]
 obtain⟨h,f,a⟩:=Xa a
 obtain rfl:=soj a
 exact gE [re 3,rk 1 (kC (CF219 d)) 1,re 2,bb c,rk 1 (kC (CF336 f)) 2]
theorem CF325 {d b} (a:F325 d=some b):A0 325 [.agg (c147 d)] (.tup [iP b.1,iP b.2]):=by
 refine gC Tryz.func325 ?_
 refine gP 0 [re 3] [(1,.bp 0 0)] [.cells (c147 d)] ?_
 refine gS ?_
 obtain⟨h,j,a⟩:=Xa a
 refine gd 0 [rk 1 (kC (CF142 j)) 1] [] [(4,iP h)] ?_
 refine gMd [] (λe=>([(13,bP e)],JF325_4 h d e)) b ?_ ?_
 ·rintro e a
  rcases cor a with⟨g,a⟩|⟨g,a⟩
  ·obtain rfl:=soj a
   exact gE [bb g,re 3]
  refine gNd [bb g] [4,13] [] ?_
  obtain⟨k,i,a⟩:=Xa a
  obtain rfl:=soj a
  exact gE [rk 2 (kC (CF330 i)) 4]
 rcases cor a with⟨c,a⟩|⟨c,a⟩
 ·exact gj [rs 3 (rP 3 c (kU c::[]))] λ_ f=>⟨true,a,f⟩
 exact gj [rs 3 (rQ 3 c (kF true (d.fq==3) c::[]))] λ_ f=>⟨_,a,f⟩
theorem CF318 {g i} (d:F318 g=some i):A0 318 [eS 13 c147 g] (eS 1 cI i):=by
 refine gC Tryz.func318 ?_
 rcases cor d with⟨D,d⟩|⟨D,d⟩
 ·refine gD 1 [re 1,rs 1 (kL 13 c147 g::⟨.st (.mkSl 1 8 [iP 0] (.c (iP (ln g))) (.c (iP (ln g)))) [] (nP 0 1 cI ([]:List Int)) [.grow (List.length ([]:List Int)) 1] 0,n_mk0 D⟩::es 1 [])] [] [(3,nP 0 1 cI ([]:List Int))] 0 [.grow (List.length ([]:List Int)) 1] ?_
  refine gMd [0] (λ(_:Unit)=>([],JF318_4)) i ?_ ?_
  ·rintro⟨⟩ d
   refine Yp [re 2] .ret [(2,nP 0 1 cI ([]:List Int))] [.grow (List.length ([]:List Int)) 1] (λe o=>?_)
   obtain rfl:=soj d
   exact Zf (r:=(nP 0 1 cI ([]:List Int))) (.inr rfl) o (by kernel_rfl) (Ul cl_cI) ⟨rfl,rfl⟩
  obtain⟨S,y,d⟩:=Xa d
  refine gPl 0 [rk 1 (kL 13 c147 g) 1] 0 y [0] (λE=>[(9,eS 13 c147 g),(10,iP (ln g)),(11,iP E)]) ?_
  rintro E R n I
  rcases cor n with⟨t,n⟩|⟨t,n⟩
  ·obtain⟨N,M,G,K,n⟩:=bs2 n
   exact nomatch n
  cases n
  obtain rfl:=I _ rfl
  exact ge 0 [re 1,bb t] λ_ o=>Xh ⟨(),d,o⟩
 obtain⟨m,Q,d⟩:=Xa d
 refine gD 1 [re 1,rs 1 (kL 13 c147 g::⟨(.st (.mkSl 1 8 [iP 0] (.c (iP (ln g))) (.c (iP (ln g)))) [] (.bs 0 0 m 1 true) [.cells ((List.map (λx=>[PV.sc (.int .i64 x)]) (List.replicate m (0:Int))).flatten)] 0),(n_mkRow (f:=λx=>PV.sc (.int .i64 x)) Q rfl)⟩::es 1 [])] [] [(3,.bs 0 0 m 1 true)] 0 [.cells ((List.map (λx=>[PV.sc (.int .i64 x)]) (List.replicate m (0:Int))).flatten)] ?_
 refine gMD [0] 0 (λb=>([],[.cells ((List.map (λx=>[PV.sc (.int .i64 x)]) b).flatten)],JF318_17 m b)) i ?_ ?_
 ·rintro b d
  refine Yp [re 2] .ret [(2,.bs 0 0 m 1 true)] [.cells ((List.map (λx=>[PV.sc (.int .i64 x)]) b).flatten)] (λe o=>?_)
  obtain⟨_,P,d⟩:=Xa d
  obtain rfl:=soj d
  exact ends_cutF (r:=(.sl false .no 1 (List.map cI b))) (.inr rfl) (o.trans (weak_freeze (H:=[.cells ((List.map (λx=>[PV.sc (.int .i64 x)]) b).flatten)]) (c:=cI) (l:=b) (s:=1) (k:=0) (le':=[(2,.sl false .no 1 (List.map cI b))]) (Nat.zero_le _) rfl (λ_=>rfl) cl_cI (fzc (.row (gfz_len P)) fze) (abk rfl abe))) (by kernel_rfl) (psub_row cl_cI) ⟨rfl,rfl⟩
 obtain⟨F,q,d⟩:=Xa d
 refine gPL 0 [rk 1 (kL 13 c147 g) 1] 0 q [0] 0 (λ(h,p)=>([(9,eS 13 c147 g),(10,iP (ln g)),(11,iP h)],[.cells ((List.map (λx=>[PV.sc (.int .i64 x)]) p).flatten)])) ?_
 rintro⟨h,p⟩ J a z
 rcases cor a with⟨j,a⟩|⟨j,a⟩
 ·obtain⟨O,u,w,A,L,v,a⟩:=bs3 a
  obtain⟨C,B,a⟩:=Xa a
  cases a
  exact gk 1 [re 1,bb j,rk 1 (kX 13 c147 u) 4,rs 3 (kC (CF325 A)::es 3 (⟨.pu (.iaddrS 1 (.c (.bs 0 0 m 1 true)) (.c (iP h))) (.bp 0 (0+(Int.toNat h)*1)),n_iaddrB v⟩::⟨.fr (.store 1 (.c (.bp 0 (0+(Int.toNat h)*1))) (.c (iP w.1))) [0] [.cells ((List.map (λx=>[PV.sc (.int .i64 x)]) p).flatten)] [.cells ((List.map (λx=>[PV.sc (.int .i64 x)]) C).flatten)] (.tup []),fr_storeB (f:=λx=>PV.sc (.int .i64 x)) B rfl (λ_=>⟨rfl,rfl⟩)⟩::[])),re 2]
 cases a
 obtain rfl:=z _ rfl
 exact ge 0 [re 1,bb j] λ_ o=>Xh ⟨_,d,o⟩
theorem CF337 {d e a} (c:F337 d e=some a):A0 337 [.agg (c425 d),iP e] (bP a):=by
 refine gC Tryz.func337 ?_
 rcases cor c with⟨b,c⟩|⟨b,c⟩
 ·obtain rfl:=soj c
  exact gE [re 2,rs 5 (rQ 7 b (kT (decide ((wi (e-d.fav))<d.fI)) false b::es 1 []))]
 obtain rfl:=soj c
 exact gE [re 2,rs 5 (rP 7 b (kV b::es 1 []))]
theorem CF338 {m n a} (e:F338 m n=some a):A0 338 [iP m,iP n] (iP a):=by
 refine gC Tryz.func338 ?_
 refine gd 0 [re 1] [] [] ?_
 refine gMq (λf=>([(0,iP f)],[],JF338_3 f)) a ?_ ?_
 ·rintro f e
  obtain rfl:=soj e
  exact gE [re 2]
 refine gB 0 ?_
 obtain⟨q,g,e⟩:=Xa e
 refine gL g (λ(l,k)=>([(0,iP l),(1,iP k)],[])) wm ?_
 rintro⟨l,k⟩ p d h
 rcases cor d with⟨b,d⟩|⟨b,d⟩
 ·obtain⟨j,i,d⟩:=Xa d
  cases d
  exact gj [re 2,bb b,.r (es 3 (⟨.pu (.bin .rem (.c (iP l)) (.c (iP k))) (iP j),n_rem i⟩::es 1 [])) (es 1 [])]
 cases d
 obtain rfl:=h _ rfl
 exact ge 0 [re 2,bb b] λ_ o=>Xh ⟨_,e,o⟩
theorem CF335 {h z d} (i:F335 h z=some d):A0 335 [eS 4 c425 h,iP z] (.tup [iP d.1,iP d.2]):=by
 refine gC Tryz.func335 ?_
 refine gd 1 [re 2,re 2] [] [(4,iP 1),(5,iP 1)] ?_
 refine gMq (λ(x:Int×Int)=>match x with|(o,w)=>([(4,iP o),(5,iP w)],[],JF335_4 o w)) d ?_ ?_
 ·rintro⟨o,w⟩ i
  obtain rfl:=soj i
  exact gE [re 4]
 obtain⟨A,k,i⟩:=Xa i
 refine gPl 0 [rk 1 (kL 4 c425 h) 1] 0 k [0] (λ(n,m,y)=>[(4,iP n),(5,iP m),(9,eS 4 c425 h),(10,iP (ln h)),(11,iP y)]) ?_
 rintro⟨n,m,y⟩ B a p
 rcases cor a with⟨b,a⟩|⟨b,a⟩
 ·obtain⟨g,f,C,j,a⟩:=bs2 a
  rcases cor a with⟨e,a⟩|⟨e,a⟩
  ·obtain⟨l,t,q,s,v,u,a⟩:=bs3 a
   cases a
   exact gk 0 [re 1,bb b,.r (kX 4 c425 f::es 3 []) [],rk 2 (kC (CF337 j)) 0,bb e,.r (es 9 []) (es 1 []),rk 2 (kC (CF338 t)) 1,.r (es 2 (⟨.pu (.bin .quo (.c (iP (wi (n*g.far)))) (.c (iP l))) (iP q),n_quo s⟩::es 2 (⟨.pu (.bin .quo (.c (iP (wi (m*g.fap)))) (.c (iP l))) (iP v),n_quo u⟩::es 1 []))) (es 1 []),re 2]
  cases a
  exact gk 0 [re 1,bb b,.r (kX 4 c425 f::es 3 []) [],rk 2 (kC (CF337 j)) 0,bb e,re 2]
 cases a
 obtain rfl:=p _ rfl
 exact ge 0 [re 1,bb b] λ_ D=>Xh ⟨(n,m),i,D⟩
theorem CF327 {i l e d} (a:F327 i l e=some d):A0 327 [eS 4 c425 i,iP l,iP e] (.tup [iP d.1,iP d.2]):=by
 refine gC Tryz.func327 ?_
 refine gd 0 [re 2] [] [] ?_
 refine gS ?_
 refine gMd [] (λn=>([(15,bP n)],JF327_4 i l e n)) d ?_ ?_
 ·rintro n a
  rcases cor a with⟨h,a⟩|⟨h,a⟩
  ·obtain rfl:=soj a
   exact gE [bb h,re 2]
  refine gNd [bb h] [15] [] ?_
  obtain⟨g,q,p,o,a⟩:=bs2 a
  rcases cor a with⟨f,a⟩|⟨f,a⟩
  ·obtain rfl:=soj a
   exact gE [rk 2 (kC (CF335 q)) 5,rk 4 ⟨.pu (.bin .rem (.c (iP (wi (e*g.1)))) (.c (iP g.2))) (iP p),n_rem o⟩ 1,bb f,re 2]
  obtain⟨m,j,a⟩:=Xa a
  obtain rfl:=soj a
  exact gE [rk 2 (kC (CF335 q)) 5,rk 4 ⟨.pu (.bin .rem (.c (iP (wi (e*g.1)))) (.c (iP g.2))) (iP p),n_rem o⟩ 1,bb f,rk 4 ⟨.pu (.bin .quo (.c (iP (wi (e*g.1)))) (.c (iP g.2))) (iP m),n_quo j⟩ 2]
 rcases cor a with⟨b,a⟩|⟨b,a⟩
 ·exact gj [rs 3 (rP 2 b (kU b::[]))] λ_ k=>⟨true,a,k⟩
 exact gj [rs 3 (rQ 2 b (kF true (decide (e>7741440)) b::[]))] λ_ k=>⟨_,a,k⟩
theorem CF319 {t f d} (b:F319 t f=some d):A0 319 [eS 4 c425 t,eS 1 cI f] (.tup [eS 1 cI d.1,iP d.2]):=by
 refine gC Tryz.func319 ?_
 obtain⟨B,u,b⟩:=Xa b
 rcases cor b with⟨q,b⟩|⟨q,b⟩
 ·obtain rfl:=soj b
  exact gE [re 2,rs 2 (kL 1 cI f::kC (CF326 u)::es 1 []),re 2,bb q,re 3]
 obtain⟨C,x,b⟩:=Xa b
 refine gD 2 [re 2,rs 2 (kL 1 cI f::kC (CF326 u)::es 1 []),re 2,bb q,rs 1 (kL 1 cI f::⟨.st (.mkSl 1 8 [iP 0] (.c (iP 0)) (.c (iP (ln f)))) [] (nP 0 1 cI ([]:List Int)) [.grow (List.length ([]:List Int)) 1] 0,n_mkC x⟩::es 1 [])] [] [(7,nP 0 1 cI ([]:List Int))] 0 [.grow (List.length ([]:List Int)) 1] ?_
 refine gMq (λh=>([(7,nP 0 1 cI h)],[.grow (List.length h) 1],JF319_8 h)) d ?_ ?_
 ·rintro h b
  refine Yp [re 3] .ret [(4,nP 0 1 cI h),(5,iP 0)] [.grow (List.length h) 1] (λe s=>?_)
  obtain rfl:=soj b
  exact Zf (r:=(.tup [nP 0 1 cI h,iP 0])) (.inr rfl) s (by kernel_rfl) (psub_tup (qs:=[eS 1 cI (Sl.no h),iP 0]) (pc (Ul cl_cI) (pc (psub_cl (.sc _)) pe))) ⟨rfl,rfl⟩
 obtain⟨w,j,b⟩:=Xa b
 refine gPL 0 [rk 1 (kL 1 cI f) 1] 0 j [1] 0 (λ(o,k)=>([(7,nP 0 1 cI o),(22,eS 1 cI f),(23,iP (ln f)),(24,iP k)],[.grow (List.length o) 1])) ?_
 rintro⟨o,k⟩ v a n
 rcases cor a with⟨g,a⟩|⟨g,a⟩
 ·obtain⟨z,l,A,m,a⟩:=bs2 a
  rcases cor a with⟨i,a⟩|⟨i,a⟩
  ·cases a
   obtain rfl:=n _ rfl
   obtain rfl:=soj b
   exact gE [re 1,bb g,rk 1 (kX 1 cI l) 3,rk 3 (kC (CF327 m)) 5,re 2,bb i,re 3]
  obtain⟨y,p,a⟩:=Xa a
  cases a
  exact gj [re 1,bb g,rk 1 (kX 1 cI l) 3,rk 3 (kC (CF327 m)) 5,re 2,bb i,rk 3 (kAN 0 1 cI p) 1,re 2]
 cases a
 obtain rfl:=n _ rfl
 exact ge 0 [re 1,bb g] λ_ s=>Xh ⟨_,b,s⟩
theorem CF332 {b a} (c:F332 b=some a):A0 332 [.agg (c425 b)] (iP a):=by
 refine gC Tryz.func332 ?_
 obtain rfl:=soj c
 exact gE [re 2,re 6]
theorem CF328 {x z D e} (d:F328 x z D=some e):A0 328 [eS 4 c425 x,iP z,eS 1 cI D] (.tup [iP e.1,bP e.2]):=by
 refine gC Tryz.func328 ?_
 obtain⟨C,J,d⟩:=Xa d
 refine gD 2 [re 2,rk 2 (kX 4 c425 J) 3,re 1] [] [(8,.bp 0 0),(9,iP 0)] 0 [.cells (c425 C)] ?_
 refine gMd [0,1,2] (λA=>([(9,iP A)],JF328_6 C A)) e ?_ ?_
 ·rintro A d
  refine gMq (λ(_:Unit)=>([],[],JF328_7)) e ?_ ?_
  ·rintro⟨⟩ d
   obtain rfl:=soj d
   exact gE [re 2]
  obtain⟨G,u,d⟩:=Xa d
  refine gPl 0 [re 1] 2 u [] (λy=>[(13,iP y)]) ?_
  rintro y K b q
  rcases cor b with⟨g,b⟩|⟨g,b⟩
  ·obtain⟨t,s,b⟩:=Xa b
   rcases cor b with⟨i,b⟩|⟨i,b⟩
   ·cases b
    obtain rfl:=q _ rfl
    obtain rfl:=soj d
    exact gE [re 2,bb g,.r (es 5 (⟨.pu (.bin .shr (.c (iP 3870720)) (.c (iP (wi (y+1))))) (iP t),n_shr s⟩::es 1 [])) (es 1 []),bb i,re 3]
   cases b
   exact gj [re 2,bb g,.r (es 5 (⟨.pu (.bin .shr (.c (iP 3870720)) (.c (iP (wi (y+1))))) (iP t),n_shr s⟩::es 1 [])) (es 1 []),bb i,re 3]
  cases b
  obtain rfl:=q _ rfl
  exact gke 0 2 [re 2,bb g] λ_ _ B=>Xh ⟨(),d,B⟩
 obtain⟨H,p,d⟩:=Xa d
 refine gPl 0 [re 3] 0 p [] (λ(v,l)=>[(9,iP v),(10,iP l)]) ?_
 rintro⟨v,l⟩ E a m
 obtain⟨I,h,a⟩:=Xa a
 rcases cor a with⟨f,a⟩|⟨f,a⟩
 ·obtain⟨n,k,F,o,L,w,a⟩:=bs3 a
  rcases cor a with⟨j,a⟩|⟨j,a⟩
  ·cases a
   obtain rfl:=m _ rfl
   obtain rfl:=soj d
   exact gE [rk 2 (kC (CF332 h)) 1,bb f,.r (es 3 (⟨.pu (.slSl 4 (.c (eS 4 c425 x)) (some (.c (iP (wi (z+1))))) none none) (eS 4 c425 n),n_slh k⟩::es 3 (kX 1 cI o::es 1 (kC (CF327 w)::es 4 [])))) (es 1 []),re 2,bb j,re 2]
  cases a
  exact gj [rk 2 (kC (CF332 h)) 1,bb f,.r (es 3 (⟨.pu (.slSl 4 (.c (eS 4 c425 x)) (some (.c (iP (wi (z+1))))) none none) (eS 4 c425 n),n_slh k⟩::es 3 (kX 1 cI o::es 1 (kC (CF327 w)::es 4 [])))) (es 1 []),re 2,bb j,re 4,re 3]
 cases a
 obtain rfl:=m _ rfl
 exact ge 0 [rk 2 (kC (CF332 h)) 1,bb f] λ_ B=>Xh ⟨_,d,B⟩
theorem CF320 {i s f} (b:F320 i s=some f):A0 320 [eS 4 c425 i,eS 1 cI s] (.tup [eS 1 cI f.1,iP f.2]):=by
 refine gC Tryz.func320 ?_
 obtain⟨z,t,b⟩:=Xa b
 rcases cor b with⟨o,b⟩|⟨o,b⟩
 ·obtain rfl:=soj b
  exact gE [re 2,rk 2 (kC (CF319 t)) 5,re 2,bb o,re 3]
 obtain⟨A,v,b⟩:=Xa b
 refine gD 2 [re 2,rk 2 (kC (CF319 t)) 5,re 2,bb o,rs 1 (kL 4 c425 i::⟨.st (.mkSl 1 8 [iP 0] (.c (iP 0)) (.c (iP (ln i)))) [] (nP 0 1 cI ([]:List Int)) [.grow (List.length ([]:List Int)) 1] 0,n_mkC v⟩::es 1 [])] [] [(8,nP 0 1 cI ([]:List Int))] 0 [.grow (List.length ([]:List Int)) 1] ?_
 refine gMq (λg=>([(8,nP 0 1 cI g)],[.grow (List.length g) 1],JF320_8 g)) f ?_ ?_
 ·rintro g b
  refine Yp [re 3] .ret [(4,nP 0 1 cI g),(5,iP 0)] [.grow (List.length g) 1] (λe q=>?_)
  obtain rfl:=soj b
  exact Zf (r:=(.tup [nP 0 1 cI g,iP 0])) (.inr rfl) q (by kernel_rfl) (psub_tup (qs:=[eS 1 cI (Sl.no g),iP 0]) (pc (Ul cl_cI) (pc (psub_cl (.sc _)) pe))) ⟨rfl,rfl⟩
 obtain⟨x,j,b⟩:=Xa b
 refine gPL 0 [rk 1 (kL 4 c425 i) 1] 0 j [] 0 (λ(n,l)=>([(8,nP 0 1 cI n),(25,iP (ln i)),(26,iP l)],[.grow (List.length n) 1])) ?_
 rintro⟨n,l⟩ u a k
 rcases cor a with⟨d,a⟩|⟨d,a⟩
 ·obtain⟨w,m,a⟩:=Xa a
  rcases cor a with⟨h,a⟩|⟨h,a⟩
  ·cases a
   obtain rfl:=k _ rfl
   obtain rfl:=soj b
   exact gE [re 1,bb d,re 2,rk 3 (kC (CF328 m)) 5,re 2,bb h,re 2]
  obtain⟨y,p,a⟩:=Xa a
  cases a
  exact gj [re 1,bb d,re 2,rk 3 (kC (CF328 m)) 5,re 2,bb h,rk 3 (kAN 0 1 cI p) 1,re 2]
 cases a
 obtain rfl:=k _ rfl
 exact ge 0 [re 1,bb d] λ_ q=>Xh ⟨_,b,q⟩
theorem CF307 {e g} (c:F307 e=some g):A0 307 [.agg (c100 e)] (.tup [eS 1 cI g.1,iP g.2]):=by
 refine gC Tryz.func307 ?_
 refine gP 0 [re 3] [(1,.bp 0 0)] [.cells (c100 e)] ?_
 refine gMd [] (λ(_:Unit)=>([],JF307_1 e)) g ?_ ?_
 ·rintro⟨⟩ c
  obtain⟨z,v,B,r,c⟩:=bs2 c
  rcases cor c with⟨q,c⟩|⟨q,c⟩
  ·obtain rfl:=soj c
   exact gE [rk 2 (kC (CF318 v)) 1,rk 3 (kC (CF319 r)) 5,re 2,bb q,re 3]
  obtain⟨A,w,c⟩:=Xa c
  rcases cor c with⟨t,c⟩|⟨t,c⟩
  ·obtain rfl:=soj c
   exact gE [rk 2 (kC (CF318 v)) 1,rk 3 (kC (CF319 r)) 5,re 2,bb q,rk 3 (kC (CF320 w)) 5,re 2,bb t,re 2]
  obtain rfl:=soj c
  exact gE [rk 2 (kC (CF318 v)) 1,rk 3 (kC (CF319 r)) 5,re 2,bb q,rk 3 (kC (CF320 w)) 5,re 2,bb t,re 3]
 obtain⟨y,n,c⟩:=Xa c
 refine gPl 0 [rk 2 (kL 13 c147 e.fg) 1] 0 n [] (λf=>[(13,eS 13 c147 e.fg),(14,iP (ln e.fg)),(15,iP f)]) ?_
 rintro f s a h
 rcases cor a with⟨i,a⟩|⟨i,a⟩
 ·refine gd 1 [re 1,bb i] [] [] ?_
  refine gS ?_
  refine gB 1 ?_
  obtain⟨u,o,x,p,a⟩:=bs2 a
  rcases cor a with⟨l,a⟩|⟨l,a⟩
  ·cases a
   obtain rfl:=h _ rfl
   obtain rfl:=soj c
   exact gE [rk 1 (kX 13 c147 o) 4,rk 1 (kC (CF142 p)) 1,re 2,bb l,re 3]
  refine gD 1 [rk 1 (kX 13 c147 o) 4,rk 1 (kC (CF142 p)) 1,re 2,bb l] [] [(4,iP f),(5,.bp 1 0)] 1 [.cells (c147 u)] ?_
  refine gMD [4,5] 1 (λk=>([(37,bP k)],[],JF307_24 f k)) s ?_ ?_
  ·rintro k a
   rcases cor a with⟨j,a⟩|⟨j,a⟩
   ·cases a
    obtain rfl:=h _ rfl
    obtain rfl:=soj c
    exact gE [bb j,re 2]
   refine gNd [bb j] [37] [] ?_
   cases a
   exact gj [re 2]
  rcases cor a with⟨b,a⟩|⟨b,a⟩
  ·rcases cor a with⟨d,a⟩|⟨d,a⟩
   ·exact gk 1 [rs 4 (rQ 3 b (rP 4 d (bq b::kU d::kT true false b::[])))] λ_ _ m=>⟨true,a,m⟩
   exact gk 1 [rs 4 (rQ 3 b (rQ 2 d (bq d::kL 13 c147 e.fg::bq d::es 1 (bq b::kF true (decide ((ln e.fg)>1)) d::kT (decide ((ln e.fg)>1)) false b::[]))))] λ_ _ m=>⟨_,a,m⟩
  exact gk 1 [rs 4 (rP 4 b (kV b::[]))] λ_ _ m=>⟨false,a,m⟩
 cases a
 obtain rfl:=h _ rfl
 exact ge 0 [re 1,bb i] λ_ m=>Xh ⟨(),c,m⟩
theorem CF257 {e l d} (a:F257 e l=some d):A0 257 [.agg (c100 e),iP l] (.tup [eS 1 cI d.1,iP d.2]):=by
 refine gC Tryz.func257 ?_
 refine gD 0 [re 3] [0] [(2,.bp 0 0)] 0 [.cells (c100 e)] ?_
 refine gS ?_
 refine gB 0 ?_
 refine gMd [] (λp=>([(7,bP p)],JF257_3 e l p)) d ?_ ?_
 ·rintro p a
  rcases cor a with⟨n,a⟩|⟨n,a⟩
  ·obtain rfl:=soj a
   exact gE [bb n,re 2]
  rcases cor a with⟨q,a⟩|⟨q,a⟩
  ·obtain rfl:=soj a
   exact gE [bb n,rk 2 (kL 13 c147 e.fg) 2,bb q,re 2]
  refine gNd [bb n,rk 2 (kL 13 c147 e.fg) 2,bb q] [7] [] ?_
  refine gS ?_
  refine gMd [] (λo=>([(26,bP o)],JF257_7 e l o)) d ?_ ?_
  ·rintro o a
   rcases cor a with⟨k,a⟩|⟨k,a⟩
   ·obtain⟨v,g,u,i,a⟩:=bs2 a
    rcases cor a with⟨f,a⟩|⟨f,a⟩
    ·obtain rfl:=soj a
     exact gE [bb k,rs 2 (kX 13 c147 g::es 1 (kC (CF142 i)::es 1 [])),re 2,bb f,re 3]
    rcases cor a with⟨h,a⟩|⟨h,a⟩
    ·obtain rfl:=soj a
     exact gE [bb k,rs 2 (kX 13 c147 g::es 1 (kC (CF142 i)::es 1 [])),re 2,bb f,rk 2 (kL 4 c425 e.fY) 1,bb h,re 2]
    obtain rfl:=soj a
    exact gE [bb k,rs 2 (kX 13 c147 g::es 1 (kC (CF142 i)::es 1 [])),re 2,bb f,rk 2 (kL 4 c425 e.fY) 1,bb h,re 4]
   refine gNd [bb k] [1,26] [] ?_
   obtain⟨t,r,a⟩:=Xa a
   obtain rfl:=soj a
   exact gE [rk 1 (kC (CF307 r)) 4]
  obtain⟨s,m,a⟩:=Xa a
  rcases cor a with⟨b,a⟩|⟨b,a⟩
  ·exact gj [rs 1 (kC (CF306 m)::es 1 (rQ 2 b (bq b::kL 13 c147 e.fg::bq b::es 1 (kT ((ln e.fg)==1) false b::[]))))] λ_ j=>⟨_,a,j⟩
  exact gj [rs 1 (kC (CF306 m)::es 1 (rP 4 b (kV b::[])))] λ_ j=>⟨false,a,j⟩
 rcases cor a with⟨c,a⟩|⟨c,a⟩
 ·exact gj [rs 3 (rP 2 c (kU c::es 1 []))] λ_ j=>⟨true,a,j⟩
 exact gj [rs 3 (rQ 2 c (kF true (decide (l>15482880)) c::es 1 []))] λ_ j=>⟨_,a,j⟩
theorem CF258 {d b} (e:F258 d=some b):A0 258 [eS 1 cI d] (iP b):=by
 refine gC Tryz.func258 ?_
 refine gd 1 [re 1,re 1] [] [(3,iP 0)] ?_
 refine gMq (λh=>([(3,iP h)],[],JF258_2 h)) b ?_ ?_
 ·rintro h e
  obtain rfl:=soj e
  exact gE [re 2]
 obtain⟨n,g,e⟩:=Xa e
 refine gPl 0 [rk 1 (kL 1 cI d) 1] 0 g [0] (λ(i,j)=>[(3,iP i),(6,eS 1 cI d),(7,iP (ln d)),(8,iP j)]) ?_
 rintro⟨i,j⟩ o a l
 rcases cor a with⟨c,a⟩|⟨c,a⟩
 ·obtain⟨k,f,a⟩:=Xa a
  cases a
  exact gj [re 1,bb c,.r (kX 1 cI f::es 2 []) [],re 4,re 2]
 cases a
 obtain rfl:=l _ rfl
 exact ge 0 [re 1,bb c] λ_ m=>Xh ⟨_,e,m⟩
theorem CF188 {i m d} (a:F188 i m=some d):A0 188 [.agg (c100 i),iP m] (.tup [eS 1 cI d.1,iP d.2]):=by
 refine gC Tryz.func188 ?_
 obtain⟨f,o,a⟩:=Xa a
 refine gD 1 [re 3,rk 2 (kC (CF257 o)) 5] [0] [(6,eS 1 cI f.1),(7,iP f.2)] 0 [.cells (c100 i)] ?_
 refine gMD [1] 0 (λn=>([(7,iP n)],[],JF188_5 f n)) d ?_ ?_
 ·rintro n a
  rcases cor a with⟨j,a⟩|⟨j,a⟩
  ·obtain rfl:=soj a
   exact gE [re 2,bb j,re 3]
  obtain rfl:=soj a
  exact gE [re 2,bb j,re 3]
 refine gMD [1] 0 (λk=>([(26,bP k)],[],JF188_8 f k)) d ?_ ?_
 ·rintro k a
  rcases cor a with⟨l,a⟩|⟨l,a⟩
  ·exact gj [bb l,re 1] λ_ e=>⟨20,a,e⟩
  exact gj [bb l] λ_ e=>⟨_,a,e⟩
 rcases cor a with⟨b,a⟩|⟨b,a⟩
 ·rcases cor a with⟨c,a⟩|⟨c,a⟩
  ·obtain⟨h,g,a⟩:=Xa a
   exact gk 0 [rs 3 (bq b::es 1 (bq b::kL 1 cI f.1::bq b::es 1 (kT (decide ((ln f.1)>0)) false b::es 1 (bq c::es 1 (bq c::kC (CF258 g)::rQ 2 c (kT (h !=m) false c::[]))))))] λ_ _ e=>⟨_,a,e⟩
  exact gk 0 [rs 3 (bq b::es 1 (bq b::kL 1 cI f.1::bq b::es 1 (kT (decide ((ln f.1)>0)) false b::es 1 (rP 4 c (kV c::[])))))] λ_ _ e=>⟨false,a,e⟩
 exact gk 0 [rs 3 (rP 3 b (kV b::es 1 (rp 4 bqF (es 1 []))))] λ_ _ e=>⟨false,a,e⟩
theorem CF213 {d c a} (b:F213 d c=some a):A0 213 [.agg (c100 d),iP c] (iP a):=by
 refine gC Tryz.func213 ?_
 obtain⟨f,e,b⟩:=Xa b
 obtain rfl:=soj b
 exact gE [re 2,rk 2 (kC (CF188 e)) 5,re 2]
theorem CF138 {d a} (c:F138 d=some a):A0 138 [iP d] (bP a):=by
 refine gC Tryz.func138 ?_
 rcases cor c with⟨b,c⟩|⟨b,c⟩
 ·obtain rfl:=soj c
  exact gE [re 1,rs 3 (rP 2 b (kU b::es 1 []))]
 obtain rfl:=soj c
 exact gE [re 1,rs 3 (rQ 2 b (kF true (d==20) b::es 1 []))]
theorem CF211_1 {e d c} (a:F211_1 e d=some c):A1 211 [.agg (c100 e),.bp 0 0,.bp 1 0,.bp 2 0] [.cells [(fk 207)],.cells [(fk 138)],.cells [iP d]] (bP c) [.cells [(fk 207)],.cells [(fk 138)],.cells [iP d]]:=by
 refine gC Tryz.func211 ?_
 obtain⟨k,f,a⟩:=Xa a
 rcases cor a with⟨b,a⟩|⟨b,a⟩
 ·obtain⟨j,i,h,g,a⟩:=bs2 a
  obtain rfl:=soj a
  exact gH 3 [re 2,.r (es 3 (kC (CF212_1 f)::es 2 (rQ 3 b (bq b::kC (CF213 i)::[])))) (bq b::kC (CF138 g)::kT h false b::es 1 [])]
 obtain rfl:=soj a
 exact gH 3 [re 2,.r (es 3 (kC (CF212_1 f)::es 2 (rP 4 b []))) (bq b::kV b::es 1 [])]
theorem CF279_1 {h j d} (e:F279_1 h j=some d):A1 279 [eS 2 c100 h,(.fn (.func 211) [] [.bp 0 0,.bp 1 0,.bp 2 0])] [.cells [(fk 207)],.cells [(fk 138)],.cells [iP j]] (iP d) [.cells [(fk 207)],.cells [(fk 138)],.cells [iP j]]:=by
 refine gC Tryz.func279 ?_
 refine gd 0 [re 1] [] [] ?_
 refine gMd [0,1] (λ(_:Unit)=>([],JF279_1_2)) d ?_ ?_
 ·rintro⟨⟩ e
  obtain rfl:=soj e
  exact gH 3 [re 1]
 obtain⟨p,i,e⟩:=Xa e
 refine gPl 0 [rk 1 (kL 2 c100 h) 1] 0 i [] (λl=>[(7,iP (ln h)),(8,iP l)]) ?_
 rintro l q a k
 rcases cor a with⟨b,a⟩|⟨b,a⟩
 ·obtain⟨o,f,m,g,a⟩:=bs2 a
  rcases cor a with⟨c,a⟩|⟨c,a⟩
  ·cases a
   obtain rfl:=k _ rfl
   obtain rfl:=soj e
   exact gH 3 [re 1,bb b,re 2,rs 3 (kX 2 c100 f::es 1 (kQ [0,1,2] [] 0 3 (CF211_1 g)::[])),bb c,re 2]
  cases a
  exact gj [re 1,bb b,re 2,rs 3 (kX 2 c100 f::es 1 (kQ [0,1,2] [] 0 3 (CF211_1 g)::[])),bb c,re 2]
 cases a
 obtain rfl:=k _ rfl
 exact ge 0 [re 1,bb b] λ_ n=>Xh ⟨(),e,n⟩
theorem CF210_1 {d b a} (c:F210_1 d b=some a):A1 210 [eS 2 c100 d,(.fn (.func 211) [] [.bp 0 0,.bp 1 0,.bp 2 0])] [.cells [(fk 207)],.cells [(fk 138)],.cells [iP b]] (bP a) [.cells [(fk 207)],.cells [(fk 138)],.cells [iP b]]:=by
 refine gC Tryz.func210 ?_
 obtain⟨f,e,c⟩:=Xa c
 obtain rfl:=soj c
 exact gH 3 [re 1,rk 2 (kQ [0,1,2] [] 0 0 (CF279_1 e)) 2]
theorem CF209_1 {d b a} (c:F209_1 d b=some a):A1 209 [.agg (c95 d),.bp 0 0,.bp 1 0,.bp 2 0] [.cells [(fk 207)],.cells [(fk 138)],.cells [iP b]] (bP a) [.cells [(fk 207)],.cells [(fk 138)],.cells [iP b]]:=by
 refine gC Tryz.func209 ?_
 obtain⟨f,e,c⟩:=Xa c
 obtain rfl:=soj c
 exact gH 3 [re 2,rk 3 (kQ [0,1,2] [] 0 0 (CF210_1 e)) 1]
theorem CF278_1 {h j d} (e:F278_1 h j=some d):A1 278 [eS 2 c95 h,(.fn (.func 209) [] [.bp 0 0,.bp 1 0,.bp 2 0])] [.cells [(fk 207)],.cells [(fk 138)],.cells [iP j]] (iP d) [.cells [(fk 207)],.cells [(fk 138)],.cells [iP j]]:=by
 refine gC Tryz.func278 ?_
 refine gd 0 [re 1] [] [] ?_
 refine gMd [0,1] (λ(_:Unit)=>([],JF278_1_2)) d ?_ ?_
 ·rintro⟨⟩ e
  obtain rfl:=soj e
  exact gH 3 [re 1]
 obtain⟨p,i,e⟩:=Xa e
 refine gPl 0 [rk 1 (kL 2 c95 h) 1] 0 i [] (λl=>[(7,iP (ln h)),(8,iP l)]) ?_
 rintro l q a k
 rcases cor a with⟨b,a⟩|⟨b,a⟩
 ·obtain⟨o,f,m,g,a⟩:=bs2 a
  rcases cor a with⟨c,a⟩|⟨c,a⟩
  ·cases a
   obtain rfl:=k _ rfl
   obtain rfl:=soj e
   exact gH 3 [re 1,bb b,re 2,rs 3 (kX 2 c95 f::es 1 (kQ [0,1,2] [] 0 3 (CF209_1 g)::[])),bb c,re 2]
  cases a
  exact gj [re 1,bb b,re 2,rs 3 (kX 2 c95 f::es 1 (kQ [0,1,2] [] 0 3 (CF209_1 g)::[])),bb c,re 2]
 cases a
 obtain rfl:=k _ rfl
 exact ge 0 [re 1,bb b] λ_ n=>Xh ⟨(),e,n⟩
theorem CF208_1 {d b a} (c:F208_1 d b=some a):A1 208 [eS 2 c95 d,(.fn (.func 209) [] [.bp 0 0,.bp 1 0,.bp 2 0])] [.cells [(fk 207)],.cells [(fk 138)],.cells [iP b]] (bP a) [.cells [(fk 207)],.cells [(fk 138)],.cells [iP b]]:=by
 refine gC Tryz.func208 ?_
 obtain⟨f,e,c⟩:=Xa c
 obtain rfl:=soj c
 exact gH 3 [re 1,rk 2 (kQ [0,1,2] [] 0 0 (CF278_1 e)) 2]
theorem CF206_1 {f d b} (a:F206_1 f d=some b):A1 206 [iP f,.agg (c75 d),.bp 0 0] [.cells [(fk 138)]] (bP b) [.cells [(fk 138)]]:=by
 refine gC Tryz.func206 ?_
 obtain⟨h,e,a⟩:=Xa a
 rcases cor a with⟨c,a⟩|⟨c,a⟩
 ·obtain rfl:=soj a
  exact gH 1 [re 2,rk 1 (kC (CF99 e)) 6,re 2,bb c,re 1]
 obtain⟨i,g,a⟩:=Xa a
 obtain rfl:=soj a
 exact gH 1 [re 2,rk 1 (kC (CF99 e)) 6,re 2,bb c,re 2,rk 3 (kQ [3,0,2] [] 0 0 (CF208_1 g)) 1]
theorem CF131_4 {a e n d} (l:F131_4 a e n=some d):A1 131 [.bp 0 0,(.fn (.func 206) [] [.bp 2 0])] (hC a e n++[.cells [(fk 138)]]) (.tup []) (hC a e d++[.cells [(fk 138)]]):=by
 refine gC Tryz.func131 ?_
 obtain⟨v,g,l⟩:=Xa l
 refine gPL 0 [rk 5 (kL 22 c75 a.fc) 1] 0 g [] 0 (λ(p,o)=>([(10,eS 22 c75 a.fc),(11,iP (ln a.fc)),(12,iP p)],(hC a e o++[.cells [(fk 138)]]))) ?_
 rintro⟨p,o⟩ u c f
 rcases cor c with⟨b,c⟩|⟨b,c⟩
 ·obtain⟨q,h,t,m,s,i,c⟩:=bs3 c
  cases c
  exact gk 3 [re 1,bb b,rk 1 (kX 22 c75 h) 4,.r (es 4 (kQ [2] [] 0 1 (CF206_1 m)::es 2 [])) (kK [0,1] [] 0 0 (Yd i)::[]),re 2]
 cases c
 obtain rfl:=f _ rfl
 obtain rfl:=soj l
 exact g_rh 3 [re 1,bb b] (.exit 0) λ_ _ k j=>Xh (hn k j)
theorem CF137_1 {d b e a} (c:F137_1 d b e=some a):A1 137 [.bp 0 0,(fk 138)] (hC d b e) (.tup []) (hC d b a):=by
 refine gC Tryz.func137 ?_
 obtain⟨g,f,c⟩:=Xa c
 obtain rfl:=soj c
 exact gHn 2 [re 1,rk 2 (kK [0,1,2] [] 0 0 (CF131_4 f)) 0]
theorem CF65_1 {d b e a} (c:F65_1 d b e=some a):A1 65 [.bp 0 0] (hC d b e) (.tup []) (hC d b a):=by
 refine gC Tryz.func65 ?_
 obtain⟨g,f,c⟩:=Xa c
 obtain rfl:=soj c
 exact gHn 2 [rk 1 (kK [0,1] [] 0 0 (CF137_1 f)) 0]
theorem CF139 {d c} (b:F139 d=some c):A0 139 [iP d] (bP c):=by
 refine gC Tryz.func139 ?_
 rcases cor b with⟨a,b⟩|⟨a,b⟩
 ·obtain⟨e,f,b⟩:=Xa b
  obtain rfl:=soj b
  exact gE [re 1,rs 3 (bq a::es 1 (bq a::kC (CF138 f)::bq a::es 1 (kT (!e) false a::es 1 [])))]
 obtain rfl:=soj b
 exact gE [re 1,rs 3 (rP 3 a (kV a::es 1 []))]
theorem CF211_2 {e d c} (a:F211_2 e d=some c):A1 211 [.agg (c100 e),.bp 0 0,.bp 1 0,.bp 2 0] [.cells [(fk 207)],.cells [(fk 139)],.cells [iP d]] (bP c) [.cells [(fk 207)],.cells [(fk 139)],.cells [iP d]]:=by
 refine gC Tryz.func211 ?_
 obtain⟨k,f,a⟩:=Xa a
 rcases cor a with⟨b,a⟩|⟨b,a⟩
 ·obtain⟨j,i,h,g,a⟩:=bs2 a
  obtain rfl:=soj a
  exact gH 3 [re 2,.r (es 3 (kC (CF212_1 f)::es 2 (rQ 3 b (bq b::kC (CF213 i)::[])))) (bq b::kC (CF139 g)::kT h false b::es 1 [])]
 obtain rfl:=soj a
 exact gH 3 [re 2,.r (es 3 (kC (CF212_1 f)::es 2 (rP 4 b []))) (bq b::kV b::es 1 [])]
theorem CF279_2 {h j d} (e:F279_2 h j=some d):A1 279 [eS 2 c100 h,(.fn (.func 211) [] [.bp 0 0,.bp 1 0,.bp 2 0])] [.cells [(fk 207)],.cells [(fk 139)],.cells [iP j]] (iP d) [.cells [(fk 207)],.cells [(fk 139)],.cells [iP j]]:=by
 refine gC Tryz.func279 ?_
 refine gd 0 [re 1] [] [] ?_
 refine gMd [0,1] (λ(_:Unit)=>([],JF279_2_2)) d ?_ ?_
 ·rintro⟨⟩ e
  obtain rfl:=soj e
  exact gH 3 [re 1]
 obtain⟨p,i,e⟩:=Xa e
 refine gPl 0 [rk 1 (kL 2 c100 h) 1] 0 i [] (λl=>[(7,iP (ln h)),(8,iP l)]) ?_
 rintro l q a k
 rcases cor a with⟨b,a⟩|⟨b,a⟩
 ·obtain⟨o,f,m,g,a⟩:=bs2 a
  rcases cor a with⟨c,a⟩|⟨c,a⟩
  ·cases a
   obtain rfl:=k _ rfl
   obtain rfl:=soj e
   exact gH 3 [re 1,bb b,re 2,rs 3 (kX 2 c100 f::es 1 (kQ [0,1,2] [] 0 3 (CF211_2 g)::[])),bb c,re 2]
  cases a
  exact gj [re 1,bb b,re 2,rs 3 (kX 2 c100 f::es 1 (kQ [0,1,2] [] 0 3 (CF211_2 g)::[])),bb c,re 2]
 cases a
 obtain rfl:=k _ rfl
 exact ge 0 [re 1,bb b] λ_ n=>Xh ⟨(),e,n⟩
theorem CF210_2 {d b a} (c:F210_2 d b=some a):A1 210 [eS 2 c100 d,(.fn (.func 211) [] [.bp 0 0,.bp 1 0,.bp 2 0])] [.cells [(fk 207)],.cells [(fk 139)],.cells [iP b]] (bP a) [.cells [(fk 207)],.cells [(fk 139)],.cells [iP b]]:=by
 refine gC Tryz.func210 ?_
 obtain⟨f,e,c⟩:=Xa c
 obtain rfl:=soj c
 exact gH 3 [re 1,rk 2 (kQ [0,1,2] [] 0 0 (CF279_2 e)) 2]
theorem CF209_2 {d b a} (c:F209_2 d b=some a):A1 209 [.agg (c95 d),.bp 0 0,.bp 1 0,.bp 2 0] [.cells [(fk 207)],.cells [(fk 139)],.cells [iP b]] (bP a) [.cells [(fk 207)],.cells [(fk 139)],.cells [iP b]]:=by
 refine gC Tryz.func209 ?_
 obtain⟨f,e,c⟩:=Xa c
 obtain rfl:=soj c
 exact gH 3 [re 2,rk 3 (kQ [0,1,2] [] 0 0 (CF210_2 e)) 1]
theorem CF278_2 {h j d} (e:F278_2 h j=some d):A1 278 [eS 2 c95 h,(.fn (.func 209) [] [.bp 0 0,.bp 1 0,.bp 2 0])] [.cells [(fk 207)],.cells [(fk 139)],.cells [iP j]] (iP d) [.cells [(fk 207)],.cells [(fk 139)],.cells [iP j]]:=by
 refine gC Tryz.func278 ?_
 refine gd 0 [re 1] [] [] ?_
 refine gMd [0,1] (λ(_:Unit)=>([],JF278_2_2)) d ?_ ?_
 ·rintro⟨⟩ e
  obtain rfl:=soj e
  exact gH 3 [re 1]
 obtain⟨p,i,e⟩:=Xa e
 refine gPl 0 [rk 1 (kL 2 c95 h) 1] 0 i [] (λl=>[(7,iP (ln h)),(8,iP l)]) ?_
 rintro l q a k
 rcases cor a with⟨b,a⟩|⟨b,a⟩
 ·obtain⟨o,f,m,g,a⟩:=bs2 a
  rcases cor a with⟨c,a⟩|⟨c,a⟩
  ·cases a
   obtain rfl:=k _ rfl
   obtain rfl:=soj e
   exact gH 3 [re 1,bb b,re 2,rs 3 (kX 2 c95 f::es 1 (kQ [0,1,2] [] 0 3 (CF209_2 g)::[])),bb c,re 2]
  cases a
  exact gj [re 1,bb b,re 2,rs 3 (kX 2 c95 f::es 1 (kQ [0,1,2] [] 0 3 (CF209_2 g)::[])),bb c,re 2]
 cases a
 obtain rfl:=k _ rfl
 exact ge 0 [re 1,bb b] λ_ n=>Xh ⟨(),e,n⟩
theorem CF208_2 {d b a} (c:F208_2 d b=some a):A1 208 [eS 2 c95 d,(.fn (.func 209) [] [.bp 0 0,.bp 1 0,.bp 2 0])] [.cells [(fk 207)],.cells [(fk 139)],.cells [iP b]] (bP a) [.cells [(fk 207)],.cells [(fk 139)],.cells [iP b]]:=by
 refine gC Tryz.func208 ?_
 obtain⟨f,e,c⟩:=Xa c
 obtain rfl:=soj c
 exact gH 3 [re 1,rk 2 (kQ [0,1,2] [] 0 0 (CF278_2 e)) 2]
theorem CF206_2 {f d b} (a:F206_2 f d=some b):A1 206 [iP f,.agg (c75 d),.bp 0 0] [.cells [(fk 139)]] (bP b) [.cells [(fk 139)]]:=by
 refine gC Tryz.func206 ?_
 obtain⟨h,e,a⟩:=Xa a
 rcases cor a with⟨c,a⟩|⟨c,a⟩
 ·obtain rfl:=soj a
  exact gH 1 [re 2,rk 1 (kC (CF99 e)) 6,re 2,bb c,re 1]
 obtain⟨i,g,a⟩:=Xa a
 obtain rfl:=soj a
 exact gH 1 [re 2,rk 1 (kC (CF99 e)) 6,re 2,bb c,re 2,rk 3 (kQ [3,0,2] [] 0 0 (CF208_2 g)) 1]
theorem CF131_5 {a e n d} (l:F131_5 a e n=some d):A1 131 [.bp 0 0,(.fn (.func 206) [] [.bp 2 0])] (hC a e n++[.cells [(fk 139)]]) (.tup []) (hC a e d++[.cells [(fk 139)]]):=by
 refine gC Tryz.func131 ?_
 obtain⟨v,g,l⟩:=Xa l
 refine gPL 0 [rk 5 (kL 22 c75 a.fc) 1] 0 g [] 0 (λ(p,o)=>([(10,eS 22 c75 a.fc),(11,iP (ln a.fc)),(12,iP p)],(hC a e o++[.cells [(fk 139)]]))) ?_
 rintro⟨p,o⟩ u c f
 rcases cor c with⟨b,c⟩|⟨b,c⟩
 ·obtain⟨q,h,t,m,s,i,c⟩:=bs3 c
  cases c
  exact gk 3 [re 1,bb b,rk 1 (kX 22 c75 h) 4,.r (es 4 (kQ [2] [] 0 1 (CF206_2 m)::es 2 [])) (kK [0,1] [] 0 0 (Yd i)::[]),re 2]
 cases c
 obtain rfl:=f _ rfl
 obtain rfl:=soj l
 exact g_rh 3 [re 1,bb b] (.exit 0) λ_ _ k j=>Xh (hn k j)
theorem CF137_2 {d b e a} (c:F137_2 d b e=some a):A1 137 [.bp 0 0,(fk 139)] (hC d b e) (.tup []) (hC d b a):=by
 refine gC Tryz.func137 ?_
 obtain⟨g,f,c⟩:=Xa c
 obtain rfl:=soj c
 exact gHn 2 [re 1,rk 2 (kK [0,1,2] [] 0 0 (CF131_5 f)) 0]
theorem CF66_1 {d b e a} (c:F66_1 d b e=some a):A1 66 [.bp 0 0] (hC d b e) (.tup []) (hC d b a):=by
 refine gC Tryz.func66 ?_
 obtain⟨g,f,c⟩:=Xa c
 obtain rfl:=soj c
 exact gHn 2 [rk 1 (kK [0,1] [] 0 0 (CF137_2 f)) 0]
theorem CF141 {d c a} (b:F141 d c=some a):A0 141 [.agg (c236 d),.agg (c147 c)] (bP a):=by
 refine gC Tryz.func141 ?_
 obtain⟨f,e,b⟩:=Xa b
 obtain rfl:=soj b
 exact gE [re 3,rk 1 (kC (CF142 e)) 2]
theorem CF140_1 {e h T v} (S:F140_1 e h T=some v):A1 140 [.bp 0 0,(fk 141)] (hC e h T) (.tup []) (hC e h v):=by
 refine gC Tryz.func140 ?_
 obtain⟨o7,F,S⟩:=Xa S
 refine gPL 0 [rk 5 (kL 22 c75 e.fc) 1] 0 F [] 0 (λ(E,U)=>([(16,eS 22 c75 e.fc),(17,iP (ln e.fc)),(18,iP E)],hC e h U)) ?_
 rintro⟨E,U⟩ X g L
 rcases cor g with⟨t,g⟩|⟨t,g⟩
 ·refine gd 1 [re 1,bb t] [] [] ?_
  refine gMD [] 0 (λo=>([],hC e h o,Qs E o)) X ?_ ?_
  ·rintro o g
   cases g
   exact gj [re 2]
  refine gB 1 ?_
  obtain⟨c,P,g⟩:=Xa g
  obtain⟨ac,D,g⟩:=Xa g
  refine gPL 1 [rk 1 (kX 22 c75 P) 4,rk 2 (kL 2 c95 c.ff) 1] 2 D [] 0 (λ(m,B)=>([(4,iP E),(24,eS 2 c95 c.ff),(25,iP (ln c.ff)),(26,iP m)],hC e h B++[.cells (c75 c)])) ?_
  rintro⟨m,B⟩ G a K
  rcases cor a with⟨p,a⟩|⟨p,a⟩
  ·refine gd 1 [re 1,bb p] [] [] ?_
   refine gMD [] 0 (λn=>([],hC e h n++[.cells (c75 c)],Qr m n)) G ?_ ?_
   ·rintro n a
    cases a
    exact gj [re 2]
   refine gB 3 ?_
   obtain⟨f,J,a⟩:=Xa a
   obtain⟨Y,y,a⟩:=Xa a
   refine gPL 1 [rk 1 (kX 2 c95 J) 4,rk 2 (kL 2 c100 f.fh) 1] 4 y [] 0 (λ(l,z)=>([(6,iP m),(32,eS 2 c100 f.fh),(33,iP (ln f.fh)),(34,iP l)],hC e h z++[.cells (c75 c),.cells (c95 f)])) ?_
   rintro⟨l,z⟩ Q b M
   rcases cor b with⟨u,b⟩|⟨u,b⟩
   ·refine gd 1 [re 1,bb u] [] [] ?_
    refine gMD [] 0 (λq=>([],hC e h q++[.cells (c75 c),.cells (c95 f)],Qq l q)) Q ?_ ?_
    ·rintro q b
     cases b
     exact gj [re 2]
    refine gB 5 ?_
    obtain⟨i,I,b⟩:=Xa b
    obtain⟨Z,A,b⟩:=Xa b
    refine gPL 1 [rk 1 (kX 2 c100 I) 4,rk 2 (kL 13 c147 i.fg) 1] 6 A [] 0 (λ(w,x)=>([(8,iP l),(40,eS 13 c147 i.fg),(41,iP (ln i.fg)),(42,iP w)],hC e h x++[.cells (c75 c),.cells (c95 f),.cells (c100 i)])) ?_
    rintro⟨w,x⟩ ab d N
    rcases cor d with⟨s,d⟩|⟨s,d⟩
    ·obtain⟨V,O,aa,H,W,R,d⟩:=bs3 d
     cases d
     exact gk 5 [re 1,bb s,rk 1 (kX 13 c147 O) 4,.r (es 8 (kC (CF141 H)::es 2 [])) (kK [0,1] [] 0 0 (Yd R)::[]),re 2]
    cases d
    obtain rfl:=N _ rfl
    exact gke 4 6 [re 1,bb s] λ_ _ C=>Xh ⟨_,b,C⟩
   cases b
   obtain rfl:=M _ rfl
   exact gke 3 4 [re 1,bb u] λ_ _ C=>Xh ⟨_,a,C⟩
  cases a
  obtain rfl:=K _ rfl
  exact gke 2 2 [re 1,bb p] λ_ _ C=>Xh ⟨_,g,C⟩
 cases g
 obtain rfl:=L _ rfl
 obtain rfl:=soj S
 exact g_rh 2 [re 1,bb t] (.exit 0) λ_ _ k j=>Xh (hn k j)
theorem CF67_1 {d b e a} (c:F67_1 d b e=some a):A1 67 [.bp 0 0] (hC d b e) (.tup []) (hC d b a):=by
 refine gC Tryz.func67 ?_
 obtain⟨g,f,c⟩:=Xa c
 obtain rfl:=soj c
 exact gHn 2 [rk 1 (kK [0,1] [] 0 0 (CF140_1 f)) 0]
theorem CF144 {g m b} (c:F144 g m=some b):A0 144 [.agg (c27 g),iP m] (.tup [iP b.1,iP b.2.1,iP b.2.2]):=by
 refine gC Tryz.func144 ?_
 rcases cor c with⟨j,c⟩|⟨j,c⟩
 ·obtain rfl:=soj c
  exact gE [re 4,re 2,bb j,re 3]
 refine gD 1 [re 4,re 2,bb j] [0] [(2,.bp 0 0)] 0 [.cells (c27 g)] ?_
 refine gMq (λ(_:Unit)=>([],[],JF144_3)) b ?_ ?_
 ·rintro⟨⟩ c
  obtain rfl:=soj c
  exact gE [re 3]
 obtain⟨p,k,c⟩:=Xa c
 refine gPl 0 [rk 2 (kL 6 c68 g.fi) 1] 0 k [2] (λ(n,l)=>[(1,iP n),(12,eS 6 c68 g.fi),(13,iP (ln g.fi)),(14,iP l)]) ?_
 rintro⟨n,l⟩ q a i
 rcases cor a with⟨d,a⟩|⟨d,a⟩
 ·obtain⟨e,h,a⟩:=Xa a
  rcases cor a with⟨f,a⟩|⟨f,a⟩
  ·cases a
   obtain rfl:=i _ rfl
   obtain rfl:=soj c
   exact gE [re 1,bb d,rk 1 (kX 6 c68 h) 4,rk 3 (kL 3 c184 e.fx) 1,bb f,re 5]
  cases a
  exact gk 1 [re 1,bb d,rk 1 (kX 6 c68 h) 4,rk 3 (kL 3 c184 e.fx) 1,bb f,rk 3 (kL 3 c184 e.fx) 2,re 2]
 cases a
 obtain rfl:=i _ rfl
 exact gke 0 0 [re 1,bb d] λ_ _ o=>Xh ⟨(),c,o⟩
theorem CF145_1 {d b a} (c:F145_1 d b=some a):A1 145 [.agg (c80 d),.bp 0 0] [.cells [iP b]] (bP a) [.cells [iP b]]:=by
 refine gC Tryz.func145 ?_
 obtain⟨g,f,h,e,c⟩:=bs2 c
 obtain rfl:=soj c
 exact gH 1 [re 2,rk 1 (kC (CF77 f)) 5,rk 3 (kC (Xz e)) 2]
theorem CF147_1 {d b a} (c:F147_1 d b=some a):A1 147 [.agg (c182 d),.bp 0 0] [.cells [(.fn (.func 145) [] [.bp 1 0])],.cells [iP b]] (bP a) [.cells [(.fn (.func 145) [] [.bp 1 0])],.cells [iP b]]:=by
 refine gC Tryz.func147 ?_
 obtain⟨f,e,c⟩:=Xa c
 obtain rfl:=soj c
 exact gH 2 [re 2,rk 3 (kQ [1] [] 0 1 (CF145_1 e)) 1]
theorem CF222_1 {h j d} (e:F222_1 h j=some d):A1 222 [eS 5 c182 h,(.fn (.func 147) [] [.bp 0 0])] [.cells [(.fn (.func 145) [] [.bp 1 0])],.cells [iP j]] (iP d) [.cells [(.fn (.func 145) [] [.bp 1 0])],.cells [iP j]]:=by
 refine gC Tryz.func222 ?_
 refine gd 0 [re 1] [] [] ?_
 refine gMd [0,1] (λ(_:Unit)=>([],JF222_1_2)) d ?_ ?_
 ·rintro⟨⟩ e
  obtain rfl:=soj e
  exact gH 2 [re 1]
 obtain⟨p,i,e⟩:=Xa e
 refine gPl 0 [rk 1 (kL 5 c182 h) 1] 0 i [] (λl=>[(7,iP (ln h)),(8,iP l)]) ?_
 rintro l q a k
 rcases cor a with⟨b,a⟩|⟨b,a⟩
 ·obtain⟨o,f,m,g,a⟩:=bs2 a
  rcases cor a with⟨c,a⟩|⟨c,a⟩
  ·cases a
   obtain rfl:=k _ rfl
   obtain rfl:=soj e
   exact gH 2 [re 1,bb b,re 2,rs 3 (kX 5 c182 f::es 1 (kQ [0,1] [] 0 1 (CF147_1 g)::[])),bb c,re 2]
  cases a
  exact gj [re 1,bb b,re 2,rs 3 (kX 5 c182 f::es 1 (kQ [0,1] [] 0 1 (CF147_1 g)::[])),bb c,re 2]
 cases a
 obtain rfl:=k _ rfl
 exact ge 0 [re 1,bb b] λ_ n=>Xh ⟨(),e,n⟩
theorem CF146_1 {d b a} (c:F146_1 d b=some a):A1 146 [eS 5 c182 d,(.fn (.func 147) [] [.bp 0 0])] [.cells [(.fn (.func 145) [] [.bp 1 0])],.cells [iP b]] (bP a) [.cells [(.fn (.func 145) [] [.bp 1 0])],.cells [iP b]]:=by
 refine gC Tryz.func146 ?_
 obtain⟨f,e,c⟩:=Xa c
 obtain rfl:=soj c
 exact gH 2 [re 1,rk 2 (kQ [0,1] [] 0 0 (CF222_1 e)) 2]
theorem CF149_1 {d b a} (c:F149_1 d b=some a):A1 149 [.agg (c245 d),.bp 0 0] [.cells [(.fn (.func 145) [] [.bp 1 0])],.cells [iP b]] (bP a) [.cells [(.fn (.func 145) [] [.bp 1 0])],.cells [iP b]]:=by
 refine gC Tryz.func149 ?_
 obtain⟨f,e,c⟩:=Xa c
 obtain rfl:=soj c
 exact gH 2 [re 2,rk 3 (kQ [1] [] 0 1 (CF145_1 e)) 1]
theorem CF223_1 {h j d} (e:F223_1 h j=some d):A1 223 [eS 5 c245 h,(.fn (.func 149) [] [.bp 0 0])] [.cells [(.fn (.func 145) [] [.bp 1 0])],.cells [iP j]] (iP d) [.cells [(.fn (.func 145) [] [.bp 1 0])],.cells [iP j]]:=by
 refine gC Tryz.func223 ?_
 refine gd 0 [re 1] [] [] ?_
 refine gMd [0,1] (λ(_:Unit)=>([],JF223_1_2)) d ?_ ?_
 ·rintro⟨⟩ e
  obtain rfl:=soj e
  exact gH 2 [re 1]
 obtain⟨p,i,e⟩:=Xa e
 refine gPl 0 [rk 1 (kL 5 c245 h) 1] 0 i [] (λl=>[(7,iP (ln h)),(8,iP l)]) ?_
 rintro l q a k
 rcases cor a with⟨b,a⟩|⟨b,a⟩
 ·obtain⟨o,f,m,g,a⟩:=bs2 a
  rcases cor a with⟨c,a⟩|⟨c,a⟩
  ·cases a
   obtain rfl:=k _ rfl
   obtain rfl:=soj e
   exact gH 2 [re 1,bb b,re 2,rs 3 (kX 5 c245 f::es 1 (kQ [0,1] [] 0 1 (CF149_1 g)::[])),bb c,re 2]
  cases a
  exact gj [re 1,bb b,re 2,rs 3 (kX 5 c245 f::es 1 (kQ [0,1] [] 0 1 (CF149_1 g)::[])),bb c,re 2]
 cases a
 obtain rfl:=k _ rfl
 exact ge 0 [re 1,bb b] λ_ n=>Xh ⟨(),e,n⟩
theorem CF148_1 {d b a} (c:F148_1 d b=some a):A1 148 [eS 5 c245 d,(.fn (.func 149) [] [.bp 0 0])] [.cells [(.fn (.func 145) [] [.bp 1 0])],.cells [iP b]] (bP a) [.cells [(.fn (.func 145) [] [.bp 1 0])],.cells [iP b]]:=by
 refine gC Tryz.func148 ?_
 obtain⟨f,e,c⟩:=Xa c
 obtain rfl:=soj c
 exact gH 2 [re 1,rk 2 (kQ [0,1] [] 0 0 (CF223_1 e)) 2]
theorem CF143_1 {t w q z A u p l o s c d} (a:F143_1 t w q z A u p l o s c=some d):A1 143 [.agg [iP t,iP w,iP q,iP z,iP A,iP u,iP p],.agg (c147 l),.bp 0 0] [.cells [.bp 1 0],.cells (c27 o++[iP s,oP 2 3 c159 c]),.grow (List.length c) 3] (bP d) [.cells [.bp 1 0],.cells (c27 o++[iP s,oP 2 3 c159 c]),.grow (List.length c) 3]:=by
 refine gC Tryz.func143 ?_
 obtain⟨E,k,a⟩:=Xa a
 rcases cor a with⟨f,a⟩|⟨f,a⟩
 ·obtain rfl:=soj a
  exact gH 3 [re 3,rk 1 (kC (CF142 k)) 1,bb f,re 1]
 refine gD 2 [re 3,rk 1 (kC (CF142 k)) 1,bb f,re 2] [0,1] [(3,.bp 3 0),(4,.bp 4 0),(6,.bp 5 0)] 3 [.cells [iP t,iP w,iP q,iP z,iP A,iP u,iP p],.cells (c147 l),.cells [iP 0]] ?_
 refine gMD [3] 5 (λe=>([],[.cells [iP e]],JF143_1_15 o l e)) d ?_ ?_
 ·rintro e a
  refine gMD [2] 5 (λg=>([],[.cells [iP g]],JF143_1_17 l g)) d ?_ ?_
  ·rintro g a
   obtain⟨D,n,a⟩:=Xa a
   rcases cor a with⟨b,a⟩|⟨b,a⟩
   ·obtain rfl:=soj a
    exact gH 3 [re 3,rs 3 (kQ [6,5] [] 0 0 (CF146_1 n)::es 1 (rP 4 b (kU b::es 1 [])))]
   obtain⟨y,x,a⟩:=Xa a
   obtain rfl:=soj a
   exact gH 3 [re 3,rs 3 (kQ [6,5] [] 0 0 (CF146_1 n)::es 1 (rQ 3 b (bq b::kQ [6,5] [] 0 0 (CF148_1 x)::kF true y b::es 1 [])))]
  rcases cor a with⟨h,a⟩|⟨h,a⟩
  ·exact gj [re 5,bb h,re 3] λ_ i=>⟨_,a,i⟩
  exact gj [re 5,bb h] λ_ i=>⟨_,a,i⟩
 obtain⟨B,m,a⟩:=Xa a
 rcases cor a with⟨j,a⟩|⟨j,a⟩
 ·obtain⟨C,v,a⟩:=Xa a
  exact gj [.r (es 6 (kC (CF144 m)::es 6 [])) (es 1 []),re 2,bb j,rk 6 (kX 6 c68 v) 4] λ_ i=>⟨_,a,i⟩
 exact gj [.r (es 6 (kC (CF144 m)::es 6 [])) (es 1 []),re 2,bb j] λ_ i=>⟨0,a,i⟩
theorem CF140_2 {e h T v} (S:F140_2 e h T=some v):A1 140 [.bp 0 0,(.fn (.func 143) [] [.bp 2 0])] (hC e h T++[.cells [.bp 0 0]]) (.tup []) (hC e h v++[.cells [.bp 0 0]]):=by
 refine gC Tryz.func140 ?_
 obtain⟨o7,F,S⟩:=Xa S
 refine gPL 0 [rk 5 (kL 22 c75 e.fc) 1] 0 F [] 0 (λ(E,U)=>([(16,eS 22 c75 e.fc),(17,iP (ln e.fc)),(18,iP E)],hC e h U++[.cells [.bp 0 0]])) ?_
 rintro⟨E,U⟩ X g M
 rcases cor g with⟨t,g⟩|⟨t,g⟩
 ·refine gd 1 [re 1,bb t] [] [] ?_
  refine gMD [] 0 (λo=>([],hC e h o++[.cells [.bp 0 0]],Qp E o)) X ?_ ?_
  ·rintro o g
   cases g
   exact gj [re 2]
  refine gB 1 ?_
  obtain⟨c,Q,g⟩:=Xa g
  obtain⟨ac,D,g⟩:=Xa g
  refine gPL 1 [rk 1 (kX 22 c75 Q) 4,rk 2 (kL 2 c95 c.ff) 1] 2 D [] 0 (λ(m,B)=>([(4,iP E),(24,eS 2 c95 c.ff),(25,iP (ln c.ff)),(26,iP m)],hC e h B++[.cells [.bp 0 0],.cells (c75 c)])) ?_
  rintro⟨m,B⟩ G a L
  rcases cor a with⟨p,a⟩|⟨p,a⟩
  ·refine gd 1 [re 1,bb p] [] [] ?_
   refine gMD [] 0 (λn=>([],hC e h n++[.cells [.bp 0 0],.cells (c75 c)],Qo m n)) G ?_ ?_
   ·rintro n a
    cases a
    exact gj [re 2]
   refine gB 3 ?_
   obtain⟨f,K,a⟩:=Xa a
   obtain⟨Z,y,a⟩:=Xa a
   refine gPL 1 [rk 1 (kX 2 c95 K) 4,rk 2 (kL 2 c100 f.fh) 1] 4 y [] 0 (λ(l,z)=>([(6,iP m),(32,eS 2 c100 f.fh),(33,iP (ln f.fh)),(34,iP l)],hC e h z++[.cells [.bp 0 0],.cells (c75 c),.cells (c95 f)])) ?_
   rintro⟨l,z⟩ R b N
   rcases cor b with⟨u,b⟩|⟨u,b⟩
   ·refine gd 1 [re 1,bb u] [] [] ?_
    refine gMD [] 0 (λq=>([],hC e h q++[.cells [.bp 0 0],.cells (c75 c),.cells (c95 f)],Qn l q)) R ?_ ?_
    ·rintro q b
     cases b
     exact gj [re 2]
    refine gB 5 ?_
    obtain⟨i,H,b⟩:=Xa b
    obtain⟨aa,A,b⟩:=Xa b
    refine gPL 1 [rk 1 (kX 2 c100 H) 4,rk 2 (kL 13 c147 i.fg) 1] 6 A [] 0 (λ(w,x)=>([(8,iP l),(40,eS 13 c147 i.fg),(41,iP (ln i.fg)),(42,iP w)],hC e h x++[.cells [.bp 0 0],.cells (c75 c),.cells (c95 f),.cells (c100 i)])) ?_
    rintro⟨w,x⟩ ab d O
    rcases cor d with⟨s,d⟩|⟨s,d⟩
    ·obtain⟨V,P,Y,I,W,J,d⟩:=bs3 d
     cases d
     exact gk 6 [re 1,bb s,rk 1 (kX 13 c147 P) 4,.r (es 8 (kQ [2,0,1] [] 0 1 (CF143_1 I)::es 2 [])) (kK [0,1] [] 0 0 (Yd J)::[]),re 2]
    cases d
    obtain rfl:=O _ rfl
    exact gke 5 6 [re 1,bb s] λ_ _ C=>Xh ⟨_,b,C⟩
   cases b
   obtain rfl:=N _ rfl
   exact gke 4 4 [re 1,bb u] λ_ _ C=>Xh ⟨_,a,C⟩
  cases a
  obtain rfl:=L _ rfl
  exact gke 3 2 [re 1,bb p] λ_ _ C=>Xh ⟨_,g,C⟩
 cases g
 obtain rfl:=M _ rfl
 obtain rfl:=soj S
 exact g_rh 3 [re 1,bb t] (.exit 0) λ_ _ k j=>Xh (hn k j)
theorem CF68_1 {d b e a} (c:F68_1 d b e=some a):A1 68 [.bp 0 0] (hC d b e) (.tup []) (hC d b a):=by
 refine gC Tryz.func68 ?_
 obtain⟨g,f,c⟩:=Xa c
 obtain rfl:=soj c
 exact gHn 2 [re 1,rk 2 (kK [0,1,2] [] 0 0 (CF140_2 f)) 0]
theorem CF224 {b a} (c:F224 b=some a):A0 224 [.agg (c182 b)] (bP a):=by
 refine gC Tryz.func224 ?_
 obtain rfl:=soj c
 exact gE [re 2,re 3]
theorem CF222_2 {g c} (d:F222_2 g=some c):A0 222 [eS 5 c182 g,(fk 224)] (iP c):=by
 refine gC Tryz.func222 ?_
 refine gd 0 [re 1] [] [] ?_
 refine gMq (λ(_:Unit)=>([],[],JF222_2_1)) c ?_ ?_
 ·rintro⟨⟩ d
  obtain rfl:=soj d
  exact gE [re 1]
 obtain⟨o,i,d⟩:=Xa d
 refine gPl 0 [rk 1 (kL 5 c182 g) 1] 0 i [] (λj=>[(7,iP (ln g)),(8,iP j)]) ?_
 rintro j p a k
 rcases cor a with⟨h,a⟩|⟨h,a⟩
 ·obtain⟨l,f,m,e,a⟩:=bs2 a
  rcases cor a with⟨b,a⟩|⟨b,a⟩
  ·cases a
   obtain rfl:=k _ rfl
   obtain rfl:=soj d
   exact gE [re 1,bb h,re 2,rs 3 (kX 5 c182 f::es 1 (kC (CF224 e)::[])),bb b,re 2]
  cases a
  exact gj [re 1,bb h,re 2,rs 3 (kX 5 c182 f::es 1 (kC (CF224 e)::[])),bb b,re 2]
 cases a
 obtain rfl:=k _ rfl
 exact ge 0 [re 1,bb h] λ_ n=>Xh ⟨(),d,n⟩
theorem CF146_2 {c a} (b:F146_2 c=some a):A0 146 [eS 5 c182 c,(fk 224)] (bP a):=by
 refine gC Tryz.func146 ?_
 obtain⟨e,d,b⟩:=Xa b
 obtain rfl:=soj b
 exact gE [re 1,rk 2 (kC (CF222_2 d)) 2]
theorem CF151 {d c} (a:F151 d=some c):A0 151 [.agg (c147 d)] (bP c):=by
 refine gC Tryz.func151 ?_
 rcases cor a with⟨b,a⟩|⟨b,a⟩
 ·obtain⟨e,f,a⟩:=Xa a
  obtain rfl:=soj a
  exact gE [re 2,rs 4 (rQ 2 b (bq b::kC (CF146_2 f)::kT e false b::es 1 []))]
 obtain rfl:=soj a
 exact gE [re 2,rs 4 (rP 3 b (kV b::es 1 []))]
theorem CF226 {g k j n m} (c:F226 g k j n=some m):A0 226 [.agg (c27 g),iP k,iP j,iP n] (eS 13 c147 m):=by
 refine gC Tryz.func226 ?_
 refine gD 0 [re 2] [0] [(4,.bp 0 0)] 0 [.cells (c27 g)] ?_
 refine gS ?_
 refine gMd [] (λu=>([(51,bP u)],Vq g k j n u)) m ?_ ?_
 ·rintro u c
  rcases cor c with⟨r,c⟩|⟨r,c⟩
  ·obtain rfl:=soj c
   exact gE [bb r,re 1]
  refine gNd [bb r] [51] [] ?_
  obtain⟨z,v,y,p,x,q,c⟩:=bs3 c
  obtain rfl:=soj c
  exact gE [rs 3 (kX 22 c75 v::es 3 (kX 2 c95 p::es 3 (kX 2 c100 q::es 3 [])))]
 rcases cor c with⟨a,c⟩|⟨a,c⟩
 ·exact gj [rs 3 (rP 5 a (kU a::es 1 (rp 2 bqT (es 2 (rp 9 bqT (es 2 (rp 2 bqT (es 2 (rp 13 bqT (es 1 []))))))))))] λ_ i=>⟨true,c,i⟩
 rcases cor c with⟨d,c⟩|⟨d,c⟩
 ·exact gj [rs 3 (rQ 3 a (bq a::kL 22 c75 g.fc::bq a::es 1 (kF true (decide (k>=(ln g.fc))) a::es 1 (rP 2 d (kU d::es 1 (rp 9 bqT (es 2 (rp 2 bqT (es 2 (rp 13 bqT (es 1 [])))))))))))] λ_ i=>⟨true,c,i⟩
 rcases cor c with⟨b,c⟩|⟨b,c⟩
 ·exact gj [rs 3 (rQ 3 a (bq a::kL 22 c75 g.fc::bq a::es 1 (kF true (decide (k>=(ln g.fc))) a::es 1 (rQ 2 d (kF true (decide (j<0)) d::es 1 (rP 9 b (kU b::es 1 (rp 2 bqT (es 2 (rp 13 bqT (es 1 [])))))))))))] λ_ i=>⟨true,c,i⟩
 obtain⟨h,l,c⟩:=Xa c
 rcases cor c with⟨f,c⟩|⟨f,c⟩
 ·exact gj [rs 3 (rQ 3 a (bq a::kL 22 c75 g.fc::bq a::es 1 (kF true (decide (k>=(ln g.fc))) a::es 1 (rQ 2 d (kF true (decide (j<0)) d::es 1 (rQ 4 b (bq b::kX 22 c75 l::rQ 2 b (bq b::kL 2 c95 h.ff::bq b::es 1 (kF true (decide (j>=(ln h.ff))) b::es 1 (rP 2 f (kU f::es 1 (rp 13 bqT (es 1 [])))))))))))))] λ_ i=>⟨true,c,i⟩
 rcases cor c with⟨e,c⟩|⟨e,c⟩
 ·exact gj [rs 3 (rQ 3 a (bq a::kL 22 c75 g.fc::bq a::es 1 (kF true (decide (k>=(ln g.fc))) a::es 1 (rQ 2 d (kF true (decide (j<0)) d::es 1 (rQ 4 b (bq b::kX 22 c75 l::rQ 2 b (bq b::kL 2 c95 h.ff::bq b::es 1 (kF true (decide (j>=(ln h.ff))) b::es 1 (rQ 2 f (kF true (decide (n<0)) f::es 1 (rP 13 e (kU e::[])))))))))))))] λ_ i=>⟨true,c,i⟩
 obtain⟨w,s,o,t,c⟩:=bs2 c
 exact gj [rs 3 (rQ 3 a (bq a::kL 22 c75 g.fc::bq a::es 1 (kF true (decide (k>=(ln g.fc))) a::es 1 (rQ 2 d (kF true (decide (j<0)) d::es 1 (rQ 4 b (bq b::kX 22 c75 l::rQ 2 b (bq b::kL 2 c95 h.ff::bq b::es 1 (kF true (decide (j>=(ln h.ff))) b::es 1 (rQ 2 f (kF true (decide (n<0)) f::es 1 (rQ 4 e (bq e::kX 22 c75 s::rQ 3 e (bq e::kX 2 c95 t::rQ 2 e (bq e::kL 2 c100 o.fh::bq e::es 1 (kF true (decide (n>=(ln o.fh))) e::[]))))))))))))))))] λ_ i=>⟨_,c,i⟩
theorem CF225 {i d c} (a:F225 i d=some c):A0 225 [.agg (c27 i),.agg (c236 d)] (iP c):=by
 refine gC Tryz.func225 ?_
 rcases cor a with⟨h,a⟩|⟨h,a⟩
 ·obtain rfl:=soj a
  exact gE [re 3,re 3,bb h,re 1]
 refine gP 1 [re 3,re 3,bb h] [(2,.bp 0 0),(3,.bp 1 0)] [.cells (c27 i),.cells (c236 d)] ?_
 refine gS ?_
 refine gMq (λe=>([(24,bP e)],[],JF225_4 e)) c ?_ ?_
 ·rintro e a
  rcases cor a with⟨g,a⟩|⟨g,a⟩
  ·obtain rfl:=soj a
   exact gE [bb g,re 1]
  refine gNd [bb g] [24] [] ?_
  obtain rfl:=soj a
  exact gE [re 1]
 rcases cor a with⟨b,a⟩|⟨b,a⟩
 ·exact gk 0 [.r (es 4 (rP 11 b [])) (bq b::kU b::[])] λ_ _ f=>⟨true,a,f⟩
 obtain⟨j,k,a⟩:=Xa a
 exact gk 0 [.r (es 4 (rQ 9 b (bq b::kC (CF226 k)::bq b::kL 13 c147 j::[]))) (bq b::es 1 (kF true (decide (d.f9>=(ln j))) b::[]))] λ_ _ f=>⟨_,a,f⟩
theorem CF227 {e b c d a} (f:F227 e b c d=some a):A0 227 [iP e,iP b,iP c,iP d] (.agg (c236 a)):=by
 refine gC Tryz.func227 ?_
 obtain rfl:=soj f
 exact gE [re 1,re 6]
theorem CF152 {l m b} (a:F152 l m=some b):A0 152 [.agg (c27 l),.agg (c236 m)] (.tup [.agg (c236 b.1),bP b.2]):=by
 refine gC Tryz.func152 ?_
 obtain⟨p,h,a⟩:=Xa a
 rcases cor a with⟨e,a⟩|⟨e,a⟩
 ·obtain rfl:=soj a
  exact gE [re 4,rk 2 (kC (CF225 h)) 1,bb e,re 3]
 obtain⟨k,j,a⟩:=Xa a
 rcases cor a with⟨g,a⟩|⟨g,a⟩
 ·obtain⟨q,o,a⟩:=Xa a
  obtain rfl:=soj a
  exact gE [re 4,rk 2 (kC (CF225 h)) 1,bb e,.r (es 10 (kC (CF226 j)::kL 13 c147 k::[])) (es 1 []),bb g,rk 9 (kC (CF227 o)) 2]
 obtain⟨d,f,a⟩:=Xa a
 rcases cor a with⟨c,a⟩|⟨c,a⟩
 ·obtain⟨n,i,a⟩:=Xa a
  obtain rfl:=soj a
  exact gE [re 4,rk 2 (kC (CF225 h)) 1,bb e,.r (es 10 (kC (CF226 j)::kL 13 c147 k::[])) (es 1 []),bb g,rs 8 (kC (CF226 f)::kL 13 c147 d::es 1 []),bb c,rk 7 (kC (CF227 i)) 2]
 obtain rfl:=soj a
 exact gE [re 4,rk 2 (kC (CF225 h)) 1,bb e,.r (es 10 (kC (CF226 j)::kL 13 c147 k::[])) (es 1 []),bb g,rs 8 (kC (CF226 f)::kL 13 c147 d::es 1 []),bb c,re 3]
theorem CF288 {b f} (a:F288 b=some f):A0 288 [eS 5 c182 b] (eS 5 c182 f):=by
 refine gC Tryz.func288 ?_
 rcases cor a with⟨g,a⟩|⟨g,a⟩
 ·obtain rfl:=soj a
  exact gE [re 1,rk 1 ⟨.pu (.eqN .sl false (.c (eS 5 c182 b)) (.c (.sl true .full 0 []))) (bP (Sl.isNil b)),Wx rfl⟩ 0,bb g,re 1]
 rcases cor a with⟨h,a⟩|⟨h,a⟩
 ·obtain rfl:=soj a
  exact gE [re 1,rk 1 ⟨.pu (.eqN .sl false (.c (eS 5 c182 b)) (.c (.sl true .full 0 []))) (bP (Sl.isNil b)),Wx rfl⟩ 0,bb g,rk 2 ⟨.st (.append 5 40 (.c (eS 5 c182 (Sl.full []))) (.c (eS 5 c182 b))) [] (eS 5 c182 (Sl.full [])) [] 0,n_appE h⟩ 1]
 obtain⟨d,j,a⟩:=Xa a
 refine Yp [re 1,rk 1 ⟨.pu (.eqN .sl false (.c (eS 5 c182 b)) (.c (.sl true .full 0 []))) (bP (Sl.isNil b)),Wx rfl⟩ 0,bb g,rk 2 ⟨.st (.append 5 40 (.c (eS 5 c182 (Sl.full []))) (.c (eS 5 c182 b))) [] (oP 0 5 c182 d) [.grow (List.length d) 5] 0,(n_appN j h (by decide) (λ_=>rfl))⟩ 1] .ret [(2,oP 0 5 c182 d)] [.grow (List.length d) 5] (λe i=>?_)
 obtain rfl:=soj a
 exact Zf (r:=(oP 0 5 c182 d)) (.inr rfl) i (by kernel_rfl) (We cl182) ⟨rfl,rfl⟩
theorem CF289 {b f} (a:F289 b=some f):A0 289 [eS 5 c245 b] (eS 5 c245 f):=by
 refine gC Tryz.func289 ?_
 rcases cor a with⟨g,a⟩|⟨g,a⟩
 ·obtain rfl:=soj a
  exact gE [re 1,rk 1 ⟨.pu (.eqN .sl false (.c (eS 5 c245 b)) (.c (.sl true .full 0 []))) (bP (Sl.isNil b)),Wx rfl⟩ 0,bb g,re 1]
 rcases cor a with⟨h,a⟩|⟨h,a⟩
 ·obtain rfl:=soj a
  exact gE [re 1,rk 1 ⟨.pu (.eqN .sl false (.c (eS 5 c245 b)) (.c (.sl true .full 0 []))) (bP (Sl.isNil b)),Wx rfl⟩ 0,bb g,rk 2 ⟨.st (.append 5 40 (.c (eS 5 c245 (Sl.full []))) (.c (eS 5 c245 b))) [] (eS 5 c245 (Sl.full [])) [] 0,n_appE h⟩ 1]
 obtain⟨d,j,a⟩:=Xa a
 refine Yp [re 1,rk 1 ⟨.pu (.eqN .sl false (.c (eS 5 c245 b)) (.c (.sl true .full 0 []))) (bP (Sl.isNil b)),Wx rfl⟩ 0,bb g,rk 2 ⟨.st (.append 5 40 (.c (eS 5 c245 (Sl.full []))) (.c (eS 5 c245 b))) [] (oP 0 5 c245 d) [.grow (List.length d) 5] 0,(n_appN j h (by decide) (λ_=>rfl))⟩ 1] .ret [(2,oP 0 5 c245 d)] [.grow (List.length d) 5] (λe i=>?_)
 obtain rfl:=soj a
 exact Zf (r:=(oP 0 5 c245 d)) (.inr rfl) i (by kernel_rfl) (We cl245) ⟨rfl,rfl⟩
theorem CF290 {b f} (a:F290 b=some f):A0 290 [eS 2 c171 b] (eS 2 c171 f):=by
 refine gC Tryz.func290 ?_
 rcases cor a with⟨g,a⟩|⟨g,a⟩
 ·obtain rfl:=soj a
  exact gE [re 1,rk 1 ⟨.pu (.eqN .sl false (.c (eS 2 c171 b)) (.c (.sl true .full 0 []))) (bP (Sl.isNil b)),Wx rfl⟩ 0,bb g,re 1]
 rcases cor a with⟨h,a⟩|⟨h,a⟩
 ·obtain rfl:=soj a
  exact gE [re 1,rk 1 ⟨.pu (.eqN .sl false (.c (eS 2 c171 b)) (.c (.sl true .full 0 []))) (bP (Sl.isNil b)),Wx rfl⟩ 0,bb g,rk 2 ⟨.st (.append 2 24 (.c (eS 2 c171 (Sl.full []))) (.c (eS 2 c171 b))) [] (eS 2 c171 (Sl.full [])) [] 0,n_appE h⟩ 1]
 obtain⟨d,j,a⟩:=Xa a
 refine Yp [re 1,rk 1 ⟨.pu (.eqN .sl false (.c (eS 2 c171 b)) (.c (.sl true .full 0 []))) (bP (Sl.isNil b)),Wx rfl⟩ 0,bb g,rk 2 ⟨.st (.append 2 24 (.c (eS 2 c171 (Sl.full []))) (.c (eS 2 c171 b))) [] (oP 0 2 c171 d) [.grow (List.length d) 2] 0,(n_appN j h (by decide) (λ_=>rfl))⟩ 1] .ret [(2,oP 0 2 c171 d)] [.grow (List.length d) 2] (λe i=>?_)
 obtain rfl:=soj a
 exact Zf (r:=(oP 0 2 c171 d)) (.inr rfl) i (by kernel_rfl) (We cl171) ⟨rfl,rfl⟩
theorem CF228 {c a} (b:F228 c=some a):A0 228 [.agg (c147 c)] (.agg (c147 a)):=by
 refine gC Tryz.func228 ?_
 obtain⟨i,e,h,f,g,d,b⟩:=bs3 b
 obtain rfl:=soj b
 exact gE [re 2,.r (es 2 (kC (CF288 e)::es 2 (kC (CF289 f)::es 2 (kC (CF290 d)::es 1 [])))) (es 5 []),re 2]
theorem CF153 {g e b} (a:F153 g e=some b):A0 153 [.agg (c27 g),.agg (c236 e)] (.tup [.agg (c147 b.1),iP b.2]):=by
 refine gC Tryz.func153 ?_
 obtain⟨l,f,a⟩:=Xa a
 rcases cor a with⟨d,a⟩|⟨d,a⟩
 ·obtain rfl:=soj a
  exact gE [re 4,rk 2 (kC (CF225 f)) 1,re 2,bb d,re 4]
 obtain⟨j,h,k,i,m,c,a⟩:=bs3 a
 obtain rfl:=soj a
 exact gE [re 4,rk 2 (kC (CF225 f)) 1,re 2,bb d,.r (es 7 (kC (CF226 h)::es 2 [])) (kX 13 c147 i::es 1 (kC (CF228 c)::es 2 []))]
theorem CF229_1 {c b a} (d:F229_1 c b=some a):A1 229 [.agg (c182 c),.bp 0 0] [.cells (c182 b)] (bP a) [.cells (c182 b)]:=by
 refine gC Tryz.func229 ?_
 obtain rfl:=soj d
 exact gH 1 [re 2,re 6]
theorem CF222_3 {h j d} (e:F222_3 h j=some d):A1 222 [eS 5 c182 h,(.fn (.func 229) [] [.bp 0 0])] [.cells (c182 j)] (iP d) [.cells (c182 j)]:=by
 refine gC Tryz.func222 ?_
 refine gd 0 [re 1] [] [] ?_
 refine gMd [0,1] (λ(_:Unit)=>([],JF222_3_2)) d ?_ ?_
 ·rintro⟨⟩ e
  obtain rfl:=soj e
  exact gH 1 [re 1]
 obtain⟨p,i,e⟩:=Xa e
 refine gPl 0 [rk 1 (kL 5 c182 h) 1] 0 i [] (λl=>[(7,iP (ln h)),(8,iP l)]) ?_
 rintro l q a k
 rcases cor a with⟨b,a⟩|⟨b,a⟩
 ·obtain⟨o,f,m,g,a⟩:=bs2 a
  rcases cor a with⟨c,a⟩|⟨c,a⟩
  ·cases a
   obtain rfl:=k _ rfl
   obtain rfl:=soj e
   exact gH 1 [re 1,bb b,re 2,rs 3 (kX 5 c182 f::es 1 (kQ [0] [] 0 1 (CF229_1 g)::[])),bb c,re 2]
  cases a
  exact gj [re 1,bb b,re 2,rs 3 (kX 5 c182 f::es 1 (kQ [0] [] 0 1 (CF229_1 g)::[])),bb c,re 2]
 cases a
 obtain rfl:=k _ rfl
 exact ge 0 [re 1,bb b] λ_ n=>Xh ⟨(),e,n⟩
theorem CF146_3 {d b a} (c:F146_3 d b=some a):A1 146 [eS 5 c182 d,(.fn (.func 229) [] [.bp 0 0])] [.cells (c182 b)] (bP a) [.cells (c182 b)]:=by
 refine gC Tryz.func146 ?_
 obtain⟨f,e,c⟩:=Xa c
 obtain rfl:=soj c
 exact gH 1 [re 1,rk 2 (kQ [0] [] 0 0 (CF222_3 e)) 2]
theorem CF154 {j p h} (d:F154 j p=some h):A0 154 [.agg (c147 j),.agg (c147 p)] (bP h):=by
 refine gC Tryz.func154 ?_
 rcases cor d with⟨m,d⟩|⟨m,d⟩
 ·obtain rfl:=soj d
  exact gE [re 3,re 3,bb m,re 1]
 refine gP 1 [re 3,re 3,bb m] [(2,.bp 0 0),(3,.bp 1 0)] [.cells (c147 j),.cells (c147 p)] ?_
 refine gMq (λ(_:Unit)=>([],[],JF154_3)) h ?_ ?_
 ·rintro⟨⟩ d
  obtain rfl:=soj d
  exact gE [re 1]
 obtain⟨v,l,d⟩:=Xa d
 refine gPl 0 [rk 2 (kL 5 c182 j.fD) 1] 0 l [2] (λs=>[(11,eS 5 c182 j.fD),(12,iP (ln j.fD)),(13,iP s)]) ?_
 rintro s u a t
 rcases cor a with⟨f,a⟩|⟨f,a⟩
 ·refine gd 1 [re 1,bb f] [] [] ?_
  refine gS ?_
  refine gB 1 ?_
  obtain⟨q,n,a⟩:=Xa a
  refine gD 0 [.r (kX 5 c182 n::es 3 []) []] [] [(6,.bp 2 0)] 2 [.cells (c182 q)] ?_
  refine gMD [6] 2 (λg=>([(30,bP g)],[],JF154_14 s g)) u ?_ ?_
  ·rintro g a
   rcases cor a with⟨e,a⟩|⟨e,a⟩
   ·cases a
    obtain rfl:=t _ rfl
    obtain rfl:=soj d
    exact gE [bb e,re 1]
   refine gNd [bb e] [30] [] ?_
   cases a
   exact gj [re 2]
  rcases cor a with⟨b,a⟩|⟨b,a⟩
  ·rcases cor a with⟨c,a⟩|⟨c,a⟩
   ·obtain⟨k,o,a⟩:=Xa a
    exact gk 2 [rs 3 (rQ 4 b (rQ 3 c (bq c::kQ [2] [] 0 0 (CF146_3 o)::bq b::kT k false c::bq b::es 1 (kT (!k) false b::[]))))] λ_ _ i=>⟨_,a,i⟩
   exact gk 2 [rs 3 (rQ 4 b (rP 4 c (bq b::kV c::bq b::es 1 (kT true false b::[]))))] λ_ _ i=>⟨true,a,i⟩
  exact gk 2 [rs 3 (rP 6 b (kV b::[]))] λ_ _ i=>⟨false,a,i⟩
 cases a
 obtain rfl:=t _ rfl
 exact gke 0 0 [re 1,bb f] λ_ _ i=>Xh ⟨(),d,i⟩
theorem CF150_1 {o s n t u p m q k i c h} (a:F150_1 o s n t u p m q k i c=some h):A1 150 [.agg [iP o,iP s,iP n,iP t,iP u,iP p,iP m],.agg (c147 q),.bp 0 0] [.cells [.bp 1 0],.cells (c27 k++[iP i,oP 2 3 c159 c]),.grow (List.length c) 3] (bP h) [.cells [.bp 1 0],.cells (c27 k++[iP i,oP 2 3 c159 c]),.grow (List.length c) 3]:=by
 refine gC Tryz.func150 ?_
 obtain⟨x,e,a⟩:=Xa a
 rcases cor a with⟨d,a⟩|⟨d,a⟩
 ·obtain rfl:=soj a
  exact gH 3 [re 3,rk 1 (kC (CF151 e)) 1,bb d,re 1]
 obtain⟨v,f,w,g,a⟩:=bs2 a
 rcases cor a with⟨b,a⟩|⟨b,a⟩
 ·obtain rfl:=soj a
  exact gH 3 [re 3,rk 1 (kC (CF151 e)) 1,bb d,.r (es 5 (kC (CF152 f)::es 5 [])) (es 1 []),.r (es 5 (kC (CF153 g)::es 5 [])) (es 1 []),rs 3 (rP 4 b (kU b::es 1 []))]
 obtain⟨l,j,a⟩:=Xa a
 obtain rfl:=soj a
 exact gH 3 [re 3,rk 1 (kC (CF151 e)) 1,bb d,.r (es 5 (kC (CF152 f)::es 5 [])) (es 1 []),.r (es 5 (kC (CF153 g)::es 5 [])) (es 1 []),rs 3 (rQ 2 b (bq b::kC (CF154 j)::bq b::es 1 (kF true (!l) b::es 1 [])))]
theorem CF140_3 {e h T v} (S:F140_3 e h T=some v):A1 140 [.bp 0 0,(.fn (.func 150) [] [.bp 2 0])] (hC e h T++[.cells [.bp 0 0]]) (.tup []) (hC e h v++[.cells [.bp 0 0]]):=by
 refine gC Tryz.func140 ?_
 obtain⟨o7,F,S⟩:=Xa S
 refine gPL 0 [rk 5 (kL 22 c75 e.fc) 1] 0 F [] 0 (λ(E,U)=>([(16,eS 22 c75 e.fc),(17,iP (ln e.fc)),(18,iP E)],hC e h U++[.cells [.bp 0 0]])) ?_
 rintro⟨E,U⟩ X g M
 rcases cor g with⟨t,g⟩|⟨t,g⟩
 ·refine gd 1 [re 1,bb t] [] [] ?_
  refine gMD [] 0 (λo=>([],hC e h o++[.cells [.bp 0 0]],Qm E o)) X ?_ ?_
  ·rintro o g
   cases g
   exact gj [re 2]
  refine gB 1 ?_
  obtain⟨c,Q,g⟩:=Xa g
  obtain⟨ac,D,g⟩:=Xa g
  refine gPL 1 [rk 1 (kX 22 c75 Q) 4,rk 2 (kL 2 c95 c.ff) 1] 2 D [] 0 (λ(m,B)=>([(4,iP E),(24,eS 2 c95 c.ff),(25,iP (ln c.ff)),(26,iP m)],hC e h B++[.cells [.bp 0 0],.cells (c75 c)])) ?_
  rintro⟨m,B⟩ G a L
  rcases cor a with⟨p,a⟩|⟨p,a⟩
  ·refine gd 1 [re 1,bb p] [] [] ?_
   refine gMD [] 0 (λn=>([],hC e h n++[.cells [.bp 0 0],.cells (c75 c)],Ql m n)) G ?_ ?_
   ·rintro n a
    cases a
    exact gj [re 2]
   refine gB 3 ?_
   obtain⟨f,K,a⟩:=Xa a
   obtain⟨Z,y,a⟩:=Xa a
   refine gPL 1 [rk 1 (kX 2 c95 K) 4,rk 2 (kL 2 c100 f.fh) 1] 4 y [] 0 (λ(l,z)=>([(6,iP m),(32,eS 2 c100 f.fh),(33,iP (ln f.fh)),(34,iP l)],hC e h z++[.cells [.bp 0 0],.cells (c75 c),.cells (c95 f)])) ?_
   rintro⟨l,z⟩ R b N
   rcases cor b with⟨u,b⟩|⟨u,b⟩
   ·refine gd 1 [re 1,bb u] [] [] ?_
    refine gMD [] 0 (λq=>([],hC e h q++[.cells [.bp 0 0],.cells (c75 c),.cells (c95 f)],Qk l q)) R ?_ ?_
    ·rintro q b
     cases b
     exact gj [re 2]
    refine gB 5 ?_
    obtain⟨i,H,b⟩:=Xa b
    obtain⟨aa,A,b⟩:=Xa b
    refine gPL 1 [rk 1 (kX 2 c100 H) 4,rk 2 (kL 13 c147 i.fg) 1] 6 A [] 0 (λ(w,x)=>([(8,iP l),(40,eS 13 c147 i.fg),(41,iP (ln i.fg)),(42,iP w)],hC e h x++[.cells [.bp 0 0],.cells (c75 c),.cells (c95 f),.cells (c100 i)])) ?_
    rintro⟨w,x⟩ ab d O
    rcases cor d with⟨s,d⟩|⟨s,d⟩
    ·obtain⟨V,P,Y,I,W,J,d⟩:=bs3 d
     cases d
     exact gk 6 [re 1,bb s,rk 1 (kX 13 c147 P) 4,.r (es 8 (kQ [2,0,1] [] 0 1 (CF150_1 I)::es 2 [])) (kK [0,1] [] 0 0 (Yd J)::[]),re 2]
    cases d
    obtain rfl:=O _ rfl
    exact gke 5 6 [re 1,bb s] λ_ _ C=>Xh ⟨_,b,C⟩
   cases b
   obtain rfl:=N _ rfl
   exact gke 4 4 [re 1,bb u] λ_ _ C=>Xh ⟨_,a,C⟩
  cases a
  obtain rfl:=L _ rfl
  exact gke 3 2 [re 1,bb p] λ_ _ C=>Xh ⟨_,g,C⟩
 cases g
 obtain rfl:=M _ rfl
 obtain rfl:=soj S
 exact g_rh 3 [re 1,bb t] (.exit 0) λ_ _ k j=>Xh (hn k j)
theorem CF69_1 {d b e a} (c:F69_1 d b e=some a):A1 69 [.bp 0 0] (hC d b e) (.tup []) (hC d b a):=by
 refine gC Tryz.func69 ?_
 obtain⟨g,f,c⟩:=Xa c
 obtain rfl:=soj c
 exact gHn 2 [re 1,rk 2 (kK [0,1,2] [] 0 0 (CF140_3 f)) 0]
theorem CF230 {d e c} (a:F230 d e=some c):A0 230 [.agg (c147 d),iP e] (bP c):=by
 refine gC Tryz.func230 ?_
 rcases cor a with⟨b,a⟩|⟨b,a⟩
 ·obtain rfl:=soj a
  exact gE [re 2,rs 3 (kL 2 c171 d.fv::es 2 (rP 7 b (kU b::es 1 [])))]
 obtain⟨f,g,a⟩:=Xa a
 obtain rfl:=soj a
 exact gE [re 2,rs 3 (kL 2 c171 d.fv::es 2 (rQ 3 b (bq b::kX 2 c171 g::rQ 3 b (kF true ((f.fP==(ByteArray.mk #[]))&&((f.faq==0)&&true)) b::es 1 []))))]
theorem CF155_1 {A w v2 v3 v4 v5 v6 al} (V:F155_1 A w v2 v3 v4 v5 v6=some al):A1 155 [.bp 0 0,iP A,iP w,iP v2,.mp 2] (hC v3 v4 v5++[gmB Yk bP v6]) (.tup []) (hC v3 v4 v5++[gmB Yk bP al]):=by
 refine gC Tryz.func155 ?_
 refine gD 1 [re 1,re 1] [] [(10,.bp 3 0),(11,.bp 4 0)] 3 [.cells [sP (ByteArray.mk #[]),iP 0],.cells [iP 0,iP 0,iP 0,iP 0,iP 0,iP 0,iP 0]] ?_
 refine gMD [0,1,2,3] 2 (λ(x:(GM G236 Bool)×ByteArray×Int×Int×Int×Int×Int×Int)=>match x with|(v8,v9,ad,E,G,C,B,F)=>([],[gmB Yk bP v8,.cells [sP v9,iP ad],.cells [iP E,iP 0,iP G,iP C,iP B,iP F,iP 0]],JF155_1_16 v8 v9 ad E G C B F)) al ?_ ?_
 ·rintro⟨v8,v9,ad,E,G,C,B,F⟩ V
  rcases cor V with⟨ae,V⟩|⟨ae,V⟩
  ·obtain rfl:=soj V
   exact gHn 3 [re 3,bb ae,rk 2 ⟨.fr (.mapUp [.i,.i,.i,.i,.i,.i,.i] true (.c (.mp 2)) (.c (.agg [iP E,iP 0,iP G,iP C,iP B,iP F,iP 0])) (.c (bP true))) [2] [gmB Yk bP v8] [gmB Yk bP (gmPut keq236 v8 (⟨E,0,G,C,B,F,0⟩:G236) true)] (.tup []),fr_mapUp (kv:=Yk) (pv:=λx=>PV.sc (.bool x)) (k:=(⟨E,0,G,C,B,F,0⟩:G236)) (v:=true) rfl rfl ⟨rfl,rfl⟩ (λ_ _=>rfl)⟩ 0]
  obtain rfl:=soj V
  exact gHn 3 [re 3,bb ae]
 obtain⟨aL,az,V⟩:=Xa V
 refine gPL 0 [rk 5 (kL 22 c75 v3.fc) 1] 0 az [0] 2 (λ(d,N,I,O,Q,J,T,R,P)=>([(22,eS 22 c75 v3.fc),(23,iP (ln v3.fc)),(24,iP d)],[gmB Yk bP N,.cells [sP I,iP O],.cells [iP Q,iP 0,iP J,iP T,iP R,iP P,iP 0]])) ?_
 rintro⟨d,N,I,O,Q,J,T,R,P⟩ aB b aG
 rcases cor b with⟨af,b⟩|⟨af,b⟩
 ·refine gd 1 [re 1,bb af] [] [] ?_
  refine gMD [] 2 (λ(x:(GM G236 Bool)×ByteArray×Int×Int×Int×Int×Int×Int)=>match x with|(aj,ab,am,an,aq,ar,ag,Y)=>([],[gmB Yk bP aj,.cells [sP ab,iP am],.cells [iP an,iP 0,iP aq,iP ar,iP ag,iP Y,iP 0]],JF155_1_49 d aj ab am an aq ar ag Y)) aB ?_ ?_
  ·rintro⟨aj,ab,am,an,aq,ar,ag,Y⟩ b
   cases b
   exact gj [re 2]
  refine gB 1 ?_
  obtain⟨s,aF,b⟩:=Xa b
  refine gD 0 [rk 1 (kX 22 c75 aF) 4] [] [(12,iP d),(13,.bp 5 0)] 5 [.cells (c75 s)] ?_
  refine gS ?_
  refine gMd [] (λX=>([(44,bP X)],JF155_1_53 d N I O Q J T R P s A w v2 X)) aB ?_ ?_
  ·rintro X b
   rcases cor b with⟨ak,b⟩|⟨ak,b⟩
   ·exact gke 5 1 [bb ak] λ_ _ e=>Xh ⟨(N,I,O,Q,J,T,R,P),b,e⟩
   refine gNd [bb ak] [44] [] ?_
   obtain⟨aO,aH,aa,aI,b⟩:=bs2 b
   obtain⟨aM,aD,b⟩:=Xa b
   refine gPL 0 [rs 3 (kX 2 c95 aH::es 3 (kX 2 c100 aI::es 2 (kL 13 c147 aa.fg::es 1 [])))] 2 aD [13] 2 (λ(f,y,D,q,l,m,o,n,p)=>([(54,eS 13 c147 aa.fg),(55,iP (ln aa.fg)),(56,iP f)],[gmB Yk bP y,.cells [sP D,iP q],.cells [iP l,iP 0,iP m,iP o,iP n,iP p,iP 0],.cells (c75 s)])) ?_
   rintro⟨f,y,D,q,l,m,o,n,p⟩ M a aK
   rcases cor a with⟨ah,a⟩|⟨ah,a⟩
   ·refine gd 1 [re 1,bb ah] [] [] ?_
    refine gMD [] 2 (λ(x:(GM G236 Bool)×ByteArray×Int×Int×Int×Int×Int×Int)=>match x with|(av,ay,Z,ao,ap,au,aw,ax)=>([],[gmB Yk bP av,.cells [sP ay,iP Z],.cells [iP ao,iP 0,iP ap,iP au,iP aw,iP ax,iP 0],.cells (c75 s)],JF155_1_90 f av ay Z ao ap au aw ax)) M ?_ ?_
    ·rintro⟨av,ay,Z,ao,ap,au,aw,ax⟩ a
     cases a
     exact gj [re 2]
    refine gB 3 ?_
    obtain⟨ac,aC,aN,aE,a⟩:=bs2 a
    rcases cor a with⟨ai,a⟩|⟨ai,a⟩
    ·exact gke 6 3 [rk 1 (kX 13 c147 aC) 4,rk 2 (kC (CF230 aE)) 0,bb ai] λ_ _ e=>Xh ⟨(y,D,q,l,m,o,n,p),a,e⟩
    obtain⟨h,aJ,a⟩:=Xa a
    refine gD 2 [rk 1 (kX 13 c147 aC) 4,rk 2 (kC (CF230 aE)) 0,bb ai,.r (es 8 (kX 2 c171 aJ::es 4 [])) (es 1 [])] [] [(16,.bp 7 0),(17,.bp 8 0)] 6 [.cells (c147 ac),.cells [iP 4,iP 0,iP A,iP d,iP w,iP f,iP 0],.cells (c171 h)] ?_
    refine gMD [] 2 (λH=>([],[gmB Yk bP H,.cells [sP D,iP q],.cells [iP l,iP 0,iP m,iP o,iP n,iP p,iP 0],.cells (c75 s),.cells (c147 ac),.cells [iP 4,iP 0,iP A,iP d,iP w,iP f,iP 0],.cells (c171 h)],JF155_1_99 h f A d w q H)) M ?_ ?_
    ·rintro H a
     refine gMD [] 2 (λz=>([],[gmB Yk bP z,.cells [sP D,iP q],.cells [iP l,iP 0,iP m,iP o,iP n,iP p,iP 0],.cells (c75 s),.cells (c147 ac),.cells [iP 4,iP 0,iP A,iP d,iP w,iP f,iP 0],.cells (c171 h)],Qz f h A d w z)) M ?_ ?_
     ·rintro z a
      exact gk 6 [.r (es 3 []) (es 1 [])] λ_ _ e=>⟨(z,h.fP,h.faq,4,A,d,w,f),a,e⟩
     refine gMd [] (λU=>([(96,bP U)],Vz f h A d w H U)) M ?_ ?_
     ·rintro U a
      rcases cor a with⟨S,a⟩|⟨S,a⟩
      ·exact gj [bb S,rk 2 ⟨.fr (.mapUp [.i,.i,.i,.i,.i,.i,.i] true (.c (.mp 2)) (.c (.agg [iP 4,iP 0,iP A,iP d,iP w,iP f,iP 0])) (.c (bP true))) [2] [gmB Yk bP H] [gmB Yk bP (gmPut keq236 H (⟨4,0,A,d,w,f,0⟩:G236) true)] (.tup []),fr_mapUp (kv:=Yk) (pv:=λx=>PV.sc (.bool x)) (k:=(⟨4,0,A,d,w,f,0⟩:G236)) (v:=true) rfl rfl ⟨rfl,rfl⟩ (λ_ _=>rfl)⟩ 0] λ_ e=>⟨_,a,e⟩
      exact gj [bb S] λ_ e=>⟨_,a,e⟩
     rcases cor a with⟨j,a⟩|⟨j,a⟩
     ·rcases cor a with⟨u,a⟩|⟨u,a⟩
      ·exact gj [rs 4 (rQ 3 j (kT (h.faq==2) false j::es 1 (rQ 3 u (kT (q !=2) false u::[]))))] λ_ e=>⟨_,a,e⟩
      exact gj [rs 4 (rQ 3 j (kT (h.faq==2) false j::es 1 (rP 3 u (kV u::[]))))] λ_ e=>⟨false,a,e⟩
     exact gj [rs 4 (rP 3 j (kV j::es 1 (rp 3 bqF (es 1 []))))] λ_ e=>⟨false,a,e⟩
    refine gMd [] (λL=>([(81,bP L)],Qy h f A d w q y l m o n p L)) M ?_ ?_
    ·rintro L a
     rcases cor a with⟨K,a⟩|⟨K,a⟩
     ·exact gj [bb K,rk 2 ⟨.fr (.mapUp [.i,.i,.i,.i,.i,.i,.i] true (.c (.mp 2)) (.c (.agg [iP l,iP 0,iP m,iP o,iP n,iP p,iP 0])) (.c (bP true))) [2] [gmB Yk bP y] [gmB Yk bP (gmPut keq236 y (⟨l,0,m,o,n,p,0⟩:G236) true)] (.tup []),fr_mapUp (kv:=Yk) (pv:=λx=>PV.sc (.bool x)) (k:=(⟨l,0,m,o,n,p,0⟩:G236)) (v:=true) rfl rfl ⟨rfl,rfl⟩ (λ_ _=>rfl)⟩ 0] λ_ e=>⟨_,a,e⟩
     exact gj [bb K] λ_ e=>⟨_,a,e⟩
    rcases cor a with⟨t,a⟩|⟨t,a⟩
    ·exact gj [rs 4 (rQ 3 t (kT (ByteArray.toList h.fP==ByteArray.toList (ByteArray.mk #[])) false t::[]))] λ_ e=>⟨_,a,e⟩
    exact gj [rs 4 (rP 3 t (kV t::[]))] λ_ e=>⟨false,a,e⟩
   cases a
   obtain rfl:=aK _ rfl
   exact gke 5 2 [re 1,bb ah] λ_ _ e=>Xh ⟨(y,D,q,l,m,o,n,p),b,e⟩
  rcases cor b with⟨g,b⟩|⟨g,b⟩
  ·exact gj [rs 3 (kL 2 c95 s.ff::es 2 (rP 9 g (kU g::[])))] λ_ e=>⟨true,b,e⟩
  obtain⟨W,aA,b⟩:=Xa b
  exact gj [rs 3 (kL 2 c95 s.ff::es 2 (rQ 4 g (bq g::kX 2 c95 aA::rQ 2 g (bq g::kL 2 c100 W.fh::bq g::es 1 (kF true (decide (w>=(ln W.fh))) g::[])))))] λ_ e=>⟨_,b,e⟩
 cases b
 obtain rfl:=aG _ rfl
 exact ge 0 [re 1,bb af] λ_ e=>Xh ⟨(N,I,O,Q,J,T,R,P),V,e⟩
theorem CF156_1 {l j g h m e d n b a} (k:F156_1 l j g h m e d n b=some a):A1 156 [.agg [iP l,iP j,iP g,iP h,iP m,iP e,iP d],.agg (c147 n),.bp 0 0] [.cells [.mp 1],gmB Yk bP b] (bP a) [.cells [.mp 1],gmB Yk bP b]:=by
 refine gC Tryz.func156 ?_
 obtain⟨o,f,k⟩:=Xa k
 obtain rfl:=soj k
 exact gH 2 [re 3,rk 2 ⟨.fd (.lookup [.i,.i,.i,.i,.i,.i,.i] true (bP false) (.c (.mp 1)) (.c (.agg [iP l,iP j,iP g,iP h,iP m,iP e,iP d])) false) [1] [gmB Yk bP b] (bP o),fd_lookup (kv:=Yk) (pv:=λx=>PV.sc (.bool x)) f rfl rfl ⟨rfl,rfl⟩ (λ_ _=>rfl)⟩ 1]
theorem CF140_4 {f i V h w} (T:F140_4 f i V h=some w):A1 140 [.bp 0 0,(.fn (.func 156) [] [.bp 2 0])] (hC f i V++[.cells [.mp 3],gmB Yk bP h]) (.tup []) (hC f i w++[.cells [.mp 3],gmB Yk bP h]):=by
 refine gC Tryz.func140 ?_
 obtain⟨o8,P,T⟩:=Xa T
 refine gPL 0 [rk 5 (kL 22 c75 f.fc) 1] 0 P [] 0 (λ(F,U)=>([(16,eS 22 c75 f.fc),(17,iP (ln f.fc)),(18,iP F)],(hC f i U++[.cells [.mp 3],gmB Yk bP h]))) ?_
 rintro⟨F,U⟩ Z b J
 rcases cor b with⟨u,b⟩|⟨u,b⟩
 ·refine gd 1 [re 1,bb u] [] [] ?_
  refine gMD [] 0 (λp=>([],(hC f i p++[.cells [.mp 3],gmB Yk bP h]),Qj F p)) Z ?_ ?_
  ·rintro p b
   cases b
   exact gj [re 2]
  refine gB 1 ?_
  obtain⟨d,M,b⟩:=Xa b
  obtain⟨X,A,b⟩:=Xa b
  refine gPL 1 [rk 1 (kX 22 c75 M) 4,rk 2 (kL 2 c95 d.ff) 1] 2 A [] 0 (λ(n,E)=>([(4,iP F),(24,eS 2 c95 d.ff),(25,iP (ln d.ff)),(26,iP n)],(hC f i E++[.cells [.mp 3],gmB Yk bP h,.cells (c75 d)]))) ?_
  rintro⟨n,E⟩ K a Q
  rcases cor a with⟨t,a⟩|⟨t,a⟩
  ·refine gd 1 [re 1,bb t] [] [] ?_
   refine gMD [] 0 (λv=>([],(hC f i v++[.cells [.mp 3],gmB Yk bP h,.cells (c75 d)]),Qi n v)) K ?_ ?_
   ·rintro v a
    cases a
    exact gj [re 2]
   refine gB 3 ?_
   obtain⟨g,R,a⟩:=Xa a
   obtain⟨ac,B,a⟩:=Xa a
   refine gPL 1 [rk 1 (kX 2 c95 R) 4,rk 2 (kL 2 c100 g.fh) 1] 4 B [] 0 (λ(m,x)=>([(6,iP n),(32,eS 2 c100 g.fh),(33,iP (ln g.fh)),(34,iP m)],(hC f i x++[.cells [.mp 3],gmB Yk bP h,.cells (c75 d),.cells (c95 g)]))) ?_
   rintro⟨m,x⟩ H c I
   rcases cor c with⟨o,c⟩|⟨o,c⟩
   ·refine gd 1 [re 1,bb o] [] [] ?_
    refine gMD [] 0 (λs=>([],(hC f i s++[.cells [.mp 3],gmB Yk bP h,.cells (c75 d),.cells (c95 g)]),Qh m s)) H ?_ ?_
    ·rintro s c
     cases c
     exact gj [re 2]
    refine gB 5 ?_
    obtain⟨l,O,c⟩:=Xa c
    obtain⟨aa,C,c⟩:=Xa c
    refine gPL 1 [rk 1 (kX 2 c100 O) 4,rk 2 (kL 13 c147 l.fg) 1] 6 C [] 0 (λ(y,z)=>([(8,iP m),(40,eS 13 c147 l.fg),(41,iP (ln l.fg)),(42,iP y)],(hC f i z++[.cells [.mp 3],gmB Yk bP h,.cells (c75 d),.cells (c95 g),.cells (c100 l)]))) ?_
    rintro⟨y,z⟩ W e N
    rcases cor e with⟨q,e⟩|⟨q,e⟩
    ·obtain⟨ad,G,Y,S,ab,L,e⟩:=bs3 e
     cases e
     exact gk 7 [re 1,bb q,rk 1 (kX 13 c147 G) 4,.r (es 8 (kQ [2,3] [] 0 1 (CF156_1 S)::es 2 [])) (kK [0,1] [] 0 0 (Yd L)::[]),re 2]
    cases e
    obtain rfl:=N _ rfl
    exact gke 6 6 [re 1,bb q] λ_ _ D=>Xh ⟨_,c,D⟩
   cases c
   obtain rfl:=I _ rfl
   exact gke 5 4 [re 1,bb o] λ_ _ D=>Xh ⟨_,a,D⟩
  cases a
  obtain rfl:=Q _ rfl
  exact gke 4 2 [re 1,bb t] λ_ _ D=>Xh ⟨_,b,D⟩
 cases b
 obtain rfl:=J _ rfl
 obtain rfl:=soj T
 exact g_rh 4 [re 1,bb u] (.exit 0) λ_ _ k j=>Xh (hn k j)
end
end Go.Proofs.YtibndgdocbbbeaaGreat
