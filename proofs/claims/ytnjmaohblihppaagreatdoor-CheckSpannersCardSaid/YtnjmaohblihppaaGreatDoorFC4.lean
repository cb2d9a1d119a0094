/- A part of the proof. -/
import Derived.Test.YtnjmaohblihppaaGreatDoorFC3
set_option linter.all false
set_option maxRecDepth 100000
set_option maxHeartbeats 40000000
namespace Go.Proofs.YtnjmaohblihppaaGreatDoor
open Go.PE
noncomputable section
theorem CF113_5 {v0 v1 v2 out} (hF:F113_5 v0 v1 v2=some out):ACall Tryz.prog 113 [.bp 0 0,(.fn (.func 135) [] [.bp 2 0])] (hC v0 v1 v2++[.cells [.bp 0 0]]) (λq h=>q=(.tup [])/\h=(hC v0 v1 out++[.cells [.bp 0 0]])):=by
 refine gC Tryz.func113 ?_
 refine gP 0 [.r (es 5 (kL 22 c64 v0.fc::es 1 [])) []] [(0,.bp 0 0),(1,(.fn (.func 135) [] [.bp 2 0])),(16,eS 22 c64 v0.fc),(17,iP (ln v0.fc)),(18,iP 0)] (hC v0 v1 v2++[.cells [.bp 0 0]]) ?_
 refine gB 0 ?_
 obtain⟨o7,ho7,hF⟩:=Xa hF
 refine gL ho7 (λ(v4,v5)=>([(0,.bp 0 0),(1,(.fn (.func 135) [] [.bp 2 0])),(16,eS 22 c64 v0.fc),(17,iP (ln v0.fc)),(18,iP v4)],hC v0 v1 v5++[.cells [.bp 0 0]])) wm ?_
 rintro⟨v4,v5⟩ o8 h9 h10
 rcases cor h9 with⟨h12,h9⟩|⟨h12,h9⟩
 ·refine gP 1 [re 1,bb h12] [(0,.bp 0 0),(1,(.fn (.func 135) [] [.bp 2 0])),(16,eS 22 c64 v0.fc),(17,iP (ln v0.fc)),(18,iP v4)] (hC v0 v1 v5++[.cells [.bp 0 0]]) ?_
  refine gM (λ(v13:List G35)=>([(0,.bp 0 0),(1,(.fn (.func 135) [] [.bp 2 0])),(16,eS 22 c64 v0.fc),(17,iP (ln v0.fc)),(18,iP v4)],hC v0 v1 v13++[.cells [.bp 0 0]],JF113_5_14 v4 v13)) o8 ?_ ?_
  ·rintro v13 h9
   cases h9
   exact g_to [re 2] .normal λ_ hw=>⟨rfl,hw⟩
  refine gB 1 ?_
  obtain⟨v15,h16,h9⟩:=Xa h9
  refine gP 1 [.r (es 1 (kX 22 c64 h16::es 4 [])) [],.r (es 2 (kL 2 c69 v15.fe::es 1 [])) []] [(0,.bp 0 0),(1,(.fn (.func 135) [] [.bp 2 0])),(4,iP v4),(16,eS 22 c64 v0.fc),(17,iP (ln v0.fc)),(18,iP v4),(24,eS 2 c69 v15.fe),(25,iP (ln v15.fe)),(26,iP 0)] (hC v0 v1 v5++[.cells [.bp 0 0],.cells (c64 v15)]) ?_
  refine gB 2 ?_
  obtain⟨o20,ho20,h9⟩:=Xa h9
  refine gL ho20 (λ(v17,v18)=>([(0,.bp 0 0),(1,(.fn (.func 135) [] [.bp 2 0])),(4,iP v4),(16,eS 22 c64 v0.fc),(17,iP (ln v0.fc)),(18,iP v4),(24,eS 2 c69 v15.fe),(25,iP (ln v15.fe)),(26,iP v17)],hC v0 v1 v18++[.cells [.bp 0 0],.cells (c64 v15)])) wm ?_
  rintro⟨v17,v18⟩ o21 h22 h23
  rcases cor h22 with⟨h25,h22⟩|⟨h25,h22⟩
  ·refine gP 1 [re 1,bb h25] [(0,.bp 0 0),(1,(.fn (.func 135) [] [.bp 2 0])),(4,iP v4),(16,eS 22 c64 v0.fc),(17,iP (ln v0.fc)),(18,iP v4),(24,eS 2 c69 v15.fe),(25,iP (ln v15.fe)),(26,iP v17)] (hC v0 v1 v18++[.cells [.bp 0 0],.cells (c64 v15)]) ?_
   refine gM (λ(v26:List G35)=>([(0,.bp 0 0),(1,(.fn (.func 135) [] [.bp 2 0])),(4,iP v4),(16,eS 22 c64 v0.fc),(17,iP (ln v0.fc)),(18,iP v4),(24,eS 2 c69 v15.fe),(25,iP (ln v15.fe)),(26,iP v17)],hC v0 v1 v26++[.cells [.bp 0 0],.cells (c64 v15)],JF113_5_27 v17 v26)) o21 ?_ ?_
   ·rintro v26 h22
    cases h22
    exact g_to [re 2] .normal λ_ hw=>⟨rfl,hw⟩
   refine gB 3 ?_
   obtain⟨v28,h29,h22⟩:=Xa h22
   refine gP 1 [.r (es 1 (kX 2 c69 h29::es 4 [])) [],.r (es 2 (kL 2 c73 v28.ff::es 1 [])) []] [(0,.bp 0 0),(1,(.fn (.func 135) [] [.bp 2 0])),(4,iP v4),(6,iP v17),(16,eS 22 c64 v0.fc),(17,iP (ln v0.fc)),(18,iP v4),(24,eS 2 c69 v15.fe),(25,iP (ln v15.fe)),(26,iP v17),(32,eS 2 c73 v28.ff),(33,iP (ln v28.ff)),(34,iP 0)] (hC v0 v1 v18++[.cells [.bp 0 0],.cells (c64 v15),.cells (c69 v28)]) ?_
   refine gB 4 ?_
   obtain⟨o33,ho33,h22⟩:=Xa h22
   refine gL ho33 (λ(v30,v31)=>([(0,.bp 0 0),(1,(.fn (.func 135) [] [.bp 2 0])),(4,iP v4),(6,iP v17),(16,eS 22 c64 v0.fc),(17,iP (ln v0.fc)),(18,iP v4),(24,eS 2 c69 v15.fe),(25,iP (ln v15.fe)),(26,iP v17),(32,eS 2 c73 v28.ff),(33,iP (ln v28.ff)),(34,iP v30)],hC v0 v1 v31++[.cells [.bp 0 0],.cells (c64 v15),.cells (c69 v28)])) wm ?_
   rintro⟨v30,v31⟩ o34 h35 h36
   rcases cor h35 with⟨h38,h35⟩|⟨h38,h35⟩
   ·refine gP 1 [re 1,bb h38] [(0,.bp 0 0),(1,(.fn (.func 135) [] [.bp 2 0])),(4,iP v4),(6,iP v17),(16,eS 22 c64 v0.fc),(17,iP (ln v0.fc)),(18,iP v4),(24,eS 2 c69 v15.fe),(25,iP (ln v15.fe)),(26,iP v17),(32,eS 2 c73 v28.ff),(33,iP (ln v28.ff)),(34,iP v30)] (hC v0 v1 v31++[.cells [.bp 0 0],.cells (c64 v15),.cells (c69 v28)]) ?_
    refine gM (λ(v39:List G35)=>([(0,.bp 0 0),(1,(.fn (.func 135) [] [.bp 2 0])),(4,iP v4),(6,iP v17),(16,eS 22 c64 v0.fc),(17,iP (ln v0.fc)),(18,iP v4),(24,eS 2 c69 v15.fe),(25,iP (ln v15.fe)),(26,iP v17),(32,eS 2 c73 v28.ff),(33,iP (ln v28.ff)),(34,iP v30)],hC v0 v1 v39++[.cells [.bp 0 0],.cells (c64 v15),.cells (c69 v28)],JF113_5_40 v30 v39)) o34 ?_ ?_
    ·rintro v39 h35
     cases h35
     exact g_to [re 2] .normal λ_ hw=>⟨rfl,hw⟩
    refine gB 5 ?_
    obtain⟨v41,h42,h35⟩:=Xa h35
    refine gP 1 [.r (es 1 (kX 2 c73 h42::es 4 [])) [],.r (es 2 (kL 13 c49 v41.fg::es 1 [])) []] [(0,.bp 0 0),(1,(.fn (.func 135) [] [.bp 2 0])),(4,iP v4),(6,iP v17),(8,iP v30),(16,eS 22 c64 v0.fc),(17,iP (ln v0.fc)),(18,iP v4),(24,eS 2 c69 v15.fe),(25,iP (ln v15.fe)),(26,iP v17),(32,eS 2 c73 v28.ff),(33,iP (ln v28.ff)),(34,iP v30),(40,eS 13 c49 v41.fg),(41,iP (ln v41.fg)),(42,iP 0)] (hC v0 v1 v31++[.cells [.bp 0 0],.cells (c64 v15),.cells (c69 v28),.cells (c73 v41)]) ?_
    refine gB 6 ?_
    obtain⟨o46,ho46,h35⟩:=Xa h35
    refine gL ho46 (λ(v43,v44)=>([(0,.bp 0 0),(1,(.fn (.func 135) [] [.bp 2 0])),(4,iP v4),(6,iP v17),(8,iP v30),(16,eS 22 c64 v0.fc),(17,iP (ln v0.fc)),(18,iP v4),(24,eS 2 c69 v15.fe),(25,iP (ln v15.fe)),(26,iP v17),(32,eS 2 c73 v28.ff),(33,iP (ln v28.ff)),(34,iP v30),(40,eS 13 c49 v41.fg),(41,iP (ln v41.fg)),(42,iP v43)],hC v0 v1 v44++[.cells [.bp 0 0],.cells (c64 v15),.cells (c69 v28),.cells (c73 v41)])) wm ?_
    rintro⟨v43,v44⟩ o47 h48 h49
    rcases cor h48 with⟨h51,h48⟩|⟨h51,h48⟩
    ·obtain⟨v52,h53,v65,h66,v72,h73,h48⟩:=bs3 h48
     cases h48
     exact g_tc 6 [re 1,bb h51,.r (es 1 (kX 13 c49 h53::es 4 [])) [],.r (es 8 (kQ [2,0,1] [] 0 1 (CF135_1 h66)::es 2 [])) (kK [0,1] [] 0 0 (Yg h73)::[]),re 2] .normal λ_ _ hw=>⟨rfl,hw⟩
    cases h48
    obtain rfl:=h49 _ rfl
    exact g_tc 5 [re 1,bb h51] (.exit 6) λ_ _ hw=>Xi (⟨_,_,hw,v44,h35,rfl,rfl⟩)
   cases h35
   obtain rfl:=h36 _ rfl
   exact g_tc 4 [re 1,bb h38] (.exit 4) λ_ _ hw=>Xi (⟨_,_,hw,v31,h22,rfl,rfl⟩)
  cases h22
  obtain rfl:=h23 _ rfl
  exact g_tc 3 [re 1,bb h25] (.exit 2) λ_ _ hw=>Xi (⟨_,_,hw,v18,h9,rfl,rfl⟩)
 cases h9
 obtain rfl:=h10 _ rfl
 obtain rfl:=soj hF
 exact g_rh 3 [re 1,bb h12] (.exit 0) λ_ _ k j=>Xi (hn k j)
theorem CF77_1 {v0 v1 v2 out} (hF:Ze v0 v1 v2=some out):ACall Tryz.prog 77 [.bp 0 0] (hC v0 v1 v2) (λq h=>q=(.tup [])/\h=(hC v0 v1 out)):=by
 refine gC Tryz.func77 ?_
 obtain⟨v7,h8,hF⟩:=Xa hF
 obtain rfl:=soj hF
 exact g_rh 2 [re 1,.r (es 2 (kK [0,1,2] [] 0 0 (CF113_5 h8)::[])) []] .normal λ_ _ k j=>hn k j
abbrev ql_0:PV:=(.sl false .full 1 [[(.fn (.func 61) [.bp 1 0] [])],[(.fn (.func 62) [.bp 1 0] [])],[(.fn (.func 63) [.bp 1 0] [])],[(.fn (.func 64) [.bp 1 0] [])],[(.fn (.func 65) [.bp 1 0] [])],[(.fn (.func 66) [.bp 1 0] [])],[(.fn (.func 67) [.bp 1 0] [])],[(.fn (.func 68) [.bp 1 0] [])],[(.fn (.func 69) [.bp 1 0] [])],[(.fn (.func 70) [.bp 1 0] [])],[(.fn (.func 71) [.bp 1 0] [])],[(.fn (.func 72) [.bp 1 0] [])],[(.fn (.func 73) [.bp 1 0] [])],[(.fn (.func 74) [.bp 1 0] [])],[(.fn (.func 75) [.bp 1 0] [])],[(.fn (.func 76) [.bp 1 0] [])],[(.fn (.func 77) [.bp 1 0] [])]])
theorem CF32 {v0 out} (hF:F32 v0=some out):A0 32 [.agg (c27 v0)] (eS 3 c35 out):=by
 refine gC Tryz.func32 ?_
 refine gPW 1 [re 2,re 4] [(3,.bp 1 0)] [.cells (c27 v0),.cells (c27 v0++[iP 0,eS 3 c35 Sl.nil])] [(3,.bp 1 0)] [.cells (c27 v0),.cells (c27 v0++[iP 0,oP 2 3 c35 ([]:List G35)]),.grow (List.length ([]:List G35)) 3] ((WeakS.refl _ _ _).trans ((weak_grow 3).trans (weak_blk (cs':=[sP v0.fae,bP v0.faq,eS 6 c89 v0.fi,eS 22 c64 v0.fc,eS 7 c126 v0.fh,eS 2 c33 v0.fB,iP 0,oP 2 3 c35 ([]:List G35)]) 1 rfl (qc (PSub.refl _) (qc (PSub.refl _) (qc (PSub.refl _) (qc (PSub.refl _) (qc (PSub.refl _) (qc (PSub.refl _) (qc (PSub.refl _) (qc psub_nil0 qe))))))))))) ?_
 refine gP 0 [re 36] [(3,.bp 1 0),(4,ql_0)] [.cells (c27 v0),.cells (c27 v0++[iP 0,oP 2 3 c35 ([]:List G35)]),.grow (List.length ([]:List G35)) 3] ?_
 refine gM (λ(x:Int×(List G35))=>match x with|(v1,v2)=>([(3,.bp 1 0)],[.cells (c27 v0),.cells (c27 v0++[iP v1,oP 2 3 c35 v2]),.grow (List.length v2) 3],Wi v1 v2)) out ?_ ?_
 ·rintro⟨v1,v2⟩ hF
  refine Xk [re 5] .ret [(2,oP 2 3 c35 v2)] [.cells (c27 v0),.cells (c27 v0++[iP v1,oP 2 3 c35 v2]),.grow (List.length v2) 3] (λe hw=>?_)
  obtain rfl:=soj hF
  exact Wa (r:=(oP 2 3 c35 v2)) (.inr rfl) hw (by kernel_rfl) (Ue cl35) ⟨rfl,rfl⟩
 refine gP 0 [re 3] [(3,.bp 1 0),(45,ql_0),(46,iP 17),(47,iP 0)] [.cells (c27 v0),.cells (c27 v0++[iP 0,oP 2 3 c35 ([]:List G35)]),.grow (List.length ([]:List G35)) 3] ?_
 refine gB 0 ?_
 refine gU 18 (weak_mk2 (le':=[(3,.bp 1 0),(45,ql_0),(46,iP 17),(47,iP 0)]) (by kernel_rfl)) ?_
 refine Yn ?_
 refine gP 1 [re 1,bT] [(3,.bp 1 0),(45,ql_0),(46,iP 17),(47,iP 0)] [.cells (c27 v0),.cells (c27 v0++[iP 0,oP 2 3 c35 ([]:List G35)]),.grow (List.length ([]:List G35)) 3] ?_
 refine gS ?_
 refine gB 1 ?_
 refine gP 1 [re 5,re 6] [(3,.bp 1 0),(6,(.fn (.func 61) [.bp 1 0] [])),(45,ql_0),(46,iP 17),(47,iP 0)] [.cells (c27 v0),.cells (c27 v0++[iP 1,oP 2 3 c35 ([]:List G35)]),.grow (List.length ([]:List G35)) 3] ?_
 refine gS ?_
 refine gM (λ(_:Unit)=>([(3,.bp 1 0),(6,(.fn (.func 61) [.bp 1 0] [])),(45,ql_0),(46,iP 17),(47,iP 0),(86,bP false)],[.cells (c27 v0),.cells (c27 v0++[iP 1,oP 2 3 c35 ([]:List G35)]),.grow (List.length ([]:List G35)) 3],JF32_4 v0)) out ?_ ?_
 ·rintro⟨⟩ hF
  refine Xk [bF] .normal [(3,.bp 1 0),(6,(.fn (.func 61) [.bp 1 0] [])),(45,ql_0),(46,iP 17),(47,iP 0)] [.cells (c27 v0),.cells (c27 v0++[iP 1,oP 2 3 c35 ([]:List G35)]),.grow (List.length ([]:List G35)) 3] (λe hw=>?_)
  refine⟨_,_,hw,?_⟩
  obtain⟨v8,h9,hF⟩:=Xa hF
  refine Xk [.r (es 1 (kK [1,2] [] 1 0 (CF61_1 h9)::[])) []] .normal [(3,.bp 1 0),(45,ql_0),(46,iP 17),(47,iP 0)] [.cells (c27 v0),.cells (c27 v0++[iP 1,oP 2 3 c35 v8]),.grow (List.length v8) 3] (λe hw=>?_)
  refine⟨_,_,hw,?_⟩
  refine Xk [re 2] .normal [(3,.bp 1 0),(45,ql_0),(46,iP 17),(47,iP 1)] [.cells (c27 v0),.cells (c27 v0++[iP 1,oP 2 3 c35 v8]),.grow (List.length v8) 3] (λe hw=>?_)
  refine⟨_,_,hw,?_⟩
  refine Yn ?_
  refine gP 1 [re 1,bT] [(3,.bp 1 0),(45,ql_0),(46,iP 17),(47,iP 1)] [.cells (c27 v0),.cells (c27 v0++[iP 1,oP 2 3 c35 v8]),.grow (List.length v8) 3] ?_
  refine gS ?_
  refine gB 1 ?_
  refine gP 1 [re 5,re 6] [(3,.bp 1 0),(6,(.fn (.func 62) [.bp 1 0] [])),(45,ql_0),(46,iP 17),(47,iP 1)] [.cells (c27 v0),.cells (c27 v0++[iP 2,oP 2 3 c35 v8]),.grow (List.length v8) 3] ?_
  refine gS ?_
  refine gM (λ(v10:Bool)=>([(3,.bp 1 0),(6,(.fn (.func 62) [.bp 1 0] [])),(45,ql_0),(46,iP 17),(47,iP 1),(86,bP v10)],[.cells (c27 v0),.cells (c27 v0++[iP 2,oP 2 3 c35 v8]),.grow (List.length v8) 3],JF32_11 v8 v0 v10)) out ?_ ?_
  ·rintro v10 hF
   rcases cor hF with⟨h12,hF⟩|⟨h12,hF⟩
   ·exact g_to [bb h12] (.exit 0) λ_ hw=>q_miss rfl (Xi (⟨_,_,hw,(2,v8),hF,rfl,rfl⟩))
   refine Xk [bb h12] .normal [(3,.bp 1 0),(6,(.fn (.func 62) [.bp 1 0] [])),(45,ql_0),(46,iP 17),(47,iP 1)] [.cells (c27 v0),.cells (c27 v0++[iP 2,oP 2 3 c35 v8]),.grow (List.length v8) 3] (λe hw=>?_)
   refine⟨_,_,hw,?_⟩
   obtain⟨v16,h17,hF⟩:=Xa hF
   refine Xk [.r (es 1 (kK [1,2] [] 1 0 (CF62_1 h17)::[])) []] .normal [(3,.bp 1 0),(45,ql_0),(46,iP 17),(47,iP 1)] [.cells (c27 v0),.cells (c27 v0++[iP 2,oP 2 3 c35 v16]),.grow (List.length v16) 3] (λe hw=>?_)
   refine⟨_,_,hw,?_⟩
   refine Xk [re 2] .normal [(3,.bp 1 0),(45,ql_0),(46,iP 17),(47,iP 2)] [.cells (c27 v0),.cells (c27 v0++[iP 2,oP 2 3 c35 v16]),.grow (List.length v16) 3] (λe hw=>?_)
   refine⟨_,_,hw,?_⟩
   refine Yn ?_
   refine gP 1 [re 1,bT] [(3,.bp 1 0),(45,ql_0),(46,iP 17),(47,iP 2)] [.cells (c27 v0),.cells (c27 v0++[iP 2,oP 2 3 c35 v16]),.grow (List.length v16) 3] ?_
   refine gS ?_
   refine gB 1 ?_
   refine gP 1 [re 5,re 6] [(3,.bp 1 0),(6,(.fn (.func 63) [.bp 1 0] [])),(45,ql_0),(46,iP 17),(47,iP 2)] [.cells (c27 v0),.cells (c27 v0++[iP 3,oP 2 3 c35 v16]),.grow (List.length v16) 3] ?_
   refine gS ?_
   refine gM (λ(_:Unit)=>([(3,.bp 1 0),(6,(.fn (.func 63) [.bp 1 0] [])),(45,ql_0),(46,iP 17),(47,iP 2),(86,bP false)],[.cells (c27 v0),.cells (c27 v0++[iP 3,oP 2 3 c35 v16]),.grow (List.length v16) 3],JF32_18 v0 v16)) out ?_ ?_
   ·rintro⟨⟩ hF
    refine Xk [bF] .normal [(3,.bp 1 0),(6,(.fn (.func 63) [.bp 1 0] [])),(45,ql_0),(46,iP 17),(47,iP 2)] [.cells (c27 v0),.cells (c27 v0++[iP 3,oP 2 3 c35 v16]),.grow (List.length v16) 3] (λe hw=>?_)
    refine⟨_,_,hw,?_⟩
    obtain⟨v22,h23,hF⟩:=Xa hF
    refine Xk [.r (es 1 (kK [1,2] [] 1 0 (CF63_1 h23)::[])) []] .normal [(3,.bp 1 0),(45,ql_0),(46,iP 17),(47,iP 2)] [.cells (c27 v0),.cells (c27 v0++[iP 3,oP 2 3 c35 v22]),.grow (List.length v22) 3] (λe hw=>?_)
    refine⟨_,_,hw,?_⟩
    refine Xk [re 2] .normal [(3,.bp 1 0),(45,ql_0),(46,iP 17),(47,iP 3)] [.cells (c27 v0),.cells (c27 v0++[iP 3,oP 2 3 c35 v22]),.grow (List.length v22) 3] (λe hw=>?_)
    refine⟨_,_,hw,?_⟩
    refine Yn ?_
    refine gP 1 [re 1,bT] [(3,.bp 1 0),(45,ql_0),(46,iP 17),(47,iP 3)] [.cells (c27 v0),.cells (c27 v0++[iP 3,oP 2 3 c35 v22]),.grow (List.length v22) 3] ?_
    refine gS ?_
    refine gB 1 ?_
    refine gP 1 [re 5,re 6] [(3,.bp 1 0),(6,(.fn (.func 64) [.bp 1 0] [])),(45,ql_0),(46,iP 17),(47,iP 3)] [.cells (c27 v0),.cells (c27 v0++[iP 4,oP 2 3 c35 v22]),.grow (List.length v22) 3] ?_
    refine gS ?_
    refine gM (λ(_:Unit)=>([(3,.bp 1 0),(6,(.fn (.func 64) [.bp 1 0] [])),(45,ql_0),(46,iP 17),(47,iP 3),(86,bP false)],[.cells (c27 v0),.cells (c27 v0++[iP 4,oP 2 3 c35 v22]),.grow (List.length v22) 3],JF32_24 v0 v22)) out ?_ ?_
    ·rintro⟨⟩ hF
     refine Xk [bF] .normal [(3,.bp 1 0),(6,(.fn (.func 64) [.bp 1 0] [])),(45,ql_0),(46,iP 17),(47,iP 3)] [.cells (c27 v0),.cells (c27 v0++[iP 4,oP 2 3 c35 v22]),.grow (List.length v22) 3] (λe hw=>?_)
     refine⟨_,_,hw,?_⟩
     obtain⟨v28,h29,hF⟩:=Xa hF
     refine Xk [.r (es 1 (kK [1,2] [] 1 0 (CF64_1 h29)::[])) []] .normal [(3,.bp 1 0),(45,ql_0),(46,iP 17),(47,iP 3)] [.cells (c27 v0),.cells (c27 v0++[iP 4,oP 2 3 c35 v28]),.grow (List.length v28) 3] (λe hw=>?_)
     refine⟨_,_,hw,?_⟩
     refine Xk [re 2] .normal [(3,.bp 1 0),(45,ql_0),(46,iP 17),(47,iP 4)] [.cells (c27 v0),.cells (c27 v0++[iP 4,oP 2 3 c35 v28]),.grow (List.length v28) 3] (λe hw=>?_)
     refine⟨_,_,hw,?_⟩
     refine Yn ?_
     refine gP 1 [re 1,bT] [(3,.bp 1 0),(45,ql_0),(46,iP 17),(47,iP 4)] [.cells (c27 v0),.cells (c27 v0++[iP 4,oP 2 3 c35 v28]),.grow (List.length v28) 3] ?_
     refine gS ?_
     refine gB 1 ?_
     refine gP 1 [re 5,re 6] [(3,.bp 1 0),(6,(.fn (.func 65) [.bp 1 0] [])),(45,ql_0),(46,iP 17),(47,iP 4)] [.cells (c27 v0),.cells (c27 v0++[iP 5,oP 2 3 c35 v28]),.grow (List.length v28) 3] ?_
     refine gS ?_
     refine gM (λ(_:Unit)=>([(3,.bp 1 0),(6,(.fn (.func 65) [.bp 1 0] [])),(45,ql_0),(46,iP 17),(47,iP 4),(86,bP false)],[.cells (c27 v0),.cells (c27 v0++[iP 5,oP 2 3 c35 v28]),.grow (List.length v28) 3],JF32_30 v0 v28)) out ?_ ?_
     ·rintro⟨⟩ hF
      refine Xk [bF] .normal [(3,.bp 1 0),(6,(.fn (.func 65) [.bp 1 0] [])),(45,ql_0),(46,iP 17),(47,iP 4)] [.cells (c27 v0),.cells (c27 v0++[iP 5,oP 2 3 c35 v28]),.grow (List.length v28) 3] (λe hw=>?_)
      refine⟨_,_,hw,?_⟩
      obtain⟨v34,h35,hF⟩:=Xa hF
      refine Xk [.r (es 1 (kK [1,2] [] 1 0 (CF65_1 h35)::[])) []] .normal [(3,.bp 1 0),(45,ql_0),(46,iP 17),(47,iP 4)] [.cells (c27 v0),.cells (c27 v0++[iP 5,oP 2 3 c35 v34]),.grow (List.length v34) 3] (λe hw=>?_)
      refine⟨_,_,hw,?_⟩
      refine Xk [re 2] .normal [(3,.bp 1 0),(45,ql_0),(46,iP 17),(47,iP 5)] [.cells (c27 v0),.cells (c27 v0++[iP 5,oP 2 3 c35 v34]),.grow (List.length v34) 3] (λe hw=>?_)
      refine⟨_,_,hw,?_⟩
      refine Yn ?_
      refine gP 1 [re 1,bT] [(3,.bp 1 0),(45,ql_0),(46,iP 17),(47,iP 5)] [.cells (c27 v0),.cells (c27 v0++[iP 5,oP 2 3 c35 v34]),.grow (List.length v34) 3] ?_
      refine gS ?_
      refine gB 1 ?_
      refine gP 1 [re 5,re 6] [(3,.bp 1 0),(6,(.fn (.func 66) [.bp 1 0] [])),(45,ql_0),(46,iP 17),(47,iP 5)] [.cells (c27 v0),.cells (c27 v0++[iP 6,oP 2 3 c35 v34]),.grow (List.length v34) 3] ?_
      refine gS ?_
      refine gM (λ(_:Unit)=>([(3,.bp 1 0),(6,(.fn (.func 66) [.bp 1 0] [])),(45,ql_0),(46,iP 17),(47,iP 5),(86,bP false)],[.cells (c27 v0),.cells (c27 v0++[iP 6,oP 2 3 c35 v34]),.grow (List.length v34) 3],JF32_36 v0 v34)) out ?_ ?_
      ·rintro⟨⟩ hF
       refine Xk [bF] .normal [(3,.bp 1 0),(6,(.fn (.func 66) [.bp 1 0] [])),(45,ql_0),(46,iP 17),(47,iP 5)] [.cells (c27 v0),.cells (c27 v0++[iP 6,oP 2 3 c35 v34]),.grow (List.length v34) 3] (λe hw=>?_)
       refine⟨_,_,hw,?_⟩
       obtain⟨v40,h41,hF⟩:=Xa hF
       refine Xk [.r (es 1 (kK [1,2] [] 1 0 (CF66_1 h41)::[])) []] .normal [(3,.bp 1 0),(45,ql_0),(46,iP 17),(47,iP 5)] [.cells (c27 v0),.cells (c27 v0++[iP 6,oP 2 3 c35 v40]),.grow (List.length v40) 3] (λe hw=>?_)
       refine⟨_,_,hw,?_⟩
       refine Xk [re 2] .normal [(3,.bp 1 0),(45,ql_0),(46,iP 17),(47,iP 6)] [.cells (c27 v0),.cells (c27 v0++[iP 6,oP 2 3 c35 v40]),.grow (List.length v40) 3] (λe hw=>?_)
       refine⟨_,_,hw,?_⟩
       refine Yn ?_
       refine gP 1 [re 1,bT] [(3,.bp 1 0),(45,ql_0),(46,iP 17),(47,iP 6)] [.cells (c27 v0),.cells (c27 v0++[iP 6,oP 2 3 c35 v40]),.grow (List.length v40) 3] ?_
       refine gS ?_
       refine gB 1 ?_
       refine gP 1 [re 5,re 6] [(3,.bp 1 0),(6,(.fn (.func 67) [.bp 1 0] [])),(45,ql_0),(46,iP 17),(47,iP 6)] [.cells (c27 v0),.cells (c27 v0++[iP 7,oP 2 3 c35 v40]),.grow (List.length v40) 3] ?_
       refine gS ?_
       refine gM (λ(_:Unit)=>([(3,.bp 1 0),(6,(.fn (.func 67) [.bp 1 0] [])),(45,ql_0),(46,iP 17),(47,iP 6),(86,bP false)],[.cells (c27 v0),.cells (c27 v0++[iP 7,oP 2 3 c35 v40]),.grow (List.length v40) 3],JF32_42 v0 v40)) out ?_ ?_
       ·rintro⟨⟩ hF
        refine Xk [bF] .normal [(3,.bp 1 0),(6,(.fn (.func 67) [.bp 1 0] [])),(45,ql_0),(46,iP 17),(47,iP 6)] [.cells (c27 v0),.cells (c27 v0++[iP 7,oP 2 3 c35 v40]),.grow (List.length v40) 3] (λe hw=>?_)
        refine⟨_,_,hw,?_⟩
        obtain⟨v46,h47,hF⟩:=Xa hF
        refine Xk [.r (es 1 (kK [1,2] [] 1 0 (CF67_1 h47)::[])) []] .normal [(3,.bp 1 0),(45,ql_0),(46,iP 17),(47,iP 6)] [.cells (c27 v0),.cells (c27 v0++[iP 7,oP 2 3 c35 v46]),.grow (List.length v46) 3] (λe hw=>?_)
        refine⟨_,_,hw,?_⟩
        refine Xk [re 2] .normal [(3,.bp 1 0),(45,ql_0),(46,iP 17),(47,iP 7)] [.cells (c27 v0),.cells (c27 v0++[iP 7,oP 2 3 c35 v46]),.grow (List.length v46) 3] (λe hw=>?_)
        refine⟨_,_,hw,?_⟩
        refine Yn ?_
        refine gP 1 [re 1,bT] [(3,.bp 1 0),(45,ql_0),(46,iP 17),(47,iP 7)] [.cells (c27 v0),.cells (c27 v0++[iP 7,oP 2 3 c35 v46]),.grow (List.length v46) 3] ?_
        refine gS ?_
        refine gB 1 ?_
        refine gP 1 [re 5,re 6] [(3,.bp 1 0),(6,(.fn (.func 68) [.bp 1 0] [])),(45,ql_0),(46,iP 17),(47,iP 7)] [.cells (c27 v0),.cells (c27 v0++[iP 8,oP 2 3 c35 v46]),.grow (List.length v46) 3] ?_
        refine gS ?_
        refine gM (λ(_:Unit)=>([(3,.bp 1 0),(6,(.fn (.func 68) [.bp 1 0] [])),(45,ql_0),(46,iP 17),(47,iP 7),(86,bP false)],[.cells (c27 v0),.cells (c27 v0++[iP 8,oP 2 3 c35 v46]),.grow (List.length v46) 3],JF32_48 v0 v46)) out ?_ ?_
        ·rintro⟨⟩ hF
         refine Xk [bF] .normal [(3,.bp 1 0),(6,(.fn (.func 68) [.bp 1 0] [])),(45,ql_0),(46,iP 17),(47,iP 7)] [.cells (c27 v0),.cells (c27 v0++[iP 8,oP 2 3 c35 v46]),.grow (List.length v46) 3] (λe hw=>?_)
         refine⟨_,_,hw,?_⟩
         obtain⟨v52,h53,hF⟩:=Xa hF
         refine Xk [.r (es 1 (kK [1,2] [] 1 0 (CF68_1 h53)::[])) []] .normal [(3,.bp 1 0),(45,ql_0),(46,iP 17),(47,iP 7)] [.cells (c27 v0),.cells (c27 v0++[iP 8,oP 2 3 c35 v52]),.grow (List.length v52) 3] (λe hw=>?_)
         refine⟨_,_,hw,?_⟩
         refine Xk [re 2] .normal [(3,.bp 1 0),(45,ql_0),(46,iP 17),(47,iP 8)] [.cells (c27 v0),.cells (c27 v0++[iP 8,oP 2 3 c35 v52]),.grow (List.length v52) 3] (λe hw=>?_)
         refine⟨_,_,hw,?_⟩
         refine Yn ?_
         refine gP 1 [re 1,bT] [(3,.bp 1 0),(45,ql_0),(46,iP 17),(47,iP 8)] [.cells (c27 v0),.cells (c27 v0++[iP 8,oP 2 3 c35 v52]),.grow (List.length v52) 3] ?_
         refine gS ?_
         refine gB 1 ?_
         refine gP 1 [re 5,re 6] [(3,.bp 1 0),(6,(.fn (.func 69) [.bp 1 0] [])),(45,ql_0),(46,iP 17),(47,iP 8)] [.cells (c27 v0),.cells (c27 v0++[iP 9,oP 2 3 c35 v52]),.grow (List.length v52) 3] ?_
         refine gS ?_
         refine gM (λ(_:Unit)=>([(3,.bp 1 0),(6,(.fn (.func 69) [.bp 1 0] [])),(45,ql_0),(46,iP 17),(47,iP 8),(86,bP false)],[.cells (c27 v0),.cells (c27 v0++[iP 9,oP 2 3 c35 v52]),.grow (List.length v52) 3],Vl v0 v52)) out ?_ ?_
         ·rintro⟨⟩ hF
          refine Xk [bF] .normal [(3,.bp 1 0),(6,(.fn (.func 69) [.bp 1 0] [])),(45,ql_0),(46,iP 17),(47,iP 8)] [.cells (c27 v0),.cells (c27 v0++[iP 9,oP 2 3 c35 v52]),.grow (List.length v52) 3] (λe hw=>?_)
          refine⟨_,_,hw,?_⟩
          obtain⟨v58,h59,hF⟩:=Xa hF
          refine Xk [.r (es 1 (kK [1,2] [] 1 0 (CF69_1 h59)::[])) []] .normal [(3,.bp 1 0),(45,ql_0),(46,iP 17),(47,iP 8)] [.cells (c27 v0),.cells (c27 v0++[iP 9,oP 2 3 c35 v58]),.grow (List.length v58) 3] (λe hw=>?_)
          refine⟨_,_,hw,?_⟩
          refine Xk [re 2] .normal [(3,.bp 1 0),(45,ql_0),(46,iP 17),(47,iP 9)] [.cells (c27 v0),.cells (c27 v0++[iP 9,oP 2 3 c35 v58]),.grow (List.length v58) 3] (λe hw=>?_)
          refine⟨_,_,hw,?_⟩
          refine Yn ?_
          refine gP 1 [re 1,bT] [(3,.bp 1 0),(45,ql_0),(46,iP 17),(47,iP 9)] [.cells (c27 v0),.cells (c27 v0++[iP 9,oP 2 3 c35 v58]),.grow (List.length v58) 3] ?_
          refine gS ?_
          refine gB 1 ?_
          refine gP 1 [re 5,re 6] [(3,.bp 1 0),(6,(.fn (.func 70) [.bp 1 0] [])),(45,ql_0),(46,iP 17),(47,iP 9)] [.cells (c27 v0),.cells (c27 v0++[iP 10,oP 2 3 c35 v58]),.grow (List.length v58) 3] ?_
          refine gS ?_
          refine gM (λ(v60:Bool)=>([(3,.bp 1 0),(6,(.fn (.func 70) [.bp 1 0] [])),(45,ql_0),(46,iP 17),(47,iP 9),(86,bP v60)],[.cells (c27 v0),.cells (c27 v0++[iP 10,oP 2 3 c35 v58]),.grow (List.length v58) 3],Wy v58 v0 v60)) out ?_ ?_
          ·rintro v60 hF
           rcases cor hF with⟨h62,hF⟩|⟨h62,hF⟩
           ·exact g_to [bb h62] (.exit 0) λ_ hw=>q_miss rfl (Xi (⟨_,_,hw,(10,v58),hF,rfl,rfl⟩))
           refine Xk [bb h62] .normal [(3,.bp 1 0),(6,(.fn (.func 70) [.bp 1 0] [])),(45,ql_0),(46,iP 17),(47,iP 9)] [.cells (c27 v0),.cells (c27 v0++[iP 10,oP 2 3 c35 v58]),.grow (List.length v58) 3] (λe hw=>?_)
           refine⟨_,_,hw,?_⟩
           obtain⟨v66,h67,hF⟩:=Xa hF
           refine Xk [.r (es 1 (kK [1,2] [] 1 0 (CF70_1 h67)::[])) []] .normal [(3,.bp 1 0),(45,ql_0),(46,iP 17),(47,iP 9)] [.cells (c27 v0),.cells (c27 v0++[iP 10,oP 2 3 c35 v66]),.grow (List.length v66) 3] (λe hw=>?_)
           refine⟨_,_,hw,?_⟩
           refine Xk [re 2] .normal [(3,.bp 1 0),(45,ql_0),(46,iP 17),(47,iP 10)] [.cells (c27 v0),.cells (c27 v0++[iP 10,oP 2 3 c35 v66]),.grow (List.length v66) 3] (λe hw=>?_)
           refine⟨_,_,hw,?_⟩
           refine Yn ?_
           refine gP 1 [re 1,bT] [(3,.bp 1 0),(45,ql_0),(46,iP 17),(47,iP 10)] [.cells (c27 v0),.cells (c27 v0++[iP 10,oP 2 3 c35 v66]),.grow (List.length v66) 3] ?_
           refine gS ?_
           refine gB 1 ?_
           refine gP 1 [re 5,re 6] [(3,.bp 1 0),(6,(.fn (.func 71) [.bp 1 0] [])),(45,ql_0),(46,iP 17),(47,iP 10)] [.cells (c27 v0),.cells (c27 v0++[iP 11,oP 2 3 c35 v66]),.grow (List.length v66) 3] ?_
           refine gS ?_
           refine gM (λ(v68:Bool)=>([(3,.bp 1 0),(6,(.fn (.func 71) [.bp 1 0] [])),(45,ql_0),(46,iP 17),(47,iP 10),(86,bP v68)],[.cells (c27 v0),.cells (c27 v0++[iP 11,oP 2 3 c35 v66]),.grow (List.length v66) 3],Wx v66 v0 v68)) out ?_ ?_
           ·rintro v68 hF
            rcases cor hF with⟨h70,hF⟩|⟨h70,hF⟩
            ·exact g_to [bb h70] (.exit 0) λ_ hw=>q_miss rfl (Xi (⟨_,_,hw,(11,v66),hF,rfl,rfl⟩))
            refine Xk [bb h70] .normal [(3,.bp 1 0),(6,(.fn (.func 71) [.bp 1 0] [])),(45,ql_0),(46,iP 17),(47,iP 10)] [.cells (c27 v0),.cells (c27 v0++[iP 11,oP 2 3 c35 v66]),.grow (List.length v66) 3] (λe hw=>?_)
            refine⟨_,_,hw,?_⟩
            obtain⟨v74,h75,hF⟩:=Xa hF
            refine Xk [.r (es 1 (kK [1,2] [] 1 0 (CF71_1 h75)::[])) []] .normal [(3,.bp 1 0),(45,ql_0),(46,iP 17),(47,iP 10)] [.cells (c27 v0),.cells (c27 v0++[iP 11,oP 2 3 c35 v74]),.grow (List.length v74) 3] (λe hw=>?_)
            refine⟨_,_,hw,?_⟩
            refine Xk [re 2] .normal [(3,.bp 1 0),(45,ql_0),(46,iP 17),(47,iP 11)] [.cells (c27 v0),.cells (c27 v0++[iP 11,oP 2 3 c35 v74]),.grow (List.length v74) 3] (λe hw=>?_)
            refine⟨_,_,hw,?_⟩
            refine Yn ?_
            refine gP 1 [re 1,bT] [(3,.bp 1 0),(45,ql_0),(46,iP 17),(47,iP 11)] [.cells (c27 v0),.cells (c27 v0++[iP 11,oP 2 3 c35 v74]),.grow (List.length v74) 3] ?_
            refine gS ?_
            refine gB 1 ?_
            refine gP 1 [re 5,re 6] [(3,.bp 1 0),(6,(.fn (.func 72) [.bp 1 0] [])),(45,ql_0),(46,iP 17),(47,iP 11)] [.cells (c27 v0),.cells (c27 v0++[iP 12,oP 2 3 c35 v74]),.grow (List.length v74) 3] ?_
            refine gS ?_
            refine gM (λ(v76:Bool)=>([(3,.bp 1 0),(6,(.fn (.func 72) [.bp 1 0] [])),(45,ql_0),(46,iP 17),(47,iP 11),(86,bP v76)],[.cells (c27 v0),.cells (c27 v0++[iP 12,oP 2 3 c35 v74]),.grow (List.length v74) 3],Ww v74 v0 v76)) out ?_ ?_
            ·rintro v76 hF
             rcases cor hF with⟨h78,hF⟩|⟨h78,hF⟩
             ·exact g_to [bb h78] (.exit 0) λ_ hw=>q_miss rfl (Xi (⟨_,_,hw,(12,v74),hF,rfl,rfl⟩))
             refine Xk [bb h78] .normal [(3,.bp 1 0),(6,(.fn (.func 72) [.bp 1 0] [])),(45,ql_0),(46,iP 17),(47,iP 11)] [.cells (c27 v0),.cells (c27 v0++[iP 12,oP 2 3 c35 v74]),.grow (List.length v74) 3] (λe hw=>?_)
             refine⟨_,_,hw,?_⟩
             obtain⟨v82,h83,hF⟩:=Xa hF
             refine Xk [.r (es 1 (kK [1,2] [] 1 0 (CF72_1 h83)::[])) []] .normal [(3,.bp 1 0),(45,ql_0),(46,iP 17),(47,iP 11)] [.cells (c27 v0),.cells (c27 v0++[iP 12,oP 2 3 c35 v82]),.grow (List.length v82) 3] (λe hw=>?_)
             refine⟨_,_,hw,?_⟩
             refine Xk [re 2] .normal [(3,.bp 1 0),(45,ql_0),(46,iP 17),(47,iP 12)] [.cells (c27 v0),.cells (c27 v0++[iP 12,oP 2 3 c35 v82]),.grow (List.length v82) 3] (λe hw=>?_)
             refine⟨_,_,hw,?_⟩
             refine Yn ?_
             refine gP 1 [re 1,bT] [(3,.bp 1 0),(45,ql_0),(46,iP 17),(47,iP 12)] [.cells (c27 v0),.cells (c27 v0++[iP 12,oP 2 3 c35 v82]),.grow (List.length v82) 3] ?_
             refine gS ?_
             refine gB 1 ?_
             refine gP 1 [re 5,re 6] [(3,.bp 1 0),(6,(.fn (.func 73) [.bp 1 0] [])),(45,ql_0),(46,iP 17),(47,iP 12)] [.cells (c27 v0),.cells (c27 v0++[iP 13,oP 2 3 c35 v82]),.grow (List.length v82) 3] ?_
             refine gS ?_
             refine gM (λ(v84:Bool)=>([(3,.bp 1 0),(6,(.fn (.func 73) [.bp 1 0] [])),(45,ql_0),(46,iP 17),(47,iP 12),(86,bP v84)],[.cells (c27 v0),.cells (c27 v0++[iP 13,oP 2 3 c35 v82]),.grow (List.length v82) 3],Wv v82 v0 v84)) out ?_ ?_
             ·rintro v84 hF
              rcases cor hF with⟨h86,hF⟩|⟨h86,hF⟩
              ·exact g_to [bb h86] (.exit 0) λ_ hw=>q_miss rfl (Xi (⟨_,_,hw,(13,v82),hF,rfl,rfl⟩))
              refine Xk [bb h86] .normal [(3,.bp 1 0),(6,(.fn (.func 73) [.bp 1 0] [])),(45,ql_0),(46,iP 17),(47,iP 12)] [.cells (c27 v0),.cells (c27 v0++[iP 13,oP 2 3 c35 v82]),.grow (List.length v82) 3] (λe hw=>?_)
              refine⟨_,_,hw,?_⟩
              obtain⟨v90,h91,hF⟩:=Xa hF
              refine Xk [.r (es 1 (kK [1,2] [] 1 0 (CF73_1 h91)::[])) []] .normal [(3,.bp 1 0),(45,ql_0),(46,iP 17),(47,iP 12)] [.cells (c27 v0),.cells (c27 v0++[iP 13,oP 2 3 c35 v90]),.grow (List.length v90) 3] (λe hw=>?_)
              refine⟨_,_,hw,?_⟩
              refine Xk [re 2] .normal [(3,.bp 1 0),(45,ql_0),(46,iP 17),(47,iP 13)] [.cells (c27 v0),.cells (c27 v0++[iP 13,oP 2 3 c35 v90]),.grow (List.length v90) 3] (λe hw=>?_)
              refine⟨_,_,hw,?_⟩
              refine Yn ?_
              refine gP 1 [re 1,bT] [(3,.bp 1 0),(45,ql_0),(46,iP 17),(47,iP 13)] [.cells (c27 v0),.cells (c27 v0++[iP 13,oP 2 3 c35 v90]),.grow (List.length v90) 3] ?_
              refine gS ?_
              refine gB 1 ?_
              refine gP 1 [re 5,re 6] [(3,.bp 1 0),(6,(.fn (.func 74) [.bp 1 0] [])),(45,ql_0),(46,iP 17),(47,iP 13)] [.cells (c27 v0),.cells (c27 v0++[iP 14,oP 2 3 c35 v90]),.grow (List.length v90) 3] ?_
              refine gS ?_
              refine gM (λ(v92:Bool)=>([(3,.bp 1 0),(6,(.fn (.func 74) [.bp 1 0] [])),(45,ql_0),(46,iP 17),(47,iP 13),(86,bP v92)],[.cells (c27 v0),.cells (c27 v0++[iP 14,oP 2 3 c35 v90]),.grow (List.length v90) 3],Wu v90 v0 v92)) out ?_ ?_
              ·rintro v92 hF
               rcases cor hF with⟨h94,hF⟩|⟨h94,hF⟩
               ·exact g_to [bb h94] (.exit 0) λ_ hw=>q_miss rfl (Xi (⟨_,_,hw,(14,v90),hF,rfl,rfl⟩))
               refine Xk [bb h94] .normal [(3,.bp 1 0),(6,(.fn (.func 74) [.bp 1 0] [])),(45,ql_0),(46,iP 17),(47,iP 13)] [.cells (c27 v0),.cells (c27 v0++[iP 14,oP 2 3 c35 v90]),.grow (List.length v90) 3] (λe hw=>?_)
               refine⟨_,_,hw,?_⟩
               obtain⟨v98,h99,hF⟩:=Xa hF
               refine Xk [.r (es 1 (kK [1,2] [] 1 0 (CF74_1 h99)::[])) []] .normal [(3,.bp 1 0),(45,ql_0),(46,iP 17),(47,iP 13)] [.cells (c27 v0),.cells (c27 v0++[iP 14,oP 2 3 c35 v98]),.grow (List.length v98) 3] (λe hw=>?_)
               refine⟨_,_,hw,?_⟩
               refine Xk [re 2] .normal [(3,.bp 1 0),(45,ql_0),(46,iP 17),(47,iP 14)] [.cells (c27 v0),.cells (c27 v0++[iP 14,oP 2 3 c35 v98]),.grow (List.length v98) 3] (λe hw=>?_)
               refine⟨_,_,hw,?_⟩
               refine Yn ?_
               refine gP 1 [re 1,bT] [(3,.bp 1 0),(45,ql_0),(46,iP 17),(47,iP 14)] [.cells (c27 v0),.cells (c27 v0++[iP 14,oP 2 3 c35 v98]),.grow (List.length v98) 3] ?_
               refine gS ?_
               refine gB 1 ?_
               refine gP 1 [re 5,re 6] [(3,.bp 1 0),(6,(.fn (.func 75) [.bp 1 0] [])),(45,ql_0),(46,iP 17),(47,iP 14)] [.cells (c27 v0),.cells (c27 v0++[iP 15,oP 2 3 c35 v98]),.grow (List.length v98) 3] ?_
               refine gS ?_
               refine gM (λ(v100:Bool)=>([(3,.bp 1 0),(6,(.fn (.func 75) [.bp 1 0] [])),(45,ql_0),(46,iP 17),(47,iP 14),(86,bP v100)],[.cells (c27 v0),.cells (c27 v0++[iP 15,oP 2 3 c35 v98]),.grow (List.length v98) 3],Zm v98 v0 v100)) out ?_ ?_
               ·rintro v100 hF
                rcases cor hF with⟨h102,hF⟩|⟨h102,hF⟩
                ·exact g_to [bb h102] (.exit 0) λ_ hw=>q_miss rfl (Xi (⟨_,_,hw,(15,v98),hF,rfl,rfl⟩))
                refine Xk [bb h102] .normal [(3,.bp 1 0),(6,(.fn (.func 75) [.bp 1 0] [])),(45,ql_0),(46,iP 17),(47,iP 14)] [.cells (c27 v0),.cells (c27 v0++[iP 15,oP 2 3 c35 v98]),.grow (List.length v98) 3] (λe hw=>?_)
                refine⟨_,_,hw,?_⟩
                obtain⟨v106,h107,hF⟩:=Xa hF
                refine Xk [.r (es 1 (kK [1,2] [] 1 0 (CF75_1 h107)::[])) []] .normal [(3,.bp 1 0),(45,ql_0),(46,iP 17),(47,iP 14)] [.cells (c27 v0),.cells (c27 v0++[iP 15,oP 2 3 c35 v106]),.grow (List.length v106) 3] (λe hw=>?_)
                refine⟨_,_,hw,?_⟩
                refine Xk [re 2] .normal [(3,.bp 1 0),(45,ql_0),(46,iP 17),(47,iP 15)] [.cells (c27 v0),.cells (c27 v0++[iP 15,oP 2 3 c35 v106]),.grow (List.length v106) 3] (λe hw=>?_)
                refine⟨_,_,hw,?_⟩
                refine Yn ?_
                refine gP 1 [re 1,bT] [(3,.bp 1 0),(45,ql_0),(46,iP 17),(47,iP 15)] [.cells (c27 v0),.cells (c27 v0++[iP 15,oP 2 3 c35 v106]),.grow (List.length v106) 3] ?_
                refine gS ?_
                refine gB 1 ?_
                refine gP 1 [re 5,re 6] [(3,.bp 1 0),(6,(.fn (.func 76) [.bp 1 0] [])),(45,ql_0),(46,iP 17),(47,iP 15)] [.cells (c27 v0),.cells (c27 v0++[iP 16,oP 2 3 c35 v106]),.grow (List.length v106) 3] ?_
                refine gS ?_
                refine gM (λ(v108:Bool)=>([(3,.bp 1 0),(6,(.fn (.func 76) [.bp 1 0] [])),(45,ql_0),(46,iP 17),(47,iP 15),(86,bP v108)],[.cells (c27 v0),.cells (c27 v0++[iP 16,oP 2 3 c35 v106]),.grow (List.length v106) 3],Zl v106 v0 v108)) out ?_ ?_
                ·rintro v108 hF
                 rcases cor hF with⟨h110,hF⟩|⟨h110,hF⟩
                 ·exact g_to [bb h110] (.exit 0) λ_ hw=>q_miss rfl (Xi (⟨_,_,hw,(16,v106),hF,rfl,rfl⟩))
                 refine Xk [bb h110] .normal [(3,.bp 1 0),(6,(.fn (.func 76) [.bp 1 0] [])),(45,ql_0),(46,iP 17),(47,iP 15)] [.cells (c27 v0),.cells (c27 v0++[iP 16,oP 2 3 c35 v106]),.grow (List.length v106) 3] (λe hw=>?_)
                 refine⟨_,_,hw,?_⟩
                 obtain⟨v114,h115,hF⟩:=Xa hF
                 refine Xk [.r (es 1 (kK [1,2] [] 1 0 (CF76_1 h115)::[])) []] .normal [(3,.bp 1 0),(45,ql_0),(46,iP 17),(47,iP 15)] [.cells (c27 v0),.cells (c27 v0++[iP 16,oP 2 3 c35 v114]),.grow (List.length v114) 3] (λe hw=>?_)
                 refine⟨_,_,hw,?_⟩
                 refine Xk [re 2] .normal [(3,.bp 1 0),(45,ql_0),(46,iP 17),(47,iP 16)] [.cells (c27 v0),.cells (c27 v0++[iP 16,oP 2 3 c35 v114]),.grow (List.length v114) 3] (λe hw=>?_)
                 refine⟨_,_,hw,?_⟩
                 refine Yn ?_
                 refine gP 1 [re 1,bT] [(3,.bp 1 0),(45,ql_0),(46,iP 17),(47,iP 16)] [.cells (c27 v0),.cells (c27 v0++[iP 16,oP 2 3 c35 v114]),.grow (List.length v114) 3] ?_
                 refine gS ?_
                 refine gB 1 ?_
                 refine gP 1 [re 5,re 6] [(3,.bp 1 0),(6,(.fn (.func 77) [.bp 1 0] [])),(45,ql_0),(46,iP 17),(47,iP 16)] [.cells (c27 v0),.cells (c27 v0++[iP 17,oP 2 3 c35 v114]),.grow (List.length v114) 3] ?_
                 refine gS ?_
                 refine gM (λ(v116:Bool)=>([(3,.bp 1 0),(6,(.fn (.func 77) [.bp 1 0] [])),(45,ql_0),(46,iP 17),(47,iP 16),(86,bP v116)],[.cells (c27 v0),.cells (c27 v0++[iP 17,oP 2 3 c35 v114]),.grow (List.length v114) 3],Zk v114 v0 v116)) out ?_ ?_
                 ·rintro v116 hF
                  rcases cor hF with⟨h118,hF⟩|⟨h118,hF⟩
                  ·exact g_to [bb h118] (.exit 0) λ_ hw=>q_miss rfl (Xi (⟨_,_,hw,(17,v114),hF,rfl,rfl⟩))
                  refine Xk [bb h118] .normal [(3,.bp 1 0),(6,(.fn (.func 77) [.bp 1 0] [])),(45,ql_0),(46,iP 17),(47,iP 16)] [.cells (c27 v0),.cells (c27 v0++[iP 17,oP 2 3 c35 v114]),.grow (List.length v114) 3] (λe hw=>?_)
                  refine⟨_,_,hw,?_⟩
                  obtain⟨v122,h123,hF⟩:=Xa hF
                  refine Xk [.r (es 1 (kK [1,2] [] 1 0 (CF77_1 h123)::[])) []] .normal [(3,.bp 1 0),(45,ql_0),(46,iP 17),(47,iP 16)] [.cells (c27 v0),.cells (c27 v0++[iP 17,oP 2 3 c35 v122]),.grow (List.length v122) 3] (λe hw=>?_)
                  refine⟨_,_,hw,?_⟩
                  refine Xk [re 2] .normal [(3,.bp 1 0),(45,ql_0),(46,iP 17),(47,iP 17)] [.cells (c27 v0),.cells (c27 v0++[iP 17,oP 2 3 c35 v122]),.grow (List.length v122) 3] (λe hw=>?_)
                  refine⟨_,_,hw,?_⟩
                  refine Yn ?_
                  exact g_to [re 1,bF] (.exit 0) λ_ hw=>Xi (⟨_,_,hw,(17,v122),hF,rfl,rfl⟩)
                 rcases cor hF with⟨h124,hF⟩|⟨h124,hF⟩
                 ·obtain⟨v125,h126,hF⟩:=Xa hF
                  exact g_to [.r (es 4 (kLA 2 3 c35 v114::es 2 (rq 6 (bq h124) (rq 6 bqF (rq 4 bqT (bqT::kXA 2 3 c35 h126::rq 3 bqT (bq (t:=false) (b:=false) rfl::es 1 (bq h124::es 1 (kPt (bP (decide (v125.fP<10))) (bP false) h124::[]))))))))) []] .normal λ_ hw=>⟨_,_,hw,decide (v125.fP<10),hF,rfl,rfl⟩
                 exact g_to [.r (es 4 (kLA 2 3 c35 v114::es 2 (rp 7 (bq h124) (kPf (.tup []) (bP false) h124::[])))) []] .normal λ_ hw=>⟨_,_,hw,false,hF,rfl,rfl⟩
                rcases cor hF with⟨h127,hF⟩|⟨h127,hF⟩
                ·obtain⟨v128,h129,hF⟩:=Xa hF
                 exact g_to [.r (es 4 (kLA 2 3 c35 v106::es 2 (rq 6 (bq h127) (rq 6 bqF (rq 4 bqT (bqT::kXA 2 3 c35 h129::rq 3 bqT (bq (t:=false) (b:=false) rfl::es 1 (bq h127::es 1 (kPt (bP (decide (v128.fP<10))) (bP false) h127::[]))))))))) []] .normal λ_ hw=>⟨_,_,hw,decide (v128.fP<10),hF,rfl,rfl⟩
                exact g_to [.r (es 4 (kLA 2 3 c35 v106::es 2 (rp 7 (bq h127) (kPf (.tup []) (bP false) h127::[])))) []] .normal λ_ hw=>⟨_,_,hw,false,hF,rfl,rfl⟩
               rcases cor hF with⟨h130,hF⟩|⟨h130,hF⟩
               ·obtain⟨v131,h132,hF⟩:=Xa hF
                exact g_to [.r (es 4 (kLA 2 3 c35 v98::es 2 (rq 6 (bq h130) (rq 6 bqF (rq 4 bqT (bqT::kXA 2 3 c35 h132::rq 3 bqT (bq (t:=false) (b:=false) rfl::es 1 (bq h130::es 1 (kPt (bP (decide (v131.fP<10))) (bP false) h130::[]))))))))) []] .normal λ_ hw=>⟨_,_,hw,decide (v131.fP<10),hF,rfl,rfl⟩
               exact g_to [.r (es 4 (kLA 2 3 c35 v98::es 2 (rp 7 (bq h130) (kPf (.tup []) (bP false) h130::[])))) []] .normal λ_ hw=>⟨_,_,hw,false,hF,rfl,rfl⟩
              rcases cor hF with⟨h133,hF⟩|⟨h133,hF⟩
              ·obtain⟨v134,h135,hF⟩:=Xa hF
               exact g_to [.r (es 4 (kLA 2 3 c35 v90::es 2 (rq 6 (bq h133) (rq 6 bqF (rq 4 bqT (bqT::kXA 2 3 c35 h135::rq 3 bqT (bq (t:=false) (b:=false) rfl::es 1 (bq h133::es 1 (kPt (bP (decide (v134.fP<10))) (bP false) h133::[]))))))))) []] .normal λ_ hw=>⟨_,_,hw,decide (v134.fP<10),hF,rfl,rfl⟩
              exact g_to [.r (es 4 (kLA 2 3 c35 v90::es 2 (rp 7 (bq h133) (kPf (.tup []) (bP false) h133::[])))) []] .normal λ_ hw=>⟨_,_,hw,false,hF,rfl,rfl⟩
             rcases cor hF with⟨h136,hF⟩|⟨h136,hF⟩
             ·obtain⟨v137,h138,hF⟩:=Xa hF
              exact g_to [.r (es 4 (kLA 2 3 c35 v82::es 2 (rq 6 (bq h136) (rq 6 bqF (rq 4 bqT (bqT::kXA 2 3 c35 h138::rq 3 bqT (bq (t:=false) (b:=false) rfl::es 1 (bq h136::es 1 (kPt (bP (decide (v137.fP<10))) (bP false) h136::[]))))))))) []] .normal λ_ hw=>⟨_,_,hw,decide (v137.fP<10),hF,rfl,rfl⟩
             exact g_to [.r (es 4 (kLA 2 3 c35 v82::es 2 (rp 7 (bq h136) (kPf (.tup []) (bP false) h136::[])))) []] .normal λ_ hw=>⟨_,_,hw,false,hF,rfl,rfl⟩
            rcases cor hF with⟨h139,hF⟩|⟨h139,hF⟩
            ·obtain⟨v140,h141,hF⟩:=Xa hF
             exact g_to [.r (es 4 (kLA 2 3 c35 v74::es 2 (rq 6 (bq h139) (rq 6 bqF (rq 4 bqT (bqT::kXA 2 3 c35 h141::rq 3 bqT (bq (t:=false) (b:=false) rfl::es 1 (bq h139::es 1 (kPt (bP (decide (v140.fP<10))) (bP false) h139::[]))))))))) []] .normal λ_ hw=>⟨_,_,hw,decide (v140.fP<10),hF,rfl,rfl⟩
            exact g_to [.r (es 4 (kLA 2 3 c35 v74::es 2 (rp 7 (bq h139) (kPf (.tup []) (bP false) h139::[])))) []] .normal λ_ hw=>⟨_,_,hw,false,hF,rfl,rfl⟩
           rcases cor hF with⟨h142,hF⟩|⟨h142,hF⟩
           ·obtain⟨v143,h144,hF⟩:=Xa hF
            exact g_to [.r (es 4 (kLA 2 3 c35 v66::es 2 (rq 6 (bq h142) (rq 6 bqF (rq 4 bqT (bqT::kXA 2 3 c35 h144::rq 3 bqT (bq (t:=false) (b:=false) rfl::es 1 (bq h142::es 1 (kPt (bP (decide (v143.fP<10))) (bP false) h142::[]))))))))) []] .normal λ_ hw=>⟨_,_,hw,decide (v143.fP<10),hF,rfl,rfl⟩
           exact g_to [.r (es 4 (kLA 2 3 c35 v66::es 2 (rp 7 (bq h142) (kPf (.tup []) (bP false) h142::[])))) []] .normal λ_ hw=>⟨_,_,hw,false,hF,rfl,rfl⟩
          rcases cor hF with⟨h145,hF⟩|⟨h145,hF⟩
          ·obtain⟨v146,h147,hF⟩:=Xa hF
           exact g_to [.r (es 4 (kLA 2 3 c35 v58::es 2 (rq 6 (bq h145) (rq 6 bqF (rq 4 bqT (bqT::kXA 2 3 c35 h147::rq 3 bqT (bq (t:=false) (b:=false) rfl::es 1 (bq h145::es 1 (kPt (bP (decide (v146.fP<10))) (bP false) h145::[]))))))))) []] .normal λ_ hw=>⟨_,_,hw,decide (v146.fP<10),hF,rfl,rfl⟩
          exact g_to [.r (es 4 (kLA 2 3 c35 v58::es 2 (rp 7 (bq h145) (kPf (.tup []) (bP false) h145::[])))) []] .normal λ_ hw=>⟨_,_,hw,false,hF,rfl,rfl⟩
         rcases cor hF with⟨h148,hF⟩|⟨h148,hF⟩
         ·exact g_to [.r (es 4 (kLA 2 3 c35 v52::es 2 (rq 6 (bq h148) (rq 6 bqF (rp 9 bqF (es 1 (bq h148::es 1 (kPt (bP false) (bP false) h148::[])))))))) []] .normal λ_ hw=>⟨_,_,hw,(),hF,rfl,rfl⟩
         exact g_to [.r (es 4 (kLA 2 3 c35 v52::es 2 (rp 7 (bq h148) (kPf (.tup []) (bP false) h148::[])))) []] .normal λ_ hw=>⟨_,_,hw,(),hF,rfl,rfl⟩
        rcases cor hF with⟨h149,hF⟩|⟨h149,hF⟩
        ·exact g_to [.r (es 4 (kLA 2 3 c35 v46::es 2 (rq 6 (bq h149) (rq 6 bqF (rp 9 bqF (es 1 (bq h149::es 1 (kPt (bP false) (bP false) h149::[])))))))) []] .normal λ_ hw=>⟨_,_,hw,(),hF,rfl,rfl⟩
        exact g_to [.r (es 4 (kLA 2 3 c35 v46::es 2 (rp 7 (bq h149) (kPf (.tup []) (bP false) h149::[])))) []] .normal λ_ hw=>⟨_,_,hw,(),hF,rfl,rfl⟩
       rcases cor hF with⟨h150,hF⟩|⟨h150,hF⟩
       ·exact g_to [.r (es 4 (kLA 2 3 c35 v40::es 2 (rq 6 (bq h150) (rq 6 bqF (rp 9 bqF (es 1 (bq h150::es 1 (kPt (bP false) (bP false) h150::[])))))))) []] .normal λ_ hw=>⟨_,_,hw,(),hF,rfl,rfl⟩
       exact g_to [.r (es 4 (kLA 2 3 c35 v40::es 2 (rp 7 (bq h150) (kPf (.tup []) (bP false) h150::[])))) []] .normal λ_ hw=>⟨_,_,hw,(),hF,rfl,rfl⟩
      rcases cor hF with⟨h151,hF⟩|⟨h151,hF⟩
      ·exact g_to [.r (es 4 (kLA 2 3 c35 v34::es 2 (rq 6 (bq h151) (rq 6 bqF (rp 9 bqF (es 1 (bq h151::es 1 (kPt (bP false) (bP false) h151::[])))))))) []] .normal λ_ hw=>⟨_,_,hw,(),hF,rfl,rfl⟩
      exact g_to [.r (es 4 (kLA 2 3 c35 v34::es 2 (rp 7 (bq h151) (kPf (.tup []) (bP false) h151::[])))) []] .normal λ_ hw=>⟨_,_,hw,(),hF,rfl,rfl⟩
     rcases cor hF with⟨h152,hF⟩|⟨h152,hF⟩
     ·exact g_to [.r (es 4 (kLA 2 3 c35 v28::es 2 (rq 6 (bq h152) (rq 6 bqF (rp 9 bqF (es 1 (bq h152::es 1 (kPt (bP false) (bP false) h152::[])))))))) []] .normal λ_ hw=>⟨_,_,hw,(),hF,rfl,rfl⟩
     exact g_to [.r (es 4 (kLA 2 3 c35 v28::es 2 (rp 7 (bq h152) (kPf (.tup []) (bP false) h152::[])))) []] .normal λ_ hw=>⟨_,_,hw,(),hF,rfl,rfl⟩
    rcases cor hF with⟨h153,hF⟩|⟨h153,hF⟩
    ·exact g_to [.r (es 4 (kLA 2 3 c35 v22::es 2 (rq 6 (bq h153) (rq 6 bqF (rp 9 bqF (es 1 (bq h153::es 1 (kPt (bP false) (bP false) h153::[])))))))) []] .normal λ_ hw=>⟨_,_,hw,(),hF,rfl,rfl⟩
    exact g_to [.r (es 4 (kLA 2 3 c35 v22::es 2 (rp 7 (bq h153) (kPf (.tup []) (bP false) h153::[])))) []] .normal λ_ hw=>⟨_,_,hw,(),hF,rfl,rfl⟩
   rcases cor hF with⟨h154,hF⟩|⟨h154,hF⟩
   ·exact g_to [.r (es 4 (kLA 2 3 c35 v16::es 2 (rq 6 (bq h154) (rq 6 bqF (rp 9 bqF (es 1 (bq h154::es 1 (kPt (bP false) (bP false) h154::[])))))))) []] .normal λ_ hw=>⟨_,_,hw,(),hF,rfl,rfl⟩
   exact g_to [.r (es 4 (kLA 2 3 c35 v16::es 2 (rp 7 (bq h154) (kPf (.tup []) (bP false) h154::[])))) []] .normal λ_ hw=>⟨_,_,hw,(),hF,rfl,rfl⟩
  rcases cor hF with⟨h155,hF⟩|⟨h155,hF⟩
  ·exact g_to [.r (es 4 (kLA 2 3 c35 v8::es 2 (rq 6 (bq h155) (rp 7 bqT (bq h155::es 1 (kPt (bP true) (bP false) h155::[])))))) []] .normal λ_ hw=>⟨_,_,hw,true,hF,rfl,rfl⟩
  exact g_to [.r (es 4 (kLA 2 3 c35 v8::es 2 (rp 7 (bq h155) (kPf (.tup []) (bP false) h155::[])))) []] .normal λ_ hw=>⟨_,_,hw,false,hF,rfl,rfl⟩
 rcases cor hF with⟨h156,hF⟩|⟨h156,hF⟩
 ·exact g_to [.r (es 4 (kLA 2 3 c35 ([]:List G35)::es 2 (rq 6 (bq h156) (rq 6 bqF (rp 9 bqF (es 1 (bq h156::es 1 (kPt (bP false) (bP false) h156::[])))))))) []] .normal λ_ hw=>⟨_,_,hw,(),hF,rfl,rfl⟩
 exact g_to [.r (es 4 (kLA 2 3 c35 ([]:List G35)::es 2 (rp 7 (bq h156) (kPf (.tup []) (bP false) h156::[])))) []] .normal λ_ hw=>⟨_,_,hw,(),hF,rfl,rfl⟩
theorem CF13 {v0 out} (hF:F13 v0=some out):A0 13 [.agg (c27 v0)] (bP out):=by
 refine gC Tryz.func13 ?_
 obtain⟨v1,h2,hF⟩:=Xa hF
 obtain rfl:=soj hF
 exact gE [re 2,.r (es 1 (kC (CF32 h2)::kL 3 c35 v1::es 2 [])) []]
theorem CF12 {v0 out} (hF:F12 v0=some out):A0 12 [.agg (c27 v0)] (eS 3 c35 out):=by
 refine gC Tryz.func12 ?_
 obtain⟨v1,h2,v3,h4,hF⟩:=bs2 hF
 obtain rfl:=soj hF
 exact gE [re 2,.r (es 1 (kC (CF32 h2)::es 1 [])) [],.r (es 2 (kL 3 c35 v1::es 1 (⟨.pu (.slSl 3 (.c (eS 3 c35 v1)) none (some (.c (iP (if 200<(ln v1)then (200)else (ln v1))))) none) (eS 3 c35 v3),n_sll h4⟩::es 1 []))) []]
theorem CF30 {v0 out} (hF:F30 v0=some out):A0 30 [.agg (c73 v0)] (bP out):=by
 refine gC Tryz.func30 ?_
 refine gP 0 [re 2] [(1,.bp 0 0)] [.cells (c73 v0)] ?_
 refine gM (λ(_:Unit)=>([(1,.bp 0 0)],[.cells (c73 v0)],JF30_1 v0)) out ?_ ?_
 ·rintro⟨⟩ hF
  rcases cor hF with⟨h2,hF⟩|⟨h2,hF⟩
  ·obtain rfl:=soj hF
   exact gE [.r (es 2 (kL 13 c49 v0.fg::es 2 (rq 2 (bq h2) (bq h2::kL 4 c257 v0.fT::bq h2::es 1 (kPt (bP (decide ((ln v0.fT)<=6))) (bP false) h2::es 1 []))))) []]
  obtain rfl:=soj hF
  exact gE [.r (es 2 (kL 13 c49 v0.fg::es 2 (rp 4 (bq h2) (kPf (.tup []) (bP false) h2::es 1 [])))) []]
 refine gP 0 [re 1] [(1,.bp 0 0),(3,iP 0)] [.cells (c73 v0)] ?_
 refine gB 0 ?_
 obtain⟨o4,ho4,hF⟩:=Xa hF
 refine gL ho4 (λv3=>([(1,.bp 0 0),(3,iP v3)],[.cells (c73 v0)])) wm ?_
 rintro v3 o5 h6 h7
 rcases cor h6 with⟨h9,h6⟩|⟨h9,h6⟩
 ·refine gP 0 [.r (es 3 (kL 13 c49 v0.fg::es 1 [])) [],bb h9] [(1,.bp 0 0),(3,iP v3)] [.cells (c73 v0)] ?_
  refine gM (λ(_:Unit)=>([(1,.bp 0 0),(3,iP v3)],[.cells (c73 v0)],JF30_10 v3)) o5 ?_ ?_
  ·rintro⟨⟩ h6
   cases h6
   exact g_to [re 3] .normal λ_ hw=>⟨rfl,hw⟩
  refine gB 1 ?_
  obtain⟨v11,h12,h6⟩:=Xa h6
  refine gP 0 [.r (es 3 (kX 13 c49 h12::es 3 [])) []] [(1,.bp 0 0),(3,iP v3),(4,.bp 1 0)] [.cells (c73 v0),.cells (c49 v11)] ?_
  refine gS ?_
  refine gM (λ(v13:Bool)=>([(1,.bp 0 0),(3,iP v3),(4,.bp 1 0),(33,bP v13)],[.cells (c73 v0),.cells (c49 v11)],JF30_14 v11 v3 v13)) o5 ?_ ?_
  ·rintro v13 h6
   rcases cor h6 with⟨h15,h6⟩|⟨h15,h6⟩
   ·cases h6
    obtain rfl:=h7 _ rfl
    obtain rfl:=soj hF
    exact gE [bb h15,re 1]
   refine Xk [bb h15] .normal [(1,.bp 0 0),(3,iP v3),(4,.bp 1 0)] [.cells (c73 v0),.cells (c49 v11)] (λe hw=>?_)
   refine⟨_,_,hw,?_⟩
   refine gP 0 [re 1] [(1,.bp 0 0),(3,iP v3),(4,.bp 1 0),(5,iP 0)] [.cells (c73 v0),.cells (c49 v11)] ?_
   refine gB 2 ?_
   obtain⟨o17,ho17,h6⟩:=Xa h6
   refine gL ho17 (λv16=>([(1,.bp 0 0),(3,iP v3),(4,.bp 1 0),(5,iP v16)],[.cells (c73 v0),.cells (c49 v11)])) wm ?_
   rintro v16 o18 h19 h20
   rcases cor h19 with⟨h22,h19⟩|⟨h22,h19⟩
   ·obtain⟨v23,h24,h19⟩:=Xa h19
    rcases cor h19 with⟨h25,h19⟩|⟨h25,h19⟩
    ·cases h19
     obtain rfl:=h20 _ rfl
     cases h6
     obtain rfl:=h7 _ rfl
     obtain rfl:=soj hF
     exact gE [.r (es 3 (kL 2 c135 v11.fp::es 1 [])) [],bb h22,.r (es 3 (kX 2 c135 h24::es 4 [])) [],bb h25,re 1]
    cases h19
    exact g_to [.r (es 3 (kL 2 c135 v11.fp::es 1 [])) [],bb h22,.r (es 3 (kX 2 c135 h24::es 4 [])) [],bb h25,re 3] .normal λ_ hw=>⟨rfl,hw⟩
   cases h19
   obtain rfl:=h20 _ rfl
   exact g_tc 1 [.r (es 3 (kL 2 c135 v11.fp::es 1 [])) [],bb h22] (.exit 2) λ_ _ hw=>Xi (⟨_,_,hw,(),h6,rfl,rfl⟩)
  rcases cor h6 with⟨h26,h6⟩|⟨h26,h6⟩
  ·exact g_to [.r (es 2 (kL 5 c112 v11.fx::es 2 (rp 4 (bq h26) (kPt (bP true) (.tup []) h26::es 1 (rp 4 bqT (es 1 [])))))) []] .normal λ_ hw=>⟨_,_,hw,true,h6,rfl,rfl⟩
  rcases cor h6 with⟨h27,h6⟩|⟨h27,h6⟩
  ·exact g_to [.r (es 2 (kL 5 c112 v11.fx::es 2 (rq 2 (bq h26) (bq h26::kL 5 c144 v11.fQ::bq h26::es 1 (kPf (bP true) (bP (decide ((ln v11.fQ)>12))) h26::es 1 (rp 4 (bq h27) (kPt (bP true) (.tup []) h27::[]))))))) []] .normal λ_ hw=>⟨_,_,hw,true,h6,rfl,rfl⟩
  exact g_to [.r (es 2 (kL 5 c112 v11.fx::es 2 (rq 2 (bq h26) (bq h26::kL 5 c144 v11.fQ::bq h26::es 1 (kPf (bP true) (bP (decide ((ln v11.fQ)>12))) h26::es 1 (rq 2 (bq h27) (bq h27::kL 2 c135 v11.fp::bq h27::es 1 (kPf (bP true) (bP (decide ((ln v11.fp)>12))) h27::[])))))))) []] .normal λ_ hw=>⟨_,_,hw,decide ((ln v11.fp)>12),h6,rfl,rfl⟩
 cases h6
 obtain rfl:=h7 _ rfl
 exact g_to [.r (es 3 (kL 13 c49 v0.fg::es 1 [])) [],bb h9] (.exit 0) λ_ hw=>Xi (⟨_,_,hw,(),hF,rfl,rfl⟩)
theorem CF31 {v0 out} (hF:F31 v0=some out):A0 31 [.agg (c73 v0)] (iP out):=by
 refine gC Tryz.func31 ?_
 refine gP 1 [re 2,re 1] [(1,.bp 0 0),(3,iP 0)] [.cells (c73 v0)] ?_
 refine gM (λ(v1:Int)=>([(3,iP v1)],[],JF31_2 v1)) out ?_ ?_
 ·rintro v1 hF
  obtain rfl:=soj hF
  exact gE [re 2]
 refine gP 0 [re 1] [(1,.bp 0 0),(3,iP 0),(4,iP 0)] [.cells (c73 v0)] ?_
 refine gB 0 ?_
 obtain⟨o6,ho6,hF⟩:=Xa hF
 refine gL ho6 (λ(v3,v4)=>([(1,.bp 0 0),(3,iP v3),(4,iP v4)],[.cells (c73 v0)])) wm ?_
 rintro⟨v3,v4⟩ o7 h8 h9
 rcases cor h8 with⟨h11,h8⟩|⟨h11,h8⟩
 ·refine gP 0 [.r (es 3 (kL 13 c49 v0.fg::es 1 [])) [],bb h11] [(1,.bp 0 0),(3,iP v3),(4,iP v4)] [.cells (c73 v0)] ?_
  refine gM (λ(v12:Int)=>([(1,.bp 0 0),(3,iP v12),(4,iP v4)],[.cells (c73 v0)],JF31_13 v4 v12)) o7 ?_ ?_
  ·rintro v12 h8
   cases h8
   exact g_to [re 3] .normal λ_ hw=>⟨rfl,hw⟩
  refine gB 1 ?_
  refine gP 0 [re 1] [(1,.bp 0 0),(3,iP v3),(4,iP v4),(5,iP 0)] [.cells (c73 v0)] ?_
  refine gB 2 ?_
  obtain⟨o17,ho17,h8⟩:=Xa h8
  refine gL ho17 (λ(v14,v15)=>([(1,.bp 0 0),(3,iP v14),(4,iP v4),(5,iP v15)],[.cells (c73 v0)])) wm ?_
  rintro⟨v14,v15⟩ o18 h19 h20
  obtain⟨v22,h23,h19⟩:=Xa h19
  rcases cor h19 with⟨h24,h19⟩|⟨h24,h19⟩
  ·obtain⟨v25,h26,v27,h28,h19⟩:=bs2 h19
   cases h19
   exact g_to [.r (es 4 (kX 13 c49 h23::es 2 (kL 2 c135 v22.fp::es 1 []))) [],bb h24,.r (es 4 (kX 13 c49 h26::es 3 (kX 2 c135 h28::es 5 []))) [],re 3] .normal λ_ hw=>⟨rfl,hw⟩
  cases h19
  obtain rfl:=h20 _ rfl
  exact g_to [.r (es 4 (kX 13 c49 h23::es 2 (kL 2 c135 v22.fp::es 1 []))) [],bb h24] (.exit 2) λ_ hw=>Xi (⟨_,_,hw,v14,h8,rfl,rfl⟩)
 cases h8
 obtain rfl:=h9 _ rfl
 exact g_tc 0 [.r (es 3 (kL 13 c49 v0.fg::es 1 [])) [],bb h11] (.exit 0) λ_ _ hw=>Xi (⟨_,_,hw,v3,hF,rfl,rfl⟩)
theorem CF11 {v0 out} (hF:F11 v0=some out):A0 11 [.agg (c27 v0)] (bP out):=by
 refine gC Tryz.func11 ?_
 refine gP 1 [re 2,re 2] [(1,.bp 0 0),(3,iP 0),(4,iP 0)] [.cells (c27 v0)] ?_
 refine gM (λ(_:Unit)=>([(1,.bp 0 0),(3,iP 0),(4,iP 0)],[.cells (c27 v0)],JF11_1 v0)) out ?_ ?_
 ·rintro⟨⟩ hF
  refine gM (λ(_:Unit)=>([(1,.bp 0 0)],[.cells (c27 v0)],JF11_2 v0)) out ?_ ?_
  ·rintro⟨⟩ hF
   rcases cor hF with⟨h3,hF⟩|⟨h3,hF⟩
   ·rcases cor hF with⟨h4,hF⟩|⟨h4,hF⟩
    ·rcases cor hF with⟨h5,hF⟩|⟨h5,hF⟩
     ·rcases cor hF with⟨h6,hF⟩|⟨h6,hF⟩
      ·obtain rfl:=soj hF
       exact gE [.r (es 2 (kL 6 c89 v0.fi::es 2 (rq 2 (bq h3) (bq h3::kL 22 c64 v0.fc::bq h3::es 1 (kPt (bP (decide ((ln v0.fc)<=10))) (bP false) h3::es 1 (rq 2 (bq h4) (bq h4::kL 7 c126 v0.fh::bq h4::es 1 (kPt (bP (decide ((ln v0.fh)<=10))) (bP false) h4::es 1 (rq 2 (bq h5) (bq h5::kL 2 c33 v0.fB::bq h5::es 1 (kPt (bP (decide ((ln v0.fB)<=5))) (bP false) h5::es 1 (rq 4 (bq h6) (kPt (bP (decide ((lns v0.fae)<=300))) (bP false) h6::es 1 []))))))))))))) []]
      obtain rfl:=soj hF
      exact gE [.r (es 2 (kL 6 c89 v0.fi::es 2 (rq 2 (bq h3) (bq h3::kL 22 c64 v0.fc::bq h3::es 1 (kPt (bP (decide ((ln v0.fc)<=10))) (bP false) h3::es 1 (rq 2 (bq h4) (bq h4::kL 7 c126 v0.fh::bq h4::es 1 (kPt (bP (decide ((ln v0.fh)<=10))) (bP false) h4::es 1 (rq 2 (bq h5) (bq h5::kL 2 c33 v0.fB::bq h5::es 1 (kPt (bP (decide ((ln v0.fB)<=5))) (bP false) h5::es 1 (rp 4 (bq h6) (kPf (.tup []) (bP false) h6::es 1 []))))))))))))) []]
     obtain rfl:=soj hF
     exact gE [.r (es 2 (kL 6 c89 v0.fi::es 2 (rq 2 (bq h3) (bq h3::kL 22 c64 v0.fc::bq h3::es 1 (kPt (bP (decide ((ln v0.fc)<=10))) (bP false) h3::es 1 (rq 2 (bq h4) (bq h4::kL 7 c126 v0.fh::bq h4::es 1 (kPt (bP (decide ((ln v0.fh)<=10))) (bP false) h4::es 1 (rp 4 (bq h5) (kPf (.tup []) (bP false) h5::es 1 (rp 4 bqF (es 2 [])))))))))))) []]
    obtain rfl:=soj hF
    exact gE [.r (es 2 (kL 6 c89 v0.fi::es 2 (rq 2 (bq h3) (bq h3::kL 22 c64 v0.fc::bq h3::es 1 (kPt (bP (decide ((ln v0.fc)<=10))) (bP false) h3::es 1 (rp 4 (bq h4) (kPf (.tup []) (bP false) h4::es 1 (rp 4 bqF (es 2 (rp 4 bqF (es 2 []))))))))))) []]
   obtain rfl:=soj hF
   exact gE [.r (es 2 (kL 6 c89 v0.fi::es 2 (rp 4 (bq h3) (kPf (.tup []) (bP false) h3::es 1 (rp 4 bqF (es 2 (rp 4 bqF (es 2 (rp 4 bqF (es 2 [])))))))))) []]
  refine gP 0 [re 1] [(1,.bp 0 0),(3,iP 0),(4,iP 0),(6,iP 0)] [.cells (c27 v0)] ?_
  refine gB 2 ?_
  obtain⟨o10,ho10,hF⟩:=Xa hF
  refine gL ho10 (λ(v7,v8,v9)=>([(1,.bp 0 0),(3,iP v7),(4,iP v8),(6,iP v9)],[.cells (c27 v0)])) wm ?_
  rintro⟨v7,v8,v9⟩ o11 h12 h13
  rcases cor h12 with⟨h15,h12⟩|⟨h15,h12⟩
  ·refine gP 0 [.r (es 3 (kL 22 c64 v0.fc::es 1 [])) [],bb h15] [(1,.bp 0 0),(3,iP v7),(4,iP v8),(6,iP v9)] [.cells (c27 v0)] ?_
   refine gM (λ(x:Int×Int)=>match x with|(v16,v17)=>([(1,.bp 0 0),(3,iP v16),(4,iP v17),(6,iP v9)],[.cells (c27 v0)],JF11_18 v9 v16 v17)) o11 ?_ ?_
   ·rintro⟨v16,v17⟩ h12
    cases h12
    exact g_to [re 3] .normal λ_ hw=>⟨rfl,hw⟩
   refine gB 3 ?_
   obtain⟨v19,h20,h12⟩:=Xa h12
   refine gP 0 [.r (es 3 (kX 22 c64 h20::es 3 [])) []] [(1,.bp 0 0),(3,iP v7),(4,iP v8),(6,iP v9),(7,.bp 1 0)] [.cells (c27 v0),.cells (c64 v19)] ?_
   refine gS ?_
   refine gM (λ(v21:Bool)=>([(1,.bp 0 0),(3,iP v7),(4,iP v8),(6,iP v9),(7,.bp 1 0),(62,bP v21)],[.cells (c27 v0),.cells (c64 v19)],JF11_22 v19 v7 v8 v9 v21)) o11 ?_ ?_
   ·rintro v21 h12
    rcases cor h12 with⟨h23,h12⟩|⟨h23,h12⟩
    ·cases h12
     obtain rfl:=h13 _ rfl
     obtain rfl:=soj hF
     exact gE [bb h23,re 1]
    refine Xk [bb h23] .normal [(1,.bp 0 0),(3,iP v7),(4,iP v8),(6,iP v9),(7,.bp 1 0)] [.cells (c27 v0),.cells (c64 v19)] (λe hw=>?_)
    refine⟨_,_,hw,?_⟩
    refine gP 0 [re 1] [(1,.bp 0 0),(3,iP v7),(4,iP v8),(6,iP v9),(7,.bp 1 0),(8,iP 0)] [.cells (c27 v0),.cells (c64 v19)] ?_
    refine gB 4 ?_
    obtain⟨o29,ho29,h12⟩:=Xa h12
    refine gL ho29 (λ(v24,v25,v26)=>([(1,.bp 0 0),(3,iP v24),(4,iP v25),(6,iP v9),(7,.bp 1 0),(8,iP v26)],[.cells (c27 v0),.cells (c64 v19)])) wm ?_
    rintro⟨v24,v25,v26⟩ o30 h31 h32
    rcases cor h31 with⟨h34,h31⟩|⟨h34,h31⟩
    ·refine gP 0 [.r (es 3 (kL 2 c69 v19.fe::es 1 [])) [],bb h34] [(1,.bp 0 0),(3,iP v24),(4,iP v25),(6,iP v9),(7,.bp 1 0),(8,iP v26)] [.cells (c27 v0),.cells (c64 v19)] ?_
     refine gM (λ(x:Int×Int)=>match x with|(v35,v36)=>([(1,.bp 0 0),(3,iP v35),(4,iP v36),(6,iP v9),(7,.bp 1 0),(8,iP v26)],[.cells (c27 v0),.cells (c64 v19)],JF11_37 v26 v35 v36)) o30 ?_ ?_
     ·rintro⟨v35,v36⟩ h31
      cases h31
      exact g_to [re 3] .normal λ_ hw=>⟨rfl,hw⟩
     refine gB 5 ?_
     refine gS ?_
     refine gM (λ(v38:Bool)=>([(1,.bp 0 0),(3,iP v24),(4,iP v25),(6,iP v9),(7,.bp 1 0),(8,iP v26),(87,bP v38)],[.cells (c27 v0),.cells (c64 v19)],JF11_39 v19 v26 v24 v25 v38)) o30 ?_ ?_
     ·rintro v38 h31
      rcases cor h31 with⟨h40,h31⟩|⟨h40,h31⟩
      ·cases h31
       obtain rfl:=h32 _ rfl
       cases h12
       obtain rfl:=h13 _ rfl
       obtain rfl:=soj hF
       exact gE [bb h40,re 1]
      refine Xk [bb h40] .normal [(1,.bp 0 0),(3,iP v24),(4,iP v25),(6,iP v9),(7,.bp 1 0),(8,iP v26)] [.cells (c27 v0),.cells (c64 v19)] (λe hw=>?_)
      refine⟨_,_,hw,?_⟩
      refine gP 0 [re 1] [(1,.bp 0 0),(3,iP v24),(4,iP v25),(6,iP v9),(7,.bp 1 0),(8,iP v26),(9,iP 0)] [.cells (c27 v0),.cells (c64 v19)] ?_
      refine gB 6 ?_
      obtain⟨o46,ho46,h31⟩:=Xa h31
      refine gL ho46 (λ(v41,v42,v43)=>([(1,.bp 0 0),(3,iP v41),(4,iP v42),(6,iP v9),(7,.bp 1 0),(8,iP v26),(9,iP v43)],[.cells (c27 v0),.cells (c64 v19)])) wm ?_
      rintro⟨v41,v42,v43⟩ o47 h48 h49
      obtain⟨v51,h52,h48⟩:=Xa h48
      rcases cor h48 with⟨h53,h48⟩|⟨h53,h48⟩
      ·refine gP 0 [.r (es 4 (kX 2 c69 h52::es 2 (kL 2 c73 v51.ff::es 1 []))) [],bb h53] [(1,.bp 0 0),(3,iP v41),(4,iP v42),(6,iP v9),(7,.bp 1 0),(8,iP v26),(9,iP v43)] [.cells (c27 v0),.cells (c64 v19)] ?_
       refine gS ?_
       refine gB 7 ?_
       obtain⟨v54,h55,v56,h57,v58,h59,h48⟩:=bs3 h48
       rcases cor h48 with⟨h60,h48⟩|⟨h60,h48⟩
       ·cases h48
        obtain rfl:=h49 _ rfl
        cases h31
        obtain rfl:=h32 _ rfl
        cases h12
        obtain rfl:=h13 _ rfl
        obtain rfl:=soj hF
        exact gE [.r (es 3 (kX 2 c69 h55::es 3 (kX 2 c73 h57::es 1 (kC (CF30 h59)::es 1 [])))) [],bb h60,re 1]
       obtain⟨v61,h62,v63,h64,v65,h66,h48⟩:=bs3 h48
       obtain⟨v67,h68,v69,h70,h48⟩:=bs2 h48
       refine gP 1 [.r (es 3 (kX 2 c69 h55::es 3 (kX 2 c73 h57::es 1 (kC (CF30 h59)::es 1 [])))) [],bb h60,.r (es 4 (kX 2 c69 h62::es 3 (kX 2 c73 h64::es 2 (kL 13 c49 v63.fg::es 5 (kX 2 c69 h66::es 3 (kX 2 c73 h68::es 1 (kC (CF31 h70)::es 2 []))))))) (es 1 [])] [(1,.bp 0 0),(3,iP (wi (v41+(ln v63.fg)))),(4,iP (wi (v42+v69))),(6,iP v9),(7,.bp 1 0),(8,iP v26),(9,iP v43)] [.cells (c27 v0),.cells (c64 v19)] ?_
       refine gM (λ(v71:Bool)=>([(1,.bp 0 0),(3,iP (wi (v41+(ln v63.fg)))),(4,iP (wi (v42+v69))),(6,iP v9),(7,.bp 1 0),(8,iP v26),(9,iP v43),(140,bP v71)],[.cells (c27 v0),.cells (c64 v19)],JF11_72 v41 v63 v42 v69 v43 v71)) o47 ?_ ?_
       ·rintro v71 h48
        rcases cor h48 with⟨h73,h48⟩|⟨h73,h48⟩
        ·cases h48
         obtain rfl:=h49 _ rfl
         cases h31
         obtain rfl:=h32 _ rfl
         cases h12
         obtain rfl:=h13 _ rfl
         obtain rfl:=soj hF
         exact gE [bb h73,re 1]
        refine Xk [bb h73] .normal [(1,.bp 0 0),(3,iP (wi (v41+(ln v63.fg)))),(4,iP (wi (v42+v69))),(6,iP v9),(7,.bp 1 0),(8,iP v26),(9,iP v43)] [.cells (c27 v0),.cells (c64 v19)] (λe hw=>?_)
        refine⟨_,_,hw,?_⟩
        cases h48
        exact g_to [re 3] .normal λ_ hw=>⟨rfl,hw⟩
       rcases cor h48 with⟨h74,h48⟩|⟨h74,h48⟩
       ·exact g_to [.r (es 3 (rp 2 (bq h74) (kPt (bP true) (.tup []) h74::[]))) []] .normal λ_ hw=>⟨_,_,hw,true,h48,rfl,rfl⟩
       exact g_to [.r (es 3 (rq 2 (bq h74) (kPf (bP true) (bP (decide ((wi (v42+v69))>20000))) h74::[]))) []] .normal λ_ hw=>⟨_,_,hw,decide ((wi (v42+v69))>20000),h48,rfl,rfl⟩
      cases h48
      obtain rfl:=h49 _ rfl
      exact g_to [.r (es 4 (kX 2 c69 h52::es 2 (kL 2 c73 v51.ff::es 1 []))) [],bb h53] (.exit 6) λ_ hw=>Xi (⟨_,_,hw,(v41,v42),h31,rfl,rfl⟩)
     obtain⟨v75,h76,h31⟩:=Xa h31
     rcases cor h31 with⟨h77,h31⟩|⟨h77,h31⟩
     ·exact g_to [.r (es 3 (kX 2 c69 h76::es 2 (kL 2 c174 v75.fM::es 2 (rp 8 (bq h77) (kPt (bP true) (.tup []) h77::[]))))) []] .normal λ_ hw=>⟨_,_,hw,true,h31,rfl,rfl⟩
     obtain⟨v78,h79,h31⟩:=Xa h31
     exact g_to [.r (es 3 (kX 2 c69 h76::es 2 (kL 2 c174 v75.fM::es 2 (rq 3 (bq h77) (bq h77::kX 2 c69 h79::rq 2 (bq h77) (bq h77::kL 2 c73 v78.ff::bq h77::es 1 (kPf (bP true) (bP (decide ((ln v78.ff)>3))) h77::[]))))))) []] .normal λ_ hw=>⟨_,_,hw,decide ((ln v78.ff)>3),h31,rfl,rfl⟩
    cases h31
    obtain rfl:=h32 _ rfl
    exact g_tc 1 [.r (es 3 (kL 2 c69 v19.fe::es 1 [])) [],bb h34] (.exit 4) λ_ _ hw=>Xi (⟨_,_,hw,(v24,v25),h12,rfl,rfl⟩)
   rcases cor h12 with⟨h80,h12⟩|⟨h80,h12⟩
   ·exact g_to [.r (es 2 (kL 2 c69 v19.fe::es 2 (rp 4 (bq h80) (kPt (bP true) (.tup []) h80::es 1 (rp 4 bqT (es 1 [])))))) []] .normal λ_ hw=>⟨_,_,hw,true,h12,rfl,rfl⟩
   rcases cor h12 with⟨h81,h12⟩|⟨h81,h12⟩
   ·exact g_to [.r (es 2 (kL 2 c69 v19.fe::es 2 (rq 2 (bq h80) (bq h80::kL 3 c161 v19.fN::bq h80::es 1 (kPf (bP true) (bP (decide ((ln v19.fN)>5))) h80::es 1 (rp 4 (bq h81) (kPt (bP true) (.tup []) h81::[]))))))) []] .normal λ_ hw=>⟨_,_,hw,true,h12,rfl,rfl⟩
   exact g_to [.r (es 2 (kL 2 c69 v19.fe::es 2 (rq 2 (bq h80) (bq h80::kL 3 c161 v19.fN::bq h80::es 1 (kPf (bP true) (bP (decide ((ln v19.fN)>5))) h80::es 1 (rq 4 (bq h81) (kPf (bP true) (bP (decide ((lns v19.fam)>300))) h81::[]))))))) []] .normal λ_ hw=>⟨_,_,hw,decide ((lns v19.fam)>300),h12,rfl,rfl⟩
  cases h12
  obtain rfl:=h13 _ rfl
  exact g_to [.r (es 3 (kL 22 c64 v0.fc::es 1 [])) [],bb h15] (.exit 2) λ_ hw=>Xi (⟨_,_,hw,(),hF,rfl,rfl⟩)
 refine gP 0 [re 1] [(1,.bp 0 0),(3,iP 0),(4,iP 0),(5,iP 0)] [.cells (c27 v0)] ?_
 refine gB 0 ?_
 obtain⟨o83,ho83,hF⟩:=Xa hF
 refine gL ho83 (λv82=>([(1,.bp 0 0),(3,iP 0),(4,iP 0),(5,iP v82)],[.cells (c27 v0)])) wm ?_
 rintro v82 o84 h85 h86
 rcases cor h85 with⟨h88,h85⟩|⟨h88,h85⟩
 ·refine gP 0 [.r (es 3 (kL 6 c89 v0.fi::es 1 [])) [],bb h88] [(1,.bp 0 0),(3,iP 0),(4,iP 0),(5,iP v82)] [.cells (c27 v0)] ?_
  refine gS ?_
  refine gB 1 ?_
  refine gM (λ(v89:Bool)=>([(1,.bp 0 0),(3,iP 0),(4,iP 0),(5,iP v82),(34,bP v89)],[.cells (c27 v0)],JF11_90 v82 v89)) o84 ?_ ?_
  ·rintro v89 h85
   rcases cor h85 with⟨h91,h85⟩|⟨h91,h85⟩
   ·cases h85
    obtain rfl:=h86 _ rfl
    obtain rfl:=soj hF
    exact gE [bb h91,re 1]
   refine Xk [bb h91] .normal [(1,.bp 0 0),(3,iP 0),(4,iP 0),(5,iP v82)] [.cells (c27 v0)] (λe hw=>?_)
   refine⟨_,_,hw,?_⟩
   cases h85
   exact g_to [re 3] .normal λ_ hw=>⟨rfl,hw⟩
  obtain⟨v92,h93,h85⟩:=Xa h85
  rcases cor h85 with⟨h94,h85⟩|⟨h94,h85⟩
  ·exact g_to [.r (es 3 (kX 6 c89 h93::es 2 (kL 3 c84 v92.ft::es 2 (rp 8 (bq h94) (kPt (bP true) (.tup []) h94::[]))))) []] .normal λ_ hw=>⟨_,_,hw,true,h85,rfl,rfl⟩
  obtain⟨v95,h96,h85⟩:=Xa h85
  exact g_to [.r (es 3 (kX 6 c89 h93::es 2 (kL 3 c84 v92.ft::es 2 (rq 3 (bq h94) (bq h94::kX 6 c89 h96::rq 4 (bq h94) (kPf (bP true) (bP (decide ((lns v95.fap)>300))) h94::[])))))) []] .normal λ_ hw=>⟨_,_,hw,decide ((lns v95.fap)>300),h85,rfl,rfl⟩
 cases h85
 obtain rfl:=h86 _ rfl
 exact g_to [.r (es 3 (kL 6 c89 v0.fi::es 1 [])) [],bb h88] (.exit 0) λ_ hw=>Xi (⟨_,_,hw,(),hF,rfl,rfl⟩)
theorem CF23 {v0 v1 out} (hF:F23 v0 v1=some out):A0 23 [.agg (c73 v0),iP v1] (.tup [iP out.1,iP out.2]):=by
 refine gC Tryz.func23 ?_
 obtain⟨v2,h3,v4,h5,hF⟩:=bs2 hF
 obtain rfl:=soj hF
 exact gE [re 3,.r (es 2 (kC (CF50 h3)::es 5 [])) [],.r (es 1 (kC (CF51 h5)::es 3 [])) []]
end
end Go.Proofs.YtnjmaohblihppaaGreatDoor
