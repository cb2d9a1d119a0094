/- A part of the proof. -/
import Derived.Test.YtibndgdocbbbeaaGreatFC3
import Derived.Test.YtibndgdocbbbeaaGreatSY13
import Derived.Test.YtibndgdocbbbeaaGreatHA
set_option linter.all false
set_option maxRecDepth 100000
set_option maxHeartbeats 40000000
set_option synthInstance.maxSize 100000
namespace Go.Proofs.YtibndgdocbbbeaaGreat
open Go.PE
noncomputable section
theorem CF140_5 {v0 v1 v2 out} (hF:F140_5 v0 v1 v2=some out):ACall Tryz.prog 140 [.bp 0 0,(.fn (.func 167) [] [.bp 2 0])] (hC v0 v1 v2++[.cells [.bp 0 0]]) (λq h=>q=(.tup [])/\h=(hC v0 v1 out++[.cells [.bp 0 0]])):=by
 refine gC Tryz.func140 ?_
 refine gP 0 [.r (es 5 (kL 22 c75 v0.fc::es 1 [])) []] [(0,.bp 0 0),(1,(.fn (.func 167) [] [.bp 2 0])),(16,eS 22 c75 v0.fc),(17,iP (ln v0.fc)),(18,iP 0)] (hC v0 v1 v2++[.cells [.bp 0 0]]) ?_
 refine gB 0 ?_
 obtain⟨o7,ho7,hF⟩:=Xa hF
 refine gL ho7 (λ(v4,v5)=>([(0,.bp 0 0),(1,(.fn (.func 167) [] [.bp 2 0])),(16,eS 22 c75 v0.fc),(17,iP (ln v0.fc)),(18,iP v4)],hC v0 v1 v5++[.cells [.bp 0 0]])) wm ?_
 rintro⟨v4,v5⟩ o8 h9 h10
 rcases cor h9 with⟨h12,h9⟩|⟨h12,h9⟩
 ·refine gP 1 [re 1,bb h12] [(0,.bp 0 0),(1,(.fn (.func 167) [] [.bp 2 0])),(16,eS 22 c75 v0.fc),(17,iP (ln v0.fc)),(18,iP v4)] (hC v0 v1 v5++[.cells [.bp 0 0]]) ?_
  refine gM (λ(v13:List G159)=>([(0,.bp 0 0),(1,(.fn (.func 167) [] [.bp 2 0])),(16,eS 22 c75 v0.fc),(17,iP (ln v0.fc)),(18,iP v4)],hC v0 v1 v13++[.cells [.bp 0 0]],JF140_5_14 v4 v13)) o8 ?_ ?_
  ·rintro v13 h9
   cases h9
   exact g_to [re 2] .normal λ_ hw=>⟨rfl,hw⟩
  refine gB 1 ?_
  obtain⟨v15,h16,h9⟩:=Xa h9
  refine gP 1 [.r (es 1 (kX 22 c75 h16::es 4 [])) [],.r (es 2 (kL 2 c95 v15.fe::es 1 [])) []] [(0,.bp 0 0),(1,(.fn (.func 167) [] [.bp 2 0])),(4,iP v4),(16,eS 22 c75 v0.fc),(17,iP (ln v0.fc)),(18,iP v4),(24,eS 2 c95 v15.fe),(25,iP (ln v15.fe)),(26,iP 0)] (hC v0 v1 v5++[.cells [.bp 0 0],.cells (c75 v15)]) ?_
  refine gB 2 ?_
  obtain⟨o20,ho20,h9⟩:=Xa h9
  refine gL ho20 (λ(v17,v18)=>([(0,.bp 0 0),(1,(.fn (.func 167) [] [.bp 2 0])),(4,iP v4),(16,eS 22 c75 v0.fc),(17,iP (ln v0.fc)),(18,iP v4),(24,eS 2 c95 v15.fe),(25,iP (ln v15.fe)),(26,iP v17)],hC v0 v1 v18++[.cells [.bp 0 0],.cells (c75 v15)])) wm ?_
  rintro⟨v17,v18⟩ o21 h22 h23
  rcases cor h22 with⟨h25,h22⟩|⟨h25,h22⟩
  ·refine gP 1 [re 1,bb h25] [(0,.bp 0 0),(1,(.fn (.func 167) [] [.bp 2 0])),(4,iP v4),(16,eS 22 c75 v0.fc),(17,iP (ln v0.fc)),(18,iP v4),(24,eS 2 c95 v15.fe),(25,iP (ln v15.fe)),(26,iP v17)] (hC v0 v1 v18++[.cells [.bp 0 0],.cells (c75 v15)]) ?_
   refine gM (λ(v26:List G159)=>([(0,.bp 0 0),(1,(.fn (.func 167) [] [.bp 2 0])),(4,iP v4),(16,eS 22 c75 v0.fc),(17,iP (ln v0.fc)),(18,iP v4),(24,eS 2 c95 v15.fe),(25,iP (ln v15.fe)),(26,iP v17)],hC v0 v1 v26++[.cells [.bp 0 0],.cells (c75 v15)],JF140_5_27 v17 v26)) o21 ?_ ?_
   ·rintro v26 h22
    cases h22
    exact g_to [re 2] .normal λ_ hw=>⟨rfl,hw⟩
   refine gB 3 ?_
   obtain⟨v28,h29,h22⟩:=Xa h22
   refine gP 1 [.r (es 1 (kX 2 c95 h29::es 4 [])) [],.r (es 2 (kL 2 c100 v28.ff::es 1 [])) []] [(0,.bp 0 0),(1,(.fn (.func 167) [] [.bp 2 0])),(4,iP v4),(6,iP v17),(16,eS 22 c75 v0.fc),(17,iP (ln v0.fc)),(18,iP v4),(24,eS 2 c95 v15.fe),(25,iP (ln v15.fe)),(26,iP v17),(32,eS 2 c100 v28.ff),(33,iP (ln v28.ff)),(34,iP 0)] (hC v0 v1 v18++[.cells [.bp 0 0],.cells (c75 v15),.cells (c95 v28)]) ?_
   refine gB 4 ?_
   obtain⟨o33,ho33,h22⟩:=Xa h22
   refine gL ho33 (λ(v30,v31)=>([(0,.bp 0 0),(1,(.fn (.func 167) [] [.bp 2 0])),(4,iP v4),(6,iP v17),(16,eS 22 c75 v0.fc),(17,iP (ln v0.fc)),(18,iP v4),(24,eS 2 c95 v15.fe),(25,iP (ln v15.fe)),(26,iP v17),(32,eS 2 c100 v28.ff),(33,iP (ln v28.ff)),(34,iP v30)],hC v0 v1 v31++[.cells [.bp 0 0],.cells (c75 v15),.cells (c95 v28)])) wm ?_
   rintro⟨v30,v31⟩ o34 h35 h36
   rcases cor h35 with⟨h38,h35⟩|⟨h38,h35⟩
   ·refine gP 1 [re 1,bb h38] [(0,.bp 0 0),(1,(.fn (.func 167) [] [.bp 2 0])),(4,iP v4),(6,iP v17),(16,eS 22 c75 v0.fc),(17,iP (ln v0.fc)),(18,iP v4),(24,eS 2 c95 v15.fe),(25,iP (ln v15.fe)),(26,iP v17),(32,eS 2 c100 v28.ff),(33,iP (ln v28.ff)),(34,iP v30)] (hC v0 v1 v31++[.cells [.bp 0 0],.cells (c75 v15),.cells (c95 v28)]) ?_
    refine gM (λ(v39:List G159)=>([(0,.bp 0 0),(1,(.fn (.func 167) [] [.bp 2 0])),(4,iP v4),(6,iP v17),(16,eS 22 c75 v0.fc),(17,iP (ln v0.fc)),(18,iP v4),(24,eS 2 c95 v15.fe),(25,iP (ln v15.fe)),(26,iP v17),(32,eS 2 c100 v28.ff),(33,iP (ln v28.ff)),(34,iP v30)],hC v0 v1 v39++[.cells [.bp 0 0],.cells (c75 v15),.cells (c95 v28)],JF140_5_40 v30 v39)) o34 ?_ ?_
    ·rintro v39 h35
     cases h35
     exact g_to [re 2] .normal λ_ hw=>⟨rfl,hw⟩
    refine gB 5 ?_
    obtain⟨v41,h42,h35⟩:=Xa h35
    refine gP 1 [.r (es 1 (kX 2 c100 h42::es 4 [])) [],.r (es 2 (kL 13 c147 v41.fg::es 1 [])) []] [(0,.bp 0 0),(1,(.fn (.func 167) [] [.bp 2 0])),(4,iP v4),(6,iP v17),(8,iP v30),(16,eS 22 c75 v0.fc),(17,iP (ln v0.fc)),(18,iP v4),(24,eS 2 c95 v15.fe),(25,iP (ln v15.fe)),(26,iP v17),(32,eS 2 c100 v28.ff),(33,iP (ln v28.ff)),(34,iP v30),(40,eS 13 c147 v41.fg),(41,iP (ln v41.fg)),(42,iP 0)] (hC v0 v1 v31++[.cells [.bp 0 0],.cells (c75 v15),.cells (c95 v28),.cells (c100 v41)]) ?_
    refine gB 6 ?_
    obtain⟨o46,ho46,h35⟩:=Xa h35
    refine gL ho46 (λ(v43,v44)=>([(0,.bp 0 0),(1,(.fn (.func 167) [] [.bp 2 0])),(4,iP v4),(6,iP v17),(8,iP v30),(16,eS 22 c75 v0.fc),(17,iP (ln v0.fc)),(18,iP v4),(24,eS 2 c95 v15.fe),(25,iP (ln v15.fe)),(26,iP v17),(32,eS 2 c100 v28.ff),(33,iP (ln v28.ff)),(34,iP v30),(40,eS 13 c147 v41.fg),(41,iP (ln v41.fg)),(42,iP v43)],hC v0 v1 v44++[.cells [.bp 0 0],.cells (c75 v15),.cells (c95 v28),.cells (c100 v41)])) wm ?_
    rintro⟨v43,v44⟩ o47 h48 h49
    rcases cor h48 with⟨h51,h48⟩|⟨h51,h48⟩
    ·obtain⟨v52,h53,v65,h66,v72,h73,h48⟩:=bs3 h48
     cases h48
     exact g_tc 6 [re 1,bb h51,.r (es 1 (kX 13 c147 h53::es 4 [])) [],.r (es 8 (kQ [2,0,1] [] 0 1 (CF167_1 h66)::es 2 [])) (kK [0,1] [] 0 0 (Ya h73)::[]),re 2] .normal λ_ _ hw=>⟨rfl,hw⟩
    cases h48
    obtain rfl:=h49 _ rfl
    exact g_tc 5 [re 1,bb h51] (.exit 6) λ_ _ hw=>Xh (⟨_,_,hw,v44,h35,rfl,rfl⟩)
   cases h35
   obtain rfl:=h36 _ rfl
   exact g_tc 4 [re 1,bb h38] (.exit 4) λ_ _ hw=>Xh (⟨_,_,hw,v31,h22,rfl,rfl⟩)
  cases h22
  obtain rfl:=h23 _ rfl
  exact g_tc 3 [re 1,bb h25] (.exit 2) λ_ _ hw=>Xh (⟨_,_,hw,v18,h9,rfl,rfl⟩)
 cases h9
 obtain rfl:=h10 _ rfl
 obtain rfl:=soj hF
 exact g_rh 3 [re 1,bb h12] (.exit 0) λ_ _ k j=>Xh (hn k j)
theorem CF76_1 {v0 v1 v2 out} (hF:F76_1 v0 v1 v2=some out):ACall Tryz.prog 76 [.bp 0 0] (hC v0 v1 v2) (λq h=>q=(.tup [])/\h=(hC v0 v1 out)):=by
 refine gC Tryz.func76 ?_
 obtain⟨v7,h8,hF⟩:=Xa hF
 obtain rfl:=soj hF
 exact g_rh 2 [re 1,.r (es 2 (kK [0,1,2] [] 0 0 (CF140_5 h8)::[])) []] .normal λ_ _ k j=>hn k j
abbrev ql_0:PV:=(.sl false .full 1 [[(.fn (.func 60) [.bp 1 0] [])],[(.fn (.func 61) [.bp 1 0] [])],[(.fn (.func 62) [.bp 1 0] [])],[(.fn (.func 63) [.bp 1 0] [])],[(.fn (.func 64) [.bp 1 0] [])],[(.fn (.func 65) [.bp 1 0] [])],[(.fn (.func 66) [.bp 1 0] [])],[(.fn (.func 67) [.bp 1 0] [])],[(.fn (.func 68) [.bp 1 0] [])],[(.fn (.func 69) [.bp 1 0] [])],[(.fn (.func 70) [.bp 1 0] [])],[(.fn (.func 71) [.bp 1 0] [])],[(.fn (.func 72) [.bp 1 0] [])],[(.fn (.func 73) [.bp 1 0] [])],[(.fn (.func 74) [.bp 1 0] [])],[(.fn (.func 75) [.bp 1 0] [])],[(.fn (.func 76) [.bp 1 0] [])]])
theorem CF29 {v0 out} (hF:F29 v0=some out):A0 29 [.agg (c27 v0)] (eS 3 c159 out):=by
 refine gC Tryz.func29 ?_
 refine gPW 1 [re 2,re 4] [(3,.bp 1 0)] [.cells (c27 v0),.cells (c27 v0++[iP 0,eS 3 c159 Sl.nil])] [(3,.bp 1 0)] [.cells (c27 v0),.cells (c27 v0++[iP 0,oP 2 3 c159 ([]:List G159)]),.grow (List.length ([]:List G159)) 3] ((WeakS.refl _ _ _).trans ((Yv 3).trans (Ye (cs':=[sP v0.faz,bP v0.fC,eS 6 c68 v0.fh,eS 22 c75 v0.fc,eS 7 c213 v0.fi,eS 2 c58 v0.fJ,iP 0,oP 2 3 c159 ([]:List G159)]) 1 rfl (qc (PSub.refl _) (qc (PSub.refl _) (qc (PSub.refl _) (qc (PSub.refl _) (qc (PSub.refl _) (qc (PSub.refl _) (qc (PSub.refl _) (qc Wf qe))))))))))) ?_
 refine gP 0 [re 36] [(3,.bp 1 0),(4,ql_0)] [.cells (c27 v0),.cells (c27 v0++[iP 0,oP 2 3 c159 ([]:List G159)]),.grow (List.length ([]:List G159)) 3] ?_
 refine gM (λ(x:Int×(List G159))=>match x with|(v1,v2)=>([(3,.bp 1 0)],[.cells (c27 v0),.cells (c27 v0++[iP v1,oP 2 3 c159 v2]),.grow (List.length v2) 3],Wr v1 v2)) out ?_ ?_
 ·rintro⟨v1,v2⟩ hF
  refine Xi [re 5] .ret [(2,oP 2 3 c159 v2)] [.cells (c27 v0),.cells (c27 v0++[iP v1,oP 2 3 c159 v2]),.grow (List.length v2) 3] (λe hw=>?_)
  obtain rfl:=soj hF
  exact Zh (r:=(oP 2 3 c159 v2)) (.inr rfl) hw (by kernel_rfl) (Wk cl159) ⟨rfl,rfl⟩
 refine gP 0 [re 3] [(3,.bp 1 0),(45,ql_0),(46,iP 17),(47,iP 0)] [.cells (c27 v0),.cells (c27 v0++[iP 0,oP 2 3 c159 ([]:List G159)]),.grow (List.length ([]:List G159)) 3] ?_
 refine gB 0 ?_
 refine gU 18 (weak_mk2 (le':=[(3,.bp 1 0),(45,ql_0),(46,iP 17),(47,iP 0)]) (by kernel_rfl)) ?_
 refine Ys ?_
 refine gP 1 [re 1,bT] [(3,.bp 1 0),(45,ql_0),(46,iP 17),(47,iP 0)] [.cells (c27 v0),.cells (c27 v0++[iP 0,oP 2 3 c159 ([]:List G159)]),.grow (List.length ([]:List G159)) 3] ?_
 refine gS ?_
 refine gB 1 ?_
 refine gP 1 [re 5,re 6] [(3,.bp 1 0),(6,(.fn (.func 60) [.bp 1 0] [])),(45,ql_0),(46,iP 17),(47,iP 0)] [.cells (c27 v0),.cells (c27 v0++[iP 1,oP 2 3 c159 ([]:List G159)]),.grow (List.length ([]:List G159)) 3] ?_
 refine gS ?_
 refine gM (λ(_:Unit)=>([(3,.bp 1 0),(6,(.fn (.func 60) [.bp 1 0] [])),(45,ql_0),(46,iP 17),(47,iP 0),(86,bP false)],[.cells (c27 v0),.cells (c27 v0++[iP 1,oP 2 3 c159 ([]:List G159)]),.grow (List.length ([]:List G159)) 3],JF29_4 v0)) out ?_ ?_
 ·rintro⟨⟩ hF
  refine Xi [bF] .normal [(3,.bp 1 0),(6,(.fn (.func 60) [.bp 1 0] [])),(45,ql_0),(46,iP 17),(47,iP 0)] [.cells (c27 v0),.cells (c27 v0++[iP 1,oP 2 3 c159 ([]:List G159)]),.grow (List.length ([]:List G159)) 3] (λe hw=>?_)
  refine⟨_,_,hw,?_⟩
  obtain⟨v8,h9,hF⟩:=Xa hF
  refine Xi [.r (es 1 (kK [1,2] [] 1 0 (CF60_1 h9)::[])) []] .normal [(3,.bp 1 0),(45,ql_0),(46,iP 17),(47,iP 0)] [.cells (c27 v0),.cells (c27 v0++[iP 1,oP 2 3 c159 v8]),.grow (List.length v8) 3] (λe hw=>?_)
  refine⟨_,_,hw,?_⟩
  refine Xi [re 2] .normal [(3,.bp 1 0),(45,ql_0),(46,iP 17),(47,iP 1)] [.cells (c27 v0),.cells (c27 v0++[iP 1,oP 2 3 c159 v8]),.grow (List.length v8) 3] (λe hw=>?_)
  refine⟨_,_,hw,?_⟩
  refine Ys ?_
  refine gP 1 [re 1,bT] [(3,.bp 1 0),(45,ql_0),(46,iP 17),(47,iP 1)] [.cells (c27 v0),.cells (c27 v0++[iP 1,oP 2 3 c159 v8]),.grow (List.length v8) 3] ?_
  refine gS ?_
  refine gB 1 ?_
  refine gP 1 [re 5,re 6] [(3,.bp 1 0),(6,(.fn (.func 61) [.bp 1 0] [])),(45,ql_0),(46,iP 17),(47,iP 1)] [.cells (c27 v0),.cells (c27 v0++[iP 2,oP 2 3 c159 v8]),.grow (List.length v8) 3] ?_
  refine gS ?_
  refine gM (λ(v10:Bool)=>([(3,.bp 1 0),(6,(.fn (.func 61) [.bp 1 0] [])),(45,ql_0),(46,iP 17),(47,iP 1),(86,bP v10)],[.cells (c27 v0),.cells (c27 v0++[iP 2,oP 2 3 c159 v8]),.grow (List.length v8) 3],JF29_11 v8 v0 v10)) out ?_ ?_
  ·rintro v10 hF
   rcases cor hF with⟨h12,hF⟩|⟨h12,hF⟩
   ·exact g_to [bb h12] (.exit 0) λ_ hw=>q_miss rfl (Xh (⟨_,_,hw,(2,v8),hF,rfl,rfl⟩))
   refine Xi [bb h12] .normal [(3,.bp 1 0),(6,(.fn (.func 61) [.bp 1 0] [])),(45,ql_0),(46,iP 17),(47,iP 1)] [.cells (c27 v0),.cells (c27 v0++[iP 2,oP 2 3 c159 v8]),.grow (List.length v8) 3] (λe hw=>?_)
   refine⟨_,_,hw,?_⟩
   obtain⟨v16,h17,hF⟩:=Xa hF
   refine Xi [.r (es 1 (kK [1,2] [] 1 0 (CF61_1 h17)::[])) []] .normal [(3,.bp 1 0),(45,ql_0),(46,iP 17),(47,iP 1)] [.cells (c27 v0),.cells (c27 v0++[iP 2,oP 2 3 c159 v16]),.grow (List.length v16) 3] (λe hw=>?_)
   refine⟨_,_,hw,?_⟩
   refine Xi [re 2] .normal [(3,.bp 1 0),(45,ql_0),(46,iP 17),(47,iP 2)] [.cells (c27 v0),.cells (c27 v0++[iP 2,oP 2 3 c159 v16]),.grow (List.length v16) 3] (λe hw=>?_)
   refine⟨_,_,hw,?_⟩
   refine Ys ?_
   refine gP 1 [re 1,bT] [(3,.bp 1 0),(45,ql_0),(46,iP 17),(47,iP 2)] [.cells (c27 v0),.cells (c27 v0++[iP 2,oP 2 3 c159 v16]),.grow (List.length v16) 3] ?_
   refine gS ?_
   refine gB 1 ?_
   refine gP 1 [re 5,re 6] [(3,.bp 1 0),(6,(.fn (.func 62) [.bp 1 0] [])),(45,ql_0),(46,iP 17),(47,iP 2)] [.cells (c27 v0),.cells (c27 v0++[iP 3,oP 2 3 c159 v16]),.grow (List.length v16) 3] ?_
   refine gS ?_
   refine gM (λ(_:Unit)=>([(3,.bp 1 0),(6,(.fn (.func 62) [.bp 1 0] [])),(45,ql_0),(46,iP 17),(47,iP 2),(86,bP false)],[.cells (c27 v0),.cells (c27 v0++[iP 3,oP 2 3 c159 v16]),.grow (List.length v16) 3],JF29_18 v0 v16)) out ?_ ?_
   ·rintro⟨⟩ hF
    refine Xi [bF] .normal [(3,.bp 1 0),(6,(.fn (.func 62) [.bp 1 0] [])),(45,ql_0),(46,iP 17),(47,iP 2)] [.cells (c27 v0),.cells (c27 v0++[iP 3,oP 2 3 c159 v16]),.grow (List.length v16) 3] (λe hw=>?_)
    refine⟨_,_,hw,?_⟩
    obtain⟨v22,h23,hF⟩:=Xa hF
    refine Xi [.r (es 1 (kK [1,2] [] 1 0 (CF62_1 h23)::[])) []] .normal [(3,.bp 1 0),(45,ql_0),(46,iP 17),(47,iP 2)] [.cells (c27 v0),.cells (c27 v0++[iP 3,oP 2 3 c159 v22]),.grow (List.length v22) 3] (λe hw=>?_)
    refine⟨_,_,hw,?_⟩
    refine Xi [re 2] .normal [(3,.bp 1 0),(45,ql_0),(46,iP 17),(47,iP 3)] [.cells (c27 v0),.cells (c27 v0++[iP 3,oP 2 3 c159 v22]),.grow (List.length v22) 3] (λe hw=>?_)
    refine⟨_,_,hw,?_⟩
    refine Ys ?_
    refine gP 1 [re 1,bT] [(3,.bp 1 0),(45,ql_0),(46,iP 17),(47,iP 3)] [.cells (c27 v0),.cells (c27 v0++[iP 3,oP 2 3 c159 v22]),.grow (List.length v22) 3] ?_
    refine gS ?_
    refine gB 1 ?_
    refine gP 1 [re 5,re 6] [(3,.bp 1 0),(6,(.fn (.func 63) [.bp 1 0] [])),(45,ql_0),(46,iP 17),(47,iP 3)] [.cells (c27 v0),.cells (c27 v0++[iP 4,oP 2 3 c159 v22]),.grow (List.length v22) 3] ?_
    refine gS ?_
    refine gM (λ(_:Unit)=>([(3,.bp 1 0),(6,(.fn (.func 63) [.bp 1 0] [])),(45,ql_0),(46,iP 17),(47,iP 3),(86,bP false)],[.cells (c27 v0),.cells (c27 v0++[iP 4,oP 2 3 c159 v22]),.grow (List.length v22) 3],JF29_24 v0 v22)) out ?_ ?_
    ·rintro⟨⟩ hF
     refine Xi [bF] .normal [(3,.bp 1 0),(6,(.fn (.func 63) [.bp 1 0] [])),(45,ql_0),(46,iP 17),(47,iP 3)] [.cells (c27 v0),.cells (c27 v0++[iP 4,oP 2 3 c159 v22]),.grow (List.length v22) 3] (λe hw=>?_)
     refine⟨_,_,hw,?_⟩
     obtain⟨v28,h29,hF⟩:=Xa hF
     refine Xi [.r (es 1 (kK [1,2] [] 1 0 (CF63_1 h29)::[])) []] .normal [(3,.bp 1 0),(45,ql_0),(46,iP 17),(47,iP 3)] [.cells (c27 v0),.cells (c27 v0++[iP 4,oP 2 3 c159 v28]),.grow (List.length v28) 3] (λe hw=>?_)
     refine⟨_,_,hw,?_⟩
     refine Xi [re 2] .normal [(3,.bp 1 0),(45,ql_0),(46,iP 17),(47,iP 4)] [.cells (c27 v0),.cells (c27 v0++[iP 4,oP 2 3 c159 v28]),.grow (List.length v28) 3] (λe hw=>?_)
     refine⟨_,_,hw,?_⟩
     refine Ys ?_
     refine gP 1 [re 1,bT] [(3,.bp 1 0),(45,ql_0),(46,iP 17),(47,iP 4)] [.cells (c27 v0),.cells (c27 v0++[iP 4,oP 2 3 c159 v28]),.grow (List.length v28) 3] ?_
     refine gS ?_
     refine gB 1 ?_
     refine gP 1 [re 5,re 6] [(3,.bp 1 0),(6,(.fn (.func 64) [.bp 1 0] [])),(45,ql_0),(46,iP 17),(47,iP 4)] [.cells (c27 v0),.cells (c27 v0++[iP 5,oP 2 3 c159 v28]),.grow (List.length v28) 3] ?_
     refine gS ?_
     refine gM (λ(_:Unit)=>([(3,.bp 1 0),(6,(.fn (.func 64) [.bp 1 0] [])),(45,ql_0),(46,iP 17),(47,iP 4),(86,bP false)],[.cells (c27 v0),.cells (c27 v0++[iP 5,oP 2 3 c159 v28]),.grow (List.length v28) 3],JF29_30 v0 v28)) out ?_ ?_
     ·rintro⟨⟩ hF
      refine Xi [bF] .normal [(3,.bp 1 0),(6,(.fn (.func 64) [.bp 1 0] [])),(45,ql_0),(46,iP 17),(47,iP 4)] [.cells (c27 v0),.cells (c27 v0++[iP 5,oP 2 3 c159 v28]),.grow (List.length v28) 3] (λe hw=>?_)
      refine⟨_,_,hw,?_⟩
      obtain⟨v34,h35,hF⟩:=Xa hF
      refine Xi [.r (es 1 (kK [1,2] [] 1 0 (CF64_1 h35)::[])) []] .normal [(3,.bp 1 0),(45,ql_0),(46,iP 17),(47,iP 4)] [.cells (c27 v0),.cells (c27 v0++[iP 5,oP 2 3 c159 v34]),.grow (List.length v34) 3] (λe hw=>?_)
      refine⟨_,_,hw,?_⟩
      refine Xi [re 2] .normal [(3,.bp 1 0),(45,ql_0),(46,iP 17),(47,iP 5)] [.cells (c27 v0),.cells (c27 v0++[iP 5,oP 2 3 c159 v34]),.grow (List.length v34) 3] (λe hw=>?_)
      refine⟨_,_,hw,?_⟩
      refine Ys ?_
      refine gP 1 [re 1,bT] [(3,.bp 1 0),(45,ql_0),(46,iP 17),(47,iP 5)] [.cells (c27 v0),.cells (c27 v0++[iP 5,oP 2 3 c159 v34]),.grow (List.length v34) 3] ?_
      refine gS ?_
      refine gB 1 ?_
      refine gP 1 [re 5,re 6] [(3,.bp 1 0),(6,(.fn (.func 65) [.bp 1 0] [])),(45,ql_0),(46,iP 17),(47,iP 5)] [.cells (c27 v0),.cells (c27 v0++[iP 6,oP 2 3 c159 v34]),.grow (List.length v34) 3] ?_
      refine gS ?_
      refine gM (λ(_:Unit)=>([(3,.bp 1 0),(6,(.fn (.func 65) [.bp 1 0] [])),(45,ql_0),(46,iP 17),(47,iP 5),(86,bP false)],[.cells (c27 v0),.cells (c27 v0++[iP 6,oP 2 3 c159 v34]),.grow (List.length v34) 3],JF29_36 v0 v34)) out ?_ ?_
      ·rintro⟨⟩ hF
       refine Xi [bF] .normal [(3,.bp 1 0),(6,(.fn (.func 65) [.bp 1 0] [])),(45,ql_0),(46,iP 17),(47,iP 5)] [.cells (c27 v0),.cells (c27 v0++[iP 6,oP 2 3 c159 v34]),.grow (List.length v34) 3] (λe hw=>?_)
       refine⟨_,_,hw,?_⟩
       obtain⟨v40,h41,hF⟩:=Xa hF
       refine Xi [.r (es 1 (kK [1,2] [] 1 0 (CF65_1 h41)::[])) []] .normal [(3,.bp 1 0),(45,ql_0),(46,iP 17),(47,iP 5)] [.cells (c27 v0),.cells (c27 v0++[iP 6,oP 2 3 c159 v40]),.grow (List.length v40) 3] (λe hw=>?_)
       refine⟨_,_,hw,?_⟩
       refine Xi [re 2] .normal [(3,.bp 1 0),(45,ql_0),(46,iP 17),(47,iP 6)] [.cells (c27 v0),.cells (c27 v0++[iP 6,oP 2 3 c159 v40]),.grow (List.length v40) 3] (λe hw=>?_)
       refine⟨_,_,hw,?_⟩
       refine Ys ?_
       refine gP 1 [re 1,bT] [(3,.bp 1 0),(45,ql_0),(46,iP 17),(47,iP 6)] [.cells (c27 v0),.cells (c27 v0++[iP 6,oP 2 3 c159 v40]),.grow (List.length v40) 3] ?_
       refine gS ?_
       refine gB 1 ?_
       refine gP 1 [re 5,re 6] [(3,.bp 1 0),(6,(.fn (.func 66) [.bp 1 0] [])),(45,ql_0),(46,iP 17),(47,iP 6)] [.cells (c27 v0),.cells (c27 v0++[iP 7,oP 2 3 c159 v40]),.grow (List.length v40) 3] ?_
       refine gS ?_
       refine gM (λ(_:Unit)=>([(3,.bp 1 0),(6,(.fn (.func 66) [.bp 1 0] [])),(45,ql_0),(46,iP 17),(47,iP 6),(86,bP false)],[.cells (c27 v0),.cells (c27 v0++[iP 7,oP 2 3 c159 v40]),.grow (List.length v40) 3],JF29_42 v0 v40)) out ?_ ?_
       ·rintro⟨⟩ hF
        refine Xi [bF] .normal [(3,.bp 1 0),(6,(.fn (.func 66) [.bp 1 0] [])),(45,ql_0),(46,iP 17),(47,iP 6)] [.cells (c27 v0),.cells (c27 v0++[iP 7,oP 2 3 c159 v40]),.grow (List.length v40) 3] (λe hw=>?_)
        refine⟨_,_,hw,?_⟩
        obtain⟨v46,h47,hF⟩:=Xa hF
        refine Xi [.r (es 1 (kK [1,2] [] 1 0 (CF66_1 h47)::[])) []] .normal [(3,.bp 1 0),(45,ql_0),(46,iP 17),(47,iP 6)] [.cells (c27 v0),.cells (c27 v0++[iP 7,oP 2 3 c159 v46]),.grow (List.length v46) 3] (λe hw=>?_)
        refine⟨_,_,hw,?_⟩
        refine Xi [re 2] .normal [(3,.bp 1 0),(45,ql_0),(46,iP 17),(47,iP 7)] [.cells (c27 v0),.cells (c27 v0++[iP 7,oP 2 3 c159 v46]),.grow (List.length v46) 3] (λe hw=>?_)
        refine⟨_,_,hw,?_⟩
        refine Ys ?_
        refine gP 1 [re 1,bT] [(3,.bp 1 0),(45,ql_0),(46,iP 17),(47,iP 7)] [.cells (c27 v0),.cells (c27 v0++[iP 7,oP 2 3 c159 v46]),.grow (List.length v46) 3] ?_
        refine gS ?_
        refine gB 1 ?_
        refine gP 1 [re 5,re 6] [(3,.bp 1 0),(6,(.fn (.func 67) [.bp 1 0] [])),(45,ql_0),(46,iP 17),(47,iP 7)] [.cells (c27 v0),.cells (c27 v0++[iP 8,oP 2 3 c159 v46]),.grow (List.length v46) 3] ?_
        refine gS ?_
        refine gM (λ(_:Unit)=>([(3,.bp 1 0),(6,(.fn (.func 67) [.bp 1 0] [])),(45,ql_0),(46,iP 17),(47,iP 7),(86,bP false)],[.cells (c27 v0),.cells (c27 v0++[iP 8,oP 2 3 c159 v46]),.grow (List.length v46) 3],JF29_48 v0 v46)) out ?_ ?_
        ·rintro⟨⟩ hF
         refine Xi [bF] .normal [(3,.bp 1 0),(6,(.fn (.func 67) [.bp 1 0] [])),(45,ql_0),(46,iP 17),(47,iP 7)] [.cells (c27 v0),.cells (c27 v0++[iP 8,oP 2 3 c159 v46]),.grow (List.length v46) 3] (λe hw=>?_)
         refine⟨_,_,hw,?_⟩
         obtain⟨v52,h53,hF⟩:=Xa hF
         refine Xi [.r (es 1 (kK [1,2] [] 1 0 (CF67_1 h53)::[])) []] .normal [(3,.bp 1 0),(45,ql_0),(46,iP 17),(47,iP 7)] [.cells (c27 v0),.cells (c27 v0++[iP 8,oP 2 3 c159 v52]),.grow (List.length v52) 3] (λe hw=>?_)
         refine⟨_,_,hw,?_⟩
         refine Xi [re 2] .normal [(3,.bp 1 0),(45,ql_0),(46,iP 17),(47,iP 8)] [.cells (c27 v0),.cells (c27 v0++[iP 8,oP 2 3 c159 v52]),.grow (List.length v52) 3] (λe hw=>?_)
         refine⟨_,_,hw,?_⟩
         refine Ys ?_
         refine gP 1 [re 1,bT] [(3,.bp 1 0),(45,ql_0),(46,iP 17),(47,iP 8)] [.cells (c27 v0),.cells (c27 v0++[iP 8,oP 2 3 c159 v52]),.grow (List.length v52) 3] ?_
         refine gS ?_
         refine gB 1 ?_
         refine gP 1 [re 5,re 6] [(3,.bp 1 0),(6,(.fn (.func 68) [.bp 1 0] [])),(45,ql_0),(46,iP 17),(47,iP 8)] [.cells (c27 v0),.cells (c27 v0++[iP 9,oP 2 3 c159 v52]),.grow (List.length v52) 3] ?_
         refine gS ?_
         refine gM (λ(_:Unit)=>([(3,.bp 1 0),(6,(.fn (.func 68) [.bp 1 0] [])),(45,ql_0),(46,iP 17),(47,iP 8),(86,bP false)],[.cells (c27 v0),.cells (c27 v0++[iP 9,oP 2 3 c159 v52]),.grow (List.length v52) 3],JF29_54 v0 v52)) out ?_ ?_
         ·rintro⟨⟩ hF
          refine Xi [bF] .normal [(3,.bp 1 0),(6,(.fn (.func 68) [.bp 1 0] [])),(45,ql_0),(46,iP 17),(47,iP 8)] [.cells (c27 v0),.cells (c27 v0++[iP 9,oP 2 3 c159 v52]),.grow (List.length v52) 3] (λe hw=>?_)
          refine⟨_,_,hw,?_⟩
          obtain⟨v58,h59,hF⟩:=Xa hF
          refine Xi [.r (es 1 (kK [1,2] [] 1 0 (CF68_1 h59)::[])) []] .normal [(3,.bp 1 0),(45,ql_0),(46,iP 17),(47,iP 8)] [.cells (c27 v0),.cells (c27 v0++[iP 9,oP 2 3 c159 v58]),.grow (List.length v58) 3] (λe hw=>?_)
          refine⟨_,_,hw,?_⟩
          refine Xi [re 2] .normal [(3,.bp 1 0),(45,ql_0),(46,iP 17),(47,iP 9)] [.cells (c27 v0),.cells (c27 v0++[iP 9,oP 2 3 c159 v58]),.grow (List.length v58) 3] (λe hw=>?_)
          refine⟨_,_,hw,?_⟩
          refine Ys ?_
          refine gP 1 [re 1,bT] [(3,.bp 1 0),(45,ql_0),(46,iP 17),(47,iP 9)] [.cells (c27 v0),.cells (c27 v0++[iP 9,oP 2 3 c159 v58]),.grow (List.length v58) 3] ?_
          refine gS ?_
          refine gB 1 ?_
          refine gP 1 [re 5,re 6] [(3,.bp 1 0),(6,(.fn (.func 69) [.bp 1 0] [])),(45,ql_0),(46,iP 17),(47,iP 9)] [.cells (c27 v0),.cells (c27 v0++[iP 10,oP 2 3 c159 v58]),.grow (List.length v58) 3] ?_
          refine gS ?_
          refine gM (λ(v60:Bool)=>([(3,.bp 1 0),(6,(.fn (.func 69) [.bp 1 0] [])),(45,ql_0),(46,iP 17),(47,iP 9),(86,bP v60)],[.cells (c27 v0),.cells (c27 v0++[iP 10,oP 2 3 c159 v58]),.grow (List.length v58) 3],JF29_61 v58 v0 v60)) out ?_ ?_
          ·rintro v60 hF
           rcases cor hF with⟨h62,hF⟩|⟨h62,hF⟩
           ·exact g_to [bb h62] (.exit 0) λ_ hw=>q_miss rfl (Xh (⟨_,_,hw,(10,v58),hF,rfl,rfl⟩))
           refine Xi [bb h62] .normal [(3,.bp 1 0),(6,(.fn (.func 69) [.bp 1 0] [])),(45,ql_0),(46,iP 17),(47,iP 9)] [.cells (c27 v0),.cells (c27 v0++[iP 10,oP 2 3 c159 v58]),.grow (List.length v58) 3] (λe hw=>?_)
           refine⟨_,_,hw,?_⟩
           obtain⟨v66,h67,hF⟩:=Xa hF
           refine Xi [.r (es 1 (kK [1,2] [] 1 0 (CF69_1 h67)::[])) []] .normal [(3,.bp 1 0),(45,ql_0),(46,iP 17),(47,iP 9)] [.cells (c27 v0),.cells (c27 v0++[iP 10,oP 2 3 c159 v66]),.grow (List.length v66) 3] (λe hw=>?_)
           refine⟨_,_,hw,?_⟩
           refine Xi [re 2] .normal [(3,.bp 1 0),(45,ql_0),(46,iP 17),(47,iP 10)] [.cells (c27 v0),.cells (c27 v0++[iP 10,oP 2 3 c159 v66]),.grow (List.length v66) 3] (λe hw=>?_)
           refine⟨_,_,hw,?_⟩
           refine Ys ?_
           refine gP 1 [re 1,bT] [(3,.bp 1 0),(45,ql_0),(46,iP 17),(47,iP 10)] [.cells (c27 v0),.cells (c27 v0++[iP 10,oP 2 3 c159 v66]),.grow (List.length v66) 3] ?_
           refine gS ?_
           refine gB 1 ?_
           refine gP 1 [re 5,re 6] [(3,.bp 1 0),(6,(.fn (.func 70) [.bp 1 0] [])),(45,ql_0),(46,iP 17),(47,iP 10)] [.cells (c27 v0),.cells (c27 v0++[iP 11,oP 2 3 c159 v66]),.grow (List.length v66) 3] ?_
           refine gS ?_
           refine gM (λ(v68:Bool)=>([(3,.bp 1 0),(6,(.fn (.func 70) [.bp 1 0] [])),(45,ql_0),(46,iP 17),(47,iP 10),(86,bP v68)],[.cells (c27 v0),.cells (c27 v0++[iP 11,oP 2 3 c159 v66]),.grow (List.length v66) 3],JF29_69 v66 v0 v68)) out ?_ ?_
           ·rintro v68 hF
            rcases cor hF with⟨h70,hF⟩|⟨h70,hF⟩
            ·exact g_to [bb h70] (.exit 0) λ_ hw=>q_miss rfl (Xh (⟨_,_,hw,(11,v66),hF,rfl,rfl⟩))
            refine Xi [bb h70] .normal [(3,.bp 1 0),(6,(.fn (.func 70) [.bp 1 0] [])),(45,ql_0),(46,iP 17),(47,iP 10)] [.cells (c27 v0),.cells (c27 v0++[iP 11,oP 2 3 c159 v66]),.grow (List.length v66) 3] (λe hw=>?_)
            refine⟨_,_,hw,?_⟩
            obtain⟨v74,h75,hF⟩:=Xa hF
            refine Xi [.r (es 1 (kK [1,2] [] 1 0 (CF70_1 h75)::[])) []] .normal [(3,.bp 1 0),(45,ql_0),(46,iP 17),(47,iP 10)] [.cells (c27 v0),.cells (c27 v0++[iP 11,oP 2 3 c159 v74]),.grow (List.length v74) 3] (λe hw=>?_)
            refine⟨_,_,hw,?_⟩
            refine Xi [re 2] .normal [(3,.bp 1 0),(45,ql_0),(46,iP 17),(47,iP 11)] [.cells (c27 v0),.cells (c27 v0++[iP 11,oP 2 3 c159 v74]),.grow (List.length v74) 3] (λe hw=>?_)
            refine⟨_,_,hw,?_⟩
            refine Ys ?_
            refine gP 1 [re 1,bT] [(3,.bp 1 0),(45,ql_0),(46,iP 17),(47,iP 11)] [.cells (c27 v0),.cells (c27 v0++[iP 11,oP 2 3 c159 v74]),.grow (List.length v74) 3] ?_
            refine gS ?_
            refine gB 1 ?_
            refine gP 1 [re 5,re 6] [(3,.bp 1 0),(6,(.fn (.func 71) [.bp 1 0] [])),(45,ql_0),(46,iP 17),(47,iP 11)] [.cells (c27 v0),.cells (c27 v0++[iP 12,oP 2 3 c159 v74]),.grow (List.length v74) 3] ?_
            refine gS ?_
            refine gM (λ(v76:Bool)=>([(3,.bp 1 0),(6,(.fn (.func 71) [.bp 1 0] [])),(45,ql_0),(46,iP 17),(47,iP 11),(86,bP v76)],[.cells (c27 v0),.cells (c27 v0++[iP 12,oP 2 3 c159 v74]),.grow (List.length v74) 3],JF29_77 v74 v0 v76)) out ?_ ?_
            ·rintro v76 hF
             rcases cor hF with⟨h78,hF⟩|⟨h78,hF⟩
             ·exact g_to [bb h78] (.exit 0) λ_ hw=>q_miss rfl (Xh (⟨_,_,hw,(12,v74),hF,rfl,rfl⟩))
             refine Xi [bb h78] .normal [(3,.bp 1 0),(6,(.fn (.func 71) [.bp 1 0] [])),(45,ql_0),(46,iP 17),(47,iP 11)] [.cells (c27 v0),.cells (c27 v0++[iP 12,oP 2 3 c159 v74]),.grow (List.length v74) 3] (λe hw=>?_)
             refine⟨_,_,hw,?_⟩
             obtain⟨v82,h83,hF⟩:=Xa hF
             refine Xi [.r (es 1 (kK [1,2] [] 1 0 (CF71_1 h83)::[])) []] .normal [(3,.bp 1 0),(45,ql_0),(46,iP 17),(47,iP 11)] [.cells (c27 v0),.cells (c27 v0++[iP 12,oP 2 3 c159 v82]),.grow (List.length v82) 3] (λe hw=>?_)
             refine⟨_,_,hw,?_⟩
             refine Xi [re 2] .normal [(3,.bp 1 0),(45,ql_0),(46,iP 17),(47,iP 12)] [.cells (c27 v0),.cells (c27 v0++[iP 12,oP 2 3 c159 v82]),.grow (List.length v82) 3] (λe hw=>?_)
             refine⟨_,_,hw,?_⟩
             refine Ys ?_
             refine gP 1 [re 1,bT] [(3,.bp 1 0),(45,ql_0),(46,iP 17),(47,iP 12)] [.cells (c27 v0),.cells (c27 v0++[iP 12,oP 2 3 c159 v82]),.grow (List.length v82) 3] ?_
             refine gS ?_
             refine gB 1 ?_
             refine gP 1 [re 5,re 6] [(3,.bp 1 0),(6,(.fn (.func 72) [.bp 1 0] [])),(45,ql_0),(46,iP 17),(47,iP 12)] [.cells (c27 v0),.cells (c27 v0++[iP 13,oP 2 3 c159 v82]),.grow (List.length v82) 3] ?_
             refine gS ?_
             refine gM (λ(v84:Bool)=>([(3,.bp 1 0),(6,(.fn (.func 72) [.bp 1 0] [])),(45,ql_0),(46,iP 17),(47,iP 12),(86,bP v84)],[.cells (c27 v0),.cells (c27 v0++[iP 13,oP 2 3 c159 v82]),.grow (List.length v82) 3],JF29_85 v82 v0 v84)) out ?_ ?_
             ·rintro v84 hF
              rcases cor hF with⟨h86,hF⟩|⟨h86,hF⟩
              ·exact g_to [bb h86] (.exit 0) λ_ hw=>q_miss rfl (Xh (⟨_,_,hw,(13,v82),hF,rfl,rfl⟩))
              refine Xi [bb h86] .normal [(3,.bp 1 0),(6,(.fn (.func 72) [.bp 1 0] [])),(45,ql_0),(46,iP 17),(47,iP 12)] [.cells (c27 v0),.cells (c27 v0++[iP 13,oP 2 3 c159 v82]),.grow (List.length v82) 3] (λe hw=>?_)
              refine⟨_,_,hw,?_⟩
              obtain⟨v90,h91,hF⟩:=Xa hF
              refine Xi [.r (es 1 (kK [1,2] [] 1 0 (CF72_1 h91)::[])) []] .normal [(3,.bp 1 0),(45,ql_0),(46,iP 17),(47,iP 12)] [.cells (c27 v0),.cells (c27 v0++[iP 13,oP 2 3 c159 v90]),.grow (List.length v90) 3] (λe hw=>?_)
              refine⟨_,_,hw,?_⟩
              refine Xi [re 2] .normal [(3,.bp 1 0),(45,ql_0),(46,iP 17),(47,iP 13)] [.cells (c27 v0),.cells (c27 v0++[iP 13,oP 2 3 c159 v90]),.grow (List.length v90) 3] (λe hw=>?_)
              refine⟨_,_,hw,?_⟩
              refine Ys ?_
              refine gP 1 [re 1,bT] [(3,.bp 1 0),(45,ql_0),(46,iP 17),(47,iP 13)] [.cells (c27 v0),.cells (c27 v0++[iP 13,oP 2 3 c159 v90]),.grow (List.length v90) 3] ?_
              refine gS ?_
              refine gB 1 ?_
              refine gP 1 [re 5,re 6] [(3,.bp 1 0),(6,(.fn (.func 73) [.bp 1 0] [])),(45,ql_0),(46,iP 17),(47,iP 13)] [.cells (c27 v0),.cells (c27 v0++[iP 14,oP 2 3 c159 v90]),.grow (List.length v90) 3] ?_
              refine gS ?_
              refine gM (λ(v92:Bool)=>([(3,.bp 1 0),(6,(.fn (.func 73) [.bp 1 0] [])),(45,ql_0),(46,iP 17),(47,iP 13),(86,bP v92)],[.cells (c27 v0),.cells (c27 v0++[iP 14,oP 2 3 c159 v90]),.grow (List.length v90) 3],JF29_93 v90 v0 v92)) out ?_ ?_
              ·rintro v92 hF
               rcases cor hF with⟨h94,hF⟩|⟨h94,hF⟩
               ·exact g_to [bb h94] (.exit 0) λ_ hw=>q_miss rfl (Xh (⟨_,_,hw,(14,v90),hF,rfl,rfl⟩))
               refine Xi [bb h94] .normal [(3,.bp 1 0),(6,(.fn (.func 73) [.bp 1 0] [])),(45,ql_0),(46,iP 17),(47,iP 13)] [.cells (c27 v0),.cells (c27 v0++[iP 14,oP 2 3 c159 v90]),.grow (List.length v90) 3] (λe hw=>?_)
               refine⟨_,_,hw,?_⟩
               obtain⟨v98,h99,hF⟩:=Xa hF
               refine Xi [.r (es 1 (kK [1,2] [] 1 0 (CF73_1 h99)::[])) []] .normal [(3,.bp 1 0),(45,ql_0),(46,iP 17),(47,iP 13)] [.cells (c27 v0),.cells (c27 v0++[iP 14,oP 2 3 c159 v98]),.grow (List.length v98) 3] (λe hw=>?_)
               refine⟨_,_,hw,?_⟩
               refine Xi [re 2] .normal [(3,.bp 1 0),(45,ql_0),(46,iP 17),(47,iP 14)] [.cells (c27 v0),.cells (c27 v0++[iP 14,oP 2 3 c159 v98]),.grow (List.length v98) 3] (λe hw=>?_)
               refine⟨_,_,hw,?_⟩
               refine Ys ?_
               refine gP 1 [re 1,bT] [(3,.bp 1 0),(45,ql_0),(46,iP 17),(47,iP 14)] [.cells (c27 v0),.cells (c27 v0++[iP 14,oP 2 3 c159 v98]),.grow (List.length v98) 3] ?_
               refine gS ?_
               refine gB 1 ?_
               refine gP 1 [re 5,re 6] [(3,.bp 1 0),(6,(.fn (.func 74) [.bp 1 0] [])),(45,ql_0),(46,iP 17),(47,iP 14)] [.cells (c27 v0),.cells (c27 v0++[iP 15,oP 2 3 c159 v98]),.grow (List.length v98) 3] ?_
               refine gS ?_
               refine gM (λ(v100:Bool)=>([(3,.bp 1 0),(6,(.fn (.func 74) [.bp 1 0] [])),(45,ql_0),(46,iP 17),(47,iP 14),(86,bP v100)],[.cells (c27 v0),.cells (c27 v0++[iP 15,oP 2 3 c159 v98]),.grow (List.length v98) 3],JF29_101 v98 v0 v100)) out ?_ ?_
               ·rintro v100 hF
                rcases cor hF with⟨h102,hF⟩|⟨h102,hF⟩
                ·exact g_to [bb h102] (.exit 0) λ_ hw=>q_miss rfl (Xh (⟨_,_,hw,(15,v98),hF,rfl,rfl⟩))
                refine Xi [bb h102] .normal [(3,.bp 1 0),(6,(.fn (.func 74) [.bp 1 0] [])),(45,ql_0),(46,iP 17),(47,iP 14)] [.cells (c27 v0),.cells (c27 v0++[iP 15,oP 2 3 c159 v98]),.grow (List.length v98) 3] (λe hw=>?_)
                refine⟨_,_,hw,?_⟩
                obtain⟨v106,h107,hF⟩:=Xa hF
                refine Xi [.r (es 1 (kK [1,2] [] 1 0 (CF74_1 h107)::[])) []] .normal [(3,.bp 1 0),(45,ql_0),(46,iP 17),(47,iP 14)] [.cells (c27 v0),.cells (c27 v0++[iP 15,oP 2 3 c159 v106]),.grow (List.length v106) 3] (λe hw=>?_)
                refine⟨_,_,hw,?_⟩
                refine Xi [re 2] .normal [(3,.bp 1 0),(45,ql_0),(46,iP 17),(47,iP 15)] [.cells (c27 v0),.cells (c27 v0++[iP 15,oP 2 3 c159 v106]),.grow (List.length v106) 3] (λe hw=>?_)
                refine⟨_,_,hw,?_⟩
                refine Ys ?_
                refine gP 1 [re 1,bT] [(3,.bp 1 0),(45,ql_0),(46,iP 17),(47,iP 15)] [.cells (c27 v0),.cells (c27 v0++[iP 15,oP 2 3 c159 v106]),.grow (List.length v106) 3] ?_
                refine gS ?_
                refine gB 1 ?_
                refine gP 1 [re 5,re 6] [(3,.bp 1 0),(6,(.fn (.func 75) [.bp 1 0] [])),(45,ql_0),(46,iP 17),(47,iP 15)] [.cells (c27 v0),.cells (c27 v0++[iP 16,oP 2 3 c159 v106]),.grow (List.length v106) 3] ?_
                refine gS ?_
                refine gM (λ(v108:Bool)=>([(3,.bp 1 0),(6,(.fn (.func 75) [.bp 1 0] [])),(45,ql_0),(46,iP 17),(47,iP 15),(86,bP v108)],[.cells (c27 v0),.cells (c27 v0++[iP 16,oP 2 3 c159 v106]),.grow (List.length v106) 3],JF29_109 v106 v0 v108)) out ?_ ?_
                ·rintro v108 hF
                 rcases cor hF with⟨h110,hF⟩|⟨h110,hF⟩
                 ·exact g_to [bb h110] (.exit 0) λ_ hw=>q_miss rfl (Xh (⟨_,_,hw,(16,v106),hF,rfl,rfl⟩))
                 refine Xi [bb h110] .normal [(3,.bp 1 0),(6,(.fn (.func 75) [.bp 1 0] [])),(45,ql_0),(46,iP 17),(47,iP 15)] [.cells (c27 v0),.cells (c27 v0++[iP 16,oP 2 3 c159 v106]),.grow (List.length v106) 3] (λe hw=>?_)
                 refine⟨_,_,hw,?_⟩
                 obtain⟨v114,h115,hF⟩:=Xa hF
                 refine Xi [.r (es 1 (kK [1,2] [] 1 0 (CF75_1 h115)::[])) []] .normal [(3,.bp 1 0),(45,ql_0),(46,iP 17),(47,iP 15)] [.cells (c27 v0),.cells (c27 v0++[iP 16,oP 2 3 c159 v114]),.grow (List.length v114) 3] (λe hw=>?_)
                 refine⟨_,_,hw,?_⟩
                 refine Xi [re 2] .normal [(3,.bp 1 0),(45,ql_0),(46,iP 17),(47,iP 16)] [.cells (c27 v0),.cells (c27 v0++[iP 16,oP 2 3 c159 v114]),.grow (List.length v114) 3] (λe hw=>?_)
                 refine⟨_,_,hw,?_⟩
                 refine Ys ?_
                 refine gP 1 [re 1,bT] [(3,.bp 1 0),(45,ql_0),(46,iP 17),(47,iP 16)] [.cells (c27 v0),.cells (c27 v0++[iP 16,oP 2 3 c159 v114]),.grow (List.length v114) 3] ?_
                 refine gS ?_
                 refine gB 1 ?_
                 refine gP 1 [re 5,re 6] [(3,.bp 1 0),(6,(.fn (.func 76) [.bp 1 0] [])),(45,ql_0),(46,iP 17),(47,iP 16)] [.cells (c27 v0),.cells (c27 v0++[iP 17,oP 2 3 c159 v114]),.grow (List.length v114) 3] ?_
                 refine gS ?_
                 refine gM (λ(v116:Bool)=>([(3,.bp 1 0),(6,(.fn (.func 76) [.bp 1 0] [])),(45,ql_0),(46,iP 17),(47,iP 16),(86,bP v116)],[.cells (c27 v0),.cells (c27 v0++[iP 17,oP 2 3 c159 v114]),.grow (List.length v114) 3],JF29_117 v114 v0 v116)) out ?_ ?_
                 ·rintro v116 hF
                  rcases cor hF with⟨h118,hF⟩|⟨h118,hF⟩
                  ·exact g_to [bb h118] (.exit 0) λ_ hw=>q_miss rfl (Xh (⟨_,_,hw,(17,v114),hF,rfl,rfl⟩))
                  refine Xi [bb h118] .normal [(3,.bp 1 0),(6,(.fn (.func 76) [.bp 1 0] [])),(45,ql_0),(46,iP 17),(47,iP 16)] [.cells (c27 v0),.cells (c27 v0++[iP 17,oP 2 3 c159 v114]),.grow (List.length v114) 3] (λe hw=>?_)
                  refine⟨_,_,hw,?_⟩
                  obtain⟨v122,h123,hF⟩:=Xa hF
                  refine Xi [.r (es 1 (kK [1,2] [] 1 0 (CF76_1 h123)::[])) []] .normal [(3,.bp 1 0),(45,ql_0),(46,iP 17),(47,iP 16)] [.cells (c27 v0),.cells (c27 v0++[iP 17,oP 2 3 c159 v122]),.grow (List.length v122) 3] (λe hw=>?_)
                  refine⟨_,_,hw,?_⟩
                  refine Xi [re 2] .normal [(3,.bp 1 0),(45,ql_0),(46,iP 17),(47,iP 17)] [.cells (c27 v0),.cells (c27 v0++[iP 17,oP 2 3 c159 v122]),.grow (List.length v122) 3] (λe hw=>?_)
                  refine⟨_,_,hw,?_⟩
                  refine Ys ?_
                  exact g_to [re 1,bF] (.exit 0) λ_ hw=>Xh (⟨_,_,hw,(17,v122),hF,rfl,rfl⟩)
                 rcases cor hF with⟨h124,hF⟩|⟨h124,hF⟩
                 ·obtain⟨v125,h126,hF⟩:=Xa hF
                  exact g_to [.r (es 4 (kLA 2 3 c159 v114::es 2 (rq 6 (bq h124) (rq 6 bqF (rq 4 bqT (bqT::kXA 2 3 c159 h126::rq 3 bqT (bq (t:=false) (b:=false) rfl::es 1 (bq h124::es 1 (kPt (bP (decide (v125.fad<10))) (bP false) h124::[]))))))))) []] .normal λ_ hw=>⟨_,_,hw,decide (v125.fad<10),hF,rfl,rfl⟩
                 exact g_to [.r (es 4 (kLA 2 3 c159 v114::es 2 (rp 7 (bq h124) (kPf (.tup []) (bP false) h124::[])))) []] .normal λ_ hw=>⟨_,_,hw,false,hF,rfl,rfl⟩
                rcases cor hF with⟨h127,hF⟩|⟨h127,hF⟩
                ·obtain⟨v128,h129,hF⟩:=Xa hF
                 exact g_to [.r (es 4 (kLA 2 3 c159 v106::es 2 (rq 6 (bq h127) (rq 6 bqF (rq 4 bqT (bqT::kXA 2 3 c159 h129::rq 3 bqT (bq (t:=false) (b:=false) rfl::es 1 (bq h127::es 1 (kPt (bP (decide (v128.fad<10))) (bP false) h127::[]))))))))) []] .normal λ_ hw=>⟨_,_,hw,decide (v128.fad<10),hF,rfl,rfl⟩
                exact g_to [.r (es 4 (kLA 2 3 c159 v106::es 2 (rp 7 (bq h127) (kPf (.tup []) (bP false) h127::[])))) []] .normal λ_ hw=>⟨_,_,hw,false,hF,rfl,rfl⟩
               rcases cor hF with⟨h130,hF⟩|⟨h130,hF⟩
               ·obtain⟨v131,h132,hF⟩:=Xa hF
                exact g_to [.r (es 4 (kLA 2 3 c159 v98::es 2 (rq 6 (bq h130) (rq 6 bqF (rq 4 bqT (bqT::kXA 2 3 c159 h132::rq 3 bqT (bq (t:=false) (b:=false) rfl::es 1 (bq h130::es 1 (kPt (bP (decide (v131.fad<10))) (bP false) h130::[]))))))))) []] .normal λ_ hw=>⟨_,_,hw,decide (v131.fad<10),hF,rfl,rfl⟩
               exact g_to [.r (es 4 (kLA 2 3 c159 v98::es 2 (rp 7 (bq h130) (kPf (.tup []) (bP false) h130::[])))) []] .normal λ_ hw=>⟨_,_,hw,false,hF,rfl,rfl⟩
              rcases cor hF with⟨h133,hF⟩|⟨h133,hF⟩
              ·obtain⟨v134,h135,hF⟩:=Xa hF
               exact g_to [.r (es 4 (kLA 2 3 c159 v90::es 2 (rq 6 (bq h133) (rq 6 bqF (rq 4 bqT (bqT::kXA 2 3 c159 h135::rq 3 bqT (bq (t:=false) (b:=false) rfl::es 1 (bq h133::es 1 (kPt (bP (decide (v134.fad<10))) (bP false) h133::[]))))))))) []] .normal λ_ hw=>⟨_,_,hw,decide (v134.fad<10),hF,rfl,rfl⟩
              exact g_to [.r (es 4 (kLA 2 3 c159 v90::es 2 (rp 7 (bq h133) (kPf (.tup []) (bP false) h133::[])))) []] .normal λ_ hw=>⟨_,_,hw,false,hF,rfl,rfl⟩
             rcases cor hF with⟨h136,hF⟩|⟨h136,hF⟩
             ·obtain⟨v137,h138,hF⟩:=Xa hF
              exact g_to [.r (es 4 (kLA 2 3 c159 v82::es 2 (rq 6 (bq h136) (rq 6 bqF (rq 4 bqT (bqT::kXA 2 3 c159 h138::rq 3 bqT (bq (t:=false) (b:=false) rfl::es 1 (bq h136::es 1 (kPt (bP (decide (v137.fad<10))) (bP false) h136::[]))))))))) []] .normal λ_ hw=>⟨_,_,hw,decide (v137.fad<10),hF,rfl,rfl⟩
             exact g_to [.r (es 4 (kLA 2 3 c159 v82::es 2 (rp 7 (bq h136) (kPf (.tup []) (bP false) h136::[])))) []] .normal λ_ hw=>⟨_,_,hw,false,hF,rfl,rfl⟩
            rcases cor hF with⟨h139,hF⟩|⟨h139,hF⟩
            ·obtain⟨v140,h141,hF⟩:=Xa hF
             exact g_to [.r (es 4 (kLA 2 3 c159 v74::es 2 (rq 6 (bq h139) (rq 6 bqF (rq 4 bqT (bqT::kXA 2 3 c159 h141::rq 3 bqT (bq (t:=false) (b:=false) rfl::es 1 (bq h139::es 1 (kPt (bP (decide (v140.fad<10))) (bP false) h139::[]))))))))) []] .normal λ_ hw=>⟨_,_,hw,decide (v140.fad<10),hF,rfl,rfl⟩
            exact g_to [.r (es 4 (kLA 2 3 c159 v74::es 2 (rp 7 (bq h139) (kPf (.tup []) (bP false) h139::[])))) []] .normal λ_ hw=>⟨_,_,hw,false,hF,rfl,rfl⟩
           rcases cor hF with⟨h142,hF⟩|⟨h142,hF⟩
           ·obtain⟨v143,h144,hF⟩:=Xa hF
            exact g_to [.r (es 4 (kLA 2 3 c159 v66::es 2 (rq 6 (bq h142) (rq 6 bqF (rq 4 bqT (bqT::kXA 2 3 c159 h144::rq 3 bqT (bq (t:=false) (b:=false) rfl::es 1 (bq h142::es 1 (kPt (bP (decide (v143.fad<10))) (bP false) h142::[]))))))))) []] .normal λ_ hw=>⟨_,_,hw,decide (v143.fad<10),hF,rfl,rfl⟩
           exact g_to [.r (es 4 (kLA 2 3 c159 v66::es 2 (rp 7 (bq h142) (kPf (.tup []) (bP false) h142::[])))) []] .normal λ_ hw=>⟨_,_,hw,false,hF,rfl,rfl⟩
          rcases cor hF with⟨h145,hF⟩|⟨h145,hF⟩
          ·obtain⟨v146,h147,hF⟩:=Xa hF
           exact g_to [.r (es 4 (kLA 2 3 c159 v58::es 2 (rq 6 (bq h145) (rq 6 bqF (rq 4 bqT (bqT::kXA 2 3 c159 h147::rq 3 bqT (bq (t:=false) (b:=false) rfl::es 1 (bq h145::es 1 (kPt (bP (decide (v146.fad<10))) (bP false) h145::[]))))))))) []] .normal λ_ hw=>⟨_,_,hw,decide (v146.fad<10),hF,rfl,rfl⟩
          exact g_to [.r (es 4 (kLA 2 3 c159 v58::es 2 (rp 7 (bq h145) (kPf (.tup []) (bP false) h145::[])))) []] .normal λ_ hw=>⟨_,_,hw,false,hF,rfl,rfl⟩
         rcases cor hF with⟨h148,hF⟩|⟨h148,hF⟩
         ·exact g_to [.r (es 4 (kLA 2 3 c159 v52::es 2 (rq 6 (bq h148) (rq 6 bqF (rp 9 bqF (es 1 (bq h148::es 1 (kPt (bP false) (bP false) h148::[])))))))) []] .normal λ_ hw=>⟨_,_,hw,(),hF,rfl,rfl⟩
         exact g_to [.r (es 4 (kLA 2 3 c159 v52::es 2 (rp 7 (bq h148) (kPf (.tup []) (bP false) h148::[])))) []] .normal λ_ hw=>⟨_,_,hw,(),hF,rfl,rfl⟩
        rcases cor hF with⟨h149,hF⟩|⟨h149,hF⟩
        ·exact g_to [.r (es 4 (kLA 2 3 c159 v46::es 2 (rq 6 (bq h149) (rq 6 bqF (rp 9 bqF (es 1 (bq h149::es 1 (kPt (bP false) (bP false) h149::[])))))))) []] .normal λ_ hw=>⟨_,_,hw,(),hF,rfl,rfl⟩
        exact g_to [.r (es 4 (kLA 2 3 c159 v46::es 2 (rp 7 (bq h149) (kPf (.tup []) (bP false) h149::[])))) []] .normal λ_ hw=>⟨_,_,hw,(),hF,rfl,rfl⟩
       rcases cor hF with⟨h150,hF⟩|⟨h150,hF⟩
       ·exact g_to [.r (es 4 (kLA 2 3 c159 v40::es 2 (rq 6 (bq h150) (rq 6 bqF (rp 9 bqF (es 1 (bq h150::es 1 (kPt (bP false) (bP false) h150::[])))))))) []] .normal λ_ hw=>⟨_,_,hw,(),hF,rfl,rfl⟩
       exact g_to [.r (es 4 (kLA 2 3 c159 v40::es 2 (rp 7 (bq h150) (kPf (.tup []) (bP false) h150::[])))) []] .normal λ_ hw=>⟨_,_,hw,(),hF,rfl,rfl⟩
      rcases cor hF with⟨h151,hF⟩|⟨h151,hF⟩
      ·exact g_to [.r (es 4 (kLA 2 3 c159 v34::es 2 (rq 6 (bq h151) (rq 6 bqF (rp 9 bqF (es 1 (bq h151::es 1 (kPt (bP false) (bP false) h151::[])))))))) []] .normal λ_ hw=>⟨_,_,hw,(),hF,rfl,rfl⟩
      exact g_to [.r (es 4 (kLA 2 3 c159 v34::es 2 (rp 7 (bq h151) (kPf (.tup []) (bP false) h151::[])))) []] .normal λ_ hw=>⟨_,_,hw,(),hF,rfl,rfl⟩
     rcases cor hF with⟨h152,hF⟩|⟨h152,hF⟩
     ·exact g_to [.r (es 4 (kLA 2 3 c159 v28::es 2 (rq 6 (bq h152) (rq 6 bqF (rp 9 bqF (es 1 (bq h152::es 1 (kPt (bP false) (bP false) h152::[])))))))) []] .normal λ_ hw=>⟨_,_,hw,(),hF,rfl,rfl⟩
     exact g_to [.r (es 4 (kLA 2 3 c159 v28::es 2 (rp 7 (bq h152) (kPf (.tup []) (bP false) h152::[])))) []] .normal λ_ hw=>⟨_,_,hw,(),hF,rfl,rfl⟩
    rcases cor hF with⟨h153,hF⟩|⟨h153,hF⟩
    ·exact g_to [.r (es 4 (kLA 2 3 c159 v22::es 2 (rq 6 (bq h153) (rq 6 bqF (rp 9 bqF (es 1 (bq h153::es 1 (kPt (bP false) (bP false) h153::[])))))))) []] .normal λ_ hw=>⟨_,_,hw,(),hF,rfl,rfl⟩
    exact g_to [.r (es 4 (kLA 2 3 c159 v22::es 2 (rp 7 (bq h153) (kPf (.tup []) (bP false) h153::[])))) []] .normal λ_ hw=>⟨_,_,hw,(),hF,rfl,rfl⟩
   rcases cor hF with⟨h154,hF⟩|⟨h154,hF⟩
   ·exact g_to [.r (es 4 (kLA 2 3 c159 v16::es 2 (rq 6 (bq h154) (rq 6 bqF (rp 9 bqF (es 1 (bq h154::es 1 (kPt (bP false) (bP false) h154::[])))))))) []] .normal λ_ hw=>⟨_,_,hw,(),hF,rfl,rfl⟩
   exact g_to [.r (es 4 (kLA 2 3 c159 v16::es 2 (rp 7 (bq h154) (kPf (.tup []) (bP false) h154::[])))) []] .normal λ_ hw=>⟨_,_,hw,(),hF,rfl,rfl⟩
  rcases cor hF with⟨h155,hF⟩|⟨h155,hF⟩
  ·exact g_to [.r (es 4 (kLA 2 3 c159 v8::es 2 (rq 6 (bq h155) (rp 7 bqT (bq h155::es 1 (kPt (bP true) (bP false) h155::[])))))) []] .normal λ_ hw=>⟨_,_,hw,true,hF,rfl,rfl⟩
  exact g_to [.r (es 4 (kLA 2 3 c159 v8::es 2 (rp 7 (bq h155) (kPf (.tup []) (bP false) h155::[])))) []] .normal λ_ hw=>⟨_,_,hw,false,hF,rfl,rfl⟩
 rcases cor hF with⟨h156,hF⟩|⟨h156,hF⟩
 ·exact g_to [.r (es 4 (kLA 2 3 c159 ([]:List G159)::es 2 (rq 6 (bq h156) (rq 6 bqF (rp 9 bqF (es 1 (bq h156::es 1 (kPt (bP false) (bP false) h156::[])))))))) []] .normal λ_ hw=>⟨_,_,hw,(),hF,rfl,rfl⟩
 exact g_to [.r (es 4 (kLA 2 3 c159 ([]:List G159)::es 2 (rp 7 (bq h156) (kPf (.tup []) (bP false) h156::[])))) []] .normal λ_ hw=>⟨_,_,hw,(),hF,rfl,rfl⟩
theorem CF14 {v0 out} (hF:F14 v0=some out):A0 14 [.agg (c27 v0)] (bP out):=by
 refine gC Tryz.func14 ?_
 obtain⟨v1,h2,hF⟩:=Xa hF
 obtain rfl:=soj hF
 exact gE [re 2,.r (es 1 (kC (CF29 h2)::kL 3 c159 v1::es 2 [])) []]
theorem CF122 {v0 out} (hF:F122 v0=some out):A0 122 [.agg (c100 v0)] (.agg (c100 out)):=by
 refine gC Tryz.func122 ?_
 refine gP 1 [re 2,re 1] [(1,.bp 0 0),(2,.bp 1 0),(3,.bp 2 0)] [.cells (c100 v0),.cells [eS 13 c147 Sl.nil,eS 4 c425 Sl.nil],.cells [eS 13 c147 Sl.nil,eS 4 c425 Sl.nil]] ?_
 refine gM (λ(v1:Sl G147)=>([(1,.bp 0 0),(2,.bp 1 0),(3,.bp 2 0)],[.cells (c100 v0),.cells [eS 13 c147 Sl.nil,eS 4 c425 Sl.nil],.cells [eS 13 c147 v1,eS 4 c425 Sl.nil]],JF122_2 v0 v1)) out ?_ ?_
 ·rintro v1 hF
  refine gM (λ(v3:Sl G425)=>([(2,.bp 1 0),(3,.bp 2 0)],[.cells (c100 v0),.cells [eS 13 c147 Sl.nil,eS 4 c425 Sl.nil],.cells [eS 13 c147 v1,eS 4 c425 v3]],JF122_4 v1 v3)) out ?_ ?_
  ·rintro v3 hF
   obtain rfl:=soj hF
   exact gE [re 2]
  obtain⟨v5,h6,hF⟩:=Xa hF
  rcases cor hF with⟨h7,hF⟩|⟨h7,hF⟩
  ·exact g_to [.r (es 6 (kL 4 c425 v0.fX::es 1 (⟨.pu (.slSl 4 (.c (eS 4 c425 v0.fX)) none (some (.c (iP (if 6<(ln v0.fX)then (6)else (ln v0.fX))))) none) (eS 4 c425 v5),Wg h6⟩::[]))) (⟨.st (.append 4 32 (.c (eS 4 c425 Sl.nil)) (.c (eS 4 c425 v5))) [.cells (c100 v0),.cells [eS 13 c147 Sl.nil,eS 4 c425 Sl.nil],.cells [eS 13 c147 v1,eS 4 c425 Sl.nil]] (eS 4 c425 Sl.nil) [.cells (c100 v0),.cells [eS 13 c147 Sl.nil,eS 4 c425 Sl.nil],.cells [eS 13 c147 v1,eS 4 c425 Sl.nil]] 3,n_appE0 h7⟩::es 2 [])] .normal λ_ hw=>⟨_,_,hw,Sl.nil,hF,rfl,rfl⟩
  obtain⟨v8,h9,hF⟩:=Xa hF
  refine Xi [.r (es 6 (kL 4 c425 v0.fX::es 1 (⟨.pu (.slSl 4 (.c (eS 4 c425 v0.fX)) none (some (.c (iP (if 6<(ln v0.fX)then (6)else (ln v0.fX))))) none) (eS 4 c425 v5),Wg h6⟩::[]))) (⟨.st (.append 4 32 (.c (eS 4 c425 Sl.nil)) (.c (eS 4 c425 v5))) [.cells (c100 v0),.cells [eS 13 c147 Sl.nil,eS 4 c425 Sl.nil],.cells [eS 13 c147 v1,eS 4 c425 Sl.nil]] (oP 3 4 c425 v8) [.cells (c100 v0),.cells [eS 13 c147 Sl.nil,eS 4 c425 Sl.nil],.cells [eS 13 c147 v1,eS 4 c425 Sl.nil],.grow (List.length v8) 4] 3,(n_appN0 h9 h7 (by decide) (λ_=>rfl))⟩::es 2 [])] .normal [(2,.bp 1 0),(3,.bp 2 0)] [.cells (c100 v0),.cells [eS 13 c147 Sl.nil,eS 4 c425 Sl.nil],.cells [eS 13 c147 v1,oP 3 4 c425 v8],.grow (List.length v8) 4] (λe hw=>?_)
  exact⟨_,_,(hw.trans (Ye (cs':=[eS 13 c147 v1,eS 4 c425 (mkSl v8)]) 2 rfl (qc (PSub.refl _) (qc Yp qe)))).trans (Yh (H:=[.cells (c100 v0),.cells [eS 13 c147 Sl.nil,eS 4 c425 Sl.nil],.cells [eS 13 c147 v1,eS 4 c425 (mkSl v8)]]) 3),mkSl v8,hF,rfl,rfl⟩
 refine gP 0 [re 1] [(1,.bp 0 0),(2,.bp 1 0),(3,.bp 2 0),(4,iP 0)] [.cells (c100 v0),.cells [eS 13 c147 Sl.nil,eS 4 c425 Sl.nil],.cells [eS 13 c147 Sl.nil,eS 4 c425 Sl.nil]] ?_
 refine gB 0 ?_
 obtain⟨o13,ho13,hF⟩:=Xa hF
 refine gL ho13 (λ(v10,v11)=>([(1,.bp 0 0),(2,.bp 1 0),(3,.bp 2 0),(4,iP v10)],[.cells (c100 v0),.cells [eS 13 c147 Sl.nil,eS 4 c425 Sl.nil],.cells [oP 3 13 c147 v11,eS 4 c425 Sl.nil],.grow (List.length v11) 13])) ((wm).trans ((Yv 13).trans (Ye (cs':=[oP 3 13 c147 ([]:List G147),eS 4 c425 Sl.nil]) 2 rfl (qc Wf (qc (PSub.refl _) qe))))) ?_
 rintro⟨v10,v11⟩ o14 h15 h16
 refine gS ?_
 refine gM (λ(v18:Bool)=>([(1,.bp 0 0),(2,.bp 1 0),(3,.bp 2 0),(4,iP v10),(13,bP v18)],[.cells (c100 v0),.cells [eS 13 c147 Sl.nil,eS 4 c425 Sl.nil],.cells [oP 3 13 c147 v11,eS 4 c425 Sl.nil],.grow (List.length v11) 13],JF122_19 v0 v10 v11 v18)) o14 ?_ ?_
 ·rintro v18 h15
  rcases cor h15 with⟨h20,h15⟩|⟨h20,h15⟩
  ·refine Xi [bb h20] .normal [(1,.bp 0 0),(2,.bp 1 0),(3,.bp 2 0),(4,iP v10)] [.cells (c100 v0),.cells [eS 13 c147 Sl.nil,eS 4 c425 Sl.nil],.cells [oP 3 13 c147 v11,eS 4 c425 Sl.nil],.grow (List.length v11) 13] (λe hw=>?_)
   refine⟨_,_,hw,?_⟩
   obtain⟨v21,h22,v23,h24,v25,h26,h15⟩:=bs3 h15
   cases h15
   exact g_to [.r (es 5 (kX 13 c147 h22::es 1 (kC (CF201 h24)::es 1 []))) (kA 3 13 c147 h26::es 2 []),re 3] .normal λ_ hw=>⟨rfl,hw⟩
  refine Xi [bb h20] (.exit 0) [(1,.bp 0 0),(2,.bp 1 0),(3,.bp 2 0)] [.cells (c100 v0),.cells [eS 13 c147 Sl.nil,eS 4 c425 Sl.nil],.cells [oP 3 13 c147 v11,eS 4 c425 Sl.nil],.grow (List.length v11) 13] (λe hw=>?_)
  cases h15
  obtain rfl:=h16 _ rfl
  refine Xh ?_
  exact⟨_,_,(hw.trans (Ye (cs':=[eS 13 c147 (mkSl v11),eS 4 c425 Sl.nil]) 2 rfl (qc Yp (qc (PSub.refl _) qe)))).trans (Yh (H:=[.cells (c100 v0),.cells [eS 13 c147 Sl.nil,eS 4 c425 Sl.nil],.cells [eS 13 c147 (mkSl v11),eS 4 c425 Sl.nil]]) 3),mkSl v11,hF,rfl,rfl⟩
 rcases cor h15 with⟨h27,h15⟩|⟨h27,h15⟩
 ·exact g_to [.r (es 3 (kL 13 c147 v0.fg::es 2 (rq 2 (bq h27) (kPt (bP (decide (v10<12))) (bP false) h27::[])))) []] .normal λ_ hw=>⟨_,_,hw,decide (v10<12),h15,rfl,rfl⟩
 exact g_to [.r (es 3 (kL 13 c147 v0.fg::es 2 (rp 2 (bq h27) (kPf (.tup []) (bP false) h27::[])))) []] .normal λ_ hw=>⟨_,_,hw,false,h15,rfl,rfl⟩
theorem CF59 {v0 out} (hF:F59 v0=some out):A0 59 [.agg (c75 v0)] (.agg (c75 out)):=by
 refine gC Tryz.func59 ?_
 refine gP 2 [re 2,re 3,re 2] [(1,.bp 0 0),(2,.bp 1 0),(3,eS 2 c95 v0.fe)] [.cells (c58 v0.fID++c71 v0.fo++[iP v0.fP,iP v0.fQ,bP v0.fM,iP v0.fu,iP v0.fj,iP v0.fE,iP v0.fB,iP v0.fN,iP v0.fR,sP v0.fG,eS 3 c111 v0.fv,.sl true .full 0 []]),.cells [iP 0,iP 0,iP 0,iP 0,iP 0,iP 0,iP 0,iP 0,iP 0,iP 0,iP 0,iP 0,bP false,iP 0,iP 0,iP 0,iP 0,iP 0,iP 0,sP (ByteArray.mk #[]),eS 3 c111 Sl.nil,eS 2 c95 Sl.nil]] ?_
 refine gM (λ(v1:Sl G95)=>([(1,.bp 0 0),(2,.bp 1 0)],[.cells (c58 v0.fID++c71 v0.fo++[iP v0.fP,iP v0.fQ,bP v0.fM,iP v0.fu,iP v0.fj,iP v0.fE,iP v0.fB,iP v0.fN,iP v0.fR,sP v0.fG,eS 3 c111 v0.fv,eS 2 c95 v1]),.cells [iP 0,iP 0,iP 0,iP 0,iP 0,iP 0,iP 0,iP 0,iP 0,iP 0,iP 0,iP 0,bP false,iP 0,iP 0,iP 0,iP 0,iP 0,iP 0,sP (ByteArray.mk #[]),eS 3 c111 Sl.nil,eS 2 c95 Sl.nil]],JF59_2 v0 v1)) out ?_ ?_
 ·rintro v1 hF
  refine gM (λ(v3:Sl G111)=>([(1,.bp 0 0),(2,.bp 1 0)],[.cells (c58 v0.fID++c71 v0.fo++[iP v0.fP,iP v0.fQ,bP v0.fM,iP v0.fu,iP v0.fj,iP v0.fE,iP v0.fB,iP v0.fN,iP v0.fR,sP v0.fG,eS 3 c111 v3,eS 2 c95 v1]),.cells [iP 0,iP 0,iP 0,iP 0,iP 0,iP 0,iP 0,iP 0,iP 0,iP 0,iP 0,iP 0,bP false,iP 0,iP 0,iP 0,iP 0,iP 0,iP 0,sP (ByteArray.mk #[]),eS 3 c111 Sl.nil,eS 2 c95 Sl.nil]],JF59_4 v0 v1 v3)) out ?_ ?_
  ·rintro v3 hF
   obtain⟨v5,h6,hF⟩:=Xa hF
   obtain rfl:=soj hF
   exact gE [.r (es 6 (⟨.pu (.slStr (.c (sP v0.fG)) none (some (.c (iP (if 30<(lns v0.fG)then (30)else (lns v0.fG)))))) (sP v5),n_subl h6⟩::es 2 [])) [],re 2]
  obtain⟨v7,h8,hF⟩:=Xa hF
  rcases cor hF with⟨h9,hF⟩|⟨h9,hF⟩
  ·exact g_to [.r (es 5 (kL 3 c111 v0.fv::es 1 (⟨.pu (.slSl 3 (.c (eS 3 c111 v0.fv)) none (some (.c (iP (if 8<(ln v0.fv)then (8)else (ln v0.fv))))) none) (eS 3 c111 v7),Wg h8⟩::⟨.st (.append 3 24 (.c (eS 3 c111 (Sl.full []))) (.c (eS 3 c111 v7))) [.cells (c58 v0.fID++c71 v0.fo++[iP v0.fP,iP v0.fQ,bP v0.fM,iP v0.fu,iP v0.fj,iP v0.fE,iP v0.fB,iP v0.fN,iP v0.fR,sP v0.fG,eS 3 c111 v0.fv,eS 2 c95 v1]),.cells [iP 0,iP 0,iP 0,iP 0,iP 0,iP 0,iP 0,iP 0,iP 0,iP 0,iP 0,iP 0,bP false,iP 0,iP 0,iP 0,iP 0,iP 0,iP 0,sP (ByteArray.mk #[]),eS 3 c111 Sl.nil,eS 2 c95 Sl.nil]] (eS 3 c111 (Sl.full [])) [.cells (c58 v0.fID++c71 v0.fo++[iP v0.fP,iP v0.fQ,bP v0.fM,iP v0.fu,iP v0.fj,iP v0.fE,iP v0.fB,iP v0.fN,iP v0.fR,sP v0.fG,eS 3 c111 v0.fv,eS 2 c95 v1]),.cells [iP 0,iP 0,iP 0,iP 0,iP 0,iP 0,iP 0,iP 0,iP 0,iP 0,iP 0,iP 0,bP false,iP 0,iP 0,iP 0,iP 0,iP 0,iP 0,sP (ByteArray.mk #[]),eS 3 c111 Sl.nil,eS 2 c95 Sl.nil]] 2,n_appE h9⟩::es 2 []))) []] .normal λ_ hw=>⟨_,_,hw,Sl.full [],hF,rfl,rfl⟩
  obtain⟨v10,h11,hF⟩:=Xa hF
  refine Xi [.r (es 5 (kL 3 c111 v0.fv::es 1 (⟨.pu (.slSl 3 (.c (eS 3 c111 v0.fv)) none (some (.c (iP (if 8<(ln v0.fv)then (8)else (ln v0.fv))))) none) (eS 3 c111 v7),Wg h8⟩::⟨.st (.append 3 24 (.c (eS 3 c111 (Sl.full []))) (.c (eS 3 c111 v7))) [.cells (c58 v0.fID++c71 v0.fo++[iP v0.fP,iP v0.fQ,bP v0.fM,iP v0.fu,iP v0.fj,iP v0.fE,iP v0.fB,iP v0.fN,iP v0.fR,sP v0.fG,eS 3 c111 v0.fv,eS 2 c95 v1]),.cells [iP 0,iP 0,iP 0,iP 0,iP 0,iP 0,iP 0,iP 0,iP 0,iP 0,iP 0,iP 0,bP false,iP 0,iP 0,iP 0,iP 0,iP 0,iP 0,sP (ByteArray.mk #[]),eS 3 c111 Sl.nil,eS 2 c95 Sl.nil]] (oP 2 3 c111 v10) [.cells (c58 v0.fID++c71 v0.fo++[iP v0.fP,iP v0.fQ,bP v0.fM,iP v0.fu,iP v0.fj,iP v0.fE,iP v0.fB,iP v0.fN,iP v0.fR,sP v0.fG,eS 3 c111 v0.fv,eS 2 c95 v1]),.cells [iP 0,iP 0,iP 0,iP 0,iP 0,iP 0,iP 0,iP 0,iP 0,iP 0,iP 0,iP 0,bP false,iP 0,iP 0,iP 0,iP 0,iP 0,iP 0,sP (ByteArray.mk #[]),eS 3 c111 Sl.nil,eS 2 c95 Sl.nil],.grow (List.length v10) 3] 2,(n_appN h11 h9 (by decide) (λ_=>rfl))⟩::es 2 []))) []] .normal [(1,.bp 0 0),(2,.bp 1 0)] [.cells (c58 v0.fID++c71 v0.fo++[iP v0.fP,iP v0.fQ,bP v0.fM,iP v0.fu,iP v0.fj,iP v0.fE,iP v0.fB,iP v0.fN,iP v0.fR,sP v0.fG,oP 2 3 c111 v10,eS 2 c95 v1]),.cells [iP 0,iP 0,iP 0,iP 0,iP 0,iP 0,iP 0,iP 0,iP 0,iP 0,iP 0,iP 0,bP false,iP 0,iP 0,iP 0,iP 0,iP 0,iP 0,sP (ByteArray.mk #[]),eS 3 c111 Sl.nil,eS 2 c95 Sl.nil],.grow (List.length v10) 3] (λe hw=>?_)
  exact⟨_,_,(hw.trans (Ye (cs':=[iP v0.fID.fO,iP v0.fID.fT,iP v0.fo.f7,iP v0.fo.faf,iP v0.fo.fx.a0,iP v0.fo.fx.a1,iP v0.fo.fx.a2,iP v0.fo.fx.a3,iP v0.fo.fx.a4,iP v0.fo.fx.a5,iP v0.fP,iP v0.fQ,bP v0.fM,iP v0.fu,iP v0.fj,iP v0.fE,iP v0.fB,iP v0.fN,iP v0.fR,sP v0.fG,eS 3 c111 (mkSl v10),eS 2 c95 v1]) 0 rfl (qc (PSub.refl _) (qc (PSub.refl _) (qc (PSub.refl _) (qc (PSub.refl _) (qc (PSub.refl _) (qc (PSub.refl _) (qc (PSub.refl _) (qc (PSub.refl _) (qc (PSub.refl _) (qc (PSub.refl _) (qc (PSub.refl _) (qc (PSub.refl _) (qc (PSub.refl _) (qc (PSub.refl _) (qc (PSub.refl _) (qc (PSub.refl _) (qc (PSub.refl _) (qc (PSub.refl _) (qc (PSub.refl _) (qc (PSub.refl _) (qc Yp (qc (PSub.refl _) qe)))))))))))))))))))))))).trans (Yh (H:=[.cells (c58 v0.fID++c71 v0.fo++[iP v0.fP,iP v0.fQ,bP v0.fM,iP v0.fu,iP v0.fj,iP v0.fE,iP v0.fB,iP v0.fN,iP v0.fR,sP v0.fG,eS 3 c111 (mkSl v10),eS 2 c95 v1]),.cells [iP 0,iP 0,iP 0,iP 0,iP 0,iP 0,iP 0,iP 0,iP 0,iP 0,iP 0,iP 0,bP false,iP 0,iP 0,iP 0,iP 0,iP 0,iP 0,sP (ByteArray.mk #[]),eS 3 c111 Sl.nil,eS 2 c95 Sl.nil]]) 2),mkSl v10,hF,rfl,rfl⟩
 refine gP 0 [re 1] [(1,.bp 0 0),(2,.bp 1 0),(3,eS 2 c95 v0.fe),(4,iP 0)] [.cells (c58 v0.fID++c71 v0.fo++[iP v0.fP,iP v0.fQ,bP v0.fM,iP v0.fu,iP v0.fj,iP v0.fE,iP v0.fB,iP v0.fN,iP v0.fR,sP v0.fG,eS 3 c111 v0.fv,.sl true .full 0 []]),.cells [iP 0,iP 0,iP 0,iP 0,iP 0,iP 0,iP 0,iP 0,iP 0,iP 0,iP 0,iP 0,bP false,iP 0,iP 0,iP 0,iP 0,iP 0,iP 0,sP (ByteArray.mk #[]),eS 3 c111 Sl.nil,eS 2 c95 Sl.nil]] ?_
 refine gB 0 ?_
 obtain⟨o15,ho15,hF⟩:=Xa hF
 refine gL ho15 (λ(v12,v13)=>([(1,.bp 0 0),(2,.bp 1 0),(3,eS 2 c95 v0.fe),(4,iP v12)],[.cells (c58 v0.fID++c71 v0.fo++[iP v0.fP,iP v0.fQ,bP v0.fM,iP v0.fu,iP v0.fj,iP v0.fE,iP v0.fB,iP v0.fN,iP v0.fR,sP v0.fG,eS 3 c111 v0.fv,oP 2 2 c95 v13]),.cells [iP 0,iP 0,iP 0,iP 0,iP 0,iP 0,iP 0,iP 0,iP 0,iP 0,iP 0,iP 0,bP false,iP 0,iP 0,iP 0,iP 0,iP 0,iP 0,sP (ByteArray.mk #[]),eS 3 c111 Sl.nil,eS 2 c95 Sl.nil],.grow (List.length v13) 2])) ((wm).trans ((Yv 2).trans (Ye (cs':=[iP v0.fID.fO,iP v0.fID.fT,iP v0.fo.f7,iP v0.fo.faf,iP v0.fo.fx.a0,iP v0.fo.fx.a1,iP v0.fo.fx.a2,iP v0.fo.fx.a3,iP v0.fo.fx.a4,iP v0.fo.fx.a5,iP v0.fP,iP v0.fQ,bP v0.fM,iP v0.fu,iP v0.fj,iP v0.fE,iP v0.fB,iP v0.fN,iP v0.fR,sP v0.fG,eS 3 c111 v0.fv,oP 2 2 c95 ([]:List G95)]) 0 rfl (qc (PSub.refl _) (qc (PSub.refl _) (qc (PSub.refl _) (qc (PSub.refl _) (qc (PSub.refl _) (qc (PSub.refl _) (qc (PSub.refl _) (qc (PSub.refl _) (qc (PSub.refl _) (qc (PSub.refl _) (qc (PSub.refl _) (qc (PSub.refl _) (qc (PSub.refl _) (qc (PSub.refl _) (qc (PSub.refl _) (qc (PSub.refl _) (qc (PSub.refl _) (qc (PSub.refl _) (qc (PSub.refl _) (qc (PSub.refl _) (qc (PSub.refl _) (qc psub_nilsl qe))))))))))))))))))))))))) ?_
 rintro⟨v12,v13⟩ o16 h17 h18
 refine gS ?_
 refine gM (λ(v20:Bool)=>([(1,.bp 0 0),(2,.bp 1 0),(3,eS 2 c95 v0.fe),(4,iP v12),(17,bP v20)],[.cells (c58 v0.fID++c71 v0.fo++[iP v0.fP,iP v0.fQ,bP v0.fM,iP v0.fu,iP v0.fj,iP v0.fE,iP v0.fB,iP v0.fN,iP v0.fR,sP v0.fG,eS 3 c111 v0.fv,oP 2 2 c95 v13]),.cells [iP 0,iP 0,iP 0,iP 0,iP 0,iP 0,iP 0,iP 0,iP 0,iP 0,iP 0,iP 0,bP false,iP 0,iP 0,iP 0,iP 0,iP 0,iP 0,sP (ByteArray.mk #[]),eS 3 c111 Sl.nil,eS 2 c95 Sl.nil],.grow (List.length v13) 2],JF59_21 v0 v12 v13 v20)) o16 ?_ ?_
 ·rintro v20 h17
  rcases cor h17 with⟨h22,h17⟩|⟨h22,h17⟩
  ·refine Xi [bb h22] .normal [(1,.bp 0 0),(2,.bp 1 0),(3,eS 2 c95 v0.fe),(4,iP v12)] [.cells (c58 v0.fID++c71 v0.fo++[iP v0.fP,iP v0.fQ,bP v0.fM,iP v0.fu,iP v0.fj,iP v0.fE,iP v0.fB,iP v0.fN,iP v0.fR,sP v0.fG,eS 3 c111 v0.fv,oP 2 2 c95 v13]),.cells [iP 0,iP 0,iP 0,iP 0,iP 0,iP 0,iP 0,iP 0,iP 0,iP 0,iP 0,iP 0,bP false,iP 0,iP 0,iP 0,iP 0,iP 0,iP 0,sP (ByteArray.mk #[]),eS 3 c111 Sl.nil,eS 2 c95 Sl.nil],.grow (List.length v13) 2] (λe hw=>?_)
   refine⟨_,_,hw,?_⟩
   refine gM (λ(v23:List G95)=>([(1,.bp 0 0),(2,.bp 1 0),(3,eS 2 c95 v0.fe),(4,iP v12)],[.cells (c58 v0.fID++c71 v0.fo++[iP v0.fP,iP v0.fQ,bP v0.fM,iP v0.fu,iP v0.fj,iP v0.fE,iP v0.fB,iP v0.fN,iP v0.fR,sP v0.fG,eS 3 c111 v0.fv,oP 2 2 c95 v23]),.cells [iP 0,iP 0,iP 0,iP 0,iP 0,iP 0,iP 0,iP 0,iP 0,iP 0,iP 0,iP 0,bP false,iP 0,iP 0,iP 0,iP 0,iP 0,iP 0,sP (ByteArray.mk #[]),eS 3 c111 Sl.nil,eS 2 c95 Sl.nil],.grow (List.length v23) 2],JF59_24 v12 v23)) o16 ?_ ?_
   ·rintro v23 h17
    cases h17
    exact g_to [re 3] .normal λ_ hw=>⟨rfl,hw⟩
   refine gB 1 ?_
   refine gP 0 [re 1] [(1,.bp 0 0),(2,.bp 1 0),(3,eS 2 c95 v0.fe),(4,iP v12),(5,.bp 3 0)] [.cells (c58 v0.fID++c71 v0.fo++[iP v0.fP,iP v0.fQ,bP v0.fM,iP v0.fu,iP v0.fj,iP v0.fE,iP v0.fB,iP v0.fN,iP v0.fR,sP v0.fG,eS 3 c111 v0.fv,oP 2 2 c95 v13]),.cells [iP 0,iP 0,iP 0,iP 0,iP 0,iP 0,iP 0,iP 0,iP 0,iP 0,iP 0,iP 0,bP false,iP 0,iP 0,iP 0,iP 0,iP 0,iP 0,sP (ByteArray.mk #[]),eS 3 c111 Sl.nil,eS 2 c95 Sl.nil],.grow (List.length v13) 2,.cells [eS 2 c230 Sl.nil,eS 2 c100 Sl.nil]] ?_
   refine gM (λ(v25:Sl G230)=>([(1,.bp 0 0),(2,.bp 1 0),(3,eS 2 c95 v0.fe),(4,iP v12),(5,.bp 3 0)],[.cells (c58 v0.fID++c71 v0.fo++[iP v0.fP,iP v0.fQ,bP v0.fM,iP v0.fu,iP v0.fj,iP v0.fE,iP v0.fB,iP v0.fN,iP v0.fR,sP v0.fG,eS 3 c111 v0.fv,oP 2 2 c95 v13]),.cells [iP 0,iP 0,iP 0,iP 0,iP 0,iP 0,iP 0,iP 0,iP 0,iP 0,iP 0,iP 0,bP false,iP 0,iP 0,iP 0,iP 0,iP 0,iP 0,sP (ByteArray.mk #[]),eS 3 c111 Sl.nil,eS 2 c95 Sl.nil],.grow (List.length v13) 2,.cells [eS 2 c230 v25,eS 2 c100 Sl.nil]],JF59_26 v0 v12 v13 v25)) o16 ?_ ?_
   ·rintro v25 h17
    refine gM (λ(v27:Sl G100)=>([(1,.bp 0 0),(2,.bp 1 0),(3,eS 2 c95 v0.fe),(4,iP v12),(5,.bp 3 0)],[.cells (c58 v0.fID++c71 v0.fo++[iP v0.fP,iP v0.fQ,bP v0.fM,iP v0.fu,iP v0.fj,iP v0.fE,iP v0.fB,iP v0.fN,iP v0.fR,sP v0.fG,eS 3 c111 v0.fv,oP 2 2 c95 v13]),.cells [iP 0,iP 0,iP 0,iP 0,iP 0,iP 0,iP 0,iP 0,iP 0,iP 0,iP 0,iP 0,bP false,iP 0,iP 0,iP 0,iP 0,iP 0,iP 0,sP (ByteArray.mk #[]),eS 3 c111 Sl.nil,eS 2 c95 Sl.nil],.grow (List.length v13) 2,.cells [eS 2 c230 v25,eS 2 c100 v27]],JF59_28 v13 v25 v12 v27)) o16 ?_ ?_
    ·rintro v27 h17
     obtain⟨v29,h30,h17⟩:=Xa h17
     exact g_tc 3 [.r (es 4 (kA 2 2 c95 h30::es 2 [])) []] .normal λ_ _ hw=>⟨_,_,hw,v29,h17,rfl,rfl⟩
    refine gP 0 [re 1] [(1,.bp 0 0),(2,.bp 1 0),(3,eS 2 c95 v0.fe),(4,iP v12),(5,.bp 3 0),(6,iP 0)] [.cells (c58 v0.fID++c71 v0.fo++[iP v0.fP,iP v0.fQ,bP v0.fM,iP v0.fu,iP v0.fj,iP v0.fE,iP v0.fB,iP v0.fN,iP v0.fR,sP v0.fG,eS 3 c111 v0.fv,oP 2 2 c95 v13]),.cells [iP 0,iP 0,iP 0,iP 0,iP 0,iP 0,iP 0,iP 0,iP 0,iP 0,iP 0,iP 0,bP false,iP 0,iP 0,iP 0,iP 0,iP 0,iP 0,sP (ByteArray.mk #[]),eS 3 c111 Sl.nil,eS 2 c95 Sl.nil],.grow (List.length v13) 2,.cells [eS 2 c230 v25,eS 2 c100 Sl.nil]] ?_
    refine gB 2 ?_
    obtain⟨o34,ho34,h17⟩:=Xa h17
    refine gL ho34 (λ(v31,v32)=>([(1,.bp 0 0),(2,.bp 1 0),(3,eS 2 c95 v0.fe),(4,iP v12),(5,.bp 3 0),(6,iP v31)],[.cells (c58 v0.fID++c71 v0.fo++[iP v0.fP,iP v0.fQ,bP v0.fM,iP v0.fu,iP v0.fj,iP v0.fE,iP v0.fB,iP v0.fN,iP v0.fR,sP v0.fG,eS 3 c111 v0.fv,oP 2 2 c95 v13]),.cells [iP 0,iP 0,iP 0,iP 0,iP 0,iP 0,iP 0,iP 0,iP 0,iP 0,iP 0,iP 0,bP false,iP 0,iP 0,iP 0,iP 0,iP 0,iP 0,sP (ByteArray.mk #[]),eS 3 c111 Sl.nil,eS 2 c95 Sl.nil],.grow (List.length v13) 2,.cells [eS 2 c230 v25,oP 4 2 c100 v32],.grow (List.length v32) 2])) ((wm).trans ((Yv 2).trans (Ye (cs':=[eS 2 c230 v25,oP 4 2 c100 ([]:List G100)]) 3 rfl (qc (PSub.refl _) (qc Wf qe))))) ?_
    rintro⟨v31,v32⟩ o35 h36 h37
    refine gS ?_
    refine gM (λ(v39:Bool)=>([(1,.bp 0 0),(2,.bp 1 0),(3,eS 2 c95 v0.fe),(4,iP v12),(5,.bp 3 0),(6,iP v31),(48,bP v39)],[.cells (c58 v0.fID++c71 v0.fo++[iP v0.fP,iP v0.fQ,bP v0.fM,iP v0.fu,iP v0.fj,iP v0.fE,iP v0.fB,iP v0.fN,iP v0.fR,sP v0.fG,eS 3 c111 v0.fv,oP 2 2 c95 v13]),.cells [iP 0,iP 0,iP 0,iP 0,iP 0,iP 0,iP 0,iP 0,iP 0,iP 0,iP 0,iP 0,bP false,iP 0,iP 0,iP 0,iP 0,iP 0,iP 0,sP (ByteArray.mk #[]),eS 3 c111 Sl.nil,eS 2 c95 Sl.nil],.grow (List.length v13) 2,.cells [eS 2 c230 v25,oP 4 2 c100 v32],.grow (List.length v32) 2],JF59_40 v0 v12 v31 v32 v39)) o35 ?_ ?_
    ·rintro v39 h36
     rcases cor h36 with⟨h41,h36⟩|⟨h41,h36⟩
     ·refine Xi [bb h41] .normal [(1,.bp 0 0),(2,.bp 1 0),(3,eS 2 c95 v0.fe),(4,iP v12),(5,.bp 3 0),(6,iP v31)] [.cells (c58 v0.fID++c71 v0.fo++[iP v0.fP,iP v0.fQ,bP v0.fM,iP v0.fu,iP v0.fj,iP v0.fE,iP v0.fB,iP v0.fN,iP v0.fR,sP v0.fG,eS 3 c111 v0.fv,oP 2 2 c95 v13]),.cells [iP 0,iP 0,iP 0,iP 0,iP 0,iP 0,iP 0,iP 0,iP 0,iP 0,iP 0,iP 0,bP false,iP 0,iP 0,iP 0,iP 0,iP 0,iP 0,sP (ByteArray.mk #[]),eS 3 c111 Sl.nil,eS 2 c95 Sl.nil],.grow (List.length v13) 2,.cells [eS 2 c230 v25,oP 4 2 c100 v32],.grow (List.length v32) 2] (λe hw=>?_)
      refine⟨_,_,hw,?_⟩
      obtain⟨v42,h43,v44,h45,v46,h47,h36⟩:=bs3 h36
      obtain⟨v48,h49,h36⟩:=Xa h36
      cases h36
      exact g_to [.r (es 4 (kX 2 c95 h43::es 3 (kX 2 c100 h45::es 1 (kC (CF122 h47)::es 1 [])))) (kA 4 2 c100 h49::es 2 []),re 3] .normal λ_ hw=>⟨rfl,hw⟩
     refine Xi [bb h41] (.exit 2) [(1,.bp 0 0),(2,.bp 1 0),(3,eS 2 c95 v0.fe),(4,iP v12),(5,.bp 3 0)] [.cells (c58 v0.fID++c71 v0.fo++[iP v0.fP,iP v0.fQ,bP v0.fM,iP v0.fu,iP v0.fj,iP v0.fE,iP v0.fB,iP v0.fN,iP v0.fR,sP v0.fG,eS 3 c111 v0.fv,oP 2 2 c95 v13]),.cells [iP 0,iP 0,iP 0,iP 0,iP 0,iP 0,iP 0,iP 0,iP 0,iP 0,iP 0,iP 0,bP false,iP 0,iP 0,iP 0,iP 0,iP 0,iP 0,sP (ByteArray.mk #[]),eS 3 c111 Sl.nil,eS 2 c95 Sl.nil],.grow (List.length v13) 2,.cells [eS 2 c230 v25,oP 4 2 c100 v32],.grow (List.length v32) 2] (λe hw=>?_)
     cases h36
     obtain rfl:=h37 _ rfl
     refine Xh ?_
     exact⟨_,_,(hw.trans (Ye (cs':=[eS 2 c230 v25,eS 2 c100 (mkSl v32)]) 3 rfl (qc (PSub.refl _) (qc Yp qe)))).trans (Yh (H:=[.cells (c58 v0.fID++c71 v0.fo++[iP v0.fP,iP v0.fQ,bP v0.fM,iP v0.fu,iP v0.fj,iP v0.fE,iP v0.fB,iP v0.fN,iP v0.fR,sP v0.fG,eS 3 c111 v0.fv,oP 2 2 c95 v13]),.cells [iP 0,iP 0,iP 0,iP 0,iP 0,iP 0,iP 0,iP 0,iP 0,iP 0,iP 0,iP 0,bP false,iP 0,iP 0,iP 0,iP 0,iP 0,iP 0,sP (ByteArray.mk #[]),eS 3 c111 Sl.nil,eS 2 c95 Sl.nil],.grow (List.length v13) 2,.cells [eS 2 c230 v25,eS 2 c100 (mkSl v32)]]) 4),mkSl v32,h17,rfl,rfl⟩
    obtain⟨v50,h51,h36⟩:=Xa h36
    rcases cor h36 with⟨h52,h36⟩|⟨h52,h36⟩
    ·exact g_to [.r (es 3 (kX 2 c95 h51::es 2 (kL 2 c100 v50.ff::es 2 (rq 2 (bq h52) (kPt (bP (decide (v31<3))) (bP false) h52::[]))))) []] .normal λ_ hw=>⟨_,_,hw,decide (v31<3),h36,rfl,rfl⟩
    exact g_to [.r (es 3 (kX 2 c95 h51::es 2 (kL 2 c100 v50.ff::es 2 (rp 2 (bq h52) (kPf (.tup []) (bP false) h52::[]))))) []] .normal λ_ hw=>⟨_,_,hw,false,h36,rfl,rfl⟩
   obtain⟨v53,h54,v55,h56,v57,h58,h17⟩:=bs3 h17
   rcases cor h17 with⟨h59,h17⟩|⟨h59,h17⟩
   ·exact g_to [.r (es 4 (kX 2 c95 h54::es 4 (kX 2 c95 h56::es 2 (kL 2 c230 v55.fU::es 1 (⟨.pu (.slSl 2 (.c (eS 2 c230 v53.fU)) none (some (.c (iP (if 8<(ln v55.fU)then (8)else (ln v55.fU))))) none) (eS 2 c230 v57),Wg h58⟩::[]))))) (⟨.st (.append 2 16 (.c (eS 2 c230 Sl.nil)) (.c (eS 2 c230 v57))) [.cells (c58 v0.fID++c71 v0.fo++[iP v0.fP,iP v0.fQ,bP v0.fM,iP v0.fu,iP v0.fj,iP v0.fE,iP v0.fB,iP v0.fN,iP v0.fR,sP v0.fG,eS 3 c111 v0.fv,oP 2 2 c95 v13]),.cells [iP 0,iP 0,iP 0,iP 0,iP 0,iP 0,iP 0,iP 0,iP 0,iP 0,iP 0,iP 0,bP false,iP 0,iP 0,iP 0,iP 0,iP 0,iP 0,sP (ByteArray.mk #[]),eS 3 c111 Sl.nil,eS 2 c95 Sl.nil],.grow (List.length v13) 2,.cells [eS 2 c230 Sl.nil,eS 2 c100 Sl.nil]] (eS 2 c230 Sl.nil) [.cells (c58 v0.fID++c71 v0.fo++[iP v0.fP,iP v0.fQ,bP v0.fM,iP v0.fu,iP v0.fj,iP v0.fE,iP v0.fB,iP v0.fN,iP v0.fR,sP v0.fG,eS 3 c111 v0.fv,oP 2 2 c95 v13]),.cells [iP 0,iP 0,iP 0,iP 0,iP 0,iP 0,iP 0,iP 0,iP 0,iP 0,iP 0,iP 0,bP false,iP 0,iP 0,iP 0,iP 0,iP 0,iP 0,sP (ByteArray.mk #[]),eS 3 c111 Sl.nil,eS 2 c95 Sl.nil],.grow (List.length v13) 2,.cells [eS 2 c230 Sl.nil,eS 2 c100 Sl.nil]] 4,n_appE0 h59⟩::es 2 [])] .normal λ_ hw=>⟨_,_,hw,Sl.nil,h17,rfl,rfl⟩
   obtain⟨v60,h61,h17⟩:=Xa h17
   refine Xi [.r (es 4 (kX 2 c95 h54::es 4 (kX 2 c95 h56::es 2 (kL 2 c230 v55.fU::es 1 (⟨.pu (.slSl 2 (.c (eS 2 c230 v53.fU)) none (some (.c (iP (if 8<(ln v55.fU)then (8)else (ln v55.fU))))) none) (eS 2 c230 v57),Wg h58⟩::[]))))) (⟨.st (.append 2 16 (.c (eS 2 c230 Sl.nil)) (.c (eS 2 c230 v57))) [.cells (c58 v0.fID++c71 v0.fo++[iP v0.fP,iP v0.fQ,bP v0.fM,iP v0.fu,iP v0.fj,iP v0.fE,iP v0.fB,iP v0.fN,iP v0.fR,sP v0.fG,eS 3 c111 v0.fv,oP 2 2 c95 v13]),.cells [iP 0,iP 0,iP 0,iP 0,iP 0,iP 0,iP 0,iP 0,iP 0,iP 0,iP 0,iP 0,bP false,iP 0,iP 0,iP 0,iP 0,iP 0,iP 0,sP (ByteArray.mk #[]),eS 3 c111 Sl.nil,eS 2 c95 Sl.nil],.grow (List.length v13) 2,.cells [eS 2 c230 Sl.nil,eS 2 c100 Sl.nil]] (oP 4 2 c230 v60) [.cells (c58 v0.fID++c71 v0.fo++[iP v0.fP,iP v0.fQ,bP v0.fM,iP v0.fu,iP v0.fj,iP v0.fE,iP v0.fB,iP v0.fN,iP v0.fR,sP v0.fG,eS 3 c111 v0.fv,oP 2 2 c95 v13]),.cells [iP 0,iP 0,iP 0,iP 0,iP 0,iP 0,iP 0,iP 0,iP 0,iP 0,iP 0,iP 0,bP false,iP 0,iP 0,iP 0,iP 0,iP 0,iP 0,sP (ByteArray.mk #[]),eS 3 c111 Sl.nil,eS 2 c95 Sl.nil],.grow (List.length v13) 2,.cells [eS 2 c230 Sl.nil,eS 2 c100 Sl.nil],.grow (List.length v60) 2] 4,(n_appN0 h61 h59 (by decide) (λ_=>rfl))⟩::es 2 [])] .normal [(1,.bp 0 0),(2,.bp 1 0),(3,eS 2 c95 v0.fe),(4,iP v12),(5,.bp 3 0)] [.cells (c58 v0.fID++c71 v0.fo++[iP v0.fP,iP v0.fQ,bP v0.fM,iP v0.fu,iP v0.fj,iP v0.fE,iP v0.fB,iP v0.fN,iP v0.fR,sP v0.fG,eS 3 c111 v0.fv,oP 2 2 c95 v13]),.cells [iP 0,iP 0,iP 0,iP 0,iP 0,iP 0,iP 0,iP 0,iP 0,iP 0,iP 0,iP 0,bP false,iP 0,iP 0,iP 0,iP 0,iP 0,iP 0,sP (ByteArray.mk #[]),eS 3 c111 Sl.nil,eS 2 c95 Sl.nil],.grow (List.length v13) 2,.cells [oP 4 2 c230 v60,eS 2 c100 Sl.nil],.grow (List.length v60) 2] (λe hw=>?_)
   exact⟨_,_,(hw.trans (Ye (cs':=[eS 2 c230 (mkSl v60),eS 2 c100 Sl.nil]) 3 rfl (qc Yp (qc (PSub.refl _) qe)))).trans (Yh (H:=[.cells (c58 v0.fID++c71 v0.fo++[iP v0.fP,iP v0.fQ,bP v0.fM,iP v0.fu,iP v0.fj,iP v0.fE,iP v0.fB,iP v0.fN,iP v0.fR,sP v0.fG,eS 3 c111 v0.fv,oP 2 2 c95 v13]),.cells [iP 0,iP 0,iP 0,iP 0,iP 0,iP 0,iP 0,iP 0,iP 0,iP 0,iP 0,iP 0,bP false,iP 0,iP 0,iP 0,iP 0,iP 0,iP 0,sP (ByteArray.mk #[]),eS 3 c111 Sl.nil,eS 2 c95 Sl.nil],.grow (List.length v13) 2,.cells [eS 2 c230 (mkSl v60),eS 2 c100 Sl.nil]]) 4),mkSl v60,h17,rfl,rfl⟩
  refine Xi [bb h22] (.exit 0) [(1,.bp 0 0),(2,.bp 1 0)] [.cells (c58 v0.fID++c71 v0.fo++[iP v0.fP,iP v0.fQ,bP v0.fM,iP v0.fu,iP v0.fj,iP v0.fE,iP v0.fB,iP v0.fN,iP v0.fR,sP v0.fG,eS 3 c111 v0.fv,oP 2 2 c95 v13]),.cells [iP 0,iP 0,iP 0,iP 0,iP 0,iP 0,iP 0,iP 0,iP 0,iP 0,iP 0,iP 0,bP false,iP 0,iP 0,iP 0,iP 0,iP 0,iP 0,sP (ByteArray.mk #[]),eS 3 c111 Sl.nil,eS 2 c95 Sl.nil],.grow (List.length v13) 2] (λe hw=>?_)
  cases h17
  obtain rfl:=h18 _ rfl
  refine Xh ?_
  exact⟨_,_,(hw.trans (Ye (cs':=[iP v0.fID.fO,iP v0.fID.fT,iP v0.fo.f7,iP v0.fo.faf,iP v0.fo.fx.a0,iP v0.fo.fx.a1,iP v0.fo.fx.a2,iP v0.fo.fx.a3,iP v0.fo.fx.a4,iP v0.fo.fx.a5,iP v0.fP,iP v0.fQ,bP v0.fM,iP v0.fu,iP v0.fj,iP v0.fE,iP v0.fB,iP v0.fN,iP v0.fR,sP v0.fG,eS 3 c111 v0.fv,eS 2 c95 (mkSl v13)]) 0 rfl (qc (PSub.refl _) (qc (PSub.refl _) (qc (PSub.refl _) (qc (PSub.refl _) (qc (PSub.refl _) (qc (PSub.refl _) (qc (PSub.refl _) (qc (PSub.refl _) (qc (PSub.refl _) (qc (PSub.refl _) (qc (PSub.refl _) (qc (PSub.refl _) (qc (PSub.refl _) (qc (PSub.refl _) (qc (PSub.refl _) (qc (PSub.refl _) (qc (PSub.refl _) (qc (PSub.refl _) (qc (PSub.refl _) (qc (PSub.refl _) (qc (PSub.refl _) (qc Yp qe)))))))))))))))))))))))).trans (Yh (H:=[.cells (c58 v0.fID++c71 v0.fo++[iP v0.fP,iP v0.fQ,bP v0.fM,iP v0.fu,iP v0.fj,iP v0.fE,iP v0.fB,iP v0.fN,iP v0.fR,sP v0.fG,eS 3 c111 v0.fv,eS 2 c95 (mkSl v13)]),.cells [iP 0,iP 0,iP 0,iP 0,iP 0,iP 0,iP 0,iP 0,iP 0,iP 0,iP 0,iP 0,bP false,iP 0,iP 0,iP 0,iP 0,iP 0,iP 0,sP (ByteArray.mk #[]),eS 3 c111 Sl.nil,eS 2 c95 Sl.nil]]) 2),mkSl v13,hF,rfl,rfl⟩
 rcases cor h17 with⟨h62,h17⟩|⟨h62,h17⟩
 ·exact g_to [.r (es 2 (kL 2 c95 v0.fe::es 2 (rq 2 (bq h62) (kPt (bP (decide (v12<4))) (bP false) h62::[])))) []] .normal λ_ hw=>⟨_,_,hw,decide (v12<4),h17,rfl,rfl⟩
 exact g_to [.r (es 2 (kL 2 c95 v0.fe::es 2 (rp 2 (bq h62) (kPf (.tup []) (bP false) h62::[])))) []] .normal λ_ hw=>⟨_,_,hw,false,h17,rfl,rfl⟩
theorem CF28 {v0 out} (hF:F28 v0=some out):A0 28 [.agg (c75 v0)] (.agg (c75 out)):=by
 refine gC Tryz.func28 ?_
 obtain⟨v1,h2,hF⟩:=Xa hF
 obtain rfl:=soj hF
 exact gE [re 2,.r (es 1 (kC (CF59 h2)::es 1 [])) []]
theorem CF7 {v0 out} (hF:F7 v0=some out):A0 7 [.agg (c27 v0)] (.agg (c27 out)):=by
 refine gC Tryz.func7 ?_
 obtain⟨v1,h2,hF⟩:=Xa hF
 refine gP 1 [re 2,.r (es 6 (⟨.pu (.slStr (.c (sP v0.faz)) none (some (.c (iP (if 30<(lns v0.faz)then (30)else (lns v0.faz)))))) (sP v1),n_subl h2⟩::es 4 [])) (es 1 [])] [(1,.bp 0 0),(2,.bp 1 0),(3,.bp 2 0)] [.cells (c27 v0),.cells [sP (ByteArray.mk #[]),bP false,eS 6 c68 Sl.nil,eS 22 c75 Sl.nil,eS 7 c213 Sl.nil,eS 2 c58 Sl.nil],.cells [sP v1,bP v0.fC,.sl true .full 0 [],.sl true .full 0 [],.sl true .full 0 [],.sl true .full 0 []]] ?_
 refine gM (λ(v3:List G68)=>([(1,.bp 0 0),(2,.bp 1 0),(3,.bp 2 0)],[.cells (c27 v0),.cells [sP (ByteArray.mk #[]),bP false,eS 6 c68 Sl.nil,eS 22 c75 Sl.nil,eS 7 c213 Sl.nil,eS 2 c58 Sl.nil],.cells [sP v1,bP v0.fC,oP 3 6 c68 v3,.sl true .full 0 [],.sl true .full 0 [],.sl true .full 0 []],.grow (List.length v3) 6],JF7_4 v0 v1 v3)) out ?_ ?_
 ·rintro v3 hF
  refine gM (λ(v5:Sl G75)=>([(1,.bp 0 0),(2,.bp 1 0),(3,.bp 2 0)],[.cells (c27 v0),.cells [sP (ByteArray.mk #[]),bP false,eS 6 c68 Sl.nil,eS 22 c75 Sl.nil,eS 7 c213 Sl.nil,eS 2 c58 Sl.nil],.cells [sP v1,bP v0.fC,eS 6 c68 (mkSl v3),eS 22 c75 v5,.sl true .full 0 [],.sl true .full 0 []]],JF7_6 v0 v1 v3 v5)) out ?_ ?_
  ·rintro v5 hF
   refine gM (λ(v7:Sl G213)=>([(1,.bp 0 0),(2,.bp 1 0),(3,.bp 2 0)],[.cells (c27 v0),.cells [sP (ByteArray.mk #[]),bP false,eS 6 c68 Sl.nil,eS 22 c75 Sl.nil,eS 7 c213 Sl.nil,eS 2 c58 Sl.nil],.cells [sP v1,bP v0.fC,eS 6 c68 (mkSl v3),eS 22 c75 v5,eS 7 c213 v7,.sl true .full 0 []]],JF7_8 v0 v1 v3 v5 v7)) out ?_ ?_
   ·rintro v7 hF
    refine gM (λ(v9:Sl G58)=>([(2,.bp 1 0),(3,.bp 2 0)],[.cells (c27 v0),.cells [sP (ByteArray.mk #[]),bP false,eS 6 c68 Sl.nil,eS 22 c75 Sl.nil,eS 7 c213 Sl.nil,eS 2 c58 Sl.nil],.cells [sP v1,bP v0.fC,eS 6 c68 (mkSl v3),eS 22 c75 v5,eS 7 c213 v7,eS 2 c58 v9]],JF7_10 v1 v0 v3 v5 v7 v9)) out ?_ ?_
    ·rintro v9 hF
     obtain rfl:=soj hF
     exact gE [re 2]
    obtain⟨v11,h12,hF⟩:=Xa hF
    rcases cor hF with⟨h13,hF⟩|⟨h13,hF⟩
    ·refine Xi [.r (es 6 (kL 2 c58 v0.fJ::es 1 (⟨.pu (.slSl 2 (.c (eS 2 c58 v0.fJ)) none (some (.c (iP (if 3<(ln v0.fJ)then (3)else (ln v0.fJ))))) none) (eS 2 c58 v11),Wg h12⟩::[]))) (⟨.st (.append 2 16 (.c (.sl true .full 0 [])) (.c (eS 2 c58 v11))) [.cells (c27 v0),.cells [sP (ByteArray.mk #[]),bP false,eS 6 c68 Sl.nil,eS 22 c75 Sl.nil,eS 7 c213 Sl.nil,eS 2 c58 Sl.nil],.cells [sP v1,bP v0.fC,eS 6 c68 (mkSl v3),eS 22 c75 v5,eS 7 c213 v7,.sl true .full 0 []]] (.sl true .full 0 []) [.cells (c27 v0),.cells [sP (ByteArray.mk #[]),bP false,eS 6 c68 Sl.nil,eS 22 c75 Sl.nil,eS 7 c213 Sl.nil,eS 2 c58 Sl.nil],.cells [sP v1,bP v0.fC,eS 6 c68 (mkSl v3),eS 22 c75 v5,eS 7 c213 v7,.sl true .full 0 []]] 3,n_appE0 h13⟩::es 2 [])] .normal [(2,.bp 1 0),(3,.bp 2 0)] [.cells (c27 v0),.cells [sP (ByteArray.mk #[]),bP false,eS 6 c68 Sl.nil,eS 22 c75 Sl.nil,eS 7 c213 Sl.nil,eS 2 c58 Sl.nil],.cells [sP v1,bP v0.fC,eS 6 c68 (mkSl v3),eS 22 c75 v5,eS 7 c213 v7,.sl true .full 0 []]] (λe hw=>?_)
     exact⟨_,_,hw.trans (Ye (cs':=[sP v1,bP v0.fC,eS 6 c68 (mkSl v3),eS 22 c75 v5,eS 7 c213 v7,eS 2 c58 Sl.nil]) 2 rfl (qc (PSub.refl _) (qc (PSub.refl _) (qc (PSub.refl _) (qc (PSub.refl _) (qc (PSub.refl _) (qc psub_nile qe))))))),Sl.nil,hF,rfl,rfl⟩
    obtain⟨v14,h15,hF⟩:=Xa hF
    refine Xi [.r (es 6 (kL 2 c58 v0.fJ::es 1 (⟨.pu (.slSl 2 (.c (eS 2 c58 v0.fJ)) none (some (.c (iP (if 3<(ln v0.fJ)then (3)else (ln v0.fJ))))) none) (eS 2 c58 v11),Wg h12⟩::[]))) (⟨.st (.append 2 16 (.c (.sl true .full 0 [])) (.c (eS 2 c58 v11))) [.cells (c27 v0),.cells [sP (ByteArray.mk #[]),bP false,eS 6 c68 Sl.nil,eS 22 c75 Sl.nil,eS 7 c213 Sl.nil,eS 2 c58 Sl.nil],.cells [sP v1,bP v0.fC,eS 6 c68 (mkSl v3),eS 22 c75 v5,eS 7 c213 v7,.sl true .full 0 []]] (oP 3 2 c58 v14) [.cells (c27 v0),.cells [sP (ByteArray.mk #[]),bP false,eS 6 c68 Sl.nil,eS 22 c75 Sl.nil,eS 7 c213 Sl.nil,eS 2 c58 Sl.nil],.cells [sP v1,bP v0.fC,eS 6 c68 (mkSl v3),eS 22 c75 v5,eS 7 c213 v7,.sl true .full 0 []],.grow (List.length v14) 2] 3,(n_appN0 h15 h13 (by decide) (λ_=>rfl))⟩::es 2 [])] .normal [(2,.bp 1 0),(3,.bp 2 0)] [.cells (c27 v0),.cells [sP (ByteArray.mk #[]),bP false,eS 6 c68 Sl.nil,eS 22 c75 Sl.nil,eS 7 c213 Sl.nil,eS 2 c58 Sl.nil],.cells [sP v1,bP v0.fC,eS 6 c68 (mkSl v3),eS 22 c75 v5,eS 7 c213 v7,oP 3 2 c58 v14],.grow (List.length v14) 2] (λe hw=>?_)
    exact⟨_,_,(hw.trans (Ye (cs':=[sP v1,bP v0.fC,eS 6 c68 (mkSl v3),eS 22 c75 v5,eS 7 c213 v7,eS 2 c58 (mkSl v14)]) 2 rfl (qc (PSub.refl _) (qc (PSub.refl _) (qc (PSub.refl _) (qc (PSub.refl _) (qc (PSub.refl _) (qc Yp qe)))))))).trans (Yh (H:=[.cells (c27 v0),.cells [sP (ByteArray.mk #[]),bP false,eS 6 c68 Sl.nil,eS 22 c75 Sl.nil,eS 7 c213 Sl.nil,eS 2 c58 Sl.nil],.cells [sP v1,bP v0.fC,eS 6 c68 (mkSl v3),eS 22 c75 v5,eS 7 c213 v7,eS 2 c58 (mkSl v14)]]) 3),mkSl v14,hF,rfl,rfl⟩
   obtain⟨v16,h17,hF⟩:=Xa hF
   rcases cor hF with⟨h18,hF⟩|⟨h18,hF⟩
   ·refine Xi [.r (es 6 (kL 7 c213 v0.fi::es 1 (⟨.pu (.slSl 7 (.c (eS 7 c213 v0.fi)) none (some (.c (iP (if 8<(ln v0.fi)then (8)else (ln v0.fi))))) none) (eS 7 c213 v16),Wg h17⟩::[]))) (⟨.st (.append 7 56 (.c (.sl true .full 0 [])) (.c (eS 7 c213 v16))) [.cells (c27 v0),.cells [sP (ByteArray.mk #[]),bP false,eS 6 c68 Sl.nil,eS 22 c75 Sl.nil,eS 7 c213 Sl.nil,eS 2 c58 Sl.nil],.cells [sP v1,bP v0.fC,eS 6 c68 (mkSl v3),eS 22 c75 v5,.sl true .full 0 [],.sl true .full 0 []]] (.sl true .full 0 []) [.cells (c27 v0),.cells [sP (ByteArray.mk #[]),bP false,eS 6 c68 Sl.nil,eS 22 c75 Sl.nil,eS 7 c213 Sl.nil,eS 2 c58 Sl.nil],.cells [sP v1,bP v0.fC,eS 6 c68 (mkSl v3),eS 22 c75 v5,.sl true .full 0 [],.sl true .full 0 []]] 3,n_appE0 h18⟩::es 2 [])] .normal [(1,.bp 0 0),(2,.bp 1 0),(3,.bp 2 0)] [.cells (c27 v0),.cells [sP (ByteArray.mk #[]),bP false,eS 6 c68 Sl.nil,eS 22 c75 Sl.nil,eS 7 c213 Sl.nil,eS 2 c58 Sl.nil],.cells [sP v1,bP v0.fC,eS 6 c68 (mkSl v3),eS 22 c75 v5,.sl true .full 0 [],.sl true .full 0 []]] (λe hw=>?_)
    exact⟨_,_,hw.trans (Ye (cs':=[sP v1,bP v0.fC,eS 6 c68 (mkSl v3),eS 22 c75 v5,eS 7 c213 Sl.nil,.sl true .full 0 []]) 2 rfl (qc (PSub.refl _) (qc (PSub.refl _) (qc (PSub.refl _) (qc (PSub.refl _) (qc psub_nile (qc (PSub.refl _) qe))))))),Sl.nil,hF,rfl,rfl⟩
   obtain⟨v19,h20,hF⟩:=Xa hF
   refine Xi [.r (es 6 (kL 7 c213 v0.fi::es 1 (⟨.pu (.slSl 7 (.c (eS 7 c213 v0.fi)) none (some (.c (iP (if 8<(ln v0.fi)then (8)else (ln v0.fi))))) none) (eS 7 c213 v16),Wg h17⟩::[]))) (⟨.st (.append 7 56 (.c (.sl true .full 0 [])) (.c (eS 7 c213 v16))) [.cells (c27 v0),.cells [sP (ByteArray.mk #[]),bP false,eS 6 c68 Sl.nil,eS 22 c75 Sl.nil,eS 7 c213 Sl.nil,eS 2 c58 Sl.nil],.cells [sP v1,bP v0.fC,eS 6 c68 (mkSl v3),eS 22 c75 v5,.sl true .full 0 [],.sl true .full 0 []]] (oP 3 7 c213 v19) [.cells (c27 v0),.cells [sP (ByteArray.mk #[]),bP false,eS 6 c68 Sl.nil,eS 22 c75 Sl.nil,eS 7 c213 Sl.nil,eS 2 c58 Sl.nil],.cells [sP v1,bP v0.fC,eS 6 c68 (mkSl v3),eS 22 c75 v5,.sl true .full 0 [],.sl true .full 0 []],.grow (List.length v19) 7] 3,(n_appN0 h20 h18 (by decide) (λ_=>rfl))⟩::es 2 [])] .normal [(1,.bp 0 0),(2,.bp 1 0),(3,.bp 2 0)] [.cells (c27 v0),.cells [sP (ByteArray.mk #[]),bP false,eS 6 c68 Sl.nil,eS 22 c75 Sl.nil,eS 7 c213 Sl.nil,eS 2 c58 Sl.nil],.cells [sP v1,bP v0.fC,eS 6 c68 (mkSl v3),eS 22 c75 v5,oP 3 7 c213 v19,.sl true .full 0 []],.grow (List.length v19) 7] (λe hw=>?_)
   exact⟨_,_,(hw.trans (Ye (cs':=[sP v1,bP v0.fC,eS 6 c68 (mkSl v3),eS 22 c75 v5,eS 7 c213 (mkSl v19),.sl true .full 0 []]) 2 rfl (qc (PSub.refl _) (qc (PSub.refl _) (qc (PSub.refl _) (qc (PSub.refl _) (qc Yp (qc (PSub.refl _) qe)))))))).trans (Yh (H:=[.cells (c27 v0),.cells [sP (ByteArray.mk #[]),bP false,eS 6 c68 Sl.nil,eS 22 c75 Sl.nil,eS 7 c213 Sl.nil,eS 2 c58 Sl.nil],.cells [sP v1,bP v0.fC,eS 6 c68 (mkSl v3),eS 22 c75 v5,eS 7 c213 (mkSl v19),.sl true .full 0 []]]) 3),mkSl v19,hF,rfl,rfl⟩
  refine gP 0 [re 1] [(1,.bp 0 0),(2,.bp 1 0),(3,.bp 2 0),(6,iP 0)] [.cells (c27 v0),.cells [sP (ByteArray.mk #[]),bP false,eS 6 c68 Sl.nil,eS 22 c75 Sl.nil,eS 7 c213 Sl.nil,eS 2 c58 Sl.nil],.cells [sP v1,bP v0.fC,oP 3 6 c68 v3,.sl true .full 0 [],.sl true .full 0 [],.sl true .full 0 []],.grow (List.length v3) 6] ?_
  refine gB 2 ?_
  obtain⟨o24,ho24,hF⟩:=Xa hF
  refine gL ho24 (λ(v21,v22)=>([(1,.bp 0 0),(2,.bp 1 0),(3,.bp 2 0),(6,iP v21)],[.cells (c27 v0),.cells [sP (ByteArray.mk #[]),bP false,eS 6 c68 Sl.nil,eS 22 c75 Sl.nil,eS 7 c213 Sl.nil,eS 2 c58 Sl.nil],.cells [sP v1,bP v0.fC,oP 3 6 c68 v3,oP 4 22 c75 v22,.sl true .full 0 [],.sl true .full 0 []],.grow (List.length v3) 6,.grow (List.length v22) 22])) ((wm).trans ((Yv 22).trans (Ye (cs':=[sP v1,bP v0.fC,oP 3 6 c68 v3,oP 4 22 c75 ([]:List G75),.sl true .full 0 [],.sl true .full 0 []]) 2 rfl (qc (PSub.refl _) (qc (PSub.refl _) (qc (PSub.refl _) (qc psub_nilsl (qc (PSub.refl _) (qc (PSub.refl _) qe))))))))) ?_
  rintro⟨v21,v22⟩ o25 h26 h27
  refine gS ?_
  refine gM (λ(v29:Bool)=>([(1,.bp 0 0),(2,.bp 1 0),(3,.bp 2 0),(6,iP v21),(65,bP v29)],[.cells (c27 v0),.cells [sP (ByteArray.mk #[]),bP false,eS 6 c68 Sl.nil,eS 22 c75 Sl.nil,eS 7 c213 Sl.nil,eS 2 c58 Sl.nil],.cells [sP v1,bP v0.fC,oP 3 6 c68 v3,oP 4 22 c75 v22,.sl true .full 0 [],.sl true .full 0 []],.grow (List.length v3) 6,.grow (List.length v22) 22],JF7_30 v0 v21 v22 v29)) o25 ?_ ?_
  ·rintro v29 h26
   rcases cor h26 with⟨h31,h26⟩|⟨h31,h26⟩
   ·refine Xi [bb h31] .normal [(1,.bp 0 0),(2,.bp 1 0),(3,.bp 2 0),(6,iP v21)] [.cells (c27 v0),.cells [sP (ByteArray.mk #[]),bP false,eS 6 c68 Sl.nil,eS 22 c75 Sl.nil,eS 7 c213 Sl.nil,eS 2 c58 Sl.nil],.cells [sP v1,bP v0.fC,oP 3 6 c68 v3,oP 4 22 c75 v22,.sl true .full 0 [],.sl true .full 0 []],.grow (List.length v3) 6,.grow (List.length v22) 22] (λe hw=>?_)
    refine⟨_,_,hw,?_⟩
    obtain⟨v32,h33,v34,h35,v36,h37,h26⟩:=bs3 h26
    cases h26
    exact g_to [.r (es 5 (kX 22 c75 h33::es 1 (kC (CF28 h35)::es 1 []))) (kA 4 22 c75 h37::es 2 []),re 3] .normal λ_ hw=>⟨rfl,hw⟩
   refine Xi [bb h31] (.exit 2) [(1,.bp 0 0),(2,.bp 1 0),(3,.bp 2 0)] [.cells (c27 v0),.cells [sP (ByteArray.mk #[]),bP false,eS 6 c68 Sl.nil,eS 22 c75 Sl.nil,eS 7 c213 Sl.nil,eS 2 c58 Sl.nil],.cells [sP v1,bP v0.fC,oP 3 6 c68 v3,oP 4 22 c75 v22,.sl true .full 0 [],.sl true .full 0 []],.grow (List.length v3) 6,.grow (List.length v22) 22] (λe hw=>?_)
   cases h26
   obtain rfl:=h27 _ rfl
   refine Xh ?_
   exact⟨_,_,(hw.trans (Ye (cs':=[sP v1,bP v0.fC,eS 6 c68 (mkSl v3),eS 22 c75 (mkSl v22),.sl true .full 0 [],.sl true .full 0 []]) 2 rfl (qc (PSub.refl _) (qc (PSub.refl _) (qc Yp (qc Yp (qc (PSub.refl _) (qc (PSub.refl _) qe)))))))).trans (Yh (H:=[.cells (c27 v0),.cells [sP (ByteArray.mk #[]),bP false,eS 6 c68 Sl.nil,eS 22 c75 Sl.nil,eS 7 c213 Sl.nil,eS 2 c58 Sl.nil],.cells [sP v1,bP v0.fC,eS 6 c68 (mkSl v3),eS 22 c75 (mkSl v22),.sl true .full 0 [],.sl true .full 0 []]]) 3),mkSl v22,hF,rfl,rfl⟩
  rcases cor h26 with⟨h38,h26⟩|⟨h38,h26⟩
  ·exact g_to [.r (es 3 (kL 22 c75 v0.fc::es 2 (rq 2 (bq h38) (kPt (bP (decide (v21<4))) (bP false) h38::[])))) []] .normal λ_ hw=>⟨_,_,hw,decide (v21<4),h26,rfl,rfl⟩
  exact g_to [.r (es 3 (kL 22 c75 v0.fc::es 2 (rp 2 (bq h38) (kPf (.tup []) (bP false) h38::[])))) []] .normal λ_ hw=>⟨_,_,hw,false,h26,rfl,rfl⟩
 refine gP 0 [re 1] [(1,.bp 0 0),(2,.bp 1 0),(3,.bp 2 0),(4,iP 0)] [.cells (c27 v0),.cells [sP (ByteArray.mk #[]),bP false,eS 6 c68 Sl.nil,eS 22 c75 Sl.nil,eS 7 c213 Sl.nil,eS 2 c58 Sl.nil],.cells [sP v1,bP v0.fC,.sl true .full 0 [],.sl true .full 0 [],.sl true .full 0 [],.sl true .full 0 []]] ?_
 refine gB 0 ?_
 obtain⟨o42,ho42,hF⟩:=Xa hF
 refine gL ho42 (λ(v39,v40)=>([(1,.bp 0 0),(2,.bp 1 0),(3,.bp 2 0),(4,iP v39)],[.cells (c27 v0),.cells [sP (ByteArray.mk #[]),bP false,eS 6 c68 Sl.nil,eS 22 c75 Sl.nil,eS 7 c213 Sl.nil,eS 2 c58 Sl.nil],.cells [sP v1,bP v0.fC,oP 3 6 c68 v40,.sl true .full 0 [],.sl true .full 0 [],.sl true .full 0 []],.grow (List.length v40) 6])) ((wm).trans ((Yv 6).trans (Ye (cs':=[sP v1,bP v0.fC,oP 3 6 c68 ([]:List G68),.sl true .full 0 [],.sl true .full 0 [],.sl true .full 0 []]) 2 rfl (qc (PSub.refl _) (qc (PSub.refl _) (qc psub_nilsl (qc (PSub.refl _) (qc (PSub.refl _) (qc (PSub.refl _) qe))))))))) ?_
 rintro⟨v39,v40⟩ o43 h44 h45
 refine gS ?_
 refine gM (λ(v47:Bool)=>([(1,.bp 0 0),(2,.bp 1 0),(3,.bp 2 0),(4,iP v39),(25,bP v47)],[.cells (c27 v0),.cells [sP (ByteArray.mk #[]),bP false,eS 6 c68 Sl.nil,eS 22 c75 Sl.nil,eS 7 c213 Sl.nil,eS 2 c58 Sl.nil],.cells [sP v1,bP v0.fC,oP 3 6 c68 v40,.sl true .full 0 [],.sl true .full 0 [],.sl true .full 0 []],.grow (List.length v40) 6],JF7_48 v0 v39 v40 v47)) o43 ?_ ?_
 ·rintro v47 h44
  rcases cor h44 with⟨h49,h44⟩|⟨h49,h44⟩
  ·refine Xi [bb h49] .normal [(1,.bp 0 0),(2,.bp 1 0),(3,.bp 2 0),(4,iP v39)] [.cells (c27 v0),.cells [sP (ByteArray.mk #[]),bP false,eS 6 c68 Sl.nil,eS 22 c75 Sl.nil,eS 7 c213 Sl.nil,eS 2 c58 Sl.nil],.cells [sP v1,bP v0.fC,oP 3 6 c68 v40,.sl true .full 0 [],.sl true .full 0 [],.sl true .full 0 []],.grow (List.length v40) 6] (λe hw=>?_)
   refine⟨_,_,hw,?_⟩
   refine gS ?_
   refine gB 1 ?_
   obtain⟨v50,h51,h44⟩:=Xa h44
   refine gP 0 [.r (es 3 (kX 6 c68 h51::es 3 [])) []] [(1,.bp 0 0),(2,.bp 1 0),(3,.bp 2 0),(4,iP v39),(5,.bp 4 0)] [.cells (c27 v0),.cells [sP (ByteArray.mk #[]),bP false,eS 6 c68 Sl.nil,eS 22 c75 Sl.nil,eS 7 c213 Sl.nil,eS 2 c58 Sl.nil],.cells [sP v1,bP v0.fC,oP 3 6 c68 v40,.sl true .full 0 [],.sl true .full 0 [],.sl true .full 0 []],.grow (List.length v40) 6,.cells (c68 v50)] ?_
   refine gM (λ(x:ByteArray×(Sl G184))=>match x with|(v52,v53)=>([(1,.bp 0 0),(2,.bp 1 0),(3,.bp 2 0),(4,iP v39),(5,.bp 4 0)],[.cells (c27 v0),.cells [sP (ByteArray.mk #[]),bP false,eS 6 c68 Sl.nil,eS 22 c75 Sl.nil,eS 7 c213 Sl.nil,eS 2 c58 Sl.nil],.cells [sP v1,bP v0.fC,oP 3 6 c68 v40,.sl true .full 0 [],.sl true .full 0 [],.sl true .full 0 []],.grow (List.length v40) 6,.cells (c58 v50.fID++[sP v52]++c65 v50.faA++[eS 3 c184 v53])],JF7_54 v40 v50 v39 v52 v53)) o43 ?_ ?_
   ·rintro⟨v52,v53⟩ h44
    obtain⟨v55,h56,h44⟩:=Xa h44
    refine Xi [.r (es 4 (kA 3 6 c68 h56::es 2 [])) []] .normal [(1,.bp 0 0),(2,.bp 1 0),(3,.bp 2 0),(4,iP v39)] [.cells (c27 v0),.cells [sP (ByteArray.mk #[]),bP false,eS 6 c68 Sl.nil,eS 22 c75 Sl.nil,eS 7 c213 Sl.nil,eS 2 c58 Sl.nil],.cells [sP v1,bP v0.fC,oP 3 6 c68 v55,.sl true .full 0 [],.sl true .full 0 [],.sl true .full 0 []],.grow (List.length v55) 6,.cells (c58 v50.fID++[sP v52]++c65 v50.faA++[eS 3 c184 v53])] (λe hw=>?_)
    refine⟨_,_,hw,?_⟩
    cases h44
    exact g_tc 4 [re 3] .normal λ_ _ hw=>⟨rfl,hw⟩
   obtain⟨v57,h58,v59,h60,h44⟩:=bs2 h44
   rcases cor h44 with⟨h61,h44⟩|⟨h61,h44⟩
   ·exact g_to [.r (es 6 (⟨.pu (.slStr (.c (sP v50.fav)) none (some (.c (iP (if 30<(lns v50.fav)then (30)else (lns v50.fav)))))) (sP v57),n_subl h58⟩::es 5 (kL 3 c184 v50.ft::es 1 (⟨.pu (.slSl 3 (.c (eS 3 c184 v50.ft)) none (some (.c (iP (if 2<(ln v50.ft)then (2)else (ln v50.ft))))) none) (eS 3 c184 v59),Wg h60⟩::⟨.st (.append 3 24 (.c (eS 3 c184 (Sl.full []))) (.c (eS 3 c184 v59))) [.cells (c27 v0),.cells [sP (ByteArray.mk #[]),bP false,eS 6 c68 Sl.nil,eS 22 c75 Sl.nil,eS 7 c213 Sl.nil,eS 2 c58 Sl.nil],.cells [sP v1,bP v0.fC,oP 3 6 c68 v40,.sl true .full 0 [],.sl true .full 0 [],.sl true .full 0 []],.grow (List.length v40) 6,.cells (c68 v50)] (eS 3 c184 (Sl.full [])) [.cells (c27 v0),.cells [sP (ByteArray.mk #[]),bP false,eS 6 c68 Sl.nil,eS 22 c75 Sl.nil,eS 7 c213 Sl.nil,eS 2 c58 Sl.nil],.cells [sP v1,bP v0.fC,oP 3 6 c68 v40,.sl true .full 0 [],.sl true .full 0 [],.sl true .full 0 []],.grow (List.length v40) 6,.cells (c68 v50)] 5,n_appE h61⟩::es 1 [])))) (es 3 [])] .normal λ_ hw=>⟨_,_,hw,(v57,Sl.full []),h44,rfl,rfl⟩
   obtain⟨v62,h63,h44⟩:=Xa h44
   refine Xi [.r (es 6 (⟨.pu (.slStr (.c (sP v50.fav)) none (some (.c (iP (if 30<(lns v50.fav)then (30)else (lns v50.fav)))))) (sP v57),n_subl h58⟩::es 5 (kL 3 c184 v50.ft::es 1 (⟨.pu (.slSl 3 (.c (eS 3 c184 v50.ft)) none (some (.c (iP (if 2<(ln v50.ft)then (2)else (ln v50.ft))))) none) (eS 3 c184 v59),Wg h60⟩::⟨.st (.append 3 24 (.c (eS 3 c184 (Sl.full []))) (.c (eS 3 c184 v59))) [.cells (c27 v0),.cells [sP (ByteArray.mk #[]),bP false,eS 6 c68 Sl.nil,eS 22 c75 Sl.nil,eS 7 c213 Sl.nil,eS 2 c58 Sl.nil],.cells [sP v1,bP v0.fC,oP 3 6 c68 v40,.sl true .full 0 [],.sl true .full 0 [],.sl true .full 0 []],.grow (List.length v40) 6,.cells (c68 v50)] (oP 5 3 c184 v62) [.cells (c27 v0),.cells [sP (ByteArray.mk #[]),bP false,eS 6 c68 Sl.nil,eS 22 c75 Sl.nil,eS 7 c213 Sl.nil,eS 2 c58 Sl.nil],.cells [sP v1,bP v0.fC,oP 3 6 c68 v40,.sl true .full 0 [],.sl true .full 0 [],.sl true .full 0 []],.grow (List.length v40) 6,.cells (c68 v50),.grow (List.length v62) 3] 5,(n_appN h63 h61 (by decide) (λ_=>rfl))⟩::es 1 [])))) (es 3 [])] .normal [(1,.bp 0 0),(2,.bp 1 0),(3,.bp 2 0),(4,iP v39),(5,.bp 4 0)] [.cells (c27 v0),.cells [sP (ByteArray.mk #[]),bP false,eS 6 c68 Sl.nil,eS 22 c75 Sl.nil,eS 7 c213 Sl.nil,eS 2 c58 Sl.nil],.cells [sP v1,bP v0.fC,oP 3 6 c68 v40,.sl true .full 0 [],.sl true .full 0 [],.sl true .full 0 []],.grow (List.length v40) 6,.cells (c58 v50.fID++[sP v57]++c65 v50.faA++[oP 5 3 c184 v62]),.grow (List.length v62) 3] (λe hw=>?_)
   exact⟨_,_,(hw.trans (Ye (cs':=[iP v50.fID.fO,iP v50.fID.fT,sP v57,iP v50.faA.fai,iP v50.faA.fac,eS 3 c184 (mkSl v62)]) 4 rfl (qc (PSub.refl _) (qc (PSub.refl _) (qc (PSub.refl _) (qc (PSub.refl _) (qc (PSub.refl _) (qc Yp qe)))))))).trans (Yh (H:=[.cells (c27 v0),.cells [sP (ByteArray.mk #[]),bP false,eS 6 c68 Sl.nil,eS 22 c75 Sl.nil,eS 7 c213 Sl.nil,eS 2 c58 Sl.nil],.cells [sP v1,bP v0.fC,oP 3 6 c68 v40,.sl true .full 0 [],.sl true .full 0 [],.sl true .full 0 []],.grow (List.length v40) 6,.cells (c58 v50.fID++[sP v57]++c65 v50.faA++[eS 3 c184 (mkSl v62)])]) 5),(v57,mkSl v62),h44,rfl,rfl⟩
  cases h44
  obtain rfl:=h45 _ rfl
  exact g_to [bb h49] (.exit 0) λ_ hw=>Xh (⟨_,_,hw,v40,hF,rfl,rfl⟩)
 rcases cor h44 with⟨h64,h44⟩|⟨h64,h44⟩
 ·exact g_to [.r (es 3 (kL 6 c68 v0.fh::es 2 (rq 2 (bq h64) (kPt (bP (decide (v39<3))) (bP false) h64::[])))) []] .normal λ_ hw=>⟨_,_,hw,decide (v39<3),h44,rfl,rfl⟩
 exact g_to [.r (es 3 (kL 6 c68 v0.fh::es 2 (rp 2 (bq h64) (kPf (.tup []) (bP false) h64::[])))) []] .normal λ_ hw=>⟨_,_,hw,false,h44,rfl,rfl⟩
theorem CF8 {v0 out} (hF:F8 v0=some out):A0 8 [.agg (c27 v0)] (eS 3 c159 out):=by
 refine gC Tryz.func8 ?_
 obtain⟨v1,h2,v3,h4,hF⟩:=bs2 hF
 obtain rfl:=soj hF
 exact gE [re 2,.r (es 1 (kC (CF29 h2)::es 1 [])) [],.r (es 2 (kL 3 c159 v1::es 1 (⟨.pu (.slSl 3 (.c (eS 3 c159 v1)) none (some (.c (iP (if 200<(ln v1)then (200)else (ln v1))))) none) (eS 3 c159 v3),Wg h4⟩::es 1 []))) []]
theorem CF79 {v0 out} (hF:F79 v0=some out):A0 79 [.agg (c80 v0)] (.tup [iP out.1,iP out.2]):=by
 refine gC Tryz.func79 ?_
 obtain⟨v1,h2,hF⟩:=Xa hF
 rcases cor hF with⟨h3,hF⟩|⟨h3,hF⟩
 ·obtain rfl:=soj hF
  exact gE [re 3,.r (es 1 (kC (CF168 h2)::es 1 [])) [],re 2,bb h3,re 3]
 obtain rfl:=soj hF
 exact gE [re 3,.r (es 1 (kC (CF168 h2)::es 1 [])) [],re 2,bb h3,re 8]
theorem CF170 {v0 out} (hF:F170 v0=some out):A0 170 [iP v0] (bP out):=by
 refine gC Tryz.func170 ?_
 rcases cor hF with⟨h1,hF⟩|⟨h1,hF⟩
 ·obtain rfl:=soj hF
  exact gE [re 1,.r (es 3 (rq 2 (bq h1) (kPt (bP (decide (v0<=6))) (bP false) h1::es 1 []))) []]
 obtain rfl:=soj hF
 exact gE [re 1,.r (es 3 (rp 2 (bq h1) (kPf (.tup []) (bP false) h1::es 1 []))) []]
theorem CF298 {out} (hF:F298=some out):A0 298 [] (.agg (c273 out)):=by
 refine gC Tryz.func298 ?_
 obtain rfl:=soj hF
 exact gE [re 1,re 2]
theorem CF244 {v0 out} (hF:F244 v0=some out):A0 244 [iP v0] (iP out):=by
 refine gC Tryz.func244 ?_
 refine gP 0 [re 1] [(0,iP v0)] [] ?_
 refine gM (λ(_:Unit)=>([],[],JF244_1)) out ?_ ?_
 ·rintro⟨⟩ hF
  obtain rfl:=soj hF
  exact gE [re 1]
 obtain⟨v2,h3,hF⟩:=Xa hF
 refine gP 0 [.r (kC (CF298 h3)::es 1 []) []] [(0,iP v0),(5,.agg (c273 v2)),(6,iP 0)] [] ?_
 refine gB 0 ?_
 obtain⟨o6,ho6,hF⟩:=Xa hF
 refine gL ho6 (λv4=>([(0,iP v0),(5,.agg (c273 v2)),(6,iP v4)],[])) wm ?_
 rintro v4 o7 h8 h9
 rcases cor h8 with⟨h11,h8⟩|⟨h11,h8⟩
 ·obtain⟨v12,h13,h8⟩:=Xa h8
  rcases cor h8 with⟨h14,h8⟩|⟨h14,h8⟩
  ·cases h8
   obtain rfl:=h9 _ rfl
   obtain rfl:=soj hF
   exact gE [re 1,bb h11,.r (es 1 (⟨.pu (.idxA 1 7 none (.c (.agg (c273 v2))) (.c (iP v4))) (iP v12),(n_idxA1 (f:=λx=>(iP x)) h13 rfl)⟩::es 2 [])) [],re 3,bb h14,re 3]
  cases h8
  exact g_to [re 1,bb h11,.r (es 1 (⟨.pu (.idxA 1 7 none (.c (.agg (c273 v2))) (.c (iP v4))) (iP v12),(n_idxA1 (f:=λx=>(iP x)) h13 rfl)⟩::es 2 [])) [],re 3,bb h14,re 2] .normal λ_ hw=>⟨rfl,hw⟩
 cases h8
 obtain rfl:=h9 _ rfl
 exact g_to [re 1,bb h11] (.exit 0) λ_ hw=>Xh (⟨_,_,hw,(),hF,rfl,rfl⟩)
theorem CF171 {v0 v1 out} (hF:F171 v0 v1=some out):A0 171 [iP v0,iP v1] (iP out):=by
 refine gC Tryz.func171 ?_
 obtain⟨v2,h3,hF⟩:=Xa hF
 rcases cor hF with⟨h4,hF⟩|⟨h4,hF⟩
 ·obtain rfl:=soj hF
  exact gE [re 1,.r (es 1 (kC (CF244 h3)::es 2 [])) [],re 4,bb h4,re 1]
 rcases cor hF with⟨h5,hF⟩|⟨h5,hF⟩
 ·obtain rfl:=soj hF
  exact gE [re 1,.r (es 1 (kC (CF244 h3)::es 2 [])) [],re 4,bb h4,re 6,bb h5,re 1]
 obtain rfl:=soj hF
 exact gE [re 1,.r (es 1 (kC (CF244 h3)::es 2 [])) [],re 4,bb h4,re 6,bb h5,re 1]
theorem CF80 {v0 v1 out} (hF:F80 v0 v1=some out):A0 80 [iP v0,iP v1] (.tup [iP out.1,iP out.2]):=by
 refine gC Tryz.func80 ?_
 obtain⟨v2,h3,hF⟩:=Xa hF
 rcases cor hF with⟨h4,hF⟩|⟨h4,hF⟩
 ·obtain rfl:=soj hF
  exact gE [re 2,.r (es 1 (kC (CF78 h3)::es 1 [])) [],re 2,bb h4,re 3]
 obtain⟨v5,h6,hF⟩:=Xa hF
 rcases cor hF with⟨h7,hF⟩|⟨h7,hF⟩
 ·obtain rfl:=soj hF
  exact gE [re 2,.r (es 1 (kC (CF78 h3)::es 1 [])) [],re 2,bb h4,.r (es 1 (kC (CF170 h6)::es 1 [])) [],bb h7,re 2]
 obtain⟨v8,h9,hF⟩:=Xa hF
 obtain rfl:=soj hF
 exact gE [re 2,.r (es 1 (kC (CF78 h3)::es 1 [])) [],re 2,bb h4,.r (es 1 (kC (CF170 h6)::es 1 [])) [],bb h7,.r (es 2 (kC (CF171 h9)::es 2 [])) []]
theorem CF81 {v0 v1 out} (hF:F81 v0 v1=some out):A0 81 [iP v0,iP v1] (iP out):=by
 refine gC Tryz.func81 ?_
 rcases cor hF with⟨h2,hF⟩|⟨h2,hF⟩
 ·obtain⟨v3,h4,hF⟩:=Xa hF
  obtain rfl:=soj hF
  exact gE [re 1,re 6,re 2,bb h2,re 6,.r (es 5 (⟨.pu (.idxA 1 7 none (.c (.agg [iP 0,iP 2,iP 4,iP 5,iP 7,iP 9,iP 11])) (.c (iP (wi ((Int.tmod v0 7)+7))))) (iP v3),(n_idxA1 (f:=λx=>(iP x)) h4 rfl)⟩::es 4 [])) []]
 obtain⟨v5,h6,hF⟩:=Xa hF
 obtain rfl:=soj hF
 exact gE [re 1,re 6,re 2,bb h2,.r (es 5 (⟨.pu (.idxA 1 7 none (.c (.agg [iP 0,iP 2,iP 4,iP 5,iP 7,iP 9,iP 11])) (.c (iP (Int.tmod v0 7)))) (iP v5),(n_idxA1 (f:=λx=>(iP x)) h6 rfl)⟩::es 4 [])) []]
theorem CF30 {v0 v1 out} (hF:F30 v0 v1=some out):A0 30 [.agg (c80 v0),iP v1] (.tup [iP out.1,iP out.2.1,iP out.2.2]):=by
 refine gC Tryz.func30 ?_
 obtain⟨v2,h3,hF⟩:=Xa hF
 rcases cor hF with⟨h4,hF⟩|⟨h4,hF⟩
 ·obtain rfl:=soj hF
  exact gE [re 4,.r (es 1 (kC (CF77 h3)::es 5 [])) [],re 2,bb h4,re 4]
 obtain⟨v5,h6,hF⟩:=Xa hF
 rcases cor hF with⟨h7,hF⟩|⟨h7,hF⟩
 ·obtain rfl:=soj hF
  exact gE [re 4,.r (es 1 (kC (CF77 h3)::es 5 [])) [],re 2,bb h4,.r (es 1 (kC (CF78 h6)::es 1 [])) [],re 2,bb h7,re 4]
 obtain⟨v8,h9,v10,h11,v12,h13,hF⟩:=bs3 hF
 obtain⟨v14,h15,v16,h17,hF⟩:=bs2 hF
 obtain rfl:=soj hF
 exact gE [re 4,.r (es 1 (kC (CF77 h3)::es 5 [])) [],re 2,bb h4,.r (es 1 (kC (CF78 h6)::es 1 [])) [],re 2,bb h7,.r (es 1 (kC (CF79 h9)::es 5 [])) [],.r (es 5 (kC (CF80 h11)::es 5 [])) [],.r (es 5 (kC (CF80 h13)::es 5 [])) [],.r (es 3 (kC (CF81 h15)::es 6 (kC (CF81 h17)::es 6 []))) []]
end
end Go.Proofs.YtibndgdocbbbeaaGreat
set_option maxRecDepth 100000
set_option maxHeartbeats 40000000
set_option synthInstance.maxSize 100000
namespace Go.Proofs.YtibndgdocbbbeaaGreat
open Go.PE
noncomputable section
theorem CF82 {v0 v1 out} (hF:F82 v0 v1=some out):A0 82 [iP v0,iP v1] (eS 3 c86 out):=by
 refine gC Tryz.func82 ?_
 refine gP 1 [re 1,re 4] [(0,iP v0),(1,iP v1),(5,iP (if 511<(wi (Int.tdiv v0 30240))then (511)else (wi (Int.tdiv v0 30240))))] [] ?_
 refine gM (λ(v2:Int)=>([(0,iP v0),(1,iP v1),(5,iP v2)],[],JF82_3 v0 v1 v2)) out ?_ ?_
 ·rintro v2 hF
  rcases cor hF with⟨h4,hF⟩|⟨h4,hF⟩
  ·obtain rfl:=soj hF
   exact gE [re 2,bb h4,re 1]
  refine gP 1 [re 2,bb h4,re 1] [(0,iP v0),(1,iP v1),(5,iP v2),(6,eS 3 c86 Sl.nil)] [] ?_
  refine gM (λ(v5:List G86)=>([(6,oP 0 3 c86 v5)],[.grow (List.length v5) 3],JF82_6 v5)) out ?_ ?_
  ·rintro v5 hF
   refine Xi [re 2] .ret [(4,oP 0 3 c86 v5)] [.grow (List.length v5) 3] (λe hw=>?_)
   obtain rfl:=soj hF
   exact Zh (r:=(oP 0 3 c86 v5)) (.inr rfl) hw (by kernel_rfl) (Wk cl86) ⟨rfl,rfl⟩
  refine gP 0 [re 2] [(0,iP v0),(1,iP v1),(5,iP v2),(6,eS 3 c86 Sl.nil),(19,iP v2),(20,iP 0)] [] ?_
  refine gB 0 ?_
  obtain⟨o10,ho10,hF⟩:=Xa hF
  refine gL ho10 (λ(v7,v8)=>([(0,iP v0),(1,iP v1),(5,iP v2),(6,oP 0 3 c86 v7),(19,iP v2),(20,iP v8)],[.grow (List.length v7) 3])) (((weak_mk2 (le':=[(0,iP v0),(1,iP v1),(5,iP v2),(6,eS 3 c86 Sl.nil),(19,iP v2),(20,iP 0)]) (by kernel_rfl)).trans (weak_sub (le':=[(0,iP v0),(1,iP v1),(5,iP v2),(6,oP 0 3 c86 []),(19,iP v2),(20,iP 0)]) (wc (PSub.refl _) (wc (PSub.refl _) (wc (PSub.refl _) (wc Wf (wc (PSub.refl _) (wc (PSub.refl _) we)))))))).trans (Yv 3)) ?_
  rintro⟨v7,v8⟩ o11 h12 h13
  rcases cor h12 with⟨h15,h12⟩|⟨h15,h12⟩
  ·obtain⟨v16,h17,v18,h19,h12⟩:=bs2 h12
   rcases cor h12 with⟨h20,h12⟩|⟨h20,h12⟩
   ·obtain⟨v21,h22,h12⟩:=Xa h12
    cases h12
    exact g_tc 1 [re 1,bb h15,re 2,.r (es 4 (⟨.pu (.bin .quo (.c (iP (wi (v8*v0)))) (.c (iP v2))) (iP v16),n_quo h17⟩::es 5 (⟨.pu (.bin .quo (.c (iP (wi ((wi (v8+1))*v0)))) (.c (iP v2))) (iP v18),n_quo h19⟩::es 2 []))) (es 1 []),re 3,bb h20,re 3,.r (es 3 (kA 0 3 c86 h22::es 1 [])) [],re 2] .normal λ_ _ hw=>⟨rfl,hw⟩
   obtain⟨v23,h24,h12⟩:=Xa h12
   cases h12
   exact g_tc 1 [re 1,bb h15,re 2,.r (es 4 (⟨.pu (.bin .quo (.c (iP (wi (v8*v0)))) (.c (iP v2))) (iP v16),n_quo h17⟩::es 5 (⟨.pu (.bin .quo (.c (iP (wi ((wi (v8+1))*v0)))) (.c (iP v2))) (iP v18),n_quo h19⟩::es 2 []))) (es 1 []),re 3,bb h20,.r (es 3 (kA 0 3 c86 h24::es 1 [])) [],re 2] .normal λ_ _ hw=>⟨rfl,hw⟩
  cases h12
  obtain rfl:=h13 _ rfl
  exact g_to [re 1,bb h15] (.exit 0) λ_ hw=>Xh (⟨_,_,hw,v7,hF,rfl,rfl⟩)
 rcases cor hF with⟨h25,hF⟩|⟨h25,hF⟩
 ·exact g_to [re 3,bb h25,re 3] .normal λ_ hw=>⟨_,_,hw,wi ((if 511<(wi (Int.tdiv v0 30240))then (511)else (wi (Int.tdiv v0 30240)))-(1)),hF,rfl,rfl⟩
 exact g_to [re 3,bb h25] .normal λ_ hw=>⟨_,_,hw,if 511<(wi (Int.tdiv v0 30240))then (511)else (wi (Int.tdiv v0 30240)),hF,rfl,rfl⟩
theorem CF31 {v0 v1 v2 v3 out} (hF:F31 v0 v1 v2 v3=some out):A0 31 [iP v0,iP v1,iP v2,iP v3] (.tup [eS 3 c86 out.1,iP out.2]):=by
 refine gC Tryz.func31 ?_
 refine gP 0 [re 2] [(0,iP v0),(1,iP v1),(2,iP v2),(3,iP v3)] [] ?_
 refine gS ?_
 refine gB 0 ?_
 refine gM (λ(v4:Bool)=>([(0,iP v0),(1,iP v1),(2,iP v2),(3,iP v3),(13,bP v4)],[],JF31_5 v1 v0 v2 v3 v4)) out ?_ ?_
 ·rintro v4 hF
  refine gK v4 (λh6=>?_) (λh6=>?_)
  ·replace hF:=cond_t h6 hF
   obtain rfl:=soj hF
   exact gE [re 2]
  replace hF:=cond_f h6 hF
  refine gM (λ(v7:Bool)=>([(0,iP v0),(1,iP v1),(2,iP v2),(3,iP v3),(20,bP v7)],[],JF31_8 v0 v1 v2 v3 v7)) out ?_ ?_
  ·rintro v7 hF
   rcases cor hF with⟨h9,hF⟩|⟨h9,hF⟩
   ·obtain rfl:=soj hF
    exact gE [bb h9,re 2]
   refine Xi [bb h9] .normal [(0,iP v0),(1,iP v1),(2,iP v2),(3,iP v3)] [] (λe hw=>?_)
   refine⟨_,_,hw,?_⟩
   refine gP 2 [re 1,re 3,re 3] [(0,iP v0),(1,iP v1),(2,iP v2),(3,iP v3),(10,eS 3 c86 Sl.nil),(11,iP (wi (Int.tdiv v1 4))),(12,iP (if 30240<(wi (Int.tdiv v1 4))then (30240)else (wi (Int.tdiv v1 4))))] [] ?_
   refine gM (λ(v10:Sl G86)=>([(1,iP v1),(10,eS 3 c86 v10)],[],JF31_11 v1 v10)) out ?_ ?_
   ·rintro v10 hF
    rcases cor hF with⟨h12,hF⟩|⟨h12,hF⟩
    ·obtain rfl:=soj hF
     exact gE [.r (es 1 (⟨.pu (.eqN .sl false (.c (eS 3 c86 v10)) (.c (.sl true .full 0 []))) (bP (Sl.isNil v10)),Wm rfl⟩::[])) [],bb h12,re 4,re 3]
    obtain rfl:=soj hF
    exact gE [.r (es 1 (⟨.pu (.eqN .sl false (.c (eS 3 c86 v10)) (.c (.sl true .full 0 []))) (bP (Sl.isNil v10)),Wm rfl⟩::[])) [],bb h12,re 3]
   refine gB 1 ?_
   refine gP 0 [re 3] [(0,iP v0),(1,iP v1),(2,iP v2),(3,iP v3),(10,eS 3 c86 Sl.nil),(11,iP (wi (Int.tdiv v1 4))),(12,iP (if 30240<(wi (Int.tdiv v1 4))then (30240)else (wi (Int.tdiv v1 4)))),(47,bP (v0==1))] [] ?_
   refine gK (v0==1) (λh13=>?_) (λh13=>?_)
   ·replace hF:=cond_t h13 hF
    obtain⟨v14,h15,hF⟩:=Xa hF
    exact g_to [.r (es 2 (kC (CF82 h15)::es 1 [])) []] .normal λ_ hw=>⟨_,_,hw,v14,hF,rfl,rfl⟩
   replace hF:=cond_f h13 hF
   refine gM (λ(v16:Bool)=>([(0,iP v0),(1,iP v1),(2,iP v2),(3,iP v3),(10,eS 3 c86 Sl.nil),(11,iP (wi (Int.tdiv v1 4))),(12,iP (if 30240<(wi (Int.tdiv v1 4))then (30240)else (wi (Int.tdiv v1 4)))),(53,bP v16)],[],JF31_17 v1 v2 v3 v0 v16)) out ?_ ?_
   ·rintro v16 hF
    refine gK v16 (λh18=>?_) (λh18=>?_)
    ·replace hF:=cond_t h18 hF
     exact g_to [re 19] .normal λ_ hw=>⟨_,_,hw,Sl.full [(⟨0,wi (Int.tdiv v1 4),v2⟩:G86),(⟨wi (Int.tdiv v1 4),wi (2*(wi (Int.tdiv v1 4))),0⟩:G86),(⟨wi (2*(wi (Int.tdiv v1 4))),wi (3*(wi (Int.tdiv v1 4))),v3⟩:G86),(⟨wi (3*(wi (Int.tdiv v1 4))),v1,0⟩:G86)],hF,rfl,rfl⟩
    replace hF:=cond_f h18 hF
    refine gM (λ(v19:Bool)=>([(0,iP v0),(1,iP v1),(2,iP v2),(3,iP v3),(10,eS 3 c86 Sl.nil),(11,iP (wi (Int.tdiv v1 4))),(12,iP (if 30240<(wi (Int.tdiv v1 4))then (30240)else (wi (Int.tdiv v1 4)))),(78,bP v19)],[],JF31_20 v1 v3 v0 v2 v19)) out ?_ ?_
    ·rintro v19 hF
     refine gK v19 (λh21=>?_) (λh21=>?_)
     ·replace hF:=cond_t h21 hF
      exact g_to [re 13] .normal λ_ hw=>⟨_,_,hw,Sl.full [(⟨0,if 30240<(wi (Int.tdiv v1 4))then (30240)else (wi (Int.tdiv v1 4)),0⟩:G86),(⟨if 30240<(wi (Int.tdiv v1 4))then (30240)else (wi (Int.tdiv v1 4)),wi (2*(if 30240<(wi (Int.tdiv v1 4))then (30240)else (wi (Int.tdiv v1 4)))),v3⟩:G86),(⟨wi (2*(if 30240<(wi (Int.tdiv v1 4))then (30240)else (wi (Int.tdiv v1 4)))),v1,0⟩:G86)],hF,rfl,rfl⟩
     replace hF:=cond_f h21 hF
     refine gM (λ(v22:Bool)=>([(1,iP v1),(2,iP v2),(10,eS 3 c86 Sl.nil),(12,iP (if 30240<(wi (Int.tdiv v1 4))then (30240)else (wi (Int.tdiv v1 4)))),(97,bP v22)],[],JF31_23 v1 v2 v22)) out ?_ ?_
     ·rintro v22 hF
      rcases cor hF with⟨h24,hF⟩|⟨h24,hF⟩
      ·exact g_to [bb h24,re 13] .normal λ_ hw=>⟨_,_,hw,Sl.full [(⟨0,if 30240<(wi (Int.tdiv v1 4))then (30240)else (wi (Int.tdiv v1 4)),0⟩:G86),(⟨if 30240<(wi (Int.tdiv v1 4))then (30240)else (wi (Int.tdiv v1 4)),wi (2*(if 30240<(wi (Int.tdiv v1 4))then (30240)else (wi (Int.tdiv v1 4)))),v2⟩:G86),(⟨wi (2*(if 30240<(wi (Int.tdiv v1 4))then (30240)else (wi (Int.tdiv v1 4)))),v1,0⟩:G86)],hF,rfl,rfl⟩
      exact g_to [bb h24] .normal λ_ hw=>⟨_,_,hw,Sl.nil,hF,rfl,rfl⟩
     rcases cor hF with⟨h25,hF⟩|⟨h25,hF⟩
     ·exact g_to [.r (es 3 (rq 2 (bq h25) (kPt (bP (decide ((wi (Int.tdiv v1 4))>0))) (bP false) h25::es 1 []))) []] .normal λ_ hw=>⟨_,_,hw,decide ((wi (Int.tdiv v1 4))>0),hF,rfl,rfl⟩
     exact g_to [.r (es 3 (rp 2 (bq h25) (kPf (.tup []) (bP false) h25::es 1 []))) []] .normal λ_ hw=>⟨_,_,hw,false,hF,rfl,rfl⟩
    rcases cor hF with⟨h26,hF⟩|⟨h26,hF⟩
    ·exact g_to [.r (es 3 (rq 2 (bq h26) (kPt (bP (decide ((wi (Int.tdiv v1 4))>0))) (bP false) h26::es 1 []))) []] .normal λ_ hw=>⟨_,_,hw,decide ((wi (Int.tdiv v1 4))>0),hF,rfl,rfl⟩
    exact g_to [.r (es 3 (rp 2 (bq h26) (kPf (.tup []) (bP false) h26::es 1 []))) []] .normal λ_ hw=>⟨_,_,hw,false,hF,rfl,rfl⟩
   rcases cor hF with⟨h27,hF⟩|⟨h27,hF⟩
   ·exact g_to [.r (es 3 (rq 2 (bq h27) (kPt (bP (decide ((wi (Int.tdiv v1 4))>0))) (bP false) h27::es 1 []))) []] .normal λ_ hw=>⟨_,_,hw,decide ((wi (Int.tdiv v1 4))>0),hF,rfl,rfl⟩
   exact g_to [.r (es 3 (rp 2 (bq h27) (kPf (.tup []) (bP false) h27::es 1 []))) []] .normal λ_ hw=>⟨_,_,hw,false,hF,rfl,rfl⟩
  rcases cor hF with⟨h28,hF⟩|⟨h28,hF⟩
  ·exact g_to [.r (es 3 (rp 2 (bq h28) (kPt (bP true) (.tup []) h28::es 1 (rp 2 bqT (es 2 (rp 2 bqT (es 2 (rp 2 bqT (es 2 (rp 2 bqT (es 2 []))))))))))) []] .normal λ_ hw=>⟨_,_,hw,true,hF,rfl,rfl⟩
  rcases cor hF with⟨h29,hF⟩|⟨h29,hF⟩
  ·exact g_to [.r (es 3 (rq 2 (bq h28) (kPf (bP true) (bP (decide (v1>4398046511104))) h28::es 1 (rp 2 (bq h29) (kPt (bP true) (.tup []) h29::es 1 (rp 2 bqT (es 2 (rp 2 bqT (es 2 (rp 2 bqT (es 2 []))))))))))) []] .normal λ_ hw=>⟨_,_,hw,true,hF,rfl,rfl⟩
  rcases cor hF with⟨h30,hF⟩|⟨h30,hF⟩
  ·exact g_to [.r (es 3 (rq 2 (bq h28) (kPf (bP true) (bP (decide (v1>4398046511104))) h28::es 1 (rq 2 (bq h29) (kPf (bP true) (bP (decide (v2<1))) h29::es 1 (rp 2 (bq h30) (kPt (bP true) (.tup []) h30::es 1 (rp 2 bqT (es 2 (rp 2 bqT (es 2 []))))))))))) []] .normal λ_ hw=>⟨_,_,hw,true,hF,rfl,rfl⟩
  rcases cor hF with⟨h31,hF⟩|⟨h31,hF⟩
  ·exact g_to [.r (es 3 (rq 2 (bq h28) (kPf (bP true) (bP (decide (v1>4398046511104))) h28::es 1 (rq 2 (bq h29) (kPf (bP true) (bP (decide (v2<1))) h29::es 1 (rq 2 (bq h30) (kPf (bP true) (bP (decide (v2>12))) h30::es 1 (rp 2 (bq h31) (kPt (bP true) (.tup []) h31::es 1 (rp 2 bqT (es 2 []))))))))))) []] .normal λ_ hw=>⟨_,_,hw,true,hF,rfl,rfl⟩
  rcases cor hF with⟨h32,hF⟩|⟨h32,hF⟩
  ·exact g_to [.r (es 3 (rq 2 (bq h28) (kPf (bP true) (bP (decide (v1>4398046511104))) h28::es 1 (rq 2 (bq h29) (kPf (bP true) (bP (decide (v2<1))) h29::es 1 (rq 2 (bq h30) (kPf (bP true) (bP (decide (v2>12))) h30::es 1 (rq 2 (bq h31) (kPf (bP true) (bP (decide (v3<(-12)))) h31::es 1 (rp 2 (bq h32) (kPt (bP true) (.tup []) h32::es 1 []))))))))))) []] .normal λ_ hw=>⟨_,_,hw,true,hF,rfl,rfl⟩
  exact g_to [.r (es 3 (rq 2 (bq h28) (kPf (bP true) (bP (decide (v1>4398046511104))) h28::es 1 (rq 2 (bq h29) (kPf (bP true) (bP (decide (v2<1))) h29::es 1 (rq 2 (bq h30) (kPf (bP true) (bP (decide (v2>12))) h30::es 1 (rq 2 (bq h31) (kPf (bP true) (bP (decide (v3<(-12)))) h31::es 1 (rq 2 (bq h32) (kPf (bP true) (bP (decide (v3>(-1)))) h32::es 1 []))))))))))) []] .normal λ_ hw=>⟨_,_,hw,decide (v3>(-1)),hF,rfl,rfl⟩
 rcases cor hF with⟨h33,hF⟩|⟨h33,hF⟩
 ·exact g_to [.r (es 3 (rp 2 (bq h33) (kPt (bP true) (.tup []) h33::es 1 []))) []] .normal λ_ hw=>⟨_,_,hw,true,hF,rfl,rfl⟩
 exact g_to [.r (es 3 (rq 2 (bq h33) (kPf (bP true) (bP (decide (v0>4))) h33::es 1 []))) []] .normal λ_ hw=>⟨_,_,hw,decide (v0>4),hF,rfl,rfl⟩
theorem CF32 {v0 v1 v2 v3 out} (hF:F32 v0 v1 v2 v3=some out):A0 32 [.agg (c71 v0),iP v1,iP v2,iP v3] (.tup [iP out.1,iP out.2]):=by
 refine gC Tryz.func32 ?_
 obtain⟨v4,h5,hF⟩:=Xa hF
 rcases cor hF with⟨h6,hF⟩|⟨h6,hF⟩
 ·obtain rfl:=soj hF
  exact gE [re 3,.r (es 1 (kC (CF83 h5)::es 1 [])) [],re 2,bb h6,re 3]
 refine gP 1 [re 3,.r (es 1 (kC (CF83 h5)::es 1 [])) [],re 2,bb h6] [(1,iP v1),(2,iP v2),(3,iP v3),(4,.bp 0 0)] [.cells (c71 v0)] ?_
 refine gS ?_
 refine gB 0 ?_
 refine gM (λ(v7:Bool)=>([(1,iP v1),(2,iP v2),(3,iP v3),(4,.bp 0 0),(19,bP v7)],[.cells (c71 v0)],JF32_8 v0 v2 v1 v3 v7)) out ?_ ?_
 ·rintro v7 hF
  rcases cor hF with⟨h9,hF⟩|⟨h9,hF⟩
  ·obtain rfl:=soj hF
   exact gE [bb h9,re 2]
  rcases cor hF with⟨h10,hF⟩|⟨h10,hF⟩
  ·obtain rfl:=soj hF
   exact gE [bb h9,re 4,bb h10,re 3]
  refine Xi [bb h9,re 4,bb h10] .normal [(1,iP v1),(2,iP v2),(3,iP v3)] [.cells (c71 v0)] (λe hw=>?_)
  refine⟨_,_,hw,?_⟩
  rcases cor hF with⟨h11,hF⟩|⟨h11,hF⟩
  ·obtain rfl:=soj hF
   exact gE [re 9,re 5,re 2,bb h11,re 9,re 7]
  obtain rfl:=soj hF
  exact gE [re 9,re 5,re 2,bb h11,re 7]
 rcases cor hF with⟨h12,hF⟩|⟨h12,hF⟩
 ·exact g_to [.r (es 3 (rp 2 (bq h12) (kPt (bP true) (.tup []) h12::es 1 (rp 2 bqT (es 2 (rp 2 bqT (es 2 (rp 2 bqT (es 2 (rp 2 bqT (es 2 []))))))))))) []] .normal λ_ hw=>⟨_,_,hw,true,hF,rfl,rfl⟩
 rcases cor hF with⟨h13,hF⟩|⟨h13,hF⟩
 ·exact g_to [.r (es 3 (rq 2 (bq h12) (kPf (bP true) (bP (decide (v1>4398046511104))) h12::es 1 (rp 2 (bq h13) (kPt (bP true) (.tup []) h13::es 1 (rp 2 bqT (es 2 (rp 2 bqT (es 2 (rp 2 bqT (es 2 []))))))))))) []] .normal λ_ hw=>⟨_,_,hw,true,hF,rfl,rfl⟩
 rcases cor hF with⟨h14,hF⟩|⟨h14,hF⟩
 ·exact g_to [.r (es 3 (rq 2 (bq h12) (kPf (bP true) (bP (decide (v1>4398046511104))) h12::es 1 (rq 2 (bq h13) (kPf (bP true) (bP (decide (v2<0))) h13::es 1 (rp 2 (bq h14) (kPt (bP true) (.tup []) h14::es 1 (rp 2 bqT (es 2 (rp 2 bqT (es 2 []))))))))))) []] .normal λ_ hw=>⟨_,_,hw,true,hF,rfl,rfl⟩
 rcases cor hF with⟨h15,hF⟩|⟨h15,hF⟩
 ·exact g_to [.r (es 3 (rq 2 (bq h12) (kPf (bP true) (bP (decide (v1>4398046511104))) h12::es 1 (rq 2 (bq h13) (kPf (bP true) (bP (decide (v2<0))) h13::es 1 (rq 2 (bq h14) (kPf (bP true) (bP (decide (v2>4398046511104))) h14::es 1 (rp 2 (bq h15) (kPt (bP true) (.tup []) h15::es 1 (rp 2 bqT (es 2 []))))))))))) []] .normal λ_ hw=>⟨_,_,hw,true,hF,rfl,rfl⟩
 rcases cor hF with⟨h16,hF⟩|⟨h16,hF⟩
 ·exact g_to [.r (es 3 (rq 2 (bq h12) (kPf (bP true) (bP (decide (v1>4398046511104))) h12::es 1 (rq 2 (bq h13) (kPf (bP true) (bP (decide (v2<0))) h13::es 1 (rq 2 (bq h14) (kPf (bP true) (bP (decide (v2>4398046511104))) h14::es 1 (rq 2 (bq h15) (kPf (bP true) (bP (decide (v3<50))) h15::es 1 (rp 2 (bq h16) (kPt (bP true) (.tup []) h16::es 1 []))))))))))) []] .normal λ_ hw=>⟨_,_,hw,true,hF,rfl,rfl⟩
 exact g_to [.r (es 3 (rq 2 (bq h12) (kPf (bP true) (bP (decide (v1>4398046511104))) h12::es 1 (rq 2 (bq h13) (kPf (bP true) (bP (decide (v2<0))) h13::es 1 (rq 2 (bq h14) (kPf (bP true) (bP (decide (v2>4398046511104))) h14::es 1 (rq 2 (bq h15) (kPf (bP true) (bP (decide (v3<50))) h15::es 1 (rq 2 (bq h16) (kPf (bP true) (bP (decide (v3>75))) h16::es 1 []))))))))))) []] .normal λ_ hw=>⟨_,_,hw,decide (v3>75),hF,rfl,rfl⟩
theorem CF10 {v0 out} (hF:F10 v0=some out):A0 10 [.agg (c27 v0)] (.tup [eS 1 cI out.1,iP out.2]):=by
 refine gC Tryz.func10 ?_
 obtain⟨v1,h2,hF⟩:=Xa hF
 rcases cor hF with⟨h3,hF⟩|⟨h3,hF⟩
 ·obtain rfl:=soj hF
  exact gE [re 3,.r (es 1 (kC (CF14 h2)::es 1 [])) [],bb h3,re 2]
 refine gP 3 [re 3,.r (es 1 (kC (CF14 h2)::es 1 [])) [],bb h3,re 1,re 1] [(1,.bp 0 0),(4,eS 1 cI Sl.nil),(5,iP 50)] [.cells (c27 v0)] ?_
 refine gM (λ(v4:List Int)=>([(4,oP 1 1 cI v4)],[.cells (c27 v0),.grow (List.length v4) 1],JF10_5 v4)) out ?_ ?_
 ·rintro v4 hF
  refine Xi [re 3] .ret [(2,oP 1 1 cI v4),(3,iP 0)] [.cells (c27 v0),.grow (List.length v4) 1] (λe hw=>?_)
  obtain rfl:=soj hF
  exact Zh (r:=(.tup [oP 1 1 cI v4,iP 0])) (.inr rfl) hw (by kernel_rfl) (psub_tup (qs:=[eS 1 cI (mkSl v4),iP 0]) (pc (Wk cl_cI) (pc (psub_cl (.sc _)) pe))) ⟨rfl,rfl⟩
 refine gP 0 [.r (es 2 (kL 22 c75 v0.fc::es 1 [])) []] [(4,eS 1 cI Sl.nil),(5,iP 50),(12,eS 22 c75 v0.fc),(13,iP (ln v0.fc)),(14,iP 0)] [.cells (c27 v0)] ?_
 refine gB 0 ?_
 obtain⟨o10,ho10,hF⟩:=Xa hF
 refine gL ho10 (λ(v6,v7,v8)=>([(4,oP 1 1 cI v6),(5,iP v7),(12,eS 22 c75 v0.fc),(13,iP (ln v0.fc)),(14,iP v8)],[.cells (c27 v0),.grow (List.length v6) 1])) (((weak_mk2 (le':=[(4,eS 1 cI Sl.nil),(5,iP 50),(12,eS 22 c75 v0.fc),(13,iP (ln v0.fc)),(14,iP 0)]) (by kernel_rfl)).trans (weak_sub (le':=[(4,oP 1 1 cI []),(5,iP 50),(12,eS 22 c75 v0.fc),(13,iP (ln v0.fc)),(14,iP 0)]) (wc Wf (wc (PSub.refl _) (wc (PSub.refl _) (wc (PSub.refl _) (wc (PSub.refl _) we))))))).trans (Yv 1)) ?_
 rintro⟨v6,v7,v8⟩ o11 h12 h13
 rcases cor h12 with⟨h15,h12⟩|⟨h15,h12⟩
 ·obtain⟨v16,h17,h12⟩:=Xa h12
  rcases cor h12 with⟨h18,h12⟩|⟨h18,h12⟩
  ·obtain⟨v19,h20,h12⟩:=Xa h12
   cases h12
   exact g_tc 2 [re 1,bb h15,.r (kX 22 c75 h17::es 3 []) [],re 3,bb h18,re 3,.r (es 3 (kA 1 1 cI h20::es 1 [])) [],re 2] .normal λ_ _ hw=>⟨rfl,hw⟩
  obtain⟨v21,h22,h12⟩:=Xa h12
  cases h12
  exact g_tc 2 [re 1,bb h15,.r (kX 22 c75 h17::es 3 []) [],re 3,bb h18,.r (es 3 (kA 1 1 cI h22::es 1 [])) [],re 2] .normal λ_ _ hw=>⟨rfl,hw⟩
 cases h12
 obtain rfl:=h13 _ rfl
 exact g_to [re 1,bb h15] (.exit 0) λ_ hw=>Xh (⟨_,_,hw,v6,hF,rfl,rfl⟩)
end
end Go.Proofs.YtibndgdocbbbeaaGreat
