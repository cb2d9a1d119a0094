/- A part of the proof. -/
import Derived.Test.YtibndgdocbbbeaaGreatFC2
import Derived.Test.YtibndgdocbbbeaaGreatSY13
set_option linter.all false
set_option maxRecDepth 100000
set_option maxHeartbeats 40000000
set_option synthInstance.maxSize 100000
namespace Go.Proofs.YtibndgdocbbbeaaGreat
open Go.PE
noncomputable section
theorem CF143_1 {v0 v1 v2 v3 v4 v5 v6 v7 v8 v9 v10 out} (hF:F143_1 v0 v1 v2 v3 v4 v5 v6 v7 v8 v9 v10=some out):ACall Tryz.prog 143 [.agg [iP v0,iP v1,iP v2,iP v3,iP v4,iP v5,iP v6],.agg (c147 v7),.bp 0 0] [.cells [.bp 1 0],.cells (c27 v8++[iP v9,oP 2 3 c159 v10]),.grow (List.length v10) 3] (λq h=>q=(bP out)/\h=[.cells [.bp 1 0],.cells (c27 v8++[iP v9,oP 2 3 c159 v10]),.grow (List.length v10) 3]):=by
 refine gC Tryz.func143 ?_
 obtain⟨v11,h12,hF⟩:=Xa hF
 rcases cor hF with⟨h13,hF⟩|⟨h13,hF⟩
 ·obtain rfl:=soj hF
  exact g_rh 3 [re 3,.r (es 1 (kC (CF142 h12)::es 1 [])) [],bb h13,re 1] .ret λ_ _ k j=>hr k j
 refine gP 2 [re 3,.r (es 1 (kC (CF142 h12)::es 1 [])) [],bb h13,re 2] [(2,.bp 0 0),(3,.bp 3 0),(4,.bp 4 0),(6,.bp 5 0)] [.cells [.bp 1 0],.cells (c27 v8++[iP v9,oP 2 3 c159 v10]),.grow (List.length v10) 3,.cells [iP v0,iP v1,iP v2,iP v3,iP v4,iP v5,iP v6],.cells (c147 v7),.cells [iP 0]] ?_
 refine gM (λ(v14:Int)=>([(2,.bp 0 0),(4,.bp 4 0),(6,.bp 5 0)],[.cells [.bp 1 0],.cells (c27 v8++[iP v9,oP 2 3 c159 v10]),.grow (List.length v10) 3,.cells [iP v0,iP v1,iP v2,iP v3,iP v4,iP v5,iP v6],.cells (c147 v7),.cells [iP v14]],JF143_1_15 v8 v7 v14)) out ?_ ?_
 ·rintro v14 hF
  refine gM (λ(v16:Int)=>([(4,.bp 4 0),(6,.bp 5 0)],[.cells [.bp 1 0],.cells (c27 v8++[iP v9,oP 2 3 c159 v10]),.grow (List.length v10) 3,.cells [iP v0,iP v1,iP v2,iP v3,iP v4,iP v5,iP v6],.cells (c147 v7),.cells [iP v16]],JF143_1_17 v7 v16)) out ?_ ?_
  ·rintro v16 hF
   obtain⟨v20,h21,hF⟩:=Xa hF
   rcases cor hF with⟨h22,hF⟩|⟨h22,hF⟩
   ·obtain rfl:=soj hF
    exact g_rh 3 [re 3,.r (es 3 (kQ [6,5] [] 0 0 (CF146_1 h21)::es 1 (rp 4 (bq h22) (kPt (bP true) (.tup []) h22::es 1 [])))) []] .ret λ_ _ k j=>hr k j
   obtain⟨v25,h26,hF⟩:=Xa hF
   obtain rfl:=soj hF
   exact g_rh 3 [re 3,.r (es 3 (kQ [6,5] [] 0 0 (CF146_1 h21)::es 1 (rq 3 (bq h22) (bq h22::kQ [6,5] [] 0 0 (CF148_1 h26)::kPf (bP true) (bP v25) h22::es 1 [])))) []] .ret λ_ _ k j=>hr k j
  rcases cor hF with⟨h27,hF⟩|⟨h27,hF⟩
  ·exact g_to [re 5,bb h27,re 3] .normal λ_ hw=>⟨_,_,hw,wi (0-v14),hF,rfl,rfl⟩
  exact g_to [re 5,bb h27] .normal λ_ hw=>⟨_,_,hw,v14,hF,rfl,rfl⟩
 obtain⟨v28,h29,hF⟩:=Xa hF
 rcases cor hF with⟨h30,hF⟩|⟨h30,hF⟩
 ·obtain⟨v31,h32,hF⟩:=Xa hF
  exact g_to [.r (es 6 (kC (CF144 h29)::es 6 [])) (es 1 []),re 2,bb h30,.r (es 6 (kX 6 c68 h32::es 4 [])) []] .normal λ_ hw=>⟨_,_,hw,v31.fay.f1,hF,rfl,rfl⟩
 exact g_to [.r (es 6 (kC (CF144 h29)::es 6 [])) (es 1 []),re 2,bb h30] .normal λ_ hw=>⟨_,_,hw,0,hF,rfl,rfl⟩
theorem CF140_2 {v0 v1 v2 out} (hF:F140_2 v0 v1 v2=some out):ACall Tryz.prog 140 [.bp 0 0,(.fn (.func 143) [] [.bp 2 0])] (hC v0 v1 v2++[.cells [.bp 0 0]]) (λq h=>q=(.tup [])/\h=(hC v0 v1 out++[.cells [.bp 0 0]])):=by
 refine gC Tryz.func140 ?_
 refine gP 0 [.r (es 5 (kL 22 c75 v0.fc::es 1 [])) []] [(0,.bp 0 0),(1,(.fn (.func 143) [] [.bp 2 0])),(16,eS 22 c75 v0.fc),(17,iP (ln v0.fc)),(18,iP 0)] (hC v0 v1 v2++[.cells [.bp 0 0]]) ?_
 refine gB 0 ?_
 obtain⟨o7,ho7,hF⟩:=Xa hF
 refine gL ho7 (λ(v4,v5)=>([(0,.bp 0 0),(1,(.fn (.func 143) [] [.bp 2 0])),(16,eS 22 c75 v0.fc),(17,iP (ln v0.fc)),(18,iP v4)],hC v0 v1 v5++[.cells [.bp 0 0]])) wm ?_
 rintro⟨v4,v5⟩ o8 h9 h10
 rcases cor h9 with⟨h12,h9⟩|⟨h12,h9⟩
 ·refine gP 1 [re 1,bb h12] [(0,.bp 0 0),(1,(.fn (.func 143) [] [.bp 2 0])),(16,eS 22 c75 v0.fc),(17,iP (ln v0.fc)),(18,iP v4)] (hC v0 v1 v5++[.cells [.bp 0 0]]) ?_
  refine gM (λ(v13:List G159)=>([(0,.bp 0 0),(1,(.fn (.func 143) [] [.bp 2 0])),(16,eS 22 c75 v0.fc),(17,iP (ln v0.fc)),(18,iP v4)],hC v0 v1 v13++[.cells [.bp 0 0]],Qc v4 v13)) o8 ?_ ?_
  ·rintro v13 h9
   cases h9
   exact g_to [re 2] .normal λ_ hw=>⟨rfl,hw⟩
  refine gB 1 ?_
  obtain⟨v15,h16,h9⟩:=Xa h9
  refine gP 1 [.r (es 1 (kX 22 c75 h16::es 4 [])) [],.r (es 2 (kL 2 c95 v15.fe::es 1 [])) []] [(0,.bp 0 0),(1,(.fn (.func 143) [] [.bp 2 0])),(4,iP v4),(16,eS 22 c75 v0.fc),(17,iP (ln v0.fc)),(18,iP v4),(24,eS 2 c95 v15.fe),(25,iP (ln v15.fe)),(26,iP 0)] (hC v0 v1 v5++[.cells [.bp 0 0],.cells (c75 v15)]) ?_
  refine gB 2 ?_
  obtain⟨o20,ho20,h9⟩:=Xa h9
  refine gL ho20 (λ(v17,v18)=>([(0,.bp 0 0),(1,(.fn (.func 143) [] [.bp 2 0])),(4,iP v4),(16,eS 22 c75 v0.fc),(17,iP (ln v0.fc)),(18,iP v4),(24,eS 2 c95 v15.fe),(25,iP (ln v15.fe)),(26,iP v17)],hC v0 v1 v18++[.cells [.bp 0 0],.cells (c75 v15)])) wm ?_
  rintro⟨v17,v18⟩ o21 h22 h23
  rcases cor h22 with⟨h25,h22⟩|⟨h25,h22⟩
  ·refine gP 1 [re 1,bb h25] [(0,.bp 0 0),(1,(.fn (.func 143) [] [.bp 2 0])),(4,iP v4),(16,eS 22 c75 v0.fc),(17,iP (ln v0.fc)),(18,iP v4),(24,eS 2 c95 v15.fe),(25,iP (ln v15.fe)),(26,iP v17)] (hC v0 v1 v18++[.cells [.bp 0 0],.cells (c75 v15)]) ?_
   refine gM (λ(v26:List G159)=>([(0,.bp 0 0),(1,(.fn (.func 143) [] [.bp 2 0])),(4,iP v4),(16,eS 22 c75 v0.fc),(17,iP (ln v0.fc)),(18,iP v4),(24,eS 2 c95 v15.fe),(25,iP (ln v15.fe)),(26,iP v17)],hC v0 v1 v26++[.cells [.bp 0 0],.cells (c75 v15)],Qb v17 v26)) o21 ?_ ?_
   ·rintro v26 h22
    cases h22
    exact g_to [re 2] .normal λ_ hw=>⟨rfl,hw⟩
   refine gB 3 ?_
   obtain⟨v28,h29,h22⟩:=Xa h22
   refine gP 1 [.r (es 1 (kX 2 c95 h29::es 4 [])) [],.r (es 2 (kL 2 c100 v28.ff::es 1 [])) []] [(0,.bp 0 0),(1,(.fn (.func 143) [] [.bp 2 0])),(4,iP v4),(6,iP v17),(16,eS 22 c75 v0.fc),(17,iP (ln v0.fc)),(18,iP v4),(24,eS 2 c95 v15.fe),(25,iP (ln v15.fe)),(26,iP v17),(32,eS 2 c100 v28.ff),(33,iP (ln v28.ff)),(34,iP 0)] (hC v0 v1 v18++[.cells [.bp 0 0],.cells (c75 v15),.cells (c95 v28)]) ?_
   refine gB 4 ?_
   obtain⟨o33,ho33,h22⟩:=Xa h22
   refine gL ho33 (λ(v30,v31)=>([(0,.bp 0 0),(1,(.fn (.func 143) [] [.bp 2 0])),(4,iP v4),(6,iP v17),(16,eS 22 c75 v0.fc),(17,iP (ln v0.fc)),(18,iP v4),(24,eS 2 c95 v15.fe),(25,iP (ln v15.fe)),(26,iP v17),(32,eS 2 c100 v28.ff),(33,iP (ln v28.ff)),(34,iP v30)],hC v0 v1 v31++[.cells [.bp 0 0],.cells (c75 v15),.cells (c95 v28)])) wm ?_
   rintro⟨v30,v31⟩ o34 h35 h36
   rcases cor h35 with⟨h38,h35⟩|⟨h38,h35⟩
   ·refine gP 1 [re 1,bb h38] [(0,.bp 0 0),(1,(.fn (.func 143) [] [.bp 2 0])),(4,iP v4),(6,iP v17),(16,eS 22 c75 v0.fc),(17,iP (ln v0.fc)),(18,iP v4),(24,eS 2 c95 v15.fe),(25,iP (ln v15.fe)),(26,iP v17),(32,eS 2 c100 v28.ff),(33,iP (ln v28.ff)),(34,iP v30)] (hC v0 v1 v31++[.cells [.bp 0 0],.cells (c75 v15),.cells (c95 v28)]) ?_
    refine gM (λ(v39:List G159)=>([(0,.bp 0 0),(1,(.fn (.func 143) [] [.bp 2 0])),(4,iP v4),(6,iP v17),(16,eS 22 c75 v0.fc),(17,iP (ln v0.fc)),(18,iP v4),(24,eS 2 c95 v15.fe),(25,iP (ln v15.fe)),(26,iP v17),(32,eS 2 c100 v28.ff),(33,iP (ln v28.ff)),(34,iP v30)],hC v0 v1 v39++[.cells [.bp 0 0],.cells (c75 v15),.cells (c95 v28)],Qa v30 v39)) o34 ?_ ?_
    ·rintro v39 h35
     cases h35
     exact g_to [re 2] .normal λ_ hw=>⟨rfl,hw⟩
    refine gB 5 ?_
    obtain⟨v41,h42,h35⟩:=Xa h35
    refine gP 1 [.r (es 1 (kX 2 c100 h42::es 4 [])) [],.r (es 2 (kL 13 c147 v41.fg::es 1 [])) []] [(0,.bp 0 0),(1,(.fn (.func 143) [] [.bp 2 0])),(4,iP v4),(6,iP v17),(8,iP v30),(16,eS 22 c75 v0.fc),(17,iP (ln v0.fc)),(18,iP v4),(24,eS 2 c95 v15.fe),(25,iP (ln v15.fe)),(26,iP v17),(32,eS 2 c100 v28.ff),(33,iP (ln v28.ff)),(34,iP v30),(40,eS 13 c147 v41.fg),(41,iP (ln v41.fg)),(42,iP 0)] (hC v0 v1 v31++[.cells [.bp 0 0],.cells (c75 v15),.cells (c95 v28),.cells (c100 v41)]) ?_
    refine gB 6 ?_
    obtain⟨o46,ho46,h35⟩:=Xa h35
    refine gL ho46 (λ(v43,v44)=>([(0,.bp 0 0),(1,(.fn (.func 143) [] [.bp 2 0])),(4,iP v4),(6,iP v17),(8,iP v30),(16,eS 22 c75 v0.fc),(17,iP (ln v0.fc)),(18,iP v4),(24,eS 2 c95 v15.fe),(25,iP (ln v15.fe)),(26,iP v17),(32,eS 2 c100 v28.ff),(33,iP (ln v28.ff)),(34,iP v30),(40,eS 13 c147 v41.fg),(41,iP (ln v41.fg)),(42,iP v43)],hC v0 v1 v44++[.cells [.bp 0 0],.cells (c75 v15),.cells (c95 v28),.cells (c100 v41)])) wm ?_
    rintro⟨v43,v44⟩ o47 h48 h49
    rcases cor h48 with⟨h51,h48⟩|⟨h51,h48⟩
    ·obtain⟨v52,h53,v65,h66,v72,h73,h48⟩:=bs3 h48
     cases h48
     exact g_tc 6 [re 1,bb h51,.r (es 1 (kX 13 c147 h53::es 4 [])) [],.r (es 8 (kQ [2,0,1] [] 0 1 (CF143_1 h66)::es 2 [])) (kK [0,1] [] 0 0 (Yb h73)::[]),re 2] .normal λ_ _ hw=>⟨rfl,hw⟩
    cases h48
    obtain rfl:=h49 _ rfl
    exact g_tc 5 [re 1,bb h51] (.exit 6) λ_ _ hw=>Xi (⟨_,_,hw,v44,h35,rfl,rfl⟩)
   cases h35
   obtain rfl:=h36 _ rfl
   exact g_tc 4 [re 1,bb h38] (.exit 4) λ_ _ hw=>Xi (⟨_,_,hw,v31,h22,rfl,rfl⟩)
  cases h22
  obtain rfl:=h23 _ rfl
  exact g_tc 3 [re 1,bb h25] (.exit 2) λ_ _ hw=>Xi (⟨_,_,hw,v18,h9,rfl,rfl⟩)
 cases h9
 obtain rfl:=h10 _ rfl
 obtain rfl:=soj hF
 exact g_rh 3 [re 1,bb h12] (.exit 0) λ_ _ k j=>Xi (hn k j)
theorem CF68_1 {v0 v1 v2 out} (hF:F68_1 v0 v1 v2=some out):ACall Tryz.prog 68 [.bp 0 0] (hC v0 v1 v2) (λq h=>q=(.tup [])/\h=(hC v0 v1 out)):=by
 refine gC Tryz.func68 ?_
 obtain⟨v7,h8,hF⟩:=Xa hF
 obtain rfl:=soj hF
 exact g_rh 2 [re 1,.r (es 2 (kK [0,1,2] [] 0 0 (CF140_2 h8)::[])) []] .normal λ_ _ k j=>hn k j
theorem CF224 {v0 out} (hF:F224 v0=some out):A0 224 [.agg (c182 v0)] (bP out):=by
 refine gC Tryz.func224 ?_
 obtain rfl:=soj hF
 exact gE [re 2,re 3]
theorem CF222_2 {v0 out} (hF:F222_2 v0=some out):A0 222 [eS 5 c182 v0,(fk 224)] (iP out):=by
 refine gC Tryz.func222 ?_
 refine gP 0 [re 1] [(0,eS 5 c182 v0),(1,(fk 224))] [] ?_
 refine gM (λ(_:Unit)=>([],[],JF222_2_1)) out ?_ ?_
 ·rintro⟨⟩ hF
  obtain rfl:=soj hF
  exact gE [re 1]
 refine gP 0 [.r (es 1 (kL 5 c182 v0::es 1 [])) []] [(0,eS 5 c182 v0),(1,(fk 224)),(7,iP (ln v0)),(8,iP 0)] [] ?_
 refine gB 0 ?_
 obtain⟨o4,ho4,hF⟩:=Xa hF
 refine gL ho4 (λv2=>([(0,eS 5 c182 v0),(1,(fk 224)),(7,iP (ln v0)),(8,iP v2)],[])) wm ?_
 rintro v2 o5 h6 h7
 rcases cor h6 with⟨h9,h6⟩|⟨h9,h6⟩
 ·obtain⟨v10,h11,v12,h13,h6⟩:=bs2 h6
  rcases cor h6 with⟨h14,h6⟩|⟨h14,h6⟩
  ·cases h6
   obtain rfl:=h7 _ rfl
   obtain rfl:=soj hF
   exact gE [re 1,bb h9,re 2,.r (es 3 (kX 5 c182 h11::es 1 (kC (CF224 h13)::[]))) [],bb h14,re 2]
  cases h6
  exact g_to [re 1,bb h9,re 2,.r (es 3 (kX 5 c182 h11::es 1 (kC (CF224 h13)::[]))) [],bb h14,re 2] .normal λ_ hw=>⟨rfl,hw⟩
 cases h6
 obtain rfl:=h7 _ rfl
 exact g_to [re 1,bb h9] (.exit 0) λ_ hw=>Xi (⟨_,_,hw,(),hF,rfl,rfl⟩)
theorem CF146_2 {v0 out} (hF:F146_2 v0=some out):A0 146 [eS 5 c182 v0,(fk 224)] (bP out):=by
 refine gC Tryz.func146 ?_
 obtain⟨v2,h3,hF⟩:=Xa hF
 obtain rfl:=soj hF
 exact gE [re 1,.r (es 2 (kC (CF222_2 h3)::es 2 [])) []]
theorem CF151 {v0 out} (hF:F151 v0=some out):A0 151 [.agg (c147 v0)] (bP out):=by
 refine gC Tryz.func151 ?_
 rcases cor hF with⟨h1,hF⟩|⟨h1,hF⟩
 ·obtain⟨v3,h4,hF⟩:=Xa hF
  obtain rfl:=soj hF
  exact gE [re 2,.r (es 4 (rq 2 (bq h1) (bq h1::kC (CF146_2 h4)::kPt (bP v3) (bP false) h1::es 1 []))) []]
 obtain rfl:=soj hF
 exact gE [re 2,.r (es 4 (rp 3 (bq h1) (kPf (.tup []) (bP false) h1::es 1 []))) []]
theorem CF226 {v0 v1 v2 v3 out} (hF:F226 v0 v1 v2 v3=some out):A0 226 [.agg (c27 v0),iP v1,iP v2,iP v3] (eS 13 c147 out):=by
 refine gC Tryz.func226 ?_
 refine gP 0 [re 2] [(1,iP v1),(2,iP v2),(3,iP v3),(4,.bp 0 0)] [.cells (c27 v0)] ?_
 refine gS ?_
 refine gM (λ(v4:Bool)=>([(1,iP v1),(2,iP v2),(3,iP v3),(4,.bp 0 0),(51,bP v4)],[.cells (c27 v0)],Vh v0 v1 v2 v3 v4)) out ?_ ?_
 ·rintro v4 hF
  rcases cor hF with⟨h6,hF⟩|⟨h6,hF⟩
  ·obtain rfl:=soj hF
   exact gE [bb h6,re 1]
  refine Xk [bb h6] .normal [(1,iP v1),(2,iP v2),(3,iP v3),(4,.bp 0 0)] [.cells (c27 v0)] (λe hw=>?_)
  refine⟨_,_,hw,?_⟩
  obtain⟨v7,h8,v9,h10,v11,h12,hF⟩:=bs3 hF
  obtain rfl:=soj hF
  exact gE [.r (es 3 (kX 22 c75 h8::es 3 (kX 2 c95 h10::es 3 (kX 2 c100 h12::es 3 [])))) []]
 rcases cor hF with⟨h13,hF⟩|⟨h13,hF⟩
 ·exact g_to [.r (es 3 (rp 5 (bq h13) (kPt (bP true) (.tup []) h13::es 1 (rp 2 bqT (es 2 (rp 9 bqT (es 2 (rp 2 bqT (es 2 (rp 13 bqT (es 1 []))))))))))) []] .normal λ_ hw=>⟨_,_,hw,true,hF,rfl,rfl⟩
 rcases cor hF with⟨h14,hF⟩|⟨h14,hF⟩
 ·exact g_to [.r (es 3 (rq 3 (bq h13) (bq h13::kL 22 c75 v0.fc::bq h13::es 1 (kPf (bP true) (bP (decide (v1>=(ln v0.fc)))) h13::es 1 (rp 2 (bq h14) (kPt (bP true) (.tup []) h14::es 1 (rp 9 bqT (es 2 (rp 2 bqT (es 2 (rp 13 bqT (es 1 [])))))))))))) []] .normal λ_ hw=>⟨_,_,hw,true,hF,rfl,rfl⟩
 rcases cor hF with⟨h15,hF⟩|⟨h15,hF⟩
 ·exact g_to [.r (es 3 (rq 3 (bq h13) (bq h13::kL 22 c75 v0.fc::bq h13::es 1 (kPf (bP true) (bP (decide (v1>=(ln v0.fc)))) h13::es 1 (rq 2 (bq h14) (kPf (bP true) (bP (decide (v2<0))) h14::es 1 (rp 9 (bq h15) (kPt (bP true) (.tup []) h15::es 1 (rp 2 bqT (es 2 (rp 13 bqT (es 1 [])))))))))))) []] .normal λ_ hw=>⟨_,_,hw,true,hF,rfl,rfl⟩
 obtain⟨v16,h17,hF⟩:=Xa hF
 rcases cor hF with⟨h18,hF⟩|⟨h18,hF⟩
 ·exact g_to [.r (es 3 (rq 3 (bq h13) (bq h13::kL 22 c75 v0.fc::bq h13::es 1 (kPf (bP true) (bP (decide (v1>=(ln v0.fc)))) h13::es 1 (rq 2 (bq h14) (kPf (bP true) (bP (decide (v2<0))) h14::es 1 (rq 4 (bq h15) (bq h15::kX 22 c75 h17::rq 2 (bq h15) (bq h15::kL 2 c95 v16.fe::bq h15::es 1 (kPf (bP true) (bP (decide (v2>=(ln v16.fe)))) h15::es 1 (rp 2 (bq h18) (kPt (bP true) (.tup []) h18::es 1 (rp 13 bqT (es 1 [])))))))))))))) []] .normal λ_ hw=>⟨_,_,hw,true,hF,rfl,rfl⟩
 rcases cor hF with⟨h19,hF⟩|⟨h19,hF⟩
 ·exact g_to [.r (es 3 (rq 3 (bq h13) (bq h13::kL 22 c75 v0.fc::bq h13::es 1 (kPf (bP true) (bP (decide (v1>=(ln v0.fc)))) h13::es 1 (rq 2 (bq h14) (kPf (bP true) (bP (decide (v2<0))) h14::es 1 (rq 4 (bq h15) (bq h15::kX 22 c75 h17::rq 2 (bq h15) (bq h15::kL 2 c95 v16.fe::bq h15::es 1 (kPf (bP true) (bP (decide (v2>=(ln v16.fe)))) h15::es 1 (rq 2 (bq h18) (kPf (bP true) (bP (decide (v3<0))) h18::es 1 (rp 13 (bq h19) (kPt (bP true) (.tup []) h19::[])))))))))))))) []] .normal λ_ hw=>⟨_,_,hw,true,hF,rfl,rfl⟩
 obtain⟨v20,h21,v22,h23,hF⟩:=bs2 hF
 exact g_to [.r (es 3 (rq 3 (bq h13) (bq h13::kL 22 c75 v0.fc::bq h13::es 1 (kPf (bP true) (bP (decide (v1>=(ln v0.fc)))) h13::es 1 (rq 2 (bq h14) (kPf (bP true) (bP (decide (v2<0))) h14::es 1 (rq 4 (bq h15) (bq h15::kX 22 c75 h17::rq 2 (bq h15) (bq h15::kL 2 c95 v16.fe::bq h15::es 1 (kPf (bP true) (bP (decide (v2>=(ln v16.fe)))) h15::es 1 (rq 2 (bq h18) (kPf (bP true) (bP (decide (v3<0))) h18::es 1 (rq 4 (bq h19) (bq h19::kX 22 c75 h21::rq 3 (bq h19) (bq h19::kX 2 c95 h23::rq 2 (bq h19) (bq h19::kL 2 c100 v22.ff::bq h19::es 1 (kPf (bP true) (bP (decide (v3>=(ln v22.ff)))) h19::[]))))))))))))))))) []] .normal λ_ hw=>⟨_,_,hw,decide (v3>=(ln v22.ff)),hF,rfl,rfl⟩
theorem CF225 {v0 v1 out} (hF:F225 v0 v1=some out):A0 225 [.agg (c27 v0),.agg (c236 v1)] (iP out):=by
 refine gC Tryz.func225 ?_
 rcases cor hF with⟨h2,hF⟩|⟨h2,hF⟩
 ·obtain rfl:=soj hF
  exact gE [re 3,re 3,bb h2,re 1]
 refine gP 1 [re 3,re 3,bb h2] [(2,.bp 0 0),(3,.bp 1 0)] [.cells (c27 v0),.cells (c236 v1)] ?_
 refine gS ?_
 refine gM (λ(v3:Bool)=>([(24,bP v3)],[],JF225_4 v3)) out ?_ ?_
 ·rintro v3 hF
  rcases cor hF with⟨h5,hF⟩|⟨h5,hF⟩
  ·obtain rfl:=soj hF
   exact gE [bb h5,re 1]
  refine Xk [bb h5] .normal [] [] (λe hw=>?_)
  refine⟨_,_,hw,?_⟩
  obtain rfl:=soj hF
  exact gE [re 1]
 rcases cor hF with⟨h6,hF⟩|⟨h6,hF⟩
 ·exact g_tc 0 [.r (es 4 (rp 11 (bq h6) [])) (bq h6::kPt (bP true) (.tup []) h6::[])] .normal λ_ _ hw=>⟨_,_,hw,true,hF,rfl,rfl⟩
 obtain⟨v7,h8,hF⟩:=Xa hF
 exact g_tc 0 [.r (es 4 (rq 9 (bq h6) (bq h6::kC (CF226 h8)::bq h6::kL 13 c147 v7::[]))) (bq h6::es 1 (kPf (bP true) (bP (decide (v1.fU>=(ln v7)))) h6::[]))] .normal λ_ _ hw=>⟨_,_,hw,decide (v1.fU>=(ln v7)),hF,rfl,rfl⟩
theorem CF227 {v0 v1 v2 v3 out} (hF:F227 v0 v1 v2 v3=some out):A0 227 [iP v0,iP v1,iP v2,iP v3] (.agg (c236 out)):=by
 refine gC Tryz.func227 ?_
 obtain rfl:=soj hF
 exact gE [re 1,re 6]
theorem CF152 {v0 v1 out} (hF:F152 v0 v1=some out):A0 152 [.agg (c27 v0),.agg (c236 v1)] (.tup [.agg (c236 out.1),bP out.2]):=by
 refine gC Tryz.func152 ?_
 obtain⟨v2,h3,hF⟩:=Xa hF
 rcases cor hF with⟨h4,hF⟩|⟨h4,hF⟩
 ·obtain rfl:=soj hF
  exact gE [re 4,.r (es 2 (kC (CF225 h3)::es 1 [])) [],bb h4,re 3]
 obtain⟨v5,h6,hF⟩:=Xa hF
 rcases cor hF with⟨h7,hF⟩|⟨h7,hF⟩
 ·obtain⟨v8,h9,hF⟩:=Xa hF
  obtain rfl:=soj hF
  exact gE [re 4,.r (es 2 (kC (CF225 h3)::es 1 [])) [],bb h4,.r (es 10 (kC (CF226 h6)::kL 13 c147 v5::[])) (es 1 []),bb h7,.r (es 9 (kC (CF227 h9)::es 2 [])) []]
 obtain⟨v10,h11,hF⟩:=Xa hF
 rcases cor hF with⟨h12,hF⟩|⟨h12,hF⟩
 ·obtain⟨v13,h14,hF⟩:=Xa hF
  obtain rfl:=soj hF
  exact gE [re 4,.r (es 2 (kC (CF225 h3)::es 1 [])) [],bb h4,.r (es 10 (kC (CF226 h6)::kL 13 c147 v5::[])) (es 1 []),bb h7,.r (es 8 (kC (CF226 h11)::kL 13 c147 v10::es 1 [])) [],bb h12,.r (es 7 (kC (CF227 h14)::es 2 [])) []]
 obtain rfl:=soj hF
 exact gE [re 4,.r (es 2 (kC (CF225 h3)::es 1 [])) [],bb h4,.r (es 10 (kC (CF226 h6)::kL 13 c147 v5::[])) (es 1 []),bb h7,.r (es 8 (kC (CF226 h11)::kL 13 c147 v10::es 1 [])) [],bb h12,re 3]
theorem CF288 {v0 out} (hF:F288 v0=some out):A0 288 [eS 5 c182 v0] (eS 5 c182 out):=by
 refine gC Tryz.func288 ?_
 rcases cor hF with⟨h1,hF⟩|⟨h1,hF⟩
 ·obtain rfl:=soj hF
  exact gE [re 1,.r (es 1 (⟨.pu (.eqN .sl false (.c (eS 5 c182 v0)) (.c (.sl true .full 0 []))) (bP (Sl.isNil v0)),Vs rfl⟩::[])) [],bb h1,re 1]
 rcases cor hF with⟨h2,hF⟩|⟨h2,hF⟩
 ·obtain rfl:=soj hF
  exact gE [re 1,.r (es 1 (⟨.pu (.eqN .sl false (.c (eS 5 c182 v0)) (.c (.sl true .full 0 []))) (bP (Sl.isNil v0)),Vs rfl⟩::[])) [],bb h1,.r (es 2 (⟨.st (.append 5 40 (.c (eS 5 c182 (Sl.full []))) (.c (eS 5 c182 v0))) [] (eS 5 c182 (Sl.full [])) [] 0,n_appE h2⟩::es 1 [])) []]
 obtain⟨v3,h4,hF⟩:=Xa hF
 refine Xk [re 1,.r (es 1 (⟨.pu (.eqN .sl false (.c (eS 5 c182 v0)) (.c (.sl true .full 0 []))) (bP (Sl.isNil v0)),Vs rfl⟩::[])) [],bb h1,.r (es 2 (⟨.st (.append 5 40 (.c (eS 5 c182 (Sl.full []))) (.c (eS 5 c182 v0))) [] (oP 0 5 c182 v3) [.grow (List.length v3) 5] 0,(n_appN h4 h2 (by decide) (λ_=>rfl))⟩::es 1 [])) []] .ret [(2,oP 0 5 c182 v3)] [.grow (List.length v3) 5] (λe hw=>?_)
 obtain rfl:=soj hF
 exact Yw (r:=(oP 0 5 c182 v3)) (.inr rfl) hw (by kernel_rfl) (Vl cl182) ⟨rfl,rfl⟩
theorem CF289 {v0 out} (hF:F289 v0=some out):A0 289 [eS 5 c245 v0] (eS 5 c245 out):=by
 refine gC Tryz.func289 ?_
 rcases cor hF with⟨h1,hF⟩|⟨h1,hF⟩
 ·obtain rfl:=soj hF
  exact gE [re 1,.r (es 1 (⟨.pu (.eqN .sl false (.c (eS 5 c245 v0)) (.c (.sl true .full 0 []))) (bP (Sl.isNil v0)),Vs rfl⟩::[])) [],bb h1,re 1]
 rcases cor hF with⟨h2,hF⟩|⟨h2,hF⟩
 ·obtain rfl:=soj hF
  exact gE [re 1,.r (es 1 (⟨.pu (.eqN .sl false (.c (eS 5 c245 v0)) (.c (.sl true .full 0 []))) (bP (Sl.isNil v0)),Vs rfl⟩::[])) [],bb h1,.r (es 2 (⟨.st (.append 5 40 (.c (eS 5 c245 (Sl.full []))) (.c (eS 5 c245 v0))) [] (eS 5 c245 (Sl.full [])) [] 0,n_appE h2⟩::es 1 [])) []]
 obtain⟨v3,h4,hF⟩:=Xa hF
 refine Xk [re 1,.r (es 1 (⟨.pu (.eqN .sl false (.c (eS 5 c245 v0)) (.c (.sl true .full 0 []))) (bP (Sl.isNil v0)),Vs rfl⟩::[])) [],bb h1,.r (es 2 (⟨.st (.append 5 40 (.c (eS 5 c245 (Sl.full []))) (.c (eS 5 c245 v0))) [] (oP 0 5 c245 v3) [.grow (List.length v3) 5] 0,(n_appN h4 h2 (by decide) (λ_=>rfl))⟩::es 1 [])) []] .ret [(2,oP 0 5 c245 v3)] [.grow (List.length v3) 5] (λe hw=>?_)
 obtain rfl:=soj hF
 exact Yw (r:=(oP 0 5 c245 v3)) (.inr rfl) hw (by kernel_rfl) (Vl cl245) ⟨rfl,rfl⟩
theorem CF290 {v0 out} (hF:F290 v0=some out):A0 290 [eS 2 c171 v0] (eS 2 c171 out):=by
 refine gC Tryz.func290 ?_
 rcases cor hF with⟨h1,hF⟩|⟨h1,hF⟩
 ·obtain rfl:=soj hF
  exact gE [re 1,.r (es 1 (⟨.pu (.eqN .sl false (.c (eS 2 c171 v0)) (.c (.sl true .full 0 []))) (bP (Sl.isNil v0)),Vs rfl⟩::[])) [],bb h1,re 1]
 rcases cor hF with⟨h2,hF⟩|⟨h2,hF⟩
 ·obtain rfl:=soj hF
  exact gE [re 1,.r (es 1 (⟨.pu (.eqN .sl false (.c (eS 2 c171 v0)) (.c (.sl true .full 0 []))) (bP (Sl.isNil v0)),Vs rfl⟩::[])) [],bb h1,.r (es 2 (⟨.st (.append 2 24 (.c (eS 2 c171 (Sl.full []))) (.c (eS 2 c171 v0))) [] (eS 2 c171 (Sl.full [])) [] 0,n_appE h2⟩::es 1 [])) []]
 obtain⟨v3,h4,hF⟩:=Xa hF
 refine Xk [re 1,.r (es 1 (⟨.pu (.eqN .sl false (.c (eS 2 c171 v0)) (.c (.sl true .full 0 []))) (bP (Sl.isNil v0)),Vs rfl⟩::[])) [],bb h1,.r (es 2 (⟨.st (.append 2 24 (.c (eS 2 c171 (Sl.full []))) (.c (eS 2 c171 v0))) [] (oP 0 2 c171 v3) [.grow (List.length v3) 2] 0,(n_appN h4 h2 (by decide) (λ_=>rfl))⟩::es 1 [])) []] .ret [(2,oP 0 2 c171 v3)] [.grow (List.length v3) 2] (λe hw=>?_)
 obtain rfl:=soj hF
 exact Yw (r:=(oP 0 2 c171 v3)) (.inr rfl) hw (by kernel_rfl) (Vl cl171) ⟨rfl,rfl⟩
theorem CF228 {v0 out} (hF:F228 v0=some out):A0 228 [.agg (c147 v0)] (.agg (c147 out)):=by
 refine gC Tryz.func228 ?_
 obtain⟨v1,h2,v3,h4,v5,h6,hF⟩:=bs3 hF
 obtain rfl:=soj hF
 exact gE [re 2,.r (es 2 (kC (CF288 h2)::es 2 (kC (CF289 h4)::es 2 (kC (CF290 h6)::es 1 [])))) (es 5 []),re 2]
theorem CF153 {v0 v1 out} (hF:F153 v0 v1=some out):A0 153 [.agg (c27 v0),.agg (c236 v1)] (.tup [.agg (c147 out.1),iP out.2]):=by
 refine gC Tryz.func153 ?_
 obtain⟨v2,h3,hF⟩:=Xa hF
 rcases cor hF with⟨h4,hF⟩|⟨h4,hF⟩
 ·obtain rfl:=soj hF
  exact gE [re 4,.r (es 2 (kC (CF225 h3)::es 1 [])) [],re 2,bb h4,re 4]
 obtain⟨v5,h6,v7,h8,v9,h10,hF⟩:=bs3 hF
 obtain rfl:=soj hF
 exact gE [re 4,.r (es 2 (kC (CF225 h3)::es 1 [])) [],re 2,bb h4,.r (es 7 (kC (CF226 h6)::es 2 [])) (kX 13 c147 h8::es 1 (kC (CF228 h10)::es 2 []))]
theorem CF229_1 {v0 v1 out} (hF:F229_1 v0 v1=some out):ACall Tryz.prog 229 [.agg (c182 v0),.bp 0 0] [.cells (c182 v1)] (λq h=>q=(bP out)/\h=[.cells (c182 v1)]):=by
 refine gC Tryz.func229 ?_
 obtain rfl:=soj hF
 exact g_rh 1 [re 2,re 6] .ret λ_ _ k j=>hr k j
theorem CF222_3 {v0 v1 out} (hF:F222_3 v0 v1=some out):ACall Tryz.prog 222 [eS 5 c182 v0,(.fn (.func 229) [] [.bp 0 0])] [.cells (c182 v1)] (λq h=>q=(iP out)/\h=[.cells (c182 v1)]):=by
 refine gC Tryz.func222 ?_
 refine gP 0 [re 1] [(0,eS 5 c182 v0),(1,(.fn (.func 229) [] [.bp 0 0]))] [.cells (c182 v1)] ?_
 refine gM (λ(_:Unit)=>([],[.cells (c182 v1)],JF222_3_2)) out ?_ ?_
 ·rintro⟨⟩ hF
  obtain rfl:=soj hF
  exact g_rh 1 [re 1] .ret λ_ _ k j=>hr k j
 refine gP 0 [.r (es 1 (kL 5 c182 v0::es 1 [])) []] [(0,eS 5 c182 v0),(1,(.fn (.func 229) [] [.bp 0 0])),(7,iP (ln v0)),(8,iP 0)] [.cells (c182 v1)] ?_
 refine gB 0 ?_
 obtain⟨o5,ho5,hF⟩:=Xa hF
 refine gL ho5 (λv3=>([(0,eS 5 c182 v0),(1,(.fn (.func 229) [] [.bp 0 0])),(7,iP (ln v0)),(8,iP v3)],[.cells (c182 v1)])) wm ?_
 rintro v3 o6 h7 h8
 rcases cor h7 with⟨h10,h7⟩|⟨h10,h7⟩
 ·obtain⟨v11,h12,v15,h16,h7⟩:=bs2 h7
  rcases cor h7 with⟨h17,h7⟩|⟨h17,h7⟩
  ·cases h7
   obtain rfl:=h8 _ rfl
   obtain rfl:=soj hF
   exact g_rh 1 [re 1,bb h10,re 2,.r (es 3 (kX 5 c182 h12::es 1 (kQ [0] [] 0 1 (CF229_1 h16)::[]))) [],bb h17,re 2] .ret λ_ _ k j=>hr k j
  cases h7
  exact g_to [re 1,bb h10,re 2,.r (es 3 (kX 5 c182 h12::es 1 (kQ [0] [] 0 1 (CF229_1 h16)::[]))) [],bb h17,re 2] .normal λ_ hw=>⟨rfl,hw⟩
 cases h7
 obtain rfl:=h8 _ rfl
 exact g_to [re 1,bb h10] (.exit 0) λ_ hw=>Xi (⟨_,_,hw,(),hF,rfl,rfl⟩)
theorem CF146_3 {v0 v1 out} (hF:F146_3 v0 v1=some out):ACall Tryz.prog 146 [eS 5 c182 v0,(.fn (.func 229) [] [.bp 0 0])] [.cells (c182 v1)] (λq h=>q=(bP out)/\h=[.cells (c182 v1)]):=by
 refine gC Tryz.func146 ?_
 obtain⟨v4,h5,hF⟩:=Xa hF
 obtain rfl:=soj hF
 exact g_rh 1 [re 1,.r (es 2 (kQ [0] [] 0 0 (CF222_3 h5)::es 2 [])) []] .ret λ_ _ k j=>hr k j
theorem CF154 {v0 v1 out} (hF:F154 v0 v1=some out):A0 154 [.agg (c147 v0),.agg (c147 v1)] (bP out):=by
 refine gC Tryz.func154 ?_
 rcases cor hF with⟨h2,hF⟩|⟨h2,hF⟩
 ·obtain rfl:=soj hF
  exact gE [re 3,re 3,bb h2,re 1]
 refine gP 1 [re 3,re 3,bb h2] [(2,.bp 0 0),(3,.bp 1 0)] [.cells (c147 v0),.cells (c147 v1)] ?_
 refine gM (λ(_:Unit)=>([],[],JF154_3)) out ?_ ?_
 ·rintro⟨⟩ hF
  obtain rfl:=soj hF
  exact gE [re 1]
 refine gP 0 [.r (es 2 (kL 5 c182 v0.fv::es 1 [])) []] [(3,.bp 1 0),(11,eS 5 c182 v0.fv),(12,iP (ln v0.fv)),(13,iP 0)] [.cells (c147 v0),.cells (c147 v1)] ?_
 refine gB 0 ?_
 obtain⟨o5,ho5,hF⟩:=Xa hF
 refine gL ho5 (λv4=>([(3,.bp 1 0),(11,eS 5 c182 v0.fv),(12,iP (ln v0.fv)),(13,iP v4)],[.cells (c147 v0),.cells (c147 v1)])) wm ?_
 rintro v4 o6 h7 h8
 rcases cor h7 with⟨h10,h7⟩|⟨h10,h7⟩
 ·refine gP 1 [re 1,bb h10] [(3,.bp 1 0),(11,eS 5 c182 v0.fv),(12,iP (ln v0.fv)),(13,iP v4)] [.cells (c147 v0),.cells (c147 v1)] ?_
  refine gS ?_
  refine gB 1 ?_
  obtain⟨v11,h12,h7⟩:=Xa h7
  refine gP 0 [.r (kX 5 c182 h12::es 3 []) []] [(3,.bp 1 0),(6,.bp 2 0),(11,eS 5 c182 v0.fv),(12,iP (ln v0.fv)),(13,iP v4)] [.cells (c147 v0),.cells (c147 v1),.cells (c182 v11)] ?_
  refine gM (λ(v13:Bool)=>([(3,.bp 1 0),(11,eS 5 c182 v0.fv),(12,iP (ln v0.fv)),(13,iP v4),(30,bP v13)],[.cells (c147 v0),.cells (c147 v1)],JF154_14 v4 v13)) o6 ?_ ?_
  ·rintro v13 h7
   rcases cor h7 with⟨h15,h7⟩|⟨h15,h7⟩
   ·cases h7
    obtain rfl:=h8 _ rfl
    obtain rfl:=soj hF
    exact gE [bb h15,re 1]
   refine Xk [bb h15] .normal [(3,.bp 1 0),(11,eS 5 c182 v0.fv),(12,iP (ln v0.fv)),(13,iP v4)] [.cells (c147 v0),.cells (c147 v1)] (λe hw=>?_)
   refine⟨_,_,hw,?_⟩
   cases h7
   exact g_to [re 2] .normal λ_ hw=>⟨rfl,hw⟩
  rcases cor h7 with⟨h16,h7⟩|⟨h16,h7⟩
  ·rcases cor h7 with⟨h17,h7⟩|⟨h17,h7⟩
   ·obtain⟨v20,h21,h7⟩:=Xa h7
    exact g_tc 2 [.r (es 3 (rq 4 (bq h16) (rq 3 (bq h17) (bq h17::kQ [2] [] 0 0 (CF146_3 h21)::bq h16::kPt (bP v20) (bP false) h17::bq h16::es 1 (kPt (bP (!v20)) (bP false) h16::[]))))) []] .normal λ_ _ hw=>⟨_,_,hw,!v20,h7,rfl,rfl⟩
   exact g_tc 2 [.r (es 3 (rq 4 (bq h16) (rp 4 (bq h17) (bq h16::kPf (.tup []) (bP false) h17::bq h16::es 1 (kPt (bP true) (bP false) h16::[]))))) []] .normal λ_ _ hw=>⟨_,_,hw,true,h7,rfl,rfl⟩
  exact g_tc 2 [.r (es 3 (rp 6 (bq h16) (kPf (.tup []) (bP false) h16::[]))) []] .normal λ_ _ hw=>⟨_,_,hw,false,h7,rfl,rfl⟩
 cases h7
 obtain rfl:=h8 _ rfl
 exact g_tc 0 [re 1,bb h10] (.exit 0) λ_ _ hw=>Xi (⟨_,_,hw,(),hF,rfl,rfl⟩)
theorem CF150_1 {v0 v1 v2 v3 v4 v5 v6 v7 v8 v9 v10 out} (hF:F150_1 v0 v1 v2 v3 v4 v5 v6 v7 v8 v9 v10=some out):ACall Tryz.prog 150 [.agg [iP v0,iP v1,iP v2,iP v3,iP v4,iP v5,iP v6],.agg (c147 v7),.bp 0 0] [.cells [.bp 1 0],.cells (c27 v8++[iP v9,oP 2 3 c159 v10]),.grow (List.length v10) 3] (λq h=>q=(bP out)/\h=[.cells [.bp 1 0],.cells (c27 v8++[iP v9,oP 2 3 c159 v10]),.grow (List.length v10) 3]):=by
 refine gC Tryz.func150 ?_
 obtain⟨v11,h12,hF⟩:=Xa hF
 rcases cor hF with⟨h13,hF⟩|⟨h13,hF⟩
 ·obtain rfl:=soj hF
  exact g_rh 3 [re 3,.r (es 1 (kC (CF151 h12)::es 1 [])) [],bb h13,re 1] .ret λ_ _ k j=>hr k j
 obtain⟨v14,h15,v16,h17,hF⟩:=bs2 hF
 rcases cor hF with⟨h18,hF⟩|⟨h18,hF⟩
 ·obtain rfl:=soj hF
  exact g_rh 3 [re 3,.r (es 1 (kC (CF151 h12)::es 1 [])) [],bb h13,.r (es 5 (kC (CF152 h15)::es 5 [])) (es 1 []),.r (es 5 (kC (CF153 h17)::es 5 [])) (es 1 []),.r (es 3 (rp 4 (bq h18) (kPt (bP true) (.tup []) h18::es 1 []))) []] .ret λ_ _ k j=>hr k j
 obtain⟨v19,h20,hF⟩:=Xa hF
 obtain rfl:=soj hF
 exact g_rh 3 [re 3,.r (es 1 (kC (CF151 h12)::es 1 [])) [],bb h13,.r (es 5 (kC (CF152 h15)::es 5 [])) (es 1 []),.r (es 5 (kC (CF153 h17)::es 5 [])) (es 1 []),.r (es 3 (rq 2 (bq h18) (bq h18::kC (CF154 h20)::bq h18::es 1 (kPf (bP true) (bP (!v19)) h18::es 1 [])))) []] .ret λ_ _ k j=>hr k j
theorem CF140_3 {v0 v1 v2 out} (hF:F140_3 v0 v1 v2=some out):ACall Tryz.prog 140 [.bp 0 0,(.fn (.func 150) [] [.bp 2 0])] (hC v0 v1 v2++[.cells [.bp 0 0]]) (λq h=>q=(.tup [])/\h=(hC v0 v1 out++[.cells [.bp 0 0]])):=by
 refine gC Tryz.func140 ?_
 refine gP 0 [.r (es 5 (kL 22 c75 v0.fc::es 1 [])) []] [(0,.bp 0 0),(1,(.fn (.func 150) [] [.bp 2 0])),(16,eS 22 c75 v0.fc),(17,iP (ln v0.fc)),(18,iP 0)] (hC v0 v1 v2++[.cells [.bp 0 0]]) ?_
 refine gB 0 ?_
 obtain⟨o7,ho7,hF⟩:=Xa hF
 refine gL ho7 (λ(v4,v5)=>([(0,.bp 0 0),(1,(.fn (.func 150) [] [.bp 2 0])),(16,eS 22 c75 v0.fc),(17,iP (ln v0.fc)),(18,iP v4)],hC v0 v1 v5++[.cells [.bp 0 0]])) wm ?_
 rintro⟨v4,v5⟩ o8 h9 h10
 rcases cor h9 with⟨h12,h9⟩|⟨h12,h9⟩
 ·refine gP 1 [re 1,bb h12] [(0,.bp 0 0),(1,(.fn (.func 150) [] [.bp 2 0])),(16,eS 22 c75 v0.fc),(17,iP (ln v0.fc)),(18,iP v4)] (hC v0 v1 v5++[.cells [.bp 0 0]]) ?_
  refine gM (λ(v13:List G159)=>([(0,.bp 0 0),(1,(.fn (.func 150) [] [.bp 2 0])),(16,eS 22 c75 v0.fc),(17,iP (ln v0.fc)),(18,iP v4)],hC v0 v1 v13++[.cells [.bp 0 0]],Uz v4 v13)) o8 ?_ ?_
  ·rintro v13 h9
   cases h9
   exact g_to [re 2] .normal λ_ hw=>⟨rfl,hw⟩
  refine gB 1 ?_
  obtain⟨v15,h16,h9⟩:=Xa h9
  refine gP 1 [.r (es 1 (kX 22 c75 h16::es 4 [])) [],.r (es 2 (kL 2 c95 v15.fe::es 1 [])) []] [(0,.bp 0 0),(1,(.fn (.func 150) [] [.bp 2 0])),(4,iP v4),(16,eS 22 c75 v0.fc),(17,iP (ln v0.fc)),(18,iP v4),(24,eS 2 c95 v15.fe),(25,iP (ln v15.fe)),(26,iP 0)] (hC v0 v1 v5++[.cells [.bp 0 0],.cells (c75 v15)]) ?_
  refine gB 2 ?_
  obtain⟨o20,ho20,h9⟩:=Xa h9
  refine gL ho20 (λ(v17,v18)=>([(0,.bp 0 0),(1,(.fn (.func 150) [] [.bp 2 0])),(4,iP v4),(16,eS 22 c75 v0.fc),(17,iP (ln v0.fc)),(18,iP v4),(24,eS 2 c95 v15.fe),(25,iP (ln v15.fe)),(26,iP v17)],hC v0 v1 v18++[.cells [.bp 0 0],.cells (c75 v15)])) wm ?_
  rintro⟨v17,v18⟩ o21 h22 h23
  rcases cor h22 with⟨h25,h22⟩|⟨h25,h22⟩
  ·refine gP 1 [re 1,bb h25] [(0,.bp 0 0),(1,(.fn (.func 150) [] [.bp 2 0])),(4,iP v4),(16,eS 22 c75 v0.fc),(17,iP (ln v0.fc)),(18,iP v4),(24,eS 2 c95 v15.fe),(25,iP (ln v15.fe)),(26,iP v17)] (hC v0 v1 v18++[.cells [.bp 0 0],.cells (c75 v15)]) ?_
   refine gM (λ(v26:List G159)=>([(0,.bp 0 0),(1,(.fn (.func 150) [] [.bp 2 0])),(4,iP v4),(16,eS 22 c75 v0.fc),(17,iP (ln v0.fc)),(18,iP v4),(24,eS 2 c95 v15.fe),(25,iP (ln v15.fe)),(26,iP v17)],hC v0 v1 v26++[.cells [.bp 0 0],.cells (c75 v15)],Uy v17 v26)) o21 ?_ ?_
   ·rintro v26 h22
    cases h22
    exact g_to [re 2] .normal λ_ hw=>⟨rfl,hw⟩
   refine gB 3 ?_
   obtain⟨v28,h29,h22⟩:=Xa h22
   refine gP 1 [.r (es 1 (kX 2 c95 h29::es 4 [])) [],.r (es 2 (kL 2 c100 v28.ff::es 1 [])) []] [(0,.bp 0 0),(1,(.fn (.func 150) [] [.bp 2 0])),(4,iP v4),(6,iP v17),(16,eS 22 c75 v0.fc),(17,iP (ln v0.fc)),(18,iP v4),(24,eS 2 c95 v15.fe),(25,iP (ln v15.fe)),(26,iP v17),(32,eS 2 c100 v28.ff),(33,iP (ln v28.ff)),(34,iP 0)] (hC v0 v1 v18++[.cells [.bp 0 0],.cells (c75 v15),.cells (c95 v28)]) ?_
   refine gB 4 ?_
   obtain⟨o33,ho33,h22⟩:=Xa h22
   refine gL ho33 (λ(v30,v31)=>([(0,.bp 0 0),(1,(.fn (.func 150) [] [.bp 2 0])),(4,iP v4),(6,iP v17),(16,eS 22 c75 v0.fc),(17,iP (ln v0.fc)),(18,iP v4),(24,eS 2 c95 v15.fe),(25,iP (ln v15.fe)),(26,iP v17),(32,eS 2 c100 v28.ff),(33,iP (ln v28.ff)),(34,iP v30)],hC v0 v1 v31++[.cells [.bp 0 0],.cells (c75 v15),.cells (c95 v28)])) wm ?_
   rintro⟨v30,v31⟩ o34 h35 h36
   rcases cor h35 with⟨h38,h35⟩|⟨h38,h35⟩
   ·refine gP 1 [re 1,bb h38] [(0,.bp 0 0),(1,(.fn (.func 150) [] [.bp 2 0])),(4,iP v4),(6,iP v17),(16,eS 22 c75 v0.fc),(17,iP (ln v0.fc)),(18,iP v4),(24,eS 2 c95 v15.fe),(25,iP (ln v15.fe)),(26,iP v17),(32,eS 2 c100 v28.ff),(33,iP (ln v28.ff)),(34,iP v30)] (hC v0 v1 v31++[.cells [.bp 0 0],.cells (c75 v15),.cells (c95 v28)]) ?_
    refine gM (λ(v39:List G159)=>([(0,.bp 0 0),(1,(.fn (.func 150) [] [.bp 2 0])),(4,iP v4),(6,iP v17),(16,eS 22 c75 v0.fc),(17,iP (ln v0.fc)),(18,iP v4),(24,eS 2 c95 v15.fe),(25,iP (ln v15.fe)),(26,iP v17),(32,eS 2 c100 v28.ff),(33,iP (ln v28.ff)),(34,iP v30)],hC v0 v1 v39++[.cells [.bp 0 0],.cells (c75 v15),.cells (c95 v28)],Ux v30 v39)) o34 ?_ ?_
    ·rintro v39 h35
     cases h35
     exact g_to [re 2] .normal λ_ hw=>⟨rfl,hw⟩
    refine gB 5 ?_
    obtain⟨v41,h42,h35⟩:=Xa h35
    refine gP 1 [.r (es 1 (kX 2 c100 h42::es 4 [])) [],.r (es 2 (kL 13 c147 v41.fg::es 1 [])) []] [(0,.bp 0 0),(1,(.fn (.func 150) [] [.bp 2 0])),(4,iP v4),(6,iP v17),(8,iP v30),(16,eS 22 c75 v0.fc),(17,iP (ln v0.fc)),(18,iP v4),(24,eS 2 c95 v15.fe),(25,iP (ln v15.fe)),(26,iP v17),(32,eS 2 c100 v28.ff),(33,iP (ln v28.ff)),(34,iP v30),(40,eS 13 c147 v41.fg),(41,iP (ln v41.fg)),(42,iP 0)] (hC v0 v1 v31++[.cells [.bp 0 0],.cells (c75 v15),.cells (c95 v28),.cells (c100 v41)]) ?_
    refine gB 6 ?_
    obtain⟨o46,ho46,h35⟩:=Xa h35
    refine gL ho46 (λ(v43,v44)=>([(0,.bp 0 0),(1,(.fn (.func 150) [] [.bp 2 0])),(4,iP v4),(6,iP v17),(8,iP v30),(16,eS 22 c75 v0.fc),(17,iP (ln v0.fc)),(18,iP v4),(24,eS 2 c95 v15.fe),(25,iP (ln v15.fe)),(26,iP v17),(32,eS 2 c100 v28.ff),(33,iP (ln v28.ff)),(34,iP v30),(40,eS 13 c147 v41.fg),(41,iP (ln v41.fg)),(42,iP v43)],hC v0 v1 v44++[.cells [.bp 0 0],.cells (c75 v15),.cells (c95 v28),.cells (c100 v41)])) wm ?_
    rintro⟨v43,v44⟩ o47 h48 h49
    rcases cor h48 with⟨h51,h48⟩|⟨h51,h48⟩
    ·obtain⟨v52,h53,v65,h66,v72,h73,h48⟩:=bs3 h48
     cases h48
     exact g_tc 6 [re 1,bb h51,.r (es 1 (kX 13 c147 h53::es 4 [])) [],.r (es 8 (kQ [2,0,1] [] 0 1 (CF150_1 h66)::es 2 [])) (kK [0,1] [] 0 0 (Yb h73)::[]),re 2] .normal λ_ _ hw=>⟨rfl,hw⟩
    cases h48
    obtain rfl:=h49 _ rfl
    exact g_tc 5 [re 1,bb h51] (.exit 6) λ_ _ hw=>Xi (⟨_,_,hw,v44,h35,rfl,rfl⟩)
   cases h35
   obtain rfl:=h36 _ rfl
   exact g_tc 4 [re 1,bb h38] (.exit 4) λ_ _ hw=>Xi (⟨_,_,hw,v31,h22,rfl,rfl⟩)
  cases h22
  obtain rfl:=h23 _ rfl
  exact g_tc 3 [re 1,bb h25] (.exit 2) λ_ _ hw=>Xi (⟨_,_,hw,v18,h9,rfl,rfl⟩)
 cases h9
 obtain rfl:=h10 _ rfl
 obtain rfl:=soj hF
 exact g_rh 3 [re 1,bb h12] (.exit 0) λ_ _ k j=>Xi (hn k j)
theorem CF69_1 {v0 v1 v2 out} (hF:F69_1 v0 v1 v2=some out):ACall Tryz.prog 69 [.bp 0 0] (hC v0 v1 v2) (λq h=>q=(.tup [])/\h=(hC v0 v1 out)):=by
 refine gC Tryz.func69 ?_
 obtain⟨v7,h8,hF⟩:=Xa hF
 obtain rfl:=soj hF
 exact g_rh 2 [re 1,.r (es 2 (kK [0,1,2] [] 0 0 (CF140_3 h8)::[])) []] .normal λ_ _ k j=>hn k j
theorem CF230 {v0 v1 out} (hF:F230 v0 v1=some out):A0 230 [.agg (c147 v0),iP v1] (bP out):=by
 refine gC Tryz.func230 ?_
 rcases cor hF with⟨h2,hF⟩|⟨h2,hF⟩
 ·obtain rfl:=soj hF
  exact gE [re 2,.r (es 3 (kL 2 c171 v0.fq::es 2 (rp 7 (bq h2) (kPt (bP true) (.tup []) h2::es 1 [])))) []]
 obtain⟨v3,h4,hF⟩:=Xa hF
 obtain rfl:=soj hF
 exact gE [re 2,.r (es 3 (kL 2 c171 v0.fq::es 2 (rq 3 (bq h2) (bq h2::kX 2 c171 h4::rq 3 (bq h2) (kPf (bP true) (bP ((v3.fH==(ByteArray.mk #[]))&&((v3.fag==0)&&true))) h2::es 1 []))))) []]
theorem CF155_1 {v0 v1 v2 v3 v4 v5 v6 out} (hF:F155_1 v0 v1 v2 v3 v4 v5 v6=some out):ACall Tryz.prog 155 [.bp 0 0,iP v0,iP v1,iP v2,.mp 2] (hC v3 v4 v5++[gmB Xt bP v6]) (λq h=>q=(.tup [])/\h=(hC v3 v4 v5++[gmB Xt bP out])):=by
 refine gC Tryz.func155 ?_
 refine gP 1 [re 1,re 1] [(0,.bp 0 0),(1,iP v0),(2,iP v1),(3,iP v2),(4,.mp 2),(10,.bp 3 0),(11,.bp 4 0)] (hC v3 v4 v5++[gmB Xt bP v6,.cells [sP (ByteArray.mk #[]),iP 0],.cells [iP 0,iP 0,iP 0,iP 0,iP 0,iP 0,iP 0]]) ?_
 refine gM (λ(x:(GM G236 Bool)×ByteArray×Int×Int×Int×Int×Int×Int)=>match x with|(v8,v9,v10,v11,v12,v13,v14,v15)=>([(4,.mp 2),(10,.bp 3 0),(11,.bp 4 0)],(hC v3 v4 v5++[gmB Xt bP v8,.cells [sP v9,iP v10],.cells [iP v11,iP 0,iP v12,iP v13,iP v14,iP v15,iP 0]]),JF155_1_16 v8 v9 v10 v11 v12 v13 v14 v15)) out ?_ ?_
 ·rintro⟨v8,v9,v10,v11,v12,v13,v14,v15⟩ hF
  rcases cor hF with⟨h17,hF⟩|⟨h17,hF⟩
  ·obtain rfl:=soj hF
   exact g_rh 3 [re 3,bb h17,.r (es 2 (⟨.fr (.mapUp [.i,.i,.i,.i,.i,.i,.i] true (.c (.mp 2)) (.c (.agg [iP v11,iP 0,iP v12,iP v13,iP v14,iP v15,iP 0])) (.c (bP true))) [2] [gmB Xt bP v8] [gmB Xt bP (Wp keq236 v8 (⟨v11,0,v12,v13,v14,v15,0⟩:G236) true)] (.tup []),fr_mapUp (kv:=Xt) (pv:=λx=>PV.sc (.bool x)) (k:=(⟨v11,0,v12,v13,v14,v15,0⟩:G236)) (v:=true) rfl rfl ⟨rfl,rfl⟩ (λ_ _=>rfl)⟩::[])) []] .normal λ_ _ k j=>hn k j
  obtain rfl:=soj hF
  exact g_rh 3 [re 3,bb h17] .normal λ_ _ k j=>hn k j
 refine gP 0 [.r (es 5 (kL 22 c75 v3.fc::es 1 [])) []] [(1,iP v0),(2,iP v1),(3,iP v2),(4,.mp 2),(10,.bp 3 0),(11,.bp 4 0),(22,eS 22 c75 v3.fc),(23,iP (ln v3.fc)),(24,iP 0)] (hC v3 v4 v5++[gmB Xt bP v6,.cells [sP (ByteArray.mk #[]),iP 0],.cells [iP 0,iP 0,iP 0,iP 0,iP 0,iP 0,iP 0]]) ?_
 refine gB 0 ?_
 obtain⟨o35,ho35,hF⟩:=Xa hF
 refine gL ho35 (λ(v18,v19,v20,v21,v22,v23,v24,v25,v26)=>([(1,iP v0),(2,iP v1),(3,iP v2),(4,.mp 2),(10,.bp 3 0),(11,.bp 4 0),(22,eS 22 c75 v3.fc),(23,iP (ln v3.fc)),(24,iP v18)],(hC v3 v4 v5++[gmB Xt bP v19,.cells [sP v20,iP v21],.cells [iP v22,iP 0,iP v23,iP v24,iP v25,iP v26,iP 0]]))) wm ?_
 rintro⟨v18,v19,v20,v21,v22,v23,v24,v25,v26⟩ o36 h37 h38
 rcases cor h37 with⟨h40,h37⟩|⟨h40,h37⟩
 ·refine gP 1 [re 1,bb h40] [(1,iP v0),(2,iP v1),(3,iP v2),(4,.mp 2),(10,.bp 3 0),(11,.bp 4 0),(22,eS 22 c75 v3.fc),(23,iP (ln v3.fc)),(24,iP v18)] (hC v3 v4 v5++[gmB Xt bP v19,.cells [sP v20,iP v21],.cells [iP v22,iP 0,iP v23,iP v24,iP v25,iP v26,iP 0]]) ?_
  refine gM (λ(x:(GM G236 Bool)×ByteArray×Int×Int×Int×Int×Int×Int)=>match x with|(v41,v42,v43,v44,v45,v46,v47,v48)=>([(1,iP v0),(2,iP v1),(3,iP v2),(4,.mp 2),(10,.bp 3 0),(11,.bp 4 0),(22,eS 22 c75 v3.fc),(23,iP (ln v3.fc)),(24,iP v18)],(hC v3 v4 v5++[gmB Xt bP v41,.cells [sP v42,iP v43],.cells [iP v44,iP 0,iP v45,iP v46,iP v47,iP v48,iP 0]]),JF155_1_49 v18 v41 v42 v43 v44 v45 v46 v47 v48)) o36 ?_ ?_
  ·rintro⟨v41,v42,v43,v44,v45,v46,v47,v48⟩ h37
   cases h37
   exact g_to [re 2] .normal λ_ hw=>⟨rfl,hw⟩
  refine gB 1 ?_
  obtain⟨v50,h51,h37⟩:=Xa h37
  refine gP 0 [.r (es 1 (kX 22 c75 h51::es 4 [])) []] [(1,iP v0),(2,iP v1),(3,iP v2),(4,.mp 2),(10,.bp 3 0),(11,.bp 4 0),(12,iP v18),(13,.bp 5 0),(22,eS 22 c75 v3.fc),(23,iP (ln v3.fc)),(24,iP v18)] (hC v3 v4 v5++[gmB Xt bP v19,.cells [sP v20,iP v21],.cells [iP v22,iP 0,iP v23,iP v24,iP v25,iP v26,iP 0],.cells (c75 v50)]) ?_
  refine gS ?_
  refine gM (λ(v52:Bool)=>([(1,iP v0),(2,iP v1),(3,iP v2),(4,.mp 2),(10,.bp 3 0),(11,.bp 4 0),(12,iP v18),(13,.bp 5 0),(22,eS 22 c75 v3.fc),(23,iP (ln v3.fc)),(24,iP v18),(44,bP v52)],(hC v3 v4 v5++[gmB Xt bP v19,.cells [sP v20,iP v21],.cells [iP v22,iP 0,iP v23,iP v24,iP v25,iP v26,iP 0],.cells (c75 v50)]),JF155_1_53 v18 v19 v20 v21 v22 v23 v24 v25 v26 v50 v0 v1 v2 v52)) o36 ?_ ?_
  ·rintro v52 h37
   rcases cor h37 with⟨h54,h37⟩|⟨h54,h37⟩
   ·exact g_tc 5 [bb h54] (.exit 1) λ_ _ hw=>Xi (⟨_,_,hw,(v19,v20,v21,v22,v23,v24,v25,v26),h37,rfl,rfl⟩)
   refine Xk [bb h54] .normal [(1,iP v0),(2,iP v1),(3,iP v2),(4,.mp 2),(10,.bp 3 0),(11,.bp 4 0),(12,iP v18),(13,.bp 5 0),(22,eS 22 c75 v3.fc),(23,iP (ln v3.fc)),(24,iP v18)] (hC v3 v4 v5++[gmB Xt bP v19,.cells [sP v20,iP v21],.cells [iP v22,iP 0,iP v23,iP v24,iP v25,iP v26,iP 0],.cells (c75 v50)]) (λe hw=>?_)
   refine⟨_,_,hw,?_⟩
   obtain⟨v55,h56,v57,h58,h37⟩:=bs2 h37
   refine gP 0 [.r (es 3 (kX 2 c95 h56::es 3 (kX 2 c100 h58::es 2 (kL 13 c147 v57.fg::es 1 [])))) []] [(1,iP v0),(2,iP v1),(3,iP v2),(4,.mp 2),(10,.bp 3 0),(11,.bp 4 0),(12,iP v18),(22,eS 22 c75 v3.fc),(23,iP (ln v3.fc)),(24,iP v18),(54,eS 13 c147 v57.fg),(55,iP (ln v57.fg)),(56,iP 0)] (hC v3 v4 v5++[gmB Xt bP v19,.cells [sP v20,iP v21],.cells [iP v22,iP 0,iP v23,iP v24,iP v25,iP v26,iP 0],.cells (c75 v50)]) ?_
   refine gB 2 ?_
   obtain⟨o76,ho76,h37⟩:=Xa h37
   refine gL ho76 (λ(v59,v60,v61,v62,v63,v64,v65,v66,v67)=>([(1,iP v0),(2,iP v1),(3,iP v2),(4,.mp 2),(10,.bp 3 0),(11,.bp 4 0),(12,iP v18),(22,eS 22 c75 v3.fc),(23,iP (ln v3.fc)),(24,iP v18),(54,eS 13 c147 v57.fg),(55,iP (ln v57.fg)),(56,iP v59)],(hC v3 v4 v5++[gmB Xt bP v60,.cells [sP v61,iP v62],.cells [iP v63,iP 0,iP v64,iP v65,iP v66,iP v67,iP 0],.cells (c75 v50)]))) wm ?_
   rintro⟨v59,v60,v61,v62,v63,v64,v65,v66,v67⟩ o77 h78 h79
   rcases cor h78 with⟨h81,h78⟩|⟨h81,h78⟩
   ·refine gP 1 [re 1,bb h81] [(1,iP v0),(2,iP v1),(3,iP v2),(4,.mp 2),(10,.bp 3 0),(11,.bp 4 0),(12,iP v18),(22,eS 22 c75 v3.fc),(23,iP (ln v3.fc)),(24,iP v18),(54,eS 13 c147 v57.fg),(55,iP (ln v57.fg)),(56,iP v59)] (hC v3 v4 v5++[gmB Xt bP v60,.cells [sP v61,iP v62],.cells [iP v63,iP 0,iP v64,iP v65,iP v66,iP v67,iP 0],.cells (c75 v50)]) ?_
    refine gM (λ(x:(GM G236 Bool)×ByteArray×Int×Int×Int×Int×Int×Int)=>match x with|(v82,v83,v84,v85,v86,v87,v88,v89)=>([(1,iP v0),(2,iP v1),(3,iP v2),(4,.mp 2),(10,.bp 3 0),(11,.bp 4 0),(12,iP v18),(22,eS 22 c75 v3.fc),(23,iP (ln v3.fc)),(24,iP v18),(54,eS 13 c147 v57.fg),(55,iP (ln v57.fg)),(56,iP v59)],(hC v3 v4 v5++[gmB Xt bP v82,.cells [sP v83,iP v84],.cells [iP v85,iP 0,iP v86,iP v87,iP v88,iP v89,iP 0],.cells (c75 v50)]),JF155_1_90 v59 v82 v83 v84 v85 v86 v87 v88 v89)) o77 ?_ ?_
    ·rintro⟨v82,v83,v84,v85,v86,v87,v88,v89⟩ h78
     cases h78
     exact g_to [re 2] .normal λ_ hw=>⟨rfl,hw⟩
    refine gB 3 ?_
    obtain⟨v91,h92,v93,h94,h78⟩:=bs2 h78
    rcases cor h78 with⟨h95,h78⟩|⟨h95,h78⟩
    ·exact g_tc 6 [.r (es 1 (kX 13 c147 h92::es 4 [])) [],.r (es 2 (kC (CF230 h94)::[])) [],bb h95] (.exit 3) λ_ _ hw=>Xi (⟨_,_,hw,(v60,v61,v62,v63,v64,v65,v66,v67),h78,rfl,rfl⟩)
    obtain⟨v96,h97,h78⟩:=Xa h78
    refine gP 2 [.r (es 1 (kX 13 c147 h92::es 4 [])) [],.r (es 2 (kC (CF230 h94)::[])) [],bb h95,.r (es 8 (kX 2 c171 h97::es 4 [])) (es 1 [])] [(1,iP v0),(2,iP v1),(3,iP v2),(4,.mp 2),(10,.bp 3 0),(11,.bp 4 0),(12,iP v18),(16,.bp 7 0),(17,.bp 8 0),(22,eS 22 c75 v3.fc),(23,iP (ln v3.fc)),(24,iP v18),(54,eS 13 c147 v57.fg),(55,iP (ln v57.fg)),(56,iP v59)] (hC v3 v4 v5++[gmB Xt bP v60,.cells [sP v61,iP v62],.cells [iP v63,iP 0,iP v64,iP v65,iP v66,iP v67,iP 0],.cells (c75 v50),.cells (c147 v91),.cells [iP 4,iP 0,iP v0,iP v18,iP v1,iP v59,iP 0],.cells (c171 v96)]) ?_
    refine gM (λ(v98:(GM G236 Bool))=>([(1,iP v0),(2,iP v1),(3,iP v2),(4,.mp 2),(10,.bp 3 0),(11,.bp 4 0),(12,iP v18),(16,.bp 7 0),(17,.bp 8 0),(22,eS 22 c75 v3.fc),(23,iP (ln v3.fc)),(24,iP v18),(54,eS 13 c147 v57.fg),(55,iP (ln v57.fg)),(56,iP v59)],(hC v3 v4 v5++[gmB Xt bP v98,.cells [sP v61,iP v62],.cells [iP v63,iP 0,iP v64,iP v65,iP v66,iP v67,iP 0],.cells (c75 v50),.cells (c147 v91),.cells [iP 4,iP 0,iP v0,iP v18,iP v1,iP v59,iP 0],.cells (c171 v96)]),JF155_1_99 v96 v59 v0 v18 v1 v62 v98)) o77 ?_ ?_
    ·rintro v98 h78
     refine gM (λ(v100:(GM G236 Bool))=>([(1,iP v0),(2,iP v1),(3,iP v2),(4,.mp 2),(10,.bp 3 0),(11,.bp 4 0),(12,iP v18),(16,.bp 7 0),(17,.bp 8 0),(22,eS 22 c75 v3.fc),(23,iP (ln v3.fc)),(24,iP v18),(54,eS 13 c147 v57.fg),(55,iP (ln v57.fg)),(56,iP v59)],(hC v3 v4 v5++[gmB Xt bP v100,.cells [sP v61,iP v62],.cells [iP v63,iP 0,iP v64,iP v65,iP v66,iP v67,iP 0],.cells (c75 v50),.cells (c147 v91),.cells [iP 4,iP 0,iP v0,iP v18,iP v1,iP v59,iP 0],.cells (c171 v96)]),Qk v59 v96 v0 v18 v1 v100)) o77 ?_ ?_
     ·rintro v100 h78
      exact g_tc 6 [.r (es 3 []) (es 1 [])] .normal λ_ _ hw=>⟨_,_,hw,(v100,v96.fH,v96.fag,4,v0,v18,v1,v59),h78,rfl,rfl⟩
     refine gM (λ(v102:Bool)=>([(1,iP v0),(2,iP v1),(3,iP v2),(4,.mp 2),(10,.bp 3 0),(11,.bp 4 0),(12,iP v18),(16,.bp 7 0),(17,.bp 8 0),(22,eS 22 c75 v3.fc),(23,iP (ln v3.fc)),(24,iP v18),(54,eS 13 c147 v57.fg),(55,iP (ln v57.fg)),(56,iP v59),(96,bP v102)],(hC v3 v4 v5++[gmB Xt bP v98,.cells [sP v61,iP v62],.cells [iP v63,iP 0,iP v64,iP v65,iP v66,iP v67,iP 0],.cells (c75 v50),.cells (c147 v91),.cells [iP 4,iP 0,iP v0,iP v18,iP v1,iP v59,iP 0],.cells (c171 v96)]),Vo v59 v96 v0 v18 v1 v98 v102)) o77 ?_ ?_
     ·rintro v102 h78
      rcases cor h78 with⟨h104,h78⟩|⟨h104,h78⟩
      ·exact g_to [bb h104,.r (es 2 (⟨.fr (.mapUp [.i,.i,.i,.i,.i,.i,.i] true (.c (.mp 2)) (.c (.agg [iP 4,iP 0,iP v0,iP v18,iP v1,iP v59,iP 0])) (.c (bP true))) [2] [gmB Xt bP v98] [gmB Xt bP (Wp keq236 v98 (⟨4,0,v0,v18,v1,v59,0⟩:G236) true)] (.tup []),fr_mapUp (kv:=Xt) (pv:=λx=>PV.sc (.bool x)) (k:=(⟨4,0,v0,v18,v1,v59,0⟩:G236)) (v:=true) rfl rfl ⟨rfl,rfl⟩ (λ_ _=>rfl)⟩::[])) []] .normal λ_ hw=>⟨_,_,hw,Wp keq236 v98 (⟨4,0,v0,v18,v1,v59,0⟩:G236) true,h78,rfl,rfl⟩
      exact g_to [bb h104] .normal λ_ hw=>⟨_,_,hw,v98,h78,rfl,rfl⟩
     rcases cor h78 with⟨h105,h78⟩|⟨h105,h78⟩
     ·rcases cor h78 with⟨h106,h78⟩|⟨h106,h78⟩
      ·exact g_to [.r (es 4 (rq 3 (bq h105) (kPt (bP (v96.fag==2)) (bP false) h105::es 1 (rq 3 (bq h106) (kPt (bP (v62 !=2)) (bP false) h106::[]))))) []] .normal λ_ hw=>⟨_,_,hw,v62 !=2,h78,rfl,rfl⟩
      exact g_to [.r (es 4 (rq 3 (bq h105) (kPt (bP (v96.fag==2)) (bP false) h105::es 1 (rp 3 (bq h106) (kPf (.tup []) (bP false) h106::[]))))) []] .normal λ_ hw=>⟨_,_,hw,false,h78,rfl,rfl⟩
     exact g_to [.r (es 4 (rp 3 (bq h105) (kPf (.tup []) (bP false) h105::es 1 (rp 3 bqF (es 1 []))))) []] .normal λ_ hw=>⟨_,_,hw,false,h78,rfl,rfl⟩
    refine gM (λ(v107:Bool)=>([(1,iP v0),(2,iP v1),(3,iP v2),(4,.mp 2),(10,.bp 3 0),(11,.bp 4 0),(12,iP v18),(16,.bp 7 0),(17,.bp 8 0),(22,eS 22 c75 v3.fc),(23,iP (ln v3.fc)),(24,iP v18),(54,eS 13 c147 v57.fg),(55,iP (ln v57.fg)),(56,iP v59),(81,bP v107)],(hC v3 v4 v5++[gmB Xt bP v60,.cells [sP v61,iP v62],.cells [iP v63,iP 0,iP v64,iP v65,iP v66,iP v67,iP 0],.cells (c75 v50),.cells (c147 v91),.cells [iP 4,iP 0,iP v0,iP v18,iP v1,iP v59,iP 0],.cells (c171 v96)]),Qj v96 v59 v0 v18 v1 v62 v60 v63 v64 v65 v66 v67 v107)) o77 ?_ ?_
    ·rintro v107 h78
     rcases cor h78 with⟨h109,h78⟩|⟨h109,h78⟩
     ·exact g_to [bb h109,.r (es 2 (⟨.fr (.mapUp [.i,.i,.i,.i,.i,.i,.i] true (.c (.mp 2)) (.c (.agg [iP v63,iP 0,iP v64,iP v65,iP v66,iP v67,iP 0])) (.c (bP true))) [2] [gmB Xt bP v60] [gmB Xt bP (Wp keq236 v60 (⟨v63,0,v64,v65,v66,v67,0⟩:G236) true)] (.tup []),fr_mapUp (kv:=Xt) (pv:=λx=>PV.sc (.bool x)) (k:=(⟨v63,0,v64,v65,v66,v67,0⟩:G236)) (v:=true) rfl rfl ⟨rfl,rfl⟩ (λ_ _=>rfl)⟩::[])) []] .normal λ_ hw=>⟨_,_,hw,Wp keq236 v60 (⟨v63,0,v64,v65,v66,v67,0⟩:G236) true,h78,rfl,rfl⟩
     exact g_to [bb h109] .normal λ_ hw=>⟨_,_,hw,v60,h78,rfl,rfl⟩
    rcases cor h78 with⟨h110,h78⟩|⟨h110,h78⟩
    ·exact g_to [.r (es 4 (rq 3 (bq h110) (kPt (bP (ByteArray.toList v96.fH==ByteArray.toList (ByteArray.mk #[]))) (bP false) h110::[]))) []] .normal λ_ hw=>⟨_,_,hw,ByteArray.toList v96.fH==ByteArray.toList (ByteArray.mk #[]),h78,rfl,rfl⟩
    exact g_to [.r (es 4 (rp 3 (bq h110) (kPf (.tup []) (bP false) h110::[]))) []] .normal λ_ hw=>⟨_,_,hw,false,h78,rfl,rfl⟩
   cases h78
   obtain rfl:=h79 _ rfl
   exact g_tc 5 [re 1,bb h81] (.exit 2) λ_ _ hw=>Xi (⟨_,_,hw,(v60,v61,v62,v63,v64,v65,v66,v67),h37,rfl,rfl⟩)
  rcases cor h37 with⟨h111,h37⟩|⟨h111,h37⟩
  ·exact g_to [.r (es 3 (kL 2 c95 v50.fe::es 2 (rp 9 (bq h111) (kPt (bP true) (.tup []) h111::[])))) []] .normal λ_ hw=>⟨_,_,hw,true,h37,rfl,rfl⟩
  obtain⟨v112,h113,h37⟩:=Xa h37
  exact g_to [.r (es 3 (kL 2 c95 v50.fe::es 2 (rq 4 (bq h111) (bq h111::kX 2 c95 h113::rq 2 (bq h111) (bq h111::kL 2 c100 v112.ff::bq h111::es 1 (kPf (bP true) (bP (decide (v1>=(ln v112.ff)))) h111::[])))))) []] .normal λ_ hw=>⟨_,_,hw,decide (v1>=(ln v112.ff)),h37,rfl,rfl⟩
 cases h37
 obtain rfl:=h38 _ rfl
 exact g_to [re 1,bb h40] (.exit 0) λ_ hw=>Xi (⟨_,_,hw,(v19,v20,v21,v22,v23,v24,v25,v26),hF,rfl,rfl⟩)
theorem CF156_1 {v0 v1 v2 v3 v4 v5 v6 v7 v8 out} (hF:F156_1 v0 v1 v2 v3 v4 v5 v6 v7 v8=some out):ACall Tryz.prog 156 [.agg [iP v0,iP v1,iP v2,iP v3,iP v4,iP v5,iP v6],.agg (c147 v7),.bp 0 0] [.cells [.mp 1],gmB Xt bP v8] (λq h=>q=(bP out)/\h=[.cells [.mp 1],gmB Xt bP v8]):=by
 refine gC Tryz.func156 ?_
 obtain⟨v9,h10,hF⟩:=Xa hF
 obtain rfl:=soj hF
 exact g_rh 2 [re 3,.r (es 2 (⟨.fd (.lookup [.i,.i,.i,.i,.i,.i,.i] true (bP false) (.c (.mp 1)) (.c (.agg [iP v0,iP v1,iP v2,iP v3,iP v4,iP v5,iP v6])) false) [1] [gmB Xt bP v8] (bP v9),fd_lookup (kv:=Xt) (pv:=λx=>PV.sc (.bool x)) h10 rfl rfl ⟨rfl,rfl⟩ (λ_ _=>rfl)⟩::es 1 [])) []] .ret λ_ _ k j=>hr k j
theorem CF140_4 {v0 v1 v2 v3 out} (hF:F140_4 v0 v1 v2 v3=some out):ACall Tryz.prog 140 [.bp 0 0,(.fn (.func 156) [] [.bp 2 0])] (hC v0 v1 v2++[.cells [.mp 3],gmB Xt bP v3]) (λq h=>q=(.tup [])/\h=(hC v0 v1 out++[.cells [.mp 3],gmB Xt bP v3])):=by
 refine gC Tryz.func140 ?_
 refine gP 0 [.r (es 5 (kL 22 c75 v0.fc::es 1 [])) []] [(0,.bp 0 0),(1,(.fn (.func 156) [] [.bp 2 0])),(16,eS 22 c75 v0.fc),(17,iP (ln v0.fc)),(18,iP 0)] (hC v0 v1 v2++[.cells [.mp 3],gmB Xt bP v3]) ?_
 refine gB 0 ?_
 obtain⟨o8,ho8,hF⟩:=Xa hF
 refine gL ho8 (λ(v5,v6)=>([(0,.bp 0 0),(1,(.fn (.func 156) [] [.bp 2 0])),(16,eS 22 c75 v0.fc),(17,iP (ln v0.fc)),(18,iP v5)],(hC v0 v1 v6++[.cells [.mp 3],gmB Xt bP v3]))) wm ?_
 rintro⟨v5,v6⟩ o9 h10 h11
 rcases cor h10 with⟨h13,h10⟩|⟨h13,h10⟩
 ·refine gP 1 [re 1,bb h13] [(0,.bp 0 0),(1,(.fn (.func 156) [] [.bp 2 0])),(16,eS 22 c75 v0.fc),(17,iP (ln v0.fc)),(18,iP v5)] (hC v0 v1 v6++[.cells [.mp 3],gmB Xt bP v3]) ?_
  refine gM (λ(v14:List G159)=>([(0,.bp 0 0),(1,(.fn (.func 156) [] [.bp 2 0])),(16,eS 22 c75 v0.fc),(17,iP (ln v0.fc)),(18,iP v5)],(hC v0 v1 v14++[.cells [.mp 3],gmB Xt bP v3]),Uw v5 v14)) o9 ?_ ?_
  ·rintro v14 h10
   cases h10
   exact g_to [re 2] .normal λ_ hw=>⟨rfl,hw⟩
  refine gB 1 ?_
  obtain⟨v16,h17,h10⟩:=Xa h10
  refine gP 1 [.r (es 1 (kX 22 c75 h17::es 4 [])) [],.r (es 2 (kL 2 c95 v16.fe::es 1 [])) []] [(0,.bp 0 0),(1,(.fn (.func 156) [] [.bp 2 0])),(4,iP v5),(16,eS 22 c75 v0.fc),(17,iP (ln v0.fc)),(18,iP v5),(24,eS 2 c95 v16.fe),(25,iP (ln v16.fe)),(26,iP 0)] (hC v0 v1 v6++[.cells [.mp 3],gmB Xt bP v3,.cells (c75 v16)]) ?_
  refine gB 2 ?_
  obtain⟨o21,ho21,h10⟩:=Xa h10
  refine gL ho21 (λ(v18,v19)=>([(0,.bp 0 0),(1,(.fn (.func 156) [] [.bp 2 0])),(4,iP v5),(16,eS 22 c75 v0.fc),(17,iP (ln v0.fc)),(18,iP v5),(24,eS 2 c95 v16.fe),(25,iP (ln v16.fe)),(26,iP v18)],(hC v0 v1 v19++[.cells [.mp 3],gmB Xt bP v3,.cells (c75 v16)]))) wm ?_
  rintro⟨v18,v19⟩ o22 h23 h24
  rcases cor h23 with⟨h26,h23⟩|⟨h26,h23⟩
  ·refine gP 1 [re 1,bb h26] [(0,.bp 0 0),(1,(.fn (.func 156) [] [.bp 2 0])),(4,iP v5),(16,eS 22 c75 v0.fc),(17,iP (ln v0.fc)),(18,iP v5),(24,eS 2 c95 v16.fe),(25,iP (ln v16.fe)),(26,iP v18)] (hC v0 v1 v19++[.cells [.mp 3],gmB Xt bP v3,.cells (c75 v16)]) ?_
   refine gM (λ(v27:List G159)=>([(0,.bp 0 0),(1,(.fn (.func 156) [] [.bp 2 0])),(4,iP v5),(16,eS 22 c75 v0.fc),(17,iP (ln v0.fc)),(18,iP v5),(24,eS 2 c95 v16.fe),(25,iP (ln v16.fe)),(26,iP v18)],(hC v0 v1 v27++[.cells [.mp 3],gmB Xt bP v3,.cells (c75 v16)]),Uv v18 v27)) o22 ?_ ?_
   ·rintro v27 h23
    cases h23
    exact g_to [re 2] .normal λ_ hw=>⟨rfl,hw⟩
   refine gB 3 ?_
   obtain⟨v29,h30,h23⟩:=Xa h23
   refine gP 1 [.r (es 1 (kX 2 c95 h30::es 4 [])) [],.r (es 2 (kL 2 c100 v29.ff::es 1 [])) []] [(0,.bp 0 0),(1,(.fn (.func 156) [] [.bp 2 0])),(4,iP v5),(6,iP v18),(16,eS 22 c75 v0.fc),(17,iP (ln v0.fc)),(18,iP v5),(24,eS 2 c95 v16.fe),(25,iP (ln v16.fe)),(26,iP v18),(32,eS 2 c100 v29.ff),(33,iP (ln v29.ff)),(34,iP 0)] (hC v0 v1 v19++[.cells [.mp 3],gmB Xt bP v3,.cells (c75 v16),.cells (c95 v29)]) ?_
   refine gB 4 ?_
   obtain⟨o34,ho34,h23⟩:=Xa h23
   refine gL ho34 (λ(v31,v32)=>([(0,.bp 0 0),(1,(.fn (.func 156) [] [.bp 2 0])),(4,iP v5),(6,iP v18),(16,eS 22 c75 v0.fc),(17,iP (ln v0.fc)),(18,iP v5),(24,eS 2 c95 v16.fe),(25,iP (ln v16.fe)),(26,iP v18),(32,eS 2 c100 v29.ff),(33,iP (ln v29.ff)),(34,iP v31)],(hC v0 v1 v32++[.cells [.mp 3],gmB Xt bP v3,.cells (c75 v16),.cells (c95 v29)]))) wm ?_
   rintro⟨v31,v32⟩ o35 h36 h37
   rcases cor h36 with⟨h39,h36⟩|⟨h39,h36⟩
   ·refine gP 1 [re 1,bb h39] [(0,.bp 0 0),(1,(.fn (.func 156) [] [.bp 2 0])),(4,iP v5),(6,iP v18),(16,eS 22 c75 v0.fc),(17,iP (ln v0.fc)),(18,iP v5),(24,eS 2 c95 v16.fe),(25,iP (ln v16.fe)),(26,iP v18),(32,eS 2 c100 v29.ff),(33,iP (ln v29.ff)),(34,iP v31)] (hC v0 v1 v32++[.cells [.mp 3],gmB Xt bP v3,.cells (c75 v16),.cells (c95 v29)]) ?_
    refine gM (λ(v40:List G159)=>([(0,.bp 0 0),(1,(.fn (.func 156) [] [.bp 2 0])),(4,iP v5),(6,iP v18),(16,eS 22 c75 v0.fc),(17,iP (ln v0.fc)),(18,iP v5),(24,eS 2 c95 v16.fe),(25,iP (ln v16.fe)),(26,iP v18),(32,eS 2 c100 v29.ff),(33,iP (ln v29.ff)),(34,iP v31)],(hC v0 v1 v40++[.cells [.mp 3],gmB Xt bP v3,.cells (c75 v16),.cells (c95 v29)]),Uu v31 v40)) o35 ?_ ?_
    ·rintro v40 h36
     cases h36
     exact g_to [re 2] .normal λ_ hw=>⟨rfl,hw⟩
    refine gB 5 ?_
    obtain⟨v42,h43,h36⟩:=Xa h36
    refine gP 1 [.r (es 1 (kX 2 c100 h43::es 4 [])) [],.r (es 2 (kL 13 c147 v42.fg::es 1 [])) []] [(0,.bp 0 0),(1,(.fn (.func 156) [] [.bp 2 0])),(4,iP v5),(6,iP v18),(8,iP v31),(16,eS 22 c75 v0.fc),(17,iP (ln v0.fc)),(18,iP v5),(24,eS 2 c95 v16.fe),(25,iP (ln v16.fe)),(26,iP v18),(32,eS 2 c100 v29.ff),(33,iP (ln v29.ff)),(34,iP v31),(40,eS 13 c147 v42.fg),(41,iP (ln v42.fg)),(42,iP 0)] (hC v0 v1 v32++[.cells [.mp 3],gmB Xt bP v3,.cells (c75 v16),.cells (c95 v29),.cells (c100 v42)]) ?_
    refine gB 6 ?_
    obtain⟨o47,ho47,h36⟩:=Xa h36
    refine gL ho47 (λ(v44,v45)=>([(0,.bp 0 0),(1,(.fn (.func 156) [] [.bp 2 0])),(4,iP v5),(6,iP v18),(8,iP v31),(16,eS 22 c75 v0.fc),(17,iP (ln v0.fc)),(18,iP v5),(24,eS 2 c95 v16.fe),(25,iP (ln v16.fe)),(26,iP v18),(32,eS 2 c100 v29.ff),(33,iP (ln v29.ff)),(34,iP v31),(40,eS 13 c147 v42.fg),(41,iP (ln v42.fg)),(42,iP v44)],(hC v0 v1 v45++[.cells [.mp 3],gmB Xt bP v3,.cells (c75 v16),.cells (c95 v29),.cells (c100 v42)]))) wm ?_
    rintro⟨v44,v45⟩ o48 h49 h50
    rcases cor h49 with⟨h52,h49⟩|⟨h52,h49⟩
    ·obtain⟨v53,h54,v64,h65,v71,h72,h49⟩:=bs3 h49
     cases h49
     exact g_tc 7 [re 1,bb h52,.r (es 1 (kX 13 c147 h54::es 4 [])) [],.r (es 8 (kQ [2,3] [] 0 1 (CF156_1 h65)::es 2 [])) (kK [0,1] [] 0 0 (Yb h72)::[]),re 2] .normal λ_ _ hw=>⟨rfl,hw⟩
    cases h49
    obtain rfl:=h50 _ rfl
    exact g_tc 6 [re 1,bb h52] (.exit 6) λ_ _ hw=>Xi (⟨_,_,hw,v45,h36,rfl,rfl⟩)
   cases h36
   obtain rfl:=h37 _ rfl
   exact g_tc 5 [re 1,bb h39] (.exit 4) λ_ _ hw=>Xi (⟨_,_,hw,v32,h23,rfl,rfl⟩)
  cases h23
  obtain rfl:=h24 _ rfl
  exact g_tc 4 [re 1,bb h26] (.exit 2) λ_ _ hw=>Xi (⟨_,_,hw,v19,h10,rfl,rfl⟩)
 cases h10
 obtain rfl:=h11 _ rfl
 obtain rfl:=soj hF
 exact g_rh 4 [re 1,bb h13] (.exit 0) λ_ _ k j=>Xi (hn k j)
theorem CF70_1 {v0 v1 v2 out} (hF:F70_1 v0 v1 v2=some out):ACall Tryz.prog 70 [.bp 0 0] (hC v0 v1 v2) (λq h=>q=(.tup [])/\h=(hC v0 v1 out)):=by
 refine gC Tryz.func70 ?_
 obtain⟨v4,h5,hF⟩:=Xa hF
 refine gP 1 [re 3,.r (es 4 (kC (CF130 h5)::es 1 [])) []] [(0,.bp 0 0),(2,.bp 3 0),(3,iP v4)] (hC v0 v1 v2++[gmB Xt bP (⟨[],[],0⟩),.cells [.mp 2]]) ?_
 refine gM (λ(v6:(GM G236 Bool))=>([(0,.bp 0 0),(2,.bp 3 0)],(hC v0 v1 v2++[gmB Xt bP v6,.cells [.mp 2]]),JF70_1_7 v0 v1 v2 v6)) out ?_ ?_
 ·rintro v6 hF
  obtain⟨v12,h13,hF⟩:=Xa hF
  obtain rfl:=soj hF
  exact g_rh 2 [.r (es 2 (kK [0,1,3,2] [] 0 0 (CF140_4 h13)::[])) []] .normal λ_ _ k j=>hn k j
 refine gP 0 [re 2] [(0,.bp 0 0),(2,.bp 3 0),(13,iP v4),(14,iP 0)] (hC v0 v1 v2++[gmB Xt bP (⟨[],[],0⟩),.cells [.mp 2]]) ?_
 refine gB 0 ?_
 obtain⟨o17,ho17,hF⟩:=Xa hF
 refine gL ho17 (λ(v14,v15)=>([(0,.bp 0 0),(2,.bp 3 0),(13,iP v4),(14,iP v14)],(hC v0 v1 v2++[gmB Xt bP v15,.cells [.mp 2]]))) wm ?_
 rintro⟨v14,v15⟩ o18 h19 h20
 rcases cor h19 with⟨h22,h19⟩|⟨h22,h19⟩
 ·refine gP 1 [re 1,bb h22] [(0,.bp 0 0),(2,.bp 3 0),(13,iP v4),(14,iP v14)] (hC v0 v1 v2++[gmB Xt bP v15,.cells [.mp 2]]) ?_
  refine gM (λ(v23:(GM G236 Bool))=>([(0,.bp 0 0),(2,.bp 3 0),(13,iP v4),(14,iP v14)],(hC v0 v1 v2++[gmB Xt bP v23,.cells [.mp 2]]),JF70_1_24 v14 v23)) o18 ?_ ?_
  ·rintro v23 h19
   cases h19
   exact g_to [re 2] .normal λ_ hw=>⟨rfl,hw⟩
  refine gB 1 ?_
  refine gP 1 [re 2,re 1] [(0,.bp 0 0),(2,.bp 3 0),(4,iP v14),(13,iP v4),(14,iP v14),(17,iP 0)] (hC v0 v1 v2++[gmB Xt bP v15,.cells [.mp 2]]) ?_
  refine gB 2 ?_
  obtain⟨o28,ho28,h19⟩:=Xa h19
  refine gL ho28 (λ(v25,v26)=>([(0,.bp 0 0),(2,.bp 3 0),(4,iP v14),(13,iP v4),(14,iP v14),(17,iP v25)],(hC v0 v1 v2++[gmB Xt bP v26,.cells [.mp 2]]))) wm ?_
  rintro⟨v25,v26⟩ o29 h30 h31
  rcases cor h30 with⟨h33,h30⟩|⟨h33,h30⟩
  ·refine gP 1 [re 1,bb h33] [(0,.bp 0 0),(2,.bp 3 0),(4,iP v14),(13,iP v4),(14,iP v14),(17,iP v25)] (hC v0 v1 v2++[gmB Xt bP v26,.cells [.mp 2]]) ?_
   refine gM (λ(v34:(GM G236 Bool))=>([(0,.bp 0 0),(2,.bp 3 0),(4,iP v14),(13,iP v4),(14,iP v14),(17,iP v25)],(hC v0 v1 v2++[gmB Xt bP v34,.cells [.mp 2]]),JF70_1_35 v25 v34)) o29 ?_ ?_
   ·rintro v34 h30
    cases h30
    exact g_to [re 2] .normal λ_ hw=>⟨rfl,hw⟩
   refine gB 3 ?_
   refine gP 1 [re 2,re 1] [(0,.bp 0 0),(2,.bp 3 0),(4,iP v14),(5,iP v25),(13,iP v4),(14,iP v14),(17,iP v25),(20,iP 0)] (hC v0 v1 v2++[gmB Xt bP v26,.cells [.mp 2]]) ?_
   refine gB 4 ?_
   obtain⟨o39,ho39,h30⟩:=Xa h30
   refine gL ho39 (λ(v36,v37)=>([(0,.bp 0 0),(2,.bp 3 0),(4,iP v14),(5,iP v25),(13,iP v4),(14,iP v14),(17,iP v25),(20,iP v36)],(hC v0 v1 v2++[gmB Xt bP v37,.cells [.mp 2]]))) wm ?_
   rintro⟨v36,v37⟩ o40 h41 h42
   rcases cor h41 with⟨h44,h41⟩|⟨h44,h41⟩
   ·obtain⟨v52,h53,h41⟩:=Xa h41
    cases h41
    exact g_to [re 1,bb h44,re 2,.r (es 5 (kK [0,1,2] [] 0 0 (CF155_1 h53)::[])) [],re 2] .normal λ_ hw=>⟨rfl,hw⟩
   cases h41
   obtain rfl:=h42 _ rfl
   exact g_to [re 1,bb h44] (.exit 4) λ_ hw=>Xi (⟨_,_,hw,v37,h30,rfl,rfl⟩)
  cases h30
  obtain rfl:=h31 _ rfl
  exact g_to [re 1,bb h33] (.exit 2) λ_ hw=>Xi (⟨_,_,hw,v26,h19,rfl,rfl⟩)
 cases h19
 obtain rfl:=h20 _ rfl
 exact g_to [re 1,bb h22] (.exit 0) λ_ hw=>Xi (⟨_,_,hw,v15,hF,rfl,rfl⟩)
theorem Zh {v0 v1 v2 v3 v4 v5 v6 v7 v8 v9 v10 v11 v12 v13 v14 v15 v16 v17 out} (hF:Vn v0 v1 v2 v3 v4 v5 v6 v7 v8 v9 v10 v11 v12 v13 v14 v15 v16 v17=some out):ARound Tryz.prog 5 [.agg [iP v0,iP v1,iP v2,iP v3,iP v4,iP v5,iP v6],.ip (c58 v7)] [.cells (c27 v8),.cells (c58 v9),.cells [iP v10,iP v11,iP v12,iP v13,iP v14,iP v15,iP v16],.cells [bP v17],.cells [.bp 0 0],Xl [(3,.bp 1 0),(4,.bp 2 0),(5,.bp 3 0),(12,(fz 4))] .ready none] (λq h=>q=(bP (!out.2.2.2.2.2.2.2.2))/\h=[.cells (c27 v8),.cells (c58 v9),.cells [iP out.1,iP out.2.1,iP out.2.2.1,iP out.2.2.2.1,iP out.2.2.2.2.1,iP out.2.2.2.2.2.1,iP out.2.2.2.2.2.2.1],.cells [bP out.2.2.2.2.2.2.2.1],.cells [.bp 0 0],Xl [(3,.bp 1 0),(4,.bp 2 0),(5,.bp 3 0),(12,(fz 4))] (lst out.2.2.2.2.2.2.2.2) (lpd out.2.2.2.2.2.2.2.2 .ret)]):=by
 refine g_yl (N:=af291.ntmps) (le:=[(3,.bp 1 0),(4,.bp 2 0),(5,.bp 3 0),(12,(fz 4))]) (ps:=#[13,14]) (ai:=c291_15) (bd:=c291_18) (cA:=(Ze cd291 [1,1,0,1,0,0])) (cB:=(Ze cd291 [1,1,0,1,0,1])) mixed (by kernel_rfl) (by kernel_rfl) (by kernel_rfl) (by kernel_rfl) [(3,.bp 1 0),(4,.bp 2 0),(5,.bp 3 0),(12,(fz 4)),(13,.agg [iP v0,iP v1,iP v2,iP v3,iP v4,iP v5,iP v6]),(14,.ip (c58 v7))] [re 2,re 1] [(3,.bp 1 0),(4,.bp 2 0),(5,.bp 3 0),(6,.bp 6 0),(7,.ip (c58 v7))] [.cells (c27 v8),.cells (c58 v9),.cells [iP v10,iP v11,iP v12,iP v13,iP v14,iP v15,iP v16],.cells [bP v17],.cells [.bp 0 0],Xl [(3,.bp 1 0),(4,.bp 2 0),(5,.bp 3 0),(12,(fz 4))] .ready none,.cells [iP v0,iP v1,iP v2,iP v3,iP v4,iP v5,iP v6]] [.cells (c27 v8),.cells (c58 v9),.cells [iP v10,iP v11,iP v12,iP v13,iP v14,iP v15,iP v16],.cells [bP v17],.cells [.bp 0 0],Xl [(3,.bp 1 0),(4,.bp 2 0),(5,.bp 3 0),(12,(fz 4))] .busy none,.cells [iP v0,iP v1,iP v2,iP v3,iP v4,iP v5,iP v6]] ?_
 rcases cor hF with⟨h27,hF⟩|⟨h27,hF⟩
 ·refine Xk [.r (es 4 []) (es 1 []),bb h27,re 3] .ret [] [.cells (c27 v8),.cells (c58 v9),.cells [iP v0,iP v1,iP v2,iP v3,iP v4,iP v5,iP v6],.cells [bP true],.cells [.bp 0 0],Xl [(3,.bp 1 0),(4,.bp 2 0),(5,.bp 3 0),(12,(fz 4))] .busy none,.cells [iP v0,iP v1,iP v2,iP v3,iP v4,iP v5,iP v6]] (λe hw=>?_)
  obtain rfl:=soj hF
  exact round_end (hw.trans (weak_cutI (H:=[.cells (c27 v8),.cells (c58 v9),.cells [iP v0,iP v1,iP v2,iP v3,iP v4,iP v5,iP v6],.cells [bP true],.cells [.bp 0 0],Xl [(3,.bp 1 0),(4,.bp 2 0),(5,.bp 3 0),(12,(fz 4))] .busy none]) 6))
 refine Xk [.r (es 4 []) (es 1 []),bb h27] .normal [] [.cells (c27 v8),.cells (c58 v9),.cells [iP v10,iP v11,iP v12,iP v13,iP v14,iP v15,iP v16],.cells [bP v17],.cells [.bp 0 0],Xl [(3,.bp 1 0),(4,.bp 2 0),(5,.bp 3 0),(12,(fz 4))] .busy none,.cells [iP v0,iP v1,iP v2,iP v3,iP v4,iP v5,iP v6]] (λe hw=>?_)
 obtain rfl:=soj hF
 exact round_end (hw.trans (weak_cutI (H:=[.cells (c27 v8),.cells (c58 v9),.cells [iP v10,iP v11,iP v12,iP v13,iP v14,iP v15,iP v16],.cells [bP v17],.cells [.bp 0 0],Xl [(3,.bp 1 0),(4,.bp 2 0),(5,.bp 3 0),(12,(fz 4))] .busy none]) 6))
end
end Go.Proofs.YtibndgdocbbbeaaGreat
