/- A part of the proof. -/
import Derived.Test.YtnjmaohblihppaaGreatDoorOP1
import Derived.Test.YtnjmaohblihppaaGreatDoorSY8
import Derived.Test.YtnjmaohblihppaaGreatDoorFC4
import Derived.Test.YtnjmaohblihppaaGreatDoorFT
import Derived.Test.YtnjmaohblihppaaGreatDoorProg
import Derived.BigQuiet
import Derived.ChangeAlike
import Derived.Deep.AppendLies
import Derived.Deep.CutBlock
import Derived.Deep.DeepCutAuto
import Derived.Deep.LoopGhost
import Derived.Deep.QuietTactic
import Derived.Deep.RegionHeld3
import Derived.Handy
import Derived.IntWalk
import Derived.Laws.OwnMore
import Derived.Lib.Hide
import Derived.Lib.QuietBelow
import Derived.Lib.SliceRun
import Derived.OwnWalk
import Derived.RegionTactic
import Derived.WalkKit
import Derived.WalkLawsBesides
import Derived.WalkSpells
set_option linter.all false
namespace Go.PE
open Go.RowKit
variable {P:Program}
theorem acall_row {α:Type} {f:FuncId} {args:List PV} {c:α->List PV} {l:List α} {s j:Nat}
  (h:ACall P f args [] (λq k=>q=.sl (List.isEmpty l) (.own j) s (l.map c)/\k[j]?=some (.grow l.length s))) {g:Gh} {w:World} {vs:Array Value} (hI:Inv g [] w) (hA:LR g args vs):
  Calls P f vs w λe w'=>Below w.heap.size w w'/\((l=[]/\e=.returned (.slice none 0 0))\/∃ (b cap:Nat) (ws:Array Value) (et:TypeId),l≠[]/\e=.returned (.slice (some ⟨b,0,none⟩) l.length cap)/\w.heap.size<=b/\l.length<=cap/\cap<=maxLen/\
   w'.heap[b]?=some (.cells ws et (0,0))/\ws.size=cap*s/\∀ i x,l[i]?=some x->∀ k v,(c x)[k]?=some (.sc v)->ws[i*s+k]?=some v):=by
 refine(h.2 g w vs hI hA).mono ?_
 rintro e w' ⟨u,q,H',g',rfl,⟨rfl,hk⟩,hS,_,hI',hu⟩
 have hB:Below w.heap.size w w':=op_below hS λb=>by
  cases h1:g.O b with
  |none=>rfl
  |some k=>have:=hI.domO b k h1;simp at this
 refine⟨hB,?_⟩
 have hlen:(l.map c).length=l.length:=List.length_map ..
 generalize hnl:List.isEmpty l=nl at hu
 generalize hes:l.map c=es at hu hlen
 cases hu with
 |nilsl r s=>exact .inl ⟨by simpa using hlen.symm,rfl⟩
 |em r s A hr=>cases hr
 |@sl r es b o cap s vf hcap hm hs hC hR hr=>
  obtain⟨rfl,hT⟩:=hr
  subst hes
  rw[hlen]at hT hcap
  obtain⟨_,hg⟩:=hI'.blk j _ hk
  obtain⟨hO,⟨ws,et,hheap,hsz⟩,_,_,hend⟩:=hg b cap hT
  refine .inr ⟨b,cap,ws,et,(λh=>by subst h;cases hnl),by rw[hlen],?_,hcap,hm,hheap,hsz,λi x hx k v hv=>?_⟩
  ·rcases hS.O b j hO with h1|h1
   ·have:=hI.domO b j h1;simp at this
   ·exact h1
  ·have e1:(l.map c)[i]?=some (c x):=by simp[hx]
   have q1:=hC _ _ _ _ e1 hv
   have q2:=hR _ _ _ _ e1 hv
   have q3:=hI'.C _ _ _ q1
   rw[Yj hheap,Nat.zero_add]at q3
   cases q2 with
   |sc _=>exact q3
end Go.PE
set_option maxRecDepth 100000
set_option maxHeartbeats 40000000
namespace Go.Proofs.YtnjmaohblihppaaGreatDoor
open Go.PE
noncomputable section
theorem CF32m {v0 out} (hF:F32 v0=some out):ACall Tryz.prog 32 [.agg (c27 v0)] [] (λq h=>q=oP 2 3 c35 (Sl.es out)/\h[2]?=some (.grow (List.length (Sl.es out)) 3)):=by
 unfold F32 at hF
 refine gC Tryz.func32 ?_
 refine gPW 1 [re 2,re 4] [(3,(.bp 1 0))] [.cells (c27 v0),.cells (c27 v0++[(iP (0)),(eS 3 c35 Sl.nil)])] [(3,(.bp 1 0))] [.cells (c27 v0),.cells (c27 v0++[(iP (0)),(oP 2 3 c35 ([]:List G35))]),.grow (List.length ([]:List G35)) 3] ((WeakS.refl _ _ _).trans ((weak_grow 3).trans (weak_blk (cs':=[(sP v0.fap),(bP v0.faw),(eS 6 c89 v0.fh),(eS 22 c64 v0.fc),(eS 7 c126 v0.fj),(eS 2 c33 v0.fG),(iP (0)),(oP 2 3 c35 ([]:List G35))]) 1 rfl (qc (PSub.refl _) (qc (PSub.refl _) (qc (PSub.refl _) (qc (PSub.refl _) (qc (PSub.refl _) (qc (PSub.refl _) (qc (PSub.refl _) (qc psub_nil0 qe))))))))))) ?_
 refine gP 0 [re 36] [(3,(.bp 1 0)),(4,ql_0)] [.cells (c27 v0),.cells (c27 v0++[(iP (0)),(oP 2 3 c35 ([]:List G35))]),.grow (List.length ([]:List G35)) 3] ?_
 refine gM (λ(x:Int×(List G35))=>match x with|(v1,v2)=>([(3,(.bp 1 0))],[.cells (c27 v0),.cells (c27 v0++[(iP v1),(oP 2 3 c35 v2)]),.grow (List.length v2) 3],Zc v1 v2)) out ?_ ?_
 ·rintro⟨v1,v2⟩ hF
  replace hF:Zc v1 v2=some out:=hF
  unfold Zc at hF
  refine Xf [re 5] .ret [(2,(oP 2 3 c35 v2))] [.cells (c27 v0),.cells (c27 v0++[(iP v1),(oP 2 3 c35 v2)]),.grow (List.length v2) 3] (λe hw=>?_)
  obtain rfl:=soj hF
  exact⟨.inr rfl,_,_,hw,(oP 2 3 c35 v2),by kernel_rfl,.inl ⟨by rw[mkSl_es],by rw[mkSl_es];rfl⟩⟩
 refine gP 0 [re 3] [(3,(.bp 1 0)),(45,ql_0),(46,(iP (17))),(47,(iP (0)))] [.cells (c27 v0),.cells (c27 v0++[(iP (0)),(oP 2 3 c35 ([]:List G35))]),.grow (List.length ([]:List G35)) 3] ?_
 refine gB 0 ?_
 refine gU 18 (weak_mk2 (le':=[(3,(.bp 1 0)),(45,ql_0),(46,(iP (17))),(47,(iP (0)))]) (by kernel_rfl)) ?_
 refine Xq ?_
 refine gP 1 [re 1,bT] [(3,(.bp 1 0)),(45,ql_0),(46,(iP (17))),(47,(iP (0)))] [.cells (c27 v0),.cells (c27 v0++[(iP (0)),(oP 2 3 c35 ([]:List G35))]),.grow (List.length ([]:List G35)) 3] ?_
 refine gS ?_
 refine gB 1 ?_
 refine gP 1 [re 5,re 6] [(3,(.bp 1 0)),(6,(.fn (.func 61) [(.bp 1 0)] [])),(45,ql_0),(46,(iP (17))),(47,(iP (0)))] [.cells (c27 v0),.cells (c27 v0++[(iP (1)),(oP 2 3 c35 ([]:List G35))]),.grow (List.length ([]:List G35)) 3] ?_
 refine gS ?_
 refine gM (λ(_:Unit)=>([(3,(.bp 1 0)),(6,(.fn (.func 61) [(.bp 1 0)] [])),(45,ql_0),(46,(iP (17))),(47,(iP (0))),(86,(bP false))],[.cells (c27 v0),.cells (c27 v0++[(iP (1)),(oP 2 3 c35 ([]:List G35))]),.grow (List.length ([]:List G35)) 3],JF32_4 v0)) out ?_ ?_
 ·rintro⟨⟩ hF
  replace hF:JF32_4 v0=some out:=hF
  unfold JF32_4 at hF
  refine Xf [bF] .normal [(3,(.bp 1 0)),(6,(.fn (.func 61) [(.bp 1 0)] [])),(45,ql_0),(46,(iP (17))),(47,(iP (0)))] [.cells (c27 v0),.cells (c27 v0++[(iP (1)),(oP 2 3 c35 ([]:List G35))]),.grow (List.length ([]:List G35)) 3] (λe hw=>?_)
  refine⟨_,_,hw,?_⟩
  obtain⟨v8,h9,hF⟩:=Xa hF
  refine Xf [.r (es 1 (kK [1,2] [] 1 0 (CF61_1 h9)::[])) []] .normal [(3,(.bp 1 0)),(45,ql_0),(46,(iP (17))),(47,(iP (0)))] [.cells (c27 v0),.cells (c27 v0++[(iP (1)),(oP 2 3 c35 v8)]),.grow (List.length v8) 3] (λe hw=>?_)
  refine⟨_,_,hw,?_⟩
  refine Xf [re 2] .normal [(3,(.bp 1 0)),(45,ql_0),(46,(iP (17))),(47,(iP (1)))] [.cells (c27 v0),.cells (c27 v0++[(iP (1)),(oP 2 3 c35 v8)]),.grow (List.length v8) 3] (λe hw=>?_)
  refine⟨_,_,hw,?_⟩
  refine Xq ?_
  refine gP 1 [re 1,bT] [(3,(.bp 1 0)),(45,ql_0),(46,(iP (17))),(47,(iP (1)))] [.cells (c27 v0),.cells (c27 v0++[(iP (1)),(oP 2 3 c35 v8)]),.grow (List.length v8) 3] ?_
  refine gS ?_
  refine gB 1 ?_
  refine gP 1 [re 5,re 6] [(3,(.bp 1 0)),(6,(.fn (.func 62) [(.bp 1 0)] [])),(45,ql_0),(46,(iP (17))),(47,(iP (1)))] [.cells (c27 v0),.cells (c27 v0++[(iP (2)),(oP 2 3 c35 v8)]),.grow (List.length v8) 3] ?_
  refine gS ?_
  refine gM (λ(v10:Bool)=>([(3,(.bp 1 0)),(6,(.fn (.func 62) [(.bp 1 0)] [])),(45,ql_0),(46,(iP (17))),(47,(iP (1))),(86,(bP v10))],[.cells (c27 v0),.cells (c27 v0++[(iP (2)),(oP 2 3 c35 v8)]),.grow (List.length v8) 3],JF32_11 v8 v0 v10)) out ?_ ?_
  ·rintro v10 hF
   replace hF:JF32_11 v8 v0 v10=some out:=hF
   unfold JF32_11 at hF
   rcases cor hF with ⟨h12,hF⟩|⟨h12,hF⟩
   ·exact g_to [bb h12] (.exit 0) λ_ hw=>Zb rfl (Xh (⟨_,_,hw,((2),v8),hF,rfl,rfl⟩))
   refine Xf [bb h12] .normal [(3,(.bp 1 0)),(6,(.fn (.func 62) [(.bp 1 0)] [])),(45,ql_0),(46,(iP (17))),(47,(iP (1)))] [.cells (c27 v0),.cells (c27 v0++[(iP (2)),(oP 2 3 c35 v8)]),.grow (List.length v8) 3] (λe hw=>?_)
   refine⟨_,_,hw,?_⟩
   obtain⟨v16,h17,hF⟩:=Xa hF
   refine Xf [.r (es 1 (kK [1,2] [] 1 0 (CF62_1 h17)::[])) []] .normal [(3,(.bp 1 0)),(45,ql_0),(46,(iP (17))),(47,(iP (1)))] [.cells (c27 v0),.cells (c27 v0++[(iP (2)),(oP 2 3 c35 v16)]),.grow (List.length v16) 3] (λe hw=>?_)
   refine⟨_,_,hw,?_⟩
   refine Xf [re 2] .normal [(3,(.bp 1 0)),(45,ql_0),(46,(iP (17))),(47,(iP (2)))] [.cells (c27 v0),.cells (c27 v0++[(iP (2)),(oP 2 3 c35 v16)]),.grow (List.length v16) 3] (λe hw=>?_)
   refine⟨_,_,hw,?_⟩
   refine Xq ?_
   refine gP 1 [re 1,bT] [(3,(.bp 1 0)),(45,ql_0),(46,(iP (17))),(47,(iP (2)))] [.cells (c27 v0),.cells (c27 v0++[(iP (2)),(oP 2 3 c35 v16)]),.grow (List.length v16) 3] ?_
   refine gS ?_
   refine gB 1 ?_
   refine gP 1 [re 5,re 6] [(3,(.bp 1 0)),(6,(.fn (.func 63) [(.bp 1 0)] [])),(45,ql_0),(46,(iP (17))),(47,(iP (2)))] [.cells (c27 v0),.cells (c27 v0++[(iP (3)),(oP 2 3 c35 v16)]),.grow (List.length v16) 3] ?_
   refine gS ?_
   refine gM (λ(_:Unit)=>([(3,(.bp 1 0)),(6,(.fn (.func 63) [(.bp 1 0)] [])),(45,ql_0),(46,(iP (17))),(47,(iP (2))),(86,(bP false))],[.cells (c27 v0),.cells (c27 v0++[(iP (3)),(oP 2 3 c35 v16)]),.grow (List.length v16) 3],JF32_18 v0 v16)) out ?_ ?_
   ·rintro⟨⟩ hF
    replace hF:JF32_18 v0 v16=some out:=hF
    unfold JF32_18 at hF
    refine Xf [bF] .normal [(3,(.bp 1 0)),(6,(.fn (.func 63) [(.bp 1 0)] [])),(45,ql_0),(46,(iP (17))),(47,(iP (2)))] [.cells (c27 v0),.cells (c27 v0++[(iP (3)),(oP 2 3 c35 v16)]),.grow (List.length v16) 3] (λe hw=>?_)
    refine⟨_,_,hw,?_⟩
    obtain⟨v22,h23,hF⟩:=Xa hF
    refine Xf [.r (es 1 (kK [1,2] [] 1 0 (CF63_1 h23)::[])) []] .normal [(3,(.bp 1 0)),(45,ql_0),(46,(iP (17))),(47,(iP (2)))] [.cells (c27 v0),.cells (c27 v0++[(iP (3)),(oP 2 3 c35 v22)]),.grow (List.length v22) 3] (λe hw=>?_)
    refine⟨_,_,hw,?_⟩
    refine Xf [re 2] .normal [(3,(.bp 1 0)),(45,ql_0),(46,(iP (17))),(47,(iP (3)))] [.cells (c27 v0),.cells (c27 v0++[(iP (3)),(oP 2 3 c35 v22)]),.grow (List.length v22) 3] (λe hw=>?_)
    refine⟨_,_,hw,?_⟩
    refine Xq ?_
    refine gP 1 [re 1,bT] [(3,(.bp 1 0)),(45,ql_0),(46,(iP (17))),(47,(iP (3)))] [.cells (c27 v0),.cells (c27 v0++[(iP (3)),(oP 2 3 c35 v22)]),.grow (List.length v22) 3] ?_
    refine gS ?_
    refine gB 1 ?_
    refine gP 1 [re 5,re 6] [(3,(.bp 1 0)),(6,(.fn (.func 64) [(.bp 1 0)] [])),(45,ql_0),(46,(iP (17))),(47,(iP (3)))] [.cells (c27 v0),.cells (c27 v0++[(iP (4)),(oP 2 3 c35 v22)]),.grow (List.length v22) 3] ?_
    refine gS ?_
    refine gM (λ(_:Unit)=>([(3,(.bp 1 0)),(6,(.fn (.func 64) [(.bp 1 0)] [])),(45,ql_0),(46,(iP (17))),(47,(iP (3))),(86,(bP false))],[.cells (c27 v0),.cells (c27 v0++[(iP (4)),(oP 2 3 c35 v22)]),.grow (List.length v22) 3],JF32_24 v0 v22)) out ?_ ?_
    ·rintro⟨⟩ hF
     replace hF:JF32_24 v0 v22=some out:=hF
     unfold JF32_24 at hF
     refine Xf [bF] .normal [(3,(.bp 1 0)),(6,(.fn (.func 64) [(.bp 1 0)] [])),(45,ql_0),(46,(iP (17))),(47,(iP (3)))] [.cells (c27 v0),.cells (c27 v0++[(iP (4)),(oP 2 3 c35 v22)]),.grow (List.length v22) 3] (λe hw=>?_)
     refine⟨_,_,hw,?_⟩
     obtain⟨v28,h29,hF⟩:=Xa hF
     refine Xf [.r (es 1 (kK [1,2] [] 1 0 (CF64_1 h29)::[])) []] .normal [(3,(.bp 1 0)),(45,ql_0),(46,(iP (17))),(47,(iP (3)))] [.cells (c27 v0),.cells (c27 v0++[(iP (4)),(oP 2 3 c35 v28)]),.grow (List.length v28) 3] (λe hw=>?_)
     refine⟨_,_,hw,?_⟩
     refine Xf [re 2] .normal [(3,(.bp 1 0)),(45,ql_0),(46,(iP (17))),(47,(iP (4)))] [.cells (c27 v0),.cells (c27 v0++[(iP (4)),(oP 2 3 c35 v28)]),.grow (List.length v28) 3] (λe hw=>?_)
     refine⟨_,_,hw,?_⟩
     refine Xq ?_
     refine gP 1 [re 1,bT] [(3,(.bp 1 0)),(45,ql_0),(46,(iP (17))),(47,(iP (4)))] [.cells (c27 v0),.cells (c27 v0++[(iP (4)),(oP 2 3 c35 v28)]),.grow (List.length v28) 3] ?_
     refine gS ?_
     refine gB 1 ?_
     refine gP 1 [re 5,re 6] [(3,(.bp 1 0)),(6,(.fn (.func 65) [(.bp 1 0)] [])),(45,ql_0),(46,(iP (17))),(47,(iP (4)))] [.cells (c27 v0),.cells (c27 v0++[(iP (5)),(oP 2 3 c35 v28)]),.grow (List.length v28) 3] ?_
     refine gS ?_
     refine gM (λ(_:Unit)=>([(3,(.bp 1 0)),(6,(.fn (.func 65) [(.bp 1 0)] [])),(45,ql_0),(46,(iP (17))),(47,(iP (4))),(86,(bP false))],[.cells (c27 v0),.cells (c27 v0++[(iP (5)),(oP 2 3 c35 v28)]),.grow (List.length v28) 3],JF32_30 v0 v28)) out ?_ ?_
     ·rintro⟨⟩ hF
      replace hF:JF32_30 v0 v28=some out:=hF
      unfold JF32_30 at hF
      refine Xf [bF] .normal [(3,(.bp 1 0)),(6,(.fn (.func 65) [(.bp 1 0)] [])),(45,ql_0),(46,(iP (17))),(47,(iP (4)))] [.cells (c27 v0),.cells (c27 v0++[(iP (5)),(oP 2 3 c35 v28)]),.grow (List.length v28) 3] (λe hw=>?_)
      refine⟨_,_,hw,?_⟩
      obtain⟨v34,h35,hF⟩:=Xa hF
      refine Xf [.r (es 1 (kK [1,2] [] 1 0 (CF65_1 h35)::[])) []] .normal [(3,(.bp 1 0)),(45,ql_0),(46,(iP (17))),(47,(iP (4)))] [.cells (c27 v0),.cells (c27 v0++[(iP (5)),(oP 2 3 c35 v34)]),.grow (List.length v34) 3] (λe hw=>?_)
      refine⟨_,_,hw,?_⟩
      refine Xf [re 2] .normal [(3,(.bp 1 0)),(45,ql_0),(46,(iP (17))),(47,(iP (5)))] [.cells (c27 v0),.cells (c27 v0++[(iP (5)),(oP 2 3 c35 v34)]),.grow (List.length v34) 3] (λe hw=>?_)
      refine⟨_,_,hw,?_⟩
      refine Xq ?_
      refine gP 1 [re 1,bT] [(3,(.bp 1 0)),(45,ql_0),(46,(iP (17))),(47,(iP (5)))] [.cells (c27 v0),.cells (c27 v0++[(iP (5)),(oP 2 3 c35 v34)]),.grow (List.length v34) 3] ?_
      refine gS ?_
      refine gB 1 ?_
      refine gP 1 [re 5,re 6] [(3,(.bp 1 0)),(6,(.fn (.func 66) [(.bp 1 0)] [])),(45,ql_0),(46,(iP (17))),(47,(iP (5)))] [.cells (c27 v0),.cells (c27 v0++[(iP (6)),(oP 2 3 c35 v34)]),.grow (List.length v34) 3] ?_
      refine gS ?_
      refine gM (λ(_:Unit)=>([(3,(.bp 1 0)),(6,(.fn (.func 66) [(.bp 1 0)] [])),(45,ql_0),(46,(iP (17))),(47,(iP (5))),(86,(bP false))],[.cells (c27 v0),.cells (c27 v0++[(iP (6)),(oP 2 3 c35 v34)]),.grow (List.length v34) 3],JF32_36 v0 v34)) out ?_ ?_
      ·rintro⟨⟩ hF
       replace hF:JF32_36 v0 v34=some out:=hF
       unfold JF32_36 at hF
       refine Xf [bF] .normal [(3,(.bp 1 0)),(6,(.fn (.func 66) [(.bp 1 0)] [])),(45,ql_0),(46,(iP (17))),(47,(iP (5)))] [.cells (c27 v0),.cells (c27 v0++[(iP (6)),(oP 2 3 c35 v34)]),.grow (List.length v34) 3] (λe hw=>?_)
       refine⟨_,_,hw,?_⟩
       obtain⟨v40,h41,hF⟩:=Xa hF
       refine Xf [.r (es 1 (kK [1,2] [] 1 0 (CF66_1 h41)::[])) []] .normal [(3,(.bp 1 0)),(45,ql_0),(46,(iP (17))),(47,(iP (5)))] [.cells (c27 v0),.cells (c27 v0++[(iP (6)),(oP 2 3 c35 v40)]),.grow (List.length v40) 3] (λe hw=>?_)
       refine⟨_,_,hw,?_⟩
       refine Xf [re 2] .normal [(3,(.bp 1 0)),(45,ql_0),(46,(iP (17))),(47,(iP (6)))] [.cells (c27 v0),.cells (c27 v0++[(iP (6)),(oP 2 3 c35 v40)]),.grow (List.length v40) 3] (λe hw=>?_)
       refine⟨_,_,hw,?_⟩
       refine Xq ?_
       refine gP 1 [re 1,bT] [(3,(.bp 1 0)),(45,ql_0),(46,(iP (17))),(47,(iP (6)))] [.cells (c27 v0),.cells (c27 v0++[(iP (6)),(oP 2 3 c35 v40)]),.grow (List.length v40) 3] ?_
       refine gS ?_
       refine gB 1 ?_
       refine gP 1 [re 5,re 6] [(3,(.bp 1 0)),(6,(.fn (.func 67) [(.bp 1 0)] [])),(45,ql_0),(46,(iP (17))),(47,(iP (6)))] [.cells (c27 v0),.cells (c27 v0++[(iP (7)),(oP 2 3 c35 v40)]),.grow (List.length v40) 3] ?_
       refine gS ?_
       refine gM (λ(_:Unit)=>([(3,(.bp 1 0)),(6,(.fn (.func 67) [(.bp 1 0)] [])),(45,ql_0),(46,(iP (17))),(47,(iP (6))),(86,(bP false))],[.cells (c27 v0),.cells (c27 v0++[(iP (7)),(oP 2 3 c35 v40)]),.grow (List.length v40) 3],JF32_42 v0 v40)) out ?_ ?_
       ·rintro⟨⟩ hF
        replace hF:JF32_42 v0 v40=some out:=hF
        unfold JF32_42 at hF
        refine Xf [bF] .normal [(3,(.bp 1 0)),(6,(.fn (.func 67) [(.bp 1 0)] [])),(45,ql_0),(46,(iP (17))),(47,(iP (6)))] [.cells (c27 v0),.cells (c27 v0++[(iP (7)),(oP 2 3 c35 v40)]),.grow (List.length v40) 3] (λe hw=>?_)
        refine⟨_,_,hw,?_⟩
        obtain⟨v46,h47,hF⟩:=Xa hF
        refine Xf [.r (es 1 (kK [1,2] [] 1 0 (CF67_1 h47)::[])) []] .normal [(3,(.bp 1 0)),(45,ql_0),(46,(iP (17))),(47,(iP (6)))] [.cells (c27 v0),.cells (c27 v0++[(iP (7)),(oP 2 3 c35 v46)]),.grow (List.length v46) 3] (λe hw=>?_)
        refine⟨_,_,hw,?_⟩
        refine Xf [re 2] .normal [(3,(.bp 1 0)),(45,ql_0),(46,(iP (17))),(47,(iP (7)))] [.cells (c27 v0),.cells (c27 v0++[(iP (7)),(oP 2 3 c35 v46)]),.grow (List.length v46) 3] (λe hw=>?_)
        refine⟨_,_,hw,?_⟩
        refine Xq ?_
        refine gP 1 [re 1,bT] [(3,(.bp 1 0)),(45,ql_0),(46,(iP (17))),(47,(iP (7)))] [.cells (c27 v0),.cells (c27 v0++[(iP (7)),(oP 2 3 c35 v46)]),.grow (List.length v46) 3] ?_
        refine gS ?_
        refine gB 1 ?_
        refine gP 1 [re 5,re 6] [(3,(.bp 1 0)),(6,(.fn (.func 68) [(.bp 1 0)] [])),(45,ql_0),(46,(iP (17))),(47,(iP (7)))] [.cells (c27 v0),.cells (c27 v0++[(iP (8)),(oP 2 3 c35 v46)]),.grow (List.length v46) 3] ?_
        refine gS ?_
        refine gM (λ(_:Unit)=>([(3,(.bp 1 0)),(6,(.fn (.func 68) [(.bp 1 0)] [])),(45,ql_0),(46,(iP (17))),(47,(iP (7))),(86,(bP false))],[.cells (c27 v0),.cells (c27 v0++[(iP (8)),(oP 2 3 c35 v46)]),.grow (List.length v46) 3],JF32_48 v0 v46)) out ?_ ?_
        ·rintro⟨⟩ hF
         replace hF:JF32_48 v0 v46=some out:=hF
         unfold JF32_48 at hF
         refine Xf [bF] .normal [(3,(.bp 1 0)),(6,(.fn (.func 68) [(.bp 1 0)] [])),(45,ql_0),(46,(iP (17))),(47,(iP (7)))] [.cells (c27 v0),.cells (c27 v0++[(iP (8)),(oP 2 3 c35 v46)]),.grow (List.length v46) 3] (λe hw=>?_)
         refine⟨_,_,hw,?_⟩
         obtain⟨v52,h53,hF⟩:=Xa hF
         refine Xf [.r (es 1 (kK [1,2] [] 1 0 (CF68_1 h53)::[])) []] .normal [(3,(.bp 1 0)),(45,ql_0),(46,(iP (17))),(47,(iP (7)))] [.cells (c27 v0),.cells (c27 v0++[(iP (8)),(oP 2 3 c35 v52)]),.grow (List.length v52) 3] (λe hw=>?_)
         refine⟨_,_,hw,?_⟩
         refine Xf [re 2] .normal [(3,(.bp 1 0)),(45,ql_0),(46,(iP (17))),(47,(iP (8)))] [.cells (c27 v0),.cells (c27 v0++[(iP (8)),(oP 2 3 c35 v52)]),.grow (List.length v52) 3] (λe hw=>?_)
         refine⟨_,_,hw,?_⟩
         refine Xq ?_
         refine gP 1 [re 1,bT] [(3,(.bp 1 0)),(45,ql_0),(46,(iP (17))),(47,(iP (8)))] [.cells (c27 v0),.cells (c27 v0++[(iP (8)),(oP 2 3 c35 v52)]),.grow (List.length v52) 3] ?_
         refine gS ?_
         refine gB 1 ?_
         refine gP 1 [re 5,re 6] [(3,(.bp 1 0)),(6,(.fn (.func 69) [(.bp 1 0)] [])),(45,ql_0),(46,(iP (17))),(47,(iP (8)))] [.cells (c27 v0),.cells (c27 v0++[(iP (9)),(oP 2 3 c35 v52)]),.grow (List.length v52) 3] ?_
         refine gS ?_
         refine gM (λ(_:Unit)=>([(3,(.bp 1 0)),(6,(.fn (.func 69) [(.bp 1 0)] [])),(45,ql_0),(46,(iP (17))),(47,(iP (8))),(86,(bP false))],[.cells (c27 v0),.cells (c27 v0++[(iP (9)),(oP 2 3 c35 v52)]),.grow (List.length v52) 3],JF32_54 v0 v52)) out ?_ ?_
         ·rintro⟨⟩ hF
          replace hF:JF32_54 v0 v52=some out:=hF
          unfold JF32_54 at hF
          refine Xf [bF] .normal [(3,(.bp 1 0)),(6,(.fn (.func 69) [(.bp 1 0)] [])),(45,ql_0),(46,(iP (17))),(47,(iP (8)))] [.cells (c27 v0),.cells (c27 v0++[(iP (9)),(oP 2 3 c35 v52)]),.grow (List.length v52) 3] (λe hw=>?_)
          refine⟨_,_,hw,?_⟩
          obtain⟨v58,h59,hF⟩:=Xa hF
          refine Xf [.r (es 1 (kK [1,2] [] 1 0 (CF69_1 h59)::[])) []] .normal [(3,(.bp 1 0)),(45,ql_0),(46,(iP (17))),(47,(iP (8)))] [.cells (c27 v0),.cells (c27 v0++[(iP (9)),(oP 2 3 c35 v58)]),.grow (List.length v58) 3] (λe hw=>?_)
          refine⟨_,_,hw,?_⟩
          refine Xf [re 2] .normal [(3,(.bp 1 0)),(45,ql_0),(46,(iP (17))),(47,(iP (9)))] [.cells (c27 v0),.cells (c27 v0++[(iP (9)),(oP 2 3 c35 v58)]),.grow (List.length v58) 3] (λe hw=>?_)
          refine⟨_,_,hw,?_⟩
          refine Xq ?_
          refine gP 1 [re 1,bT] [(3,(.bp 1 0)),(45,ql_0),(46,(iP (17))),(47,(iP (9)))] [.cells (c27 v0),.cells (c27 v0++[(iP (9)),(oP 2 3 c35 v58)]),.grow (List.length v58) 3] ?_
          refine gS ?_
          refine gB 1 ?_
          refine gP 1 [re 5,re 6] [(3,(.bp 1 0)),(6,(.fn (.func 70) [(.bp 1 0)] [])),(45,ql_0),(46,(iP (17))),(47,(iP (9)))] [.cells (c27 v0),.cells (c27 v0++[(iP (10)),(oP 2 3 c35 v58)]),.grow (List.length v58) 3] ?_
          refine gS ?_
          refine gM (λ(v60:Bool)=>([(3,(.bp 1 0)),(6,(.fn (.func 70) [(.bp 1 0)] [])),(45,ql_0),(46,(iP (17))),(47,(iP (9))),(86,(bP v60))],[.cells (c27 v0),.cells (c27 v0++[(iP (10)),(oP 2 3 c35 v58)]),.grow (List.length v58) 3],JF32_61 v58 v0 v60)) out ?_ ?_
          ·rintro v60 hF
           replace hF:JF32_61 v58 v0 v60=some out:=hF
           unfold JF32_61 at hF
           rcases cor hF with ⟨h62,hF⟩|⟨h62,hF⟩
           ·exact g_to [bb h62] (.exit 0) λ_ hw=>Zb rfl (Xh (⟨_,_,hw,((10),v58),hF,rfl,rfl⟩))
           refine Xf [bb h62] .normal [(3,(.bp 1 0)),(6,(.fn (.func 70) [(.bp 1 0)] [])),(45,ql_0),(46,(iP (17))),(47,(iP (9)))] [.cells (c27 v0),.cells (c27 v0++[(iP (10)),(oP 2 3 c35 v58)]),.grow (List.length v58) 3] (λe hw=>?_)
           refine⟨_,_,hw,?_⟩
           obtain⟨v66,h67,hF⟩:=Xa hF
           refine Xf [.r (es 1 (kK [1,2] [] 1 0 (CF70_1 h67)::[])) []] .normal [(3,(.bp 1 0)),(45,ql_0),(46,(iP (17))),(47,(iP (9)))] [.cells (c27 v0),.cells (c27 v0++[(iP (10)),(oP 2 3 c35 v66)]),.grow (List.length v66) 3] (λe hw=>?_)
           refine⟨_,_,hw,?_⟩
           refine Xf [re 2] .normal [(3,(.bp 1 0)),(45,ql_0),(46,(iP (17))),(47,(iP (10)))] [.cells (c27 v0),.cells (c27 v0++[(iP (10)),(oP 2 3 c35 v66)]),.grow (List.length v66) 3] (λe hw=>?_)
           refine⟨_,_,hw,?_⟩
           refine Xq ?_
           refine gP 1 [re 1,bT] [(3,(.bp 1 0)),(45,ql_0),(46,(iP (17))),(47,(iP (10)))] [.cells (c27 v0),.cells (c27 v0++[(iP (10)),(oP 2 3 c35 v66)]),.grow (List.length v66) 3] ?_
           refine gS ?_
           refine gB 1 ?_
           refine gP 1 [re 5,re 6] [(3,(.bp 1 0)),(6,(.fn (.func 71) [(.bp 1 0)] [])),(45,ql_0),(46,(iP (17))),(47,(iP (10)))] [.cells (c27 v0),.cells (c27 v0++[(iP (11)),(oP 2 3 c35 v66)]),.grow (List.length v66) 3] ?_
           refine gS ?_
           refine gM (λ(v68:Bool)=>([(3,(.bp 1 0)),(6,(.fn (.func 71) [(.bp 1 0)] [])),(45,ql_0),(46,(iP (17))),(47,(iP (10))),(86,(bP v68))],[.cells (c27 v0),.cells (c27 v0++[(iP (11)),(oP 2 3 c35 v66)]),.grow (List.length v66) 3],JF32_69 v66 v0 v68)) out ?_ ?_
           ·rintro v68 hF
            replace hF:JF32_69 v66 v0 v68=some out:=hF
            unfold JF32_69 at hF
            rcases cor hF with ⟨h70,hF⟩|⟨h70,hF⟩
            ·exact g_to [bb h70] (.exit 0) λ_ hw=>Zb rfl (Xh (⟨_,_,hw,((11),v66),hF,rfl,rfl⟩))
            refine Xf [bb h70] .normal [(3,(.bp 1 0)),(6,(.fn (.func 71) [(.bp 1 0)] [])),(45,ql_0),(46,(iP (17))),(47,(iP (10)))] [.cells (c27 v0),.cells (c27 v0++[(iP (11)),(oP 2 3 c35 v66)]),.grow (List.length v66) 3] (λe hw=>?_)
            refine⟨_,_,hw,?_⟩
            obtain⟨v74,h75,hF⟩:=Xa hF
            refine Xf [.r (es 1 (kK [1,2] [] 1 0 (CF71_1 h75)::[])) []] .normal [(3,(.bp 1 0)),(45,ql_0),(46,(iP (17))),(47,(iP (10)))] [.cells (c27 v0),.cells (c27 v0++[(iP (11)),(oP 2 3 c35 v74)]),.grow (List.length v74) 3] (λe hw=>?_)
            refine⟨_,_,hw,?_⟩
            refine Xf [re 2] .normal [(3,(.bp 1 0)),(45,ql_0),(46,(iP (17))),(47,(iP (11)))] [.cells (c27 v0),.cells (c27 v0++[(iP (11)),(oP 2 3 c35 v74)]),.grow (List.length v74) 3] (λe hw=>?_)
            refine⟨_,_,hw,?_⟩
            refine Xq ?_
            refine gP 1 [re 1,bT] [(3,(.bp 1 0)),(45,ql_0),(46,(iP (17))),(47,(iP (11)))] [.cells (c27 v0),.cells (c27 v0++[(iP (11)),(oP 2 3 c35 v74)]),.grow (List.length v74) 3] ?_
            refine gS ?_
            refine gB 1 ?_
            refine gP 1 [re 5,re 6] [(3,(.bp 1 0)),(6,(.fn (.func 72) [(.bp 1 0)] [])),(45,ql_0),(46,(iP (17))),(47,(iP (11)))] [.cells (c27 v0),.cells (c27 v0++[(iP (12)),(oP 2 3 c35 v74)]),.grow (List.length v74) 3] ?_
            refine gS ?_
            refine gM (λ(v76:Bool)=>([(3,(.bp 1 0)),(6,(.fn (.func 72) [(.bp 1 0)] [])),(45,ql_0),(46,(iP (17))),(47,(iP (11))),(86,(bP v76))],[.cells (c27 v0),.cells (c27 v0++[(iP (12)),(oP 2 3 c35 v74)]),.grow (List.length v74) 3],JF32_77 v74 v0 v76)) out ?_ ?_
            ·rintro v76 hF
             replace hF:JF32_77 v74 v0 v76=some out:=hF
             unfold JF32_77 at hF
             rcases cor hF with ⟨h78,hF⟩|⟨h78,hF⟩
             ·exact g_to [bb h78] (.exit 0) λ_ hw=>Zb rfl (Xh (⟨_,_,hw,((12),v74),hF,rfl,rfl⟩))
             refine Xf [bb h78] .normal [(3,(.bp 1 0)),(6,(.fn (.func 72) [(.bp 1 0)] [])),(45,ql_0),(46,(iP (17))),(47,(iP (11)))] [.cells (c27 v0),.cells (c27 v0++[(iP (12)),(oP 2 3 c35 v74)]),.grow (List.length v74) 3] (λe hw=>?_)
             refine⟨_,_,hw,?_⟩
             obtain⟨v82,h83,hF⟩:=Xa hF
             refine Xf [.r (es 1 (kK [1,2] [] 1 0 (CF72_1 h83)::[])) []] .normal [(3,(.bp 1 0)),(45,ql_0),(46,(iP (17))),(47,(iP (11)))] [.cells (c27 v0),.cells (c27 v0++[(iP (12)),(oP 2 3 c35 v82)]),.grow (List.length v82) 3] (λe hw=>?_)
             refine⟨_,_,hw,?_⟩
             refine Xf [re 2] .normal [(3,(.bp 1 0)),(45,ql_0),(46,(iP (17))),(47,(iP (12)))] [.cells (c27 v0),.cells (c27 v0++[(iP (12)),(oP 2 3 c35 v82)]),.grow (List.length v82) 3] (λe hw=>?_)
             refine⟨_,_,hw,?_⟩
             refine Xq ?_
             refine gP 1 [re 1,bT] [(3,(.bp 1 0)),(45,ql_0),(46,(iP (17))),(47,(iP (12)))] [.cells (c27 v0),.cells (c27 v0++[(iP (12)),(oP 2 3 c35 v82)]),.grow (List.length v82) 3] ?_
             refine gS ?_
             refine gB 1 ?_
             refine gP 1 [re 5,re 6] [(3,(.bp 1 0)),(6,(.fn (.func 73) [(.bp 1 0)] [])),(45,ql_0),(46,(iP (17))),(47,(iP (12)))] [.cells (c27 v0),.cells (c27 v0++[(iP (13)),(oP 2 3 c35 v82)]),.grow (List.length v82) 3] ?_
             refine gS ?_
             refine gM (λ(v84:Bool)=>([(3,(.bp 1 0)),(6,(.fn (.func 73) [(.bp 1 0)] [])),(45,ql_0),(46,(iP (17))),(47,(iP (12))),(86,(bP v84))],[.cells (c27 v0),.cells (c27 v0++[(iP (13)),(oP 2 3 c35 v82)]),.grow (List.length v82) 3],JF32_85 v82 v0 v84)) out ?_ ?_
             ·rintro v84 hF
              replace hF:JF32_85 v82 v0 v84=some out:=hF
              unfold JF32_85 at hF
              rcases cor hF with ⟨h86,hF⟩|⟨h86,hF⟩
              ·exact g_to [bb h86] (.exit 0) λ_ hw=>Zb rfl (Xh (⟨_,_,hw,((13),v82),hF,rfl,rfl⟩))
              refine Xf [bb h86] .normal [(3,(.bp 1 0)),(6,(.fn (.func 73) [(.bp 1 0)] [])),(45,ql_0),(46,(iP (17))),(47,(iP (12)))] [.cells (c27 v0),.cells (c27 v0++[(iP (13)),(oP 2 3 c35 v82)]),.grow (List.length v82) 3] (λe hw=>?_)
              refine⟨_,_,hw,?_⟩
              obtain⟨v90,h91,hF⟩:=Xa hF
              refine Xf [.r (es 1 (kK [1,2] [] 1 0 (CF73_1 h91)::[])) []] .normal [(3,(.bp 1 0)),(45,ql_0),(46,(iP (17))),(47,(iP (12)))] [.cells (c27 v0),.cells (c27 v0++[(iP (13)),(oP 2 3 c35 v90)]),.grow (List.length v90) 3] (λe hw=>?_)
              refine⟨_,_,hw,?_⟩
              refine Xf [re 2] .normal [(3,(.bp 1 0)),(45,ql_0),(46,(iP (17))),(47,(iP (13)))] [.cells (c27 v0),.cells (c27 v0++[(iP (13)),(oP 2 3 c35 v90)]),.grow (List.length v90) 3] (λe hw=>?_)
              refine⟨_,_,hw,?_⟩
              refine Xq ?_
              refine gP 1 [re 1,bT] [(3,(.bp 1 0)),(45,ql_0),(46,(iP (17))),(47,(iP (13)))] [.cells (c27 v0),.cells (c27 v0++[(iP (13)),(oP 2 3 c35 v90)]),.grow (List.length v90) 3] ?_
              refine gS ?_
              refine gB 1 ?_
              refine gP 1 [re 5,re 6] [(3,(.bp 1 0)),(6,(.fn (.func 74) [(.bp 1 0)] [])),(45,ql_0),(46,(iP (17))),(47,(iP (13)))] [.cells (c27 v0),.cells (c27 v0++[(iP (14)),(oP 2 3 c35 v90)]),.grow (List.length v90) 3] ?_
              refine gS ?_
              refine gM (λ(v92:Bool)=>([(3,(.bp 1 0)),(6,(.fn (.func 74) [(.bp 1 0)] [])),(45,ql_0),(46,(iP (17))),(47,(iP (13))),(86,(bP v92))],[.cells (c27 v0),.cells (c27 v0++[(iP (14)),(oP 2 3 c35 v90)]),.grow (List.length v90) 3],JF32_93 v90 v0 v92)) out ?_ ?_
              ·rintro v92 hF
               replace hF:JF32_93 v90 v0 v92=some out:=hF
               unfold JF32_93 at hF
               rcases cor hF with ⟨h94,hF⟩|⟨h94,hF⟩
               ·exact g_to [bb h94] (.exit 0) λ_ hw=>Zb rfl (Xh (⟨_,_,hw,((14),v90),hF,rfl,rfl⟩))
               refine Xf [bb h94] .normal [(3,(.bp 1 0)),(6,(.fn (.func 74) [(.bp 1 0)] [])),(45,ql_0),(46,(iP (17))),(47,(iP (13)))] [.cells (c27 v0),.cells (c27 v0++[(iP (14)),(oP 2 3 c35 v90)]),.grow (List.length v90) 3] (λe hw=>?_)
               refine⟨_,_,hw,?_⟩
               obtain⟨v98,h99,hF⟩:=Xa hF
               refine Xf [.r (es 1 (kK [1,2] [] 1 0 (CF74_1 h99)::[])) []] .normal [(3,(.bp 1 0)),(45,ql_0),(46,(iP (17))),(47,(iP (13)))] [.cells (c27 v0),.cells (c27 v0++[(iP (14)),(oP 2 3 c35 v98)]),.grow (List.length v98) 3] (λe hw=>?_)
               refine⟨_,_,hw,?_⟩
               refine Xf [re 2] .normal [(3,(.bp 1 0)),(45,ql_0),(46,(iP (17))),(47,(iP (14)))] [.cells (c27 v0),.cells (c27 v0++[(iP (14)),(oP 2 3 c35 v98)]),.grow (List.length v98) 3] (λe hw=>?_)
               refine⟨_,_,hw,?_⟩
               refine Xq ?_
               refine gP 1 [re 1,bT] [(3,(.bp 1 0)),(45,ql_0),(46,(iP (17))),(47,(iP (14)))] [.cells (c27 v0),.cells (c27 v0++[(iP (14)),(oP 2 3 c35 v98)]),.grow (List.length v98) 3] ?_
               refine gS ?_
               refine gB 1 ?_
               refine gP 1 [re 5,re 6] [(3,(.bp 1 0)),(6,(.fn (.func 75) [(.bp 1 0)] [])),(45,ql_0),(46,(iP (17))),(47,(iP (14)))] [.cells (c27 v0),.cells (c27 v0++[(iP (15)),(oP 2 3 c35 v98)]),.grow (List.length v98) 3] ?_
               refine gS ?_
               refine gM (λ(v100:Bool)=>([(3,(.bp 1 0)),(6,(.fn (.func 75) [(.bp 1 0)] [])),(45,ql_0),(46,(iP (17))),(47,(iP (14))),(86,(bP v100))],[.cells (c27 v0),.cells (c27 v0++[(iP (15)),(oP 2 3 c35 v98)]),.grow (List.length v98) 3],Va v98 v0 v100)) out ?_ ?_
               ·rintro v100 hF
                replace hF:Va v98 v0 v100=some out:=hF
                unfold Va at hF
                rcases cor hF with ⟨h102,hF⟩|⟨h102,hF⟩
                ·exact g_to [bb h102] (.exit 0) λ_ hw=>Zb rfl (Xh (⟨_,_,hw,((15),v98),hF,rfl,rfl⟩))
                refine Xf [bb h102] .normal [(3,(.bp 1 0)),(6,(.fn (.func 75) [(.bp 1 0)] [])),(45,ql_0),(46,(iP (17))),(47,(iP (14)))] [.cells (c27 v0),.cells (c27 v0++[(iP (15)),(oP 2 3 c35 v98)]),.grow (List.length v98) 3] (λe hw=>?_)
                refine⟨_,_,hw,?_⟩
                obtain⟨v106,h107,hF⟩:=Xa hF
                refine Xf [.r (es 1 (kK [1,2] [] 1 0 (CF75_1 h107)::[])) []] .normal [(3,(.bp 1 0)),(45,ql_0),(46,(iP (17))),(47,(iP (14)))] [.cells (c27 v0),.cells (c27 v0++[(iP (15)),(oP 2 3 c35 v106)]),.grow (List.length v106) 3] (λe hw=>?_)
                refine⟨_,_,hw,?_⟩
                refine Xf [re 2] .normal [(3,(.bp 1 0)),(45,ql_0),(46,(iP (17))),(47,(iP (15)))] [.cells (c27 v0),.cells (c27 v0++[(iP (15)),(oP 2 3 c35 v106)]),.grow (List.length v106) 3] (λe hw=>?_)
                refine⟨_,_,hw,?_⟩
                refine Xq ?_
                refine gP 1 [re 1,bT] [(3,(.bp 1 0)),(45,ql_0),(46,(iP (17))),(47,(iP (15)))] [.cells (c27 v0),.cells (c27 v0++[(iP (15)),(oP 2 3 c35 v106)]),.grow (List.length v106) 3] ?_
                refine gS ?_
                refine gB 1 ?_
                refine gP 1 [re 5,re 6] [(3,(.bp 1 0)),(6,(.fn (.func 76) [(.bp 1 0)] [])),(45,ql_0),(46,(iP (17))),(47,(iP (15)))] [.cells (c27 v0),.cells (c27 v0++[(iP (16)),(oP 2 3 c35 v106)]),.grow (List.length v106) 3] ?_
                refine gS ?_
                refine gM (λ(v108:Bool)=>([(3,(.bp 1 0)),(6,(.fn (.func 76) [(.bp 1 0)] [])),(45,ql_0),(46,(iP (17))),(47,(iP (15))),(86,(bP v108))],[.cells (c27 v0),.cells (c27 v0++[(iP (16)),(oP 2 3 c35 v106)]),.grow (List.length v106) 3],Wz v106 v0 v108)) out ?_ ?_
                ·rintro v108 hF
                 replace hF:Wz v106 v0 v108=some out:=hF
                 unfold Wz at hF
                 rcases cor hF with ⟨h110,hF⟩|⟨h110,hF⟩
                 ·exact g_to [bb h110] (.exit 0) λ_ hw=>Zb rfl (Xh (⟨_,_,hw,((16),v106),hF,rfl,rfl⟩))
                 refine Xf [bb h110] .normal [(3,(.bp 1 0)),(6,(.fn (.func 76) [(.bp 1 0)] [])),(45,ql_0),(46,(iP (17))),(47,(iP (15)))] [.cells (c27 v0),.cells (c27 v0++[(iP (16)),(oP 2 3 c35 v106)]),.grow (List.length v106) 3] (λe hw=>?_)
                 refine⟨_,_,hw,?_⟩
                 obtain⟨v114,h115,hF⟩:=Xa hF
                 refine Xf [.r (es 1 (kK [1,2] [] 1 0 (CF76_1 h115)::[])) []] .normal [(3,(.bp 1 0)),(45,ql_0),(46,(iP (17))),(47,(iP (15)))] [.cells (c27 v0),.cells (c27 v0++[(iP (16)),(oP 2 3 c35 v114)]),.grow (List.length v114) 3] (λe hw=>?_)
                 refine⟨_,_,hw,?_⟩
                 refine Xf [re 2] .normal [(3,(.bp 1 0)),(45,ql_0),(46,(iP (17))),(47,(iP (16)))] [.cells (c27 v0),.cells (c27 v0++[(iP (16)),(oP 2 3 c35 v114)]),.grow (List.length v114) 3] (λe hw=>?_)
                 refine⟨_,_,hw,?_⟩
                 refine Xq ?_
                 refine gP 1 [re 1,bT] [(3,(.bp 1 0)),(45,ql_0),(46,(iP (17))),(47,(iP (16)))] [.cells (c27 v0),.cells (c27 v0++[(iP (16)),(oP 2 3 c35 v114)]),.grow (List.length v114) 3] ?_
                 refine gS ?_
                 refine gB 1 ?_
                 refine gP 1 [re 5,re 6] [(3,(.bp 1 0)),(6,(.fn (.func 77) [(.bp 1 0)] [])),(45,ql_0),(46,(iP (17))),(47,(iP (16)))] [.cells (c27 v0),.cells (c27 v0++[(iP (17)),(oP 2 3 c35 v114)]),.grow (List.length v114) 3] ?_
                 refine gS ?_
                 refine gM (λ(v116:Bool)=>([(3,(.bp 1 0)),(6,(.fn (.func 77) [(.bp 1 0)] [])),(45,ql_0),(46,(iP (17))),(47,(iP (16))),(86,(bP v116))],[.cells (c27 v0),.cells (c27 v0++[(iP (17)),(oP 2 3 c35 v114)]),.grow (List.length v114) 3],Wy v114 v0 v116)) out ?_ ?_
                 ·rintro v116 hF
                  replace hF:Wy v114 v0 v116=some out:=hF
                  unfold Wy at hF
                  rcases cor hF with ⟨h118,hF⟩|⟨h118,hF⟩
                  ·exact g_to [bb h118] (.exit 0) λ_ hw=>Zb rfl (Xh (⟨_,_,hw,((17),v114),hF,rfl,rfl⟩))
                  refine Xf [bb h118] .normal [(3,(.bp 1 0)),(6,(.fn (.func 77) [(.bp 1 0)] [])),(45,ql_0),(46,(iP (17))),(47,(iP (16)))] [.cells (c27 v0),.cells (c27 v0++[(iP (17)),(oP 2 3 c35 v114)]),.grow (List.length v114) 3] (λe hw=>?_)
                  refine⟨_,_,hw,?_⟩
                  obtain⟨v122,h123,hF⟩:=Xa hF
                  refine Xf [.r (es 1 (kK [1,2] [] 1 0 (CF77_1 h123)::[])) []] .normal [(3,(.bp 1 0)),(45,ql_0),(46,(iP (17))),(47,(iP (16)))] [.cells (c27 v0),.cells (c27 v0++[(iP (17)),(oP 2 3 c35 v122)]),.grow (List.length v122) 3] (λe hw=>?_)
                  refine⟨_,_,hw,?_⟩
                  refine Xf [re 2] .normal [(3,(.bp 1 0)),(45,ql_0),(46,(iP (17))),(47,(iP (17)))] [.cells (c27 v0),.cells (c27 v0++[(iP (17)),(oP 2 3 c35 v122)]),.grow (List.length v122) 3] (λe hw=>?_)
                  refine⟨_,_,hw,?_⟩
                  refine Xq ?_
                  exact g_to [re 1,bF] (.exit 0) λ_ hw=>Xh (⟨_,_,hw,((17),v122),hF,rfl,rfl⟩)
                 rcases cor hF with ⟨h124,hF⟩|⟨h124,hF⟩
                 ·obtain⟨v125,h126,hF⟩:=Xa hF
                  exact g_to [.r (es 4 (kLA 2 3 c35 v114::es 2 (rq 6 (bq h124) (rq 6 (bq (t:=false) (b:=false) rfl) (rq 4 (bq (t:=true) (b:=true) rfl) (bq (t:=true) (b:=true) rfl::kXA 2 3 c35 h126::rq 3 (bq (t:=true) (b:=true) rfl) (bq (t:=false) (b:=false) rfl::es 1 (bq h124::es 1 (kPt (bP (decide (v125.fi<(10)))) (bP false) h124::[]))))))))) []] .normal λ_ hw=>⟨_,_,hw,(decide (v125.fi<(10))),hF,rfl,rfl⟩
                 exact g_to [.r (es 4 (kLA 2 3 c35 v114::es 2 (rp 7 (bq h124) (kPf (.tup []) (bP false) h124::[])))) []] .normal λ_ hw=>⟨_,_,hw,false,hF,rfl,rfl⟩
                rcases cor hF with ⟨h127,hF⟩|⟨h127,hF⟩
                ·obtain⟨v128,h129,hF⟩:=Xa hF
                 exact g_to [.r (es 4 (kLA 2 3 c35 v106::es 2 (rq 6 (bq h127) (rq 6 (bq (t:=false) (b:=false) rfl) (rq 4 (bq (t:=true) (b:=true) rfl) (bq (t:=true) (b:=true) rfl::kXA 2 3 c35 h129::rq 3 (bq (t:=true) (b:=true) rfl) (bq (t:=false) (b:=false) rfl::es 1 (bq h127::es 1 (kPt (bP (decide (v128.fi<(10)))) (bP false) h127::[]))))))))) []] .normal λ_ hw=>⟨_,_,hw,(decide (v128.fi<(10))),hF,rfl,rfl⟩
                exact g_to [.r (es 4 (kLA 2 3 c35 v106::es 2 (rp 7 (bq h127) (kPf (.tup []) (bP false) h127::[])))) []] .normal λ_ hw=>⟨_,_,hw,false,hF,rfl,rfl⟩
               rcases cor hF with ⟨h130,hF⟩|⟨h130,hF⟩
               ·obtain⟨v131,h132,hF⟩:=Xa hF
                exact g_to [.r (es 4 (kLA 2 3 c35 v98::es 2 (rq 6 (bq h130) (rq 6 (bq (t:=false) (b:=false) rfl) (rq 4 (bq (t:=true) (b:=true) rfl) (bq (t:=true) (b:=true) rfl::kXA 2 3 c35 h132::rq 3 (bq (t:=true) (b:=true) rfl) (bq (t:=false) (b:=false) rfl::es 1 (bq h130::es 1 (kPt (bP (decide (v131.fi<(10)))) (bP false) h130::[]))))))))) []] .normal λ_ hw=>⟨_,_,hw,(decide (v131.fi<(10))),hF,rfl,rfl⟩
               exact g_to [.r (es 4 (kLA 2 3 c35 v98::es 2 (rp 7 (bq h130) (kPf (.tup []) (bP false) h130::[])))) []] .normal λ_ hw=>⟨_,_,hw,false,hF,rfl,rfl⟩
              rcases cor hF with ⟨h133,hF⟩|⟨h133,hF⟩
              ·obtain⟨v134,h135,hF⟩:=Xa hF
               exact g_to [.r (es 4 (kLA 2 3 c35 v90::es 2 (rq 6 (bq h133) (rq 6 (bq (t:=false) (b:=false) rfl) (rq 4 (bq (t:=true) (b:=true) rfl) (bq (t:=true) (b:=true) rfl::kXA 2 3 c35 h135::rq 3 (bq (t:=true) (b:=true) rfl) (bq (t:=false) (b:=false) rfl::es 1 (bq h133::es 1 (kPt (bP (decide (v134.fi<(10)))) (bP false) h133::[]))))))))) []] .normal λ_ hw=>⟨_,_,hw,(decide (v134.fi<(10))),hF,rfl,rfl⟩
              exact g_to [.r (es 4 (kLA 2 3 c35 v90::es 2 (rp 7 (bq h133) (kPf (.tup []) (bP false) h133::[])))) []] .normal λ_ hw=>⟨_,_,hw,false,hF,rfl,rfl⟩
             rcases cor hF with ⟨h136,hF⟩|⟨h136,hF⟩
             ·obtain⟨v137,h138,hF⟩:=Xa hF
              exact g_to [.r (es 4 (kLA 2 3 c35 v82::es 2 (rq 6 (bq h136) (rq 6 (bq (t:=false) (b:=false) rfl) (rq 4 (bq (t:=true) (b:=true) rfl) (bq (t:=true) (b:=true) rfl::kXA 2 3 c35 h138::rq 3 (bq (t:=true) (b:=true) rfl) (bq (t:=false) (b:=false) rfl::es 1 (bq h136::es 1 (kPt (bP (decide (v137.fi<(10)))) (bP false) h136::[]))))))))) []] .normal λ_ hw=>⟨_,_,hw,(decide (v137.fi<(10))),hF,rfl,rfl⟩
             exact g_to [.r (es 4 (kLA 2 3 c35 v82::es 2 (rp 7 (bq h136) (kPf (.tup []) (bP false) h136::[])))) []] .normal λ_ hw=>⟨_,_,hw,false,hF,rfl,rfl⟩
            rcases cor hF with ⟨h139,hF⟩|⟨h139,hF⟩
            ·obtain⟨v140,h141,hF⟩:=Xa hF
             exact g_to [.r (es 4 (kLA 2 3 c35 v74::es 2 (rq 6 (bq h139) (rq 6 (bq (t:=false) (b:=false) rfl) (rq 4 (bq (t:=true) (b:=true) rfl) (bq (t:=true) (b:=true) rfl::kXA 2 3 c35 h141::rq 3 (bq (t:=true) (b:=true) rfl) (bq (t:=false) (b:=false) rfl::es 1 (bq h139::es 1 (kPt (bP (decide (v140.fi<(10)))) (bP false) h139::[]))))))))) []] .normal λ_ hw=>⟨_,_,hw,(decide (v140.fi<(10))),hF,rfl,rfl⟩
            exact g_to [.r (es 4 (kLA 2 3 c35 v74::es 2 (rp 7 (bq h139) (kPf (.tup []) (bP false) h139::[])))) []] .normal λ_ hw=>⟨_,_,hw,false,hF,rfl,rfl⟩
           rcases cor hF with ⟨h142,hF⟩|⟨h142,hF⟩
           ·obtain⟨v143,h144,hF⟩:=Xa hF
            exact g_to [.r (es 4 (kLA 2 3 c35 v66::es 2 (rq 6 (bq h142) (rq 6 (bq (t:=false) (b:=false) rfl) (rq 4 (bq (t:=true) (b:=true) rfl) (bq (t:=true) (b:=true) rfl::kXA 2 3 c35 h144::rq 3 (bq (t:=true) (b:=true) rfl) (bq (t:=false) (b:=false) rfl::es 1 (bq h142::es 1 (kPt (bP (decide (v143.fi<(10)))) (bP false) h142::[]))))))))) []] .normal λ_ hw=>⟨_,_,hw,(decide (v143.fi<(10))),hF,rfl,rfl⟩
           exact g_to [.r (es 4 (kLA 2 3 c35 v66::es 2 (rp 7 (bq h142) (kPf (.tup []) (bP false) h142::[])))) []] .normal λ_ hw=>⟨_,_,hw,false,hF,rfl,rfl⟩
          rcases cor hF with ⟨h145,hF⟩|⟨h145,hF⟩
          ·obtain⟨v146,h147,hF⟩:=Xa hF
           exact g_to [.r (es 4 (kLA 2 3 c35 v58::es 2 (rq 6 (bq h145) (rq 6 (bq (t:=false) (b:=false) rfl) (rq 4 (bq (t:=true) (b:=true) rfl) (bq (t:=true) (b:=true) rfl::kXA 2 3 c35 h147::rq 3 (bq (t:=true) (b:=true) rfl) (bq (t:=false) (b:=false) rfl::es 1 (bq h145::es 1 (kPt (bP (decide (v146.fi<(10)))) (bP false) h145::[]))))))))) []] .normal λ_ hw=>⟨_,_,hw,(decide (v146.fi<(10))),hF,rfl,rfl⟩
          exact g_to [.r (es 4 (kLA 2 3 c35 v58::es 2 (rp 7 (bq h145) (kPf (.tup []) (bP false) h145::[])))) []] .normal λ_ hw=>⟨_,_,hw,false,hF,rfl,rfl⟩
         rcases cor hF with ⟨h148,hF⟩|⟨h148,hF⟩
         ·exact g_to [.r (es 4 (kLA 2 3 c35 v52::es 2 (rq 6 (bq h148) (rq 6 (bq (t:=false) (b:=false) rfl) (rp 9 (bq (t:=false) (b:=false) rfl) (es 1 (bq h148::es 1 (kPt (bP false) (bP false) h148::[])))))))) []] .normal λ_ hw=>⟨_,_,hw,(),hF,rfl,rfl⟩
         exact g_to [.r (es 4 (kLA 2 3 c35 v52::es 2 (rp 7 (bq h148) (kPf (.tup []) (bP false) h148::[])))) []] .normal λ_ hw=>⟨_,_,hw,(),hF,rfl,rfl⟩
        rcases cor hF with ⟨h149,hF⟩|⟨h149,hF⟩
        ·exact g_to [.r (es 4 (kLA 2 3 c35 v46::es 2 (rq 6 (bq h149) (rq 6 (bq (t:=false) (b:=false) rfl) (rp 9 (bq (t:=false) (b:=false) rfl) (es 1 (bq h149::es 1 (kPt (bP false) (bP false) h149::[])))))))) []] .normal λ_ hw=>⟨_,_,hw,(),hF,rfl,rfl⟩
        exact g_to [.r (es 4 (kLA 2 3 c35 v46::es 2 (rp 7 (bq h149) (kPf (.tup []) (bP false) h149::[])))) []] .normal λ_ hw=>⟨_,_,hw,(),hF,rfl,rfl⟩
       rcases cor hF with ⟨h150,hF⟩|⟨h150,hF⟩
       ·exact g_to [.r (es 4 (kLA 2 3 c35 v40::es 2 (rq 6 (bq h150) (rq 6 (bq (t:=false) (b:=false) rfl) (rp 9 (bq (t:=false) (b:=false) rfl) (es 1 (bq h150::es 1 (kPt (bP false) (bP false) h150::[])))))))) []] .normal λ_ hw=>⟨_,_,hw,(),hF,rfl,rfl⟩
       exact g_to [.r (es 4 (kLA 2 3 c35 v40::es 2 (rp 7 (bq h150) (kPf (.tup []) (bP false) h150::[])))) []] .normal λ_ hw=>⟨_,_,hw,(),hF,rfl,rfl⟩
      rcases cor hF with ⟨h151,hF⟩|⟨h151,hF⟩
      ·exact g_to [.r (es 4 (kLA 2 3 c35 v34::es 2 (rq 6 (bq h151) (rq 6 (bq (t:=false) (b:=false) rfl) (rp 9 (bq (t:=false) (b:=false) rfl) (es 1 (bq h151::es 1 (kPt (bP false) (bP false) h151::[])))))))) []] .normal λ_ hw=>⟨_,_,hw,(),hF,rfl,rfl⟩
      exact g_to [.r (es 4 (kLA 2 3 c35 v34::es 2 (rp 7 (bq h151) (kPf (.tup []) (bP false) h151::[])))) []] .normal λ_ hw=>⟨_,_,hw,(),hF,rfl,rfl⟩
     rcases cor hF with ⟨h152,hF⟩|⟨h152,hF⟩
     ·exact g_to [.r (es 4 (kLA 2 3 c35 v28::es 2 (rq 6 (bq h152) (rq 6 (bq (t:=false) (b:=false) rfl) (rp 9 (bq (t:=false) (b:=false) rfl) (es 1 (bq h152::es 1 (kPt (bP false) (bP false) h152::[])))))))) []] .normal λ_ hw=>⟨_,_,hw,(),hF,rfl,rfl⟩
     exact g_to [.r (es 4 (kLA 2 3 c35 v28::es 2 (rp 7 (bq h152) (kPf (.tup []) (bP false) h152::[])))) []] .normal λ_ hw=>⟨_,_,hw,(),hF,rfl,rfl⟩
    rcases cor hF with ⟨h153,hF⟩|⟨h153,hF⟩
    ·exact g_to [.r (es 4 (kLA 2 3 c35 v22::es 2 (rq 6 (bq h153) (rq 6 (bq (t:=false) (b:=false) rfl) (rp 9 (bq (t:=false) (b:=false) rfl) (es 1 (bq h153::es 1 (kPt (bP false) (bP false) h153::[])))))))) []] .normal λ_ hw=>⟨_,_,hw,(),hF,rfl,rfl⟩
    exact g_to [.r (es 4 (kLA 2 3 c35 v22::es 2 (rp 7 (bq h153) (kPf (.tup []) (bP false) h153::[])))) []] .normal λ_ hw=>⟨_,_,hw,(),hF,rfl,rfl⟩
   rcases cor hF with ⟨h154,hF⟩|⟨h154,hF⟩
   ·exact g_to [.r (es 4 (kLA 2 3 c35 v16::es 2 (rq 6 (bq h154) (rq 6 (bq (t:=false) (b:=false) rfl) (rp 9 (bq (t:=false) (b:=false) rfl) (es 1 (bq h154::es 1 (kPt (bP false) (bP false) h154::[])))))))) []] .normal λ_ hw=>⟨_,_,hw,(),hF,rfl,rfl⟩
   exact g_to [.r (es 4 (kLA 2 3 c35 v16::es 2 (rp 7 (bq h154) (kPf (.tup []) (bP false) h154::[])))) []] .normal λ_ hw=>⟨_,_,hw,(),hF,rfl,rfl⟩
  rcases cor hF with ⟨h155,hF⟩|⟨h155,hF⟩
  ·exact g_to [.r (es 4 (kLA 2 3 c35 v8::es 2 (rq 6 (bq h155) (rp 7 (bq (t:=true) (b:=true) rfl) (bq h155::es 1 (kPt (bP true) (bP false) h155::[])))))) []] .normal λ_ hw=>⟨_,_,hw,true,hF,rfl,rfl⟩
  exact g_to [.r (es 4 (kLA 2 3 c35 v8::es 2 (rp 7 (bq h155) (kPf (.tup []) (bP false) h155::[])))) []] .normal λ_ hw=>⟨_,_,hw,false,hF,rfl,rfl⟩
 rcases cor hF with ⟨h156,hF⟩|⟨h156,hF⟩
 ·exact g_to [.r (es 4 (kLA 2 3 c35 ([]:List G35)::es 2 (rq 6 (bq h156) (rq 6 (bq (t:=false) (b:=false) rfl) (rp 9 (bq (t:=false) (b:=false) rfl) (es 1 (bq h156::es 1 (kPt (bP false) (bP false) h156::[])))))))) []] .normal λ_ hw=>⟨_,_,hw,(),hF,rfl,rfl⟩
 exact g_to [.r (es 4 (kLA 2 3 c35 ([]:List G35)::es 2 (rp 7 (bq h156) (kPf (.tup []) (bP false) h156::[])))) []] .normal λ_ hw=>⟨_,_,hw,(),hF,rfl,rfl⟩
end
end Go.Proofs.YtnjmaohblihppaaGreatDoor
namespace Go.Proofs.YtnjmaohblihppaaGreatDoor
open Go.RowKit
abbrev Vn:=G35
def vz:Vn:=⟨0,⟨0,0⟩⟩
def nthV (l:List Vn) (k:Nat):Vn:=l.getD k vz
def encV (x:Vn):List Value:=[.int .i64 x.fi,.int .i64 x.fm.fp,.int .i64 x.fm.fq]
abbrev vV (x:Vn):Value:=.agg #[.int .i64 x.fi,.int .i64 x.fm.fp,.int .i64 x.fm.fq]
def Wo (l:List Vn):List Value:=l.flatMap encV
theorem Zh (z:Vn) (l:List Vn):Wo (z::l)=.int .i64 z.fi::.int .i64 z.fm.fp::.int .i64 z.fm.fq::Wo l:=rfl
theorem Zq:∀ l:List Vn,(Wo l).length=l.length*3
 |[]=>rfl
 |z::l=>by rw[Zh];simp only[List.length_cons,Zq l];omega
theorem cellsV_take:∀ (l:List Vn) (k:Nat),(Wo l).take (k*3)=Wo (l.take k)
 |[],k=>by simp[Wo]
 |z::l,0=>by simp[Wo]
 |z::l,k+1=>by rw[List.take_succ_cons,Zh,Zh,show(k+1)*3=k*3+1+1+1 by omega];simp only[List.take_succ_cons,cellsV_take l k]
theorem cellsV_set (x:Vn):∀ (l:List Vn) (i:Nat),Wo (l.set i x)=(((Wo l).set (i*3) (.int .i64 x.fi)).set (i*3+1) (.int .i64 x.fm.fp)).set (i*3+2) (.int .i64 x.fm.fq)
 |[],i=>by simp[Wo]
 |z::l,0=>by simp[Zh]
 |z::l,i+1=>by
  have ih:=cellsV_set x l i
  rw[List.set_cons_succ,Zh,ih,Zh]
  simp only[show(i+1)*3=i*3+1+1+1 by omega,show ∀ k:Nat,i*3+1+1+1+k=(i*3+k)+1+1+1 by omega,List.set_cons_succ]
theorem cellsV_get:∀ (l:List Vn) (k j:Nat),k<l.length->j<3->(Wo l)[k*3+j]?=(encV (nthV l k))[j]?
 |[],k,j,h,_=>by simp at h
 |z::l,0,j,_,hj=>by
  match j,hj with
  |0,_=>rfl
  |1,_=>rfl
  |2,_=>rfl
 |z::l,k+1,j,h,hj=>by
  rw[Zh,show(k+1)*3+j=(k*3+j)+1+1+1 by omega]
  simp only[List.getElem?_cons_succ]
  exact cellsV_get l k j (by simpa using h) hj
def AtV (w:World) (b o:Nat) (x:Vn):Prop:=w.cell? ⟨b,o,none⟩=some (.int .i64 x.fi)/\w.cell? ⟨b,o+1,none⟩=some (.int .i64 x.fm.fp)/\w.cell? ⟨b,o+2,none⟩=some (.int .i64 x.fm.fq)
abbrev Ow (w:World) (base et g n cap:Nat) (l:List Vn):Prop:=w.ownsRow base et 3 (.slice (some ⟨g,0,none⟩) n cap) n (Wo l)
def putV (w:World) (g i:Nat) (x:Vn):World:=((w.setCell ⟨g,i*3,none⟩ (.int .i64 x.fi)).setCell ⟨g,i*3+1,none⟩ (.int .i64 x.fm.fp)).setCell ⟨g,i*3+2,none⟩ (.int .i64 x.fm.fq)
theorem own_putV {w:World} {base et g n cap:Nat} {l:List Vn} (h:Ow w base et g n cap l) (i:Nat) (x:Vn):Ow (putV w g i x) base et g n cap (l.set i x):=by
 unfold Ow
 rw[cellsV_set]
 exact(((h.stored (i*3) (.int .i64 x.fi)).1.stored (i*3+1) (.int .i64 x.fm.fp)).1.stored (i*3+2) (.int .i64 x.fm.fq)).1
theorem putV_below {B:Nat} {a w:World} (h:Below B a w) {g:Nat} (hb:B<=g) (i:Nat) (x:Vn):Below B a (putV w g i x):=
 ((h.setCell (p:=⟨g,i*3,none⟩) hb _).setCell (p:=⟨g,i*3+1,none⟩) hb _).setCell (p:=⟨g,i*3+2,none⟩) hb _
theorem putV_size (w:World) (g i:Nat) (x:Vn):(putV w g i x).heap.size=w.heap.size:=by simp[putV]
theorem own_atV {w:World} {base et g n cap:Nat} {l:List Vn} (h:Ow w base et g n cap l) (hn:l.length=n) {k:Nat} (hk:k<n):AtV w g (k*3) (nthV l k):=by
 have hc:=λj (hj:j<3)=>h.cellAt (k*3+j) (by omega)
 have hg:=λj (hj:j<3)=>cellsV_get l k j (by omega) hj
 exact⟨by rw[show k*3=k*3+0 by omega,hc 0 (by omega),hg 0 (by omega)];rfl,by rw[hc 1 (by omega),hg 1 (by omega)];rfl,by rw[hc 2 (by omega),hg 2 (by omega)];rfl⟩
theorem Ow.belowV {w w':World} {base et g n cap:Nat} {l:List Vn} (h:Ow w base et g n cap l) (hb:Below w.heap.size w w'):Ow w' base et g n cap l:=
 h.kept (row:=none) ⟨hb.os,hb.tape,hb.output,hb.size,λi hi _=>hb.block i hi⟩ (by simp[Value.ownBlock])
set_option maxHeartbeats 4000000 in
set_option maxRecDepth 100000 in
theorem ruleC (x:Vn) (B:Nat) (r:Int) (w:World) (hB:w.cell? ⟨B,0,none⟩=some (.int .i64 r)) (hl:B<w.heap.size):
  Calls Tryz.prog 54 #[vV x,.pointer (some ⟨B,0,none⟩)] w λe w'=>e=.returned (.bool (x.fi !=r))/\Below w.heap.size w w':=by
 go_enter Tryz.func54,Tryz.ntmps54
 go_wp2_with fail
 go_ret
 exact⟨by simp[bne,BEq.beq],by go_grown⟩
end Go.Proofs.YtnjmaohblihppaaGreatDoor
namespace Go.Proofs.YtnjmaohblihppaaGreatDoor
open Go.RowKit
set_option maxHeartbeats 4000000 in
set_option maxRecDepth 100000 in
theorem idxC (L:List Vn) (g cap n base et B:Nat) (r:Int) (w:World) (hown:Ow w base et g n cap L) (hn:L.length=n) (hsz:n<=1000000000) (hB:w.cell? ⟨B,0,none⟩=some (.int .i64 r)) (hl:B<w.heap.size):
  Calls Tryz.prog 93 #[.slice (some ⟨g,0,none⟩) n cap,.func (.func 54) #[] #[.pointer (some ⟨B,0,none⟩)]] w λe w'=>Below w.heap.size w w'/\((e=.returned (.int .i64 (-1))/\∀ j,j<n->(nthV L j).fi=r)\/∃ k:Nat,k<n/\e=.returned (.int .i64 k)/\(∀ j,j<k->(nthV L j).fi=r)/\(nthV L k).fi≠r):=by
 go_enter Tryz.func93,Tryz.ntmps93
 go_wp2_with fail
 go_loopw [8] (λi wr=>∃ q:Nat,i=.int .i64 q/\q<=n/\(∀ j,j<q->(nthV L j).fi=r)/\Below w.heap.size w wr) (λi _=>n-(intOf i).toNat)
 case atStart=>exact⟨0,rfl,by omega,λj h=>absurd h (Nat.not_lt_zero j),Below.refl _ _⟩
 case round=>
  obtain⟨q,rfl,hq,hA,hW⟩:=hrel
  by_cases hlt:q<n
  ·have hz:(q:Int)<(n:Int):=by omega
   have hO:=hown.belowV hW
   have hX:=own_atV hO hn hlt
   have hBr:=(hW.cell (p:=⟨B,0,none⟩) hl).trans hB
   have hs:=hW.size
   have hc:=λw=>ruleC (nthV L q) B r w
   have hA1:∀ b:Bool,((nthV L q).fi !=r)=b->(b=true->(nthV L q).fi≠r)/\(b=false->(nthV L q).fi=r):=by
    intro b h
    subst h
    exact⟨λh=>by simpa using h,λh=>by simpa using h⟩
   generalize hb:((nthV L q).fi !=r)=b at *
   have hA1:=hA1 b rfl
   clear hb
   have HX:=Lib.hid (And.intro hA (And.intro hA1 hown))
   clear hA hA1 hown hO
   obtain⟨x0,x1,x2⟩:=hX
   generalize hx:nthV L q=x at *
   have hx':=Lib.hid hx
   clear hx
   go_wp2_with fail
   refine(hc _ (by go_cell) (by omega)).mono ?_
   rintro e w1 ⟨rfl,hb1⟩
   cases b with
   |true=>
    go_wp2_with fail
    go_ret
    have hA:=HX.out
    exact⟨hW.trans (hb1.mono hs),.inr ⟨q,hlt,rfl,hA.1,by rw[hx'.out];exact hA.2.1.1 trivial⟩⟩
   |false=>
    go_wp2_with fail
    go_roundw
    case rel=>
     have hA:=HX.out
     refine⟨q+1,by go_num,by omega,λj hj=>?_,hW.trans (hb1.mono hs)⟩
     rcases Nat.lt_succ_iff_lt_or_eq.1 hj with h|h
     ·exact hA.1 j h
     ·subst h;rw[hx'.out];exact hA.2.1.2 trivial
    case measure=>simp[intOf];omega
  ·have hz:¬ (q:Int)<(n:Int):=by omega
   go_wp2_with fail
   go_ret
   exact⟨hW,.inl ⟨rfl,λj hj=>hA j (by omega)⟩⟩
end Go.Proofs.YtnjmaohblihppaaGreatDoor
namespace Go.Proofs.YtnjmaohblihppaaGreatDoor
open Go.RowKit
def Yb (r:Int) (l:List Vn):List Vn:=l.filter λx=>x.fi==r
theorem Vt {r:Int} {l:List Vn} {j:Nat} (hj:j<l.length):Yb r (l.take (j+1))=Yb r (l.take j)++(if (nthV l j).fi=r then [nthV l j] else []):=by
 have e:nthV l j=l[j]:=by unfold nthV;rw[List.getD_eq_getElem?_getD,List.getElem?_eq_getElem hj];rfl
 rw[List.take_succ_eq_append_getElem hj,e]
 unfold Yb
 rw[List.filter_append]
 congr 1
 by_cases h:l[j].fi=r
 ·rw[if_pos h];simp[h]
 ·rw[if_neg h];simp[h]
theorem keepV_pre {r:Int} {L:List Vn} {k:Nat} (hk:k<=L.length) (h:∀ j,j<k->(nthV L j).fi=r):∀ j,j<=k->Yb r (L.take j)=L.take j:=by
 intro j hj
 induction j with
 |zero=>simp[Yb]
 |succ j ih=>
  rw[Vt (by omega),ih (by omega),if_pos (h j (by omega)),List.take_succ_eq_append_getElem (by omega)]
  congr 2
  unfold nthV;rw[List.getD_eq_getElem?_getD,List.getElem?_eq_getElem (by omega)];rfl
structure Del (r:Int) (L M:List Vn) (i j:Nat):Prop where
 lt:i<j
 le:j<=L.length
 len:M.length=L.length
 low:M.take i=Yb r (L.take j)
 high:M.drop j=L.drop j
theorem Del.at {r L M i j} (h:Del r L M i j) (hj:j<L.length):nthV M j=nthV L j:=by
 have e:=congrArg (λl=>l[0]?) h.high
 simp only[List.getElem?_drop,Nat.add_zero]at e
 unfold nthV
 rw[List.getD_eq_getElem?_getD,List.getD_eq_getElem?_getD,e]
theorem Del.start {r L k} (hk:k<L.length) (h:∀ j,j<k->(nthV L j).fi=r) (hn:(nthV L k).fi≠r):Del r L L k (k+1):=by
 have key:=keepV_pre (Nat.le_of_lt hk) h
 exact⟨by omega,by omega,rfl,by rw[Vt hk,if_neg hn,List.append_nil,key k (Nat.le_refl _)],rfl⟩
theorem Del.keep {r L M i j} (h:Del r L M i j) (hj:j<L.length) (hr:(nthV L j).fi=r):Del r L (M.set i (nthV L j)) (i+1) (j+1):=by
 have hl:=h.len
 have hij:=h.lt
 refine⟨by omega,by omega,by simpa using hl,?_,?_⟩
 ·rw[Vt hj,if_pos hr,<-h.low,List.take_succ_eq_append_getElem (by simp;omega)]
  congr 1
  ·rw[List.take_set_of_le (Nat.le_refl _)]
  ·simp
 ·rw[List.drop_set_of_lt (by omega),<-List.drop_drop,<-List.drop_drop,h.high]
theorem Del.skip {r L M i j} (h:Del r L M i j) (hj:j<L.length) (hr:(nthV L j).fi≠r):Del r L M i (j+1):=by
 have hij:=h.lt
 refine⟨by omega,by omega,h.len,?_,?_⟩
 ·rw[Vt hj,if_neg hr,List.append_nil,h.low]
 ·rw[<-List.drop_drop,<-List.drop_drop,h.high]
theorem Ow.cut {w:World} {base et g n cap:Nat} {l:List Vn} (h:Ow w base et g n cap l) {i:Nat} (hi:i<=n) (hl:l.length=n):Ow w base et g i cap (l.take i):=by
 obtain⟨h1,⟨h2,_⟩|⟨g',cap',cur,hv,hb,hg,hn,hm,hs,ht⟩⟩:=h
 ·cases h2
 ·cases hv
  refine⟨by rw[Zq,List.length_take,hl,Nat.min_eq_left hi],.inr ⟨_,_,cur,rfl,hb,hg,by omega,hm,hs,?_⟩⟩
  rw[<-cellsV_take,<-ht,List.take_take,Nat.min_eq_left (by omega)]
theorem Ow.setCells {base et g n cap:Nat} {l:List Vn}:∀ (vs:List Value) (o:Nat) {w:World},Ow w base et g n cap l->n*3<=o->Ow (w.setCells g o vs) base et g n cap l
 |[],_,_,h,_=>h
 |v::vs,o,w,h,ho=>by
  have h1:=(h.stored o v).1
  rw[List.set_eq_of_length_le (by have:=h.1;omega)]at h1
  exact Ow.setCells vs (o+1) h1 (by omega)
theorem Ow.below_setCells {B:Nat} {a:World} {g:Nat} (hb:B<=g):∀ (vs:List Value) (o:Nat) {w:World},Below B a w->Below B a (w.setCells g o vs)
 |[],_,_,h=>h
 |v::vs,o,w,h=>Ow.below_setCells hb vs (o+1) (h.setCell (p:=⟨g,o,none⟩) hb v)
theorem run_clear3 {P:Program} (w:World) (t e ty:TypeId) (ht:P.underlying t=some (.slice e)) (hv:∀ w,(zeroValue e).run P w=.ok (.agg #[.int .i64 0,.int .i64 0,.int .i64 0]) w) (b o n c:Nat) (hn:0<n)
  (hc:∀ j,j<n*3->(w.cell? ⟨b,o+j,none⟩).isSome=true) (hf:∀ j,j<n*3->w.frozen? ⟨b,o+j,none⟩=false):
  (Builtin.clear_ #[t] ty #[.slice (some ⟨b,o,none⟩) n c]).run P w=.ok (.tuple #[]) (w.setCells b o (List.replicate (n*3) (.int .i64 0))):=by
 have hzc:(Builtin.zeroCells (Value.agg #[.int .i64 0,.int .i64 0,.int .i64 0]).cells n).toList=List.replicate (n*3) (.int .i64 0):=by
  simp[Builtin.zeroCells,Value.cells]
  apply List.ext_getElem
  ·simp
  ·intro i h1 h2
   have:i%3<3:=Nat.mod_lt _ (by omega)
   simp
   match hm:i%3,this with
   |0,_=>simp[hm]
   |1,_=>simp[hm]
   |2,_=>simp[hm]
 have hst:=run_storeCells_cells (P:=P) b o (List.replicate (n*3) (.int .i64 0)) 0 w (by simpa using hc) (by simpa using hf) (by intro v hv';rw[List.eq_of_mem_replicate hv'];rfl)
 simp only[Nat.add_zero]at hst
 obtain⟨m,rfl⟩:∃ m,n=m+1:=⟨n-1,by omega⟩
 simp[Builtin.clear_,run_underlying ht,hv,hzc,hst]
end Go.Proofs.YtnjmaohblihppaaGreatDoor
namespace Go.Proofs.YtnjmaohblihppaaGreatDoor
open Go.RowKit
set_option maxHeartbeats 8000000 in
set_option maxRecDepth 100000 in
theorem delC (L:List Vn) (g cap n base et B:Nat) (r:Int) (w:World) (hown:Ow w base et g n cap L) (hn:L.length=n) (hsz:n<=1000000000) (hB:w.cell? ⟨B,0,none⟩=some (.int .i64 r)) (hl:B<base) (hbw:base<=w.heap.size) (hbg:base<=g):
  Calls Tryz.prog 53 #[.slice (some ⟨g,0,none⟩) n cap,.func (.func 54) #[] #[.pointer (some ⟨B,0,none⟩)]] w λe w'=>e=.returned (.slice (some ⟨g,0,none⟩) (Yb r L).length cap)/\Ow w' base et g (Yb r L).length cap (Yb r L)/\Below base w w':=by
 have hI:=idxC L g cap n base et B r w hown hn hsz hB (by omega)
 go_enter Tryz.func53,Tryz.ntmps53
 go_wp2_with fail
 refine hI.mono ?_
 rintro e w1 ⟨hb1,⟨rfl,hall⟩|⟨k,hk,rfl,hlt,hne⟩⟩
 ·have e:Yb r L=L:=by
   have:=keepV_pre (k:=L.length) (Nat.le_refl _) (λj h=>hall j (by omega)) L.length (Nat.le_refl _)
   rwa [List.take_length]at this
  have hO:=hown.belowV hb1
  have e2:(Yb r L).length=n:=by rw[e,hn]
  have he:=Lib.hid (And.intro e e2)
  clear hI e e2
  go_wp2_with fail
  go_ret
  obtain⟨e,e2⟩:=he.out
  rw[e2,e]
  exact⟨rfl,hO,hb1.mono hbw⟩
 ·have hk1:((k:Int)==-1)=false:=by simp
  have hD:=Del.start (by omega:k<L.length) hlt hne
  have hO:=hown.belowV hb1
  have hb2:=hb1.mono hbw
  have hs1:=hb1.size
  clear hI hlt hne
  go_wp2_with fail
  go_loopw [5,6] (λs5 s6 wr=>∃ (i j:Nat) (M:List Vn),s5=.int .i64 i/\s6=.int .i64 j/\Aside (Del r L M i j)/\Aside (Ow wr base et g n cap M)/\Aside (Below base w wr)/\w.heap.size<=wr.heap.size) (λ_ s6 _=>n-(intOf s6).toNat)
  case atStart=>exact⟨k,k+1,L,rfl,by go_num,(show Aside _ from hD),(show Aside _ from hO),(show Aside _ from hb2),hs1⟩
  case round=>
   clear hD hO hb2
   obtain⟨i,j,M,rfl,rfl,hD,hO,hW,hs⟩:=hrel
   have hjn0:=hD.out.le
   have hij:=hD.out.lt
   by_cases hjn:j<n
   ·have hz:(j:Int)<(n:Int):=by omega
    have hlen:=hD.out.len
    have hX:=own_atV hO.out (by omega) hjn
    rw[hD.out.at (by omega)]at hX
    have hBr:=(hW.out.cell (p:=⟨B,0,none⟩) hl).trans hB
    have hc:=λw=>ruleC (nthV L j) B r w
    have hA1:∀ b:Bool,((nthV L j).fi !=r)=b->(b=true->(nthV L j).fi≠r)/\(b=false->(nthV L j).fi=r):=by
     intro b h
     subst h
     exact⟨λh=>by simpa using h,λh=>by simpa using h⟩
    generalize hb:((nthV L j).fi !=r)=b at *
    have hA1:=hA1 b rfl
    clear hb
    have HX:=Lib.hid hA1
    clear hA1 hown
    obtain⟨x0,x1,x2⟩:=hX
    generalize hx:nthV L j=x at *
    have hx':=Lib.hid hx
    clear hx
    have hgl:g<wr.heap.size:=(hO.out.lt g rfl).2
    go_wp2_with fail
    refine(hc _ (Lib.cell?_alloc_some _ hBr) (by show B<(wr.heap.push _).size;rw[Array.size_push];omega)).mono ?_
    rintro e w2 ⟨rfl,hb3⟩
    have hbb:Below wr.heap.size wr w2:=((Below.refl wr.heap.size wr).alloc (Nat.le_refl _) _).trans (hb3.mono (by show wr.heap.size<=(wr.heap.push _).size;rw[Array.size_push];omega))
    have hz2:wr.heap.size<w2.heap.size:=by
     have:=hb3.size
     have e:(wr.heap.push (.cells #[.int .i64 x.fi,.int .i64 x.fm.fp,.int .i64 x.fm.fq] 35)).size=wr.heap.size+1:=Array.size_push ..
     have t:(wr.heap.push (.cells #[.int .i64 x.fi,.int .i64 x.fm.fp,.int .i64 x.fm.fq] 35)).size<=w2.heap.size:=this
     omega
    have hO2:=hO.out.belowV hbb
    have hW2:Below base w w2:=hW.out.trans (hbb.mono (by omega))
    have v0:w2.cell? ⟨wr.heap.size,0,none⟩=some (.int .i64 x.fi):=by
     rw[hb3.cell (p:=⟨wr.heap.size,0,none⟩) (by show wr.heap.size<(wr.heap.push _).size;rw[Array.size_push];omega)]
     simp[go_sem]
    have v1:w2.cell? ⟨wr.heap.size,1,none⟩=some (.int .i64 x.fm.fp):=by
     rw[hb3.cell (p:=⟨wr.heap.size,1,none⟩) (by show wr.heap.size<(wr.heap.push _).size;rw[Array.size_push];omega)]
     simp[go_sem]
    have v2:w2.cell? ⟨wr.heap.size,2,none⟩=some (.int .i64 x.fm.fq):=by
     rw[hb3.cell (p:=⟨wr.heap.size,2,none⟩) (by show wr.heap.size<(wr.heap.push _).size;rw[Array.size_push];omega)]
     simp[go_sem]
    have hA2:=HX.out
    cases b with
    |true=>
     have hS:=hD.out.skip (by omega) (by rw[hx'.out];exact hA2.1 rfl)
     have HS:=Lib.hid (And.intro hS (And.intro hO2 hW2))
     clear hD hO hW hS hO2 hW2 hA2 hc hlen
     go_wp2_with fail
     go_roundw
     case rel=>
      obtain⟨h1,h2,h3⟩:=HS.out
      exact⟨i,j+1,M,rfl,by go_num,(show Aside _ from h1),(show Aside _ from h2),(show Aside _ from h3),by omega⟩
     case measure=>simp[intOf];omega
    |false=>
     have hK:=hD.out.keep (by omega) (by rw[hx'.out];exact hA2.2 rfl)
     rw[hx'.out]at hK
     have hP:=own_putV hO2 i x
     have hPB:=putV_below hW2 hbg i x
     have hY:=own_atV hO2 (by omega) (k:=i) (by omega)
     obtain⟨y0,y1,y2⟩:=hY
     have f0:=hO2.frozenAt (i*3)
     have f1:=hO2.frozenAt (i*3+1)
     have f2:=hO2.frozenAt (i*3+2)
     have hxr:=Lib.hid (hA2.2 rfl)
     have HS:=Lib.hid (And.intro hK (And.intro hP hPB))
     clear hD hO hW hK hP hPB hO2 hW2 hA2 hc hlen
     generalize nthV M i=y at *
     go_wp2_with fail
     go_roundw
     case rel=>
      obtain⟨h1,h2,h3⟩:=HS.out
      have h4:=putV_size w2 g i x
      have e:=hxr.out
      unfold putV at h2 h3 h4
      rw[e]at h2 h3 h4
      exact⟨i+1,j+1,M.set i x,by go_num,by go_num,(show Aside _ from h1),(show Aside _ from h2),(show Aside _ from h3),by omega⟩
     case measure=>simp[intOf];omega
   ·obtain rfl:j=n:=by omega
    have hz:¬ (j:Int)<(j:Int):=by omega
    have hlen:=hD.out.len
    have hic:i<cap:=by
     rcases(hO.out).2 with ⟨h2,_⟩|⟨g',cap',cur,hv,_,_,hnc,_⟩
     ·cases h2
     ·cases hv
      omega
    have hne1:¬ cap=i:=by omega
    have hne2:¬ i=cap:=by omega
    have hz0:∀ w,(zeroValue 35).run Tryz.prog w=.ok (.agg #[.int .i64 0,.int .i64 0,.int .i64 0]) w:=by
     intro w
     first|rfl|kernel_rfl|simp[go_sem]
    have hcl:∀ ty,(Builtin.clear_ #[30] ty #[.slice (some ⟨g,i*3,none⟩) (j-i) (cap-i)]).run Tryz.prog wr=.ok (.tuple #[]) (wr.setCells g (i*3) (List.replicate ((j-i)*3) (.int .i64 0))):=λty=>
     run_clear3 wr 30 35 ty Tryz.underlying30 hz0 g (i*3) (j-i) (cap-i) (by omega) (λk hk=>by
      rw[hO.out.cellAt (i*3+k) (by omega)]
      have:i*3+k<(Wo M).length:=by rw[Zq];omega
      rw[List.getElem?_eq_getElem this];rfl) (λk hk=>hO.out.frozenAt (i*3+k))
    have hC:=hO.out.cut (i:=i) (by omega) (by omega)
    have hlow:=hD.out.low
    rw[<-hn,List.take_length]at hlow
    have hE:=Ow.setCells (List.replicate ((j-i)*3) (.int .i64 0)) (i*3) hC (Nat.le_refl _)
    have hEB:=Ow.below_setCells hbg (List.replicate ((j-i)*3) (.int .i64 0)) (i*3) hW.out
    have hli:(Yb r L).length=i:=by rw[<-hlow,List.length_take];omega
    rw[hlow]at hE
    have HS:=Lib.hid (And.intro hli (And.intro hE hEB))
    clear hD hO hW hC hlow hE hEB hli
    go_wp2_with fail
    go_ret
    obtain⟨h1,h2,h3⟩:=HS.out
    rw[h1]
    exact⟨rfl,h2,h3⟩
end Go.Proofs.YtnjmaohblihppaaGreatDoor
namespace Go.Proofs.YtnjmaohblihppaaGreatDoor
open Go.PE Go.RowKit
theorem lt_cell {w:World} {b o:Nat} {v:Value} (h:w.cell? ⟨b,o,none⟩=some v):b<w.heap.size:=World.block_lt_of_cell? w ⟨b,o,none⟩ h
def ScoreAt (w:World) (s:G27) (v:Value):Prop:=LR (ghw w) [.agg (c27 s)] #[v]
theorem ScoreAt.below {w w':World} {s:G27} {v:Value} (h:ScoreAt w s v) (hb:Below w.heap.size w w'):ScoreAt w' s v:=
 LR.mono (g:=ghw w) (g':=ghw w') ⟨λb o u h=>(hb.cell (p:=⟨b,o,none⟩) (lt_cell h)).trans h,λ_ _ _ h=>h,λ_ _ h=>h,λ_ _ h=>h⟩ h
theorem c35_enc (x:Vn) (k:Nat) (h:k<3):∃ v,(c35 x)[k]?=some (.sc v)/\(encV x)[k]?=some v:=by
 match k,h with
 |0,_=>exact⟨_,rfl,rfl⟩
 |1,_=>exact⟨_,rfl,rfl⟩
 |2,_=>exact⟨_,rfl,rfl⟩
theorem allC {s:G27} {out:Sl Vn} (hF:F32 s=some out) {w:World} {v:Value} (hs:ScoreAt w s v):
  Calls Tryz.prog 32 #[v] w λe w'=>Below w.heap.size w w'/\((Sl.es out=[]/\e=.returned (.slice none 0 0))\/∃ g cap et,Sl.es out≠[]/\e=.returned (.slice (some ⟨g,0,none⟩) (Sl.es out).length cap)/\w.heap.size<=g/\Ow w' w.heap.size et g (Sl.es out).length cap (Sl.es out)):=by
 refine(acall_row (s:=3) (CF32m hF) (inv_ghw w) hs).mono ?_
 rintro e w' ⟨hb,h⟩
 refine⟨hb,?_⟩
 rcases h with h|⟨b,cap,ws,et,hne,rfl,hbw,hcap,hm,hheap,hsz,hws⟩
 ·exact .inl h
 ·refine .inr ⟨b,cap,et,hne,rfl,hbw,Zq _,.inr ⟨b,cap,ws,rfl,hbw,hheap,hcap,hm,hsz,?_⟩⟩
  generalize Sl.es out=l at *
  apply List.ext_getElem?
  intro i
  rcases Nat.lt_or_ge i (l.length*3)with hi|hi
  ·rw[List.getElem?_take_of_lt hi]
   have h1:i / 3<l.length:=by omega
   have h2:i%3<3:=Nat.mod_lt _ (by omega)
   have e:i / 3*3+i%3=i:=by omega
   obtain⟨u,hu1,hu2⟩:=c35_enc (nthV l (i / 3)) (i%3) h2
   have hx:l[i / 3]?=some (nthV l (i / 3)):=by
    unfold nthV
    rw[List.getD_eq_getElem?_getD,List.getElem?_eq_getElem h1];rfl
   have a:=hws _ _ hx _ _ hu1
   have c:=cellsV_get l (i / 3) (i%3) h1 h2
   rw[e]at a c
   rw[Array.getElem?_toList,a,c,hu2]
  ·rw[List.getElem?_eq_none (by rw[List.length_take];omega),List.getElem?_eq_none (by rw[Zq];omega)]
theorem Ow.base {w:World} {base b2 et g n cap:Nat} {l:List Vn} (h:Ow w base et g n cap l) (hb:b2<=base):Ow w b2 et g n cap l:=by
 refine⟨h.1,?_⟩
 rcases h.2 with h2|⟨g',cap',cur,hv,hg,h3⟩
 ·exact .inl h2
 ·exact .inr ⟨g',cap',cur,hv,Nat.le_trans hb hg,h3⟩
theorem ScoreAt.form {w:World} {s:G27} {v:Value} (h:ScoreAt w s v):∃ a0 a1 a2 a3 a4 a5,v=.agg #[a0,a1,a2,a3,a4,a5]:=by
 have h1:=h.2 0 (.agg (c27 s)) v rfl rfl
 cases h1 with
 |@agg cs vs hn hk=>
  have hn:6=vs.size:=hn
  obtain⟨l⟩:=vs
  match l,hn with
  |[a0,a1,a2,a3,a4,a5],_=>exact⟨a0,a1,a2,a3,a4,a5,rfl⟩
set_option maxHeartbeats 4000000 in
set_option maxRecDepth 100000 in
theorem checkRow {s:G27} {out:Sl Vn} (hF:F32 s=some out) (hlen:(Sl.es out).length<=10000000) {w:World} {v:Value} (hs:ScoreAt w s v):
  Calls Tryz.prog 12 #[v] w λe w'=>Below w.heap.size w w'/\((Sl.es out=[]/\e=.returned (.slice none 0 0))\/∃ g cap et,Sl.es out≠[]/\e=.returned (.slice (some ⟨g,0,none⟩) ((Sl.es out).take 200).length cap)/\w.heap.size<=g/\Ow w' w.heap.size et g ((Sl.es out).take 200).length cap ((Sl.es out).take 200)):=by
 have hc:=λ(w:World) (hs:ScoreAt w s v)=>allC hF hs
 clear hF
 generalize Sl.es out=L at *
 obtain⟨a0,a1,a2,a3,a4,a5,rfl⟩:=hs.form
 have hb0:Below w.heap.size w (w.alloc (.cells #[a0,a1,a2,a3,a4,a5] 27)):=(Below.refl _ w).alloc (Nat.le_refl _) _
 have hs0:=hs.below hb0
 go_enter Tryz.func12,Tryz.ntmps12
 go_wp2_with fail
 refine(hc _ hs0).mono ?_
 rintro e w1 ⟨hb1,⟨rfl,rfl⟩|⟨g,cap,et,hne,rfl,hg,hO⟩⟩
 ·have hb2:=hb0.trans (hb1.mono hb0.size)
  clear hb0 hb1 hc hs0
  go_wp2_with fail
  go_ret
  exact⟨hb2,rfl⟩
 ·have hb2:=hb0.trans (hb1.mono hb0.size)
  have hg2:w.heap.size<=g:=Nat.le_trans hb0.size hg
  have hO2:Ow w1 w.heap.size et g L.length cap L:=hO.base hb0.size
  have hnc:L.length<=cap:=by
   rcases hO.2 with ⟨h2,_⟩|⟨g',cap',cur,hv,_,_,hnc,_⟩
   ·cases h2
   ·cases hv
    exact hnc
  clear hb0 hb1 hc hs0 hO hg
  by_cases h2:L.length<=200
  ·have e:L.take 200=L:=List.take_of_length_le h2
   have hm:(if (200:Int)<(L.length:Int)then (200:Int)else L.length)=L.length:=if_neg (by omega)
   have he:=Lib.hid e
   clear e
   go_wp2_with fail
   go_ret
   rw[he.out]
   exact⟨hb2,.inr ⟨g,cap,et,hne,rfl,hg2,hO2⟩⟩
  ·have e:(L.take 200).length=200:=by rw[List.length_take];omega
   have hm:(if (200:Int)<(L.length:Int)then (200:Int)else L.length)=200:=if_pos (by omega)
   have hC:=hO2.cut (i:=200) (by omega) rfl
   have hl2:(200:Int)<=(L.length:Int):=by omega
   have he:=Lib.hid (And.intro e hC)
   clear e hC hO2
   go_wp2_with fail
   go_ret
   rw[he.out.1]
   exact⟨hb2,.inr ⟨g,cap,et,hne,rfl,hg2,he.out.2⟩⟩
end Go.Proofs.YtnjmaohblihppaaGreatDoor
namespace Go.Proofs.YtnjmaohblihppaaGreatDoor
open Go.PE Go.RowKit
set_option maxHeartbeats 4000000 in
set_option maxRecDepth 100000 in
theorem idxNil (B:Nat) (w:World):Calls Tryz.prog 93 #[.slice none 0 0,.func (.func 54) #[] #[.pointer (some ⟨B,0,none⟩)]] w λe w'=>e=.returned (.int .i64 (-1))/\w'=w:=by
 go_enter Tryz.func93,Tryz.ntmps93
 go_wp2_with fail
 go_loopw [8] (λi wr=>i=.int .i64 0/\wr=w) (λ_ _=>0)
 case atStart=>exact⟨rfl,rfl⟩
 case round=>
  obtain⟨rfl,rfl⟩:=hrel
  go_wp2_with fail
  go_ret
  exact⟨rfl,rfl⟩
set_option maxHeartbeats 4000000 in
set_option maxRecDepth 100000 in
theorem delNil (B:Nat) (w:World):Calls Tryz.prog 53 #[.slice none 0 0,.func (.func 54) #[] #[.pointer (some ⟨B,0,none⟩)]] w λe w'=>e=.returned (.slice none 0 0)/\w'=w:=by
 go_enter Tryz.func53,Tryz.ntmps53
 go_wp2_with fail
 refine(idxNil B _).mono ?_
 rintro e w1 ⟨rfl,rfl⟩
 go_wp2_with fail
 go_ret
 exact⟨rfl,rfl⟩
theorem lr_ints (g:Gh) (a b c:Int):LR g [iP a,iP b,iP c] #[.int .i64 a,.int .i64 b,.int .i64 c]:=⟨rfl,λi p v hp hv=>by
 match i,hp,hv with
 |0,hp,hv=>simp at hp hv;subst hp hv;exact .sc rfl
 |1,hp,hv=>simp at hp hv;subst hp hv;exact .sc rfl
 |2,hp,hv=>simp at hp hv;subst hp hv;exact .sc rfl
 |i+3,hp,hv=>simp at hp⟩
theorem withinC (r:Int) (b:Bool) (hb:F52 r 1 17=some b) (w:World):Calls Tryz.prog 52 #[.int .i64 r,.int .i64 1,.int .i64 17] w λe w'=>e=.returned (.bool b)/\Below w.heap.size w w':=
 call_of (CF52 hb) (lr_ints _ _ _ _) λg u h=>by cases h;rfl
set_option maxHeartbeats 4000000 in
set_option maxRecDepth 100000 in
theorem ruleRow {s:G27} {out:Sl Vn} (hF:F32 s=some out) (hlen:(Sl.es out).length<=10000000) {w:World} {v:Value} (hs:ScoreAt w s v) (r:Int) (b:Bool) (hb:F52 r 1 17=some b):
  Calls Tryz.prog 25 #[v,.int .i64 r] w λe w'=>Below w.heap.size w w'/\((b=false/\e=.returned (.tuple #[.slice none 0 0,.int .i64 11]))\/(b=true/\((Sl.es out=[]/\e=.returned (.tuple #[.slice none 0 0,.int .i64 0]))\/
   ∃ g cap et,Sl.es out≠[]/\e=.returned (.tuple #[.slice (some ⟨g,0,none⟩) (Yb r ((Sl.es out).take 200)).length cap,.int .i64 0])/\w.heap.size<=g/\Ow w' w.heap.size et g (Yb r ((Sl.es out).take 200)).length cap (Yb r ((Sl.es out).take 200))))):=by
 have hc:=λ(w:World) (hs:ScoreAt w s v)=>checkRow hF hlen hs
 have hw:=λw=>withinC r b hb w
 have hlt:((Sl.es out).take 200).length<=1000000000:=by rw[List.length_take];omega
 clear hF hb hlen
 generalize (Sl.es out).take 200=K at *
 generalize Sl.es out=L at *
 obtain⟨a0,a1,a2,a3,a4,a5,rfl⟩:=hs.form
 have hb0:Below w.heap.size w ((w.alloc (.cells #[a0,a1,a2,a3,a4,a5] 27)).alloc (.cells #[.int .i64 r] 3)):=((Below.refl _ w).alloc (Nat.le_refl _) _).alloc (by show w.heap.size<=(w.heap.push _).size;rw[Array.size_push];omega) _
 have hz0:((w.alloc (.cells #[a0,a1,a2,a3,a4,a5] 27)).alloc (.cells #[.int .i64 r] 3)).heap.size=w.heap.size+2:=by show((w.heap.push _).push _).size=_;rw[Array.size_push,Array.size_push]
 have hs0:=hs.below hb0
 have hr0:((w.alloc (.cells #[a0,a1,a2,a3,a4,a5] 27)).alloc (.cells #[.int .i64 r] 3)).cell? ⟨w.heap.size+1,0,none⟩=some (.int .i64 r):=by simp[go_sem]
 have c0:((w.alloc (.cells #[a0,a1,a2,a3,a4,a5] 27)).alloc (.cells #[.int .i64 r] 3)).cell? ⟨w.heap.size,0,none⟩=some a0:=by simp[go_sem]
 have c1:((w.alloc (.cells #[a0,a1,a2,a3,a4,a5] 27)).alloc (.cells #[.int .i64 r] 3)).cell? ⟨w.heap.size,1,none⟩=some a1:=by simp[go_sem]
 have c2:((w.alloc (.cells #[a0,a1,a2,a3,a4,a5] 27)).alloc (.cells #[.int .i64 r] 3)).cell? ⟨w.heap.size,2,none⟩=some a2:=by simp[go_sem]
 have c3:((w.alloc (.cells #[a0,a1,a2,a3,a4,a5] 27)).alloc (.cells #[.int .i64 r] 3)).cell? ⟨w.heap.size,3,none⟩=some a3:=by simp[go_sem]
 have c4:((w.alloc (.cells #[a0,a1,a2,a3,a4,a5] 27)).alloc (.cells #[.int .i64 r] 3)).cell? ⟨w.heap.size,4,none⟩=some a4:=by simp[go_sem]
 have c5:((w.alloc (.cells #[a0,a1,a2,a3,a4,a5] 27)).alloc (.cells #[.int .i64 r] 3)).cell? ⟨w.heap.size,5,none⟩=some a5:=by simp[go_sem]
 go_enter Tryz.func25,Tryz.ntmps25
 go_wp2_with fail
 generalize ((w.alloc (.cells #[a0,a1,a2,a3,a4,a5] 27)).alloc (.cells #[.int .i64 r] 3))=W0 at *
 refine(hw _).mono ?_
 rintro e w1 ⟨rfl,hb1⟩
 have t:=λo=>hb1.cell (p:=⟨w.heap.size,o,none⟩) (show w.heap.size<_ by omega)
 have d0:=(t 0).trans c0
 have d1:=(t 1).trans c1
 have d2:=(t 2).trans c2
 have d3:=(t 3).trans c3
 have d4:=(t 4).trans c4
 have d5:=(t 5).trans c5
 have hr1:=(hb1.cell (p:=⟨w.heap.size+1,0,none⟩) (show w.heap.size+1<_ by omega)).trans hr0
 have hs1:=hs0.below hb1
 have hB1:=hb0.trans (hb1.mono hb0.size)
 have hz1:=hb1.size
 clear t c0 c1 c2 c3 c4 c5 hr0 hs0 hb1 hs
 cases b with
 |false=>
  clear hc hs1 d0 d1 d2 d3 d4 d5
  go_wp2_with fail
  go_ret2
  exact⟨hB1,rfl⟩
 |true=>
  go_wp2_with fail
  refine(hc _ hs1).mono ?_
  rintro e w2 ⟨hb2,⟨hL,rfl⟩|⟨g,cap,et,hne,rfl,hg,hO⟩⟩
  ·have hB2:=hB1.trans (hb2.mono (by omega))
   clear hc hs1 hb2 d0 d1 d2 d3 d4 d5
   go_wp2_with fail
   refine(delNil _ _).mono ?_
   rintro e w3 ⟨rfl,rfl⟩
   go_wp2_with fail
   go_ret2
   exact⟨hB2,rfl⟩
  ·have hB2:=hB1.trans (hb2.mono (by omega))
   have hr2:=(hb2.cell (p:=⟨w.heap.size+1,0,none⟩) (show w.heap.size+1<_ by omega)).trans hr1
   have hD:=delC K g cap K.length w1.heap.size et (w.heap.size+1) r w2 hO rfl hlt hr2 (by omega) hb2.size hg
   have hz2:=hb2.size
   clear hc hs1 hb2 hO d0 d1 d2 d3 d4 d5
   go_wp2_with fail
   refine hD.mono ?_
   rintro e w3 ⟨rfl,hO3,hb3⟩
   have hB3:=hB2.trans (hb3.mono (by omega))
   have hO4:=hO3.base (b2:=w.heap.size) (by omega)
   clear hD hO3 hb3
   go_wp2_with fail
   go_ret2
   exact⟨hB3,⟨g,cap,rfl,by omega,et,hO4⟩⟩
end Go.Proofs.YtnjmaohblihppaaGreatDoor
namespace Go.Proofs.YtnjmaohblihppaaGreatDoor
open Go.PE Go.RowKit
def delS (r:Int) (l:List Vn):Sl Vn:=match l with
 |[]=>.nil
 |l=>.no (Yb r (l.take 200))
def F25 (v0:G27) (v1:Int):Option (Sl Vn×Int):=(F32 v0).bind λout=>bif decide ((Sl.es out).length<=10000000)then (F52 v1 1 17).bind λb=>bif b then some (delS v1 (Sl.es out),0)else some (.nil,11)else none
theorem acall_new {f:FuncId} {fn:Func} {args:List PV} {r:PV} (hf:Tryz.prog.funcs[f]?=some fn) (hn:(fn.name != "runtime.NumGoroutine"&&fn.body.isSome)=true)
  (h:∀ (w:World) (vs:Array Value),LR (ghw w) args vs->Calls Tryz.prog f vs w λe w'=>Below w.heap.size w w'/\∃ u,e=.returned u/\∀ g':Gh,(∀ b o v,w.heap.size<=b->w'.cell? ⟨b,o,none⟩=some v->g'.C b o=some v)->RV g' r u):ACall Tryz.prog f args [] λq k=>q=r/\k=[]:=by
 simp only[Bool.and_eq_true,bne_iff_ne,ne_eq]at hn
 refine⟨⟨fn,hf,hn.1,hn.2⟩,λg w vs hI hL=>?_⟩
 have hO:∀ b,g.O b=none:=λb=>by
  cases h1:g.O b with
  |none=>rfl
  |some k=>have:=hI.domO b k h1;simp at this
 have hB:∀ k,g.B k=none:=λk=>hI.domB k (Nat.zero_le _)
 have hT:∀ k n,g.T k n=none:=λk n=>hI.domT k n (Nat.zero_le _)
 have hL2:LR (ghw w) args vs:=LR.mono (g:=g) (g':=ghw w) ⟨λb o v h=>hI.C b o v h,λj n x h=>(by rw[hT]at h;cases h),λk b h=>(by rw[hB]at h;cases h),λb k h=>(by rw[hO]at h;cases h)⟩ hL
 refine(h w vs hL2).mono ?_
 rintro e w' ⟨hb,u,rfl,hu⟩
 let g2:Gh:=⟨λb o=>if b<w.heap.size then g.C b o else w'.cell? ⟨b,o,none⟩,λ_ _=>none,λ_=>none,λ_=>none⟩
 refine⟨u,r,[],g2,rfl,⟨rfl,rfl⟩,⟨⟨λb o v h=>?_,λj n x h=>(by rw[hT]at h;cases h),λk b h=>(by rw[hB]at h;cases h),λb k h=>(by rw[hO]at h;cases h)⟩,λk hk=>absurd hk (Nat.not_lt_zero k),hb.os,hb.tape,hb.output,hb.size,λb hlt _=>hb.block b hlt,λb k h=>(nomatch h),λb o _ hlt=>if_pos hlt⟩,Nat.zero_le _,
  ⟨λb o v h=>?_,λk x h=>(by simp at h),λ_ _ h=>(nomatch h),λ_ _ h=>(nomatch h),λ_ _=>rfl,λ_ _ _=>rfl,λ_ _ h=>(nomatch h)⟩,hu g2 λb o v hge hc=>?_⟩
 ·have:=lt_cell (hI.C b o v h)
  show(if b<w.heap.size then g.C b o else _)=some v
  rw[if_pos this,h]
 ·have h:(if b<w.heap.size then g.C b o else w'.cell? ⟨b,o,none⟩)=some v:=h
  split at h
  ·rename_i hlt
   exact(hb.cell (p:=⟨b,o,none⟩) hlt).trans (hI.C b o v h)
  ·exact h
 ·show(if b<w.heap.size then g.C b o else _)=some v
  rw[if_neg (by omega)]
  exact hc
theorem rv_row {g:Gh} {w:World} {base et b n cap:Nat} {l:List Vn} (h:Ow w base et b n cap l) (hn:l.length=n) (hC:∀ b o v,base<=b->w.cell? ⟨b,o,none⟩=some v->g.C b o=some v):RV g (.sl false .no 3 (l.map c35)) (.slice (some ⟨b,0,none⟩) n cap):=by
 rcases h.2 with ⟨h2,_⟩|⟨g',cap',cur,hv,hg,hheap,hnc,hm,hs,ht⟩
 ·cases h2
 cases hv
 have e:(l.map c35).length=n:=by rw[List.length_map,hn]
 rw[<-e]
 have key:∀ (i j:Nat) (e:List PV) (p:PV),(l.map c35)[i]?=some e->e[j]?=some p->∃ v,p=.sc v/\w.cell? ⟨b,0+i*3+j,none⟩=some v/\plainV v=true:=by
  intro i j e p he hp
  obtain⟨x,hx,rfl⟩:=Xu he
  have hi:=(List.getElem?_eq_some_iff.1 hx).1
  have hj:j<3:=(List.getElem?_eq_some_iff.1 hp).1
  have ex:nthV l i=x:=by unfold nthV;rw[List.getD_eq_getElem?_getD,hx];rfl
  have hc:=h.cellAt (i*3+j) (by omega)
  rw[cellsV_get l i j hi hj,ex]at hc
  rw[Nat.zero_add]
  match j,hj with
  |0,_=>cases hp;exact⟨_,rfl,hc,rfl⟩
  |1,_=>cases hp;exact⟨_,rfl,hc,rfl⟩
  |2,_=>cases hp;exact⟨_,rfl,hc,rfl⟩
 refine .sl (λi j=>(w.cell? ⟨b,0+i*3+j,none⟩).getD default) (by rw[e];exact hnc) hm (λi e he=>?_) (λi j e p he hp=>?_) (λi j e p he hp=>?_) trivial
 ·obtain⟨x,_,rfl⟩:=Xu he
  rfl
 ·obtain⟨v,rfl,hv,_⟩:=key i j e p he hp
  rw[hv]
  exact hC _ _ _ hg hv
 ·obtain⟨v,rfl,hv,hp⟩:=key i j e p he hp
  rw[hv]
  exact .sc hp
theorem CF25 {v0 v1 out} (hF:F25 v0 v1=some out):A0 25 [.agg (c27 v0),iP v1] (.tup [eS 3 c35 out.1,iP out.2]):=by
 refine acall_new Tryz.func25 (by kernel_rfl) λw vs hL=>?_
 have hv:∃ v,vs=#[v,.int .i64 v1]:=by
  have h1:vs.size=2:=hL.1.symm
  have h2:=hL.2 1 (iP v1) (vs[1]'(by omega)) rfl (Array.getElem?_eq_getElem _)
  have h3:vs[1]'(by omega)=.int .i64 v1:=by
   generalize vs[1]'(by omega)=x at h2
   cases h2
   rfl
  refine⟨vs[0]'(by omega),?_⟩
  apply Array.ext (by simpa using h1)
  intro i hi hj
  match i,hi with
  |0,_=>rfl
  |1,_=>exact h3
  |i+2,hi=>omega
 obtain⟨v,rfl⟩:=hv
 have hs:ScoreAt w v0 v:=⟨rfl,λi p u hp hu=>by
  cases i with
  |zero=>exact hL.2 0 p u (by simpa using hp) (by simpa using hu)
  |succ i=>simp at hp⟩
 have two:∀ {g':Gh} {p:PV} {u:Value} {n:Int},RV g' p u->RV g' (.tup [p,iP n]) (.tuple #[u,.int .i64 n]):=λhu=>.tup rfl λi p v hp hv=>by
  match i,hp,hv with
  |0,hp,hv=>simp at hp hv;subst hp hv;exact hu
  |1,hp,hv=>simp at hp hv;subst hp hv;exact .sc rfl
  |i+2,hp,hv=>simp at hp
 unfold F25 at hF
 obtain⟨o,ho,hF⟩:=Xa hF
 rcases cor hF with ⟨c,hF⟩|⟨_,hF⟩
 ·obtain⟨b,hb,hF⟩:=Xa hF
  refine(ruleRow ho (of_decide_eq_true c) hs v1 b hb).mono ?_
  rintro e w' ⟨hB,⟨rfl,rfl⟩|⟨rfl,h⟩⟩
  ·cases hF
   exact⟨hB,_,rfl,λg' _=>two (.nilsl _ _)⟩
  ·cases hF
   rcases h with ⟨hl,rfl⟩|⟨g,cap,et,hne,rfl,hg,hO⟩
   ·refine⟨hB,_,rfl,λg' _=>two ?_⟩
    show RV g' (eS 3 c35 (delS v1 (Sl.es o))) _
    rw[hl]
    exact .nilsl _ _
   ·refine⟨hB,_,rfl,λg' hC=>two ?_⟩
    show RV g' (eS 3 c35 (delS v1 (Sl.es o))) _
    generalize Sl.es o=L at *
    cases L with
    |nil=>exact absurd rfl hne
    |cons x l=>exact rv_row hO rfl hC
 ·cases hF
end Go.Proofs.YtnjmaohblihppaaGreatDoor
