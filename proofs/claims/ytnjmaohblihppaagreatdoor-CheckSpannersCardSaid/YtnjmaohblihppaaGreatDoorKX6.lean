/- Proved: Rows.CheckSpannersCardSaid: the law CheckSpanners returns true for every input, the listed tables tied to the program's text. Conditions: none beyond the row's own. -/
import Derived.Test.YtnjmaohblihppaaGreatDoorRows
import Derived.Test.YtnjmaohblihppaaGreatDoorCards
import Derived.Test.YtnjmaohblihppaaGreatDoorTie
import Derived.Test.YtnjmaohblihppaaGreatDoorFrame
import Derived.Test.YtnjmaohblihppaaGreatDoorFO
import Derived.Test.YtnjmaohblihppaaGreatDoorLW6
import Derived.SevenTiedAt
import Derived.LaidSub
set_option linter.all false
namespace Go.Proofs.YtnjmaohblihppaaGreatDoor.checkSpannersP
open Go Go.ChangeShapes Go.WideShapes Go.ChangeAt Go.RowKit Go.PE
theorem own:ownKnob Tryz.prog.godebug=none:=by kernel_rfl
abbrev LL:List (String×DataW Unit):=Rows.checkSpannersRow.laid
theorem door_met (os:Os) (args:Array Value):laidMetH Tryz.prog LL ((World.doorLaid Tryz.prog 400 os).forCall (λ_ _=>0) ⟨#[],args,[]⟩).memory:=
 laidMetH_of_parts3 (fuel:=8) (laidMet_of_run' 8 (by kernel_rfl) (by kernel_rfl)) (by kernel_rfl) (by kernel_rfl)
theorem laidOut:laidOutB Tryz.prog=true:=by kernel_rfl
set_option maxRecDepth 100000 in
theorem agg27 {w:World} {base:Nat} {v:Value} (h:Value.okWide Tryz.prog w .any base 27 v):∃ cs,v=.agg cs:=by
 unfold Value.okWide at h
 rw[Tryz.underlying27]at h
 obtain⟨cs,rfl,_⟩:=h
 exact⟨cs,rfl⟩
set_option maxRecDepth 100000 in
theorem walk {H:Type} {enc:TypeId×Value->H} {W:World} {base:Nat} {v:Value} {d:DataW H} {p:List MemPlace} (r:Int) (r1:0<=r) (r2:r<256) (ho:Value.okWide Tryz.prog W .any base 27 v) (h:DataW.Trod enc Tryz.prog W 0 (λ_=>true) true 27 v d p):
  Calls Tryz.prog 6 #[v,.int .u8 r] W λe W'=>e=.returned (.bool true)/\Below W.heap.size W W':=by
 obtain⟨cs,rfl⟩:=agg27 ho
 obtain⟨fuel,hf⟩:=h
 obtain⟨s,hb,hl⟩:=op27 enc W 0 true fuel _ _ hf
 refine call_of (CF6 (law6 hb r1 r2)) ⟨rfl,λi p v hp hv=>?_⟩ λg u h=>?_
 ·match i,hp,hv with
  |0,hp,hv=>
   simp at hp hv
   subst hp hv
   exact .agg (by simpa [Value.cells] using hl.1) λi p v hp hv=>hl.2 i p v hp (by simpa [Value.cells] using hv)
  |1,hp,hv=>
   simp at hp hv
   subst hp hv
   exact .sc rfl
  |i+2,hp,hv=>simp at hp
 ·cases h
  rfl
set_option maxRecDepth 100000 in
theorem lifted (os:Os) (started:os.Started) (H:Type) (enc:TypeId×Value->H):
  ReturnsInHanded {} Tryz.checked os 6 .any (λw args=>(Rows.checkSpannersSpec.pre enc Tryz.prog Tryz.f6 [] false w args/\laidMetH Tryz.prog LL w)/\sizedMet enc Tryz.prog Tryz.f6 (OpenSpec.ofChange Rows.checkSpannersSpec) false w args)
   (Rows.checkSpannersSpec.post enc Tryz.prog Tryz.f6 false true false false):=by
 refine lifted_laid2 (C:=Tryz.checked) (tb:=4) (X:=λw _=>laidMetH Tryz.prog LL w) (λ_ _ _ hh h=>h.of_heap hh) own started (by kernel_rfl) Tryz.func6
  (ChangeSpec.witness_shaped (enc:=enc) (C:=Tryz.checked) (os:=os) (X:=λw _=>laidMetH Tryz.prog LL w) false (World.doorLaid Tryz.prog 400 os) #[.agg #[.string ⟨#[]⟩,.bool false,.slice none 0 0,.slice none 0 0,.slice none 0 0,.slice none 0 0],.int .u8 0] 8 rfl (World.shaped_of_RefB (by kernel_rfl) (by kernel_rfl)) (by kernel_rfl) (by kernel_rfl) (by kernel_rfl) (door_met os _))
  rfl (λds h=>?_) rfl Tryz.underlying4 laidOut ?_ ?_
 ·match ds,h with
  |[_,_],_=>rfl
 ·intro t ht
  have:t=27\/t=5:=by simpa [Tryz.params6] using ht
  rcases this with rfl|rfl
  ·exact⟨by kernel_rfl,of_decide_eq_true (by kernel_rfl)⟩
  ·exact⟨by kernel_rfl,of_decide_eq_true (by kernel_rfl)⟩
 ·intro W base args ds ps hval hA _ hX
  have hA:DataW.TrodAll enc Tryz.prog W 0 (λ_=>true) true Tryz.f6.params.toList args.toList ds ps:=hA
  have hval:∀ (j:Nat) t v,Tryz.f6.params[j]?=some t->args[j]?=some v->Value.okWide Tryz.prog W .any base t v:=hval
  rw[Tryz.params6]at hA hval
  obtain⟨v0,vs0,d0,ds0,p0,q0,hargs,rfl,rfl,h0,r0⟩:=trodAll_cons hA
  obtain⟨v1,vs1,d1,ds1,p1,q1,rfl,rfl,rfl,h1,r1⟩:=trodAll_cons r0
  obtain⟨rfl,rfl,rfl⟩:=trodAll_nil r1
  obtain rfl:args=#[v0,v1]:=by cases args;simp_all
  obtain⟨a1,rfl,rfl,rfl,wf1⟩:=open_int Tryz.underlying5 (hval 1 5 v1 rfl rfl) h1
  have wf:(0:Int)<=a1/\a1<=255:=by
   have h:(decide (IntKind.u8.min<=a1)&&decide (a1<=IntKind.u8.max))=true:=wf1
   rw[Bool.and_eq_true]at h
   exact⟨of_decide_eq_true h.1,of_decide_eq_true h.2⟩
  exact walk a1 wf.1 (by omega) (hval 0 27 v0 rfl rfl) h0
theorem and_tt {a b:Bool} (h:a=true) (k:b=true):(a&&b)=true:=by rw[h,k];rfl
set_option maxHeartbeats 40000000 in
set_option maxRecDepth 1000000 in
theorem closed:joinedFacts Tryz.prog 6 Tryz.f6 Rows.checkSpannersSpec Rows.checkSpannersRow=true:=by
 unfold joinedFacts
 iterate 31 (refine and_tt ?_ ?_)
 all_goals as_aux_lemma=>kernel_rfl
theorem inst:Tryz.f6.isInstance Tryz.prog Rows.checkSpannersRow.origin Rows.checkSpannersRow.targs:=of_decide_eq_true (by kernel_rfl)
theorem wrap:Tryz.f6.isWrapper Tryz.prog Rows.checkSpannersRow.wrapper Rows.checkSpannersRow.mainSum:=by unfold Func.isWrapper;first|(rw[if_pos (by decide +kernel)];kernel_rfl)|(rw[if_neg (by decide +kernel)];exact⟨rfl,rfl⟩)
theorem named:Tryz.prog.funcNamed Rows.checkSpannersRow.func=some 6:=by kernel_rfl
theorem over:Rows.checkSpannersRow.holds Tryz.pinned (OpenSpec.ofChange Rows.checkSpannersSpec):=
 OpenClaim.holds_of_wide 6 Tryz.f6 rfl rfl rfl rfl rfl rfl rfl ⟨rfl,rfl,rfl,rfl,rfl⟩ rfl rfl rfl rfl rfl named Tryz.func6 closed inst wrap
  (λos started H enc _=>lifted os started H enc)
theorem proved:Rows.CheckSpannersCardSaid:=
 Claim7.holds_tied_plain_at .later [] [.data,.data,.data] true (true,"2637db0cd7ba8a1aa4c994a9601f08b195f5c6464e8937b8ea253dca9ada99ca") false
  over (λ_ h=>by cases h) (by kernel_rfl) (λ_ h=>by cases h) checkSpanners_row_tie rfl ⟨rfl,rfl⟩ (by kernel_rfl) rfl
  (λf fn hf hfn=>by
   obtain rfl:f=6:=Option.some.inj (named.symm.trans hf) |>.symm
   obtain rfl:fn=Tryz.f6:=(Option.some.inj (Tryz.func6.symm.trans hfn)).symm
   exact⟨by kernel_rfl,λj t ht=>by
    rw[Tryz.params6]at ht
    have hm:t∈[27,5]:=by simpa using Array.mem_of_getElem? ht
    have hall:([27,5].all λu=>!Tryz.prog.wantsStandIn u)=true:=by kernel_rfl
    exact(show Tryz.prog.wantsStandIn t=false by simpa using List.all_eq_true.1 hall t hm)⟩)
  (by kernel_rfl)
#print axioms proved
end Go.Proofs.YtnjmaohblihppaaGreatDoor.checkSpannersP
