/- Proved: Rows.CheckTiesCardSaid: the law CheckTies returns true for every input, the listed tables tied to the program's text. Conditions: none beyond the row's own. -/
import Derived.Test.YtnjmaohblihppaaGreatDoorRows
import Derived.Test.YtnjmaohblihppaaGreatDoorCards
import Derived.Test.YtnjmaohblihppaaGreatDoorTie
import Derived.Test.YtnjmaohblihppaaGreatDoorFrame
import Derived.Test.YtnjmaohblihppaaGreatDoorFO
import Derived.Test.YtnjmaohblihppaaGreatDoorLW5
import Derived.SevenTiedAt
import Derived.LaidSub
set_option linter.all false
namespace Go.Proofs.YtnjmaohblihppaaGreatDoor.checkTiesP
open Go Go.ChangeShapes Go.WideShapes Go.ChangeAt Go.RowKit Go.PE
theorem own:ownKnob Tryz.prog.godebug=none:=by kernel_rfl
abbrev LL:List (String×DataW Unit):=Rows.checkTiesRow.laid
theorem door_met (os:Os) (args:Array Value):laidMetH Tryz.prog LL ((World.doorLaid Tryz.prog 400 os).forCall (fun _ _=>0) ⟨#[],args,[]⟩).memory:=
 laidMetH_of_parts3 (fuel:=8) (laidMet_of_run' 8 (by kernel_rfl) (by kernel_rfl)) (by kernel_rfl) (by kernel_rfl)
theorem laidOut:laidOutB Tryz.prog=true:=by kernel_rfl
set_option maxRecDepth 100000 in
theorem agg27 {w:World} {base:Nat} {v:Value} (h:Value.okWide Tryz.prog w .any base 27 v):∃ cs,v=.agg cs:=by
 unfold Value.okWide at h
 rw[Tryz.underlying27]at h
 obtain⟨cs,rfl,_⟩:=h
 exact⟨cs,rfl⟩
set_option maxRecDepth 100000 in
theorem walk {H:Type} {enc:TypeId×Value→H} {W:World} {base:Nat} {v:Value} {d:DataW H} {p:List MemPlace} (ho:Value.okWide Tryz.prog W .any base 27 v) (h:DataW.Trod enc Tryz.prog W 0 (fun _=>true) true 27 v d p):
  Calls Tryz.prog 5 #[v] W fun e W'=>e=.returned (.bool true)∧Below W.heap.size W W':=by
 obtain⟨cs,rfl⟩:=agg27 ho
 obtain⟨fuel,hf⟩:=h
 obtain⟨s,hb,hl⟩:=op27 enc W 0 true fuel _ _ hf
 refine call_of (CF5 (law5 hb)) ⟨rfl,fun i p v hp hv=>?_⟩ fun g u h=>?_
 ·cases i with
  |zero=>
   simp at hp hv
   subst hp hv
   exact .agg (by simpa [Value.cells] using hl.1) fun i p v hp hv=>hl.2 i p v hp (by simpa [Value.cells] using hv)
  |succ i=>simp at hp
 ·cases h
  rfl
set_option maxRecDepth 100000 in
theorem lifted (os:Os) (started:os.Started) (H:Type) (enc:TypeId×Value→H):
  ReturnsInHanded {} Tryz.checked os 5 .any (fun w args=>(Rows.checkTiesSpec.pre enc Tryz.prog Tryz.f5 [] false w args∧laidMetH Tryz.prog LL w)∧sizedMet enc Tryz.prog Tryz.f5 (OpenSpec.ofChange Rows.checkTiesSpec) false w args)
   (Rows.checkTiesSpec.post enc Tryz.prog Tryz.f5 false true false false):=by
 refine lifted_laid2 (C:=Tryz.checked) (tb:=4) (X:=fun w _=>laidMetH Tryz.prog LL w) (fun _ _ _ hh h=>h.of_heap hh) own started (by kernel_rfl) Tryz.func5
  (ChangeSpec.witness_shaped (enc:=enc) (C:=Tryz.checked) (os:=os) (X:=fun w _=>laidMetH Tryz.prog LL w) false (World.doorLaid Tryz.prog 400 os) #[.agg #[.string ⟨#[]⟩,.bool false,.slice none 0 0,.slice none 0 0,.slice none 0 0,.slice none 0 0]] 8 rfl (World.shaped_of_RefB (by kernel_rfl) (by kernel_rfl)) (by kernel_rfl) (by kernel_rfl) (by kernel_rfl) (door_met os _))
  rfl (fun ds h=>?_) rfl Tryz.underlying4 laidOut ?_ ?_
 ·match ds,h with
  |[_],_=>rfl
 ·intro t ht
  have:t=27:=by simpa [Tryz.params5] using ht
  subst this
  exact⟨by kernel_rfl,of_decide_eq_true (by kernel_rfl)⟩
 ·intro W base args ds ps hval hA _ hX
  have hA:DataW.TrodAll enc Tryz.prog W 0 (fun _=>true) true Tryz.f5.params.toList args.toList ds ps:=hA
  have hval:∀ (j:Nat) t v,Tryz.f5.params[j]?=some t→args[j]?=some v→Value.okWide Tryz.prog W .any base t v:=hval
  rw[Tryz.params5]at hA hval
  obtain⟨v0,vs0,d0,ds0,p0,q0,hargs,rfl,rfl,h0,r0⟩:=trodAll_cons hA
  obtain⟨rfl,rfl,rfl⟩:=trodAll_nil r0
  obtain rfl:args=#[v0]:=by cases args;simp_all
  exact walk (hval 0 27 v0 rfl rfl) h0
theorem and_tt {a b:Bool} (h:a=true) (k:b=true):(a&&b)=true:=by rw[h,k];rfl
set_option maxHeartbeats 40000000 in
set_option maxRecDepth 1000000 in
theorem closed:joinedFacts Tryz.prog 5 Tryz.f5 Rows.checkTiesSpec Rows.checkTiesRow=true:=by
 unfold joinedFacts
 iterate 31 (refine and_tt ?_ ?_)
 all_goals as_aux_lemma=>kernel_rfl
theorem inst:Tryz.f5.isInstance Tryz.prog Rows.checkTiesRow.origin Rows.checkTiesRow.targs:=of_decide_eq_true (by kernel_rfl)
theorem wrap:Tryz.f5.isWrapper Tryz.prog Rows.checkTiesRow.wrapper Rows.checkTiesRow.mainSum:=by unfold Func.isWrapper;first|(rw[if_pos (by decide +kernel)];kernel_rfl)|(rw[if_neg (by decide +kernel)];exact⟨rfl,rfl⟩)
theorem named:Tryz.prog.funcNamed Rows.checkTiesRow.func=some 5:=by kernel_rfl
theorem over:Rows.checkTiesRow.holds Tryz.pinned (OpenSpec.ofChange Rows.checkTiesSpec):=
 OpenClaim.holds_of_wide 5 Tryz.f5 rfl rfl rfl rfl rfl rfl rfl ⟨rfl,rfl,rfl,rfl,rfl⟩ rfl rfl rfl rfl rfl named Tryz.func5 closed inst wrap
  (fun os started H enc _=>lifted os started H enc)
theorem proved:Rows.CheckTiesCardSaid:=
 Claim7.holds_tied_plain_at .later [] [.data,.data,.data] true (true,"2637db0cd7ba8a1aa4c994a9601f08b195f5c6464e8937b8ea253dca9ada99ca") false
  over (fun _ h=>by cases h) (by kernel_rfl) (fun _ h=>by cases h) checkTies_row_tie rfl ⟨rfl,rfl⟩ (by kernel_rfl) rfl
  (fun f fn hf hfn=>by
   obtain rfl:f=5:=Option.some.inj (named.symm.trans hf) |>.symm
   obtain rfl:fn=Tryz.f5:=(Option.some.inj (Tryz.func5.symm.trans hfn)).symm
   exact⟨by kernel_rfl,fun j t ht=>by
    rw[Tryz.params5]at ht
    have hm:t∈[27]:=by simpa using Array.mem_of_getElem? ht
    have hall:([27].all fun u=>!Tryz.prog.wantsStandIn u)=true:=by kernel_rfl
    exact(show Tryz.prog.wantsStandIn t=false by simpa using List.all_eq_true.1 hall t hm)⟩)
  (by kernel_rfl)
#print axioms proved
end Go.Proofs.YtnjmaohblihppaaGreatDoor.checkTiesP
