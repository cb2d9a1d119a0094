/- Proved: Rows.OrnamentRuleSaid: the law OrnamentRule returns true for every input. Conditions: none beyond the row's own (the arguments can be read as data). -/
import Derived.Test.YtibndgdocbbbeaaGreatRows
import Derived.Test.YtibndgdocbbbeaaGreatFrame
import Derived.Test.YtibndgdocbbbeaaGreatFOs
import Derived.Test.YtibndgdocbbbeaaGreatLW3
set_option linter.all false
namespace Go.Proofs.YtibndgdocbbbeaaGreat.ornamentRuleP
open Go Go.ChangeShapes Go.WideShapes Go.ChangeAt Go.RowKit Go.PE
theorem own:ownKnob Tryz.prog.godebug=none:=by kernel_rfl
theorem laidOut:laidOutB Tryz.prog=true:=by kernel_rfl
set_option maxRecDepth 100000 in
theorem agg27 {w:World} {base:Nat} {v:Value} (h:Value.okWide Tryz.prog w .any base 27 v):∃ cs,v=.agg cs:=by
 unfold Value.okWide at h
 rw[Tryz.underlying27]at h
 obtain⟨cs,rfl,_⟩:=h
 exact⟨cs,rfl⟩
set_option maxRecDepth 100000 in
theorem walk {H:Type} {enc:TypeId×Value->H} {W:World} {base:Nat} {v:Value} {d:DataW H} {p:List MemPlace} (ho:Value.okWide Tryz.prog W .any base 27 v) (h:DataW.Trod enc Tryz.prog W 0 (λ_=>true) true 27 v d p)
  (hz:∀ n∈d.weights Tryz.prog 27,n<=reachBytes):Calls Tryz.prog 3 #[v] W λe W'=>e=.returned (.bool true)/\Below W.heap.size W W':=by
 obtain⟨cs,rfl⟩:=agg27 ho
 obtain⟨fuel,hf⟩:=h
 obtain⟨s,hb,hl⟩:=op27 enc W 0 true fuel _ _ hf hz
 refine call_of (CF3 (law3 hb)) ⟨rfl,λi p v hp hv=>?_⟩ λg u h=>?_
 ·match i,hp,hv with
  |0,hp,hv=>
   simp at hp hv
   subst hp hv
   exact .agg (by simpa [Value.cells] using hl.1) λi p v hp hv=>hl.2 i p v hp (by simpa [Value.cells] using hv)
  |i+1,hp,hv=>simp at hp
 ·cases h
  rfl
set_option maxRecDepth 100000 in
theorem lifted (os:Os) (started:os.Started) (H:Type) (enc:TypeId×Value->H):
  ReturnsInHanded {} Tryz.checked os 3 .any (Rows.ornamentRuleSpec.pre6 enc Tryz.prog Tryz.f3 Rows.ornamentRuleRow.domain false) (Rows.ornamentRuleSpec.post enc Tryz.prog Tryz.f3 false true false false):=by
 refine lifted_law (C:=Tryz.checked) (tb:=4) own started (by kernel_rfl) Tryz.func3
  (ChangeSpec.witness6 (enc:=enc) (C:=Tryz.checked) false ⟨#[],#[.agg #[.string ⟨#[]⟩,.bool false,.slice none 0 0,.slice none 0 0,.slice none 0 0,.slice none 0 0]],[]⟩ 8 (by kernel_rfl) (by kernel_rfl) (by kernel_rfl) (by kernel_rfl))
  rfl (λds h=>?_) rfl Tryz.underlying4 laidOut ?_ ?_
 ·match ds,h with
  |[_],_=>rfl
 ·intro t ht
  have:t=27:=by simpa [Tryz.params3] using ht
  subst this
  exact⟨by kernel_rfl,of_decide_eq_true (by kernel_rfl)⟩
 ·intro W base args ds ps hval hA _ hz
  have hA:DataW.TrodAll enc Tryz.prog W 0 (λ_=>true) true Tryz.f3.params.toList args.toList ds ps:=hA
  have hz:∀ n∈DataW.weightsEach Tryz.prog Tryz.f3.params.toList ds,n<=reachBytes:=hz
  have hval:∀ (j:Nat) t v,Tryz.f3.params[j]?=some t->args[j]?=some v->Value.okWide Tryz.prog W .any base t v:=hval
  rw[Tryz.params3]at hA hval hz
  obtain⟨v0,vs0,d0,ds0,p0,q0,hargs,rfl,rfl,h0,r0⟩:=trodAll_cons hA
  obtain⟨rfl,rfl,rfl⟩:=trodAll_nil r0
  obtain rfl:args=#[v0]:=by cases args;simp_all
  exact walk (hval 0 27 v0 rfl rfl) h0 λn hn=>hz n (by simp only[DataW.weightsEach,List.append_nil];exact hn)
theorem and_tt {a b:Bool} (h:a=true) (k:b=true):(a&&b)=true:=by rw[h,k];rfl
set_option maxHeartbeats 40000000 in
set_option maxRecDepth 1000000 in
theorem closed:joinedFacts Tryz.prog 3 Tryz.f3 Rows.ornamentRuleSpec Rows.ornamentRuleRow=true:=by
 unfold joinedFacts
 iterate 31 (refine and_tt ?_ ?_)
 all_goals as_aux_lemma=>kernel_rfl
theorem inst:Tryz.f3.isInstance Tryz.prog Rows.ornamentRuleRow.origin Rows.ornamentRuleRow.targs:=of_decide_eq_true (by kernel_rfl)
theorem wrap:Tryz.f3.isWrapper Tryz.prog Rows.ornamentRuleRow.wrapper Rows.ornamentRuleRow.mainSum:=by unfold Func.isWrapper;first|(rw[if_pos (by decide +kernel)];kernel_rfl)|(rw[if_neg (by decide +kernel)];exact⟨rfl,rfl⟩)
theorem named:Tryz.prog.funcNamed Rows.ornamentRuleRow.func=some 3:=by kernel_rfl
theorem over:Rows.ornamentRuleRow.holds Tryz.pinned (OpenSpec.ofChange Rows.ornamentRuleSpec):=
 OpenClaim.holds_of_wide 3 Tryz.f3 rfl rfl rfl rfl rfl rfl rfl ⟨rfl,rfl,rfl,rfl,rfl⟩ rfl rfl rfl rfl rfl named Tryz.func3 closed inst wrap
  (λos started H enc _=>lifted os started H enc)
theorem proved:Rows.OrnamentRuleSaid:=
 over
#print axioms proved
end Go.Proofs.YtibndgdocbbbeaaGreat.ornamentRuleP
