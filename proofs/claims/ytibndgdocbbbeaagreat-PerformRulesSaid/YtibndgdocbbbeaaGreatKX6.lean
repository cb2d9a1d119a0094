/- Proved: Rows.PerformRulesSaid: the law PerformRules returns true for every input. Conditions: none beyond the row's own (the arguments can be read as data). -/
import Derived.Test.YtibndgdocbbbeaaGreatRows
import Derived.Test.YtibndgdocbbbeaaGreatFrame
import Derived.Test.YtibndgdocbbbeaaGreatFO
import Derived.Test.YtibndgdocbbbeaaGreatLW6
set_option linter.all false
namespace Go.Proofs.YtibndgdocbbbeaaGreat.performRulesP
open Go Go.ChangeShapes Go.WideShapes Go.ChangeAt Go.RowKit Go.PE
theorem own:ownKnob Tryz.prog.godebug=none:=by kernel_rfl
theorem laidOut:laidOutB Tryz.prog=true:=by kernel_rfl
set_option maxRecDepth 100000 in
theorem agg27 {w:World} {base:Nat} {v:Value} (h:Value.okWide Tryz.prog w .any base 27 v):∃ cs,v=.agg cs:=by
 unfold Value.okWide at h
 rw[Tryz.underlying27]at h
 obtain⟨cs,rfl,_⟩:=h
 exact⟨cs,rfl⟩
set_option maxRecDepth 100000 in
theorem agg58 {w:World} {base:Nat} {v:Value} (h:Value.okWide Tryz.prog w .any base 58 v):∃ cs,v=.agg cs:=by
 unfold Value.okWide at h
 rw[Tryz.underlying58]at h
 obtain⟨cs,rfl,_⟩:=h
 exact⟨cs,rfl⟩
set_option maxRecDepth 100000 in
theorem walk {H:Type} {enc:TypeId×Value->H} {W:World} {base:Nat} {v v1:Value} {d d1:DataW H} {p p1:List MemPlace} (ho:Value.okWide Tryz.prog W .any base 27 v) (h:DataW.Trod enc Tryz.prog W 0 (λ_=>true) true 27 v d p)
  (ho1:Value.okWide Tryz.prog W .any base 58 v1) (h1:DataW.Trod enc Tryz.prog W 0 (λ_=>true) true 58 v1 d1 p1):
  Calls Tryz.prog 6 #[v,v1] W λe W'=>e=.returned (.bool true)/\Below W.heap.size W W':=by
 obtain⟨cs,rfl⟩:=agg27 ho
 obtain⟨cs1,rfl⟩:=agg58 ho1
 obtain⟨fuel,hf⟩:=h
 obtain⟨s,hb,hl⟩:=op27 enc W 0 true fuel _ _ hf
 obtain⟨fuel1,hf1⟩:=h1
 obtain⟨x,_,hx⟩:=op58 enc W 0 true fuel1 _ _ hf1
 refine call_of (CF6 (law6 x hb)) ⟨rfl,λi p v hp hv=>?_⟩ λg u h=>?_
 ·match i,hp,hv with
  |0,hp,hv=>
   simp at hp hv
   subst hp hv
   exact .agg (by simpa [Value.cells] using hl.1) λi p v hp hv=>hl.2 i p v hp (by simpa [Value.cells] using hv)
  |1,hp,hv=>
   simp at hp hv
   subst hp hv
   exact .agg (by simpa [Value.cells] using hx.1) λi p v hp hv=>hx.2 i p v hp (by simpa [Value.cells] using hv)
  |i+2,hp,hv=>simp at hp
 ·cases h
  rfl
set_option maxRecDepth 100000 in
theorem lifted (os:Os) (started:os.Started) (H:Type) (enc:TypeId×Value->H):
  ReturnsInHanded {} Tryz.checked os 6 .any (Rows.performRulesSpec.pre6 enc Tryz.prog Tryz.f6 Rows.performRulesRow.domain false) (Rows.performRulesSpec.post enc Tryz.prog Tryz.f6 false true false false):=by
 refine lifted_law (C:=Tryz.checked) (tb:=4) own started (by kernel_rfl) Tryz.func6
  (ChangeSpec.witness6 (enc:=enc) (C:=Tryz.checked) false ⟨#[],#[.agg #[.string ⟨#[]⟩,.bool false,.slice none 0 0,.slice none 0 0,.slice none 0 0,.slice none 0 0],.agg #[.int .i64 0,.int .i64 0]],[]⟩ 8 (by kernel_rfl) (by kernel_rfl) (by kernel_rfl) (by kernel_rfl))
  rfl (λds h=>?_) rfl Tryz.underlying4 laidOut ?_ ?_
 ·match ds,h with
  |[_,_],_=>rfl
 ·intro t ht
  have:t=27\/t=58:=by simpa [Tryz.params6] using ht
  rcases this with rfl|rfl
  ·exact⟨by kernel_rfl,of_decide_eq_true (by kernel_rfl)⟩
  ·exact⟨by kernel_rfl,of_decide_eq_true (by kernel_rfl)⟩
 ·intro W base args ds ps hval hA _
  have hA:DataW.TrodAll enc Tryz.prog W 0 (λ_=>true) true Tryz.f6.params.toList args.toList ds ps:=hA
  have hval:∀ (j:Nat) t v,Tryz.f6.params[j]?=some t->args[j]?=some v->Value.okWide Tryz.prog W .any base t v:=hval
  rw[Tryz.params6]at hA hval
  obtain⟨v0,vs0,d0,ds0,p0,q0,hargs,rfl,rfl,h0,r0⟩:=trodAll_cons hA
  obtain⟨v1,vs1,d1,ds1,p1,q1,rfl,rfl,rfl,h1,r1⟩:=trodAll_cons r0
  obtain⟨rfl,rfl,rfl⟩:=trodAll_nil r1
  obtain rfl:args=#[v0,v1]:=by cases args;simp_all
  exact walk (hval 0 27 v0 rfl rfl) h0 (hval 1 58 v1 rfl rfl) h1
theorem and_tt {a b:Bool} (h:a=true) (k:b=true):(a&&b)=true:=by rw[h,k];rfl
set_option maxHeartbeats 40000000 in
set_option maxRecDepth 1000000 in
theorem closed:joinedFacts Tryz.prog 6 Tryz.f6 Rows.performRulesSpec Rows.performRulesRow=true:=by
 unfold joinedFacts
 iterate 31 (refine and_tt ?_ ?_)
 all_goals as_aux_lemma=>kernel_rfl
theorem inst:Tryz.f6.isInstance Tryz.prog Rows.performRulesRow.origin Rows.performRulesRow.targs:=of_decide_eq_true (by kernel_rfl)
theorem wrap:Tryz.f6.isWrapper Tryz.prog Rows.performRulesRow.wrapper Rows.performRulesRow.mainSum:=by unfold Func.isWrapper;first|(rw[if_pos (by decide +kernel)];kernel_rfl)|(rw[if_neg (by decide +kernel)];exact⟨rfl,rfl⟩)
theorem named:Tryz.prog.funcNamed Rows.performRulesRow.func=some 6:=by kernel_rfl
theorem over:Rows.performRulesRow.holds Tryz.pinned (OpenSpec.ofChange Rows.performRulesSpec):=
 OpenClaim.holds_of_wide 6 Tryz.f6 rfl rfl rfl rfl rfl rfl rfl ⟨rfl,rfl,rfl,rfl,rfl⟩ rfl rfl rfl rfl rfl named Tryz.func6 closed inst wrap
  (λos started H enc _=>lifted os started H enc)
theorem proved:Rows.PerformRulesSaid:=
 over
#print axioms proved
end Go.Proofs.YtibndgdocbbbeaaGreat.performRulesP
