/- Proved: Rows.TempoScoresSaid: the law TempoScores returns true for every input. Conditions: none beyond the row's own (the arguments can be read as data). -/
import Derived.Test.YtibndgdocbbbeaaGreatRows
import Derived.Test.YtibndgdocbbbeaaGreatFrame
import Derived.Test.YtibndgdocbbbeaaGreatFOs
import Derived.Test.YtibndgdocbbbeaaGreatLW5
import Derived.Test.YtibndgdocbbbeaaGreatKXc
set_option linter.all false
namespace Go.Proofs.YtibndgdocbbbeaaGreat.tempoScoresP
open Go Go.ChangeShapes Go.WideShapes Go.ChangeAt Go.RowKit Go.PE
theorem own:ownKnob Tryz.prog.godebug=none:=by kernel_rfl
theorem laidOut:laidOutB Tryz.prog=true:=by kernel_rfl
set_option maxRecDepth 100000 in
theorem agg27 {w:World} {base:Nat} {v:Value} (h:Value.okWide Tryz.prog w .any base 27 v):∃ cs,v=.agg cs:=by
 unfold Value.okWide at h
 rw[Tryz.underlying27]at h
 obtain⟨cs,rfl,_⟩:=h
 exact⟨cs,rfl⟩
set_option maxRecDepth 100000 in
theorem slice45 {w:World} {base:Nat} {v:Value} (h:Value.okWide Tryz.prog w .any base 45 v):∃ a b c,v=.slice a b c:=by
 unfold Value.okWide at h
 rw[Tryz.underlying45]at h
 cases v with
 |slice a b c=>exact⟨a,b,c,rfl⟩
 |_=>exact h.elim
set_option maxRecDepth 100000 in
theorem op114:DOp Tryz.prog 114 c114 (λ_=>True):=Xx Tryz.underlying114 (Xf (Xq Tryz.underlying3) (Xf (Xq Tryz.underlying3) Yq)) (λp=>(⟨p.1,p.2.1⟩:G114)) (λ_ _=>trivial)
set_option maxRecDepth 100000 in
theorem op45:DOp Tryz.prog 45 (cL 2 c114) (bS 8796093021952 λ_=>True):=Yz 8796093021952 Tryz.underlying45 op114
set_option maxRecDepth 100000 in
theorem walk {H:Type} {enc:TypeId×Value->H} {W:World} {base:Nat} {v v1 v2:Value} {d d1:DataW H} {p p1:List MemPlace} (ho:Value.okWide Tryz.prog W .any base 27 v) (h:DataW.Trod enc Tryz.prog W 0 (λ_=>true) true 27 v d p)
  (hz:∀ n∈d.weights Tryz.prog 27,n<=reachBytes) (h1:DataW.Trod enc Tryz.prog W 0 (λ_=>true) true 45 v1 d1 p1) (hz1:∀ n∈d1.weights Tryz.prog 45,n<=reachBytes) (ho1:Value.okWide Tryz.prog W .any base 45 v1) (ho2:Value.okWide Tryz.prog W .any base 3 v2):
  Calls Tryz.prog 5 #[v,v1,v2] W λe W'=>e=.returned (.bool true)/\Below W.heap.size W W':=by
 obtain⟨cs,rfl⟩:=agg27 ho
 obtain⟨n2,rfl⟩:=okWide_int Tryz.underlying3 ho2
 obtain⟨fuel,hf⟩:=h
 obtain⟨fuel1,hf1⟩:=h1
 obtain⟨s,hb,hl⟩:=op27 enc W 0 true fuel _ _ hf hz
 obtain⟨x,_,hl1⟩:=op45 enc W 0 true fuel1 _ _ hf1 hz1
 obtain⟨a1,b1,c1,rfl⟩:=slice45 ho1
 refine call_of (CF5 (law5 (bars:=x) (bar:=n2) hb)) ⟨rfl,λi p v hp hv=>?_⟩ λg u h=>?_
 ·match i,hp,hv with
  |0,hp,hv=>
   simp at hp hv
   subst hp hv
   exact .agg (by simpa [Value.cells] using hl.1) λi p v hp hv=>hl.2 i p v hp (by simpa [Value.cells] using hv)
  |1,hp,hv=>
   simp at hp hv
   subst hp hv
   exact hl1.2 0 _ _ rfl rfl
  |2,hp,hv=>simp at hp hv;subst hp hv;exact .sc rfl
  |i+3,hp,hv=>simp at hp
 ·cases h
  rfl
set_option maxRecDepth 100000 in
theorem lifted (os:Os) (started:os.Started) (H:Type) (enc:TypeId×Value->H):
  ReturnsInHanded {} Tryz.checked os 5 .any (Rows.tempoScoresSpec.pre6 enc Tryz.prog Tryz.f5 Rows.tempoScoresRow.domain false) (Rows.tempoScoresSpec.post enc Tryz.prog Tryz.f5 false true false false):=by
 refine lifted_law (C:=Tryz.checked) (tb:=4) own started (by kernel_rfl) Tryz.func5
  (ChangeSpec.witness6 (enc:=enc) (C:=Tryz.checked) false ⟨#[],#[.agg #[.string ⟨#[]⟩,.bool false,.slice none 0 0,.slice none 0 0,.slice none 0 0,.slice none 0 0],.slice none 0 0,.int .i64 0],[]⟩ 8 (by kernel_rfl) (by kernel_rfl) (by kernel_rfl) (by kernel_rfl))
  rfl (λds h=>?_) rfl Tryz.underlying4 laidOut ?_ ?_
 ·match ds,h with
  |[_,_,_],_=>rfl
 ·intro t ht
  have:t=27\/t=45\/t=3:=by simpa [Tryz.params5] using ht
  rcases this with rfl|rfl|rfl
  ·exact⟨by kernel_rfl,of_decide_eq_true (by kernel_rfl)⟩
  ·exact⟨by kernel_rfl,of_decide_eq_true (by kernel_rfl)⟩
  ·exact⟨by kernel_rfl,of_decide_eq_true (by kernel_rfl)⟩
 ·intro W base args ds ps hval hA _ hz
  have hA:DataW.TrodAll enc Tryz.prog W 0 (λ_=>true) true Tryz.f5.params.toList args.toList ds ps:=hA
  have hz:∀ n∈DataW.weightsEach Tryz.prog Tryz.f5.params.toList ds,n<=reachBytes:=hz
  have hval:∀ (j:Nat) t v,Tryz.f5.params[j]?=some t->args[j]?=some v->Value.okWide Tryz.prog W .any base t v:=hval
  rw[Tryz.params5]at hA hval hz
  obtain⟨v0,vs0,d0,ds0,p0,q0,hargs,rfl,rfl,h0,r0⟩:=trodAll_cons hA
  obtain⟨v1,vs1,d1,ds1,p1,q1,rfl,rfl,rfl,h1,r1⟩:=trodAll_cons r0
  obtain⟨v2,vs2,d2,ds2,p2,q2,rfl,rfl,rfl,_,r2⟩:=trodAll_cons r1
  obtain⟨rfl,rfl,rfl⟩:=trodAll_nil r2
  obtain rfl:args=#[v0,v1,v2]:=by cases args;simp_all
  exact walk (hval 0 27 v0 rfl rfl) h0 (λn hn=>hz n (by simp only[DataW.weightsEach,List.mem_append];exact .inl hn)) h1 (λn hn=>hz n (by simp only[DataW.weightsEach,List.mem_append];exact .inr (.inl hn))) (hval 1 45 v1 rfl rfl) (hval 2 3 v2 rfl rfl)
theorem over:Rows.tempoScoresRow.holds Tryz.pinned (OpenSpec.ofChange Rows.tempoScoresSpec):=
 OpenClaim.holds_of_wide 5 Tryz.f5 rfl rfl rfl rfl rfl rfl rfl ⟨rfl,rfl,rfl,rfl,rfl⟩ rfl rfl rfl rfl rfl named Tryz.func5 closed inst wrap
  (λos started H enc _=>lifted os started H enc)
theorem proved:Rows.TempoScoresSaid:=
 over
#print axioms proved
end Go.Proofs.YtibndgdocbbbeaaGreat.tempoScoresP
