/- Proved: Rows.MergeTextsCardSaid: the law MergeTexts returns true for every input, the listed tables tied to the program's text. Conditions: none beyond the row's own. -/
import Derived.Test.YtacoeahipklibaaDoorRows
import Derived.Test.YtacoeahipklibaaDoorCards
import Derived.Test.YtacoeahipklibaaDoorTie
import Derived.Test.YtacoeahipklibaaDoorFrame
import Derived.Test.YtacoeahipklibaaDoorL3
import Derived.SevenTiedAt
import Derived.LaidSub
namespace Go.Proofs.YtacoeahipklibaaDoor.mergeTextsP
open Go Go.ChangeShapes Go.WideShapes Go.ChangeAt Go.RowKit

section
variable {H : Type} {enc : TypeId × Value → H}
theorem lifted_laid2 {C : Checked} {os : Os} {f : FuncId} {fn : Func} {s : ChangeSpec} {tb : TypeId} {X : World → Array Value → Prop} (hX : ∀ (w w' : World) (args : Array Value), w.heap = w'.heap → X w args → X w' args)
    (own : ownKnob C.prog.godebug = none) (started : os.Started) (noInit : C.prog.inits.idxOf? f = none) (hfn : C.prog.funcs[f]? = some fn)
    (witness : ∃ (w : World) (tape : Tape) (i : Input), w.os = os ∧ (w.forCall tape i).Shaped C.prog ∧ i.vars = [] ∧ Input.okWide C.prog (w.forCall tape i) .any w.heap.size f i ∧
      ((s.pre enc C.prog fn [] false (w.forCall tape i).memory i.args ∧ X (w.forCall tape i).memory i.args) ∧ sizedMet enc C.prog fn (OpenSpec.ofChange s) false (w.forCall tape i).memory i.args) ∧ ({} : Assume).holds C.prog (lone (Frame.enter C.prog f i.args .normal) [] (w.forCall tape i)))
    (hv : s.vars = []) (hspec : ∀ ds : List (DataW H), ds.length = fn.params.size → s.fn H ds = { results := [.lit (.bool true)], args := ds })
    (hrt : fn.resultTypes = #[tb]) (hbool : C.prog.underlying tb = some .bool) (hl : laidOutB C.prog = true)
    (hr : ∀ t ∈ fn.params.toList, C.prog.readableRec t = true ∧ t < C.prog.types.size)
    (walk : ∀ (W : World) (base : Nat) (args : Array Value) (ds : List (DataW H)) (ps : List MemPlace),
      (∀ (j : Nat) t v, fn.params[j]? = some t → args[j]? = some v → Value.okWide C.prog W .any base t v) →
      DataW.TrodAll enc C.prog W 0 (fun _ => true) true fn.params.toList args.toList ds ps → (∀ p ∈ ps, p.block < W.heap.size) → X W args →
      Calls C.prog f args W fun e W' => e = .returned (.bool true) ∧ Below W.heap.size W W') :
    ReturnsInHanded {} C os f .any (fun w args => (s.pre enc C.prog fn [] false w args ∧ X w args) ∧ sizedMet enc C.prog fn (OpenSpec.ofChange s) false w args) (s.post enc C.prog fn false true false false) := by
  refine returnsInHanded_of_change_and (X := X) hX own started noInit hfn witness ?_
  intro W base args ds gs before hval hW _ _ hX0 _
  have hW' := hW
  have hlt : ∀ p ∈ before, p.block < W.heap.size := fun p hp => hW'.lt p hp
  obtain ⟨p, q, hA, hV, rfl, hfz, hnd⟩ := hW
  rw [hv] at hV
  obtain ⟨rfl, rfl⟩ := trodVars_none hV
  simp only [List.append_nil] at hW' hlt
  have hlen : ∀ {ts : List TypeId} {vs : List Value} {es : List (DataW H)} {qs : List MemPlace}, DataW.TrodAll enc C.prog W 0 (fun _ => true) true ts vs es qs → es.length = ts.length := by
    intro ts
    induction ts with
    | nil => intro vs es qs h; cases vs <;> cases es <;> simp [DataW.TrodAll] at h ⊢
    | cons t ts ih =>
      intro vs es qs h
      cases vs <;> cases es <;> simp only [DataW.TrodAll] at h
      obtain ⟨_, _, _, h2, _⟩ := h
      simp [ih h2]
  refine (walk W base args ds p hval hA hlt hX0).mono fun e W' ⟨he, hb⟩ => ⟨_, he, ?_⟩
  have hs : s.fn H (ds ++ []) = { results := [.lit (.bool true)], args := ds } := by rw [List.append_nil]; exact hspec ds (by simpa using hlen hA)
  refine post_of_below (pa := p) (pv := []) hW' ?_ ?_ ?_ (by simp) hb ?_
  · intro b sp hd
    rw [hs, hrt]
    exact trodAll_cons_mk (shut_bool hbool _) trodAll_mk0
  · intro sp hsp
    rw [hs]
    exact trodAll_stays hl hb hr hA hlt hsp
  · intro sp _
    rw [hs, hv]
    rfl
  · exact ok_one hrt rfl (okWide_bool_mk hbool _)
end

theorem own : ownKnob Tryd.prog.godebug = none := by kernel_rfl
abbrev LL : List (String × DataW Unit) := Rows.mergeTextsRow.laid

theorem door_met (os : Os) (args : Array Value) : laidMetH Tryd.prog LL ((World.doorLaid Tryd.prog 400 os).forCall (fun _ _ => 0) ⟨#[], args, []⟩).memory :=
  laidMetH_of_parts3 (fuel := 8) (laidMet_of_run' 8 (by kernel_rfl) (by kernel_rfl)) (by kernel_rfl) (by kernel_rfl)

theorem tabEq : Rows.laid_internal_strconv_uint64pow10 (H := Unit) = Lib.tabData .u64 Lib.pow10Tab := rfl
theorem tab_of {w : World} (h : laidMetH Tryd.prog LL w) : Tab w := by
  have h := h.filter (fun x => x.1 == "internal/strconv.uint64pow10")
  have e : (LL.filter fun x => x.1 == "internal/strconv.uint64pow10") = [("internal/strconv.uint64pow10", Rows.laid_internal_strconv_uint64pow10)] := rfl
  rw [e, tabEq] at h
  have h : laidMet Tryd.prog [("internal/strconv.uint64pow10", Lib.tabData .u64 Lib.pow10Tab)] w := h
  exact Lib.tabIs_of_head (g := 0) (t := 61) (e := 54) (n := 20) (by kernel_rfl) (by kernel_rfl) (by kernel_rfl) (by kernel_rfl) (by kernel_rfl) (by kernel_rfl) h

theorem cts32 : Tryd.prog.cellTypes Tryd.prog.depth 32 = some [3, 3, 9, 3] := by kernel_rfl
theorem open32 {w : World} {base : Nat} {v : Value} (h : Value.okWide Tryd.prog w .any base 32 v) : ∃ (a1 a2 a3 : Int) (A : ByteArray), v = .agg #[.int .i64 a1, .int .i64 a2, .string A, .int .i64 a3] ∧ IntKind.i64.has a1 ∧ IntKind.i64.has a2 := by
  unfold Value.okWide at h
  rw [Tryd.underlying32] at h
  obtain ⟨cs, rfl, hsz, ts, hts, _, hall⟩ := h
  rw [cts32] at hts
  injection hts with hts
  subst hts
  rw [show Tryd.prog.cellsOf 32 = 4 by kernel_rfl] at hsz
  obtain ⟨l⟩ := cs
  match l, hsz with
  | [c0, c1, c2, c3], _ =>
    have int : ∀ v, Cell.okWide Tryd.prog w .any base 3 v → ∃ n, v = .int .i64 n ∧ IntKind.i64.has n := by
      intro v hv
      simp only [Cell.okWide, Tryd.underlying3] at hv
      cases v <;> simp_all [Cell.ok, Tryd.underlying3]
    have str : ∀ v, Cell.okWide Tryd.prog w .any base 9 v → ∃ s, v = .string s := by
      intro v hv
      simp only [Cell.okWide, Tryd.underlying9] at hv
      cases v <;> simp_all [Cell.ok, Tryd.underlying9]
    obtain ⟨u0, e0, h0⟩ := hall 0 c0 rfl
    obtain ⟨u1, e1, h1⟩ := hall 1 c1 rfl
    obtain ⟨u2, e2, h2⟩ := hall 2 c2 rfl
    obtain ⟨u3, e3, h3⟩ := hall 3 c3 rfl
    simp at e0 e1 e2 e3
    subst e0 e1 e2 e3
    obtain ⟨a1, rfl, g1⟩ := int _ h0
    obtain ⟨a2, rfl, g2⟩ := int _ h1
    obtain ⟨A, rfl⟩ := str _ h2
    obtain ⟨a3, rfl, _⟩ := int _ h3
    exact ⟨a1, a2, a3, A, rfl, g1, g2⟩

set_option maxRecDepth 100000 in
theorem lifted (os : Os) (started : os.Started) (H : Type) (enc : TypeId × Value → H) :
    ReturnsInHanded {} Tryd.checked os 5 .any (fun w args => (Rows.mergeTextsSpec.pre enc Tryd.prog Tryd.f5 [] false w args ∧ laidMetH Tryd.prog LL w) ∧ sizedMet enc Tryd.prog Tryd.f5 (OpenSpec.ofChange Rows.mergeTextsSpec) false w args)
      (Rows.mergeTextsSpec.post enc Tryd.prog Tryd.f5 false true false false) := by
  refine lifted_laid2 (C := Tryd.checked) (tb := 4) (X := fun w _ => laidMetH Tryd.prog LL w) (fun _ _ _ hh h => h.of_heap hh) own started (by kernel_rfl) Tryd.func5
    (ChangeSpec.witness_shaped (enc := enc) (C := Tryd.checked) (os := os) (X := fun w _ => laidMetH Tryd.prog LL w) false (World.doorLaid Tryd.prog 400 os) #[.agg #[.int .i64 0, .int .i64 0, .string ⟨#[]⟩, .int .i64 0], .agg #[.int .i64 0, .int .i64 0, .string ⟨#[]⟩, .int .i64 0]] 8 rfl (World.shaped_of_RefB (by kernel_rfl) (by kernel_rfl)) (by kernel_rfl) (by kernel_rfl) (by kernel_rfl) (door_met os _))
    rfl (fun ds h => ?_) rfl Tryd.underlying4 laidOut ?_ ?_
  · match ds, h with
    | [_, _], _ => rfl
  · intro t ht
    have : t = 32 := by simpa [Tryd.params5] using ht
    subst this
    · exact ⟨by kernel_rfl, of_decide_eq_true (by kernel_rfl)⟩
  · intro W base args ds ps hval hA _ hX
    have hT := tab_of hX
    have hA : DataW.TrodAll enc Tryd.prog W 0 (fun _ => true) true Tryd.f5.params.toList args.toList ds ps := hA
    have hval : ∀ (j : Nat) t v, Tryd.f5.params[j]? = some t → args[j]? = some v → Value.okWide Tryd.prog W .any base t v := hval
    rw [Tryd.params5] at hA hval
    obtain ⟨v0, vs0, d0, ds0, p0, q0, hargs, rfl, rfl, h0, r0⟩ := trodAll_cons hA
    obtain ⟨v1, vs1, d1, ds1, p1, q1, rfl, rfl, rfl, h1, r1⟩ := trodAll_cons r0
    obtain ⟨rfl, rfl, rfl⟩ := trodAll_nil r1
    obtain rfl : args = #[v0, v1] := by cases args; simp_all
    obtain ⟨a1, a2, a3, A, rfl, g1, g2⟩ := open32 (hval 0 32 v0 rfl rfl)
    obtain ⟨b1, b2, b3, B, rfl, _, _⟩ := open32 (hval 1 32 v1 rfl rfl)
    refine textsC a1 a2 a3 b1 b2 b3 A B W hT ?_ ?_
    · have := g1.2; simp [IntKind.max, IntKind.bits, IntKind.signed] at this; omega
    · have := g2.2; simp [IntKind.max, IntKind.bits, IntKind.signed] at this; omega

theorem over : Rows.mergeTextsRow.holds Tryd.pinned (OpenSpec.ofChange Rows.mergeTextsSpec) :=
  OpenClaim.holds_of_wide 5 Tryd.f5 rfl rfl rfl rfl rfl rfl rfl ⟨rfl, rfl, rfl, rfl, rfl⟩ rfl rfl rfl rfl rfl (by kernel_rfl) Tryd.func5 (by kernel_rfl)
    (of_decide_eq_true (by kernel_rfl)) (by unfold Func.isWrapper; first | (rw [if_pos (by decide +kernel)]; kernel_rfl) | (rw [if_neg (by decide +kernel)]; exact ⟨rfl, rfl⟩))
    (fun os started H enc _ => lifted os started H enc)

theorem proved : Rows.MergeTextsCardSaid :=
  Claim7.holds_tied_plain_at .later [] [.data, .data, .data] true (true, "f3fcf8204128dffb6bd389120d7645f7dbd7abab287140dabaa8c81f2cd47462") false
    over (fun _ h => by cases h) (by kernel_rfl) (fun _ h => by cases h) mergeTexts_row_tie rfl ⟨rfl, rfl⟩ (by kernel_rfl) rfl
    (fun f fn hf hfn => by
      obtain rfl : f = 5 := Option.some.inj ((show Tryd.prog.funcNamed "hemiola/hemiolalaw54.MergeTexts" = some 5 by kernel_rfl).symm.trans hf) |>.symm
      obtain rfl : fn = Tryd.f5 := (Option.some.inj (Tryd.func5.symm.trans hfn)).symm
      exact ⟨by kernel_rfl, fun j t ht => by
        rw [Tryd.params5] at ht
        have hm : t ∈ [32, 32] := by simpa using Array.mem_of_getElem? ht
        have hall : ([32, 32].all fun u => !Tryd.prog.wantsStandIn u) = true := by kernel_rfl
        exact (show Tryd.prog.wantsStandIn t = false by simpa using List.all_eq_true.1 hall t hm)⟩)
    (by kernel_rfl)
#print axioms proved
end Go.Proofs.YtacoeahipklibaaDoor.mergeTextsP
