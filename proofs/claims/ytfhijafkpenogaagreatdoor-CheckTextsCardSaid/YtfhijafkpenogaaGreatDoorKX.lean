/- Proved: Rows.CheckTextsCardSaid: the law CheckTexts returns true for every input, the listed tables tied to the program's text. Conditions: none beyond the row's own. -/
import Derived.Test.YtfhijafkpenogaaGreatDoorRows
import Derived.Test.YtfhijafkpenogaaGreatDoorCards
import Derived.Test.YtfhijafkpenogaaGreatDoorTie
import Derived.Test.YtfhijafkpenogaaGreatDoorFrame
import Derived.Test.YtfhijafkpenogaaGreatDoorKE
import Derived.SevenTiedAt
import Derived.LaidSub
namespace Go.Proofs.YtfhijafkpenogaaGreatDoor.checkTextsP
open Go Go.ChangeShapes Go.WideShapes Go.ChangeAt Go.RowKit

section
variable {H : Type} {enc : TypeId × Value → H}
theorem lifted_laid2 {C : Checked} {os : Os} {f : FuncId} {fn : Func} {s : ChangeSpec} {tb : TypeId} {X : World → Array Value → Prop} (hX : ∀ (w w' : World) (args : Array Value), w.heap = w'.heap → X w args → X w' args)
    (own : ownKnob C.prog.godebug = none) (started : os.Started) (noInit : C.prog.inits.idxOf? f = none) (hfn : C.prog.funcs[f]? = some fn)
    (witness : ∃ (w : World) (tape : Tape) (i : Input), w.os = os ∧ (w.forCall tape i).Shaped C.prog ∧ i.vars = [] ∧ Input.okWide C.prog (w.forCall tape i) .any w.heap.size f i ∧
      ((s.pre enc C.prog fn [] false (w.forCall tape i).memory i.args ∧ X (w.forCall tape i).memory i.args) ∧ sizedMet enc C.prog fn (OpenSpec.ofChange s) false (w.forCall tape i).memory i.args) ∧ ({} : Assume).holds C.prog (lone (Frame.enter C.prog f i.args .normal) [] (w.forCall tape i)))
    (hv : s.vars = []) (hspec : ∀ ds : List (DataW H), ds.length = fn.params.size → s.fn H ds = { results := [.lit (.bool true)], args := ds })
    (hrt : fn.resultTypes = #[tb]) (hbool : C.prog.underlying tb = some .bool) (hl : laidOutB C.prog = true)
    (hr : ∀ t ∈ fn.params.toList, C.prog.readableRec t = true ∧ t < C.prog.types.size)
    (walk : ∀ (W : World) (base : Nat) (args : Array Value) (ds : List (DataW H)) (ps : List MemPlace),
      (∀ (j : Nat) t v, fn.params[j]? = some t → args[j]? = some v → Value.okWide C.prog W .any base t v) →
      DataW.TrodAll enc C.prog W 0 (fun _ => true) true fn.params.toList args.toList ds ps → (∀ p ∈ ps, p.block < W.heap.size) → X W args →
      Calls C.prog f args W fun e W' => e = .returned (.bool true) ∧ Below W.heap.size W W') :
    ReturnsInHanded {} C os f .any (fun w args => (s.pre enc C.prog fn [] false w args ∧ X w args) ∧ sizedMet enc C.prog fn (OpenSpec.ofChange s) false w args) (s.post enc C.prog fn false true false false) := by
  refine returnsInHanded_of_change_and (X := X) hX own started noInit hfn witness ?_
  intro W base args ds gs before hval hW _ _ hX0 _
  have hW' := hW
  have hlt : ∀ p ∈ before, p.block < W.heap.size := fun p hp => hW'.lt p hp
  obtain ⟨p, q, hA, hV, rfl, hfz, hnd⟩ := hW
  rw [hv] at hV
  obtain ⟨rfl, rfl⟩ := trodVars_none hV
  simp only [List.append_nil] at hW' hlt
  have hlen : ∀ {ts : List TypeId} {vs : List Value} {es : List (DataW H)} {qs : List MemPlace}, DataW.TrodAll enc C.prog W 0 (fun _ => true) true ts vs es qs → es.length = ts.length := by
    intro ts
    induction ts with
    | nil => intro vs es qs h; cases vs <;> cases es <;> simp [DataW.TrodAll] at h ⊢
    | cons t ts ih =>
      intro vs es qs h
      cases vs <;> cases es <;> simp only [DataW.TrodAll] at h
      obtain ⟨_, _, _, h2, _⟩ := h
      simp [ih h2]
  refine (walk W base args ds p hval hA hlt hX0).mono fun e W' ⟨he, hb⟩ => ⟨_, he, ?_⟩
  have hs : s.fn H (ds ++ []) = { results := [.lit (.bool true)], args := ds } := by rw [List.append_nil]; exact hspec ds (by simpa using hlen hA)
  refine post_of_below (pa := p) (pv := []) hW' ?_ ?_ ?_ (by simp) hb ?_
  · intro b sp hd
    rw [hs, hrt]
    exact trodAll_cons_mk (shut_bool hbool _) trodAll_mk0
  · intro sp hsp
    rw [hs]
    exact trodAll_stays hl hb hr hA hlt hsp
  · intro sp _
    rw [hs, hv]
    rfl
  · exact ok_one hrt rfl (okWide_bool_mk hbool _)
end

theorem own : ownKnob Tryz.prog.godebug = none := by kernel_rfl
abbrev LL : List (String × DataW Unit) := Rows.checkTextsRow.laid

theorem door_met (os : Os) (args : Array Value) : laidMetH Tryz.prog LL ((World.doorLaid Tryz.prog 400 os).forCall (fun _ _ => 0) ⟨#[], args, []⟩).memory :=
  laidMetH_of_parts3 (fuel := 8) (laidMet_of_run' 8 (by kernel_rfl) (by kernel_rfl)) (by kernel_rfl) (by kernel_rfl)

theorem tabEq : Rows.laid_internal_strconv_uint64pow10 (H := Unit) = Lib.tabData .u64 Lib.pow10Tab := rfl
theorem tab_of {w : World} (h : laidMetH Tryz.prog LL w) : Tab w := by
  have h := h.filter (fun x => x.1 == "internal/strconv.uint64pow10")
  have e : (LL.filter fun x => x.1 == "internal/strconv.uint64pow10") = [("internal/strconv.uint64pow10", Rows.laid_internal_strconv_uint64pow10)] := rfl
  rw [e, tabEq] at h
  have h : laidMet Tryz.prog [("internal/strconv.uint64pow10", Lib.tabData .u64 Lib.pow10Tab)] w := h
  exact Lib.tabIs_of_head (g := 0) (t := 197) (e := 149) (n := 20) (by kernel_rfl) (by kernel_rfl) (by kernel_rfl) (by kernel_rfl) (by kernel_rfl) (by kernel_rfl) h

theorem laidOut : laidOutB Tryz.prog = true := by kernel_rfl
theorem cts25 : Tryz.prog.cellTypes Tryz.prog.depth 25 = some [3, 3, 3] := by kernel_rfl
set_option maxRecDepth 100000 in
theorem open25 {w : World} {base : Nat} {v : Value} (h : Value.okWide Tryz.prog w .any base 25 v) : ∃ (a1 a2 a3 : Int), v = vioV a1 a2 a3 ∧ IntKind.i64.has a1 ∧ IntKind.i64.has a2 ∧ IntKind.i64.has a3 := by
  unfold Value.okWide at h
  rw [Tryz.underlying25] at h
  obtain ⟨cs, rfl, hsz, ts, hts, _, hall⟩ := h
  rw [cts25] at hts
  injection hts with hts
  subst hts
  rw [show Tryz.prog.cellsOf 25 = 3 by kernel_rfl] at hsz
  obtain ⟨l⟩ := cs
  match l, hsz with
  | [c0, c1, c2], _ =>
    have int : ∀ v, Cell.okWide Tryz.prog w .any base 3 v → ∃ n, v = .int .i64 n ∧ IntKind.i64.has n := by
      intro v hv
      simp only [Cell.okWide, Tryz.underlying3] at hv
      cases v <;> simp_all [Cell.ok, Tryz.underlying3]
    obtain ⟨u0, e0, h0⟩ := hall 0 c0 rfl
    obtain ⟨u1, e1, h1⟩ := hall 1 c1 rfl
    obtain ⟨u2, e2, h2⟩ := hall 2 c2 rfl
    simp at e0 e1 e2
    subst e0 e1 e2
    obtain ⟨a1, rfl, g1⟩ := int _ h0
    obtain ⟨a2, rfl, g2⟩ := int _ h1
    obtain ⟨a3, rfl, g3⟩ := int _ h2
    exact ⟨a1, a2, a3, rfl, g1, g2, g3⟩
set_option maxRecDepth 100000 in
theorem open9 {w : World} {base : Nat} {v : Value} (h : Value.okWide Tryz.prog w .any base 9 v) : ∃ s, v = .string s := by
  unfold Value.okWide at h
  rw [Tryz.underlying9] at h
  simp only [Cell.okWide, Tryz.underlying9] at h
  cases v <;> simp_all [Cell.ok, Tryz.underlying9]

set_option maxRecDepth 100000 in
theorem lifted (os : Os) (started : os.Started) (H : Type) (enc : TypeId × Value → H) :
    ReturnsInHanded {} Tryz.checked os 3 .any (fun w args => (Rows.checkTextsSpec.pre enc Tryz.prog Tryz.f3 [] false w args ∧ laidMetH Tryz.prog LL w) ∧ sizedMet enc Tryz.prog Tryz.f3 (OpenSpec.ofChange Rows.checkTextsSpec) false w args)
      (Rows.checkTextsSpec.post enc Tryz.prog Tryz.f3 false true false false) := by
  refine lifted_laid2 (C := Tryz.checked) (tb := 4) (X := fun w _ => laidMetH Tryz.prog LL w) (fun _ _ _ hh h => h.of_heap hh) own started (by kernel_rfl) Tryz.func3
    (ChangeSpec.witness_shaped (enc := enc) (C := Tryz.checked) (os := os) (X := fun w _ => laidMetH Tryz.prog LL w) false (World.doorLaid Tryz.prog 400 os) #[.agg #[.int .i64 0, .int .i64 0, .int .i64 0], .string ⟨#[]⟩] 8 rfl (World.shaped_of_RefB (by kernel_rfl) (by kernel_rfl)) (by kernel_rfl) (by kernel_rfl) (by kernel_rfl) (door_met os _))
    rfl (fun ds h => ?_) rfl Tryz.underlying4 laidOut ?_ ?_
  · match ds, h with
    | [_, _], _ => rfl
  · intro t ht
    have : t = 25 ∨ t = 9 := by simpa [Tryz.params3] using ht
    rcases this with rfl | rfl
    · exact ⟨by kernel_rfl, of_decide_eq_true (by kernel_rfl)⟩
    · exact ⟨by kernel_rfl, of_decide_eq_true (by kernel_rfl)⟩
  · intro W base args ds ps hval hA _ hX
    have hT := tab_of hX
    have hA : DataW.TrodAll enc Tryz.prog W 0 (fun _ => true) true Tryz.f3.params.toList args.toList ds ps := hA
    have hval : ∀ (j : Nat) t v, Tryz.f3.params[j]? = some t → args[j]? = some v → Value.okWide Tryz.prog W .any base t v := hval
    rw [Tryz.params3] at hA hval
    obtain ⟨v0, vs0, d0, ds0, p0, q0, hargs, rfl, rfl, h0, r0⟩ := trodAll_cons hA
    obtain ⟨v1, vs1, d1, ds1, p1, q1, rfl, rfl, rfl, h1, r1⟩ := trodAll_cons r0
    obtain ⟨rfl, rfl, rfl⟩ := trodAll_nil r1
    obtain rfl : args = #[v0, v1] := by cases args; simp_all
    obtain ⟨r, s, n, rfl, _, g2, g3⟩ := open25 (hval 0 25 v0 rfl rfl)
    obtain ⟨name, rfl⟩ := open9 (hval 1 9 v1 rfl rfl)
    have b2 := g2.1
    have b3 := g2.2
    have b4 := g3.1
    have b5 := g3.2
    simp [IntKind.max, IntKind.min, IntKind.bits, IntKind.signed] at b2 b3 b4 b5
    exact textsC r s n name W hT (by omega) (by omega) (by omega) (by omega)

theorem over : Rows.checkTextsRow.holds Tryz.pinned (OpenSpec.ofChange Rows.checkTextsSpec) :=
  OpenClaim.holds_of_wide 3 Tryz.f3 rfl rfl rfl rfl rfl rfl rfl ⟨rfl, rfl, rfl, rfl, rfl⟩ rfl rfl rfl rfl rfl (by kernel_rfl) Tryz.func3 (by kernel_rfl)
    (of_decide_eq_true (by kernel_rfl)) (by unfold Func.isWrapper; first | (rw [if_pos (by decide +kernel)]; kernel_rfl) | (rw [if_neg (by decide +kernel)]; exact ⟨rfl, rfl⟩))
    (fun os started H enc _ => lifted os started H enc)

theorem proved : Rows.CheckTextsCardSaid :=
  Claim7.holds_tied_plain_at .later [] [.data, .data, .data] true (true, "17d11831365ecb688eea6275bb5e1df188e173928f8987503e7abd956b2e2f20") false
    over (fun _ h => by cases h) (by kernel_rfl) (fun _ h => by cases h) checkTexts_row_tie rfl ⟨rfl, rfl⟩ (by kernel_rfl) rfl
    (fun f fn hf hfn => by
      obtain rfl : f = 3 := Option.some.inj ((show Tryz.prog.funcNamed "hemiola/hemiolalaw16.CheckTexts" = some 3 by kernel_rfl).symm.trans hf) |>.symm
      obtain rfl : fn = Tryz.f3 := (Option.some.inj (Tryz.func3.symm.trans hfn)).symm
      exact ⟨by kernel_rfl, fun j t ht => by
        rw [Tryz.params3] at ht
        have hm : t ∈ [25, 9] := by simpa using Array.mem_of_getElem? ht
        have hall : ([25, 9].all fun u => !Tryz.prog.wantsStandIn u) = true := by kernel_rfl
        exact (show Tryz.prog.wantsStandIn t = false by simpa using List.all_eq_true.1 hall t hm)⟩)
    (by kernel_rfl)
#print axioms proved
end Go.Proofs.YtfhijafkpenogaaGreatDoor.checkTextsP
