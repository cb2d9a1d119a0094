/- The frame of a law that reads the library's variables: the listed tables and errors, and a variable by the world's shape. -/
import Derived.Test.YteoghladllohjaaGreatDoorRows
import Derived.Test.YteoghladllohjaaGreatDoorFrame
import Derived.Test.YteoghladllohjaaGreatDoorM4
import Derived.Shelf.Vars
import Derived.Stop.LaidErr
import Derived.LaidLaws
import Derived.LaidSub
import Derived.Lib.LaidTab
import Derived.Handed
namespace Go.Proofs.YteoghladllohjaaGreatDoor
open Go.ChangeShapes Go.WideShapes Go.ChangeAt Go.RowKit

section
variable {H : Type} {enc : TypeId × Value → H}
theorem lifted_env {C : Checked} {os : Os} {f : FuncId} {fn : Func} {s : ChangeSpec} {tb : TypeId} {X : World → Array Value → Prop} (hX : ∀ (w w' : World) (args : Array Value), w.heap = w'.heap → X w args → X w' args)
    (own : ownKnob C.prog.godebug = none) (started : os.Started) (noInit : C.prog.inits.idxOf? f = none) (hfn : C.prog.funcs[f]? = some fn)
    (witness : ∃ (w : World) (tape : Tape) (i : Input), w.os = os ∧ (w.forCall tape i).Shaped C.prog ∧ i.vars = [] ∧ Input.okWide C.prog (w.forCall tape i) .any w.heap.size f i ∧
      ((s.pre enc C.prog fn [] false (w.forCall tape i).memory i.args ∧ X (w.forCall tape i).memory i.args) ∧ sizedMet enc C.prog fn (OpenSpec.ofChange s) false (w.forCall tape i).memory i.args) ∧ ({} : Assume).holds C.prog (lone (Frame.enter C.prog f i.args .normal) [] (w.forCall tape i)))
    (hv : s.vars = []) (hspec : ∀ ds : List (DataW H), ds.length = fn.params.size → s.fn H ds = { results := [.lit (.bool true)], args := ds })
    (hrt : fn.resultTypes = #[tb]) (hbool : C.prog.underlying tb = some .bool) (hl : laidOutB C.prog = true)
    (hr : ∀ t ∈ fn.params.toList, C.prog.readableRec t = true ∧ t < C.prog.types.size)
    (walk : ∀ (W : World) (base : Nat) (args : Array Value) (ds : List (DataW H)) (ps : List MemPlace),
      (∀ (j : Nat) t v, fn.params[j]? = some t → args[j]? = some v → Value.okWide C.prog W .any base t v) →
      DataW.TrodAll enc C.prog W 0 (fun _ => true) true fn.params.toList args.toList ds ps → (∀ p ∈ ps, p.block < W.heap.size) → X W args → W.ShapedOpen C.prog →
      Calls C.prog f args W fun e W' => e = .returned (.bool true) ∧ Below W.heap.size W W') :
    ReturnsInHanded {} C os f .any (fun w args => (s.pre enc C.prog fn [] false w args ∧ X w args) ∧ sizedMet enc C.prog fn (OpenSpec.ofChange s) false w args) (s.post enc C.prog fn false true false false) := by
  refine returnsInHanded_of_calls own started noInit witness ?_
  intro w0 tape i _ hsh _ hok hpre _
  obtain ⟨_, _, _, fn', hfn', _, _, _, _, hval⟩ := hok
  have e : fn' = fn := Option.some.inj (hfn'.symm.trans hfn)
  subst e
  obtain ⟨⟨⟨ds, gs, before, hw, _⟩, hx⟩, _⟩ := hpre
  have hW := DataW.Whole.of_heap (w' := w0.forCall tape i) (by rfl) hw
  have hX0 := hX _ _ _ (show (w0.forCall tape i).memory.heap = (w0.forCall tape i).heap from rfl) hx
  obtain ⟨W, hWe⟩ : ∃ W, W = w0.forCall tape i := ⟨_, rfl⟩
  rw [← hWe] at hsh hval hW hX0 ⊢
  obtain ⟨args, hargs⟩ : ∃ args, args = i.args := ⟨_, rfl⟩
  rw [← hargs] at hval hW hX0 ⊢
  suffices hall : Calls C.prog f args W fun e W' => ∃ v, e = .returned v ∧ s.post enc C.prog fn' false true false false W args v W' by
    refine hall.mono fun e W' ⟨v, he, hp⟩ => ?_
    subst he
    exact ChangeSpec.post_blind hp
  have hW' := hW
  have hlt : ∀ p ∈ before, p.block < W.heap.size := fun p hp => hW'.lt p hp
  obtain ⟨p, q, hA, hV, rfl, hfz, hnd⟩ := hW
  rw [hv] at hV
  obtain ⟨rfl, rfl⟩ := trodVars_none hV
  simp only [List.append_nil] at hW' hlt
  have hlen : ∀ {ts : List TypeId} {vs : List Value} {es : List (DataW H)} {qs : List MemPlace}, DataW.TrodAll enc C.prog W 0 (fun _ => true) true ts vs es qs → es.length = ts.length := by
    intro ts
    induction ts with
    | nil => intro vs es qs h; cases vs <;> cases es <;> simp [DataW.TrodAll] at h ⊢
    | cons t ts ih =>
      intro vs es qs h
      cases vs <;> cases es <;> simp only [DataW.TrodAll] at h
      obtain ⟨_, _, _, h2, _⟩ := h
      simp [ih h2]
  refine (walk W w0.heap.size args ds p hval hA hlt hX0 hsh).mono fun e W' ⟨he, hb⟩ => ⟨_, he, ?_⟩
  have hs : s.fn H (ds ++ []) = { results := [.lit (.bool true)], args := ds } := by rw [List.append_nil]; exact hspec ds (by simpa using hlen hA)
  refine post_of_below (pa := p) (pv := []) hW' ?_ ?_ ?_ (by simp) hb ?_
  · intro b sp hd
    rw [hs, hrt]
    exact trodAll_cons_mk (shut_bool hbool _) trodAll_mk0
  · intro sp hsp
    rw [hs]
    exact trodAll_stays hl hb hr hA hlt hsp
  · intro sp _
    rw [hs, hv]
    rfl
  · exact ok_one hrt rfl (okWide_bool_mk hbool _)
end

theorem slice_ok {P : Program} {w : World} {r : Reach} {base : Nat} {t e : TypeId} {v : Value} (ht : P.underlying t = some (.slice e)) (h : Value.okWide P w r base t v) : ∃ A n c, v = .slice A n c ∧ n ≤ c ∧ (c : Int) ≤ IntKind.i64.max ∧ (A = none → c = 0) := by
  obtain ⟨A, n, c, rfl⟩ := okWide_slice ht h
  have h : Cell.ok P w r base t (.slice A n c) := by
    unfold Value.okWide at h
    rw [ht] at h
    unfold Cell.okWide at h
    simpa [ht] using h
  refine ⟨A, n, c, rfl, ?_⟩
  unfold Cell.ok at h
  rw [ht] at h
  cases A with
  | none =>
    match n, c, h with
    | 0, 0, _ => exact ⟨Nat.le_refl _, by decide, fun _ => rfl⟩
    | 0, _ + 1, h => exact h.elim
    | _ + 1, _, h => exact h.elim
  | some a =>
    obtain ⟨h1, h2, _⟩ := h
    exact ⟨h1, h2, fun e => by cases e⟩
theorem string_ok {P : Program} {w : World} {r : Reach} {base : Nat} {t : TypeId} {v : Value} (ht : P.underlying t = some .string) (h : Value.okWide P w r base t v) : ∃ S, v = .string S := by
  unfold Value.okWide at h
  rw [ht] at h
  simp only [Cell.okWide, ht] at h
  cases v <;> simp_all [Cell.ok]
theorem i64max : IntKind.i64.max = 9223372036854775807 := by decide

/-- What the rows list. -/
abbrev LL : List (String × DataW Unit) := Rows.motifTransposesRow.laid
theorem tabEq : Rows.laid_internal_strconv_uint64pow10 (H := Unit) = Lib.tabData .u64 Lib.pow10Tab := rfl
def ifName (d : DataW Unit) : String := match d with
  | .iface n _ => n
  | _ => default
theorem rowErr (u : TypeId) (nm : String) (hn : Rows.laid_strconv_ErrSyntax (H := Unit) = .iface nm (.ptr (.agg [.lit (.string [105, 110, 118, 97, 108, 105, 100, 32, 115, 121, 110, 116, 97, 120])]))) (h : Tryz.prog.typeName? 3 u = some nm) : u = 153 := by
  refine typeName_ptr_named (P := Tryz.prog) (nm := "errors.errorString") (tp := 153) (by kernel_rfl) (by kernel_rfl) (by decide) u ?_
  have e : ifName Rows.laid_strconv_ErrSyntax = nm := congrArg ifName hn
  rw [h, ← e]
  exact congrArg some (by decide +kernel)
theorem env_of {w : World} (h : laidMetH Tryz.prog LL w) (hsh : w.ShapedOpen Tryz.prog) : Env w := by
  have ht := h.filter (fun x => x.1 == "internal/strconv.uint64pow10")
  have e : (LL.filter fun x => x.1 == "internal/strconv.uint64pow10") = [("internal/strconv.uint64pow10", Rows.laid_internal_strconv_uint64pow10)] := rfl
  rw [e, tabEq] at ht
  have ht : laidMet Tryz.prog [("internal/strconv.uint64pow10", Lib.tabData .u64 Lib.pow10Tab)] w := ht
  have h1 := h.filter (fun x => x.1 == "strconv.ErrSyntax")
  have e1 : (LL.filter fun x => x.1 == "strconv.ErrSyntax") = [("strconv.ErrSyntax", Rows.laid_strconv_ErrSyntax)] := rfl
  rw [e1] at h1
  have h1 : laidMet Tryz.prog [("strconv.ErrSyntax", Rows.laid_strconv_ErrSyntax)] w := h1
  have h2 := h.filter (fun x => x.1 == "strconv.ErrRange")
  have e2 : (LL.filter fun x => x.1 == "strconv.ErrRange") = [("strconv.ErrRange", Rows.laid_strconv_ErrRange)] := rfl
  rw [e2] at h2
  have h2 : laidMet Tryz.prog [("strconv.ErrRange", Rows.laid_strconv_ErrRange)] w := h2
  have g1 : Tryz.prog.globalNamed "strconv.ErrSyntax" = some 1 := by kernel_rfl
  have g2 : Tryz.prog.globalNamed "strconv.ErrRange" = some 2 := by kernel_rfl
  have c115 : Tryz.prog.cellsOf 155 = 1 := by kernel_rfl
  have c9 : Tryz.prog.cellsOf 9 = 1 := by kernel_rfl
  obtain ⟨a1, _, hv1, -, -, -⟩ := laid_sentinel (n := "strconv.ErrSyntax") (text := [105, 110, 118, 97, 108, 105, 100, 32, 115, 121, 110, 116, 97, 120]) (tp := 153) h1 g1 (by kernel_rfl) Tryz.underlying69 (fun u hu => rowErr u _ rfl hu) Tryz.underlying153 Tryz.underlying155 rfl rfl Tryz.underlying9 c115 c9
  obtain ⟨a2, _, hv2, -, -, -⟩ := laid_sentinel (n := "strconv.ErrRange") (text := [118, 97, 108, 117, 101, 32, 111, 117, 116, 32, 111, 102, 32, 114, 97, 110, 103, 101]) (tp := 153) h2 g2 (by kernel_rfl) Tryz.underlying69 (fun u hu => rowErr u _ rfl hu) Tryz.underlying153 Tryz.underlying155 rfl rfl Tryz.underlying9 c115 c9
  have k1 : w.cell? ⟨1, 0, none⟩ = some (.iface 153 (.pointer (some a1))) := by have h0 := World.var?_cell g1 hv1 0; simpa using h0
  have k2 : w.cell? ⟨2, 0, none⟩ = some (.iface 153 (.pointer (some a2))) := by have h0 := World.var?_cell g2 hv2 0; simpa using h0
  refine ⟨Lib.tabIs_of_head (g := 5) (t := 159) (e := 122) (n := 20) (by kernel_rfl) (by kernel_rfl) (by kernel_rfl) (by kernel_rfl) (by kernel_rfl) (by kernel_rfl) ht, ?_, ?_, ⟨_, _, k1⟩, ⟨_, _, k2⟩⟩
  · have := World.block_lt_of_cell? w ⟨2, 0, none⟩ k2
    have : 2 < w.heap.size := this
    omega
  · exact cell_of_shapedOpen_int (P := Tryz.prog) (g := 0) (t := 3) (zero := #[.int .i64 0]) hsh (of_decide_eq_true (by kernel_rfl)) (by kernel_rfl) rfl (by kernel_rfl) (by kernel_rfl) Tryz.underlying3
end Go.Proofs.YteoghladllohjaaGreatDoor
