/- Tones in memory; pitch.Check. -/
import Derived.Test.YteoghladllohjaaGreatDoorProg
import Derived.Test.YteoghladllohjaaGreatDoorP3
import Derived.Test.YteoghladllohjaaGreatDoorRel
import Derived.WalkKit
import Derived.WalkSpells
import Derived.WalkLawsBesides
import Derived.Handy
import Derived.Lib.Hide
import Derived.IntWalk
import Derived.Deep.DeepCutAuto
import Derived.Deep.CutBlock
import Derived.Deep.AppendLies
import Derived.Deep.RegionHeld3
import Derived.RegionTactic
import Derived.ChangeAlike
import Derived.Deep.QuietTactic
import Derived.BigQuiet
import Derived.Lib.QuietBelow
import Derived.Laws.OwnMore
import Derived.OwnWalk
namespace Go.Proofs.YteoghladllohjaaGreatDoor
open Go.RowKit Go.Sort

theorem bcell {W w1 : World} (hb : Below W.heap.size W w1) : (∀ b o, b < W.heap.size → w1.cell? ⟨b, o, none⟩ = W.cell? ⟨b, o, none⟩) ∧ (∀ b o, b < W.heap.size → w1.frozen? ⟨b, o, none⟩ = W.frozen? ⟨b, o, none⟩) :=
  ⟨fun b o h => hb.cell (p := ⟨b, o, none⟩) h, fun b o h => hb.frozen (p := ⟨b, o, none⟩) h⟩
theorem ret_int {k : IntKind} {a b : Int} (h : a = b) : Ending.returned (.int k a) = .returned (.int k b) := by rw [h]
theorem OwnRow.below {w w' : World} {base : Nat} {e : TypeId} {size : Nat} {v : Value} {n : Nat} {xs : List Value} (h : w.ownsRow base e size v n xs) (hb : Below w.heap.size w w') : w'.ownsRow base e size v n xs :=
  h.kept (row := none) ⟨hb.os, hb.tape, hb.output, hb.size, fun i hi _ => hb.block i hi⟩ (by cases v.ownBlock <;> simp)

def encT (t : Tone) : List Value := [.int .i64 t.len, .int .i64 t.p.st, .int .i64 t.p.al, .int .i64 t.p.oc, .bool t.rest]
abbrev pitV (p : Pit) : Value := .agg #[.int .i64 p.st, .int .i64 p.al, .int .i64 p.oc]
abbrev toneV (t : Tone) : Value := .agg #[.int .i64 t.len, .int .i64 t.p.st, .int .i64 t.p.al, .int .i64 t.p.oc, .bool t.rest]

/-- The five cells of a tone. -/
def AtT (w : World) (b o : Nat) (t : Tone) : Prop :=
  w.cell? ⟨b, o, none⟩ = some (.int .i64 t.len) ∧ w.cell? ⟨b, o + 1, none⟩ = some (.int .i64 t.p.st) ∧ w.cell? ⟨b, o + 2, none⟩ = some (.int .i64 t.p.al) ∧ w.cell? ⟨b, o + 3, none⟩ = some (.int .i64 t.p.oc) ∧ w.cell? ⟨b, o + 4, none⟩ = some (.bool t.rest)
theorem AtT.below {w w' : World} {B b o : Nat} {t : Tone} (h : AtT w b o t) (hb : Below B w w') (hB : b < B) : AtT w' b o t :=
  ⟨(hb.cell (p := ⟨b, _, none⟩) hB).trans h.1, (hb.cell (p := ⟨b, _, none⟩) hB).trans h.2.1, (hb.cell (p := ⟨b, _, none⟩) hB).trans h.2.2.1, (hb.cell (p := ⟨b, _, none⟩) hB).trans h.2.2.2.1, (hb.cell (p := ⟨b, _, none⟩) hB).trans h.2.2.2.2⟩
/-- From an offset of a block on lie these tones. -/
def RdT (w : World) (b off : Nat) (l : List Tone) : Prop := ∀ k, k < l.length → AtT w b (off + k * 5) (nth l k)
theorem RdT.below {w w' : World} {B b off : Nat} {l : List Tone} (h : RdT w b off l) (hb : Below B w w') (hB : b < B) : RdT w' b off l :=
  fun k hk => (h k hk).below hb hB
/-- A slice of these tones. -/
def SlT (w : World) (A : Option Addr) (l : List Tone) : Prop := l = [] ∨ (0 < l.length ∧ ∃ b off, A = some ⟨b, off, none⟩ ∧ b < w.heap.size ∧ RdT w b off l)
theorem SlT.below {w w' : World} {A : Option Addr} {l : List Tone} (h : SlT w A l) (hb : Below w.heap.size w w') : SlT w' A l := by
  rcases h with h | ⟨h0, b, off, rfl, hl, hr⟩
  · exact .inl h
  · exact .inr ⟨h0, b, off, rfl, Nat.lt_of_lt_of_le hl hb.size, hr.below hb hl⟩
theorem SlT.some {w : World} {A : Option Addr} {l : List Tone} (h : SlT w A l) {k : Nat} (hk : k < l.length) : ∃ b off, A = Option.some ⟨b, off, none⟩ ∧ b < w.heap.size ∧ RdT w b off l := by
  rcases h with rfl | ⟨_, h⟩
  · simp at hk
  · exact h
theorem SlT.intro {w : World} {b off : Nat} {l : List Tone} (hb : b < w.heap.size) (h : RdT w b off l) : SlT w (Option.some ⟨b, off, none⟩) l := by
  by_cases h0 : 0 < l.length
  · exact .inr ⟨h0, b, off, rfl, hb, h⟩
  · exact .inl (List.eq_nil_of_length_eq_zero (by omega))

/-! ### pitch.number, pitch.Check -/
theorem semiIx (n : Int) (h0 : 0 ≤ n) (h6 : n ≤ 6) (W : World) : (Instr.index 75 (.agg #[.int .i64 0, .int .i64 2, .int .i64 4, .int .i64 5, .int .i64 7, .int .i64 9, .int .i64 11]) (.int .i64 n)).run Tryz.prog W = .ok (.int .i64 (semiF n)) W := by
  have h : ∀ (n v : Int), (n, v) ∈ [((0 : Int), (0 : Int)), (1, 2), (2, 4), (3, 5), (4, 7), (5, 9), (6, 11)] → (Instr.index 75 (.agg #[.int .i64 0, .int .i64 2, .int .i64 4, .int .i64 5, .int .i64 7, .int .i64 9, .int .i64 11]) (.int .i64 n)).run Tryz.prog W = .ok (.int .i64 v) W := by
    intro n v h
    simp only [List.mem_cons, Prod.mk.injEq, List.not_mem_nil, or_false] at h
    rcases h with ⟨rfl, rfl⟩ | ⟨rfl, rfl⟩ | ⟨rfl, rfl⟩ | ⟨rfl, rfl⟩ | ⟨rfl, rfl⟩ | ⟨rfl, rfl⟩ | ⟨rfl, rfl⟩ <;> kernel_rfl
  apply h
  have h : n = 0 ∨ n = 1 ∨ n = 2 ∨ n = 3 ∨ n = 4 ∨ n = 5 ∨ n = 6 := by omega
  rcases h with rfl | rfl | rfl | rfl | rfl | rfl | rfl <;> simp [semiF]
theorem semitonesC (w : World) : Calls Tryz.prog 42 #[] w fun e w' => e = .returned (.agg #[.int .i64 0, .int .i64 2, .int .i64 4, .int .i64 5, .int .i64 7, .int .i64 9, .int .i64 11]) ∧ Below w.heap.size w w' := by
  go_enter Tryz.func42, Tryz.ntmps42
  go_wp2
  go_returns
  exact ⟨rfl, by go_grown⟩
set_option maxHeartbeats 1000000 in
theorem number (s a o : Int) (w : World) (h1 : 0 ≤ s) (h2 : s ≤ 6) (h3 : -2 ≤ a) (h4 : a ≤ 2) (h5 : -1 ≤ o) (h6 : o ≤ 9) :
    Calls Tryz.prog 32 #[.agg #[.int .i64 s, .int .i64 a, .int .i64 o]] w fun e w' => e = .returned (.int .i64 (numberF s a o)) ∧ Below w.heap.size w w' := by
  have ix := semiIx s h1 h2
  obtain ⟨b1, b2⟩ := semiF_bd s
  go_enter Tryz.func32, Tryz.ntmps32
  go_wp2
  go_region_held3 (fun w' => w'.cell? ⟨w.heap.size, 0, none⟩ = some (.int .i64 s) ∧ w'.cell? ⟨w.heap.size, 1, none⟩ = some (.int .i64 a) ∧ w'.cell? ⟨w.heap.size, 2, none⟩ = some (.int .i64 o)) (simp [*, go_sem])
    (first | (go_at_call 42; refine (semitonesC _).mono ?_; rintro e w' ⟨rfl, hb⟩; obtain ⟨hc, hf⟩ := bcell hb))
  go_wp2
  go_ret
  exact ⟨ret_int (by unfold numberF; simp only [IntKind.wrap_i64]; omega), ((Below.refl _ _).alloc (Nat.le_refl _) _).drew.trans (hb.mono (by simp))⟩
set_option maxHeartbeats 1000000 in
theorem pitchCheck (s a o : Int) (w : World) :
    Calls Tryz.prog 15 #[.agg #[.int .i64 s, .int .i64 a, .int .i64 o]] w fun e w' => e = .returned (.int .i64 (pitchCheckF s a o)) ∧ Below w.heap.size w w' := by
  have hc : s < 0 ∨ (0 ≤ s ∧ 6 < s) ∨ (0 ≤ s ∧ s ≤ 6 ∧ a < -2) ∨ (0 ≤ s ∧ s ≤ 6 ∧ -2 ≤ a ∧ 2 < a) ∨ (0 ≤ s ∧ s ≤ 6 ∧ -2 ≤ a ∧ a ≤ 2 ∧ o < -1) ∨ (0 ≤ s ∧ s ≤ 6 ∧ -2 ≤ a ∧ a ≤ 2 ∧ -1 ≤ o ∧ 9 < o) ∨ (0 ≤ s ∧ s ≤ 6 ∧ -2 ≤ a ∧ a ≤ 2 ∧ -1 ≤ o ∧ o ≤ 9) := by omega
  rcases hc with h1 | ⟨h1, h2⟩ | ⟨h1, h2, h3⟩ | ⟨h1, h2, h3, h4⟩ | ⟨h1, h2, h3, h4, h5⟩ | ⟨h1, h2, h3, h4, h5, h6⟩ | ⟨h1, h2, h3, h4, h5, h6⟩
  iterate 6
    · have hr := Lib.hid (pitchCheckF_out (s := s) (a := a) (o := o) (by omega))
      go_enter Tryz.func15, Tryz.ntmps15
      go_wp2
      go_ret
      exact ⟨ret_int hr.out.symm, by go_grown⟩
  · go_enter Tryz.func15, Tryz.ntmps15
    go_wp2_with (go_at_call 32; refine (number _ _ _ _ (by omega) (by omega) (by omega) (by omega) (by omega) (by omega)).mono ?_; rintro e w' ⟨rfl, hb⟩)
    all_goals
      go_ret
      exact ⟨ret_int (by unfold pitchCheckF; rw [if_neg (by omega)]; split <;> omega), ((Below.refl _ _).alloc (Nat.le_refl _) _).trans (hb.mono (by simp))⟩
end Go.Proofs.YteoghladllohjaaGreatDoor
