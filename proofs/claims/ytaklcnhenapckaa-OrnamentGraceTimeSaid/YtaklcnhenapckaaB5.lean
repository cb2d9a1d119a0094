/- Contracts: same. -/
import Derived.Test.YtaklcnhenapckaaB1
import Derived.Deep.QuietTactic
import Derived.BigQuiet
namespace Go.Proofs.Ytaklcnhenapckaa
open Go.RowKit

/-- From slot a of a block on, n notes with the numbers A, B, C. -/
def Rd3 (w : World) (g : Nat) (n : Nat) (A B C : Nat → Int) : Prop :=
  ∀ k, k < n → w.cell? ⟨g, k * 3, none⟩ = some (.int .i64 (A k)) ∧ w.cell? ⟨g, k * 3 + 1, none⟩ = some (.int .i64 (B k)) ∧ w.cell? ⟨g, k * 3 + 2, none⟩ = some (.int .i64 (C k))

theorem eq36 (a b c x y z : Int) (w : World) : (Op.equalIn 10000 36 (.agg #[.int .i64 a, .int .i64 b, .int .i64 c]) (.agg #[.int .i64 x, .int .i64 y, .int .i64 z])).run Try.prog w = .ok (a == x && (b == y && c == z)) w := by
  have u3 := Try.underlying3
  have a3 := Try.isAgg3
  have z3 := Try.sizeOf3
  have hS : Try.prog.underlying 36 = some (.struct (Try.prog.fieldsOf 36)) := by kernel_rfl
  rw [show (10000 : Nat) = 9999 + 1 from rfl, run_equalIn_agg w 9999 36 _ _ hS (by kernel_rfl)]
  simp only [Program.fieldsOf, Try.underlying36]
  go_simp
  by_cases h1 : a = x <;> by_cases h2 : b = y <;> by_cases h3 : c = z <;> simp [h1, h2, h3]

attribute [local go_sem] eq36

set_option maxHeartbeats 2000000 in
/-- same of two slices that read as one list. -/
theorem same_eq (g g' cap cap' n : Nat) (A B C : Nat → Int) (hl : n ≤ 100000) (w : World) (h1 : Rd3 w g n A B C) (h2 : Rd3 w g' n A B C) :
    Calls Try.prog 15 #[.slice (some ⟨g, 0, none⟩) n cap, .slice (some ⟨g', 0, none⟩) n cap'] w fun e w' => e = .returned (.bool true) ∧ Below w.heap.size w w' := by
  have h1 := Lib.hid h1
  have h2 := Lib.hid h2
  go_enter Try.func15, Try.ntmps15
  go_wp2_with fail
  go_loopw [5] (fun i wr => ∃ k : Nat, k ≤ n ∧ i = .int .i64 k ∧ ∃ m, wr = w.drewN m) (fun i _ => n - (intOf i).toNat)
  case atStart => exact ⟨0, by omega, rfl, 0, rfl⟩
  case round =>
    obtain ⟨k, hk, rfl, m, rfl⟩ := hrel
    by_cases hlt : k < n
    · obtain ⟨a1, a2, a3⟩ := h1.out k hlt
      obtain ⟨b1, b2, b3⟩ := h2.out k hlt
      go_wp2_with fail
      go_quiet (fail)
      go_wp2
      go_roundw
      case rel => exact ⟨k + 1, by omega, by go_num, _, rfl⟩
      case measure => simp [intOf]; omega
    · obtain rfl : k = n := by omega
      go_wp2
      go_ret
      exact ⟨rfl, below_drewN (Below.refl _ _) _⟩

/-- What is owned reads so. -/
theorem rd3_of_own {w : World} {B g cap n : Nat} {l : List (Int × Int × Int)} (h : w.ownsRow B 36 3 (.slice (some ⟨g, 0, none⟩) n cap) n (cellsN l)) (hn : n = l.length) :
    Rd3 w g n (fun k => (l.getD k (0, 0, 0)).1) (fun k => (l.getD k (0, 0, 0)).2.1) (fun k => (l.getD k (0, 0, 0)).2.2) := by
  have hc := h.cells (g := g) rfl
  have at_ : ∀ (l : List (Int × Int × Int)) (k : Nat), k < l.length → (cellsN l)[k * 3]? = some (.int .i64 (l.getD k (0, 0, 0)).1) ∧ (cellsN l)[k * 3 + 1]? = some (.int .i64 (l.getD k (0, 0, 0)).2.1) ∧ (cellsN l)[k * 3 + 2]? = some (.int .i64 (l.getD k (0, 0, 0)).2.2) := by
    intro l
    induction l with
    | nil => intro k hk; simp at hk
    | cons x l ih =>
      intro k hk
      cases k with
      | zero => simp [cellsN]
      | succ k =>
        have := ih k (by simpa using hk)
        have e1 : (k + 1) * 3 = k * 3 + 3 := by omega
        simpa [cellsN, e1] using this
  have add_ : ∀ j, ((⟨g, 0, none⟩ : Addr).add j) = ⟨g, j, none⟩ := fun j => by unfold Addr.add; split <;> simp_all
  intro k hk
  obtain ⟨e1, e2, e3⟩ := at_ l k (by omega)
  have f1 := hc _ _ e1
  have f2 := hc _ _ e2
  have f3 := hc _ _ e3
  rw [add_] at f1 f2 f3
  exact ⟨f1, f2, f3⟩

theorem Rd3.below {w w' : World} {g n : Nat} {A B C : Nat → Int} (h : Rd3 w g n A B C) (hb : Below w.heap.size w w') : Rd3 w' g n A B C := by
  intro k hk
  obtain ⟨e1, e2, e3⟩ := h k hk
  have hg : g < w.heap.size := World.block_lt_of_cell? w _ e1
  exact ⟨(hb.cell hg).trans e1, (hb.cell hg).trans e2, (hb.cell hg).trans e3⟩
end Go.Proofs.Ytaklcnhenapckaa
