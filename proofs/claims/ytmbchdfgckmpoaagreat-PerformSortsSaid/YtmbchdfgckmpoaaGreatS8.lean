/- swapRangeCmpFunc at played notes: two blocks of a row are exchanged. -/
import Derived.Test.YtmbchdfgckmpoaaGreatS5
import Derived.Test.YtmbchdfgckmpoaaGreatS7
namespace Go.Proofs.YtmbchdfgckmpoaaGreat
open Go.RowKit Go.Sort

set_option maxHeartbeats 8000000 in
set_option maxRecDepth 20000 in
theorem swapRangeC (L : List Ply) (g cap n a b c base : Nat) (f : Value) (w : World) (hown : w.ownsRow base 30 7 (.slice (some ⟨g, 0, none⟩) n cap) n (cellsY L)) (hbase : base ≤ g) (hn : L.length = n) (h30 : n ≤ 1000) (hab : a + c ≤ b) (hbn : b + c ≤ n) :
    Calls Tryz.prog 206 #[.slice (some ⟨g, 0, none⟩) n cap, .int .i64 a, .int .i64 b, .int .i64 c, f] w fun r w' => r = .returned (.tuple #[]) ∧ ∃ L', (∀ q, nth L' q = swr (nth L) a b c q) ∧ L.Perm L' ∧ w'.ownsRow base 30 7 (.slice (some ⟨g, 0, none⟩) n cap) n (cellsY L') ∧ Below base w w' := by
  go_enter Tryz.func206, Tryz.ntmps206
  go_wp2_with fail
  go_loopw [10] (fun iv wr => ∃ (i : Nat) (M : List Ply), iv = .int .i64 i ∧ i ≤ c ∧ Aside (∀ q, nth M q = swr (nth L) a b i q) ∧ Aside (L.Perm M) ∧ Aside (wr.ownsRow base 30 7 (.slice (some ⟨g, 0, none⟩) n cap) n (cellsY M)) ∧ Below base w wr) (fun iv _ => c - (intOf iv).toNat)
  case atStart => exact ⟨0, L, rfl, by omega, (show Aside _ from fun q => (swr_zero _ _ _ _).symm), (show Aside _ from .refl _), (show Aside _ from hown), Below.refl _ _⟩
  case round =>
    obtain ⟨i, M, rfl, hi, hA, hP, hO, hB⟩ := hrel
    clear hown
    have hA := hA.out
    have hP := hP.out
    have hO := hO.out
    have hln := hP.length_eq
    have hgl : g < wr.heap.size := (hO.lt g rfl).2
    by_cases hlt : i < c
    · skip
      obtain ⟨x0, x1, x2, x3, x4, x5, x6⟩ := own_at hO (by omega) (k := a + i) (by omega)
      obtain ⟨y0, y1, y2, y3, y4, y5, y6⟩ := own_at hO (by omega) (k := b + i) (by omega)
      have fx0 := hO.frozenAt ((a + i) * 7)
      have fx1 := hO.frozenAt ((a + i) * 7 + 1)
      have fx2 := hO.frozenAt ((a + i) * 7 + 2)
      have fx3 := hO.frozenAt ((a + i) * 7 + 3)
      have fx4 := hO.frozenAt ((a + i) * 7 + 4)
      have fx5 := hO.frozenAt ((a + i) * 7 + 5)
      have fx6 := hO.frozenAt ((a + i) * 7 + 6)
      have fy0 := hO.frozenAt ((b + i) * 7)
      have fy1 := hO.frozenAt ((b + i) * 7 + 1)
      have fy2 := hO.frozenAt ((b + i) * 7 + 2)
      have fy3 := hO.frozenAt ((b + i) * 7 + 3)
      have fy4 := hO.frozenAt ((b + i) * 7 + 4)
      have fy5 := hO.frozenAt ((b + i) * 7 + 5)
      have fy6 := hO.frozenAt ((b + i) * 7 + 6)

      have hst := swr_step hA hlt hab (by omega)
      have hsp := hP.trans (swapL_perm (l := M) (i := a + i) (j := b + i) (by omega) (by omega))
      have hso := own_swap hO (a + i) (b + i)
      have hsb : Below base w (swapW wr g (a + i) (b + i) M) := putI_below (putI_below hB hbase _ _) hbase _ _
      unfold swapW at hso hsb
      generalize swapL M (a + i) (b + i) = M2 at *
      generalize nth M (a + i) = x at *
      generalize nth M (b + i) = y at *
      obtain ⟨w2, hw2⟩ : ∃ w2, w2 = ((((((((((((((wr.setCell ⟨g, (a + i) * 7, none⟩ (.int .i64 y.o)).setCell ⟨g, (a + i) * 7 + 1, none⟩ (.int .i64 y.f)).setCell ⟨g, (a + i) * 7 + 2, none⟩ (.int .i64 y.n)).setCell ⟨g, (a + i) * 7 + 3, none⟩ (.int .i64 y.v)).setCell ⟨g, (a + i) * 7 + 4, none⟩ (.int .i64 y.p)).setCell ⟨g, (a + i) * 7 + 5, none⟩ (.int .i64 y.s)).setCell ⟨g, (a + i) * 7 + 6, none⟩ (.int .i64 y.e)).setCell ⟨g, (b + i) * 7, none⟩ (.int .i64 x.o)).setCell ⟨g, (b + i) * 7 + 1, none⟩ (.int .i64 x.f)).setCell ⟨g, (b + i) * 7 + 2, none⟩ (.int .i64 x.n)).setCell ⟨g, (b + i) * 7 + 3, none⟩ (.int .i64 x.v)).setCell ⟨g, (b + i) * 7 + 4, none⟩ (.int .i64 x.p)).setCell ⟨g, (b + i) * 7 + 5, none⟩ (.int .i64 x.s)).setCell ⟨g, (b + i) * 7 + 6, none⟩ (.int .i64 x.e)) := ⟨_, rfl⟩
      have hso : w2.ownsRow base 30 7 (.slice (some ⟨g, 0, none⟩) n cap) n (cellsY M2) := by rw [hw2]; exact hso
      have hsb : Below base w w2 := by rw [hw2]; exact hsb
      have HX := Lib.hid (And.intro hst (And.intro hsp (And.intro hso hsb)))
      have hW := Lib.hid hw2
      clear hA hP hO hst hsp hso hsb hw2
      go_wp2_with fail
      go_region
      rw [← hW.out]
      clear x0 x1 x2 x3 x4 x5 x6 y0 y1 y2 y3 y4 y5 y6 fx0 fx1 fx2 fx3 fx4 fx5 fx6 fy0 fy1 fy2 fy3 fy4 fy5 fy6 hW
      go_wp2_with fail
      go_roundw
      case rel => obtain ⟨h1, h2, h3, h4⟩ := HX.out; exact ⟨i + 1, M2, by go_num, by omega, (show Aside _ from h1), (show Aside _ from h2), (show Aside _ from h3.drew), h4.drew⟩
      case measure => simp [intOf]; omega
    · obtain rfl : i = c := by omega
      have HX := Lib.hid (And.intro hA (And.intro hP hO))
      clear hA hP hO
      go_wp2_with fail
      go_end0
      obtain ⟨h1, h2, h3⟩ := HX.out
      exact ⟨rfl, M, h1, h2, h3, hB⟩
end Go.Proofs.YtmbchdfgckmpoaaGreat
