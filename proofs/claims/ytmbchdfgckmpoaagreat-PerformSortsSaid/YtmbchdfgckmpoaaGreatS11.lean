/- symMergeCmpFunc at played notes, one element on the left. -/
import Derived.Test.YtmbchdfgckmpoaaGreatS6
namespace Go.Proofs.YtmbchdfgckmpoaaGreat
open Go.RowKit Go.Sort

set_option maxHeartbeats 8000000 in
set_option maxRecDepth 20000 in
theorem symLeft (L : List Ply) (g cap n a m b base : Nat) (w : World) (hown : w.ownsRow base 30 7 (.slice (some ⟨g, 0, none⟩) n cap) n (cellsY L)) (hbase : base ≤ g) (hn : L.length = n) (h30 : n ≤ 1000) (hm : m = a + 1) (hmb : m < b) (hbn : b ≤ n) (hbw : base ≤ w.heap.size) (hR : AscR L m b) :
    Calls Tryz.prog 74 #[.slice (some ⟨g, 0, none⟩) n cap, .int .i64 a, .int .i64 m, .int .i64 b, .func (.func 9) #[] #[]] w fun r w' => r = .returned (.tuple #[]) ∧ ∃ L', Same a b L L' ∧ AscR L' a b ∧ w'.ownsRow base 30 7 (.slice (some ⟨g, 0, none⟩) n cap) n (cellsY L') ∧ Below base w w' := by
  subst hm
  have t1 : (((a + 1 : Nat) : Int) - (a : Int) == 1) = true := by simp; omega
  simp only [Int.natCast_add, Int.natCast_one] at t1 ⊢
  go_enter Tryz.func74, Tryz.ntmps74
  go_wp2_with fail
  go_loopw [10, 11] (fun iv jv wr => ∃ (i j : Nat), iv = .int .i64 i ∧ jv = .int .i64 j ∧ a + 1 ≤ i ∧ i ≤ j ∧ j ≤ b ∧ Aside (∀ q, a + 1 ≤ q → q < i → cmpY (nth L q) (nth L a) < 0) ∧ Aside (∀ q, j ≤ q → q < b → 0 ≤ cmpY (nth L q) (nth L a)) ∧ Below w.heap.size w wr) (fun iv jv _ => (intOf jv).toNat - (intOf iv).toNat)
  case atStart => exact ⟨a + 1, b, by simp, rfl, by omega, by omega, by omega, (show Aside _ from fun q h1 h2 => by omega), (show Aside _ from fun q h1 h2 => by omega), Below.refl _ _⟩
  case round =>
    obtain ⟨i, j, rfl, rfl, hai, hij, hjb, hlo, hhi, hB⟩ := hrel
    have hlo := hlo.out
    have hhi := hhi.out
    have hO := OwnRow.below hown hB
    have hgl : g < wr.heap.size := (hO.lt g rfl).2
    by_cases hlt : i < j
    · obtain ⟨h, hh⟩ : ∃ h, h = (i + j) / 2 := ⟨_, rfl⟩
      have w1 : IntKind.u64.wrap ((i : Int) + (j : Int)) = (i : Int) + (j : Int) := IntWalk.u64_in _ (by omega)
      have w2 : ((i : Int) + (j : Int)) / 2 = (h : Int) := by omega
      have w3 : IntKind.i64.wrap (h : Int) = (h : Int) := IntWalk.i64_in _ (by omega)
      have hhi1 : i ≤ h := by omega
      have hhj1 : h < j := by omega
      clear hh
      have hhn : (h : Int) < (n : Int) := by omega
      have han : (a : Int) < (n : Int) := by omega
      obtain ⟨x0, x1, x2, x3, x4, x5, x6⟩ := own_at hO hn (k := h) (by omega)
      obtain ⟨y0, y1, y2, y3, y4, y5, y6⟩ := own_at hO hn (k := a) (by omega)
      have hc := compareC (nth L h) (nth L a)
      have hRh := fun q => hR q h
      have hRh2 := fun q => hR h q
      have hz1 := fun q => cmpY_le_lt (x := nth L q) (y := nth L h) (z := nth L a)
      have hz2 := fun q => cmpY_trans (x := nth L a) (y := nth L h) (z := nth L q)
      have hz3 := cmpY_neg (nth L h) (nth L a)
      have hz4 := fun q => cmpY_neg (nth L q) (nth L a)
      have HX := Lib.hid (And.intro hlo (And.intro hhi (And.intro hRh (And.intro hRh2 (And.intro hz1 (And.intro hz2 (And.intro hz3 hz4)))))))
      clear hlo hhi hRh hRh2 hz1 hz2 hz3 hz4 hO
      generalize nth L h = x at *
      generalize nth L a = y at *
      go_upto_region 5 with (fail)
      have X0 := cell_regrown x0
      have X1 := cell_regrown x1
      have X2 := cell_regrown x2
      have X3 := cell_regrown x3
      have X4 := cell_regrown x4
      have X5 := cell_regrown x5
      have X6 := cell_regrown x6
      have Y0 := cell_regrown y0
      have Y1 := cell_regrown y1
      have Y2 := cell_regrown y2
      have Y3 := cell_regrown y3
      have Y4 := cell_regrown y4
      have Y5 := cell_regrown y5
      have Y6 := cell_regrown y6
      have k1 := fun d os => (hc (grow (redrawn wr d) os)).regrown_of
      clear x0 x1 x2 x3 x4 x5 x6 y0 y1 y2 y3 y4 y5 y6 hc
      refine wp_region_quiet_below (by kernel_rfl) (by kernel_rfl) ?_
      repeat (quiet_step ((first | (go_at_fn 9; (with_reducible exact k1 _ _)) | (go_at_call 9; (with_reducible exact k1 _ _)))))
      refine wpQuiet_nil ?_
      intro _ hw'
      obtain ⟨⟨dq, osq⟩, hw''⟩ := hw'
      subst hw''
      clear X0 X1 X2 X3 X4 X5 X6 Y0 Y1 Y2 Y3 Y4 Y5 Y6 k1
      have hbq := below_regrown wr dq osq
      have hB := hB.trans (hbq.mono hB.size)
      clear hbq
      generalize grow (redrawn wr dq) osq = v at *
      by_cases hl2 : cmpY x y < 0
      · have hl3 : decide (cmpY x y < 0) = true := decide_eq_true hl2
        go_wp2_with fail
        go_roundw
        case rel =>
          obtain ⟨k1, k2, k3, k4, k5, k6, k7, k8⟩ := HX.out
          exact ⟨h + 1, j, by go_num, rfl, by omega, by omega, by omega, (show Aside _ from fun q h1 h2 => k5 q (k3 q h1 (by omega) (by omega)) hl2), (show Aside _ from k2), hB⟩
        case measure => simp [intOf]; omega
      · have hl3 : decide (cmpY x y < 0) = false := decide_eq_false hl2
        go_wp2_with fail
        go_roundw
        case rel =>
          obtain ⟨k1, k2, k3, k4, k5, k6, k7, k8⟩ := HX.out
          exact ⟨i, h, rfl, rfl, by omega, by omega, by omega, (show Aside _ from k1), (show Aside _ from fun q h1 h2 => by
            have e1 := k6 q (by omega) (k4 q (by omega) h1 h2)
            have e2 := k8 q
            omega), hB⟩
        case measure => simp [intOf]; omega
    · obtain rfl : i = j := by omega
      have hasc := fun (M : List Ply) (hM : ∀ k, nth M k = mvR (nth L) a (i - 1) k) => mvR_asc hM hai hjb hlo hhi hR
      have hO0 := hO
      have hasc := Lib.hid hasc
      have hOw := Lib.hid hO
      clear hlo hhi hO hO0 hown hR
      go_wp2_with fail
      go_loopw [13] (fun kv wq => ∃ (k : Nat) (M : List Ply), kv = .int .i64 k ∧ a ≤ k ∧ k ≤ i - 1 ∧ Aside (∀ q, nth M q = mvR (nth L) a k q) ∧ Aside (L.Perm M) ∧ Aside (wq.ownsRow base 30 7 (.slice (some ⟨g, 0, none⟩) n cap) n (cellsY M)) ∧ Below base w wq) (fun kv _ => i - (intOf kv).toNat)
      case atStart => exact ⟨a, L, rfl, by omega, by omega, (show Aside _ from fun q => (mvR_zero _ _ _).symm), (show Aside _ from .refl _), (show Aside _ from hOw.out), hB.mono hbw⟩
      case round =>
        clear hOw hB hgl
        obtain ⟨k, M, rfl, hak, hki, hA, hP, hO, hB⟩ := hrel
        have hA := hA.out
        have hP := hP.out
        have hO := hO.out
        have hln := hP.length_eq
        have hgl : g < wr.heap.size := (hO.lt g rfl).2
        by_cases hlt2 : k < i - 1
        · have hz : (k : Int) < (i : Int) - 1 := by omega
          have et : ((k : Int) + 1).toNat = k + 1 := by omega
          have hst := mvR_step hA hak (by omega)
          have hsp := hP.trans (swapL_perm (l := M) (i := k) (j := k + 1) (by omega) (by omega))
          obtain ⟨x0, x1, x2, x3, x4, x5, x6⟩ := own_at hO (by omega) (k := k) (by omega)
          obtain ⟨y0, y1, y2, y3, y4, y5, y6⟩ := own_at hO (by omega) (k := k + 1) (by omega)
          have fx0 := hO.frozenAt ((k) * 7)
          have fx1 := hO.frozenAt ((k) * 7 + 1)
          have fx2 := hO.frozenAt ((k) * 7 + 2)
          have fx3 := hO.frozenAt ((k) * 7 + 3)
          have fx4 := hO.frozenAt ((k) * 7 + 4)
          have fx5 := hO.frozenAt ((k) * 7 + 5)
          have fx6 := hO.frozenAt ((k) * 7 + 6)
          have fy0 := hO.frozenAt ((k + 1) * 7)
          have fy1 := hO.frozenAt ((k + 1) * 7 + 1)
          have fy2 := hO.frozenAt ((k + 1) * 7 + 2)
          have fy3 := hO.frozenAt ((k + 1) * 7 + 3)
          have fy4 := hO.frozenAt ((k + 1) * 7 + 4)
          have fy5 := hO.frozenAt ((k + 1) * 7 + 5)
          have fy6 := hO.frozenAt ((k + 1) * 7 + 6)
          have hso := own_swap hO (k) (k + 1)
          have hsb : Below base w (swapW wr g (k) (k + 1) M) := putI_below (putI_below hB hbase _ _) hbase _ _
          unfold swapW at hso hsb
          generalize swapL M (k) (k + 1) = M2 at *
          generalize nth M (k) = x at *
          generalize nth M (k + 1) = y at *
          obtain ⟨w2, hw2⟩ : ∃ w2, w2 = ((((((((((((((wr.setCell ⟨g, (k) * 7, none⟩ (.int .i64 y.o)).setCell ⟨g, (k) * 7 + 1, none⟩ (.int .i64 y.f)).setCell ⟨g, (k) * 7 + 2, none⟩ (.int .i64 y.n)).setCell ⟨g, (k) * 7 + 3, none⟩ (.int .i64 y.v)).setCell ⟨g, (k) * 7 + 4, none⟩ (.int .i64 y.p)).setCell ⟨g, (k) * 7 + 5, none⟩ (.int .i64 y.s)).setCell ⟨g, (k) * 7 + 6, none⟩ (.int .i64 y.e)).setCell ⟨g, (k + 1) * 7, none⟩ (.int .i64 x.o)).setCell ⟨g, (k + 1) * 7 + 1, none⟩ (.int .i64 x.f)).setCell ⟨g, (k + 1) * 7 + 2, none⟩ (.int .i64 x.n)).setCell ⟨g, (k + 1) * 7 + 3, none⟩ (.int .i64 x.v)).setCell ⟨g, (k + 1) * 7 + 4, none⟩ (.int .i64 x.p)).setCell ⟨g, (k + 1) * 7 + 5, none⟩ (.int .i64 x.s)).setCell ⟨g, (k + 1) * 7 + 6, none⟩ (.int .i64 x.e)) := ⟨_, rfl⟩
          have hso : w2.ownsRow base 30 7 (.slice (some ⟨g, 0, none⟩) n cap) n (cellsY M2) := by rw [hw2]; exact hso
          have hsb : Below base w w2 := by rw [hw2]; exact hsb
          have HX := Lib.hid (And.intro hst (And.intro hsp (And.intro hso hsb)))
          have hW := Lib.hid hw2
          clear hA hP hO hst hsp hso hsb hw2
          go_wp2_with fail
          go_region
          rw [← hW.out]
          clear x0 x1 x2 x3 x4 x5 x6 y0 y1 y2 y3 y4 y5 y6 fx0 fx1 fx2 fx3 fx4 fx5 fx6 fy0 fy1 fy2 fy3 fy4 fy5 fy6 hW
          go_wp2_with fail
          go_roundw
          case rel => obtain ⟨h1, h2, h3, h4⟩ := HX.out; exact ⟨k + 1, M2, by go_num, by omega, by omega, (show Aside _ from h1), (show Aside _ from h2), (show Aside _ from h3.drew), h4.drew⟩
          case measure => simp [intOf]; omega
        · have hz : ¬ (k : Int) < (i : Int) - 1 := by omega
          have HX := Lib.hid (And.intro hA (And.intro hP hO))
          clear hA hP hO
          go_wp2_with fail
          refine bodyPost_ret (results_none rfl _ _ _) rfl ?_
          obtain rfl : k = i - 1 := by omega
          obtain ⟨k1, k2, k3⟩ := HX.out
          exact ⟨rfl, M, same_mvR k2 k1 (by omega) (by omega), hasc.out M k1, k3, hB⟩
end Go.Proofs.YtmbchdfgckmpoaaGreat
