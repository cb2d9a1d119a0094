/- The law PerformSorts returns true. -/
import Derived.Test.YtmbchdfgckmpoaaGreatS16
namespace Go.Proofs.YtmbchdfgckmpoaaGreat
open Go.RowKit Go.Sort

set_option maxHeartbeats 8000000 in
set_option maxRecDepth 20000 in
theorem sortsC (A : Option Addr) (c : Nat) (l : List Ply) (w : World) (hl : l.length ≤ maxLen) (h : SlY w A l) :
    Calls Tryz.prog 4 #[.slice A l.length c] w fun r w' => r = .returned (.bool true) ∧ Below w.heap.size w w' := by
  unfold maxLen at hl
  by_cases hbig : 30 < l.length
  · generalize l.length = n at *
    have hz : (30 : Int) < (n : Int) := by omega
    go_enter Tryz.func4, Tryz.ntmps4
    go_wp2_with fail
    refine (knownC _).mono ?_
    rintro e w1 ⟨rfl, hb1⟩
    go_wp2_with fail
    refine (knownC _).mono ?_
    rintro e w2 ⟨rfl, hb2⟩
    go_wp2_with fail
    go_ret
    exact ⟨rfl, hb1.trans (hb2.mono hb1.size)⟩
  · have hso := Lib.hid (fun v (hv : SlY v A l) => sortC A c l v (by omega) hv)
    have hsm := Lib.hid (fun v (hv : SlY v A l) => sortedM A c l v (by omega) hv)
    have hnl : ∃ n, n = l.length := ⟨_, rfl⟩
    obtain ⟨n, hnl⟩ := hnl
    rw [← hnl] at hbig ⊢
    rw [← hnl] at hso hsm
    have hn2 : l.length = n := hnl.symm
    clear hnl hl
    have hz : ¬ (30 : Int) < (n : Int) := by omega
    go_enter Tryz.func4, Tryz.ntmps4
    go_wp2_with fail
    refine (knownC _).mono ?_
    rintro e w1 ⟨rfl, hb1⟩
    go_wp2_with fail
    go_loopw [3] (fun iv wr => ∃ i : Nat, i ≤ n ∧ iv = .int .i64 i ∧ Below w.heap.size w wr) (fun iv _ => n - (intOf iv).toNat)
    case atStart => exact ⟨0, by omega, rfl, hb1⟩
    case round =>
      clear hb1
      obtain ⟨i, hi, rfl, hB⟩ := hrel
      by_cases hlt : i < n
      · go_wp2_with fail
        go_loopw [4] (fun iv wq => ∃ k : Nat, k ≤ n ∧ iv = .int .i64 k ∧ Below w.heap.size w wq) (fun iv _ => n - (intOf iv).toNat)
        case atStart => exact ⟨0, by omega, rfl, hB⟩
        case round =>
          clear hB
          obtain ⟨k, hk, rfl, hB⟩ := hrel
          by_cases hlt2 : k < n
          · obtain ⟨b, off, hAe, hlb, hrd⟩ := h.some (k := k) (by omega)
            cases hAe
            obtain ⟨x0, x1, x2, x3, x4, x5, x6⟩ := hrd.below hB hlb i (by omega)
            obtain ⟨y0, y1, y2, y3, y4, y5, y6⟩ := hrd.below hB hlb k (by omega)
            have hc := compareC (nth l i) (nth l k)
            have hm := compareM (nth l i) (nth l k)
            clear hrd h hso hsm
            generalize nth l i = x at *
            generalize nth l k = y at *
            have hi1 : (i : Int) < (n : Int) := by omega
            have hk1 : (k : Int) < (n : Int) := by omega
            go_upto_region 9 with (fail)
            have X0 := cell_regrown x0
            have X1 := cell_regrown x1
            have X2 := cell_regrown x2
            have X3 := cell_regrown x3
            have X4 := cell_regrown x4
            have X5 := cell_regrown x5
            have X6 := cell_regrown x6
            have Y0 := cell_regrown y0
            have Y1 := cell_regrown y1
            have Y2 := cell_regrown y2
            have Y3 := cell_regrown y3
            have Y4 := cell_regrown y4
            have Y5 := cell_regrown y5
            have Y6 := cell_regrown y6
            have k1 := fun d os => (hc (grow (redrawn wr d) os)).regrown_of
            have k2 := fun d os => (hm (grow (redrawn wr d) os)).regrown_of
            clear x0 x1 x2 x3 x4 x5 x6 y0 y1 y2 y3 y4 y5 y6 hc hm
            generalize cmpY x y = z at *
            refine wp_region_quiet_below (by kernel_rfl) (by kernel_rfl) ?_
            repeat (quiet_step (first | (go_at_call 9; (with_reducible exact k1 _ _)) | (go_at_call 10; (with_reducible exact k2 _ _))))
            refine wpQuiet_nil ?_
            intro _ hw'
            obtain ⟨⟨dq, osq⟩, hw''⟩ := hw'
            subst hw''
            clear X0 X1 X2 X3 X4 X5 X6 Y0 Y1 Y2 Y3 Y4 Y5 Y6 k1 k2
            have hB := hB.trans ((below_regrown wr dq osq).mono hB.size)
            go_wp2_with fail
            go_roundw
            case rel => exact ⟨k + 1, by omega, by go_num, hB⟩
            case measure => simp [intOf]; omega
          · obtain rfl : k = n := by omega
            go_wp2_with fail
            go_roundw
            case rel => exact ⟨i + 1, by omega, by go_num, hB⟩
            case measure => simp [intOf]; omega
      · obtain rfl : i = n := by omega
        have h1 := h.below (hB)
        have hs := hso.out wr h1
        clear hso
        go_wp2_with fail
        refine hs.mono ?_
        rintro e w2 ⟨⟨B, d, L1, rfl, hs1, hS, hA⟩, hb2⟩
        have hB2 := hB.trans (hb2.mono hB.size)
        have hs := hsm.out w2 (h.below hB2)
        go_wp2_with fail
        refine hs.mono ?_
        rintro e w3 ⟨⟨B2, d2, L2, rfl, hs2, hP, hA2⟩, hb3⟩
        have hs1 := hs1.below hb3
        have hB3 := hB2.trans (hb3.mono hB2.size)
        have hlen1 : L1.length = i := hS.length.trans hn2
        have hlen2 : L2.length = i := hP.length_eq.symm.trans hn2
        have hEq : L1 = L2 := asc_unique (hS.perm.symm.trans hP) (asc_of (by rw [hlen1]; exact hA)) (asc_of (by rw [hlen2]; exact hA2))
        subst hEq
        have hs := sameC B B2 d d2 L1 w3 (by omega) hs1 hs2
        rw [hlen1] at hs
        clear hsm h hs1 hs2 hS hA hA2 hP
        go_wp2_with fail
        refine hs.mono ?_
        rintro e w4 ⟨rfl, hb4⟩
        go_wp2_with fail
        go_ret
        exact ⟨rfl, hB3.trans (hb4.mono hB3.size)⟩
end Go.Proofs.YtmbchdfgckmpoaaGreat
