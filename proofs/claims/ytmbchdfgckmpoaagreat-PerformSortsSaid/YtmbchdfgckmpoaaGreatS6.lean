/- insertionSortCmpFunc at played notes: a range is sorted in place. -/
import Derived.Test.YtmbchdfgckmpoaaGreatS5
import Derived.Test.YtmbchdfgckmpoaaGreatS7
namespace Go.Proofs.YtmbchdfgckmpoaaGreat
open Go.RowKit Go.Sort

theorem eg9 : ∀ args w, (callFunc 9 args).run Tryz.prog w = .ok (.enter 9 args) w := by
  intro args w
  first | simp [go_sem] | rfl
set_option maxHeartbeats 8000000 in
set_option maxRecDepth 20000 in
theorem insC (L : List Ply) (g cap n a b base : Nat) (w : World) (hown : w.ownsRow base 30 7 (.slice (some ⟨g, 0, none⟩) n cap) n (cellsY L)) (hbase : base ≤ g) (hn : L.length = n) (h30 : n ≤ 1000) (hab : a ≤ b) (hbn : b ≤ n) (hbw : base ≤ w.heap.size) :
    Calls Tryz.prog 73 #[.slice (some ⟨g, 0, none⟩) n cap, .int .i64 a, .int .i64 b, .func (.func 9) #[] #[]] w fun r w' => r = .returned (.tuple #[]) ∧ ∃ L', Same a b L L' ∧ AscR L' a b ∧ w'.ownsRow base 30 7 (.slice (some ⟨g, 0, none⟩) n cap) n (cellsY L') ∧ Below base w w' := by
  go_enter Tryz.func73, Tryz.ntmps73
  go_wp2_with fail
  go_loopw [8] (fun iv wr => ∃ (i : Nat) (M : List Ply), iv = .int .i64 ((i : Int) + 1) ∧ a ≤ i ∧ (i < b ∨ i = a) ∧ Aside (Same a b L M) ∧ Aside (AscR M a (i + 1)) ∧ Aside (wr.ownsRow base 30 7 (.slice (some ⟨g, 0, none⟩) n cap) n (cellsY M)) ∧ Below base w wr) (fun iv _ => b - (intOf iv).toNat)
  case atStart => exact ⟨a, L, rfl, by omega, by omega, (show Aside _ from Same.refl _ _ _), (show Aside _ from fun i j h1 h2 h3 => by rw [show i = j by omega, cmpY_self]; omega), (show Aside _ from hown), Below.refl _ _⟩
  case round =>
    obtain ⟨i, M, rfl, ha, hi, hS, hA, hO, hB⟩ := hrel
    clear hown
    by_cases hlt : i + 1 < b
    · have hz : (i : Int) + 1 < (b : Int) := by omega
      have hS := hS.out
      have hA := hA.out
      have hO := hO.out
      have hln := hS.length
      have hOl := hO.lt
      go_wp2_with fail
      go_loopw [9] (fun jv wq => ∃ (q : Nat) (M' : List Ply), jv = .int .i64 q ∧ a ≤ q ∧ q ≤ i + 1 ∧ Aside (Same a b L M') ∧ Aside (Ins M' a q (i + 1)) ∧ Aside (wq.ownsRow base 30 7 (.slice (some ⟨g, 0, none⟩) n cap) n (cellsY M')) ∧ Below base w wq) (fun jv _ => (intOf jv).toNat)
      case atStart => exact ⟨i + 1, M, by simp, by omega, by omega, (show Aside _ from hS), (show Aside _ from Ins.start hA), (show Aside _ from hO), hB⟩
      case round =>
        clear hS hA hO hln hOl
        obtain ⟨q, M', rfl, hq, hqi, hS, hI, hO, hB⟩ := hrel
        have hS := hS.out
        have hI := hI.out
        have hO := hO.out
        have hln := hS.length
        have hgl : g < wr.heap.size := (hO.lt g rfl).2
        by_cases hja : a < q
        · obtain ⟨p, rfl⟩ : ∃ p, q = p + 1 := ⟨q - 1, by omega⟩
          have hz2 : (a : Int) < (p : Int) + 1 := by omega
          have hX := own_at hO (by omega) (k := p + 1) (by omega)
          have hY := own_at hO (by omega) (k := p) (by omega)
          obtain ⟨x0, x1, x2, x3, x4, x5, x6⟩ := hX
          obtain ⟨y0, y1, y2, y3, y4, y5, y6⟩ := hY
          have hc := compareC (nth M' (p + 1)) (nth M' p)
          have hst := Ins.step hI (by omega) hqi (by omega)
          have hdn := Ins.done hI
          have hsw := same_swap (a := a) (b := b) (l := M') (i := p + 1) (j := p) (by omega) (by omega) (by omega) (by omega) (by omega)
          simp only [Nat.add_sub_cancel] at hst hdn
          have HX := Lib.hid (And.intro hS (And.intro hI (And.intro hO (And.intro hst (And.intro hdn hsw)))))
          clear hS hI hO hst hdn hsw
          generalize hMx : nth M' (p + 1) = x at *
          generalize hMy : nth M' p = y at *
          have hMx' := Lib.hid hMx
          have hMy' := Lib.hid hMy
          clear hMx hMy
          have et : ((p : Int) + 1).toNat = p + 1 := by omega
          have hz3 : (p : Int) + 1 ≤ 1000 := by omega
          simp only [Int.natCast_add, Int.natCast_one]
          have hi1 : (0 : Int) ≤ (p : Int) + 1 := by omega
          have hi2 : (p : Int) + 1 < (n : Int) := by omega
          have hi3 : (p : Int) < (n : Int) := by omega
          have hi4 : IntKind.i64.wrap (p : Int) = (p : Int) := IntWalk.i64_in _ (by omega)
          go_upto_region 4 with (fail)
          have X0 := cell_regrown x0
          have X1 := cell_regrown x1
          have X2 := cell_regrown x2
          have X3 := cell_regrown x3
          have X4 := cell_regrown x4
          have X5 := cell_regrown x5
          have X6 := cell_regrown x6
          have Y0 := cell_regrown y0
          have Y1 := cell_regrown y1
          have Y2 := cell_regrown y2
          have Y3 := cell_regrown y3
          have Y4 := cell_regrown y4
          have Y5 := cell_regrown y5
          have Y6 := cell_regrown y6
          have k1 := fun d os => (hc (grow (redrawn wr d) os)).regrown_of
          clear x0 x1 x2 x3 x4 x5 x6 y0 y1 y2 y3 y4 y5 y6 hc
          have hgt : decide (cmpY x y < 0) = decide (cmpY x y < 0) := rfl
          refine wp_region_quiet_below (by kernel_rfl) (by kernel_rfl) ?_
          repeat (quiet_step ((first | (go_at_fn 9; (with_reducible exact k1 _ _)) | (go_at_call 9; (with_reducible exact k1 _ _)))))
          refine wpQuiet_nil ?_
          intro _ hw'
          obtain ⟨⟨dq, osq⟩, hw''⟩ := hw'
          subst hw''
          clear X0 X1 X2 X3 X4 X5 X6 Y0 Y1 Y2 Y3 Y4 Y5 Y6 k1 hgt
          have hbq := below_regrown wr dq osq
          obtain ⟨hS, hI, hO, hst, hdn, hsw⟩ := HX.out
          have hO := OwnRow.below hO hbq
          have hB := hB.trans (hbq.mono (Nat.le_trans hbw hB.size))
          have hgl : g < (grow (redrawn wr dq) osq).heap.size := Nat.lt_of_lt_of_le hgl hbq.size
          have hMx := hMx'.out
          have hMy := hMy'.out
          clear HX hbq hMx' hMy'
          generalize grow (redrawn wr dq) osq = v at *
          by_cases hlt2 : cmpY x y < 0
          · have hlt3 : decide (cmpY x y < 0) = true := decide_eq_true hlt2
            obtain ⟨x0, x1, x2, x3, x4, x5, x6⟩ := own_at hO (by omega) (k := p + 1) (by omega)
            obtain ⟨y0, y1, y2, y3, y4, y5, y6⟩ := own_at hO (by omega) (k := p) (by omega)
            have fx0 := hO.frozenAt ((p + 1) * 7)
            have fx1 := hO.frozenAt ((p + 1) * 7 + 1)
            have fx2 := hO.frozenAt ((p + 1) * 7 + 2)
            have fx3 := hO.frozenAt ((p + 1) * 7 + 3)
            have fx4 := hO.frozenAt ((p + 1) * 7 + 4)
            have fx5 := hO.frozenAt ((p + 1) * 7 + 5)
            have fx6 := hO.frozenAt ((p + 1) * 7 + 6)
            have fy0 := hO.frozenAt ((p) * 7)
            have fy1 := hO.frozenAt ((p) * 7 + 1)
            have fy2 := hO.frozenAt ((p) * 7 + 2)
            have fy3 := hO.frozenAt ((p) * 7 + 3)
            have fy4 := hO.frozenAt ((p) * 7 + 4)
            have fy5 := hO.frozenAt ((p) * 7 + 5)
            have fy6 := hO.frozenAt ((p) * 7 + 6)

            rw [hMx] at x0 x1 x2 x3 x4 x5 x6
            rw [hMy] at y0 y1 y2 y3 y4 y5 y6
            have hst := hst (by omega)
            have hsw := hS.trans hsw
            have hso := own_swap hO (p + 1) p
            have hsb : Below base w (swapW v g (p + 1) p M') := putI_below (putI_below hB hbase _ _) hbase _ _
            unfold swapW at hso hsb
            rw [hMx, hMy] at hso hsb
            generalize swapL M' (p + 1) p = M2 at *
            obtain ⟨w2, hw2⟩ : ∃ w2, w2 = ((((((((((((((v.setCell ⟨g, (p + 1) * 7, none⟩ (.int .i64 y.o)).setCell ⟨g, (p + 1) * 7 + 1, none⟩ (.int .i64 y.f)).setCell ⟨g, (p + 1) * 7 + 2, none⟩ (.int .i64 y.n)).setCell ⟨g, (p + 1) * 7 + 3, none⟩ (.int .i64 y.v)).setCell ⟨g, (p + 1) * 7 + 4, none⟩ (.int .i64 y.p)).setCell ⟨g, (p + 1) * 7 + 5, none⟩ (.int .i64 y.s)).setCell ⟨g, (p + 1) * 7 + 6, none⟩ (.int .i64 y.e)).setCell ⟨g, (p) * 7, none⟩ (.int .i64 x.o)).setCell ⟨g, (p) * 7 + 1, none⟩ (.int .i64 x.f)).setCell ⟨g, (p) * 7 + 2, none⟩ (.int .i64 x.n)).setCell ⟨g, (p) * 7 + 3, none⟩ (.int .i64 x.v)).setCell ⟨g, (p) * 7 + 4, none⟩ (.int .i64 x.p)).setCell ⟨g, (p) * 7 + 5, none⟩ (.int .i64 x.s)).setCell ⟨g, (p) * 7 + 6, none⟩ (.int .i64 x.e)) := ⟨_, rfl⟩
            have hso : w2.ownsRow base 30 7 (.slice (some ⟨g, 0, none⟩) n cap) n (cellsY M2) := by rw [hw2]; exact hso
            have hsb : Below base w w2 := by rw [hw2]; exact hsb
            have HX := Lib.hid (And.intro hst (And.intro hsw (And.intro hso hsb)))
            have hW := Lib.hid hw2
            clear hS hI hO hst hdn hsw hso hsb hw2 hMx hMy
            go_wp2_with fail
            go_region
            rw [← hW.out]
            clear x0 x1 x2 x3 x4 x5 x6 y0 y1 y2 y3 y4 y5 y6 fx0 fx1 fx2 fx3 fx4 fx5 fx6 fy0 fy1 fy2 fy3 fy4 fy5 fy6 hW
            go_wp2_with fail
            go_roundw
            case rel => obtain ⟨h1, h2, h3, h4⟩ := HX.out; exact ⟨p, M2, by go_num, by omega, by omega, (show Aside _ from h2), (show Aside _ from h1), (show Aside _ from h3.drew), h4.drew⟩
            case measure => simp [intOf]
          · have hlt3 : decide (cmpY x y < 0) = false := decide_eq_false hlt2
            have hcn := cmpY_neg x y
            have hdn := hdn (.inr (by omega)) (by omega) hqi
            have HX := Lib.hid (And.intro hS (And.intro hdn hO))
            clear hS hI hO hst hdn hsw hMx hMy
            go_wp2_with fail
            go_roundw
            case rel => obtain ⟨h1, h2, h3⟩ := HX.out; exact ⟨i + 1, M', by go_num, by omega, by omega, (show Aside _ from h1), (show Aside _ from h2), (show Aside _ from h3), hB⟩
            case measure => simp [intOf]; omega
        · obtain rfl : q = a := by omega
          have HX := Lib.hid (And.intro hS (And.intro (Ins.done hI (.inl (Nat.le_refl _)) hq hqi) hO))
          clear hS hI hO
          go_wp2_with fail
          go_region
          go_wp2_with fail
          go_roundw
          case rel => obtain ⟨h1, h2, h3⟩ := HX.out; exact ⟨i + 1, M', by go_num, by omega, by omega, (show Aside _ from h1), (show Aside _ from h2), (show Aside _ from h3.drew), hB.drew⟩
          case measure => simp [intOf]; omega
    · have hz : ¬ (i : Int) + 1 < (b : Int) := by omega
      have hA := hA.out
      have hS := hS.out
      have hO := hO.out
      have HX := Lib.hid (And.intro hS (And.intro hA hO))
      clear hS hA hO
      go_wp2_with fail
      go_end0
      obtain ⟨h1, h2, h3⟩ := HX.out
      exact ⟨rfl, M, h1, fun p q p1 p2 p3 => h2 p q p1 p2 (by omega), h3, hB⟩
end Go.Proofs.YtmbchdfgckmpoaaGreat
