/- symMergeCmpFunc at played notes: two neighbouring ascending ranges are joined. -/
import Derived.Test.YtmbchdfgckmpoaaGreatS12
import Derived.Test.YtmbchdfgckmpoaaGreatS9
namespace Go.Proofs.YtmbchdfgckmpoaaGreat
open Go.RowKit Go.Sort

theorem half_done {M : List Ply} {a s mid : Nat} (h1 : AscR M a s) (h2 : AscR M s mid) (h : ¬ (a < s ∧ s < mid)) (has : a ≤ s) (hsm : s ≤ mid) : AscR M a mid := by
  by_cases e : s = a
  · subst e; exact h2
  · have : s = mid := by omega
    subst this; exact h1
theorem asc_out {L M : List Ply} {a b c d : Nat} (h : AscR L c d) (hs : Same a b L M) (ho : d ≤ a ∨ b ≤ c) : AscR M c d := fun i j h1 h2 h3 => by
  rw [hs.out i (by omega), hs.out j (by omega)]
  exact h i j h1 h2 h3
/-- What symMerge is said to do, at ranges of at most K elements. -/
def SymAt (g cap n base K : Nat) : Prop := ∀ (L : List Ply) (a m b : Nat) (w : World), b - a ≤ K → w.ownsRow base 30 7 (.slice (some ⟨g, 0, none⟩) n cap) n (cellsY L) → L.length = n → a < m → m < b → b ≤ n → base ≤ w.heap.size → AscR L a m → AscR L m b →
    Calls Tryz.prog 74 #[.slice (some ⟨g, 0, none⟩) n cap, .int .i64 a, .int .i64 m, .int .i64 b, .func (.func 9) #[] #[]] w fun r w' => r = .returned (.tuple #[]) ∧ ∃ L', Same a b L L' ∧ AscR L' a b ∧ w'.ownsRow base 30 7 (.slice (some ⟨g, 0, none⟩) n cap) n (cellsY L') ∧ Below base w w'
set_option maxHeartbeats 20000000 in
set_option maxRecDepth 20000 in
theorem symStep (g cap n base : Nat) (hbase : base ≤ g) (h30 : n ≤ 1000) (K : Nat) (ih : SymAt g cap n base K) : SymAt g cap n base (K + 1) := by
    intro L a m b w hK hown hn ham hmb hbn hbw hA1 hA2
    by_cases q1 : m = a + 1
    · exact symLeft L g cap n a m b base w hown hbase hn h30 q1 hmb hbn hbw hA2
    by_cases q2 : b = m + 1
    · exact symRight L g cap n a m b base w hown hbase hn h30 q2 (by omega) hbn hbw hA1
    have hro := fun (s e : Nat) v h1 h2 h3 h4 => rotateC L g cap n s m e base (.func (.func 9) #[] #[]) v h1 hbase hn h30 h2 h3 h4
    have ih' := Lib.hid ih
    have hro' := Lib.hid hro
    have hA' := Lib.hid (And.intro hA1 hA2)
    have hown' := Lib.hid hown
    clear ih hro hA1 hA2 hown
    obtain ⟨mid, hmid⟩ : ∃ mid, mid = (a + b) / 2 := ⟨_, rfl⟩
    obtain ⟨s0, hs0⟩ : ∃ s0, s0 = if mid < m then mid + m - b else a := ⟨_, rfl⟩
    obtain ⟨r0, hr0⟩ : ∃ r0, r0 = if mid < m then mid else m := ⟨_, rfl⟩
    have f1 : a ≤ s0 ∧ s0 ≤ r0 ∧ r0 ≤ m ∧ r0 ≤ mid ∧ mid ≤ s0 + (b - m) ∧ a + 2 ≤ mid ∧ mid + 2 ≤ b := by
      subst hs0 hr0
      by_cases c : mid < m
      · rw [if_pos c, if_pos c]; omega
      · rw [if_neg c, if_neg c]; omega
    have f2 : s0 = a ∨ s0 + b = mid + m := by
      subst hs0
      by_cases c : mid < m
      · rw [if_pos c]; omega
      · rw [if_neg c]; exact .inl rfl
    have f3 : r0 = mid ∨ r0 = m := by
      subst hr0
      by_cases c : mid < m
      · rw [if_pos c]; exact .inl rfl
      · rw [if_neg c]; exact .inr rfl
    obtain ⟨p1, p2, p3, p4, p5, p6, p7⟩ := f1
    have t1 : ((m : Int) - (a : Int) == 1) = false := by simp; omega
    have t2 : ((b : Int) - (m : Int) == 1) = false := by simp; omega
    have w1 : IntKind.u64.wrap ((a : Int) + (b : Int)) = (a : Int) + (b : Int) := IntWalk.u64_in _ (by omega)
    have w2 : ((a : Int) + (b : Int)) / 2 = (mid : Int) := by omega
    have w3 : IntKind.i64.wrap (mid : Int) = (mid : Int) := IntWalk.i64_in _ (by omega)
    clear hmid
    go_enter Tryz.func74, Tryz.ntmps74
    go_upto_if 140 with (fail)
    go_cut [20, 21, 140] from 1000 (fun sv rv _ wx => sv = .int .i64 s0 ∧ rv = .int .i64 r0 ∧ w = wx)
    case first =>
      by_cases c : mid < m
      · have c1 : decide ((m : Int) > (mid : Int)) = true := decide_eq_true (by omega)
        rw [if_pos c] at hs0 hr0
        have c2 : (mid : Int) + (m : Int) - (b : Int) = (s0 : Int) := by omega
        subst hr0
        clear hs0
        go_wp2_with fail
        go_meet
        exact ⟨by congr 1, rfl, rfl⟩
      · have c1 : decide ((m : Int) > (mid : Int)) = false := decide_eq_false (by omega)
        rw [if_neg c] at hs0 hr0
        subst hs0 hr0
        go_wp2_with fail
        go_meet
        exact ⟨rfl, rfl, rfl⟩
    case rest =>
      obtain ⟨rfl, rfl, rfl⟩ := hcut
      clear hs0 hr0 w1 w2 w3 t1 t2
      have hown := hown'.out
      go_wp2_with fail
      go_loopw [20, 21] (fun sv rv wr => ∃ (s r : Nat), sv = .int .i64 s ∧ rv = .int .i64 r ∧ s0 ≤ s ∧ s ≤ r ∧ r ≤ r0 ∧ Aside (s = s0 ∨ cmpY (nth L (s - 1)) (nth L (mid + m - s)) ≤ 0) ∧ Aside (r = r0 ∨ cmpY (nth L (mid + m - 1 - r)) (nth L r) < 0) ∧ Below w.heap.size w wr) (fun sv rv _ => (intOf rv).toNat - (intOf sv).toNat)
      case atStart => exact ⟨s0, r0, rfl, rfl, by omega, by omega, by omega, (show Aside _ from .inl rfl), (show Aside _ from .inl rfl), Below.refl _ _⟩
      case round =>
        obtain ⟨s, r, rfl, rfl, h1, h2, h3, hS, hR, hB⟩ := hrel
        have hS := hS.out
        have hR := hR.out
        have hO := OwnRow.below hown hB
        have hgl : g < wr.heap.size := (hO.lt g rfl).2
        by_cases hlt : s < r
        · obtain ⟨c, hh⟩ : ∃ c, c = (s + r) / 2 := ⟨_, rfl⟩
          obtain ⟨q, hq⟩ : ∃ q, q = mid + m - 1 - c := ⟨_, rfl⟩
          have w1 : IntKind.u64.wrap ((s : Int) + (r : Int)) = (s : Int) + (r : Int) := IntWalk.u64_in _ (by omega)
          have w2 : ((s : Int) + (r : Int)) / 2 = (c : Int) := by omega
          have w3 : IntKind.i64.wrap (c : Int) = (c : Int) := IntWalk.i64_in _ (by omega)
          have w4 : (mid : Int) + (m : Int) - 1 - (c : Int) = (q : Int) := by omega
          have w5 : IntKind.i64.wrap (q : Int) = (q : Int) := IntWalk.i64_in _ (by omega)
          have hsc : s ≤ c := by omega
          have hcr : c < r := by omega
          have hcn : (c : Int) < (n : Int) := by omega
          have hqn : (q : Int) < (n : Int) := by omega
          have e1 : q = mid + m - (c + 1) := by omega
          have e2 : q = mid + m - 1 - c := hq
          obtain ⟨x0, x1, x2, x3, x4, x5, x6⟩ := own_at hO hn (k := q) (by omega)
          obtain ⟨y0, y1, y2, y3, y4, y5, y6⟩ := own_at hO hn (k := c) (by omega)
          have hc := compareC (nth L q) (nth L c)
          have hz3 := cmpY_neg (nth L q) (nth L c)
          have HX := Lib.hid (And.intro hS (And.intro hR (And.intro hz3 (And.intro e1 e2))))
          clear hS hR hz3 hh hq e1 e2 hO
          generalize hx : nth L q = x at *
          generalize hy : nth L c = y at *
          have hx' := Lib.hid hx
          have hy' := Lib.hid hy
          clear hx hy
          go_upto_region 35 with (fail)
          have X0 := cell_regrown x0
          have X1 := cell_regrown x1
          have X2 := cell_regrown x2
          have X3 := cell_regrown x3
          have X4 := cell_regrown x4
          have X5 := cell_regrown x5
          have X6 := cell_regrown x6
          have Y0 := cell_regrown y0
          have Y1 := cell_regrown y1
          have Y2 := cell_regrown y2
          have Y3 := cell_regrown y3
          have Y4 := cell_regrown y4
          have Y5 := cell_regrown y5
          have Y6 := cell_regrown y6
          have k1 := fun d os => (hc (grow (redrawn wr d) os)).regrown_of
          clear x0 x1 x2 x3 x4 x5 x6 y0 y1 y2 y3 y4 y5 y6 hc
          refine wp_region_quiet_below (by kernel_rfl) (by kernel_rfl) ?_
          repeat (quiet_step ((first | (go_at_fn 9; (with_reducible exact k1 _ _)) | (go_at_call 9; (with_reducible exact k1 _ _)))))
          refine wpQuiet_nil ?_
          intro _ hw'
          obtain ⟨⟨dq, osq⟩, hw''⟩ := hw'
          subst hw''
          clear X0 X1 X2 X3 X4 X5 X6 Y0 Y1 Y2 Y3 Y4 Y5 Y6 k1
          have hbq := below_regrown wr dq osq
          have hB := hB.trans (hbq.mono hB.size)
          clear hbq
          generalize grow (redrawn wr dq) osq = v at *
          by_cases hl2 : cmpY x y < 0
          · have hl3 : decide (cmpY x y < 0) = true := decide_eq_true hl2
            generalize decide (cmpY x y < 0) = t at *
            subst hl3
            go_wp2_with fail
            go_roundw
            case rel =>
              obtain ⟨k1, k2, k3, k4, k5⟩ := HX.out
              exact ⟨s, c, rfl, rfl, by omega, by omega, by omega, (show Aside _ from k1), (show Aside _ from .inr (by rw [← k5, hx'.out, hy'.out]; exact hl2)), hB⟩
            case measure => simp [intOf]; omega
          · have hl3 : decide (cmpY x y < 0) = false := decide_eq_false hl2
            generalize decide (cmpY x y < 0) = t at *
            subst hl3
            go_wp2_with fail
            go_roundw
            case rel =>
              obtain ⟨k1, k2, k3, k4, k5⟩ := HX.out
              exact ⟨c + 1, r, by go_num, rfl, by omega, by omega, by omega, (show Aside _ from .inr (by rw [← k4, Nat.add_sub_cancel, hx'.out, hy'.out]; omega)), (show Aside _ from k2), hB⟩
            case measure => simp [intOf]; omega
        · obtain rfl : s = r := by omega
          obtain ⟨e, he⟩ : ∃ e, e = mid + m - s := ⟨_, rfl⟩
          have hA1 := hA'.out.1
          have hA2 := hA'.out.2
          have c1 : s = a ∨ e = b ∨ cmpY (nth L (s - 1)) (nth L e) ≤ 0 := by
            rcases hS with h | h
            · rcases f2 with f | f
              · exact .inl (h.trans f)
              · exact .inr (.inl (by omega))
            · exact .inr (.inr (by rw [he]; exact h))
          have c2 : m = e ∨ s = m ∨ cmpY (nth L (e - 1)) (nth L s) ≤ 0 := by
            rcases hR with h | h
            · rcases f3 with f | f
              · exact .inl (by omega)
              · exact .inr (.inl (by omega))
            · exact .inr (.inr (by rw [show e - 1 = mid + m - 1 - s by omega]; omega))
          have hhalf := fun (M : List Ply) (hM : ∀ k, nth M k = rotN (nth L) s m e k) => rot_halves (b := b) (mid := mid) hM hA1 hA2 (by omega) (by omega) (by omega) (by omega) (by omega) c1 c2
          have p8 : a ≤ s := by omega
          have p9 : s ≤ m := by omega
          have p10 : m ≤ e := by omega
          have p11 : e ≤ b := by omega
          have p12 : s ≤ mid := by omega
          have p13 : mid ≤ e := by omega
          have w6 : (mid : Int) + (m : Int) - (s : Int) = (e : Int) := by omega
          have hme2 : s + e = mid + m := by omega
          clear he
          have hwb : base ≤ wr.heap.size := Nat.le_trans hbw hB.size
          have hBw := hB.mono hbw
          have HX := Lib.hid (And.intro hhalf hO)
          clear hhalf hS hR c1 c2 hO hown hA1 hA2 f2 f3 hB
          go_upto_region 39 with (fail)
          try rw [w6]
          go_cut [181, 185] from 1000 (fun _ t wx => t = .bool (decide (s < m ∧ m < e)) ∧ wr = wx)
          case first =>
            by_cases d1 : s < m
            · by_cases d2 : m < e
              · have d3 := Lib.hid (show decide (s < m ∧ m < e) = true from decide_eq_true ⟨d1, d2⟩)
                go_wp2_with fail
                go_meet
                exact ⟨by rw [d3.out], rfl⟩
              · have d3 := Lib.hid (show decide (s < m ∧ m < e) = false from decide_eq_false (fun h => d2 h.2))
                go_wp2_with fail
                go_meet
                exact ⟨by rw [d3.out], rfl⟩
            · have d3 := Lib.hid (show decide (s < m ∧ m < e) = false from decide_eq_false (fun h => d1 h.1))
              go_wp2_with fail
              go_meet
              exact ⟨by rw [d3.out], rfl⟩
          case rest =>
            obtain ⟨rfl, rfl⟩ := hcut
            go_upto_if 185 with (fail)
            go_cut [18, 24, 185] from 1000 (fun mv ev _ wx => mv = .int .i64 mid ∧ ev = .int .i64 e ∧ ∃ M, Aside (∀ k, nth M k = rotN (nth L) s m e k) ∧ Aside (L.Perm M) ∧ Aside (wx.ownsRow base 30 7 (.slice (some ⟨g, 0, none⟩) n cap) n (cellsY M)) ∧ Below base w wx)
            case first =>
              by_cases d : s < m ∧ m < e
              · have e1 : decide (s < m ∧ m < e) = true := decide_eq_true d
                generalize decide (s < m ∧ m < e) = bq at *
                subst e1
                have hc := hro'.out s e _ HX.out.2 d.1 d.2 (by omega)
                go_wp2_with fail
                refine hc.mono ?_
                rintro r2 w2 ⟨rfl, M2, k1, k2, k3, k4⟩
                go_wp2_with fail
                go_meet
                exact ⟨rfl, rfl, M2, (show Aside _ from k1), (show Aside _ from k2), (show Aside _ from k3), hBw.trans k4⟩
              · have e1 : decide (s < m ∧ m < e) = false := decide_eq_false d
                generalize decide (s < m ∧ m < e) = bq at *
                subst e1
                go_wp2_with fail
                go_meet
                exact ⟨rfl, rfl, L, (show Aside _ from fun k => (rotN_none (by omega) p9 p10 k).symm), (show Aside _ from .refl _), (show Aside _ from HX.out.2), hBw⟩
            case rest =>
              obtain ⟨rfl, rfl, M, hM, hP, hO, hB⟩ := hcut
              have hM := hM.out
              have hP := hP.out
              have hO := hO.out
              obtain ⟨b1, b2, b3, b4, bx⟩ := HX.out.1 M hM
              have hSm : Same a b L M := same_rot hP hM p8 p9 p10 p11
              have hMn : M.length = n := hSm.length.trans hn
              have HY := Lib.hid (And.intro hSm (And.intro b1 (And.intro b2 (And.intro b3 (And.intro b4 (And.intro bx hO))))))
              have hbc : base ≤ wc.heap.size := Nat.le_trans hbw hB.size
              clear hM hP hO b1 b2 b3 b4 bx hSm HX hro' hBw hwb hgl
              go_upto_region 41 with (fail)
              obtain ⟨w5, hw5⟩ : ∃ w5, w5 = wc := ⟨_, rfl⟩
              rw [← hw5] at HY hB hbc ⊢
              clear hw5
              go_cut [195, 199] from 1000 (fun _ t wx => t = .bool (decide (a < s ∧ s < mid)) ∧ w5 = wx)
              case first =>
                by_cases d1 : a < s
                · by_cases d2 : s < mid
                  · have d3 := Lib.hid (show decide (a < s ∧ s < mid) = true from decide_eq_true ⟨d1, d2⟩)
                    go_wp2_with fail
                    go_meet
                    exact ⟨by rw [d3.out], rfl⟩
                  · have d3 := Lib.hid (show decide (a < s ∧ s < mid) = false from decide_eq_false (fun h => d2 h.2))
                    go_wp2_with fail
                    go_meet
                    exact ⟨by rw [d3.out], rfl⟩
                · have d3 := Lib.hid (show decide (a < s ∧ s < mid) = false from decide_eq_false (fun h => d1 h.1))
                  go_wp2_with fail
                  go_meet
                  exact ⟨by rw [d3.out], rfl⟩
              case rest =>
                obtain ⟨rfl, rfl⟩ := hcut
                go_upto_if 199 with (fail)
                go_cut [18, 24, 199] from 1000 (fun mv ev _ wx => mv = .int .i64 mid ∧ ev = .int .i64 e ∧ ∃ M2, Aside (Same a mid M M2) ∧ Aside (AscR M2 a mid) ∧ Aside (wx.ownsRow base 30 7 (.slice (some ⟨g, 0, none⟩) n cap) n (cellsY M2)) ∧ Below base w wx)
                case first =>
                  by_cases d : a < s ∧ s < mid
                  · have e1 : decide (a < s ∧ s < mid) = true := decide_eq_true d
                    generalize decide (a < s ∧ s < mid) = bq at *
                    subst e1
                    obtain ⟨_, b1, b2, b3, b4, bx, hO⟩ := HY.out
                    have hc := ih'.out M a s mid w5 (by omega) hO hMn d.1 d.2 (by omega) hbc b1 b2
                    clear b1 b2 b3 b4 bx hO
                    go_wp2_with fail
                    refine hc.mono ?_
                    rintro r2 w2 ⟨rfl, M2, k1, k2, k3, k4⟩
                    go_wp2_with fail
                    go_meet
                    exact ⟨rfl, rfl, M2, (show Aside _ from k1), (show Aside _ from k2), (show Aside _ from k3), hB.trans k4⟩
                  · have e1 : decide (a < s ∧ s < mid) = false := decide_eq_false d
                    generalize decide (a < s ∧ s < mid) = bq at *
                    subst e1
                    go_wp2_with fail
                    go_meet
                    obtain ⟨_, b1, b2, b3, b4, bx, hO⟩ := HY.out
                    exact ⟨rfl, rfl, M, (show Aside _ from Same.refl _ _ _), (show Aside _ from half_done b1 b2 d p8 p12), (show Aside _ from hO), hB⟩
                case rest =>
                  obtain ⟨rfl, rfl, M2, hS2, hA2, hO2, hB2⟩ := hcut
                  have hS2 := hS2.out
                  have hA2 := hA2.out
                  have hO2 := hO2.out
                  have hM2n : M2.length = n := hS2.length.trans hMn
                  obtain ⟨hSm, b1, b2, b3, b4, bx, _⟩ := HY.out
                  have b3 := asc_out b3 hS2 (.inr (Nat.le_refl _))
                  have b4 := asc_out b4 hS2 (.inr p13)
                  have hbd : base ≤ wc.heap.size := Nat.le_trans hbw hB2.size
                  have hfin := fun (M3 : List Ply) (k1 : Same mid b M2 M3) (k2 : AscR M3 mid b) => And.intro ((hSm.trans (hS2.mono (Nat.le_refl _) (by omega))).trans (k1.mono (by omega) (Nat.le_refl _))) (join_asc bx hS2 k1 hA2 k2)
                  by_cases d : mid < e ∧ e < b
                  · have hc := ih'.out M2 mid e b wc (by omega) hO2 hM2n d.1 d.2 hbn hbd b3 b4
                    have d1 : (mid : Int) < (e : Int) := by omega
                    have d2 : (e : Int) < (b : Int) := by omega
                    have hfin := Lib.hid hfin
                    clear b1 b2 b3 b4 bx hS2 hA2 hO2 hSm HY
                    go_wp2_with fail
                    refine hc.mono ?_
                    rintro r2 w2 ⟨rfl, M3, k1, k2, k3, k4⟩
                    go_wp2_with fail
                    go_end0
                    obtain ⟨z1, z2⟩ := hfin.out M3 k1 k2
                    exact ⟨rfl, M3, z1, z2, k3, hB2.trans k4⟩
                  · obtain ⟨z1, z2⟩ := hfin M2 (Same.refl _ _ _) (half_done b3 b4 d p13 p11)
                    have HZ := Lib.hid (And.intro z1 (And.intro z2 hO2))
                    clear b1 b2 b3 b4 bx hS2 hA2 hO2 hSm HY hfin z1 z2
                    by_cases d1 : (mid : Int) < (e : Int)
                    · have d2 : ¬ (e : Int) < (b : Int) := by omega
                      go_wp2_with fail
                      go_end0
                      obtain ⟨z1, z2, z3⟩ := HZ.out
                      exact ⟨rfl, M2, z1, z2, z3, hB2⟩
                    · go_wp2_with fail
                      go_end0
                      obtain ⟨z1, z2, z3⟩ := HZ.out
                      exact ⟨rfl, M2, z1, z2, z3, hB2⟩
theorem symC (g cap n base : Nat) (hbase : base ≤ g) (h30 : n ≤ 1000) : ∀ K, SymAt g cap n base K
  | 0 => fun L a m b w hK hown hn ham hmb hbn hbw hA1 hA2 => absurd hK (by omega)
  | K + 1 => symStep g cap n base hbase h30 K (symC g cap n base hbase h30 K)
end Go.Proofs.YtmbchdfgckmpoaaGreat
