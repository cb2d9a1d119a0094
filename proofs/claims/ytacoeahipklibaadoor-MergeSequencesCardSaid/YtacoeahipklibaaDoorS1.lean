/- The model's sequence. -/
import Derived.Test.YtacoeahipklibaaDoorK1
import Derived.Test.YtacoeahipklibaaDoorB11
namespace Go.Proofs.YtacoeahipklibaaDoor
open Go.RowKit

theorem OwnI.base {w : World} {a b : Nat} {v : Value} {l : List Id} (h : OwnI w b v l) (hab : a ≤ b) : OwnI w a v l := by
  refine ⟨h.1, ?_⟩
  rcases h.2 with h | ⟨g, cap, cur, h1, h2, h3⟩
  · exact .inl h
  · exact .inr ⟨g, cap, cur, h1, by omega, h3⟩
theorem OwnI.made (w : World) : OwnI (w.alloc (.cells #[] 30)) w.heap.size (.slice (some ⟨w.heap.size, 0, none⟩) 0 0) [] :=
  ⟨rfl, .inr ⟨w.heap.size, 0, #[], rfl, Nat.le_refl _, heap_alloc_new w _, Nat.le_refl _, by unfold maxLen; omega, rfl, rfl⟩⟩
theorem ith_take {l : List Id} {p k : Nat} (h : k < p) : ith (l.take p) k = ith l k := by
  unfold ith; rw [List.getD_eq_getElem?_getD, List.getD_eq_getElem?_getD, List.getElem?_take_of_lt h]
theorem ith_drop (l : List Id) (p k : Nat) : ith (l.drop p) k = ith l (p + k) := by
  unfold ith; rw [List.getD_eq_getElem?_getD, List.getD_eq_getElem?_getD, List.getElem?_drop]
theorem RdI.take {w : World} {b off : Nat} {l : List Id} (h : RdI w b off l) (p : Nat) : RdI w b off (l.take p) := by
  intro k hk
  rw [List.length_take] at hk
  rw [ith_take (by omega)]
  exact h k (by omega)
theorem RdI.drop {w : World} {b off : Nat} {l : List Id} (h : RdI w b off l) (p : Nat) : RdI w b (off + p * 2) (l.drop p) := by
  intro k hk
  rw [List.length_drop] at hk
  rw [ith_drop]
  obtain ⟨h1, h2⟩ := h (p + k) (by omega)
  rw [show off + p * 2 + k * 2 = off + (p + k) * 2 by omega]
  exact ⟨h1, h2⟩
theorem SlI.intro {w : World} {b off : Nat} {l : List Id} (hb : b < w.heap.size) (h : RdI w b off l) : SlI w (Option.some ⟨b, off, none⟩) l := by
  by_cases h0 : 0 < l.length
  · exact .inr ⟨h0, b, off, rfl, hb, h⟩
  · exact .inl (List.eq_nil_of_length_eq_zero (by omega))
theorem OwnI.rd {w : World} {base g n cap : Nat} {l : List Id} (h : OwnI w base (.slice (some ⟨g, 0, none⟩) n cap) l) : RdI w g 0 l ∧ g < w.heap.size := by
  refine ⟨fun k hk => ⟨?_, ?_⟩, (h.lt g rfl).2⟩
  · have := cellsI_get l k 0 hk (by omega)
    have hc := h.cells (g := g) rfl (k * 2 + 0) (.int .i64 (ith l k).s) (by rw [this]; rfl)
    rw [Addr.add_lit] at hc
    exact hc
  · have := cellsI_get l k 1 hk (by omega)
    have hc := h.cells (g := g) rfl (k * 2 + 1) (.int .i64 (ith l k).n) (by rw [this]; rfl)
    rw [Addr.add_lit] at hc
    rw [Nat.zero_add]
    rw [Nat.zero_add] at hc
    exact hc

set_option maxHeartbeats 16000000 in
set_option maxRecDepth 100000 in
theorem mseqC (Ab Al Ar : Option Addr) (cb cl cr : Nat) (base left right : List Id) (w : World) (hb1 : base.length ≤ 100) (hl1 : left.length ≤ 100) (hr1 : right.length ≤ 100) (hb : SlI w Ab base) (hl : SlI w Al left) (hr : SlI w Ar right)
    (h1 : ordB (uniq base) (uniq left) = false) :
    Calls Tryd.prog 9 #[.slice Ab base.length cb, .slice Al left.length cl, .slice Ar right.length cr] w fun r w' => RetI w w' r (seqMO (uniq base) (uniq left) (uniq right)) := by
  have q1 := fun w h => distinctC Ab cb base w (by omega) h
  have q2 := fun w h => distinctC Al cl left w (by omega) h
  have q3 := fun w h => distinctC Ar cr right w (by omega) h
  have nb := uniq_nodup base
  have lb := uniq_len base
  have ll := uniq_len left
  have lr := uniq_len right
  generalize uniq base = ub at *
  generalize uniq left = ul at *
  generalize uniq right = ur at *
  unfold seqMO
  go_enter Tryd.func9, Tryd.ntmps9
  go_wp2_with fail
  refine (q1 w hb).mono ?_
  rintro e w1 ⟨⟨A1, c1, rfl, s1⟩, B1⟩
  have hl := hl.below B1
  have hr := hr.below B1
  have z1 := B1.size
  go_wp2_with fail
  refine (q2 w1 hl).mono ?_
  rintro e w2 ⟨⟨A2, c2, rfl, s2⟩, B2⟩
  have hr := hr.below B2
  have s1 := s1.below B2
  have B2 := B1.trans (B2.mono z1)
  have z2 := B2.size
  go_wp2_with fail
  refine (q3 w2 hr).mono ?_
  rintro e w3 ⟨⟨A3, c3, rfl, s3⟩, B3⟩
  have s1 := s1.below B3
  have s2 := s2.below B3
  have B3 := B2.trans (B3.mono z2)
  have z3 := B3.size
  clear hb hl hr q1 q2 q3 B1 B2 z1 z2
  have o1 := fun w s1 s2 => orderedM A1 c1 ub A2 c2 ul w (by omega) (by omega) s1 s2
  have o2 := fun w s1 s3 => orderedM A1 c1 ub A3 c3 ur w (by omega) (by omega) s1 s3
  go_wp2_with fail
  refine (o1 w3 s1 s2).mono ?_
  rintro e wz ⟨rfl, B4⟩
  have s1 := s1.below B4
  have sM := s2.below B4
  have sO := s3.below B4
  have BZ := B3.trans (B4.mono z3)
  rw [h1]
  clear s2 s3 B3 B4 z3 h1
  clear o1 o2 nb
  have i30 := info_parts info30
  obtain ⟨i0, hi, hi0, hi1, hi2⟩ := i30
  have hi := Lib.hid hi
  have zq := BZ.size
  go_wp2_with fail
  go_loopw [9, 10] (fun out i wr => ∃ k : Nat, k ≤ ul.length ∧ i = .int .i64 k ∧ OwnI wr wz.heap.size out (mf ub ul ur k) ∧ Below wz.heap.size wz wr) (fun _ i _ => ul.length - (intOf i).toNat)
  case atStart => exact ⟨0, by omega, rfl, World.ownsRow_nil _ _ _ _, Below.refl _ _⟩
  case round =>
    obtain ⟨k, hk, rfl, hown, hB⟩ := hrel
    have hz := hB.size
    have hlen := mf_len ub ul ur k
    by_cases hlt : k < ul.length
    · obtain ⟨b, off, hAd, hlb, hrd⟩ := sM.some hlt
      cases hAd
      obtain ⟨r0, r1⟩ := hrd.below hB hlb k hlt
      have hst := mf_succ ub ul ur k
      have sb1 := s1.below hB
      clear hrd
      generalize ith ul k = x at *
      have hq1 := indexC A1 c1 ub x wr (by omega) sb1
      have hq2 := fun w' h => indexC A3 c3 ur x w' (by omega) (sO.below h)
      have n1 := idx_nonneg (l := ub) (x := x)
      have n2 := idx_nonneg (l := ur) (x := x)
      generalize idx ub x = I1 at *
      generalize idx ur x = I2 at *
      by_cases dd1 : 0 ≤ I1
      · have d1 : decide (I1 < 0) = false := decide_eq_false (by omega)
        by_cases dd2 : 0 ≤ I2
        · have d2 : decide (0 ≤ I2) = true := decide_eq_true dd2
          rw [if_pos (.inr (n2.1 dd2))] at hst
          have hst' := Lib.hid hst
          clear dd1 dd2 hst n1 n2
          go_wp2_with fail
          refine hq1.mono ?_
          rintro e v1 ⟨rfl, hv1⟩
          have hB1 := hB.trans (hv1.mono hz)
          have y0 := (hv1.cell (p := ⟨b, off + k * 2, none⟩) (by show b < _; omega)).trans r0
          have y1 := (hv1.cell (p := ⟨b, off + k * 2 + 1, none⟩) (by show b < _; omega)).trans r1
          have hown1 := OwnI.below hown hv1
          clear hq1 r0 r1
          have zv1 := hB1.size
          go_wp2_with fail
          refine (hq2 v1 hB1).mono ?_
          rintro e v2 ⟨rfl, hv2⟩
          have hB2 := hB1.trans (hv2.mono (by omega))
          have y0 := (hv2.cell (p := ⟨b, off + k * 2, none⟩) (by show b < _; omega)).trans y0
          have y1 := (hv2.cell (p := ⟨b, off + k * 2 + 1, none⟩) (by show b < _; omega)).trans y1
          have hown2 := OwnI.below hown1 hv2
          have zv2 := hB2.size
          clear hq2 hown hown1 hv1 hv2
          go_wp2_with (at_builtin; refine wpList_append_lies _ rfl _ _ _ rfl wz.heap.size 30 i0 (.agg #[.int .i64 0, .int .i64 0]) 2 16 Tryd.underlying22 hi.out hi0 hi1 hi2 rfl (by omega) _ _ _ (by rfl) (hown2.alloc _) ⟨v2.heap.size, 0, none⟩ 1 1 (encId x) (by rfl) rfl ?_ ?_ (by omega) ?_ ?_ ?_ (v2.heap.size + 1) ?_ ?_)
          · exact World.news_of_block (heap_alloc_new v2 _)
          · intro u hu; simp [encId] at hu; rcases hu with rfl | rfl <;> rfl
          · unfold maxLen; omega
          · omega
          · simp; omega
          · simp
          · intro g cap w9 hown9 hgrow hat hlt1
            have hlo := hown2.lt
            go_wp2_with fail
            go_roundw
            case rel =>
              have e3 : (mf ub ul ur (k + 1)).length = (mf ub ul ur k).length + 1 := by rw [hst'.out]; simp
              refine ⟨k + 1, by omega, by go_num, ?_, (hB2.alloc (by omega) _).grown hgrow (by simp; omega) (fun j hj => (hlo j hj).1)⟩
              show World.ownsRow _ _ _ _ _ (mf ub ul ur (k + 1)).length (cellsI (mf ub ul ur (k + 1)))
              rw [e3, hst'.out, cellsI_snoc]
              exact hown9
            case measure => simp [intOf]; omega
        · have d2 : decide (0 ≤ I2) = false := decide_eq_false dd2
          rw [if_neg (fun h => h.elim (fun h => h (n1.1 dd1)) (fun h => dd2 (n2.2 h)))] at hst
          have hst' := Lib.hid hst
          clear dd1 dd2 hst n1 n2
          go_wp2_with fail
          refine hq1.mono ?_
          rintro e v1 ⟨rfl, hv1⟩
          have hB1 := hB.trans (hv1.mono hz)
          have y0 := (hv1.cell (p := ⟨b, off + k * 2, none⟩) (by show b < _; omega)).trans r0
          have y1 := (hv1.cell (p := ⟨b, off + k * 2 + 1, none⟩) (by show b < _; omega)).trans r1
          have hown1 := OwnI.below hown hv1
          clear hq1 r0 r1
          have zv1 := hB1.size
          go_wp2_with fail
          refine (hq2 v1 hB1).mono ?_
          rintro e v2 ⟨rfl, hv2⟩
          have hB2 := hB1.trans (hv2.mono (by omega))
          have hown2 := OwnI.below hown1 hv2
          go_wp2_with fail
          go_roundw
          case rel => exact ⟨k + 1, by omega, by go_num, by rw [hst'.out]; exact hown2, hB2⟩
          case measure => simp [intOf]; omega
      · have d1 : decide (I1 < 0) = true := decide_eq_true (by omega)
        rw [if_pos (.inl (fun h => dd1 (n1.2 h)))] at hst
        have hst' := Lib.hid hst
        clear dd1 hst n1 n2 hq2
        go_wp2_with fail
        refine hq1.mono ?_
        rintro e v1 ⟨rfl, hv1⟩
        have hB1 := hB.trans (hv1.mono hz)
        have y0 := (hv1.cell (p := ⟨b, off + k * 2, none⟩) (by show b < _; omega)).trans r0
        have y1 := (hv1.cell (p := ⟨b, off + k * 2 + 1, none⟩) (by show b < _; omega)).trans r1
        have hown1 := OwnI.below hown hv1
        have zv1 := hB1.size
        clear hq1 r0 r1 hown hv1
        go_wp2_with (at_builtin; refine wpList_append_lies _ rfl _ _ _ rfl wz.heap.size 30 i0 (.agg #[.int .i64 0, .int .i64 0]) 2 16 Tryd.underlying22 hi.out hi0 hi1 hi2 rfl (by omega) _ _ _ (by rfl) (hown1.alloc _) ⟨v1.heap.size, 0, none⟩ 1 1 (encId x) (by rfl) rfl ?_ ?_ (by omega) ?_ ?_ ?_ (v1.heap.size + 1) ?_ ?_)
        · exact World.news_of_block (heap_alloc_new v1 _)
        · intro u hu; simp [encId] at hu; rcases hu with rfl | rfl <;> rfl
        · unfold maxLen; omega
        · omega
        · simp; omega
        · simp
        · intro g cap w9 hown9 hgrow hat hlt1
          have hlo := hown1.lt
          go_wp2_with fail
          go_roundw
          case rel =>
            have e3 : (mf ub ul ur (k + 1)).length = (mf ub ul ur k).length + 1 := by rw [hst'.out]; simp
            refine ⟨k + 1, by omega, by go_num, ?_, (hB1.alloc (by omega) _).grown hgrow (by simp; omega) (fun j hj => (hlo j hj).1)⟩
            show World.ownsRow _ _ _ _ _ (mf ub ul ur (k + 1)).length (cellsI (mf ub ul ur (k + 1)))
            rw [e3, hst'.out, cellsI_snoc]
            exact hown9
          case measure => simp [intOf]; omega
    · obtain rfl : k = ul.length := by omega
      have hown : OwnI wr wz.heap.size u9 (sq ub ul ur 0) := hown
      clear hlt hk hlen
      go_wp2_with fail
      go_loopw [9, 11] (fun out i wq => ∃ k : Nat, k ≤ ur.length ∧ i = .int .i64 k ∧ OwnI wq wz.heap.size out (sq ub ul ur k) ∧ Below wz.heap.size wz wq) (fun _ i _ => ur.length - (intOf i).toNat)
      case atStart => exact ⟨0, by omega, rfl, hown, hB⟩
      case round =>
        clear hown hB hz
        obtain ⟨k, hk, rfl, hown, hB⟩ := hrel
        have hz := hB.size
        have hlen := sq_len ub ul ur k
        obtain ⟨AS, cS, rfl, hSl⟩ := hown.slice
        by_cases hlt : k < ur.length
        · obtain ⟨b, off, hAd, hlb, hrd⟩ := sO.some hlt
          cases hAd
          obtain ⟨r0, r1⟩ := hrd.below hB hlb k hlt
          have hst := sq_succ ub ul ur k
          have hpl := pos_le (sq ub ul ur k) ur k
          have hps := fun m => pos_succ (sq ub ul ur k) ur m
          have hp0 : pos (sq ub ul ur k) ur 0 = 0 := rfl
          have sb1 := s1.below hB
          generalize hx : ith ur k = x at *
          have hq1 := indexC A1 c1 ub x wr (by omega) sb1
          have hq2 := fun w' h => indexC A2 c2 ul x w' (by omega) (sM.below h)
          have n1 := idx_nonneg (l := ub) (x := x)
          have n2 := idx_nonneg (l := ul) (x := x)
          generalize idx ub x = I1 at *
          generalize idx ul x = I2 at *
          by_cases u1 : 0 ≤ I1
          · have d1 : decide (0 ≤ I1) = true := decide_eq_true u1
            rw [if_pos (.inl (n1.1 u1))] at hst
            have hst' := Lib.hid hst
            clear u1 hst hps hp0 hpl n1 n2 hq2 hx
            go_wp2_with fail
            refine hq1.mono ?_
            rintro e v1 ⟨rfl, hv1⟩
            go_wp2_with fail
            go_roundw
            case rel => exact ⟨k + 1, by omega, by go_num, by rw [hst'.out]; exact OwnI.below hown hv1, hB.trans (hv1.mono (by omega))⟩
            case measure => simp [intOf]; omega
          have d1 : decide (0 ≤ I1) = false := decide_eq_false u1
          by_cases u2 : 0 ≤ I2
          · have d2 : decide (0 ≤ I2) = true := decide_eq_true u2
            rw [if_pos (.inr (n2.1 u2))] at hst
            have hst' := Lib.hid hst
            clear u1 u2 hst hps hp0 hpl n1 n2 hx
            go_wp2_with fail
            refine hq1.mono ?_
            rintro e v1 ⟨rfl, hv1⟩
            have hB1 := hB.trans (hv1.mono hz)
            have y0 := (hv1.cell (p := ⟨b, off + k * 2, none⟩) (by show b < _; omega)).trans r0
            have y1 := (hv1.cell (p := ⟨b, off + k * 2 + 1, none⟩) (by show b < _; omega)).trans r1
            have hown1 := OwnI.below hown hv1
            have zv1 := hB1.size
            clear hq1 r0 r1
            go_wp2_with fail
            refine (hq2 v1 hB1).mono ?_
            rintro e v2 ⟨rfl, hv2⟩
            go_wp2_with fail
            go_roundw
            case rel => exact ⟨k + 1, by omega, by go_num, by rw [hst'.out]; exact OwnI.below hown1 hv2, hB1.trans (hv2.mono (by omega))⟩
            case measure => simp [intOf]; omega
          have d2 : decide (0 ≤ I2) = false := decide_eq_false u2
          rw [if_neg (fun h => h.elim (fun h => u1 (n1.2 h)) (fun h => u2 (n2.2 h)))] at hst
          have hst' := Lib.hid hst
          have hx' := Lib.hid hx
          clear u1 u2 hst n1 n2 hx
          go_wp2_with fail
          refine hq1.mono ?_
          rintro e v1 ⟨rfl, hv1⟩
          have hB1 := hB.trans (hv1.mono hz)
          have y0 := (hv1.cell (p := ⟨b, off + k * 2, none⟩) (by show b < _; omega)).trans r0
          have y1 := (hv1.cell (p := ⟨b, off + k * 2 + 1, none⟩) (by show b < _; omega)).trans r1
          have hown1 := OwnI.below hown hv1
          have zv1 := hB1.size
          clear hq1 r0 r1
          go_wp2_with fail
          refine (hq2 v1 hB1).mono ?_
          rintro e v2 ⟨rfl, hv2⟩
          have hB2 := hB1.trans (hv2.mono (by omega))
          have y0 := (hv2.cell (p := ⟨b, off + k * 2, none⟩) (by show b < _; omega)).trans y0
          have y1 := (hv2.cell (p := ⟨b, off + k * 2 + 1, none⟩) (by show b < _; omega)).trans y1
          have hown2 := OwnI.below hown1 hv2
          have zv2 := hB2.size
          have hSl2 : SlI v2 AS (sq ub ul ur k) := (hSl.below hv1).below hv2
          clear hq2 hown hown1 hv1 hv2 hB1 hB d1 hSl sb1
          generalize hSq : sq ub ul ur k = S at *
          clear hSq
          go_upto_block 4 with (fail)
          go_cut [12] (fun q wc => q = .int .i64 (pos S ur k : Nat) ∧ Below v2.heap.size v2 wc)
          case first =>
            clear y0 y1 hst' hpl hown2
            go_wp2_with fail
            go_loopw [12, 13] (fun at_ kk wv => ∃ (m : Nat) (a kI : Int), m ≤ k ∧ at_ = .int .i64 a ∧ kk = .int .i64 kI ∧ kI = (m : Int) - 1 ∧ Aside ((a = 0 ∧ pos S ur k = pos S ur m) ∨ (0 < a ∧ a = (pos S ur k : Nat))) ∧ Below v2.heap.size v2 wv) (fun _ kk _ => (intOf kk + 1).toNat)
            case atStart => exact ⟨k, 0, (k : Int) - 1, by omega, rfl, rfl, rfl, (show Aside _ from .inl ⟨rfl, rfl⟩), Below.refl _ _⟩
            case round =>
              obtain ⟨m, a, kI, hm, rfl, rfl, hkI, hA, hBv⟩ := hrel
              have hzv := hBv.size
              rcases hA.out with ⟨rfl, hA1⟩ | ⟨ha0, hA1⟩
              · clear hA
                by_cases hm0 : m = 0
                · subst hm0
                  obtain rfl : kI = -1 := by omega
                  clear hkI
                  rw [hp0] at hA1
                  have hA' := Lib.hid hA1
                  clear hA1 hps hp0
                  go_wp2_with fail
                  go_meet
                  exact ⟨by rw [hA'.out]; rfl, hBv⟩
                · obtain ⟨p, rfl⟩ : ∃ p, m = p + 1 := ⟨m - 1, by omega⟩
                  obtain rfl : kI = (p : Int) := by omega
                  clear hkI
                  obtain ⟨t0, t1⟩ := hrd.below (hB2.trans (hBv.mono (by omega))) hlb p (by omega)
                  have hpp := hps p
                  generalize ith ur p = y at *
                  have hix := indexC AS cS S y wr (by omega) (hSl2.below hBv)
                  have hbd := idx_bd S y
                  clear hps hp0
                  by_cases hin : y ∈ S
                  · rw [if_pos hin, ← hA1] at hpp
                    have e0 : idx S y = (idxN S y : Nat) := idx_in hin
                    have hpp' := Lib.hid (show (0 : Int) < idx S y + 1 ∧ idx S y + 1 = (pos S ur k : Nat) by omega)
                    clear hpp hA1 hin e0
                    generalize idx S y = I at *
                    go_wp2_with fail
                    refine hix.mono ?_
                    rintro e v3 ⟨rfl, hv3⟩
                    go_wp2_with fail
                    go_roundw
                    case rel => exact ⟨p, I + 1, (p : Int) - 1, by omega, rfl, by first | rfl | go_num, rfl, (show Aside _ from .inr hpp'.out), hBv.trans (hv3.mono (by omega))⟩
                    case measure => first | (simp [intOf]; done) | (simp [intOf]; omega)
                  · rw [if_neg hin] at hpp
                    have e0 : idx S y < 0 := by have := mt idx_nonneg.1 hin; omega
                    have hpp' := Lib.hid (show idx S y + 1 = 0 ∧ pos S ur k = pos S ur p from ⟨by omega, hA1.trans hpp⟩)
                    clear hpp hA1 hin
                    generalize idx S y = I at *
                    go_wp2_with fail
                    refine hix.mono ?_
                    rintro e v3 ⟨rfl, hv3⟩
                    go_wp2_with fail
                    go_roundw
                    case rel => exact ⟨p, I + 1, (p : Int) - 1, by omega, rfl, by first | rfl | go_num, rfl, (show Aside _ from .inl hpp'.out), hBv.trans (hv3.mono (by omega))⟩
                    case measure => first | (simp [intOf]; done) | (simp [intOf]; omega)
              · have hA1 := Lib.hid hA1
                have ea : (a == 0) = false := by simp; omega
                clear hA
                by_cases hm0 : m = 0
                · subst hm0
                  obtain rfl : kI = -1 := by omega
                  clear hkI hps hp0
                  go_wp2_with fail
                  go_meet
                  exact ⟨by rw [hA1.out], hBv⟩
                · obtain ⟨p, rfl⟩ : ∃ p, m = p + 1 := ⟨m - 1, by omega⟩
                  obtain rfl : kI = (p : Int) := by omega
                  clear hkI hps hp0
                  go_wp2_with fail
                  go_meet
                  exact ⟨by rw [hA1.out], hBv⟩
          case rest =>
            obtain ⟨rfl, hBc⟩ := hcut
            have zc := hBc.size
            have hownc := OwnI.below hown2 hBc
            have y0 := (hBc.cell (p := ⟨b, off + k * 2, none⟩) (by show b < _; omega)).trans y0
            have y1 := (hBc.cell (p := ⟨b, off + k * 2 + 1, none⟩) (by show b < _; omega)).trans y1
            have hBw := hB2.trans (hBc.mono (by omega))
            clear hps hp0 hown2 hSl2 hBc hB2
            generalize pos S ur k = p at *
            obtain ⟨T1, hT1⟩ : ∃ T1, T1 = S.take p := ⟨_, rfl⟩
            obtain ⟨D1, hD1⟩ : ∃ D1, D1 = S.drop p := ⟨_, rfl⟩
            have lT : Hid (T1.length = p) := by show _ = _; rw [hT1, List.length_take]; omega
            have lD : Hid (D1.length = S.length - p) := by show _ = _; rw [hD1, List.length_drop]
            have hTD : Hid ([] ++ T1 ++ [x] ++ D1 = insAt S p x) := by show _ = _; rw [hT1, hD1]; simp [insAt]
            rcases hownc.2 with ⟨hv, h0⟩ | ⟨g, cap, cur, hv, _, _, hnc, hcm, _, _⟩
            · simp only [Value.slice.injEq] at hv
              obtain ⟨rfl, _, rfl⟩ := hv
              obtain rfl : p = 0 := by omega
              have sT : SlI wc none T1 := .inl (by rw [hT1]; rfl)
              have sD : SlI wc none D1 := .inl (by rw [hD1, List.eq_nil_of_length_eq_zero h0]; rfl)
              have sT0 := True.intro
              have sD0 := True.intro
              have lD : Hid (D1.length = 0) := by show _ = _; rw [lD.out, h0]
              have h0' := Lib.hid h0
              clear hT1 hD1 hownc h0
              clear sT0 sD0
              have hown0 := OwnI.made wc
              have hB0 : Below wc.heap.size wc (wc.alloc (.cells #[] 30)) := (Below.refl _ _).alloc (Nat.le_refl _) _
              go_wp2_with (first
                | (at_builtin; refine wpList_appendSl _ rfl _ _ rfl wc.heap.size _ [] T1 (by rfl) hown0 none 0 (by rw [lT.out]; rfl) (sT.below hB0) (by simp only [List.length_nil]; rw [lT.out]; omega) (by simp) ?_; intro v3 w3 hown3 hg3; have hB3 : Below wc.heap.size wc w3 := hB0.grown hg3 (by simp) (fun j hj => (hown0.lt j hj).1); have z3 := hB3.size; have y0 := (hB3.cell (p := ⟨b, off + k * 2, none⟩) (by show b < _; omega)).trans y0; have y1 := (hB3.cell (p := ⟨b, off + k * 2 + 1, none⟩) (by show b < _; omega)).trans y1)
                | (at_builtin; refine wpList_appendSl _ rfl _ _ rfl wc.heap.size _ ([] ++ T1) [x] (by rfl) (hown3.alloc _) (some ⟨w3.heap.size, 0, none⟩) 1 (by rfl) (SlI.intro (by simp) (RdI.of_row (t := 30) (fz := (0, 0)) (heap_alloc_new w3 _))) (by simp only [List.length_append, List.length_nil, List.length_cons]; rw [lT.out]; omega) (by simp; omega) ?_; intro v4 w4 hown4 hg4; have hB4 : Below wc.heap.size wc w4 := (hB3.alloc z3 _).grown hg4 (by simp; omega) (fun j hj => ((hown3.alloc (.cells #[.int .i64 x.s, .int .i64 x.n] 30)).lt j hj).1); have z4 := hB4.size)
                | (at_builtin; refine wpList_appendSl _ rfl _ _ rfl wc.heap.size _ ([] ++ T1 ++ [x]) D1 (by rfl) hown4 none (0) (by rw [lD.out]; rfl) (sD.below hB4) (by simp only [List.length_append, List.length_nil, List.length_cons]; rw [lT.out, lD.out]; omega) z4 ?_; intro v5 w5 hown5 hg5; have hB5 : Below wc.heap.size wc w5 := hB4.grown hg5 z4 (fun j hj => (hown4.lt j hj).1); have z5 := hB5.size))
              go_roundw
              case rel => exact ⟨k + 1, by omega, by go_num, by rw [hst'.out, ← hTD.out]; exact OwnI.base hown5 (by omega), hBw.trans (hB5.mono (by omega))⟩
              case measure => simp [intOf]; omega

            · simp only [Value.slice.injEq, true_and] at hv
              obtain ⟨rfl, rfl⟩ := hv
              obtain ⟨hrdS, hlg⟩ := hownc.rd
              have sT : SlI wc (some ⟨g, 0, none⟩) T1 := by rw [hT1]; exact SlI.intro hlg (hrdS.take p)
              have sD0 : SlI wc (some ⟨g, 0 + p * 2, none⟩) D1 := by rw [hD1]; exact SlI.intro hlg (hrdS.drop p)
              have sT0 := True.intro
              unfold maxLen at hcm
              by_cases hpc : cS = p
              · have sD : SlI wc (some ⟨g, 0, none⟩) D1 := .inl (List.eq_nil_of_length_eq_zero (by rw [lD.out]; omega))
                subst hpc
                clear hT1 hD1 hownc hrdS
                have lD0 : Hid (D1.length = 0) := by show _ = _; rw [lD.out]; omega
                clear lD
                have lD := lD0
                clear lD0
                have hSL := Lib.hid (show S.length = cS by omega)
                generalize S.length = n at *
                obtain rfl : n = cS := hSL.out
                clear hSL
                by_cases hc0 : n = 0
                · subst hc0
                  clear sT0 sD0
                  have hown0 := OwnI.made wc
                  have hB0 : Below wc.heap.size wc (wc.alloc (.cells #[] 30)) := (Below.refl _ _).alloc (Nat.le_refl _) _
                  go_wp2_with (first
                    | (at_builtin; refine wpList_appendSl _ rfl _ _ rfl wc.heap.size _ [] T1 (by rfl) hown0 (some ⟨g, 0, none⟩) 0 (by rw [lT.out]; rfl) (sT.below hB0) (by simp only [List.length_nil]; rw [lT.out]; omega) (by simp) ?_; intro v3 w3 hown3 hg3; have hB3 : Below wc.heap.size wc w3 := hB0.grown hg3 (by simp) (fun j hj => (hown0.lt j hj).1); have z3 := hB3.size; have y0 := (hB3.cell (p := ⟨b, off + k * 2, none⟩) (by show b < _; omega)).trans y0; have y1 := (hB3.cell (p := ⟨b, off + k * 2 + 1, none⟩) (by show b < _; omega)).trans y1)
                    | (at_builtin; refine wpList_appendSl _ rfl _ _ rfl wc.heap.size _ ([] ++ T1) [x] (by rfl) (hown3.alloc _) (some ⟨w3.heap.size, 0, none⟩) 1 (by rfl) (SlI.intro (by simp) (RdI.of_row (t := 30) (fz := (0, 0)) (heap_alloc_new w3 _))) (by simp only [List.length_append, List.length_nil, List.length_cons]; rw [lT.out]; omega) (by simp; omega) ?_; intro v4 w4 hown4 hg4; have hB4 : Below wc.heap.size wc w4 := (hB3.alloc z3 _).grown hg4 (by simp; omega) (fun j hj => ((hown3.alloc (.cells #[.int .i64 x.s, .int .i64 x.n] 30)).lt j hj).1); have z4 := hB4.size)
                    | (at_builtin; refine wpList_appendSl _ rfl _ _ rfl wc.heap.size _ ([] ++ T1 ++ [x]) D1 (by rfl) hown4 (some ⟨g, 0, none⟩) (0) (by rw [lD.out]; rfl) (sD.below hB4) (by simp only [List.length_append, List.length_nil, List.length_cons]; rw [lT.out, lD.out]; omega) z4 ?_; intro v5 w5 hown5 hg5; have hB5 : Below wc.heap.size wc w5 := hB4.grown hg5 z4 (fun j hj => (hown4.lt j hj).1); have z5 := hB5.size))
                  go_roundw
                  case rel => exact ⟨k + 1, by omega, by go_num, by rw [hst'.out, ← hTD.out]; exact OwnI.base hown5 (by omega), hBw.trans (hB5.mono (by omega))⟩
                  case measure => simp [intOf]; omega

                · have hc1 : 0 < n := by omega
                  clear sT0 sD0
                  have hown0 := OwnI.made wc
                  have hB0 : Below wc.heap.size wc (wc.alloc (.cells #[] 30)) := (Below.refl _ _).alloc (Nat.le_refl _) _
                  go_wp2_with (first
                    | (at_builtin; refine wpList_appendSl _ rfl _ _ rfl wc.heap.size _ [] T1 (by rfl) hown0 (some ⟨g, 0, none⟩) n (by rw [lT.out]; rfl) (sT.below hB0) (by simp only [List.length_nil]; rw [lT.out]; omega) (by simp) ?_; intro v3 w3 hown3 hg3; have hB3 : Below wc.heap.size wc w3 := hB0.grown hg3 (by simp) (fun j hj => (hown0.lt j hj).1); have z3 := hB3.size; have y0 := (hB3.cell (p := ⟨b, off + k * 2, none⟩) (by show b < _; omega)).trans y0; have y1 := (hB3.cell (p := ⟨b, off + k * 2 + 1, none⟩) (by show b < _; omega)).trans y1)
                    | (at_builtin; refine wpList_appendSl _ rfl _ _ rfl wc.heap.size _ ([] ++ T1) [x] (by rfl) (hown3.alloc _) (some ⟨w3.heap.size, 0, none⟩) 1 (by rfl) (SlI.intro (by simp) (RdI.of_row (t := 30) (fz := (0, 0)) (heap_alloc_new w3 _))) (by simp only [List.length_append, List.length_nil, List.length_cons]; rw [lT.out]; omega) (by simp; omega) ?_; intro v4 w4 hown4 hg4; have hB4 : Below wc.heap.size wc w4 := (hB3.alloc z3 _).grown hg4 (by simp; omega) (fun j hj => ((hown3.alloc (.cells #[.int .i64 x.s, .int .i64 x.n] 30)).lt j hj).1); have z4 := hB4.size)
                    | (at_builtin; refine wpList_appendSl _ rfl _ _ rfl wc.heap.size _ ([] ++ T1 ++ [x]) D1 (by rfl) hown4 (some ⟨g, 0, none⟩) (0) (by rw [lD.out]; rfl) (sD.below hB4) (by simp only [List.length_append, List.length_nil, List.length_cons]; rw [lT.out, lD.out]; omega) z4 ?_; intro v5 w5 hown5 hg5; have hB5 : Below wc.heap.size wc w5 := hB4.grown hg5 z4 (fun j hj => (hown4.lt j hj).1); have z5 := hB5.size))
                  go_roundw
                  case rel => exact ⟨k + 1, by omega, by go_num, by rw [hst'.out, ← hTD.out]; exact OwnI.base hown5 (by omega), hBw.trans (hB5.mono (by omega))⟩
                  case measure => simp [intOf]; omega

              · have sD : SlI wc (some ⟨g, p * 2, none⟩) D1 := by rw [Nat.zero_add] at sD0; exact sD0
                clear hT1 hD1 hownc hrdS
                clear sT0 sD0
                have hown0 := OwnI.made wc
                have hB0 : Below wc.heap.size wc (wc.alloc (.cells #[] 30)) := (Below.refl _ _).alloc (Nat.le_refl _) _
                go_wp2_with (first
                  | (at_builtin; refine wpList_appendSl _ rfl _ _ rfl wc.heap.size _ [] T1 (by rfl) hown0 (some ⟨g, 0, none⟩) cS (by rw [lT.out]; rfl) (sT.below hB0) (by simp only [List.length_nil]; rw [lT.out]; omega) (by simp) ?_; intro v3 w3 hown3 hg3; have hB3 : Below wc.heap.size wc w3 := hB0.grown hg3 (by simp) (fun j hj => (hown0.lt j hj).1); have z3 := hB3.size; have y0 := (hB3.cell (p := ⟨b, off + k * 2, none⟩) (by show b < _; omega)).trans y0; have y1 := (hB3.cell (p := ⟨b, off + k * 2 + 1, none⟩) (by show b < _; omega)).trans y1)
                  | (at_builtin; refine wpList_appendSl _ rfl _ _ rfl wc.heap.size _ ([] ++ T1) [x] (by rfl) (hown3.alloc _) (some ⟨w3.heap.size, 0, none⟩) 1 (by rfl) (SlI.intro (by simp) (RdI.of_row (t := 30) (fz := (0, 0)) (heap_alloc_new w3 _))) (by simp only [List.length_append, List.length_nil, List.length_cons]; rw [lT.out]; omega) (by simp; omega) ?_; intro v4 w4 hown4 hg4; have hB4 : Below wc.heap.size wc w4 := (hB3.alloc z3 _).grown hg4 (by simp; omega) (fun j hj => ((hown3.alloc (.cells #[.int .i64 x.s, .int .i64 x.n] 30)).lt j hj).1); have z4 := hB4.size)
                  | (at_builtin; refine wpList_appendSl _ rfl _ _ rfl wc.heap.size _ ([] ++ T1 ++ [x]) D1 (by rfl) hown4 (some ⟨g, p * 2, none⟩) (cS - p) (by rw [lD.out]; rfl) (sD.below hB4) (by simp only [List.length_append, List.length_nil, List.length_cons]; rw [lT.out, lD.out]; omega) z4 ?_; intro v5 w5 hown5 hg5; have hB5 : Below wc.heap.size wc w5 := hB4.grown hg5 z4 (fun j hj => (hown4.lt j hj).1); have z5 := hB5.size))
                go_roundw
                case rel => exact ⟨k + 1, by omega, by go_num, by rw [hst'.out, ← hTD.out]; exact OwnI.base hown5 (by omega), hBw.trans (hB5.mono (by omega))⟩
                case measure => simp [intOf]; omega

        · obtain rfl : k = ur.length := by omega
          go_wp2_with fail
          go_ret
          exact ⟨⟨AS, cS, rfl, hSl⟩, BZ.trans (hB.mono (by omega))⟩

set_option maxHeartbeats 16000000 in
set_option maxRecDepth 100000 in
theorem mseqB (Ab Al Ar : Option Addr) (cb cl cr : Nat) (base left right : List Id) (w : World) (hb1 : base.length ≤ 100) (hl1 : left.length ≤ 100) (hr1 : right.length ≤ 100) (hb : SlI w Ab base) (hl : SlI w Al left) (hr : SlI w Ar right)
    (h1 : ordB (uniq base) (uniq left) = true) (h2 : ordB (uniq base) (uniq right) = true) :
    Calls Tryd.prog 9 #[.slice Ab base.length cb, .slice Al left.length cl, .slice Ar right.length cr] w fun r w' => RetI w w' r (seqMO (uniq base) (uniq left) (uniq right)) := by
  have q1 := fun w h => distinctC Ab cb base w (by omega) h
  have q2 := fun w h => distinctC Al cl left w (by omega) h
  have q3 := fun w h => distinctC Ar cr right w (by omega) h
  have nb := uniq_nodup base
  have lb := uniq_len base
  have ll := uniq_len left
  have lr := uniq_len right
  generalize uniq base = ub at *
  generalize uniq left = ul at *
  generalize uniq right = ur at *
  unfold seqMO
  go_enter Tryd.func9, Tryd.ntmps9
  go_wp2_with fail
  refine (q1 w hb).mono ?_
  rintro e w1 ⟨⟨A1, c1, rfl, s1⟩, B1⟩
  have hl := hl.below B1
  have hr := hr.below B1
  have z1 := B1.size
  go_wp2_with fail
  refine (q2 w1 hl).mono ?_
  rintro e w2 ⟨⟨A2, c2, rfl, s2⟩, B2⟩
  have hr := hr.below B2
  have s1 := s1.below B2
  have B2 := B1.trans (B2.mono z1)
  have z2 := B2.size
  go_wp2_with fail
  refine (q3 w2 hr).mono ?_
  rintro e w3 ⟨⟨A3, c3, rfl, s3⟩, B3⟩
  have s1 := s1.below B3
  have s2 := s2.below B3
  have B3 := B2.trans (B3.mono z2)
  have z3 := B3.size
  clear hb hl hr q1 q2 q3 B1 B2 z1 z2
  have o1 := fun w s1 s2 => orderedM A1 c1 ub A2 c2 ul w (by omega) (by omega) s1 s2
  have o2 := fun w s1 s3 => orderedM A1 c1 ub A3 c3 ur w (by omega) (by omega) s1 s3
  go_wp2_with fail
  refine (o1 w3 s1 s2).mono ?_
  rintro e w4 ⟨rfl, B4⟩
  have s1 := s1.below B4
  have s2 := s2.below B4
  have s3 := s3.below B4
  have B4 := B3.trans (B4.mono z3)
  have z4 := B4.size
  rw [h1]
  go_wp2_with fail
  refine (o2 w4 s1 s3).mono ?_
  rintro e wz ⟨rfl, B5⟩
  have s1 := s1.below B5
  have sM := s2.below B5
  have sO := s3.below B5
  have BZ := B4.trans (B5.mono z4)
  rw [h2]
  clear s2 s3 B3 B4 B5 z3 z4 h1 h2
  clear o1 o2 nb
  have i30 := info_parts info30
  obtain ⟨i0, hi, hi0, hi1, hi2⟩ := i30
  have hi := Lib.hid hi
  have zq := BZ.size
  go_wp2_with fail
  go_loopw [9, 10] (fun out i wr => ∃ k : Nat, k ≤ ul.length ∧ i = .int .i64 k ∧ OwnI wr wz.heap.size out (mf ub ul ur k) ∧ Below wz.heap.size wz wr) (fun _ i _ => ul.length - (intOf i).toNat)
  case atStart => exact ⟨0, by omega, rfl, World.ownsRow_nil _ _ _ _, Below.refl _ _⟩
  case round =>
    obtain ⟨k, hk, rfl, hown, hB⟩ := hrel
    have hz := hB.size
    have hlen := mf_len ub ul ur k
    by_cases hlt : k < ul.length
    · obtain ⟨b, off, hAd, hlb, hrd⟩ := sM.some hlt
      cases hAd
      obtain ⟨r0, r1⟩ := hrd.below hB hlb k hlt
      have hst := mf_succ ub ul ur k
      have sb1 := s1.below hB
      clear hrd
      generalize ith ul k = x at *
      have hq1 := indexC A1 c1 ub x wr (by omega) sb1
      have hq2 := fun w' h => indexC A3 c3 ur x w' (by omega) (sO.below h)
      have n1 := idx_nonneg (l := ub) (x := x)
      have n2 := idx_nonneg (l := ur) (x := x)
      generalize idx ub x = I1 at *
      generalize idx ur x = I2 at *
      by_cases dd1 : 0 ≤ I1
      · have d1 : decide (I1 < 0) = false := decide_eq_false (by omega)
        by_cases dd2 : 0 ≤ I2
        · have d2 : decide (0 ≤ I2) = true := decide_eq_true dd2
          rw [if_pos (.inr (n2.1 dd2))] at hst
          have hst' := Lib.hid hst
          clear dd1 dd2 hst n1 n2
          go_wp2_with fail
          refine hq1.mono ?_
          rintro e v1 ⟨rfl, hv1⟩
          have hB1 := hB.trans (hv1.mono hz)
          have y0 := (hv1.cell (p := ⟨b, off + k * 2, none⟩) (by show b < _; omega)).trans r0
          have y1 := (hv1.cell (p := ⟨b, off + k * 2 + 1, none⟩) (by show b < _; omega)).trans r1
          have hown1 := OwnI.below hown hv1
          clear hq1 r0 r1
          have zv1 := hB1.size
          go_wp2_with fail
          refine (hq2 v1 hB1).mono ?_
          rintro e v2 ⟨rfl, hv2⟩
          have hB2 := hB1.trans (hv2.mono (by omega))
          have y0 := (hv2.cell (p := ⟨b, off + k * 2, none⟩) (by show b < _; omega)).trans y0
          have y1 := (hv2.cell (p := ⟨b, off + k * 2 + 1, none⟩) (by show b < _; omega)).trans y1
          have hown2 := OwnI.below hown1 hv2
          have zv2 := hB2.size
          clear hq2 hown hown1 hv1 hv2
          go_wp2_with (at_builtin; refine wpList_append_lies _ rfl _ _ _ rfl wz.heap.size 30 i0 (.agg #[.int .i64 0, .int .i64 0]) 2 16 Tryd.underlying22 hi.out hi0 hi1 hi2 rfl (by omega) _ _ _ (by rfl) (hown2.alloc _) ⟨v2.heap.size, 0, none⟩ 1 1 (encId x) (by rfl) rfl ?_ ?_ (by omega) ?_ ?_ ?_ (v2.heap.size + 1) ?_ ?_)
          · exact World.news_of_block (heap_alloc_new v2 _)
          · intro u hu; simp [encId] at hu; rcases hu with rfl | rfl <;> rfl
          · unfold maxLen; omega
          · omega
          · simp; omega
          · simp
          · intro g cap w9 hown9 hgrow hat hlt1
            have hlo := hown2.lt
            go_wp2_with fail
            go_roundw
            case rel =>
              have e3 : (mf ub ul ur (k + 1)).length = (mf ub ul ur k).length + 1 := by rw [hst'.out]; simp
              refine ⟨k + 1, by omega, by go_num, ?_, (hB2.alloc (by omega) _).grown hgrow (by simp; omega) (fun j hj => (hlo j hj).1)⟩
              show World.ownsRow _ _ _ _ _ (mf ub ul ur (k + 1)).length (cellsI (mf ub ul ur (k + 1)))
              rw [e3, hst'.out, cellsI_snoc]
              exact hown9
            case measure => simp [intOf]; omega
        · have d2 : decide (0 ≤ I2) = false := decide_eq_false dd2
          rw [if_neg (fun h => h.elim (fun h => h (n1.1 dd1)) (fun h => dd2 (n2.2 h)))] at hst
          have hst' := Lib.hid hst
          clear dd1 dd2 hst n1 n2
          go_wp2_with fail
          refine hq1.mono ?_
          rintro e v1 ⟨rfl, hv1⟩
          have hB1 := hB.trans (hv1.mono hz)
          have y0 := (hv1.cell (p := ⟨b, off + k * 2, none⟩) (by show b < _; omega)).trans r0
          have y1 := (hv1.cell (p := ⟨b, off + k * 2 + 1, none⟩) (by show b < _; omega)).trans r1
          have hown1 := OwnI.below hown hv1
          clear hq1 r0 r1
          have zv1 := hB1.size
          go_wp2_with fail
          refine (hq2 v1 hB1).mono ?_
          rintro e v2 ⟨rfl, hv2⟩
          have hB2 := hB1.trans (hv2.mono (by omega))
          have hown2 := OwnI.below hown1 hv2
          go_wp2_with fail
          go_roundw
          case rel => exact ⟨k + 1, by omega, by go_num, by rw [hst'.out]; exact hown2, hB2⟩
          case measure => simp [intOf]; omega
      · have d1 : decide (I1 < 0) = true := decide_eq_true (by omega)
        rw [if_pos (.inl (fun h => dd1 (n1.2 h)))] at hst
        have hst' := Lib.hid hst
        clear dd1 hst n1 n2 hq2
        go_wp2_with fail
        refine hq1.mono ?_
        rintro e v1 ⟨rfl, hv1⟩
        have hB1 := hB.trans (hv1.mono hz)
        have y0 := (hv1.cell (p := ⟨b, off + k * 2, none⟩) (by show b < _; omega)).trans r0
        have y1 := (hv1.cell (p := ⟨b, off + k * 2 + 1, none⟩) (by show b < _; omega)).trans r1
        have hown1 := OwnI.below hown hv1
        have zv1 := hB1.size
        clear hq1 r0 r1 hown hv1
        go_wp2_with (at_builtin; refine wpList_append_lies _ rfl _ _ _ rfl wz.heap.size 30 i0 (.agg #[.int .i64 0, .int .i64 0]) 2 16 Tryd.underlying22 hi.out hi0 hi1 hi2 rfl (by omega) _ _ _ (by rfl) (hown1.alloc _) ⟨v1.heap.size, 0, none⟩ 1 1 (encId x) (by rfl) rfl ?_ ?_ (by omega) ?_ ?_ ?_ (v1.heap.size + 1) ?_ ?_)
        · exact World.news_of_block (heap_alloc_new v1 _)
        · intro u hu; simp [encId] at hu; rcases hu with rfl | rfl <;> rfl
        · unfold maxLen; omega
        · omega
        · simp; omega
        · simp
        · intro g cap w9 hown9 hgrow hat hlt1
          have hlo := hown1.lt
          go_wp2_with fail
          go_roundw
          case rel =>
            have e3 : (mf ub ul ur (k + 1)).length = (mf ub ul ur k).length + 1 := by rw [hst'.out]; simp
            refine ⟨k + 1, by omega, by go_num, ?_, (hB1.alloc (by omega) _).grown hgrow (by simp; omega) (fun j hj => (hlo j hj).1)⟩
            show World.ownsRow _ _ _ _ _ (mf ub ul ur (k + 1)).length (cellsI (mf ub ul ur (k + 1)))
            rw [e3, hst'.out, cellsI_snoc]
            exact hown9
          case measure => simp [intOf]; omega
    · obtain rfl : k = ul.length := by omega
      have hown : OwnI wr wz.heap.size u9 (sq ub ul ur 0) := hown
      clear hlt hk hlen
      go_wp2_with fail
      go_loopw [9, 11] (fun out i wq => ∃ k : Nat, k ≤ ur.length ∧ i = .int .i64 k ∧ OwnI wq wz.heap.size out (sq ub ul ur k) ∧ Below wz.heap.size wz wq) (fun _ i _ => ur.length - (intOf i).toNat)
      case atStart => exact ⟨0, by omega, rfl, hown, hB⟩
      case round =>
        clear hown hB hz
        obtain ⟨k, hk, rfl, hown, hB⟩ := hrel
        have hz := hB.size
        have hlen := sq_len ub ul ur k
        obtain ⟨AS, cS, rfl, hSl⟩ := hown.slice
        by_cases hlt : k < ur.length
        · obtain ⟨b, off, hAd, hlb, hrd⟩ := sO.some hlt
          cases hAd
          obtain ⟨r0, r1⟩ := hrd.below hB hlb k hlt
          have hst := sq_succ ub ul ur k
          have hpl := pos_le (sq ub ul ur k) ur k
          have hps := fun m => pos_succ (sq ub ul ur k) ur m
          have hp0 : pos (sq ub ul ur k) ur 0 = 0 := rfl
          have sb1 := s1.below hB
          generalize hx : ith ur k = x at *
          have hq1 := indexC A1 c1 ub x wr (by omega) sb1
          have hq2 := fun w' h => indexC A2 c2 ul x w' (by omega) (sM.below h)
          have n1 := idx_nonneg (l := ub) (x := x)
          have n2 := idx_nonneg (l := ul) (x := x)
          generalize idx ub x = I1 at *
          generalize idx ul x = I2 at *
          by_cases u1 : 0 ≤ I1
          · have d1 : decide (0 ≤ I1) = true := decide_eq_true u1
            rw [if_pos (.inl (n1.1 u1))] at hst
            have hst' := Lib.hid hst
            clear u1 hst hps hp0 hpl n1 n2 hq2 hx
            go_wp2_with fail
            refine hq1.mono ?_
            rintro e v1 ⟨rfl, hv1⟩
            go_wp2_with fail
            go_roundw
            case rel => exact ⟨k + 1, by omega, by go_num, by rw [hst'.out]; exact OwnI.below hown hv1, hB.trans (hv1.mono (by omega))⟩
            case measure => simp [intOf]; omega
          have d1 : decide (0 ≤ I1) = false := decide_eq_false u1
          by_cases u2 : 0 ≤ I2
          · have d2 : decide (0 ≤ I2) = true := decide_eq_true u2
            rw [if_pos (.inr (n2.1 u2))] at hst
            have hst' := Lib.hid hst
            clear u1 u2 hst hps hp0 hpl n1 n2 hx
            go_wp2_with fail
            refine hq1.mono ?_
            rintro e v1 ⟨rfl, hv1⟩
            have hB1 := hB.trans (hv1.mono hz)
            have y0 := (hv1.cell (p := ⟨b, off + k * 2, none⟩) (by show b < _; omega)).trans r0
            have y1 := (hv1.cell (p := ⟨b, off + k * 2 + 1, none⟩) (by show b < _; omega)).trans r1
            have hown1 := OwnI.below hown hv1
            have zv1 := hB1.size
            clear hq1 r0 r1
            go_wp2_with fail
            refine (hq2 v1 hB1).mono ?_
            rintro e v2 ⟨rfl, hv2⟩
            go_wp2_with fail
            go_roundw
            case rel => exact ⟨k + 1, by omega, by go_num, by rw [hst'.out]; exact OwnI.below hown1 hv2, hB1.trans (hv2.mono (by omega))⟩
            case measure => simp [intOf]; omega
          have d2 : decide (0 ≤ I2) = false := decide_eq_false u2
          rw [if_neg (fun h => h.elim (fun h => u1 (n1.2 h)) (fun h => u2 (n2.2 h)))] at hst
          have hst' := Lib.hid hst
          have hx' := Lib.hid hx
          clear u1 u2 hst n1 n2 hx
          go_wp2_with fail
          refine hq1.mono ?_
          rintro e v1 ⟨rfl, hv1⟩
          have hB1 := hB.trans (hv1.mono hz)
          have y0 := (hv1.cell (p := ⟨b, off + k * 2, none⟩) (by show b < _; omega)).trans r0
          have y1 := (hv1.cell (p := ⟨b, off + k * 2 + 1, none⟩) (by show b < _; omega)).trans r1
          have hown1 := OwnI.below hown hv1
          have zv1 := hB1.size
          clear hq1 r0 r1
          go_wp2_with fail
          refine (hq2 v1 hB1).mono ?_
          rintro e v2 ⟨rfl, hv2⟩
          have hB2 := hB1.trans (hv2.mono (by omega))
          have y0 := (hv2.cell (p := ⟨b, off + k * 2, none⟩) (by show b < _; omega)).trans y0
          have y1 := (hv2.cell (p := ⟨b, off + k * 2 + 1, none⟩) (by show b < _; omega)).trans y1
          have hown2 := OwnI.below hown1 hv2
          have zv2 := hB2.size
          have hSl2 : SlI v2 AS (sq ub ul ur k) := (hSl.below hv1).below hv2
          clear hq2 hown hown1 hv1 hv2 hB1 hB d1 hSl sb1
          generalize hSq : sq ub ul ur k = S at *
          clear hSq
          go_upto_block 4 with (fail)
          go_cut [12] (fun q wc => q = .int .i64 (pos S ur k : Nat) ∧ Below v2.heap.size v2 wc)
          case first =>
            clear y0 y1 hst' hpl hown2
            go_wp2_with fail
            go_loopw [12, 13] (fun at_ kk wv => ∃ (m : Nat) (a kI : Int), m ≤ k ∧ at_ = .int .i64 a ∧ kk = .int .i64 kI ∧ kI = (m : Int) - 1 ∧ Aside ((a = 0 ∧ pos S ur k = pos S ur m) ∨ (0 < a ∧ a = (pos S ur k : Nat))) ∧ Below v2.heap.size v2 wv) (fun _ kk _ => (intOf kk + 1).toNat)
            case atStart => exact ⟨k, 0, (k : Int) - 1, by omega, rfl, rfl, rfl, (show Aside _ from .inl ⟨rfl, rfl⟩), Below.refl _ _⟩
            case round =>
              obtain ⟨m, a, kI, hm, rfl, rfl, hkI, hA, hBv⟩ := hrel
              have hzv := hBv.size
              rcases hA.out with ⟨rfl, hA1⟩ | ⟨ha0, hA1⟩
              · clear hA
                by_cases hm0 : m = 0
                · subst hm0
                  obtain rfl : kI = -1 := by omega
                  clear hkI
                  rw [hp0] at hA1
                  have hA' := Lib.hid hA1
                  clear hA1 hps hp0
                  go_wp2_with fail
                  go_meet
                  exact ⟨by rw [hA'.out]; rfl, hBv⟩
                · obtain ⟨p, rfl⟩ : ∃ p, m = p + 1 := ⟨m - 1, by omega⟩
                  obtain rfl : kI = (p : Int) := by omega
                  clear hkI
                  obtain ⟨t0, t1⟩ := hrd.below (hB2.trans (hBv.mono (by omega))) hlb p (by omega)
                  have hpp := hps p
                  generalize ith ur p = y at *
                  have hix := indexC AS cS S y wr (by omega) (hSl2.below hBv)
                  have hbd := idx_bd S y
                  clear hps hp0
                  by_cases hin : y ∈ S
                  · rw [if_pos hin, ← hA1] at hpp
                    have e0 : idx S y = (idxN S y : Nat) := idx_in hin
                    have hpp' := Lib.hid (show (0 : Int) < idx S y + 1 ∧ idx S y + 1 = (pos S ur k : Nat) by omega)
                    clear hpp hA1 hin e0
                    generalize idx S y = I at *
                    go_wp2_with fail
                    refine hix.mono ?_
                    rintro e v3 ⟨rfl, hv3⟩
                    go_wp2_with fail
                    go_roundw
                    case rel => exact ⟨p, I + 1, (p : Int) - 1, by omega, rfl, by first | rfl | go_num, rfl, (show Aside _ from .inr hpp'.out), hBv.trans (hv3.mono (by omega))⟩
                    case measure => first | (simp [intOf]; done) | (simp [intOf]; omega)
                  · rw [if_neg hin] at hpp
                    have e0 : idx S y < 0 := by have := mt idx_nonneg.1 hin; omega
                    have hpp' := Lib.hid (show idx S y + 1 = 0 ∧ pos S ur k = pos S ur p from ⟨by omega, hA1.trans hpp⟩)
                    clear hpp hA1 hin
                    generalize idx S y = I at *
                    go_wp2_with fail
                    refine hix.mono ?_
                    rintro e v3 ⟨rfl, hv3⟩
                    go_wp2_with fail
                    go_roundw
                    case rel => exact ⟨p, I + 1, (p : Int) - 1, by omega, rfl, by first | rfl | go_num, rfl, (show Aside _ from .inl hpp'.out), hBv.trans (hv3.mono (by omega))⟩
                    case measure => first | (simp [intOf]; done) | (simp [intOf]; omega)
              · have hA1 := Lib.hid hA1
                have ea : (a == 0) = false := by simp; omega
                clear hA
                by_cases hm0 : m = 0
                · subst hm0
                  obtain rfl : kI = -1 := by omega
                  clear hkI hps hp0
                  go_wp2_with fail
                  go_meet
                  exact ⟨by rw [hA1.out], hBv⟩
                · obtain ⟨p, rfl⟩ : ∃ p, m = p + 1 := ⟨m - 1, by omega⟩
                  obtain rfl : kI = (p : Int) := by omega
                  clear hkI hps hp0
                  go_wp2_with fail
                  go_meet
                  exact ⟨by rw [hA1.out], hBv⟩
          case rest =>
            obtain ⟨rfl, hBc⟩ := hcut
            have zc := hBc.size
            have hownc := OwnI.below hown2 hBc
            have y0 := (hBc.cell (p := ⟨b, off + k * 2, none⟩) (by show b < _; omega)).trans y0
            have y1 := (hBc.cell (p := ⟨b, off + k * 2 + 1, none⟩) (by show b < _; omega)).trans y1
            have hBw := hB2.trans (hBc.mono (by omega))
            clear hps hp0 hown2 hSl2 hBc hB2
            generalize pos S ur k = p at *
            obtain ⟨T1, hT1⟩ : ∃ T1, T1 = S.take p := ⟨_, rfl⟩
            obtain ⟨D1, hD1⟩ : ∃ D1, D1 = S.drop p := ⟨_, rfl⟩
            have lT : Hid (T1.length = p) := by show _ = _; rw [hT1, List.length_take]; omega
            have lD : Hid (D1.length = S.length - p) := by show _ = _; rw [hD1, List.length_drop]
            have hTD : Hid ([] ++ T1 ++ [x] ++ D1 = insAt S p x) := by show _ = _; rw [hT1, hD1]; simp [insAt]
            rcases hownc.2 with ⟨hv, h0⟩ | ⟨g, cap, cur, hv, _, _, hnc, hcm, _, _⟩
            · simp only [Value.slice.injEq] at hv
              obtain ⟨rfl, _, rfl⟩ := hv
              obtain rfl : p = 0 := by omega
              have sT : SlI wc none T1 := .inl (by rw [hT1]; rfl)
              have sD : SlI wc none D1 := .inl (by rw [hD1, List.eq_nil_of_length_eq_zero h0]; rfl)
              have sT0 := True.intro
              have sD0 := True.intro
              have lD : Hid (D1.length = 0) := by show _ = _; rw [lD.out, h0]
              have h0' := Lib.hid h0
              clear hT1 hD1 hownc h0
              clear sT0 sD0
              have hown0 := OwnI.made wc
              have hB0 : Below wc.heap.size wc (wc.alloc (.cells #[] 30)) := (Below.refl _ _).alloc (Nat.le_refl _) _
              go_wp2_with (first
                | (at_builtin; refine wpList_appendSl _ rfl _ _ rfl wc.heap.size _ [] T1 (by rfl) hown0 none 0 (by rw [lT.out]; rfl) (sT.below hB0) (by simp only [List.length_nil]; rw [lT.out]; omega) (by simp) ?_; intro v3 w3 hown3 hg3; have hB3 : Below wc.heap.size wc w3 := hB0.grown hg3 (by simp) (fun j hj => (hown0.lt j hj).1); have z3 := hB3.size; have y0 := (hB3.cell (p := ⟨b, off + k * 2, none⟩) (by show b < _; omega)).trans y0; have y1 := (hB3.cell (p := ⟨b, off + k * 2 + 1, none⟩) (by show b < _; omega)).trans y1)
                | (at_builtin; refine wpList_appendSl _ rfl _ _ rfl wc.heap.size _ ([] ++ T1) [x] (by rfl) (hown3.alloc _) (some ⟨w3.heap.size, 0, none⟩) 1 (by rfl) (SlI.intro (by simp) (RdI.of_row (t := 30) (fz := (0, 0)) (heap_alloc_new w3 _))) (by simp only [List.length_append, List.length_nil, List.length_cons]; rw [lT.out]; omega) (by simp; omega) ?_; intro v4 w4 hown4 hg4; have hB4 : Below wc.heap.size wc w4 := (hB3.alloc z3 _).grown hg4 (by simp; omega) (fun j hj => ((hown3.alloc (.cells #[.int .i64 x.s, .int .i64 x.n] 30)).lt j hj).1); have z4 := hB4.size)
                | (at_builtin; refine wpList_appendSl _ rfl _ _ rfl wc.heap.size _ ([] ++ T1 ++ [x]) D1 (by rfl) hown4 none (0) (by rw [lD.out]; rfl) (sD.below hB4) (by simp only [List.length_append, List.length_nil, List.length_cons]; rw [lT.out, lD.out]; omega) z4 ?_; intro v5 w5 hown5 hg5; have hB5 : Below wc.heap.size wc w5 := hB4.grown hg5 z4 (fun j hj => (hown4.lt j hj).1); have z5 := hB5.size))
              go_roundw
              case rel => exact ⟨k + 1, by omega, by go_num, by rw [hst'.out, ← hTD.out]; exact OwnI.base hown5 (by omega), hBw.trans (hB5.mono (by omega))⟩
              case measure => simp [intOf]; omega

            · simp only [Value.slice.injEq, true_and] at hv
              obtain ⟨rfl, rfl⟩ := hv
              obtain ⟨hrdS, hlg⟩ := hownc.rd
              have sT : SlI wc (some ⟨g, 0, none⟩) T1 := by rw [hT1]; exact SlI.intro hlg (hrdS.take p)
              have sD0 : SlI wc (some ⟨g, 0 + p * 2, none⟩) D1 := by rw [hD1]; exact SlI.intro hlg (hrdS.drop p)
              have sT0 := True.intro
              unfold maxLen at hcm
              by_cases hpc : cS = p
              · have sD : SlI wc (some ⟨g, 0, none⟩) D1 := .inl (List.eq_nil_of_length_eq_zero (by rw [lD.out]; omega))
                subst hpc
                clear hT1 hD1 hownc hrdS
                have lD0 : Hid (D1.length = 0) := by show _ = _; rw [lD.out]; omega
                clear lD
                have lD := lD0
                clear lD0
                have hSL := Lib.hid (show S.length = cS by omega)
                generalize S.length = n at *
                obtain rfl : n = cS := hSL.out
                clear hSL
                by_cases hc0 : n = 0
                · subst hc0
                  clear sT0 sD0
                  have hown0 := OwnI.made wc
                  have hB0 : Below wc.heap.size wc (wc.alloc (.cells #[] 30)) := (Below.refl _ _).alloc (Nat.le_refl _) _
                  go_wp2_with (first
                    | (at_builtin; refine wpList_appendSl _ rfl _ _ rfl wc.heap.size _ [] T1 (by rfl) hown0 (some ⟨g, 0, none⟩) 0 (by rw [lT.out]; rfl) (sT.below hB0) (by simp only [List.length_nil]; rw [lT.out]; omega) (by simp) ?_; intro v3 w3 hown3 hg3; have hB3 : Below wc.heap.size wc w3 := hB0.grown hg3 (by simp) (fun j hj => (hown0.lt j hj).1); have z3 := hB3.size; have y0 := (hB3.cell (p := ⟨b, off + k * 2, none⟩) (by show b < _; omega)).trans y0; have y1 := (hB3.cell (p := ⟨b, off + k * 2 + 1, none⟩) (by show b < _; omega)).trans y1)
                    | (at_builtin; refine wpList_appendSl _ rfl _ _ rfl wc.heap.size _ ([] ++ T1) [x] (by rfl) (hown3.alloc _) (some ⟨w3.heap.size, 0, none⟩) 1 (by rfl) (SlI.intro (by simp) (RdI.of_row (t := 30) (fz := (0, 0)) (heap_alloc_new w3 _))) (by simp only [List.length_append, List.length_nil, List.length_cons]; rw [lT.out]; omega) (by simp; omega) ?_; intro v4 w4 hown4 hg4; have hB4 : Below wc.heap.size wc w4 := (hB3.alloc z3 _).grown hg4 (by simp; omega) (fun j hj => ((hown3.alloc (.cells #[.int .i64 x.s, .int .i64 x.n] 30)).lt j hj).1); have z4 := hB4.size)
                    | (at_builtin; refine wpList_appendSl _ rfl _ _ rfl wc.heap.size _ ([] ++ T1 ++ [x]) D1 (by rfl) hown4 (some ⟨g, 0, none⟩) (0) (by rw [lD.out]; rfl) (sD.below hB4) (by simp only [List.length_append, List.length_nil, List.length_cons]; rw [lT.out, lD.out]; omega) z4 ?_; intro v5 w5 hown5 hg5; have hB5 : Below wc.heap.size wc w5 := hB4.grown hg5 z4 (fun j hj => (hown4.lt j hj).1); have z5 := hB5.size))
                  go_roundw
                  case rel => exact ⟨k + 1, by omega, by go_num, by rw [hst'.out, ← hTD.out]; exact OwnI.base hown5 (by omega), hBw.trans (hB5.mono (by omega))⟩
                  case measure => simp [intOf]; omega

                · have hc1 : 0 < n := by omega
                  clear sT0 sD0
                  have hown0 := OwnI.made wc
                  have hB0 : Below wc.heap.size wc (wc.alloc (.cells #[] 30)) := (Below.refl _ _).alloc (Nat.le_refl _) _
                  go_wp2_with (first
                    | (at_builtin; refine wpList_appendSl _ rfl _ _ rfl wc.heap.size _ [] T1 (by rfl) hown0 (some ⟨g, 0, none⟩) n (by rw [lT.out]; rfl) (sT.below hB0) (by simp only [List.length_nil]; rw [lT.out]; omega) (by simp) ?_; intro v3 w3 hown3 hg3; have hB3 : Below wc.heap.size wc w3 := hB0.grown hg3 (by simp) (fun j hj => (hown0.lt j hj).1); have z3 := hB3.size; have y0 := (hB3.cell (p := ⟨b, off + k * 2, none⟩) (by show b < _; omega)).trans y0; have y1 := (hB3.cell (p := ⟨b, off + k * 2 + 1, none⟩) (by show b < _; omega)).trans y1)
                    | (at_builtin; refine wpList_appendSl _ rfl _ _ rfl wc.heap.size _ ([] ++ T1) [x] (by rfl) (hown3.alloc _) (some ⟨w3.heap.size, 0, none⟩) 1 (by rfl) (SlI.intro (by simp) (RdI.of_row (t := 30) (fz := (0, 0)) (heap_alloc_new w3 _))) (by simp only [List.length_append, List.length_nil, List.length_cons]; rw [lT.out]; omega) (by simp; omega) ?_; intro v4 w4 hown4 hg4; have hB4 : Below wc.heap.size wc w4 := (hB3.alloc z3 _).grown hg4 (by simp; omega) (fun j hj => ((hown3.alloc (.cells #[.int .i64 x.s, .int .i64 x.n] 30)).lt j hj).1); have z4 := hB4.size)
                    | (at_builtin; refine wpList_appendSl _ rfl _ _ rfl wc.heap.size _ ([] ++ T1 ++ [x]) D1 (by rfl) hown4 (some ⟨g, 0, none⟩) (0) (by rw [lD.out]; rfl) (sD.below hB4) (by simp only [List.length_append, List.length_nil, List.length_cons]; rw [lT.out, lD.out]; omega) z4 ?_; intro v5 w5 hown5 hg5; have hB5 : Below wc.heap.size wc w5 := hB4.grown hg5 z4 (fun j hj => (hown4.lt j hj).1); have z5 := hB5.size))
                  go_roundw
                  case rel => exact ⟨k + 1, by omega, by go_num, by rw [hst'.out, ← hTD.out]; exact OwnI.base hown5 (by omega), hBw.trans (hB5.mono (by omega))⟩
                  case measure => simp [intOf]; omega

              · have sD : SlI wc (some ⟨g, p * 2, none⟩) D1 := by rw [Nat.zero_add] at sD0; exact sD0
                clear hT1 hD1 hownc hrdS
                clear sT0 sD0
                have hown0 := OwnI.made wc
                have hB0 : Below wc.heap.size wc (wc.alloc (.cells #[] 30)) := (Below.refl _ _).alloc (Nat.le_refl _) _
                go_wp2_with (first
                  | (at_builtin; refine wpList_appendSl _ rfl _ _ rfl wc.heap.size _ [] T1 (by rfl) hown0 (some ⟨g, 0, none⟩) cS (by rw [lT.out]; rfl) (sT.below hB0) (by simp only [List.length_nil]; rw [lT.out]; omega) (by simp) ?_; intro v3 w3 hown3 hg3; have hB3 : Below wc.heap.size wc w3 := hB0.grown hg3 (by simp) (fun j hj => (hown0.lt j hj).1); have z3 := hB3.size; have y0 := (hB3.cell (p := ⟨b, off + k * 2, none⟩) (by show b < _; omega)).trans y0; have y1 := (hB3.cell (p := ⟨b, off + k * 2 + 1, none⟩) (by show b < _; omega)).trans y1)
                  | (at_builtin; refine wpList_appendSl _ rfl _ _ rfl wc.heap.size _ ([] ++ T1) [x] (by rfl) (hown3.alloc _) (some ⟨w3.heap.size, 0, none⟩) 1 (by rfl) (SlI.intro (by simp) (RdI.of_row (t := 30) (fz := (0, 0)) (heap_alloc_new w3 _))) (by simp only [List.length_append, List.length_nil, List.length_cons]; rw [lT.out]; omega) (by simp; omega) ?_; intro v4 w4 hown4 hg4; have hB4 : Below wc.heap.size wc w4 := (hB3.alloc z3 _).grown hg4 (by simp; omega) (fun j hj => ((hown3.alloc (.cells #[.int .i64 x.s, .int .i64 x.n] 30)).lt j hj).1); have z4 := hB4.size)
                  | (at_builtin; refine wpList_appendSl _ rfl _ _ rfl wc.heap.size _ ([] ++ T1 ++ [x]) D1 (by rfl) hown4 (some ⟨g, p * 2, none⟩) (cS - p) (by rw [lD.out]; rfl) (sD.below hB4) (by simp only [List.length_append, List.length_nil, List.length_cons]; rw [lT.out, lD.out]; omega) z4 ?_; intro v5 w5 hown5 hg5; have hB5 : Below wc.heap.size wc w5 := hB4.grown hg5 z4 (fun j hj => (hown4.lt j hj).1); have z5 := hB5.size))
                go_roundw
                case rel => exact ⟨k + 1, by omega, by go_num, by rw [hst'.out, ← hTD.out]; exact OwnI.base hown5 (by omega), hBw.trans (hB5.mono (by omega))⟩
                case measure => simp [intOf]; omega

        · obtain rfl : k = ur.length := by omega
          go_wp2_with fail
          go_ret
          exact ⟨⟨AS, cS, rfl, hSl⟩, BZ.trans (hB.mono (by omega))⟩

set_option maxHeartbeats 16000000 in
set_option maxRecDepth 100000 in
theorem mseqA (Ab Al Ar : Option Addr) (cb cl cr : Nat) (base left right : List Id) (w : World) (hb1 : base.length ≤ 100) (hl1 : left.length ≤ 100) (hr1 : right.length ≤ 100) (hb : SlI w Ab base) (hl : SlI w Al left) (hr : SlI w Ar right)
    (h1 : ordB (uniq base) (uniq left) = true) (h2 : ordB (uniq base) (uniq right) = false) :
    Calls Tryd.prog 9 #[.slice Ab base.length cb, .slice Al left.length cl, .slice Ar right.length cr] w fun r w' => RetI w w' r (seqMO (uniq base) (uniq right) (uniq left)) := by
  have q1 := fun w h => distinctC Ab cb base w (by omega) h
  have q2 := fun w h => distinctC Al cl left w (by omega) h
  have q3 := fun w h => distinctC Ar cr right w (by omega) h
  have nb := uniq_nodup base
  have lb := uniq_len base
  have ll := uniq_len left
  have lr := uniq_len right
  generalize uniq base = ub at *
  generalize uniq left = ul at *
  generalize uniq right = ur at *
  unfold seqMO
  go_enter Tryd.func9, Tryd.ntmps9
  go_wp2_with fail
  refine (q1 w hb).mono ?_
  rintro e w1 ⟨⟨A1, c1, rfl, s1⟩, B1⟩
  have hl := hl.below B1
  have hr := hr.below B1
  have z1 := B1.size
  go_wp2_with fail
  refine (q2 w1 hl).mono ?_
  rintro e w2 ⟨⟨A2, c2, rfl, s2⟩, B2⟩
  have hr := hr.below B2
  have s1 := s1.below B2
  have B2 := B1.trans (B2.mono z1)
  have z2 := B2.size
  go_wp2_with fail
  refine (q3 w2 hr).mono ?_
  rintro e w3 ⟨⟨A3, c3, rfl, s3⟩, B3⟩
  have s1 := s1.below B3
  have s2 := s2.below B3
  have B3 := B2.trans (B3.mono z2)
  have z3 := B3.size
  clear hb hl hr q1 q2 q3 B1 B2 z1 z2
  have o1 := fun w s1 s2 => orderedM A1 c1 ub A2 c2 ul w (by omega) (by omega) s1 s2
  have o2 := fun w s1 s3 => orderedM A1 c1 ub A3 c3 ur w (by omega) (by omega) s1 s3
  go_wp2_with fail
  refine (o1 w3 s1 s2).mono ?_
  rintro e w4 ⟨rfl, B4⟩
  have s1 := s1.below B4
  have s2 := s2.below B4
  have s3 := s3.below B4
  have B4 := B3.trans (B4.mono z3)
  have z4 := B4.size
  rw [h1]
  go_wp2_with fail
  refine (o2 w4 s1 s3).mono ?_
  rintro e wz ⟨rfl, B5⟩
  have s1 := s1.below B5
  have sM := s3.below B5
  have sO := s2.below B5
  have BZ := B4.trans (B5.mono z4)
  rw [h2]
  clear s2 s3 B3 B4 B5 z3 z4 h1 h2
  clear o1 o2 nb
  have i30 := info_parts info30
  obtain ⟨i0, hi, hi0, hi1, hi2⟩ := i30
  have hi := Lib.hid hi
  have zq := BZ.size
  go_wp2_with fail
  go_loopw [9, 10] (fun out i wr => ∃ k : Nat, k ≤ ur.length ∧ i = .int .i64 k ∧ OwnI wr wz.heap.size out (mf ub ur ul k) ∧ Below wz.heap.size wz wr) (fun _ i _ => ur.length - (intOf i).toNat)
  case atStart => exact ⟨0, by omega, rfl, World.ownsRow_nil _ _ _ _, Below.refl _ _⟩
  case round =>
    obtain ⟨k, hk, rfl, hown, hB⟩ := hrel
    have hz := hB.size
    have hlen := mf_len ub ur ul k
    by_cases hlt : k < ur.length
    · obtain ⟨b, off, hAd, hlb, hrd⟩ := sM.some hlt
      cases hAd
      obtain ⟨r0, r1⟩ := hrd.below hB hlb k hlt
      have hst := mf_succ ub ur ul k
      have sb1 := s1.below hB
      clear hrd
      generalize ith ur k = x at *
      have hq1 := indexC A1 c1 ub x wr (by omega) sb1
      have hq2 := fun w' h => indexC A2 c2 ul x w' (by omega) (sO.below h)
      have n1 := idx_nonneg (l := ub) (x := x)
      have n2 := idx_nonneg (l := ul) (x := x)
      generalize idx ub x = I1 at *
      generalize idx ul x = I2 at *
      by_cases dd1 : 0 ≤ I1
      · have d1 : decide (I1 < 0) = false := decide_eq_false (by omega)
        by_cases dd2 : 0 ≤ I2
        · have d2 : decide (0 ≤ I2) = true := decide_eq_true dd2
          rw [if_pos (.inr (n2.1 dd2))] at hst
          have hst' := Lib.hid hst
          clear dd1 dd2 hst n1 n2
          go_wp2_with fail
          refine hq1.mono ?_
          rintro e v1 ⟨rfl, hv1⟩
          have hB1 := hB.trans (hv1.mono hz)
          have y0 := (hv1.cell (p := ⟨b, off + k * 2, none⟩) (by show b < _; omega)).trans r0
          have y1 := (hv1.cell (p := ⟨b, off + k * 2 + 1, none⟩) (by show b < _; omega)).trans r1
          have hown1 := OwnI.below hown hv1
          clear hq1 r0 r1
          have zv1 := hB1.size
          go_wp2_with fail
          refine (hq2 v1 hB1).mono ?_
          rintro e v2 ⟨rfl, hv2⟩
          have hB2 := hB1.trans (hv2.mono (by omega))
          have y0 := (hv2.cell (p := ⟨b, off + k * 2, none⟩) (by show b < _; omega)).trans y0
          have y1 := (hv2.cell (p := ⟨b, off + k * 2 + 1, none⟩) (by show b < _; omega)).trans y1
          have hown2 := OwnI.below hown1 hv2
          have zv2 := hB2.size
          clear hq2 hown hown1 hv1 hv2
          go_wp2_with (at_builtin; refine wpList_append_lies _ rfl _ _ _ rfl wz.heap.size 30 i0 (.agg #[.int .i64 0, .int .i64 0]) 2 16 Tryd.underlying22 hi.out hi0 hi1 hi2 rfl (by omega) _ _ _ (by rfl) (hown2.alloc _) ⟨v2.heap.size, 0, none⟩ 1 1 (encId x) (by rfl) rfl ?_ ?_ (by omega) ?_ ?_ ?_ (v2.heap.size + 1) ?_ ?_)
          · exact World.news_of_block (heap_alloc_new v2 _)
          · intro u hu; simp [encId] at hu; rcases hu with rfl | rfl <;> rfl
          · unfold maxLen; omega
          · omega
          · simp; omega
          · simp
          · intro g cap w9 hown9 hgrow hat hlt1
            have hlo := hown2.lt
            go_wp2_with fail
            go_roundw
            case rel =>
              have e3 : (mf ub ur ul (k + 1)).length = (mf ub ur ul k).length + 1 := by rw [hst'.out]; simp
              refine ⟨k + 1, by omega, by go_num, ?_, (hB2.alloc (by omega) _).grown hgrow (by simp; omega) (fun j hj => (hlo j hj).1)⟩
              show World.ownsRow _ _ _ _ _ (mf ub ur ul (k + 1)).length (cellsI (mf ub ur ul (k + 1)))
              rw [e3, hst'.out, cellsI_snoc]
              exact hown9
            case measure => simp [intOf]; omega
        · have d2 : decide (0 ≤ I2) = false := decide_eq_false dd2
          rw [if_neg (fun h => h.elim (fun h => h (n1.1 dd1)) (fun h => dd2 (n2.2 h)))] at hst
          have hst' := Lib.hid hst
          clear dd1 dd2 hst n1 n2
          go_wp2_with fail
          refine hq1.mono ?_
          rintro e v1 ⟨rfl, hv1⟩
          have hB1 := hB.trans (hv1.mono hz)
          have y0 := (hv1.cell (p := ⟨b, off + k * 2, none⟩) (by show b < _; omega)).trans r0
          have y1 := (hv1.cell (p := ⟨b, off + k * 2 + 1, none⟩) (by show b < _; omega)).trans r1
          have hown1 := OwnI.below hown hv1
          clear hq1 r0 r1
          have zv1 := hB1.size
          go_wp2_with fail
          refine (hq2 v1 hB1).mono ?_
          rintro e v2 ⟨rfl, hv2⟩
          have hB2 := hB1.trans (hv2.mono (by omega))
          have hown2 := OwnI.below hown1 hv2
          go_wp2_with fail
          go_roundw
          case rel => exact ⟨k + 1, by omega, by go_num, by rw [hst'.out]; exact hown2, hB2⟩
          case measure => simp [intOf]; omega
      · have d1 : decide (I1 < 0) = true := decide_eq_true (by omega)
        rw [if_pos (.inl (fun h => dd1 (n1.2 h)))] at hst
        have hst' := Lib.hid hst
        clear dd1 hst n1 n2 hq2
        go_wp2_with fail
        refine hq1.mono ?_
        rintro e v1 ⟨rfl, hv1⟩
        have hB1 := hB.trans (hv1.mono hz)
        have y0 := (hv1.cell (p := ⟨b, off + k * 2, none⟩) (by show b < _; omega)).trans r0
        have y1 := (hv1.cell (p := ⟨b, off + k * 2 + 1, none⟩) (by show b < _; omega)).trans r1
        have hown1 := OwnI.below hown hv1
        have zv1 := hB1.size
        clear hq1 r0 r1 hown hv1
        go_wp2_with (at_builtin; refine wpList_append_lies _ rfl _ _ _ rfl wz.heap.size 30 i0 (.agg #[.int .i64 0, .int .i64 0]) 2 16 Tryd.underlying22 hi.out hi0 hi1 hi2 rfl (by omega) _ _ _ (by rfl) (hown1.alloc _) ⟨v1.heap.size, 0, none⟩ 1 1 (encId x) (by rfl) rfl ?_ ?_ (by omega) ?_ ?_ ?_ (v1.heap.size + 1) ?_ ?_)
        · exact World.news_of_block (heap_alloc_new v1 _)
        · intro u hu; simp [encId] at hu; rcases hu with rfl | rfl <;> rfl
        · unfold maxLen; omega
        · omega
        · simp; omega
        · simp
        · intro g cap w9 hown9 hgrow hat hlt1
          have hlo := hown1.lt
          go_wp2_with fail
          go_roundw
          case rel =>
            have e3 : (mf ub ur ul (k + 1)).length = (mf ub ur ul k).length + 1 := by rw [hst'.out]; simp
            refine ⟨k + 1, by omega, by go_num, ?_, (hB1.alloc (by omega) _).grown hgrow (by simp; omega) (fun j hj => (hlo j hj).1)⟩
            show World.ownsRow _ _ _ _ _ (mf ub ur ul (k + 1)).length (cellsI (mf ub ur ul (k + 1)))
            rw [e3, hst'.out, cellsI_snoc]
            exact hown9
          case measure => simp [intOf]; omega
    · obtain rfl : k = ur.length := by omega
      have hown : OwnI wr wz.heap.size u9 (sq ub ur ul 0) := hown
      clear hlt hk hlen
      go_wp2_with fail
      go_loopw [9, 11] (fun out i wq => ∃ k : Nat, k ≤ ul.length ∧ i = .int .i64 k ∧ OwnI wq wz.heap.size out (sq ub ur ul k) ∧ Below wz.heap.size wz wq) (fun _ i _ => ul.length - (intOf i).toNat)
      case atStart => exact ⟨0, by omega, rfl, hown, hB⟩
      case round =>
        clear hown hB hz
        obtain ⟨k, hk, rfl, hown, hB⟩ := hrel
        have hz := hB.size
        have hlen := sq_len ub ur ul k
        obtain ⟨AS, cS, rfl, hSl⟩ := hown.slice
        by_cases hlt : k < ul.length
        · obtain ⟨b, off, hAd, hlb, hrd⟩ := sO.some hlt
          cases hAd
          obtain ⟨r0, r1⟩ := hrd.below hB hlb k hlt
          have hst := sq_succ ub ur ul k
          have hpl := pos_le (sq ub ur ul k) ul k
          have hps := fun m => pos_succ (sq ub ur ul k) ul m
          have hp0 : pos (sq ub ur ul k) ul 0 = 0 := rfl
          have sb1 := s1.below hB
          generalize hx : ith ul k = x at *
          have hq1 := indexC A1 c1 ub x wr (by omega) sb1
          have hq2 := fun w' h => indexC A3 c3 ur x w' (by omega) (sM.below h)
          have n1 := idx_nonneg (l := ub) (x := x)
          have n2 := idx_nonneg (l := ur) (x := x)
          generalize idx ub x = I1 at *
          generalize idx ur x = I2 at *
          by_cases u1 : 0 ≤ I1
          · have d1 : decide (0 ≤ I1) = true := decide_eq_true u1
            rw [if_pos (.inl (n1.1 u1))] at hst
            have hst' := Lib.hid hst
            clear u1 hst hps hp0 hpl n1 n2 hq2 hx
            go_wp2_with fail
            refine hq1.mono ?_
            rintro e v1 ⟨rfl, hv1⟩
            go_wp2_with fail
            go_roundw
            case rel => exact ⟨k + 1, by omega, by go_num, by rw [hst'.out]; exact OwnI.below hown hv1, hB.trans (hv1.mono (by omega))⟩
            case measure => simp [intOf]; omega
          have d1 : decide (0 ≤ I1) = false := decide_eq_false u1
          by_cases u2 : 0 ≤ I2
          · have d2 : decide (0 ≤ I2) = true := decide_eq_true u2
            rw [if_pos (.inr (n2.1 u2))] at hst
            have hst' := Lib.hid hst
            clear u1 u2 hst hps hp0 hpl n1 n2 hx
            go_wp2_with fail
            refine hq1.mono ?_
            rintro e v1 ⟨rfl, hv1⟩
            have hB1 := hB.trans (hv1.mono hz)
            have y0 := (hv1.cell (p := ⟨b, off + k * 2, none⟩) (by show b < _; omega)).trans r0
            have y1 := (hv1.cell (p := ⟨b, off + k * 2 + 1, none⟩) (by show b < _; omega)).trans r1
            have hown1 := OwnI.below hown hv1
            have zv1 := hB1.size
            clear hq1 r0 r1
            go_wp2_with fail
            refine (hq2 v1 hB1).mono ?_
            rintro e v2 ⟨rfl, hv2⟩
            go_wp2_with fail
            go_roundw
            case rel => exact ⟨k + 1, by omega, by go_num, by rw [hst'.out]; exact OwnI.below hown1 hv2, hB1.trans (hv2.mono (by omega))⟩
            case measure => simp [intOf]; omega
          have d2 : decide (0 ≤ I2) = false := decide_eq_false u2
          rw [if_neg (fun h => h.elim (fun h => u1 (n1.2 h)) (fun h => u2 (n2.2 h)))] at hst
          have hst' := Lib.hid hst
          have hx' := Lib.hid hx
          clear u1 u2 hst n1 n2 hx
          go_wp2_with fail
          refine hq1.mono ?_
          rintro e v1 ⟨rfl, hv1⟩
          have hB1 := hB.trans (hv1.mono hz)
          have y0 := (hv1.cell (p := ⟨b, off + k * 2, none⟩) (by show b < _; omega)).trans r0
          have y1 := (hv1.cell (p := ⟨b, off + k * 2 + 1, none⟩) (by show b < _; omega)).trans r1
          have hown1 := OwnI.below hown hv1
          have zv1 := hB1.size
          clear hq1 r0 r1
          go_wp2_with fail
          refine (hq2 v1 hB1).mono ?_
          rintro e v2 ⟨rfl, hv2⟩
          have hB2 := hB1.trans (hv2.mono (by omega))
          have y0 := (hv2.cell (p := ⟨b, off + k * 2, none⟩) (by show b < _; omega)).trans y0
          have y1 := (hv2.cell (p := ⟨b, off + k * 2 + 1, none⟩) (by show b < _; omega)).trans y1
          have hown2 := OwnI.below hown1 hv2
          have zv2 := hB2.size
          have hSl2 : SlI v2 AS (sq ub ur ul k) := (hSl.below hv1).below hv2
          clear hq2 hown hown1 hv1 hv2 hB1 hB d1 hSl sb1
          generalize hSq : sq ub ur ul k = S at *
          clear hSq
          go_upto_block 4 with (fail)
          go_cut [12] (fun q wc => q = .int .i64 (pos S ul k : Nat) ∧ Below v2.heap.size v2 wc)
          case first =>
            clear y0 y1 hst' hpl hown2
            go_wp2_with fail
            go_loopw [12, 13] (fun at_ kk wv => ∃ (m : Nat) (a kI : Int), m ≤ k ∧ at_ = .int .i64 a ∧ kk = .int .i64 kI ∧ kI = (m : Int) - 1 ∧ Aside ((a = 0 ∧ pos S ul k = pos S ul m) ∨ (0 < a ∧ a = (pos S ul k : Nat))) ∧ Below v2.heap.size v2 wv) (fun _ kk _ => (intOf kk + 1).toNat)
            case atStart => exact ⟨k, 0, (k : Int) - 1, by omega, rfl, rfl, rfl, (show Aside _ from .inl ⟨rfl, rfl⟩), Below.refl _ _⟩
            case round =>
              obtain ⟨m, a, kI, hm, rfl, rfl, hkI, hA, hBv⟩ := hrel
              have hzv := hBv.size
              rcases hA.out with ⟨rfl, hA1⟩ | ⟨ha0, hA1⟩
              · clear hA
                by_cases hm0 : m = 0
                · subst hm0
                  obtain rfl : kI = -1 := by omega
                  clear hkI
                  rw [hp0] at hA1
                  have hA' := Lib.hid hA1
                  clear hA1 hps hp0
                  go_wp2_with fail
                  go_meet
                  exact ⟨by rw [hA'.out]; rfl, hBv⟩
                · obtain ⟨p, rfl⟩ : ∃ p, m = p + 1 := ⟨m - 1, by omega⟩
                  obtain rfl : kI = (p : Int) := by omega
                  clear hkI
                  obtain ⟨t0, t1⟩ := hrd.below (hB2.trans (hBv.mono (by omega))) hlb p (by omega)
                  have hpp := hps p
                  generalize ith ul p = y at *
                  have hix := indexC AS cS S y wr (by omega) (hSl2.below hBv)
                  have hbd := idx_bd S y
                  clear hps hp0
                  by_cases hin : y ∈ S
                  · rw [if_pos hin, ← hA1] at hpp
                    have e0 : idx S y = (idxN S y : Nat) := idx_in hin
                    have hpp' := Lib.hid (show (0 : Int) < idx S y + 1 ∧ idx S y + 1 = (pos S ul k : Nat) by omega)
                    clear hpp hA1 hin e0
                    generalize idx S y = I at *
                    go_wp2_with fail
                    refine hix.mono ?_
                    rintro e v3 ⟨rfl, hv3⟩
                    go_wp2_with fail
                    go_roundw
                    case rel => exact ⟨p, I + 1, (p : Int) - 1, by omega, rfl, by first | rfl | go_num, rfl, (show Aside _ from .inr hpp'.out), hBv.trans (hv3.mono (by omega))⟩
                    case measure => first | (simp [intOf]; done) | (simp [intOf]; omega)
                  · rw [if_neg hin] at hpp
                    have e0 : idx S y < 0 := by have := mt idx_nonneg.1 hin; omega
                    have hpp' := Lib.hid (show idx S y + 1 = 0 ∧ pos S ul k = pos S ul p from ⟨by omega, hA1.trans hpp⟩)
                    clear hpp hA1 hin
                    generalize idx S y = I at *
                    go_wp2_with fail
                    refine hix.mono ?_
                    rintro e v3 ⟨rfl, hv3⟩
                    go_wp2_with fail
                    go_roundw
                    case rel => exact ⟨p, I + 1, (p : Int) - 1, by omega, rfl, by first | rfl | go_num, rfl, (show Aside _ from .inl hpp'.out), hBv.trans (hv3.mono (by omega))⟩
                    case measure => first | (simp [intOf]; done) | (simp [intOf]; omega)
              · have hA1 := Lib.hid hA1
                have ea : (a == 0) = false := by simp; omega
                clear hA
                by_cases hm0 : m = 0
                · subst hm0
                  obtain rfl : kI = -1 := by omega
                  clear hkI hps hp0
                  go_wp2_with fail
                  go_meet
                  exact ⟨by rw [hA1.out], hBv⟩
                · obtain ⟨p, rfl⟩ : ∃ p, m = p + 1 := ⟨m - 1, by omega⟩
                  obtain rfl : kI = (p : Int) := by omega
                  clear hkI hps hp0
                  go_wp2_with fail
                  go_meet
                  exact ⟨by rw [hA1.out], hBv⟩
          case rest =>
            obtain ⟨rfl, hBc⟩ := hcut
            have zc := hBc.size
            have hownc := OwnI.below hown2 hBc
            have y0 := (hBc.cell (p := ⟨b, off + k * 2, none⟩) (by show b < _; omega)).trans y0
            have y1 := (hBc.cell (p := ⟨b, off + k * 2 + 1, none⟩) (by show b < _; omega)).trans y1
            have hBw := hB2.trans (hBc.mono (by omega))
            clear hps hp0 hown2 hSl2 hBc hB2
            generalize pos S ul k = p at *
            obtain ⟨T1, hT1⟩ : ∃ T1, T1 = S.take p := ⟨_, rfl⟩
            obtain ⟨D1, hD1⟩ : ∃ D1, D1 = S.drop p := ⟨_, rfl⟩
            have lT : Hid (T1.length = p) := by show _ = _; rw [hT1, List.length_take]; omega
            have lD : Hid (D1.length = S.length - p) := by show _ = _; rw [hD1, List.length_drop]
            have hTD : Hid ([] ++ T1 ++ [x] ++ D1 = insAt S p x) := by show _ = _; rw [hT1, hD1]; simp [insAt]
            rcases hownc.2 with ⟨hv, h0⟩ | ⟨g, cap, cur, hv, _, _, hnc, hcm, _, _⟩
            · simp only [Value.slice.injEq] at hv
              obtain ⟨rfl, _, rfl⟩ := hv
              obtain rfl : p = 0 := by omega
              have sT : SlI wc none T1 := .inl (by rw [hT1]; rfl)
              have sD : SlI wc none D1 := .inl (by rw [hD1, List.eq_nil_of_length_eq_zero h0]; rfl)
              have sT0 := True.intro
              have sD0 := True.intro
              have lD : Hid (D1.length = 0) := by show _ = _; rw [lD.out, h0]
              have h0' := Lib.hid h0
              clear hT1 hD1 hownc h0
              clear sT0 sD0
              have hown0 := OwnI.made wc
              have hB0 : Below wc.heap.size wc (wc.alloc (.cells #[] 30)) := (Below.refl _ _).alloc (Nat.le_refl _) _
              go_wp2_with (first
                | (at_builtin; refine wpList_appendSl _ rfl _ _ rfl wc.heap.size _ [] T1 (by rfl) hown0 none 0 (by rw [lT.out]; rfl) (sT.below hB0) (by simp only [List.length_nil]; rw [lT.out]; omega) (by simp) ?_; intro v3 w3 hown3 hg3; have hB3 : Below wc.heap.size wc w3 := hB0.grown hg3 (by simp) (fun j hj => (hown0.lt j hj).1); have z3 := hB3.size; have y0 := (hB3.cell (p := ⟨b, off + k * 2, none⟩) (by show b < _; omega)).trans y0; have y1 := (hB3.cell (p := ⟨b, off + k * 2 + 1, none⟩) (by show b < _; omega)).trans y1)
                | (at_builtin; refine wpList_appendSl _ rfl _ _ rfl wc.heap.size _ ([] ++ T1) [x] (by rfl) (hown3.alloc _) (some ⟨w3.heap.size, 0, none⟩) 1 (by rfl) (SlI.intro (by simp) (RdI.of_row (t := 30) (fz := (0, 0)) (heap_alloc_new w3 _))) (by simp only [List.length_append, List.length_nil, List.length_cons]; rw [lT.out]; omega) (by simp; omega) ?_; intro v4 w4 hown4 hg4; have hB4 : Below wc.heap.size wc w4 := (hB3.alloc z3 _).grown hg4 (by simp; omega) (fun j hj => ((hown3.alloc (.cells #[.int .i64 x.s, .int .i64 x.n] 30)).lt j hj).1); have z4 := hB4.size)
                | (at_builtin; refine wpList_appendSl _ rfl _ _ rfl wc.heap.size _ ([] ++ T1 ++ [x]) D1 (by rfl) hown4 none (0) (by rw [lD.out]; rfl) (sD.below hB4) (by simp only [List.length_append, List.length_nil, List.length_cons]; rw [lT.out, lD.out]; omega) z4 ?_; intro v5 w5 hown5 hg5; have hB5 : Below wc.heap.size wc w5 := hB4.grown hg5 z4 (fun j hj => (hown4.lt j hj).1); have z5 := hB5.size))
              go_roundw
              case rel => exact ⟨k + 1, by omega, by go_num, by rw [hst'.out, ← hTD.out]; exact OwnI.base hown5 (by omega), hBw.trans (hB5.mono (by omega))⟩
              case measure => simp [intOf]; omega

            · simp only [Value.slice.injEq, true_and] at hv
              obtain ⟨rfl, rfl⟩ := hv
              obtain ⟨hrdS, hlg⟩ := hownc.rd
              have sT : SlI wc (some ⟨g, 0, none⟩) T1 := by rw [hT1]; exact SlI.intro hlg (hrdS.take p)
              have sD0 : SlI wc (some ⟨g, 0 + p * 2, none⟩) D1 := by rw [hD1]; exact SlI.intro hlg (hrdS.drop p)
              have sT0 := True.intro
              unfold maxLen at hcm
              by_cases hpc : cS = p
              · have sD : SlI wc (some ⟨g, 0, none⟩) D1 := .inl (List.eq_nil_of_length_eq_zero (by rw [lD.out]; omega))
                subst hpc
                clear hT1 hD1 hownc hrdS
                have lD0 : Hid (D1.length = 0) := by show _ = _; rw [lD.out]; omega
                clear lD
                have lD := lD0
                clear lD0
                have hSL := Lib.hid (show S.length = cS by omega)
                generalize S.length = n at *
                obtain rfl : n = cS := hSL.out
                clear hSL
                by_cases hc0 : n = 0
                · subst hc0
                  clear sT0 sD0
                  have hown0 := OwnI.made wc
                  have hB0 : Below wc.heap.size wc (wc.alloc (.cells #[] 30)) := (Below.refl _ _).alloc (Nat.le_refl _) _
                  go_wp2_with (first
                    | (at_builtin; refine wpList_appendSl _ rfl _ _ rfl wc.heap.size _ [] T1 (by rfl) hown0 (some ⟨g, 0, none⟩) 0 (by rw [lT.out]; rfl) (sT.below hB0) (by simp only [List.length_nil]; rw [lT.out]; omega) (by simp) ?_; intro v3 w3 hown3 hg3; have hB3 : Below wc.heap.size wc w3 := hB0.grown hg3 (by simp) (fun j hj => (hown0.lt j hj).1); have z3 := hB3.size; have y0 := (hB3.cell (p := ⟨b, off + k * 2, none⟩) (by show b < _; omega)).trans y0; have y1 := (hB3.cell (p := ⟨b, off + k * 2 + 1, none⟩) (by show b < _; omega)).trans y1)
                    | (at_builtin; refine wpList_appendSl _ rfl _ _ rfl wc.heap.size _ ([] ++ T1) [x] (by rfl) (hown3.alloc _) (some ⟨w3.heap.size, 0, none⟩) 1 (by rfl) (SlI.intro (by simp) (RdI.of_row (t := 30) (fz := (0, 0)) (heap_alloc_new w3 _))) (by simp only [List.length_append, List.length_nil, List.length_cons]; rw [lT.out]; omega) (by simp; omega) ?_; intro v4 w4 hown4 hg4; have hB4 : Below wc.heap.size wc w4 := (hB3.alloc z3 _).grown hg4 (by simp; omega) (fun j hj => ((hown3.alloc (.cells #[.int .i64 x.s, .int .i64 x.n] 30)).lt j hj).1); have z4 := hB4.size)
                    | (at_builtin; refine wpList_appendSl _ rfl _ _ rfl wc.heap.size _ ([] ++ T1 ++ [x]) D1 (by rfl) hown4 (some ⟨g, 0, none⟩) (0) (by rw [lD.out]; rfl) (sD.below hB4) (by simp only [List.length_append, List.length_nil, List.length_cons]; rw [lT.out, lD.out]; omega) z4 ?_; intro v5 w5 hown5 hg5; have hB5 : Below wc.heap.size wc w5 := hB4.grown hg5 z4 (fun j hj => (hown4.lt j hj).1); have z5 := hB5.size))
                  go_roundw
                  case rel => exact ⟨k + 1, by omega, by go_num, by rw [hst'.out, ← hTD.out]; exact OwnI.base hown5 (by omega), hBw.trans (hB5.mono (by omega))⟩
                  case measure => simp [intOf]; omega

                · have hc1 : 0 < n := by omega
                  clear sT0 sD0
                  have hown0 := OwnI.made wc
                  have hB0 : Below wc.heap.size wc (wc.alloc (.cells #[] 30)) := (Below.refl _ _).alloc (Nat.le_refl _) _
                  go_wp2_with (first
                    | (at_builtin; refine wpList_appendSl _ rfl _ _ rfl wc.heap.size _ [] T1 (by rfl) hown0 (some ⟨g, 0, none⟩) n (by rw [lT.out]; rfl) (sT.below hB0) (by simp only [List.length_nil]; rw [lT.out]; omega) (by simp) ?_; intro v3 w3 hown3 hg3; have hB3 : Below wc.heap.size wc w3 := hB0.grown hg3 (by simp) (fun j hj => (hown0.lt j hj).1); have z3 := hB3.size; have y0 := (hB3.cell (p := ⟨b, off + k * 2, none⟩) (by show b < _; omega)).trans y0; have y1 := (hB3.cell (p := ⟨b, off + k * 2 + 1, none⟩) (by show b < _; omega)).trans y1)
                    | (at_builtin; refine wpList_appendSl _ rfl _ _ rfl wc.heap.size _ ([] ++ T1) [x] (by rfl) (hown3.alloc _) (some ⟨w3.heap.size, 0, none⟩) 1 (by rfl) (SlI.intro (by simp) (RdI.of_row (t := 30) (fz := (0, 0)) (heap_alloc_new w3 _))) (by simp only [List.length_append, List.length_nil, List.length_cons]; rw [lT.out]; omega) (by simp; omega) ?_; intro v4 w4 hown4 hg4; have hB4 : Below wc.heap.size wc w4 := (hB3.alloc z3 _).grown hg4 (by simp; omega) (fun j hj => ((hown3.alloc (.cells #[.int .i64 x.s, .int .i64 x.n] 30)).lt j hj).1); have z4 := hB4.size)
                    | (at_builtin; refine wpList_appendSl _ rfl _ _ rfl wc.heap.size _ ([] ++ T1 ++ [x]) D1 (by rfl) hown4 (some ⟨g, 0, none⟩) (0) (by rw [lD.out]; rfl) (sD.below hB4) (by simp only [List.length_append, List.length_nil, List.length_cons]; rw [lT.out, lD.out]; omega) z4 ?_; intro v5 w5 hown5 hg5; have hB5 : Below wc.heap.size wc w5 := hB4.grown hg5 z4 (fun j hj => (hown4.lt j hj).1); have z5 := hB5.size))
                  go_roundw
                  case rel => exact ⟨k + 1, by omega, by go_num, by rw [hst'.out, ← hTD.out]; exact OwnI.base hown5 (by omega), hBw.trans (hB5.mono (by omega))⟩
                  case measure => simp [intOf]; omega

              · have sD : SlI wc (some ⟨g, p * 2, none⟩) D1 := by rw [Nat.zero_add] at sD0; exact sD0
                clear hT1 hD1 hownc hrdS
                clear sT0 sD0
                have hown0 := OwnI.made wc
                have hB0 : Below wc.heap.size wc (wc.alloc (.cells #[] 30)) := (Below.refl _ _).alloc (Nat.le_refl _) _
                go_wp2_with (first
                  | (at_builtin; refine wpList_appendSl _ rfl _ _ rfl wc.heap.size _ [] T1 (by rfl) hown0 (some ⟨g, 0, none⟩) cS (by rw [lT.out]; rfl) (sT.below hB0) (by simp only [List.length_nil]; rw [lT.out]; omega) (by simp) ?_; intro v3 w3 hown3 hg3; have hB3 : Below wc.heap.size wc w3 := hB0.grown hg3 (by simp) (fun j hj => (hown0.lt j hj).1); have z3 := hB3.size; have y0 := (hB3.cell (p := ⟨b, off + k * 2, none⟩) (by show b < _; omega)).trans y0; have y1 := (hB3.cell (p := ⟨b, off + k * 2 + 1, none⟩) (by show b < _; omega)).trans y1)
                  | (at_builtin; refine wpList_appendSl _ rfl _ _ rfl wc.heap.size _ ([] ++ T1) [x] (by rfl) (hown3.alloc _) (some ⟨w3.heap.size, 0, none⟩) 1 (by rfl) (SlI.intro (by simp) (RdI.of_row (t := 30) (fz := (0, 0)) (heap_alloc_new w3 _))) (by simp only [List.length_append, List.length_nil, List.length_cons]; rw [lT.out]; omega) (by simp; omega) ?_; intro v4 w4 hown4 hg4; have hB4 : Below wc.heap.size wc w4 := (hB3.alloc z3 _).grown hg4 (by simp; omega) (fun j hj => ((hown3.alloc (.cells #[.int .i64 x.s, .int .i64 x.n] 30)).lt j hj).1); have z4 := hB4.size)
                  | (at_builtin; refine wpList_appendSl _ rfl _ _ rfl wc.heap.size _ ([] ++ T1 ++ [x]) D1 (by rfl) hown4 (some ⟨g, p * 2, none⟩) (cS - p) (by rw [lD.out]; rfl) (sD.below hB4) (by simp only [List.length_append, List.length_nil, List.length_cons]; rw [lT.out, lD.out]; omega) z4 ?_; intro v5 w5 hown5 hg5; have hB5 : Below wc.heap.size wc w5 := hB4.grown hg5 z4 (fun j hj => (hown4.lt j hj).1); have z5 := hB5.size))
                go_roundw
                case rel => exact ⟨k + 1, by omega, by go_num, by rw [hst'.out, ← hTD.out]; exact OwnI.base hown5 (by omega), hBw.trans (hB5.mono (by omega))⟩
                case measure => simp [intOf]; omega

        · obtain rfl : k = ul.length := by omega
          go_wp2_with fail
          go_ret
          exact ⟨⟨AS, cS, rfl, hSl⟩, BZ.trans (hB.mono (by omega))⟩

theorem sequenceM (Ab Al Ar : Option Addr) (cb cl cr : Nat) (base left right : List Id) (w : World) (hb1 : base.length ≤ 100) (hl1 : left.length ≤ 100) (hr1 : right.length ≤ 100) (hb : SlI w Ab base) (hl : SlI w Al left) (hr : SlI w Ar right) :
    Calls Tryd.prog 9 #[.slice Ab base.length cb, .slice Al left.length cl, .slice Ar right.length cr] w fun r w' => RetI w w' r (seqF base left right) := by
  unfold seqF seqU
  cases h1 : ordB (uniq base) (uniq left)
  · rw [if_neg (by simp)]
    exact mseqC Ab Al Ar cb cl cr base left right w hb1 hl1 hr1 hb hl hr h1
  · cases h2 : ordB (uniq base) (uniq right)
    · rw [if_pos ⟨rfl, rfl⟩]
      exact mseqA Ab Al Ar cb cl cr base left right w hb1 hl1 hr1 hb hl hr h1 h2
    · rw [if_neg (by simp)]
      exact mseqB Ab Al Ar cb cl cr base left right w hb1 hl1 hr1 hb hl hr h1 h2
end Go.Proofs.YtacoeahipklibaaDoor
