/- merge.Sequence. -/
import Derived.Test.YtacoeahipklibaaDoorB9
namespace Go.Proofs.YtacoeahipklibaaDoor
open Go.RowKit

theorem sq_succ (base main other : List Id) (i : Nat) : sq base main other (i + 1) = if ith other i ∈ base ∨ ith other i ∈ main then sq base main other i else insAt (sq base main other i) (pos (sq base main other i) other i) (ith other i) := rfl
theorem mf_succ (base main other : List Id) (k : Nat) : mf base main other (k + 1) = if ith main k ∉ base ∨ ith main k ∈ other then mf base main other k ++ [ith main k] else mf base main other k := rfl
theorem pos_succ (out other : List Id) (k : Nat) : pos out other (k + 1) = if ith other k ∈ out then idxN out (ith other k) + 1 else pos out other k := rfl
theorem idx_in {l : List Id} {x : Id} (h : x ∈ l) : idx l x = (idxN l x : Nat) := by unfold idx; rw [if_pos h]

set_option maxHeartbeats 16000000 in
set_option maxRecDepth 100000 in
theorem seqB (Ab Al Ar : Option Addr) (cb cl cr : Nat) (base left right : List Id) (w : World) (hb1 : base.length ≤ 100) (hl1 : left.length ≤ 100) (hr1 : right.length ≤ 100) (hb : SlI w Ab base) (hl : SlI w Al left) (hr : SlI w Ar right)
    (h1 : ordB (uniq base) (uniq left) = true) (h2 : ordB (uniq base) (uniq right) = true) :
    Calls Tryd.prog 7 #[.slice Ab base.length cb, .slice Al left.length cl, .slice Ar right.length cr] w fun r w' => RetI w w' r (seqMO (uniq base) (uniq left) (uniq right)) := by
  have q1 := fun w h => uniqueC Ab cb base w (by omega) h
  have q2 := fun w h => uniqueC Al cl left w (by omega) h
  have q3 := fun w h => uniqueC Ar cr right w (by omega) h
  have nb := uniq_nodup base
  have lb := uniq_len base
  have ll := uniq_len left
  have lr := uniq_len right
  generalize uniq base = ub at *
  generalize uniq left = ul at *
  generalize uniq right = ur at *
  unfold seqMO
  go_enter Tryd.func7, Tryd.ntmps7
  go_wp2_with fail
  refine (q1 w hb).mono ?_
  rintro e w1 ⟨⟨A1, c1, rfl, s1⟩, B1⟩
  have hl := hl.below B1
  have hr := hr.below B1
  have z1 := B1.size
  go_wp2_with fail
  refine (q2 w1 hl).mono ?_
  rintro e w2 ⟨⟨A2, c2, rfl, s2⟩, B2⟩
  have hr := hr.below B2
  have s1 := s1.below B2
  have B2 := B1.trans (B2.mono z1)
  have z2 := B2.size
  go_wp2_with fail
  refine (q3 w2 hr).mono ?_
  rintro e w3 ⟨⟨A3, c3, rfl, s3⟩, B3⟩
  have s1 := s1.below B3
  have s2 := s2.below B3
  have B3 := B2.trans (B3.mono z2)
  have z3 := B3.size
  clear hb hl hr q1 q2 q3 B1 B2 z1 z2
  have o1 := fun w s1 s2 => orderedP A1 c1 ub A2 c2 ul w nb (by omega) (by omega) s1 s2
  have o2 := fun w s1 s3 => orderedP A1 c1 ub A3 c3 ur w nb (by omega) (by omega) s1 s3
  go_wp2_with fail
  refine (o1 w3 s1 s2).mono ?_
  rintro e w4 ⟨rfl, B4⟩
  have s1 := s1.below B4
  have s2 := s2.below B4
  have s3 := s3.below B4
  have B4 := B3.trans (B4.mono z3)
  have z4 := B4.size
  rw [h1]
  go_wp2_with fail
  refine (o2 w4 s1 s3).mono ?_
  rintro e wz ⟨rfl, B5⟩
  have s1 := s1.below B5
  have sM := s2.below B5
  have sO := s3.below B5
  have BZ := B4.trans (B5.mono z4)
  rw [h2]
  clear s2 s3 B3 B4 B5 z3 z4 h1 h2
  clear o1 o2 nb
  have i30 := info_parts info30
  obtain ⟨i0, hi, hi0, hi1, hi2⟩ := i30
  have hi := Lib.hid hi
  have zq := BZ.size
  go_wp2_with fail
  go_loopw [9, 38] (fun out i wr => ∃ k : Nat, k ≤ ul.length ∧ i = .int .i64 k ∧ OwnI wr wz.heap.size out (mf ub ul ur k) ∧ Below wz.heap.size wz wr) (fun _ i _ => ul.length - (intOf i).toNat)
  case atStart => exact ⟨0, by omega, rfl, World.ownsRow_nil _ _ _ _, Below.refl _ _⟩
  case round =>
    obtain ⟨k, hk, rfl, hown, hB⟩ := hrel
    have hz := hB.size
    have hlen := mf_len ub ul ur k
    by_cases hlt : k < ul.length
    · obtain ⟨b, off, hAd, hlb, hrd⟩ := sM.some hlt
      cases hAd
      obtain ⟨r0, r1⟩ := hrd.below hB hlb k hlt
      have hst := mf_succ ub ul ur k
      have sb1 := s1.below (hB.alloc hz (.cells #[.int .i64 (ith ul k).s, .int .i64 (ith ul k).n] 30))
      have so1 := sO.below (hB.alloc hz (.cells #[.int .i64 (ith ul k).s, .int .i64 (ith ul k).n] 30))
      generalize hx : ith ul k = x at *
      have hq1 := containsC A1 c1 ub x _ (by omega) sb1
      by_cases dd1 : x ∈ ub
      · have d1 : decide (x ∈ ub) = true := decide_eq_true dd1
        by_cases dd2 : x ∈ ur
        · have d2 : decide (x ∈ ur) = true := decide_eq_true dd2
          rw [if_pos (.inr dd2)] at hst
          have hst' := Lib.hid hst
          clear dd1 dd2 hst
          go_wp2_with fail
          refine hq1.mono ?_
          rintro e v1 ⟨rfl, hv1⟩
          rw [d1]
          have zv1 := hv1.size
          rw [World.size_alloc] at zv1
          have so2 := so1.below hv1
          have hBv1 := (hB.alloc hz (.cells #[.int .i64 x.s, .int .i64 x.n] 30)).trans (hv1.mono (by simp; omega))
          have y0 : v1.cell? ⟨wr.heap.size, 0, none⟩ = some (.int .i64 x.s) := (hv1.cell (p := ⟨_, _, none⟩) (by simp)).trans (by simp [go_sem])
          have y1 : v1.cell? ⟨wr.heap.size, 1, none⟩ = some (.int .i64 x.n) := (hv1.cell (p := ⟨_, _, none⟩) (by simp)).trans (by simp [go_sem])
          have hown1 := OwnI.below (hown.alloc _) hv1
          go_wp2_with fail
          refine (containsC A3 c3 ur x v1 (by omega) so2).mono ?_
          rintro e v2 ⟨rfl, hv2⟩
          rw [d2]
          have zv2 := hv2.size
          have hBv2 := hBv1.trans (hv2.mono (by omega))
          have y0 := (hv2.cell (p := ⟨wr.heap.size, 0, none⟩) (by show wr.heap.size < _; omega)).trans y0
          have y1 := (hv2.cell (p := ⟨wr.heap.size, 1, none⟩) (by show wr.heap.size < _; omega)).trans y1
          have hown2 := hown1.below hv2
          clear hq1 so1 so2 sb1 hown hown1 hv1 hv2
          go_wp2_with (at_builtin; refine wpList_append_lies _ rfl _ _ _ rfl wz.heap.size 30 i0 (.agg #[.int .i64 0, .int .i64 0]) 2 16 Tryd.underlying22 hi.out hi0 hi1 hi2 rfl (by omega) _ _ _ (by rfl) (hown2.alloc _) ⟨v2.heap.size, 0, none⟩ 1 1 (encId x) (by rfl) rfl ?_ ?_ (by omega) ?_ ?_ ?_ (v2.heap.size + 1) ?_ ?_)
          · exact World.news_of_block (heap_alloc_new v2 _)
          · intro u hu; simp [encId] at hu; rcases hu with rfl | rfl <;> rfl
          · unfold maxLen; omega
          · omega
          · simp; omega
          · simp
          · intro g cap w9 hown9 hgrow hat hlt1
            have hlo := hown2.lt
            go_wp2_with fail
            go_roundw
            case rel =>
              have e3 : (mf ub ul ur (k + 1)).length = (mf ub ul ur k).length + 1 := by rw [hst'.out]; simp
              refine ⟨k + 1, by omega, by go_num, ?_, (hBv2.alloc (by omega) _).grown hgrow (by simp; omega) (fun j hj => (hlo j hj).1)⟩
              show World.ownsRow _ _ _ _ _ (mf ub ul ur (k + 1)).length (cellsI (mf ub ul ur (k + 1)))
              rw [e3, hst'.out, cellsI_snoc]
              exact hown9
            case measure => simp [intOf]; omega
        · have d2 : decide (x ∈ ur) = false := decide_eq_false dd2
          rw [if_neg (fun h => h.elim (fun h => h dd1) dd2)] at hst
          have hst' := Lib.hid hst
          clear dd1 dd2 hst
          go_wp2_with fail
          refine hq1.mono ?_
          rintro e v1 ⟨rfl, hv1⟩
          rw [d1]
          have zv1 := hv1.size
          rw [World.size_alloc] at zv1
          have so2 := so1.below hv1
          have hBv1 := (hB.alloc hz (.cells #[.int .i64 x.s, .int .i64 x.n] 30)).trans (hv1.mono (by simp; omega))
          have y0 : v1.cell? ⟨wr.heap.size, 0, none⟩ = some (.int .i64 x.s) := (hv1.cell (p := ⟨_, _, none⟩) (by simp)).trans (by simp [go_sem])
          have y1 : v1.cell? ⟨wr.heap.size, 1, none⟩ = some (.int .i64 x.n) := (hv1.cell (p := ⟨_, _, none⟩) (by simp)).trans (by simp [go_sem])
          have hown1 := OwnI.below (hown.alloc _) hv1
          go_wp2_with fail
          refine (containsC A3 c3 ur x v1 (by omega) so2).mono ?_
          rintro e v2 ⟨rfl, hv2⟩
          rw [d2]
          have zv2 := hv2.size
          have hBv2 := hBv1.trans (hv2.mono (by omega))
          have hown2 := hown1.below hv2
          go_wp2_with fail
          go_roundw
          case rel => exact ⟨k + 1, by omega, by go_num, by rw [hst'.out]; exact hown2, hBv2⟩
          case measure => simp [intOf]; omega
      · have d1 : decide (x ∈ ub) = false := decide_eq_false dd1
        rw [if_pos (.inl dd1)] at hst
        have hst' := Lib.hid hst
        clear dd1 hst
        go_wp2_with fail
        refine hq1.mono ?_
        rintro e v1 ⟨rfl, hv1⟩
        rw [d1]
        have zv1 := hv1.size
        rw [World.size_alloc] at zv1
        have hBv1 := (hB.alloc hz (.cells #[.int .i64 x.s, .int .i64 x.n] 30)).trans (hv1.mono (by simp; omega))
        have y0 : v1.cell? ⟨wr.heap.size, 0, none⟩ = some (.int .i64 x.s) := (hv1.cell (p := ⟨_, _, none⟩) (by simp)).trans (by simp [go_sem])
        have y1 : v1.cell? ⟨wr.heap.size, 1, none⟩ = some (.int .i64 x.n) := (hv1.cell (p := ⟨_, _, none⟩) (by simp)).trans (by simp [go_sem])
        have hown1 := OwnI.below (hown.alloc _) hv1
        clear hq1 so1 sb1 hown hv1
        go_wp2_with (at_builtin; refine wpList_append_lies _ rfl _ _ _ rfl wz.heap.size 30 i0 (.agg #[.int .i64 0, .int .i64 0]) 2 16 Tryd.underlying22 hi.out hi0 hi1 hi2 rfl (by omega) _ _ _ (by rfl) (hown1.alloc _) ⟨v1.heap.size, 0, none⟩ 1 1 (encId x) (by rfl) rfl ?_ ?_ (by omega) ?_ ?_ ?_ (v1.heap.size + 1) ?_ ?_)
        · exact World.news_of_block (heap_alloc_new v1 _)
        · intro u hu; simp [encId] at hu; rcases hu with rfl | rfl <;> rfl
        · unfold maxLen; omega
        · omega
        · simp; omega
        · simp
        · intro g cap w9 hown9 hgrow hat hlt1
          have hlo := hown1.lt
          go_wp2_with fail
          go_roundw
          case rel =>
            have e3 : (mf ub ul ur (k + 1)).length = (mf ub ul ur k).length + 1 := by rw [hst'.out]; simp
            refine ⟨k + 1, by omega, by go_num, ?_, (hBv1.alloc (by omega) _).grown hgrow (by simp; omega) (fun j hj => (hlo j hj).1)⟩
            show World.ownsRow _ _ _ _ _ (mf ub ul ur (k + 1)).length (cellsI (mf ub ul ur (k + 1)))
            rw [e3, hst'.out, cellsI_snoc]
            exact hown9
          case measure => simp [intOf]; omega
    · obtain rfl : k = ul.length := by omega
      have hown : OwnI wr wz.heap.size u9 (sq ub ul ur 0) := hown
      clear hlt hk hlen
      go_wp2_with fail
      go_loopw [9, 58] (fun out i wq => ∃ k : Nat, k ≤ ur.length ∧ i = .int .i64 k ∧ OwnI wq wz.heap.size out (sq ub ul ur k) ∧ Below wz.heap.size wz wq) (fun _ i _ => ur.length - (intOf i).toNat)
      case atStart => exact ⟨0, by omega, rfl, hown, hB⟩
      case round =>
        clear hown hB hz
        obtain ⟨k, hk, rfl, hown, hB⟩ := hrel
        have hz := hB.size
        have hlen := sq_len ub ul ur k
        obtain ⟨AS, cS, rfl, hSl⟩ := hown.slice
        by_cases hlt : k < ur.length
        · obtain ⟨b, off, hAd, hlb, hrd⟩ := sO.some hlt
          cases hAd
          obtain ⟨r0, r1⟩ := hrd.below hB hlb k hlt
          have hst := sq_succ ub ul ur k
          have hpl := pos_le (sq ub ul ur k) ur k
          have hps := fun m => pos_succ (sq ub ul ur k) ur m
          have hp0 : pos (sq ub ul ur k) ur 0 = 0 := rfl
          have hBx := hB.alloc hz (.cells #[.int .i64 (ith ur k).s, .int .i64 (ith ur k).n] 30)
          have sb1 := s1.below hBx
          have sm1 := sM.below hBx
          generalize hx : ith ur k = x at *
          have hq1 := containsC A1 c1 ub x _ (by omega) sb1
          have zx : (wr.alloc (.cells #[.int .i64 x.s, .int .i64 x.n] 30)).heap.size = wr.heap.size + 1 := World.size_alloc _ _
          have y0 : (wr.alloc (.cells #[.int .i64 x.s, .int .i64 x.n] 30)).cell? ⟨wr.heap.size, 0, none⟩ = some (.int .i64 x.s) := by simp [go_sem]
          have y1 : (wr.alloc (.cells #[.int .i64 x.s, .int .i64 x.n] 30)).cell? ⟨wr.heap.size, 1, none⟩ = some (.int .i64 x.n) := by simp [go_sem]
          have hownx := hown.alloc (.cells #[.int .i64 x.s, .int .i64 x.n] 30)
          by_cases u1 : x ∈ ub
          · have d1 : decide (x ∈ ub) = true := decide_eq_true u1
            rw [if_pos (.inl u1)] at hst
            have hst' := Lib.hid hst
            clear u1 hst hps hp0 hpl y0 y1
            go_wp2_with fail
            refine hq1.mono ?_
            rintro e v1 ⟨rfl, hv1⟩
            rw [d1]
            go_wp2_with fail
            go_roundw
            case rel => exact ⟨k + 1, by omega, by go_num, by rw [hst'.out]; exact OwnI.below hownx hv1, hBx.trans (hv1.mono (by omega))⟩
            case measure => simp [intOf]; omega
          by_cases u2 : x ∈ ul
          · have d1 : decide (x ∈ ub) = false := decide_eq_false u1
            have d2 : decide (x ∈ ul) = true := decide_eq_true u2
            rw [if_pos (.inr u2)] at hst
            have hst' := Lib.hid hst
            clear u1 u2 hst hps hp0 hpl
            go_wp2_with fail
            refine hq1.mono ?_
            rintro e v1 ⟨rfl, hv1⟩
            rw [d1]
            have zv1 := hv1.size
            have y0 := (hv1.cell (p := ⟨wr.heap.size, 0, none⟩) (by show wr.heap.size < _; omega)).trans y0
            have y1 := (hv1.cell (p := ⟨wr.heap.size, 1, none⟩) (by show wr.heap.size < _; omega)).trans y1
            have hB1 := hBx.trans (hv1.mono (by omega))
            have hown1 := OwnI.below hownx hv1
            go_wp2_with fail
            refine (containsC A2 c2 ul x v1 (by omega) (sm1.below hv1)).mono ?_
            rintro e v2 ⟨rfl, hv2⟩
            rw [d2]
            go_wp2_with fail
            go_roundw
            case rel => exact ⟨k + 1, by omega, by go_num, by rw [hst'.out]; exact OwnI.below hown1 hv2, hB1.trans (hv2.mono (by omega))⟩
            case measure => simp [intOf]; omega
          have d1 : decide (x ∈ ub) = false := decide_eq_false u1
          have d2 : decide (x ∈ ul) = false := decide_eq_false u2
          rw [if_neg (fun h => h.elim u1 u2)] at hst
          have hst' := Lib.hid hst
          clear u1 u2 hst
          go_wp2_with fail
          refine hq1.mono ?_
          rintro e v1 ⟨rfl, hv1⟩
          rw [d1]
          have zv1 := hv1.size
          have y0 := (hv1.cell (p := ⟨wr.heap.size, 0, none⟩) (by show wr.heap.size < _; omega)).trans y0
          have y1 := (hv1.cell (p := ⟨wr.heap.size, 1, none⟩) (by show wr.heap.size < _; omega)).trans y1
          have hB1 := hBx.trans (hv1.mono (by omega))
          have hown1 := OwnI.below hownx hv1
          go_wp2_with fail
          refine (containsC A2 c2 ul x v1 (by omega) (sm1.below hv1)).mono ?_
          rintro e v2 ⟨rfl, hv2⟩
          rw [d2]
          have zv2 := hv2.size
          have zr : wr.heap.size < v2.heap.size := by omega
          have y0 := (hv2.cell (p := ⟨wr.heap.size, 0, none⟩) (by show wr.heap.size < _; omega)).trans y0
          have y1 := (hv2.cell (p := ⟨wr.heap.size, 1, none⟩) (by show wr.heap.size < _; omega)).trans y1
          have hB2 := hB1.trans (hv2.mono (by omega))
          have hown2 := OwnI.below hown1 hv2
          have z2 := hB2.size
          have hSl2 : SlI v2 AS (sq ub ul ur k) := ((hSl.below ((Below.refl _ wr).alloc (Nat.le_refl _) _)).below hv1).below hv2
          clear hq1 sm1 sb1 hown hownx hown1 hv1 hv2 hB1 hBx hB d1 d2 hSl zx
          generalize hSq : sq ub ul ur k = S at *
          go_upto_block 4 with (fail)
          go_cut [14] (fun q wc => q = .int .i64 (pos S ur k : Nat) ∧ Below v2.heap.size v2 wc)
          case first =>
            clear y0 y1 hst' hpl hown2
            go_wp2_with fail
            go_loopw [14, 15] (fun at_ kk wv => ∃ (m : Nat) (kI : Int), m ≤ k ∧ at_ = .int .i64 0 ∧ kk = .int .i64 kI ∧ kI = (m : Int) - 1 ∧ Aside (pos S ur k = pos S ur m) ∧ Below v2.heap.size v2 wv) (fun _ kk _ => (intOf kk + 1).toNat)
            case atStart => exact ⟨k, (k : Int) - 1, by omega, rfl, rfl, rfl, (show Aside _ from rfl), Below.refl _ _⟩
            case round =>
              obtain ⟨m, kI, hm, rfl, rfl, hkI, hA, hBv⟩ := hrel
              have hzv := hBv.size
              by_cases hm0 : m = 0
              · subst hm0
                obtain rfl : kI = -1 := by omega
                clear hkI
                have hA := hA.out
                rw [hp0] at hA
                have hA' := Lib.hid hA
                clear hA hps hp0
                go_wp2_with fail
                go_meet
                exact ⟨by rw [hA'.out]; rfl, hBv⟩
              · obtain ⟨p, rfl⟩ : ∃ p, m = p + 1 := ⟨m - 1, by omega⟩
                obtain rfl : kI = (p : Int) := by omega
                clear hkI
                obtain ⟨t0, t1⟩ := hrd.below (hB2.trans (hBv.mono (by omega))) hlb p (by omega)
                have hA := hA.out
                have hpp := hps p
                generalize hy : ith ur p = y at *
                have hix := sindexC AS cS S y wr (by omega) (hSl2.below hBv)
                clear hps hp0
                by_cases hin : y ∈ S
                · rw [if_pos hin, ← hA] at hpp
                  have e0 : idx S y = (idxN S y : Nat) := idx_in hin
                  rw [e0] at hix
                  have hpp' := Lib.hid hpp
                  have hbd := idxN_lt hin
                  clear hpp hA hin e0
                  generalize idxN S y = I at *
                  go_wp2_with fail
                  refine hix.mono ?_
                  rintro e v3 ⟨rfl, hv3⟩
                  go_wp2_with fail
                  go_meet
                  exact ⟨by rw [hpp'.out]; rfl, hBv.trans (hv3.mono (by omega))⟩
                · rw [if_neg hin] at hpp
                  have e0 : idx S y < 0 := by have := mt idx_nonneg.1 hin; omega
                  have hpp' := Lib.hid (hA.trans hpp)
                  clear hpp hA hin
                  generalize idx S y = I at *
                  go_wp2_with fail
                  refine hix.mono ?_
                  rintro e v3 ⟨rfl, hv3⟩
                  go_wp2_with fail
                  go_roundw
                  case rel => exact ⟨p, (p : Int) - 1, by omega, rfl, by first | rfl | go_num, rfl, (show Aside _ from hpp'.out), hBv.trans (hv3.mono (by omega))⟩
                  case measure => first | (simp [intOf]; done) | (simp [intOf]; omega)
          case rest =>
            obtain ⟨rfl, hBc⟩ := hcut
            have zc := hBc.size
            have hownc := OwnI.below hown2 hBc
            have y0 := (hBc.cell (p := ⟨wr.heap.size, 0, none⟩) (by show wr.heap.size < _; omega)).trans y0
            have y1 := (hBc.cell (p := ⟨wr.heap.size, 1, none⟩) (by show wr.heap.size < _; omega)).trans y1
            have hBw := hB2.trans (hBc.mono (by omega))
            have hne : (Value.slice AS S.length cS).ownBlock ≠ some wc.heap.size := fun e => by have := (hownc.lt _ e).2; omega
            have hins := insertC wz.heap.size (.slice AS S.length cS) S (pos S ur k) x wc.heap.size (wc.alloc (.cells #[.int .i64 x.s, .int .i64 x.n] 30)) hpl (by omega) (by simp; omega) (hownc.alloc _) hne (heap_alloc_new wc _)
            clear hps hp0 hpl hown2 hSl2 hBc hB2
            go_wp2_with fail
            refine hins.mono ?_
            rintro e w9 ⟨⟨v9, rfl, hown9⟩, hB9⟩
            go_wp2_with fail
            go_roundw
            case rel => exact ⟨k + 1, by omega, by go_num, by rw [hst'.out]; exact hown9, (hBw.alloc (by omega) _).trans hB9⟩
            case measure => simp [intOf]; omega
        · obtain rfl : k = ur.length := by omega
          go_wp2_with fail
          go_ret
          exact ⟨⟨AS, cS, rfl, hSl⟩, BZ.trans (hB.mono (by omega))⟩

set_option maxHeartbeats 16000000 in
set_option maxRecDepth 100000 in
theorem seqA (Ab Al Ar : Option Addr) (cb cl cr : Nat) (base left right : List Id) (w : World) (hb1 : base.length ≤ 100) (hl1 : left.length ≤ 100) (hr1 : right.length ≤ 100) (hb : SlI w Ab base) (hl : SlI w Al left) (hr : SlI w Ar right)
    (h1 : ordB (uniq base) (uniq left) = true) (h2 : ordB (uniq base) (uniq right) = false) :
    Calls Tryd.prog 7 #[.slice Ab base.length cb, .slice Al left.length cl, .slice Ar right.length cr] w fun r w' => RetI w w' r (seqMO (uniq base) (uniq right) (uniq left)) := by
  have q1 := fun w h => uniqueC Ab cb base w (by omega) h
  have q2 := fun w h => uniqueC Al cl left w (by omega) h
  have q3 := fun w h => uniqueC Ar cr right w (by omega) h
  have nb := uniq_nodup base
  have lb := uniq_len base
  have ll := uniq_len left
  have lr := uniq_len right
  generalize uniq base = ub at *
  generalize uniq left = ul at *
  generalize uniq right = ur at *
  unfold seqMO
  go_enter Tryd.func7, Tryd.ntmps7
  go_wp2_with fail
  refine (q1 w hb).mono ?_
  rintro e w1 ⟨⟨A1, c1, rfl, s1⟩, B1⟩
  have hl := hl.below B1
  have hr := hr.below B1
  have z1 := B1.size
  go_wp2_with fail
  refine (q2 w1 hl).mono ?_
  rintro e w2 ⟨⟨A2, c2, rfl, s2⟩, B2⟩
  have hr := hr.below B2
  have s1 := s1.below B2
  have B2 := B1.trans (B2.mono z1)
  have z2 := B2.size
  go_wp2_with fail
  refine (q3 w2 hr).mono ?_
  rintro e w3 ⟨⟨A3, c3, rfl, s3⟩, B3⟩
  have s1 := s1.below B3
  have s2 := s2.below B3
  have B3 := B2.trans (B3.mono z2)
  have z3 := B3.size
  clear hb hl hr q1 q2 q3 B1 B2 z1 z2
  have o1 := fun w s1 s2 => orderedP A1 c1 ub A2 c2 ul w nb (by omega) (by omega) s1 s2
  have o2 := fun w s1 s3 => orderedP A1 c1 ub A3 c3 ur w nb (by omega) (by omega) s1 s3
  go_wp2_with fail
  refine (o1 w3 s1 s2).mono ?_
  rintro e w4 ⟨rfl, B4⟩
  have s1 := s1.below B4
  have s2 := s2.below B4
  have s3 := s3.below B4
  have B4 := B3.trans (B4.mono z3)
  have z4 := B4.size
  rw [h1]
  go_wp2_with fail
  refine (o2 w4 s1 s3).mono ?_
  rintro e wz ⟨rfl, B5⟩
  have s1 := s1.below B5
  have sM := s3.below B5
  have sO := s2.below B5
  have BZ := B4.trans (B5.mono z4)
  rw [h2]
  clear s2 s3 B3 B4 B5 z3 z4 h1 h2
  clear o1 o2 nb
  have i30 := info_parts info30
  obtain ⟨i0, hi, hi0, hi1, hi2⟩ := i30
  have hi := Lib.hid hi
  have zq := BZ.size
  go_wp2_with fail
  go_loopw [9, 38] (fun out i wr => ∃ k : Nat, k ≤ ur.length ∧ i = .int .i64 k ∧ OwnI wr wz.heap.size out (mf ub ur ul k) ∧ Below wz.heap.size wz wr) (fun _ i _ => ur.length - (intOf i).toNat)
  case atStart => exact ⟨0, by omega, rfl, World.ownsRow_nil _ _ _ _, Below.refl _ _⟩
  case round =>
    obtain ⟨k, hk, rfl, hown, hB⟩ := hrel
    have hz := hB.size
    have hlen := mf_len ub ur ul k
    by_cases hlt : k < ur.length
    · obtain ⟨b, off, hAd, hlb, hrd⟩ := sM.some hlt
      cases hAd
      obtain ⟨r0, r1⟩ := hrd.below hB hlb k hlt
      have hst := mf_succ ub ur ul k
      have sb1 := s1.below (hB.alloc hz (.cells #[.int .i64 (ith ur k).s, .int .i64 (ith ur k).n] 30))
      have so1 := sO.below (hB.alloc hz (.cells #[.int .i64 (ith ur k).s, .int .i64 (ith ur k).n] 30))
      generalize hx : ith ur k = x at *
      have hq1 := containsC A1 c1 ub x _ (by omega) sb1
      by_cases dd1 : x ∈ ub
      · have d1 : decide (x ∈ ub) = true := decide_eq_true dd1
        by_cases dd2 : x ∈ ul
        · have d2 : decide (x ∈ ul) = true := decide_eq_true dd2
          rw [if_pos (.inr dd2)] at hst
          have hst' := Lib.hid hst
          clear dd1 dd2 hst
          go_wp2_with fail
          refine hq1.mono ?_
          rintro e v1 ⟨rfl, hv1⟩
          rw [d1]
          have zv1 := hv1.size
          rw [World.size_alloc] at zv1
          have so2 := so1.below hv1
          have hBv1 := (hB.alloc hz (.cells #[.int .i64 x.s, .int .i64 x.n] 30)).trans (hv1.mono (by simp; omega))
          have y0 : v1.cell? ⟨wr.heap.size, 0, none⟩ = some (.int .i64 x.s) := (hv1.cell (p := ⟨_, _, none⟩) (by simp)).trans (by simp [go_sem])
          have y1 : v1.cell? ⟨wr.heap.size, 1, none⟩ = some (.int .i64 x.n) := (hv1.cell (p := ⟨_, _, none⟩) (by simp)).trans (by simp [go_sem])
          have hown1 := OwnI.below (hown.alloc _) hv1
          go_wp2_with fail
          refine (containsC A2 c2 ul x v1 (by omega) so2).mono ?_
          rintro e v2 ⟨rfl, hv2⟩
          rw [d2]
          have zv2 := hv2.size
          have hBv2 := hBv1.trans (hv2.mono (by omega))
          have y0 := (hv2.cell (p := ⟨wr.heap.size, 0, none⟩) (by show wr.heap.size < _; omega)).trans y0
          have y1 := (hv2.cell (p := ⟨wr.heap.size, 1, none⟩) (by show wr.heap.size < _; omega)).trans y1
          have hown2 := hown1.below hv2
          clear hq1 so1 so2 sb1 hown hown1 hv1 hv2
          go_wp2_with (at_builtin; refine wpList_append_lies _ rfl _ _ _ rfl wz.heap.size 30 i0 (.agg #[.int .i64 0, .int .i64 0]) 2 16 Tryd.underlying22 hi.out hi0 hi1 hi2 rfl (by omega) _ _ _ (by rfl) (hown2.alloc _) ⟨v2.heap.size, 0, none⟩ 1 1 (encId x) (by rfl) rfl ?_ ?_ (by omega) ?_ ?_ ?_ (v2.heap.size + 1) ?_ ?_)
          · exact World.news_of_block (heap_alloc_new v2 _)
          · intro u hu; simp [encId] at hu; rcases hu with rfl | rfl <;> rfl
          · unfold maxLen; omega
          · omega
          · simp; omega
          · simp
          · intro g cap w9 hown9 hgrow hat hlt1
            have hlo := hown2.lt
            go_wp2_with fail
            go_roundw
            case rel =>
              have e3 : (mf ub ur ul (k + 1)).length = (mf ub ur ul k).length + 1 := by rw [hst'.out]; simp
              refine ⟨k + 1, by omega, by go_num, ?_, (hBv2.alloc (by omega) _).grown hgrow (by simp; omega) (fun j hj => (hlo j hj).1)⟩
              show World.ownsRow _ _ _ _ _ (mf ub ur ul (k + 1)).length (cellsI (mf ub ur ul (k + 1)))
              rw [e3, hst'.out, cellsI_snoc]
              exact hown9
            case measure => simp [intOf]; omega
        · have d2 : decide (x ∈ ul) = false := decide_eq_false dd2
          rw [if_neg (fun h => h.elim (fun h => h dd1) dd2)] at hst
          have hst' := Lib.hid hst
          clear dd1 dd2 hst
          go_wp2_with fail
          refine hq1.mono ?_
          rintro e v1 ⟨rfl, hv1⟩
          rw [d1]
          have zv1 := hv1.size
          rw [World.size_alloc] at zv1
          have so2 := so1.below hv1
          have hBv1 := (hB.alloc hz (.cells #[.int .i64 x.s, .int .i64 x.n] 30)).trans (hv1.mono (by simp; omega))
          have y0 : v1.cell? ⟨wr.heap.size, 0, none⟩ = some (.int .i64 x.s) := (hv1.cell (p := ⟨_, _, none⟩) (by simp)).trans (by simp [go_sem])
          have y1 : v1.cell? ⟨wr.heap.size, 1, none⟩ = some (.int .i64 x.n) := (hv1.cell (p := ⟨_, _, none⟩) (by simp)).trans (by simp [go_sem])
          have hown1 := OwnI.below (hown.alloc _) hv1
          go_wp2_with fail
          refine (containsC A2 c2 ul x v1 (by omega) so2).mono ?_
          rintro e v2 ⟨rfl, hv2⟩
          rw [d2]
          have zv2 := hv2.size
          have hBv2 := hBv1.trans (hv2.mono (by omega))
          have hown2 := hown1.below hv2
          go_wp2_with fail
          go_roundw
          case rel => exact ⟨k + 1, by omega, by go_num, by rw [hst'.out]; exact hown2, hBv2⟩
          case measure => simp [intOf]; omega
      · have d1 : decide (x ∈ ub) = false := decide_eq_false dd1
        rw [if_pos (.inl dd1)] at hst
        have hst' := Lib.hid hst
        clear dd1 hst
        go_wp2_with fail
        refine hq1.mono ?_
        rintro e v1 ⟨rfl, hv1⟩
        rw [d1]
        have zv1 := hv1.size
        rw [World.size_alloc] at zv1
        have hBv1 := (hB.alloc hz (.cells #[.int .i64 x.s, .int .i64 x.n] 30)).trans (hv1.mono (by simp; omega))
        have y0 : v1.cell? ⟨wr.heap.size, 0, none⟩ = some (.int .i64 x.s) := (hv1.cell (p := ⟨_, _, none⟩) (by simp)).trans (by simp [go_sem])
        have y1 : v1.cell? ⟨wr.heap.size, 1, none⟩ = some (.int .i64 x.n) := (hv1.cell (p := ⟨_, _, none⟩) (by simp)).trans (by simp [go_sem])
        have hown1 := OwnI.below (hown.alloc _) hv1
        clear hq1 so1 sb1 hown hv1
        go_wp2_with (at_builtin; refine wpList_append_lies _ rfl _ _ _ rfl wz.heap.size 30 i0 (.agg #[.int .i64 0, .int .i64 0]) 2 16 Tryd.underlying22 hi.out hi0 hi1 hi2 rfl (by omega) _ _ _ (by rfl) (hown1.alloc _) ⟨v1.heap.size, 0, none⟩ 1 1 (encId x) (by rfl) rfl ?_ ?_ (by omega) ?_ ?_ ?_ (v1.heap.size + 1) ?_ ?_)
        · exact World.news_of_block (heap_alloc_new v1 _)
        · intro u hu; simp [encId] at hu; rcases hu with rfl | rfl <;> rfl
        · unfold maxLen; omega
        · omega
        · simp; omega
        · simp
        · intro g cap w9 hown9 hgrow hat hlt1
          have hlo := hown1.lt
          go_wp2_with fail
          go_roundw
          case rel =>
            have e3 : (mf ub ur ul (k + 1)).length = (mf ub ur ul k).length + 1 := by rw [hst'.out]; simp
            refine ⟨k + 1, by omega, by go_num, ?_, (hBv1.alloc (by omega) _).grown hgrow (by simp; omega) (fun j hj => (hlo j hj).1)⟩
            show World.ownsRow _ _ _ _ _ (mf ub ur ul (k + 1)).length (cellsI (mf ub ur ul (k + 1)))
            rw [e3, hst'.out, cellsI_snoc]
            exact hown9
          case measure => simp [intOf]; omega
    · obtain rfl : k = ur.length := by omega
      have hown : OwnI wr wz.heap.size u9 (sq ub ur ul 0) := hown
      clear hlt hk hlen
      go_wp2_with fail
      go_loopw [9, 58] (fun out i wq => ∃ k : Nat, k ≤ ul.length ∧ i = .int .i64 k ∧ OwnI wq wz.heap.size out (sq ub ur ul k) ∧ Below wz.heap.size wz wq) (fun _ i _ => ul.length - (intOf i).toNat)
      case atStart => exact ⟨0, by omega, rfl, hown, hB⟩
      case round =>
        clear hown hB hz
        obtain ⟨k, hk, rfl, hown, hB⟩ := hrel
        have hz := hB.size
        have hlen := sq_len ub ur ul k
        obtain ⟨AS, cS, rfl, hSl⟩ := hown.slice
        by_cases hlt : k < ul.length
        · obtain ⟨b, off, hAd, hlb, hrd⟩ := sO.some hlt
          cases hAd
          obtain ⟨r0, r1⟩ := hrd.below hB hlb k hlt
          have hst := sq_succ ub ur ul k
          have hpl := pos_le (sq ub ur ul k) ul k
          have hps := fun m => pos_succ (sq ub ur ul k) ul m
          have hp0 : pos (sq ub ur ul k) ul 0 = 0 := rfl
          have hBx := hB.alloc hz (.cells #[.int .i64 (ith ul k).s, .int .i64 (ith ul k).n] 30)
          have sb1 := s1.below hBx
          have sm1 := sM.below hBx
          generalize hx : ith ul k = x at *
          have hq1 := containsC A1 c1 ub x _ (by omega) sb1
          have zx : (wr.alloc (.cells #[.int .i64 x.s, .int .i64 x.n] 30)).heap.size = wr.heap.size + 1 := World.size_alloc _ _
          have y0 : (wr.alloc (.cells #[.int .i64 x.s, .int .i64 x.n] 30)).cell? ⟨wr.heap.size, 0, none⟩ = some (.int .i64 x.s) := by simp [go_sem]
          have y1 : (wr.alloc (.cells #[.int .i64 x.s, .int .i64 x.n] 30)).cell? ⟨wr.heap.size, 1, none⟩ = some (.int .i64 x.n) := by simp [go_sem]
          have hownx := hown.alloc (.cells #[.int .i64 x.s, .int .i64 x.n] 30)
          by_cases u1 : x ∈ ub
          · have d1 : decide (x ∈ ub) = true := decide_eq_true u1
            rw [if_pos (.inl u1)] at hst
            have hst' := Lib.hid hst
            clear u1 hst hps hp0 hpl y0 y1
            go_wp2_with fail
            refine hq1.mono ?_
            rintro e v1 ⟨rfl, hv1⟩
            rw [d1]
            go_wp2_with fail
            go_roundw
            case rel => exact ⟨k + 1, by omega, by go_num, by rw [hst'.out]; exact OwnI.below hownx hv1, hBx.trans (hv1.mono (by omega))⟩
            case measure => simp [intOf]; omega
          by_cases u2 : x ∈ ur
          · have d1 : decide (x ∈ ub) = false := decide_eq_false u1
            have d2 : decide (x ∈ ur) = true := decide_eq_true u2
            rw [if_pos (.inr u2)] at hst
            have hst' := Lib.hid hst
            clear u1 u2 hst hps hp0 hpl
            go_wp2_with fail
            refine hq1.mono ?_
            rintro e v1 ⟨rfl, hv1⟩
            rw [d1]
            have zv1 := hv1.size
            have y0 := (hv1.cell (p := ⟨wr.heap.size, 0, none⟩) (by show wr.heap.size < _; omega)).trans y0
            have y1 := (hv1.cell (p := ⟨wr.heap.size, 1, none⟩) (by show wr.heap.size < _; omega)).trans y1
            have hB1 := hBx.trans (hv1.mono (by omega))
            have hown1 := OwnI.below hownx hv1
            go_wp2_with fail
            refine (containsC A3 c3 ur x v1 (by omega) (sm1.below hv1)).mono ?_
            rintro e v2 ⟨rfl, hv2⟩
            rw [d2]
            go_wp2_with fail
            go_roundw
            case rel => exact ⟨k + 1, by omega, by go_num, by rw [hst'.out]; exact OwnI.below hown1 hv2, hB1.trans (hv2.mono (by omega))⟩
            case measure => simp [intOf]; omega
          have d1 : decide (x ∈ ub) = false := decide_eq_false u1
          have d2 : decide (x ∈ ur) = false := decide_eq_false u2
          rw [if_neg (fun h => h.elim u1 u2)] at hst
          have hst' := Lib.hid hst
          clear u1 u2 hst
          go_wp2_with fail
          refine hq1.mono ?_
          rintro e v1 ⟨rfl, hv1⟩
          rw [d1]
          have zv1 := hv1.size
          have y0 := (hv1.cell (p := ⟨wr.heap.size, 0, none⟩) (by show wr.heap.size < _; omega)).trans y0
          have y1 := (hv1.cell (p := ⟨wr.heap.size, 1, none⟩) (by show wr.heap.size < _; omega)).trans y1
          have hB1 := hBx.trans (hv1.mono (by omega))
          have hown1 := OwnI.below hownx hv1
          go_wp2_with fail
          refine (containsC A3 c3 ur x v1 (by omega) (sm1.below hv1)).mono ?_
          rintro e v2 ⟨rfl, hv2⟩
          rw [d2]
          have zv2 := hv2.size
          have zr : wr.heap.size < v2.heap.size := by omega
          have y0 := (hv2.cell (p := ⟨wr.heap.size, 0, none⟩) (by show wr.heap.size < _; omega)).trans y0
          have y1 := (hv2.cell (p := ⟨wr.heap.size, 1, none⟩) (by show wr.heap.size < _; omega)).trans y1
          have hB2 := hB1.trans (hv2.mono (by omega))
          have hown2 := OwnI.below hown1 hv2
          have z2 := hB2.size
          have hSl2 : SlI v2 AS (sq ub ur ul k) := ((hSl.below ((Below.refl _ wr).alloc (Nat.le_refl _) _)).below hv1).below hv2
          clear hq1 sm1 sb1 hown hownx hown1 hv1 hv2 hB1 hBx hB d1 d2 hSl zx
          generalize hSq : sq ub ur ul k = S at *
          go_upto_block 4 with (fail)
          go_cut [14] (fun q wc => q = .int .i64 (pos S ul k : Nat) ∧ Below v2.heap.size v2 wc)
          case first =>
            clear y0 y1 hst' hpl hown2
            go_wp2_with fail
            go_loopw [14, 15] (fun at_ kk wv => ∃ (m : Nat) (kI : Int), m ≤ k ∧ at_ = .int .i64 0 ∧ kk = .int .i64 kI ∧ kI = (m : Int) - 1 ∧ Aside (pos S ul k = pos S ul m) ∧ Below v2.heap.size v2 wv) (fun _ kk _ => (intOf kk + 1).toNat)
            case atStart => exact ⟨k, (k : Int) - 1, by omega, rfl, rfl, rfl, (show Aside _ from rfl), Below.refl _ _⟩
            case round =>
              obtain ⟨m, kI, hm, rfl, rfl, hkI, hA, hBv⟩ := hrel
              have hzv := hBv.size
              by_cases hm0 : m = 0
              · subst hm0
                obtain rfl : kI = -1 := by omega
                clear hkI
                have hA := hA.out
                rw [hp0] at hA
                have hA' := Lib.hid hA
                clear hA hps hp0
                go_wp2_with fail
                go_meet
                exact ⟨by rw [hA'.out]; rfl, hBv⟩
              · obtain ⟨p, rfl⟩ : ∃ p, m = p + 1 := ⟨m - 1, by omega⟩
                obtain rfl : kI = (p : Int) := by omega
                clear hkI
                obtain ⟨t0, t1⟩ := hrd.below (hB2.trans (hBv.mono (by omega))) hlb p (by omega)
                have hA := hA.out
                have hpp := hps p
                generalize hy : ith ul p = y at *
                have hix := sindexC AS cS S y wr (by omega) (hSl2.below hBv)
                clear hps hp0
                by_cases hin : y ∈ S
                · rw [if_pos hin, ← hA] at hpp
                  have e0 : idx S y = (idxN S y : Nat) := idx_in hin
                  rw [e0] at hix
                  have hpp' := Lib.hid hpp
                  have hbd := idxN_lt hin
                  clear hpp hA hin e0
                  generalize idxN S y = I at *
                  go_wp2_with fail
                  refine hix.mono ?_
                  rintro e v3 ⟨rfl, hv3⟩
                  go_wp2_with fail
                  go_meet
                  exact ⟨by rw [hpp'.out]; rfl, hBv.trans (hv3.mono (by omega))⟩
                · rw [if_neg hin] at hpp
                  have e0 : idx S y < 0 := by have := mt idx_nonneg.1 hin; omega
                  have hpp' := Lib.hid (hA.trans hpp)
                  clear hpp hA hin
                  generalize idx S y = I at *
                  go_wp2_with fail
                  refine hix.mono ?_
                  rintro e v3 ⟨rfl, hv3⟩
                  go_wp2_with fail
                  go_roundw
                  case rel => exact ⟨p, (p : Int) - 1, by omega, rfl, by first | rfl | go_num, rfl, (show Aside _ from hpp'.out), hBv.trans (hv3.mono (by omega))⟩
                  case measure => first | (simp [intOf]; done) | (simp [intOf]; omega)
          case rest =>
            obtain ⟨rfl, hBc⟩ := hcut
            have zc := hBc.size
            have hownc := OwnI.below hown2 hBc
            have y0 := (hBc.cell (p := ⟨wr.heap.size, 0, none⟩) (by show wr.heap.size < _; omega)).trans y0
            have y1 := (hBc.cell (p := ⟨wr.heap.size, 1, none⟩) (by show wr.heap.size < _; omega)).trans y1
            have hBw := hB2.trans (hBc.mono (by omega))
            have hne : (Value.slice AS S.length cS).ownBlock ≠ some wc.heap.size := fun e => by have := (hownc.lt _ e).2; omega
            have hins := insertC wz.heap.size (.slice AS S.length cS) S (pos S ul k) x wc.heap.size (wc.alloc (.cells #[.int .i64 x.s, .int .i64 x.n] 30)) hpl (by omega) (by simp; omega) (hownc.alloc _) hne (heap_alloc_new wc _)
            clear hps hp0 hpl hown2 hSl2 hBc hB2
            go_wp2_with fail
            refine hins.mono ?_
            rintro e w9 ⟨⟨v9, rfl, hown9⟩, hB9⟩
            go_wp2_with fail
            go_roundw
            case rel => exact ⟨k + 1, by omega, by go_num, by rw [hst'.out]; exact hown9, (hBw.alloc (by omega) _).trans hB9⟩
            case measure => simp [intOf]; omega
        · obtain rfl : k = ul.length := by omega
          go_wp2_with fail
          go_ret
          exact ⟨⟨AS, cS, rfl, hSl⟩, BZ.trans (hB.mono (by omega))⟩

set_option maxHeartbeats 16000000 in
set_option maxRecDepth 100000 in
theorem seqC (Ab Al Ar : Option Addr) (cb cl cr : Nat) (base left right : List Id) (w : World) (hb1 : base.length ≤ 100) (hl1 : left.length ≤ 100) (hr1 : right.length ≤ 100) (hb : SlI w Ab base) (hl : SlI w Al left) (hr : SlI w Ar right)
    (h1 : ordB (uniq base) (uniq left) = false) :
    Calls Tryd.prog 7 #[.slice Ab base.length cb, .slice Al left.length cl, .slice Ar right.length cr] w fun r w' => RetI w w' r (seqMO (uniq base) (uniq left) (uniq right)) := by
  have q1 := fun w h => uniqueC Ab cb base w (by omega) h
  have q2 := fun w h => uniqueC Al cl left w (by omega) h
  have q3 := fun w h => uniqueC Ar cr right w (by omega) h
  have nb := uniq_nodup base
  have lb := uniq_len base
  have ll := uniq_len left
  have lr := uniq_len right
  generalize uniq base = ub at *
  generalize uniq left = ul at *
  generalize uniq right = ur at *
  unfold seqMO
  go_enter Tryd.func7, Tryd.ntmps7
  go_wp2_with fail
  refine (q1 w hb).mono ?_
  rintro e w1 ⟨⟨A1, c1, rfl, s1⟩, B1⟩
  have hl := hl.below B1
  have hr := hr.below B1
  have z1 := B1.size
  go_wp2_with fail
  refine (q2 w1 hl).mono ?_
  rintro e w2 ⟨⟨A2, c2, rfl, s2⟩, B2⟩
  have hr := hr.below B2
  have s1 := s1.below B2
  have B2 := B1.trans (B2.mono z1)
  have z2 := B2.size
  go_wp2_with fail
  refine (q3 w2 hr).mono ?_
  rintro e w3 ⟨⟨A3, c3, rfl, s3⟩, B3⟩
  have s1 := s1.below B3
  have s2 := s2.below B3
  have B3 := B2.trans (B3.mono z2)
  have z3 := B3.size
  clear hb hl hr q1 q2 q3 B1 B2 z1 z2
  have o1 := fun w s1 s2 => orderedP A1 c1 ub A2 c2 ul w nb (by omega) (by omega) s1 s2
  have o2 := fun w s1 s3 => orderedP A1 c1 ub A3 c3 ur w nb (by omega) (by omega) s1 s3
  go_wp2_with fail
  refine (o1 w3 s1 s2).mono ?_
  rintro e wz ⟨rfl, B4⟩
  have s1 := s1.below B4
  have sM := s2.below B4
  have sO := s3.below B4
  have BZ := B3.trans (B4.mono z3)
  rw [h1]
  clear s2 s3 B3 B4 z3 h1
  clear o1 o2 nb
  have i30 := info_parts info30
  obtain ⟨i0, hi, hi0, hi1, hi2⟩ := i30
  have hi := Lib.hid hi
  have zq := BZ.size
  go_wp2_with fail
  go_loopw [9, 38] (fun out i wr => ∃ k : Nat, k ≤ ul.length ∧ i = .int .i64 k ∧ OwnI wr wz.heap.size out (mf ub ul ur k) ∧ Below wz.heap.size wz wr) (fun _ i _ => ul.length - (intOf i).toNat)
  case atStart => exact ⟨0, by omega, rfl, World.ownsRow_nil _ _ _ _, Below.refl _ _⟩
  case round =>
    obtain ⟨k, hk, rfl, hown, hB⟩ := hrel
    have hz := hB.size
    have hlen := mf_len ub ul ur k
    by_cases hlt : k < ul.length
    · obtain ⟨b, off, hAd, hlb, hrd⟩ := sM.some hlt
      cases hAd
      obtain ⟨r0, r1⟩ := hrd.below hB hlb k hlt
      have hst := mf_succ ub ul ur k
      have sb1 := s1.below (hB.alloc hz (.cells #[.int .i64 (ith ul k).s, .int .i64 (ith ul k).n] 30))
      have so1 := sO.below (hB.alloc hz (.cells #[.int .i64 (ith ul k).s, .int .i64 (ith ul k).n] 30))
      generalize hx : ith ul k = x at *
      have hq1 := containsC A1 c1 ub x _ (by omega) sb1
      by_cases dd1 : x ∈ ub
      · have d1 : decide (x ∈ ub) = true := decide_eq_true dd1
        by_cases dd2 : x ∈ ur
        · have d2 : decide (x ∈ ur) = true := decide_eq_true dd2
          rw [if_pos (.inr dd2)] at hst
          have hst' := Lib.hid hst
          clear dd1 dd2 hst
          go_wp2_with fail
          refine hq1.mono ?_
          rintro e v1 ⟨rfl, hv1⟩
          rw [d1]
          have zv1 := hv1.size
          rw [World.size_alloc] at zv1
          have so2 := so1.below hv1
          have hBv1 := (hB.alloc hz (.cells #[.int .i64 x.s, .int .i64 x.n] 30)).trans (hv1.mono (by simp; omega))
          have y0 : v1.cell? ⟨wr.heap.size, 0, none⟩ = some (.int .i64 x.s) := (hv1.cell (p := ⟨_, _, none⟩) (by simp)).trans (by simp [go_sem])
          have y1 : v1.cell? ⟨wr.heap.size, 1, none⟩ = some (.int .i64 x.n) := (hv1.cell (p := ⟨_, _, none⟩) (by simp)).trans (by simp [go_sem])
          have hown1 := OwnI.below (hown.alloc _) hv1
          go_wp2_with fail
          refine (containsC A3 c3 ur x v1 (by omega) so2).mono ?_
          rintro e v2 ⟨rfl, hv2⟩
          rw [d2]
          have zv2 := hv2.size
          have hBv2 := hBv1.trans (hv2.mono (by omega))
          have y0 := (hv2.cell (p := ⟨wr.heap.size, 0, none⟩) (by show wr.heap.size < _; omega)).trans y0
          have y1 := (hv2.cell (p := ⟨wr.heap.size, 1, none⟩) (by show wr.heap.size < _; omega)).trans y1
          have hown2 := hown1.below hv2
          clear hq1 so1 so2 sb1 hown hown1 hv1 hv2
          go_wp2_with (at_builtin; refine wpList_append_lies _ rfl _ _ _ rfl wz.heap.size 30 i0 (.agg #[.int .i64 0, .int .i64 0]) 2 16 Tryd.underlying22 hi.out hi0 hi1 hi2 rfl (by omega) _ _ _ (by rfl) (hown2.alloc _) ⟨v2.heap.size, 0, none⟩ 1 1 (encId x) (by rfl) rfl ?_ ?_ (by omega) ?_ ?_ ?_ (v2.heap.size + 1) ?_ ?_)
          · exact World.news_of_block (heap_alloc_new v2 _)
          · intro u hu; simp [encId] at hu; rcases hu with rfl | rfl <;> rfl
          · unfold maxLen; omega
          · omega
          · simp; omega
          · simp
          · intro g cap w9 hown9 hgrow hat hlt1
            have hlo := hown2.lt
            go_wp2_with fail
            go_roundw
            case rel =>
              have e3 : (mf ub ul ur (k + 1)).length = (mf ub ul ur k).length + 1 := by rw [hst'.out]; simp
              refine ⟨k + 1, by omega, by go_num, ?_, (hBv2.alloc (by omega) _).grown hgrow (by simp; omega) (fun j hj => (hlo j hj).1)⟩
              show World.ownsRow _ _ _ _ _ (mf ub ul ur (k + 1)).length (cellsI (mf ub ul ur (k + 1)))
              rw [e3, hst'.out, cellsI_snoc]
              exact hown9
            case measure => simp [intOf]; omega
        · have d2 : decide (x ∈ ur) = false := decide_eq_false dd2
          rw [if_neg (fun h => h.elim (fun h => h dd1) dd2)] at hst
          have hst' := Lib.hid hst
          clear dd1 dd2 hst
          go_wp2_with fail
          refine hq1.mono ?_
          rintro e v1 ⟨rfl, hv1⟩
          rw [d1]
          have zv1 := hv1.size
          rw [World.size_alloc] at zv1
          have so2 := so1.below hv1
          have hBv1 := (hB.alloc hz (.cells #[.int .i64 x.s, .int .i64 x.n] 30)).trans (hv1.mono (by simp; omega))
          have y0 : v1.cell? ⟨wr.heap.size, 0, none⟩ = some (.int .i64 x.s) := (hv1.cell (p := ⟨_, _, none⟩) (by simp)).trans (by simp [go_sem])
          have y1 : v1.cell? ⟨wr.heap.size, 1, none⟩ = some (.int .i64 x.n) := (hv1.cell (p := ⟨_, _, none⟩) (by simp)).trans (by simp [go_sem])
          have hown1 := OwnI.below (hown.alloc _) hv1
          go_wp2_with fail
          refine (containsC A3 c3 ur x v1 (by omega) so2).mono ?_
          rintro e v2 ⟨rfl, hv2⟩
          rw [d2]
          have zv2 := hv2.size
          have hBv2 := hBv1.trans (hv2.mono (by omega))
          have hown2 := hown1.below hv2
          go_wp2_with fail
          go_roundw
          case rel => exact ⟨k + 1, by omega, by go_num, by rw [hst'.out]; exact hown2, hBv2⟩
          case measure => simp [intOf]; omega
      · have d1 : decide (x ∈ ub) = false := decide_eq_false dd1
        rw [if_pos (.inl dd1)] at hst
        have hst' := Lib.hid hst
        clear dd1 hst
        go_wp2_with fail
        refine hq1.mono ?_
        rintro e v1 ⟨rfl, hv1⟩
        rw [d1]
        have zv1 := hv1.size
        rw [World.size_alloc] at zv1
        have hBv1 := (hB.alloc hz (.cells #[.int .i64 x.s, .int .i64 x.n] 30)).trans (hv1.mono (by simp; omega))
        have y0 : v1.cell? ⟨wr.heap.size, 0, none⟩ = some (.int .i64 x.s) := (hv1.cell (p := ⟨_, _, none⟩) (by simp)).trans (by simp [go_sem])
        have y1 : v1.cell? ⟨wr.heap.size, 1, none⟩ = some (.int .i64 x.n) := (hv1.cell (p := ⟨_, _, none⟩) (by simp)).trans (by simp [go_sem])
        have hown1 := OwnI.below (hown.alloc _) hv1
        clear hq1 so1 sb1 hown hv1
        go_wp2_with (at_builtin; refine wpList_append_lies _ rfl _ _ _ rfl wz.heap.size 30 i0 (.agg #[.int .i64 0, .int .i64 0]) 2 16 Tryd.underlying22 hi.out hi0 hi1 hi2 rfl (by omega) _ _ _ (by rfl) (hown1.alloc _) ⟨v1.heap.size, 0, none⟩ 1 1 (encId x) (by rfl) rfl ?_ ?_ (by omega) ?_ ?_ ?_ (v1.heap.size + 1) ?_ ?_)
        · exact World.news_of_block (heap_alloc_new v1 _)
        · intro u hu; simp [encId] at hu; rcases hu with rfl | rfl <;> rfl
        · unfold maxLen; omega
        · omega
        · simp; omega
        · simp
        · intro g cap w9 hown9 hgrow hat hlt1
          have hlo := hown1.lt
          go_wp2_with fail
          go_roundw
          case rel =>
            have e3 : (mf ub ul ur (k + 1)).length = (mf ub ul ur k).length + 1 := by rw [hst'.out]; simp
            refine ⟨k + 1, by omega, by go_num, ?_, (hBv1.alloc (by omega) _).grown hgrow (by simp; omega) (fun j hj => (hlo j hj).1)⟩
            show World.ownsRow _ _ _ _ _ (mf ub ul ur (k + 1)).length (cellsI (mf ub ul ur (k + 1)))
            rw [e3, hst'.out, cellsI_snoc]
            exact hown9
          case measure => simp [intOf]; omega
    · obtain rfl : k = ul.length := by omega
      have hown : OwnI wr wz.heap.size u9 (sq ub ul ur 0) := hown
      clear hlt hk hlen
      go_wp2_with fail
      go_loopw [9, 58] (fun out i wq => ∃ k : Nat, k ≤ ur.length ∧ i = .int .i64 k ∧ OwnI wq wz.heap.size out (sq ub ul ur k) ∧ Below wz.heap.size wz wq) (fun _ i _ => ur.length - (intOf i).toNat)
      case atStart => exact ⟨0, by omega, rfl, hown, hB⟩
      case round =>
        clear hown hB hz
        obtain ⟨k, hk, rfl, hown, hB⟩ := hrel
        have hz := hB.size
        have hlen := sq_len ub ul ur k
        obtain ⟨AS, cS, rfl, hSl⟩ := hown.slice
        by_cases hlt : k < ur.length
        · obtain ⟨b, off, hAd, hlb, hrd⟩ := sO.some hlt
          cases hAd
          obtain ⟨r0, r1⟩ := hrd.below hB hlb k hlt
          have hst := sq_succ ub ul ur k
          have hpl := pos_le (sq ub ul ur k) ur k
          have hps := fun m => pos_succ (sq ub ul ur k) ur m
          have hp0 : pos (sq ub ul ur k) ur 0 = 0 := rfl
          have hBx := hB.alloc hz (.cells #[.int .i64 (ith ur k).s, .int .i64 (ith ur k).n] 30)
          have sb1 := s1.below hBx
          have sm1 := sM.below hBx
          generalize hx : ith ur k = x at *
          have hq1 := containsC A1 c1 ub x _ (by omega) sb1
          have zx : (wr.alloc (.cells #[.int .i64 x.s, .int .i64 x.n] 30)).heap.size = wr.heap.size + 1 := World.size_alloc _ _
          have y0 : (wr.alloc (.cells #[.int .i64 x.s, .int .i64 x.n] 30)).cell? ⟨wr.heap.size, 0, none⟩ = some (.int .i64 x.s) := by simp [go_sem]
          have y1 : (wr.alloc (.cells #[.int .i64 x.s, .int .i64 x.n] 30)).cell? ⟨wr.heap.size, 1, none⟩ = some (.int .i64 x.n) := by simp [go_sem]
          have hownx := hown.alloc (.cells #[.int .i64 x.s, .int .i64 x.n] 30)
          by_cases u1 : x ∈ ub
          · have d1 : decide (x ∈ ub) = true := decide_eq_true u1
            rw [if_pos (.inl u1)] at hst
            have hst' := Lib.hid hst
            clear u1 hst hps hp0 hpl y0 y1
            go_wp2_with fail
            refine hq1.mono ?_
            rintro e v1 ⟨rfl, hv1⟩
            rw [d1]
            go_wp2_with fail
            go_roundw
            case rel => exact ⟨k + 1, by omega, by go_num, by rw [hst'.out]; exact OwnI.below hownx hv1, hBx.trans (hv1.mono (by omega))⟩
            case measure => simp [intOf]; omega
          by_cases u2 : x ∈ ul
          · have d1 : decide (x ∈ ub) = false := decide_eq_false u1
            have d2 : decide (x ∈ ul) = true := decide_eq_true u2
            rw [if_pos (.inr u2)] at hst
            have hst' := Lib.hid hst
            clear u1 u2 hst hps hp0 hpl
            go_wp2_with fail
            refine hq1.mono ?_
            rintro e v1 ⟨rfl, hv1⟩
            rw [d1]
            have zv1 := hv1.size
            have y0 := (hv1.cell (p := ⟨wr.heap.size, 0, none⟩) (by show wr.heap.size < _; omega)).trans y0
            have y1 := (hv1.cell (p := ⟨wr.heap.size, 1, none⟩) (by show wr.heap.size < _; omega)).trans y1
            have hB1 := hBx.trans (hv1.mono (by omega))
            have hown1 := OwnI.below hownx hv1
            go_wp2_with fail
            refine (containsC A2 c2 ul x v1 (by omega) (sm1.below hv1)).mono ?_
            rintro e v2 ⟨rfl, hv2⟩
            rw [d2]
            go_wp2_with fail
            go_roundw
            case rel => exact ⟨k + 1, by omega, by go_num, by rw [hst'.out]; exact OwnI.below hown1 hv2, hB1.trans (hv2.mono (by omega))⟩
            case measure => simp [intOf]; omega
          have d1 : decide (x ∈ ub) = false := decide_eq_false u1
          have d2 : decide (x ∈ ul) = false := decide_eq_false u2
          rw [if_neg (fun h => h.elim u1 u2)] at hst
          have hst' := Lib.hid hst
          clear u1 u2 hst
          go_wp2_with fail
          refine hq1.mono ?_
          rintro e v1 ⟨rfl, hv1⟩
          rw [d1]
          have zv1 := hv1.size
          have y0 := (hv1.cell (p := ⟨wr.heap.size, 0, none⟩) (by show wr.heap.size < _; omega)).trans y0
          have y1 := (hv1.cell (p := ⟨wr.heap.size, 1, none⟩) (by show wr.heap.size < _; omega)).trans y1
          have hB1 := hBx.trans (hv1.mono (by omega))
          have hown1 := OwnI.below hownx hv1
          go_wp2_with fail
          refine (containsC A2 c2 ul x v1 (by omega) (sm1.below hv1)).mono ?_
          rintro e v2 ⟨rfl, hv2⟩
          rw [d2]
          have zv2 := hv2.size
          have zr : wr.heap.size < v2.heap.size := by omega
          have y0 := (hv2.cell (p := ⟨wr.heap.size, 0, none⟩) (by show wr.heap.size < _; omega)).trans y0
          have y1 := (hv2.cell (p := ⟨wr.heap.size, 1, none⟩) (by show wr.heap.size < _; omega)).trans y1
          have hB2 := hB1.trans (hv2.mono (by omega))
          have hown2 := OwnI.below hown1 hv2
          have z2 := hB2.size
          have hSl2 : SlI v2 AS (sq ub ul ur k) := ((hSl.below ((Below.refl _ wr).alloc (Nat.le_refl _) _)).below hv1).below hv2
          clear hq1 sm1 sb1 hown hownx hown1 hv1 hv2 hB1 hBx hB d1 d2 hSl zx
          generalize hSq : sq ub ul ur k = S at *
          go_upto_block 4 with (fail)
          go_cut [14] (fun q wc => q = .int .i64 (pos S ur k : Nat) ∧ Below v2.heap.size v2 wc)
          case first =>
            clear y0 y1 hst' hpl hown2
            go_wp2_with fail
            go_loopw [14, 15] (fun at_ kk wv => ∃ (m : Nat) (kI : Int), m ≤ k ∧ at_ = .int .i64 0 ∧ kk = .int .i64 kI ∧ kI = (m : Int) - 1 ∧ Aside (pos S ur k = pos S ur m) ∧ Below v2.heap.size v2 wv) (fun _ kk _ => (intOf kk + 1).toNat)
            case atStart => exact ⟨k, (k : Int) - 1, by omega, rfl, rfl, rfl, (show Aside _ from rfl), Below.refl _ _⟩
            case round =>
              obtain ⟨m, kI, hm, rfl, rfl, hkI, hA, hBv⟩ := hrel
              have hzv := hBv.size
              by_cases hm0 : m = 0
              · subst hm0
                obtain rfl : kI = -1 := by omega
                clear hkI
                have hA := hA.out
                rw [hp0] at hA
                have hA' := Lib.hid hA
                clear hA hps hp0
                go_wp2_with fail
                go_meet
                exact ⟨by rw [hA'.out]; rfl, hBv⟩
              · obtain ⟨p, rfl⟩ : ∃ p, m = p + 1 := ⟨m - 1, by omega⟩
                obtain rfl : kI = (p : Int) := by omega
                clear hkI
                obtain ⟨t0, t1⟩ := hrd.below (hB2.trans (hBv.mono (by omega))) hlb p (by omega)
                have hA := hA.out
                have hpp := hps p
                generalize hy : ith ur p = y at *
                have hix := sindexC AS cS S y wr (by omega) (hSl2.below hBv)
                clear hps hp0
                by_cases hin : y ∈ S
                · rw [if_pos hin, ← hA] at hpp
                  have e0 : idx S y = (idxN S y : Nat) := idx_in hin
                  rw [e0] at hix
                  have hpp' := Lib.hid hpp
                  have hbd := idxN_lt hin
                  clear hpp hA hin e0
                  generalize idxN S y = I at *
                  go_wp2_with fail
                  refine hix.mono ?_
                  rintro e v3 ⟨rfl, hv3⟩
                  go_wp2_with fail
                  go_meet
                  exact ⟨by rw [hpp'.out]; rfl, hBv.trans (hv3.mono (by omega))⟩
                · rw [if_neg hin] at hpp
                  have e0 : idx S y < 0 := by have := mt idx_nonneg.1 hin; omega
                  have hpp' := Lib.hid (hA.trans hpp)
                  clear hpp hA hin
                  generalize idx S y = I at *
                  go_wp2_with fail
                  refine hix.mono ?_
                  rintro e v3 ⟨rfl, hv3⟩
                  go_wp2_with fail
                  go_roundw
                  case rel => exact ⟨p, (p : Int) - 1, by omega, rfl, by first | rfl | go_num, rfl, (show Aside _ from hpp'.out), hBv.trans (hv3.mono (by omega))⟩
                  case measure => first | (simp [intOf]; done) | (simp [intOf]; omega)
          case rest =>
            obtain ⟨rfl, hBc⟩ := hcut
            have zc := hBc.size
            have hownc := OwnI.below hown2 hBc
            have y0 := (hBc.cell (p := ⟨wr.heap.size, 0, none⟩) (by show wr.heap.size < _; omega)).trans y0
            have y1 := (hBc.cell (p := ⟨wr.heap.size, 1, none⟩) (by show wr.heap.size < _; omega)).trans y1
            have hBw := hB2.trans (hBc.mono (by omega))
            have hne : (Value.slice AS S.length cS).ownBlock ≠ some wc.heap.size := fun e => by have := (hownc.lt _ e).2; omega
            have hins := insertC wz.heap.size (.slice AS S.length cS) S (pos S ur k) x wc.heap.size (wc.alloc (.cells #[.int .i64 x.s, .int .i64 x.n] 30)) hpl (by omega) (by simp; omega) (hownc.alloc _) hne (heap_alloc_new wc _)
            clear hps hp0 hpl hown2 hSl2 hBc hB2
            go_wp2_with fail
            refine hins.mono ?_
            rintro e w9 ⟨⟨v9, rfl, hown9⟩, hB9⟩
            go_wp2_with fail
            go_roundw
            case rel => exact ⟨k + 1, by omega, by go_num, by rw [hst'.out]; exact hown9, (hBw.alloc (by omega) _).trans hB9⟩
            case measure => simp [intOf]; omega
        · obtain rfl : k = ur.length := by omega
          go_wp2_with fail
          go_ret
          exact ⟨⟨AS, cS, rfl, hSl⟩, BZ.trans (hB.mono (by omega))⟩

theorem sequenceP (Ab Al Ar : Option Addr) (cb cl cr : Nat) (base left right : List Id) (w : World) (hb1 : base.length ≤ 100) (hl1 : left.length ≤ 100) (hr1 : right.length ≤ 100) (hb : SlI w Ab base) (hl : SlI w Al left) (hr : SlI w Ar right) :
    Calls Tryd.prog 7 #[.slice Ab base.length cb, .slice Al left.length cl, .slice Ar right.length cr] w fun r w' => RetI w w' r (seqF base left right) := by
  unfold seqF seqU
  cases h1 : ordB (uniq base) (uniq left)
  · rw [if_neg (by simp)]
    exact seqC Ab Al Ar cb cl cr base left right w hb1 hl1 hr1 hb hl hr h1
  · cases h2 : ordB (uniq base) (uniq right)
    · rw [if_pos ⟨rfl, rfl⟩]
      exact seqA Ab Al Ar cb cl cr base left right w hb1 hl1 hr1 hb hl hr h1 h2
    · rw [if_neg (by simp)]
      exact seqB Ab Al Ar cb cl cr base left right w hb1 hl1 hr1 hb hl hr h1 h2
end Go.Proofs.YtacoeahipklibaaDoor
