/- pitch.Parse. -/
import Derived.Test.YteoghladllohjaaGreatDoorM7
namespace Go.Proofs.YteoghladllohjaaGreatDoor
open Go.RowKit Go.Sort

theorem letter_index (c : UInt8) : Lib.indexByte [67, 68, 69, 70, 71, 65, 66] c = stepF c := by
  unfold stepF
  by_cases h0 : c = 67
  · subst h0; decide
  by_cases h1 : c = 68
  · subst h1; decide
  by_cases h2 : c = 69
  · subst h2; decide
  by_cases h3 : c = 70
  · subst h3; decide
  by_cases h4 : c = 71
  · subst h4; decide
  by_cases h5 : c = 65
  · subst h5; decide
  by_cases h6 : c = 66
  · subst h6; decide
  simp [Lib.indexByte, h0, h1, h2, h3, h4, h5, h6, Ne.symm h0, Ne.symm h1, Ne.symm h2, Ne.symm h3, Ne.symm h4, Ne.symm h5, Ne.symm h6]
theorem stepF_bd (c : UInt8) : -1 ≤ stepF c ∧ stepF c ≤ 6 := by unfold stepF; (repeat' split) <;> omega
theorem signAt (k : Nat) (h : k < 5) (W : World) : (Instr.index 86 signsV (.int .i64 (k : Int))).run Tryz.prog W = .ok (.string (bs (signL.getD k []))) W := by
  have hn : k = 0 ∨ k = 1 ∨ k = 2 ∨ k = 3 ∨ k = 4 := by omega
  rcases hn with rfl | rfl | rfl | rfl | rfl
  · have h := signIx (-2) (by omega) (by omega) W
    rw [show ((-2 : Int) + 2) = ((0 : Nat) : Int) from rfl, show signF (-2) = signL.getD 0 [] from rfl] at h
    exact h
  · have h := signIx (-1) (by omega) (by omega) W
    rw [show ((-1 : Int) + 2) = ((1 : Nat) : Int) from rfl, show signF (-1) = signL.getD 1 [] from rfl] at h
    exact h
  · have h := signIx (0) (by omega) (by omega) W
    rw [show ((0 : Int) + 2) = ((2 : Nat) : Int) from rfl, show signF (0) = signL.getD 2 [] from rfl] at h
    exact h
  · have h := signIx (1) (by omega) (by omega) W
    rw [show ((1 : Int) + 2) = ((3 : Nat) : Int) from rfl, show signF (1) = signL.getD 3 [] from rfl] at h
    exact h
  · have h := signIx (2) (by omega) (by omega) W
    rw [show ((2 : Int) + 2) = ((4 : Nat) : Int) from rfl, show signF (2) = signL.getD 4 [] from rfl] at h
    exact h
theorem altF_step (st : Int) (rest : List UInt8) {k : Nat} (h : k < 5) : altF st rest (5 - k) k = match octF rest (signL.getD k []) with
    | some o => if pitchCheckF st ((k : Int) - 2) o = 0 then ⟨st, (k : Int) - 2, o⟩ else pit0
    | none => altF st rest (5 - (k + 1)) (k + 1) := by
  obtain ⟨n, hn⟩ : ∃ n, 5 - k = n + 1 := ⟨4 - k, by omega⟩
  rw [hn, show 5 - (k + 1) = n by omega]
  rfl
theorem parse_empty (w : World) : Calls Tryz.prog 38 #[.string ⟨#[]⟩] w fun e w' => (∃ a b : Int, e = .returned (.tuple #[pitV (parseP []), .int .i64 a, .int .i64 b])) ∧ Below w.heap.size w w' := by
  go_enter Tryz.func38, Tryz.ntmps38
  go_wp2_with fail
  refine bodyPost_ret (v := .tuple #[pitV pit0, .int .i64 0, .int .i64 4]) ?_ rfl ⟨⟨0, 4, rfl⟩, ?_⟩
  · simp [results, Tryz.results38, go_sem, pit0]
  · exact ((Below.refl _ w).alloc (Nat.le_refl _) _)

theorem octF_none1 {rest sg : List UInt8} (h : Lib.hasPrefix rest sg = false) : octF rest sg = none := octF_noprefix h
theorem octF_pre {rest sg : List UInt8} (h : Lib.hasPrefix rest sg = true) : octF rest sg = match Lib.atoiAll (Lib.trimPrefix rest sg) with
    | .ok n => if -1 ≤ n ∧ n ≤ 9 ∧ Lib.itoa n = Lib.trimPrefix rest sg then some n else none
    | _ => none := by
  unfold octF cutP Lib.trimPrefix
  have h' : sg.isPrefixOf rest = true := h
  rw [h', h]
  rfl
theorem trim_len (a b : List UInt8) : (Lib.trimPrefix a b).length ≤ a.length := by
  unfold Lib.trimPrefix
  split
  · rw [List.length_drop]; omega
  · exact Nat.le_refl _

/-- The variable of the result: three ints that may be written. -/
structure Cells3 (w : World) (n : Nat) (a b c : Int) : Prop where
  c0 : w.cell? ⟨n, 0, none⟩ = some (.int .i64 a)
  c1 : w.cell? ⟨n, 1, none⟩ = some (.int .i64 b)
  c2 : w.cell? ⟨n, 2, none⟩ = some (.int .i64 c)
  f0 : w.frozen? ⟨n, 0, none⟩ = false
  f1 : w.frozen? ⟨n, 1, none⟩ = false
  f2 : w.frozen? ⟨n, 2, none⟩ = false
theorem Cells3.below {w w' : World} {n : Nat} {a b c : Int} (h : Cells3 w n a b c) (hn : n < w.heap.size) (hb : Below w.heap.size w w') : Cells3 w' n a b c :=
  ⟨(hb.cell (p := ⟨n, 0, none⟩) hn).trans h.c0, (hb.cell (p := ⟨n, 1, none⟩) hn).trans h.c1, (hb.cell (p := ⟨n, 2, none⟩) hn).trans h.c2, (hb.frozen (p := ⟨n, 0, none⟩) hn).trans h.f0, (hb.frozen (p := ⟨n, 1, none⟩) hn).trans h.f1, (hb.frozen (p := ⟨n, 2, none⟩) hn).trans h.f2⟩
theorem Cells3.set {w : World} {n : Nat} {a b c : Int} (h : Cells3 w n a b c) (a' b' c' : Int) : Cells3 (((w.setCell ⟨n, 0, none⟩ (.int .i64 a')).setCell ⟨n, 1, none⟩ (.int .i64 b')).setCell ⟨n, 2, none⟩ (.int .i64 c')) n a' b' c' := by
  obtain ⟨p0, p1, p2, p3, p4, p5⟩ := h
  constructor <;> simp [go_sem, p0, p1, p2, p3, p4, p5]
theorem below_set3 {B : Nat} {a w : World} {n : Nat} (h : Below B a w) (hn : B ≤ n) (x y z : Value) : Below B a (((w.setCell ⟨n, 0, none⟩ x).setCell ⟨n, 1, none⟩ y).setCell ⟨n, 2, none⟩ z) :=
  ((h.setCell (p := ⟨n, 0, none⟩) hn x).setCell (p := ⟨n, 1, none⟩) hn y).setCell (p := ⟨n, 2, none⟩) hn z
theorem size_set3 (w : World) (n : Nat) (x y z : Value) : (((w.setCell ⟨n, 0, none⟩ x).setCell ⟨n, 1, none⟩ y).setCell ⟨n, 2, none⟩ z).heap.size = w.heap.size := by simp

set_option maxHeartbeats 4000000 in
theorem parse_some (c : UInt8) (rest : List UInt8) (w : World) (he : Env w) (hl : rest.length ≤ 5000) :
    Calls Tryz.prog 38 #[.string (bs (c :: rest))] w fun e w' => (∃ a b : Int, e = .returned (.tuple #[pitV (parseP (c :: rest)), .int .i64 a, .int .i64 b])) ∧ Below w.heap.size w w' := by
  have hib := fun w => Tryz.strings_IndexByte ⟨#[67, 68, 69, 70, 71, 65, 66]⟩ (c.toNat : Int) w
  have ec : ((c.toNat : Int).toNat.toUInt8) = c := by simp
  have el : (⟨#[67, 68, 69, 70, 71, 65, 66]⟩ : ByteArray).data.toList = [67, 68, 69, 70, 71, 65, 66] := rfl
  rw [ec, el, letter_index] at hib
  have hbd := stepF_bd c
  have h0 : (bs (c :: rest)).size = rest.length + 1 := by rw [bs_size]; rfl
  have hne : (bs (c :: rest)).toList.isEmpty = false := by simp [bs]
  have hpp : parseP (c :: rest) = if stepF c < 0 then pit0 else altF (stepF c) rest 5 0 := rfl
  have hix : ∀ w, (Instr.index 9 (.string (bs (c :: rest))) (.int .i64 0)).run Tryz.prog w = .ok (.int .u8 (c.toNat : Int)) w := by
    intro w
    simp [go_sem, bs]
    rfl
  have hsub : ∀ w, (Instr.slice 9 (.string (bs (c :: rest))) (some (.int .i64 1)) none none).run Tryz.prog w = .ok (.string (bs rest)) w := by
    intro w
    have e1 : ((bs (c :: rest)).extract 1 (bs (c :: rest)).size).data.toList = rest := by
      rw [Lib.extract_data, h0]
      simp
    have e : (bs (c :: rest)).extract 1 (bs (c :: rest)).size = bs rest := by
      apply ByteArray.ext
      apply Array.toList_inj.1
      rw [e1]
    rw [h0] at e
    have h1 : (1 : Int) ≤ (rest.length : Int) + 1 := by omega
    simp [go_sem, e, h0, h1]
  by_cases hst : stepF c < 0
  · rw [if_pos hst] at hpp
    rw [hpp]
    have hpp := True.intro
    generalize stepF c = st at *
    generalize bs (c :: rest) = S at *
    go_enter Tryz.func38, Tryz.ntmps38
    go_wp2_with fail
    refine (hib _).mono ?_
    rintro e w1 ⟨rfl, rfl⟩
    go_wp2_with fail
    refine bodyPost_ret (v := .tuple #[pitV pit0, .int .i64 0, .int .i64 6]) ?_ rfl ⟨⟨0, 6, rfl⟩, ?_⟩
    · simp [results, Tryz.results38, go_sem, pit0]
    · exact ((Below.refl _ w).alloc (Nat.le_refl _) _)
  · rw [if_neg hst] at hpp
    rw [hpp]
    clear hpp
    have hstep := fun k h => altF_step (stepF c) rest (k := k) h
    obtain ⟨v0, hv0⟩ : ∃ v0, v0 = w.alloc (.cells #[.int .i64 0, .int .i64 0, .int .i64 0] 26) := ⟨_, rfl⟩
    have hB0 : Below w.heap.size w v0 := by rw [hv0]; exact (Below.refl _ w).alloc (Nat.le_refl _) _
    have hz0 : w.heap.size < v0.heap.size := by rw [hv0]; simp
    have hp0 : Cells3 v0 w.heap.size 0 0 0 := by rw [hv0]; constructor <;> simp [go_sem]
    clear ec el
    generalize stepF c = st at *
    generalize bs (c :: rest) = S at *
    go_enter Tryz.func38, Tryz.ntmps38
    go_upto_region 1 with (fail)
    generalize w.alloc (.cells #[.int .i64 0, .int .i64 0, .int .i64 0] 26) = v1 at *
    subst hv0
    go_wp2_with fail
    refine (hib _).mono ?_
    rintro e w1 ⟨rfl, rfl⟩
    go_wp2_with fail
    refine (signsC _).mono ?_
    rintro e w2 ⟨rfl, hb2⟩
    have hB2 := hB0.trans (hb2.mono (by omega))
    have hp2 := hp0.below hz0 hb2
    have hz2 := hb2.size
    clear hib hb2 hB0 hp0 hne hix
    go_wp2_with fail
    go_loopw [22] (fun i wr => ∃ k : Nat, k ≤ 5 ∧ i = .int .i64 k ∧ Aside (altF st rest 5 0 = altF st rest (5 - k) k) ∧ Below w.heap.size w wr ∧ w.heap.size < wr.heap.size ∧ Cells3 wr w.heap.size 0 0 0) (fun i _ => 5 - (intOf i).toNat)
    case atStart => exact ⟨0, by omega, rfl, (show Aside _ from rfl), hB2, by omega, hp2⟩
    case round =>
      clear hB2 hp2 hz2
      obtain ⟨k, hk, rfl, hA, hB, hz, hpr⟩ := hrel
      by_cases hlt : k < 5
      · have hA := hA.out
        rw [hstep k hlt] at hA
        have hsg := signAt k hlt
        clear hstep
        generalize signL.getD k [] = sg at *
        have hcp := fun w => Tryz.strings_CutPrefix (bs rest) (bs sg) w
        have er : (bs rest).data.toList = rest := by simp
        have es : (bs sg).data.toList = sg := by simp
        rw [er, es] at hcp
        have hTl := trim_len rest sg
        have hpre := octF_pre (rest := rest) (sg := sg)
        have hnone := octF_none1 (rest := rest) (sg := sg)
        clear er es hz0
        generalize Lib.trimPrefix rest sg = T at *
        cases hpx : Lib.hasPrefix rest sg
        · rw [hpx] at hcp
          have hn := hnone hpx
          clear hpre hnone hpx
          have hA' : Hid (altF st rest 5 0 = altF st rest (5 - (k + 1)) (k + 1)) := by show _ = _; rw [hA, hn]
          clear hA
          clear hn
          cases hat : Lib.atoiAll T with
          | ok v =>
            have hok := Lib.hid hat
            clear hat
            go_wp2_with fail
            refine (hcp _).mono ?_
            rintro e w1 ⟨rfl, rfl⟩
            go_wp2_with fail
            refine (atoiOk (bs T) v _ (by rw [bs_size]; omega) (by simpa using hok.out)).mono ?_
            rintro e w2 ⟨rfl, hb2⟩
            have hB2 := hB.trans (hb2.mono (Nat.le_of_lt hz))
            have hp2 := hpr.below hz hb2
            have hz2 : w.heap.size < w2.heap.size := Nat.lt_of_lt_of_le hz hb2.size
            go_wp2_with fail
            go_roundw
            case rel => exact ⟨k + 1, by omega, by go_num, (show Aside _ from hA'.out), hB2, hz2, hp2⟩
            case measure => simp [intOf]; omega
          | range =>
            have hbad : ∀ v, Lib.atoiAll T ≠ .ok v := fun v h => by rw [hat] at h; cases h
            clear hat
            go_wp2_with fail
            refine (hcp _).mono ?_
            rintro e w1 ⟨rfl, rfl⟩
            go_wp2_with fail
            refine (atoiBad (bs T) _ (he.below hB) (by rw [bs_size]; omega) (by simpa using hbad)).mono ?_
            rintro e w2 ⟨⟨nn, gg, rfl⟩, hb2⟩
            have hB2 := hB.trans (hb2.mono (Nat.le_of_lt hz))
            have hp2 := hpr.below hz hb2
            have hz2 : w.heap.size < w2.heap.size := Nat.lt_of_lt_of_le hz hb2.size
            go_wp2_with fail
            go_roundw
            case rel => exact ⟨k + 1, by omega, by go_num, (show Aside _ from hA'.out), hB2, hz2, hp2⟩
            case measure => simp [intOf]; omega
          | _ =>
            have hbad : ∀ v, Lib.atoiAll T ≠ .ok v := fun v h => by rw [hat] at h; cases h
            clear hat
            go_wp2_with fail
            refine (hcp _).mono ?_
            rintro e w1 ⟨rfl, rfl⟩
            go_wp2_with fail
            refine (atoiBad (bs T) _ (he.below hB) (by rw [bs_size]; omega) (by simpa using hbad)).mono ?_
            rintro e w2 ⟨⟨nn, gg, rfl⟩, hb2⟩
            have hB2 := hB.trans (hb2.mono (Nat.le_of_lt hz))
            have hp2 := hpr.below hz hb2
            have hz2 : w.heap.size < w2.heap.size := Nat.lt_of_lt_of_le hz hb2.size
            go_wp2_with fail
            go_roundw
            case rel => exact ⟨k + 1, by omega, by go_num, (show Aside _ from hA'.out), hB2, hz2, hp2⟩
            case measure => simp [intOf]; omega
        · rw [hpx] at hcp
          have hn := hpre hpx
          clear hpre hnone hpx
          cases hat : Lib.atoiAll T with
          | ok v =>
            have hok := Lib.hid hat
            rw [hat] at hn
            simp only at hn
            clear hat
            by_cases hv1 : v < -1
            · rw [if_neg (by omega)] at hn
              have hA' : Hid (altF st rest 5 0 = altF st rest (5 - (k + 1)) (k + 1)) := by show _ = _; rw [hA, hn]
              clear hA
              clear hn
              have d1 : decide (v < -1) = true := decide_eq_true hv1
              go_wp2_with fail
              refine (hcp _).mono ?_
              rintro e w1 ⟨rfl, rfl⟩
              go_wp2_with fail
              refine (atoiOk (bs T) v _ (by rw [bs_size]; omega) (by simpa using hok.out)).mono ?_
              rintro e w2 ⟨rfl, hb2⟩
              have hB2 := hB.trans (hb2.mono (Nat.le_of_lt hz))
              have hp2 := hpr.below hz hb2
              have hz2 : w.heap.size < w2.heap.size := Nat.lt_of_lt_of_le hz hb2.size
              go_wp2_with fail
              go_roundw
              case rel => exact ⟨k + 1, by omega, by go_num, (show Aside _ from hA'.out), hB2, hz2, hp2⟩
              case measure => simp [intOf]; omega
            have d1 : decide (v < -1) = false := decide_eq_false hv1
            by_cases hv2 : 9 < v
            · rw [if_neg (by omega)] at hn
              have hA' : Hid (altF st rest 5 0 = altF st rest (5 - (k + 1)) (k + 1)) := by show _ = _; rw [hA, hn]
              clear hA
              clear hn
              have d2 : decide (9 < v) = true := decide_eq_true hv2
              go_wp2_with fail
              refine (hcp _).mono ?_
              rintro e w1 ⟨rfl, rfl⟩
              go_wp2_with fail
              refine (atoiOk (bs T) v _ (by rw [bs_size]; omega) (by simpa using hok.out)).mono ?_
              rintro e w2 ⟨rfl, hb2⟩
              have hB2 := hB.trans (hb2.mono (Nat.le_of_lt hz))
              have hp2 := hpr.below hz hb2
              have hz2 : w.heap.size < w2.heap.size := Nat.lt_of_lt_of_le hz hb2.size
              go_wp2_with fail
              go_roundw
              case rel => exact ⟨k + 1, by omega, by go_num, (show Aside _ from hA'.out), hB2, hz2, hp2⟩
              case measure => simp [intOf]; omega
            have d2 : decide (9 < v) = false := decide_eq_false hv2
            by_cases hv3 : Lib.itoa v = T
            · rw [if_pos ⟨by omega, by omega, hv3⟩] at hn
              rw [hn] at hA
              simp only at hA
              clear hn
              subst hv3
              by_cases hpe : pitchCheckF st ((k : Int) - 2) v = 0
              · rw [if_pos hpe] at hA
                have hA' := Lib.hid hA
                have hpe := Lib.hid hpe
                clear hA
                go_wp2_with fail
                refine (hcp _).mono ?_
                rintro e w1 ⟨rfl, rfl⟩
                go_wp2_with fail
                refine (atoiOk (bs (Lib.itoa v)) v _ (by rw [bs_size]; omega) (by simpa using hok.out)).mono ?_
                rintro e w2 ⟨rfl, hb2⟩
                have hB2 := hB.trans (hb2.mono (Nat.le_of_lt hz))
                have hp2 := hpr.below hz hb2
                have hz2 : w.heap.size < w2.heap.size := Nat.lt_of_lt_of_le hz hb2.size
                clear hpr hb2 hB hok
                go_wp2_with fail
                refine (itoaC v _ (he.below hB2) (by omega) (by omega)).mono ?_
                rintro e w3 ⟨rfl, hb3⟩
                have hB2 := hB2.trans (hb3.mono (Nat.le_of_lt hz2))
                have hp2 := hp2.below hz2 hb3
                have hz2 : w.heap.size < w3.heap.size := Nat.lt_of_lt_of_le hz2 hb3.size
                clear hb3
                have hp3 := hp2.set st ((k : Int) - 2) v
                have hB3 := below_set3 (n := w.heap.size) hB2 (Nat.le_refl _) (.int .i64 st) (.int .i64 ((k : Int) - 2)) (.int .i64 v)
                have hz3 : w.heap.size < (((w3.setCell ⟨w.heap.size, 0, none⟩ (.int .i64 st)).setCell ⟨w.heap.size, 1, none⟩ (.int .i64 ((k : Int) - 2))).setCell ⟨w.heap.size, 2, none⟩ (.int .i64 v)).heap.size := by rw [size_set3]; exact hz2
                obtain ⟨p0, p1, p2, p3, p4, p5⟩ := hp2
                go_upto_region 13 with (fail)
                clear p0 p1 p2 p3 p4 p5
                generalize ((w3.setCell ⟨w.heap.size, 0, none⟩ (.int .i64 st)).setCell ⟨w.heap.size, 1, none⟩ (.int .i64 ((k : Int) - 2))).setCell ⟨w.heap.size, 2, none⟩ (.int .i64 v) = w4 at *
                have hp4 := hp3
                obtain ⟨p0, p1, p2, p3, p4, p5⟩ := hp3
                have hpc := pitchCheck st ((k : Int) - 2) v w4
                rw [hpe.out] at hpc
                go_wp2_with fail
                refine hpc.mono ?_
                rintro e w5 ⟨rfl, hb5⟩
                have hp5 := hp4.below hz3 hb5
                have hB5 := hB3.trans (hb5.mono (Nat.le_of_lt hz3))
                clear p0 p1 p2 p3 p4 p5 hp4 hb5
                obtain ⟨p0, p1, p2, p3, p4, p5⟩ := hp5
                go_wp2_with fail
                refine bodyPost_ret (v := .tuple #[pitV ⟨st, (k : Int) - 2, v⟩, .int .i64 0, .int .i64 0]) ?_ rfl ⟨⟨0, 0, by rw [hA'.out]⟩, ?_⟩
                · simp [results, Tryz.results38, go_sem, p0, p1, p2]
                · exact below_set3 hB5 (Nat.le_refl _) _ _ _
              · rw [if_neg hpe] at hA
                have hA' := Lib.hid hA
                have hpe : Hid (pitchCheckF st ((k : Int) - 2) v = 18) := (pitchCheckF_or _ _ _).resolve_left hpe
                clear hA
                go_wp2_with fail
                refine (hcp _).mono ?_
                rintro e w1 ⟨rfl, rfl⟩
                go_wp2_with fail
                refine (atoiOk (bs (Lib.itoa v)) v _ (by rw [bs_size]; omega) (by simpa using hok.out)).mono ?_
                rintro e w2 ⟨rfl, hb2⟩
                have hB2 := hB.trans (hb2.mono (Nat.le_of_lt hz))
                have hp2 := hpr.below hz hb2
                have hz2 : w.heap.size < w2.heap.size := Nat.lt_of_lt_of_le hz hb2.size
                clear hpr hb2 hB hok
                go_wp2_with fail
                refine (itoaC v _ (he.below hB2) (by omega) (by omega)).mono ?_
                rintro e w3 ⟨rfl, hb3⟩
                have hB2 := hB2.trans (hb3.mono (Nat.le_of_lt hz2))
                have hp2 := hp2.below hz2 hb3
                have hz2 : w.heap.size < w3.heap.size := Nat.lt_of_lt_of_le hz2 hb3.size
                clear hb3
                have hp3 := hp2.set st ((k : Int) - 2) v
                have hB3 := below_set3 (n := w.heap.size) hB2 (Nat.le_refl _) (.int .i64 st) (.int .i64 ((k : Int) - 2)) (.int .i64 v)
                have hz3 : w.heap.size < (((w3.setCell ⟨w.heap.size, 0, none⟩ (.int .i64 st)).setCell ⟨w.heap.size, 1, none⟩ (.int .i64 ((k : Int) - 2))).setCell ⟨w.heap.size, 2, none⟩ (.int .i64 v)).heap.size := by rw [size_set3]; exact hz2
                obtain ⟨p0, p1, p2, p3, p4, p5⟩ := hp2
                go_upto_region 13 with (fail)
                clear p0 p1 p2 p3 p4 p5
                generalize ((w3.setCell ⟨w.heap.size, 0, none⟩ (.int .i64 st)).setCell ⟨w.heap.size, 1, none⟩ (.int .i64 ((k : Int) - 2))).setCell ⟨w.heap.size, 2, none⟩ (.int .i64 v) = w4 at *
                have hp4 := hp3
                obtain ⟨p0, p1, p2, p3, p4, p5⟩ := hp3
                have hpc := pitchCheck st ((k : Int) - 2) v w4
                rw [hpe.out] at hpc
                go_wp2_with fail
                refine hpc.mono ?_
                rintro e w5 ⟨rfl, hb5⟩
                have hp5 := hp4.below hz3 hb5
                have hB5 := hB3.trans (hb5.mono (Nat.le_of_lt hz3))
                clear p0 p1 p2 p3 p4 p5 hp4 hb5
                obtain ⟨p0, p1, p2, p3, p4, p5⟩ := hp5
                go_wp2_with fail
                refine bodyPost_ret (v := .tuple #[pitV pit0, .int .i64 0, .int .i64 18]) ?_ rfl ⟨⟨0, 18, by rw [hA'.out]⟩, ?_⟩
                · simp [results, Tryz.results38, go_sem, pit0, p0, p1, p2]
                · exact below_set3 hB5 (Nat.le_refl _) _ _ _
            · rw [if_neg (fun h => hv3 h.2.2)] at hn
              have hA' : Hid (altF st rest 5 0 = altF st rest (5 - (k + 1)) (k + 1)) := by show _ = _; rw [hA, hn]
              clear hA
              clear hn
              have d3 : (Lib.itoa v == T) = false := by
                rw [beq_eq_false_iff_ne]
                exact hv3
              go_wp2_with fail
              refine (hcp _).mono ?_
              rintro e w1 ⟨rfl, rfl⟩
              go_wp2_with fail
              refine (atoiOk (bs T) v _ (by rw [bs_size]; omega) (by simpa using hok.out)).mono ?_
              rintro e w2 ⟨rfl, hb2⟩
              have hB2 := hB.trans (hb2.mono (Nat.le_of_lt hz))
              have hp2 := hpr.below hz hb2
              have hz2 : w.heap.size < w2.heap.size := Nat.lt_of_lt_of_le hz hb2.size
              clear hpr hb2 hB hok
              go_wp2_with fail
              refine (itoaC v _ (he.below hB2) (by omega) (by omega)).mono ?_
              rintro e w3 ⟨rfl, hb3⟩
              have hB2 := hB2.trans (hb3.mono (Nat.le_of_lt hz2))
              have hp2 := hp2.below hz2 hb3
              have hz2 : w.heap.size < w3.heap.size := Nat.lt_of_lt_of_le hz2 hb3.size
              clear hb3
              go_wp2_with fail
              go_roundw
              case rel => exact ⟨k + 1, by omega, by go_num, (show Aside _ from hA'.out), hB2, hz2, hp2⟩
              case measure => simp [intOf]; omega
          | range =>
            have hbad : ∀ v, Lib.atoiAll T ≠ .ok v := fun v h => by rw [hat] at h; cases h
            rw [hat] at hn
            clear hat
            have hA' : Hid (altF st rest 5 0 = altF st rest (5 - (k + 1)) (k + 1)) := by show _ = _; rw [hA, hn]
            clear hA
            clear hn
            go_wp2_with fail
            refine (hcp _).mono ?_
            rintro e w1 ⟨rfl, rfl⟩
            go_wp2_with fail
            refine (atoiBad (bs T) _ (he.below hB) (by rw [bs_size]; omega) (by simpa using hbad)).mono ?_
            rintro e w2 ⟨⟨nn, gg, rfl⟩, hb2⟩
            have hB2 := hB.trans (hb2.mono (Nat.le_of_lt hz))
            have hp2 := hpr.below hz hb2
            have hz2 : w.heap.size < w2.heap.size := Nat.lt_of_lt_of_le hz hb2.size
            go_wp2_with fail
            go_roundw
            case rel => exact ⟨k + 1, by omega, by go_num, (show Aside _ from hA'.out), hB2, hz2, hp2⟩
            case measure => simp [intOf]; omega
          | _ =>
            have hbad : ∀ v, Lib.atoiAll T ≠ .ok v := fun v h => by rw [hat] at h; cases h
            rw [hat] at hn
            clear hat
            have hA' : Hid (altF st rest 5 0 = altF st rest (5 - (k + 1)) (k + 1)) := by show _ = _; rw [hA, hn]
            clear hA
            clear hn
            go_wp2_with fail
            refine (hcp _).mono ?_
            rintro e w1 ⟨rfl, rfl⟩
            go_wp2_with fail
            refine (atoiBad (bs T) _ (he.below hB) (by rw [bs_size]; omega) (by simpa using hbad)).mono ?_
            rintro e w2 ⟨⟨nn, gg, rfl⟩, hb2⟩
            have hB2 := hB.trans (hb2.mono (Nat.le_of_lt hz))
            have hp2 := hpr.below hz hb2
            have hz2 : w.heap.size < w2.heap.size := Nat.lt_of_lt_of_le hz hb2.size
            go_wp2_with fail
            go_roundw
            case rel => exact ⟨k + 1, by omega, by go_num, (show Aside _ from hA'.out), hB2, hz2, hp2⟩
            case measure => simp [intOf]; omega
      · obtain rfl : k = 5 := by omega
        have hA := Lib.hid hA.out
        clear hstep
        obtain ⟨p0, p1, p2, p3, p4, p5⟩ := hpr
        go_wp2_with fail
        refine bodyPost_ret (v := .tuple #[pitV pit0, .int .i64 1, .int .i64 3]) ?_ rfl ⟨⟨1, 3, by rw [hA.out]; rfl⟩, ?_⟩
        · simp [results, Tryz.results38, go_sem, pit0, p0, p1, p2]
        · exact below_set3 hB (Nat.le_refl _) _ _ _

theorem parseC (s : List UInt8) (w : World) (he : Env w) (hl : s.length ≤ 5000) :
    Calls Tryz.prog 38 #[.string (bs s)] w fun e w' => (∃ a b : Int, e = .returned (.tuple #[pitV (parseP s), .int .i64 a, .int .i64 b])) ∧ Below w.heap.size w w' := by
  cases s with
  | nil => exact parse_empty w
  | cons c rest => exact parse_some c rest w he (by simp at hl; omega)
end Go.Proofs.YteoghladllohjaaGreatDoor
