/- The law CheckTexts. -/
import Derived.Test.YtfhijafkpenogaaGreatDoorKD
import Derived.Test.YtfhijafkpenogaaGreatDoorVK
namespace Go.Proofs.YtfhijafkpenogaaGreatDoor
open Go.RowKit Go.Sort

/-- What the law's loop has found among the first k names. -/
def wF (s : List UInt8) (k : Nat) : Int := match (List.range k).find? fun j => nm j == s with | some j => j + 1 | none => 0
theorem wF_zero (s : List UInt8) : wF s 0 = 0 := rfl
theorem wF_hit {s : List UInt8} {k : Nat} (hk : k < 17) (h : nm k = s) : wF s (k + 1) = (k : Int) + 1 := by
  unfold wF
  rw [List.range_succ, List.find?_append]
  have : (List.range k).find? (fun j => nm j == s) = none := by
    rw [List.find?_eq_none]
    intro j hj hjs
    have hj : j < k := by simpa using hj
    have := nm_inj j (by omega) k hk (by rw [h]; simpa using hjs)
    omega
  rw [this]
  simp [h]
theorem wF_miss {s : List UInt8} {k : Nat} (h : nm k ≠ s) : wF s (k + 1) = wF s k := by
  unfold wF
  rw [List.range_succ, List.find?_append]
  have : (nm k == s) = false := by simpa using h
  cases (List.range k).find? (fun j => nm j == s) <;> simp [this]
theorem wF_ix (s : List UInt8) : wF s 17 = ixF s + 1 := by
  unfold wF ixF
  cases (List.range 17).find? (fun j => nm j == s) <;> simp
theorem wF_range (s : List UInt8) (k : Nat) (hk : k ≤ 17) : 0 ≤ wF s k ∧ wF s k ≤ 17 := by
  unfold wF
  cases hf : (List.range k).find? (fun k => nm k == s) with
  | none => simp
  | some j =>
    have h2 := List.mem_of_find?_eq_some hf
    have : j < k := by simpa using h2
    simp only
    omega

/-- The law's own list: an empty text, then the names. -/
def RdL (w : World) (b : Nat) : Prop := w.cell? ⟨b, 0, none⟩ = some (.string ⟨#[]⟩) ∧ ∀ k, k < 17 → w.cell? ⟨b, k + 1, none⟩ = some (.string (bs (nm k)))
theorem RdL.below {w w' : World} {B b : Nat} (h : RdL w b) (hb : Below B w w') (hB : b < B) : RdL w' b := ⟨(hb.cell (p := ⟨b, _, none⟩) hB).trans h.1, fun k hk => (hb.cell (p := ⟨b, _, none⟩) hB).trans (h.2 k hk)⟩

def LC : Array Value := #[.string ⟨#[]⟩, .string ⟨#[108, 105, 109, 105, 116, 115]⟩, .string ⟨#[105, 100, 115]⟩, .string ⟨#[115, 116, 114, 117, 99, 116, 117, 114, 101]⟩, .string ⟨#[99, 108, 101, 102, 115]⟩, .string ⟨#[109, 101, 116, 114, 101, 115]⟩, .string ⟨#[118, 111, 105, 99, 101, 115]⟩, .string ⟨#[116, 117, 112, 108, 101, 116, 115]⟩, .string ⟨#[101, 118, 101, 110, 116, 115]⟩, .string ⟨#[112, 105, 116, 99, 104, 101, 115]⟩, .string ⟨#[116, 105, 101, 115]⟩, .string ⟨#[108, 121, 114, 105, 99, 115]⟩, .string ⟨#[101, 110, 100, 115]⟩, .string ⟨#[110, 101, 115, 116, 105, 110, 103]⟩, .string ⟨#[114, 101, 112, 101, 97, 116, 115]⟩, .string ⟨#[106, 117, 109, 112, 115]⟩, .string ⟨#[116, 101, 109, 112, 105]⟩, .string ⟨#[109, 97, 114, 103, 105, 110, 115]⟩]
theorem rdL_new (w : World) : RdL (w.alloc (.cells LC 9)) w.heap.size := by
  refine ⟨by simp [go_sem, LC], fun k hk => ?_⟩
  match k, hk with
  | 0, _ => simp [go_sem, LC, nm, nmL]
  | 1, _ => simp [go_sem, LC, nm, nmL]
  | 2, _ => simp [go_sem, LC, nm, nmL]
  | 3, _ => simp [go_sem, LC, nm, nmL]
  | 4, _ => simp [go_sem, LC, nm, nmL]
  | 5, _ => simp [go_sem, LC, nm, nmL]
  | 6, _ => simp [go_sem, LC, nm, nmL]
  | 7, _ => simp [go_sem, LC, nm, nmL]
  | 8, _ => simp [go_sem, LC, nm, nmL]
  | 9, _ => simp [go_sem, LC, nm, nmL]
  | 10, _ => simp [go_sem, LC, nm, nmL]
  | 11, _ => simp [go_sem, LC, nm, nmL]
  | 12, _ => simp [go_sem, LC, nm, nmL]
  | 13, _ => simp [go_sem, LC, nm, nmL]
  | 14, _ => simp [go_sem, LC, nm, nmL]
  | 15, _ => simp [go_sem, LC, nm, nmL]
  | 16, _ => simp [go_sem, LC, nm, nmL]
  | k + 17, hk => omega

set_option maxRecDepth 20000 in
set_option maxHeartbeats 4000000 in
theorem textsC (r s n : Int) (name : ByteArray) (w : World) (hT : Tab w) (s0 : -9223372036854775808 ≤ s) (s1 : s ≤ 9223372036854775807) (n0 : -9223372036854775808 ≤ n) (n1 : n ≤ 9223372036854775807) :
    Calls Tryz.prog 3 #[vioV r s n, .string name] w fun e w' => e = .returned (.bool true) ∧ Below w.heap.size w w' := by
  have hB : Below w.heap.size w (w.alloc (.cells #[.int .i64 r, .int .i64 s, .int .i64 n] 25)) := (Below.refl _ w).alloc (Nat.le_refl _) _
  have y0 : (w.alloc (.cells #[.int .i64 r, .int .i64 s, .int .i64 n] 25)).cell? ⟨w.heap.size, 0, none⟩ = some (.int .i64 r) := by simp [go_sem]
  have y1 : (w.alloc (.cells #[.int .i64 r, .int .i64 s, .int .i64 n] 25)).cell? ⟨w.heap.size, 1, none⟩ = some (.int .i64 s) := by simp [go_sem]
  have y2 : (w.alloc (.cells #[.int .i64 r, .int .i64 s, .int .i64 n] 25)).cell? ⟨w.heap.size, 2, none⟩ = some (.int .i64 n) := by simp [go_sem]
  have z0 : w.heap.size < (w.alloc (.cells #[.int .i64 r, .int .i64 s, .int .i64 n] 25)).heap.size := by simp
  have cF := fun S w => findC S w
  have cD1 := fun w => decimalC s w s0 s1
  have cD2 := fun w => decimalC n w n0 n1
  have cI1 := fun w h => itoaC s w h s0 s1
  have cI2 := fun w h => itoaC n w h n0 n1
  have l1 := itoa_len s s0 s1
  have l2 := itoa_len n n0 n1
  rw [← bs_size] at l1 l2
  generalize bs (Lib.itoa s) = S1 at *
  generalize bs (Lib.itoa n) = S2 at *
  have hcase : ((decide ((1 : Int) ≤ r) && decide (r ≤ 17)) = false ∧ (decide (r < 1) = true ∨ (decide (r < 1) = false ∧ decide (17 < r) = true))) ∨ ∃ k : Nat, k < 17 ∧ r = (k : Int) + 1 := by
    by_cases h : 1 ≤ r ∧ r ≤ 17
    · exact .inr ⟨(r - 1).toNat, by omega, by omega⟩
    · refine .inl ⟨?_, ?_⟩
      · simp only [Bool.and_eq_false_iff, decide_eq_false_iff_not]; omega
      · simp only [decide_eq_true_eq, decide_eq_false_iff_not]; omega
  clear s0 s1 n0 n1
  go_enter Tryz.func3, Tryz.ntmps3
  go_wp2_with fail
  refine (knownC _).mono ?_
  rintro e w1 ⟨rfl, hb1⟩
  have x0 := (hb1.cell (p := ⟨w.heap.size, 0, none⟩) z0).trans y0
  have x1 := (hb1.cell (p := ⟨w.heap.size, 1, none⟩) z0).trans y1
  have x2 := (hb1.cell (p := ⟨w.heap.size, 2, none⟩) z0).trans y2
  have hB1 := hB.trans (hb1.mono hB.size)
  have z1 : w.heap.size < w1.heap.size := Nat.lt_of_lt_of_le z0 hb1.size
  clear y0 y1 y2 z0 hb1 hB
  go_wp2_with fail
  have hR : RdL (w1.alloc (.cells #[.string ⟨#[]⟩, .string ⟨#[108, 105, 109, 105, 116, 115]⟩, .string ⟨#[105, 100, 115]⟩, .string ⟨#[115, 116, 114, 117, 99, 116, 117, 114, 101]⟩, .string ⟨#[99, 108, 101, 102, 115]⟩, .string ⟨#[109, 101, 116, 114, 101, 115]⟩, .string ⟨#[118, 111, 105, 99, 101, 115]⟩, .string ⟨#[116, 117, 112, 108, 101, 116, 115]⟩, .string ⟨#[101, 118, 101, 110, 116, 115]⟩, .string ⟨#[112, 105, 116, 99, 104, 101, 115]⟩, .string ⟨#[116, 105, 101, 115]⟩, .string ⟨#[108, 121, 114, 105, 99, 115]⟩, .string ⟨#[101, 110, 100, 115]⟩, .string ⟨#[110, 101, 115, 116, 105, 110, 103]⟩, .string ⟨#[114, 101, 112, 101, 97, 116, 115]⟩, .string ⟨#[106, 117, 109, 112, 115]⟩, .string ⟨#[116, 101, 109, 112, 105]⟩, .string ⟨#[109, 97, 114, 103, 105, 110, 115]⟩] 9)) w1.heap.size := rdL_new w1
  have hb2 : Below w1.heap.size w1 (w1.alloc (.cells #[.string ⟨#[]⟩, .string ⟨#[108, 105, 109, 105, 116, 115]⟩, .string ⟨#[105, 100, 115]⟩, .string ⟨#[115, 116, 114, 117, 99, 116, 117, 114, 101]⟩, .string ⟨#[99, 108, 101, 102, 115]⟩, .string ⟨#[109, 101, 116, 114, 101, 115]⟩, .string ⟨#[118, 111, 105, 99, 101, 115]⟩, .string ⟨#[116, 117, 112, 108, 101, 116, 115]⟩, .string ⟨#[101, 118, 101, 110, 116, 115]⟩, .string ⟨#[112, 105, 116, 99, 104, 101, 115]⟩, .string ⟨#[116, 105, 101, 115]⟩, .string ⟨#[108, 121, 114, 105, 99, 115]⟩, .string ⟨#[101, 110, 100, 115]⟩, .string ⟨#[110, 101, 115, 116, 105, 110, 103]⟩, .string ⟨#[114, 101, 112, 101, 97, 116, 115]⟩, .string ⟨#[106, 117, 109, 112, 115]⟩, .string ⟨#[116, 101, 109, 112, 105]⟩, .string ⟨#[109, 97, 114, 103, 105, 110, 115]⟩] 9)) := (Below.refl _ w1).alloc (Nat.le_refl _) _
  have z2 : w1.heap.size < (w1.alloc (.cells #[.string ⟨#[]⟩, .string ⟨#[108, 105, 109, 105, 116, 115]⟩, .string ⟨#[105, 100, 115]⟩, .string ⟨#[115, 116, 114, 117, 99, 116, 117, 114, 101]⟩, .string ⟨#[99, 108, 101, 102, 115]⟩, .string ⟨#[109, 101, 116, 114, 101, 115]⟩, .string ⟨#[118, 111, 105, 99, 101, 115]⟩, .string ⟨#[116, 117, 112, 108, 101, 116, 115]⟩, .string ⟨#[101, 118, 101, 110, 116, 115]⟩, .string ⟨#[112, 105, 116, 99, 104, 101, 115]⟩, .string ⟨#[116, 105, 101, 115]⟩, .string ⟨#[108, 121, 114, 105, 99, 115]⟩, .string ⟨#[101, 110, 100, 115]⟩, .string ⟨#[110, 101, 115, 116, 105, 110, 103]⟩, .string ⟨#[114, 101, 112, 101, 97, 116, 115]⟩, .string ⟨#[106, 117, 109, 112, 115]⟩, .string ⟨#[116, 101, 109, 112, 105]⟩, .string ⟨#[109, 97, 114, 103, 105, 110, 115]⟩] 9)).heap.size := by simp
  generalize w1.alloc (.cells #[.string ⟨#[]⟩, .string ⟨#[108, 105, 109, 105, 116, 115]⟩, .string ⟨#[105, 100, 115]⟩, .string ⟨#[115, 116, 114, 117, 99, 116, 117, 114, 101]⟩, .string ⟨#[99, 108, 101, 102, 115]⟩, .string ⟨#[109, 101, 116, 114, 101, 115]⟩, .string ⟨#[118, 111, 105, 99, 101, 115]⟩, .string ⟨#[116, 117, 112, 108, 101, 116, 115]⟩, .string ⟨#[101, 118, 101, 110, 116, 115]⟩, .string ⟨#[112, 105, 116, 99, 104, 101, 115]⟩, .string ⟨#[116, 105, 101, 115]⟩, .string ⟨#[108, 121, 114, 105, 99, 115]⟩, .string ⟨#[101, 110, 100, 115]⟩, .string ⟨#[110, 101, 115, 116, 105, 110, 103]⟩, .string ⟨#[114, 101, 112, 101, 97, 116, 115]⟩, .string ⟨#[106, 117, 109, 112, 115]⟩, .string ⟨#[116, 101, 109, 112, 105]⟩, .string ⟨#[109, 97, 114, 103, 105, 110, 115]⟩] 9) = w2 at *
  have u0 := (hb2.cell (p := ⟨w.heap.size, 0, none⟩) z1).trans x0
  have u1 := (hb2.cell (p := ⟨w.heap.size, 1, none⟩) z1).trans x1
  have u2 := (hb2.cell (p := ⟨w.heap.size, 2, none⟩) z1).trans x2
  have hB2 := hB1.trans (hb2.mono hB1.size)
  have z3 : w.heap.size < w2.heap.size := by omega
  clear x0 x1 x2 hB1 hb2
  generalize w1.heap.size = b at *
  generalize name.extract 0 (min (name.size : Int) 30).toNat = S at *
  go_loopw [6, 7] (fun p q wr => ∃ k : Nat, k ≤ 17 ∧ p = .int .i64 (wF S.toList k) ∧ q = .int .i64 ((k : Int) + 1) ∧ wr = w2) (fun p q _ => 18 - (intOf q).toNat)
  case atStart => exact ⟨0, by omega, rfl, rfl, rfl⟩
  case round =>
    obtain ⟨k, hk, rfl, rfl, rfl⟩ := hrel
    by_cases hlt : k < 17
    · have r0 := hR.2 k hlt
      by_cases he : nm k = S.toList
      · have hW : Aside (wF S.toList (k + 1) = (k : Int) + 1) := (show Aside _ from wF_hit hlt he)
        have e1 : ((bs (nm k)).toList == S.toList) = true := by
          rw [← he]; simp
        generalize bs (nm k) = z at *
        generalize wF S.toList k = y at *
        clear he
        go_wp2_with fail
        go_roundw
        case rel => exact ⟨k + 1, by omega, by rw [hW.out], by go_num, by first | rfl | trivial⟩
        case measure => simp [intOf]; omega
      · have hW : Aside (wF S.toList (k + 1) = wF S.toList k) := (show Aside _ from wF_miss he)
        have e1 : ((bs (nm k)).toList == S.toList) = false := by
          simpa using he
        generalize bs (nm k) = z at *
        clear he
        go_wp2_with fail
        go_roundw
        case rel => exact ⟨k + 1, by omega, by rw [hW.out], by go_num, by first | rfl | trivial⟩
        case measure => simp [intOf]; omega
    · obtain rfl : k = 17 := by omega
      rw [wF_ix]
      have cF := cF S
      have hz := ixF_range S.toList
      generalize ixF S.toList = z at *
      have hz2 : (z + 1 = 0 ∧ (if z = -1 then (8 : Int) else 0) = 8) ∨ (decide (0 < z + 1) = true ∧ (if z = -1 then (8 : Int) else 0) = 0) := by
        by_cases h : z = -1
        · subst h; exact .inl ⟨rfl, rfl⟩
        · exact .inr ⟨decide_eq_true (by omega), if_neg h⟩
      clear hz
      generalize z + 1 = y at *
      generalize (if z = -1 then (8 : Int) else 0) = ef at *
      rcases hz2 with ⟨rfl, rfl⟩ | ⟨d1, rfl⟩
      all_goals
        go_wp2_with fail
        refine (cF _).mono ?_
        rintro e w3 ⟨rfl, hb3⟩
        have v0 := (hb3.cell (p := ⟨w.heap.size, 0, none⟩) z3).trans u0
        have v1 := (hb3.cell (p := ⟨w.heap.size, 1, none⟩) z3).trans u1
        have v2 := (hb3.cell (p := ⟨w.heap.size, 2, none⟩) z3).trans u2
        have hR3 := hR.below hb3 z2
        have hB3 := hB2.trans (hb3.mono hB2.size)
        have z4 : w.heap.size < w3.heap.size := Nat.lt_of_lt_of_le z3 hb3.size
        have z5 : b < w3.heap.size := Nat.lt_of_lt_of_le z2 hb3.size
        clear u0 u1 u2 hb3 hR hB2 z3 z2 cF
        go_wp2_with fail
        rcases hcase with ⟨hbad, hor⟩ | ⟨k, hk2, rfl⟩
        · refine (nameBad r hbad _).mono ?_
          rintro e w4 ⟨rfl, hb4⟩
          have p0 := (hb4.cell (p := ⟨w.heap.size, 0, none⟩) z4).trans v0
          have p1 := (hb4.cell (p := ⟨w.heap.size, 1, none⟩) z4).trans v1
          have p2 := (hb4.cell (p := ⟨w.heap.size, 2, none⟩) z4).trans v2
          have hB4 := hB3.trans (hb4.mono hB3.size)
          have z6 : w.heap.size < w4.heap.size := Nat.lt_of_lt_of_le z4 hb4.size
          clear v0 v1 v2 hb4 hB3
          go_wp2_with fail
          refine (textBad r s n hbad _).mono ?_
          rintro e w5 ⟨rfl, hb5⟩
          have q0 := (hb5.cell (p := ⟨w.heap.size, 0, none⟩) z6).trans p0
          have hB5 := hB4.trans (hb5.mono hB4.size)
          clear p0 p1 p2 hb5 hB4 hbad
          rcases hor with e1 | ⟨e1, e2⟩
          all_goals
            go_wp2_with fail
            go_ret
            exact ⟨rfl, hB5⟩
        · refine (nameGood k hk2 _).mono ?_
          rintro e w4 ⟨rfl, hb4⟩
          have p0 := (hb4.cell (p := ⟨w.heap.size, 0, none⟩) z4).trans v0
          have p1 := (hb4.cell (p := ⟨w.heap.size, 1, none⟩) z4).trans v1
          have p2 := (hb4.cell (p := ⟨w.heap.size, 2, none⟩) z4).trans v2
          have hB4 := hB3.trans (hb4.mono hB3.size)
          have hR4 := hR3.below hb4 z5
          have z6 : w.heap.size < w4.heap.size := Nat.lt_of_lt_of_le z4 hb4.size
          have z7 : b < w4.heap.size := Nat.lt_of_lt_of_le z5 hb4.size
          have g1 : decide ((k : Int) + 1 < 1) = false := decide_eq_false (by omega)
          have g2 : decide ((17 : Int) < (k : Int) + 1) = false := decide_eq_false (by omega)
          clear v0 v1 v2 hb4 hB3 hR3
          by_cases hsn : s = 0 ∧ n = 0
          · obtain ⟨rfl, rfl⟩ := hsn
            go_wp2_with fail
            refine (textNone k hk2 _).mono ?_
            rintro e w5 ⟨rfl, hb5⟩
            have q0 := (hb5.cell (p := ⟨w.heap.size, 0, none⟩) z6).trans p0
            have q1 := (hb5.cell (p := ⟨w.heap.size, 1, none⟩) z6).trans p1
            have q2 := (hb5.cell (p := ⟨w.heap.size, 2, none⟩) z6).trans p2
            have hB5 := hB4.trans (hb5.mono hB4.size)
            have r0 := (hR4.below hb5 z7).2 k hk2
            clear p0 p1 p2 hb5 hB4 hR4
            generalize bs (nm k) = N at *
            go_wp2_with fail
            go_ret
            exact ⟨rfl, hB5⟩
          · have hne : (s == 0 && n == 0) = false := by
              cases h1 : (s == 0) <;> cases h2 : (n == 0) <;> simp_all
            have hs := nm_size k
            have cG := fun w hT => textGood k s n (bs (nm k)) S1 S2 hne w hT hs (by omega) (by omega) (fun w => nameGood k hk2 w) cI1 cI2
            have hcn : (s == 0) = false ∨ ((s == 0) = true ∧ (n == 0) = false) := by
              cases h : (s == 0)
              · exact .inl rfl
              · rw [h] at hne; exact .inr ⟨rfl, by simpa using hne⟩
            have a0 := fun w => run_string_add (P := Tryz.prog) w (bs (nm k)) ⟨#[32, 64]⟩ (by omega) (by show _ ≤ _; exact Int.le_of_lt (by decide))
            have m1 : (⟨#[32, 64]⟩ : ByteArray).size = 2 := rfl
            have m2 : (⟨#[46]⟩ : ByteArray).size = 1 := rfl
            have m3 := ByteArray.size_append (a := bs (nm k)) (b := ⟨#[32, 64]⟩)
            have m4 := ByteArray.size_append (a := bs (nm k) ++ ⟨#[32, 64]⟩) (b := S1)
            have m5 := ByteArray.size_append (a := bs (nm k) ++ ⟨#[32, 64]⟩ ++ S1) (b := ⟨#[46]⟩)
            have a1 := fun w => run_string_add (P := Tryz.prog) w (bs (nm k) ++ ⟨#[32, 64]⟩) S1 (by omega) (by omega)
            have a2 := fun w => run_string_add (P := Tryz.prog) w (bs (nm k) ++ ⟨#[32, 64]⟩ ++ S1) ⟨#[46]⟩ (by omega) (by omega)
            have a3 := fun w => run_string_add (P := Tryz.prog) w (bs (nm k) ++ ⟨#[32, 64]⟩ ++ S1 ++ ⟨#[46]⟩) S2 (by omega) (by omega)
            unfold txt at cG
            clear m1 m2 m3 m4 m5 hs hne hsn l1 l2
            have rr := fun w (h : RdL w b) => h.2 k hk2
            generalize bs (nm k) = N at *
            rcases hcn with e1 | ⟨e1, e2⟩
            all_goals
              go_wp2_with fail
              refine (cG _ (hT.below hB4)).mono ?_
              rintro e w5 ⟨rfl, hb5⟩
              have q0 := (hb5.cell (p := ⟨w.heap.size, 0, none⟩) z6).trans p0
              have q1 := (hb5.cell (p := ⟨w.heap.size, 1, none⟩) z6).trans p1
              have q2 := (hb5.cell (p := ⟨w.heap.size, 2, none⟩) z6).trans p2
              have hB5 := hB4.trans (hb5.mono hB4.size)
              have hR5 := hR4.below hb5 z7
              have z8 : w.heap.size < w5.heap.size := Nat.lt_of_lt_of_le z6 hb5.size
              have z9 : b < w5.heap.size := Nat.lt_of_lt_of_le z7 hb5.size
              have r0 := rr _ hR5
              clear hR4 hR5 rr p0 p1 p2 hb5 hB4 cF
              go_upto_region 20 with (fail)
              have f1 := cell_regrown q1
              have f2 := cell_regrown q2
              have k1 := fun d os => (cD1 (grow (redrawn w5 d) os)).regrown_of
              have k2 := fun d os => (cD2 (grow (redrawn w5 d) os)).regrown_of
              refine wp_region_quiet_below (by kernel_rfl) (by kernel_rfl) ?_
              repeat (quiet_step ((go_at_call 8; first | (with_reducible exact k1 _ _) | (with_reducible exact k2 _ _))))
              refine wpQuiet_nil ?_
              intro _ hw'
              obtain ⟨⟨dq, osq⟩, hw''⟩ := hw'
              subst hw''
              have q0' := cell_regrown q0 dq osq
              have r0' := cell_regrown r0 dq osq
              have hB6 := hB5.trans ((below_regrown w5 dq osq).mono hB5.size)
              clear k1 k2 f1 f2 q0 q1 q2 r0
              generalize grow (redrawn w5 dq) osq = w6 at *
              go_wp2_with fail
              go_ret
              exact ⟨rfl, hB6⟩
end Go.Proofs.YtfhijafkpenogaaGreatDoor
