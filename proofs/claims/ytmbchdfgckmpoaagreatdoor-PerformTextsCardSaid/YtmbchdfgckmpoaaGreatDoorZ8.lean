/- perform.integer: a number is read from its own text alone. -/
import Derived.Test.YtmbchdfgckmpoaaGreatDoorZ5
import Derived.Lib.AtoiAllCases
namespace Go.Proofs.YtmbchdfgckmpoaaGreatDoor
open Go.RowKit Go.Sort

theorem dec_bytes : ∀ (u : Nat) (b : UInt8), b ∈ Lib.decDigits u → 48 ≤ b.toNat ∧ b.toNat ≤ 57 := by
  intro u
  induction u using Nat.strongRecOn with
  | _ u ih =>
    intro b hb
    have one : ∀ d, d < 10 → (UInt8.ofNat (48 + d)).toNat = 48 + d := fun d hd => by
      rw [UInt8.toNat_ofNat']; omega
    rw [Lib.decDigits] at hb
    split at hb
    · rename_i h
      have hb := List.mem_singleton.1 hb
      subst hb
      rw [one u h]; omega
    · rename_i h
      rcases List.mem_append.1 hb with hb | hb
      · exact ih (u / 10) (by omega) b hb
      · have hb := List.mem_singleton.1 hb
        subst hb
        rw [one (u % 10) (by omega)]; omega
theorem dec_ne (u : Nat) : Lib.decDigits u ≠ [] := by
  rw [Lib.decDigits]
  split <;> simp
theorem itoa_bytes (z : Int) (b : UInt8) (h : b ∈ Lib.itoa z) : b.toNat = 45 ∨ (48 ≤ b.toNat ∧ b.toNat ≤ 57) := by
  unfold Lib.itoa at h
  split at h
  · rcases List.mem_cons.1 h with rfl | h
    · exact .inl rfl
    · exact .inr (dec_bytes _ _ h)
  · exact .inr (dec_bytes _ _ h)
theorem parse_snoc (c : UInt8) : ∀ (l : List UInt8) (acc : Nat), Lib.parseUint10 acc (l ++ [c]) = match Lib.parseUint10 acc l with
    | .ok v => Lib.parseUint10 v [c]
    | Lib.NumEnd.syntax => Lib.NumEnd.syntax
    | .range => .range
  | [], acc => by simp [Lib.parseUint10]
  | d :: l, acc => by
    rw [List.cons_append, Lib.parseUint10, Lib.parseUint10]
    split
    · split
      · rfl
      · split
        · rfl
        · exact parse_snoc c l _
    · rfl
theorem parse_dec : ∀ u : Nat, u < 1000000000000000000 → Lib.parseUint10 0 (Lib.decDigits u) = .ok u := by
  intro u
  induction u using Nat.strongRecOn with
  | _ u ih =>
    intro hu
    have one : ∀ d, d < 10 → (UInt8.ofNat (48 + d)).toNat = 48 + d := fun d hd => by
      rw [UInt8.toNat_ofNat']; omega
    rw [Lib.decDigits]
    split
    · rename_i h
      simp only [Lib.parseUint10]
      rw [one u h, if_pos ⟨by omega, by omega⟩, if_neg (by omega), if_neg (by omega)]
      congr 1; omega
    · rename_i h
      rw [parse_snoc, ih (u / 10) (by omega) (by omega)]
      simp only [Lib.parseUint10]
      rw [one (u % 10) (by omega), if_pos ⟨by omega, by omega⟩, if_neg (by omega), if_neg (by omega)]
      congr 1; omega
theorem atoi_itoa (u : Nat) (hu : u < 1000000000000000000) : Lib.atoiAll (Lib.itoa u) = .ok (u : Int) := by
  rw [Lib.itoa_nonneg]
  have hp := parse_dec u hu
  have hb := dec_bytes u
  have hne := dec_ne u
  generalize Lib.decDigits u = l at *
  cases l with
  | nil => exact absurd rfl hne
  | cons c r =>
    have hc := hb c (by simp)
    unfold Lib.atoiAll
    simp only
    rw [if_neg (by omega)]
    unfold Lib.parseMag
    rw [if_neg (by simp), hp]
    have h45 : ¬ c.toNat = 45 := by omega
    simp only [h45, not_false_eq_true, true_and, false_and, if_false]
    rw [if_neg (by omega)]

theorem nDigits_le (k : Nat) : ∀ u, Lib.nDigits u ≤ k + 1 ↔ u < 10 ^ (k + 1) := by
  induction k with
  | zero =>
    intro u
    by_cases h : u < 10
    · rw [Lib.nDigits_small h]; simp; omega
    · rw [Lib.nDigits_big h]
      have := Lib.nDigits_pos (u / 10)
      constructor
      · intro h2; omega
      · intro h2; simp at h2; omega
  | succ k ih =>
    intro u
    have hp : 10 ^ (k + 1 + 1) = 10 * 10 ^ (k + 1) := by rw [Nat.pow_succ]; omega
    have hp0 : 0 < 10 ^ (k + 1) := Nat.pow_pos (by omega)
    by_cases h : u < 10
    · rw [Lib.nDigits_small h]
      constructor
      · intro _; omega
      · intro _; omega
    · rw [Lib.nDigits_big h]
      have := ih (u / 10)
      constructor
      · intro h2
        have := this.1 (by omega)
        omega
      · intro h2
        have := this.2 (by omega)
        omega
theorem trim_dec (u : Nat) : Lib.trimPrefix (Lib.decDigits u) [45] = Lib.decDigits u := by
  unfold Lib.trimPrefix Lib.hasPrefix
  have hb := dec_bytes u
  cases hd : Lib.decDigits u with
  | nil => rfl
  | cons c r =>
    have hc := hb c (by rw [hd]; simp)
    have hne : (45 : UInt8) ≠ c := by
      intro e
      rw [← e] at hc
      have : (45 : UInt8).toNat = 45 := rfl
      omega
    rw [if_neg]
    simp [List.isPrefixOf, hne]
theorem trim_itoa (z : Int) : (Lib.trimPrefix (Lib.itoa z) [45]).length = Lib.nDigits z.natAbs := by
  by_cases h : 0 ≤ z
  · obtain ⟨n, rfl⟩ := Int.eq_ofNat_of_zero_le h
    have e : Lib.itoa (n : Int) = Lib.decDigits n := by
      unfold Lib.itoa
      rw [if_neg (by omega)]
      simp
    rw [e, trim_dec, Lib.decDigits_length]
    simp
  · have e : Lib.itoa z = 45 :: Lib.decDigits z.natAbs := by
      unfold Lib.itoa
      rw [if_pos (by omega)]
    rw [e]
    unfold Lib.trimPrefix Lib.hasPrefix
    rw [if_pos (by simp [List.isPrefixOf])]
    simp [Lib.decDigits_length]
theorem trim_bd (z : Int) : (Lib.trimPrefix (Lib.itoa z) [45]).length ≤ 18 ↔ Bd z := by
  rw [trim_itoa, nDigits_le 17]
  unfold Bd
  have e : (10 : Nat) ^ (17 + 1) = 1000000000000000000 := by decide
  rw [e]
  omega
theorem atoi_own {z : Int} (h : Bd z) : Lib.atoiAll (Lib.itoa z) = .ok z := by
  obtain ⟨h1, h2⟩ := h
  by_cases hz : 0 ≤ z
  · obtain ⟨n, rfl⟩ := Int.eq_ofNat_of_zero_le hz
    exact atoi_itoa n (by omega)
  · have e : Lib.itoa z = 45 :: Lib.decDigits z.natAbs := by
      unfold Lib.itoa
      rw [if_pos (by omega)]
    rw [e, Lib.atoiAll_minus]
    unfold Lib.parseMag
    rw [if_neg (dec_ne _), parse_dec _ (by omega)]
    simp only [Lib.signed]
    rw [if_neg (by omega)]
    congr 1
    omega
theorem atoiOk (s : ByteArray) (v : Int) (w : World) (hs : s.size ≤ 1000000) (h : Lib.atoiAll s.data.toList = .ok v) : Calls Tryz.prog 41 #[.string s] w fun e w' => e = .returned (.tuple #[.int .i64 v, .nilIface]) ∧ Below w.heap.size w w' :=
  (Tryz.strconv_Atoi_ok s (by omega) v h w).mono fun _ _ ⟨he, hw⟩ => ⟨he, by
    rcases hw with rfl | ⟨t, rfl⟩
    · exact Below.refl _ _
    · exact Lib.bytesWorld_below w 5 t⟩
theorem atoiBad (s : ByteArray) (w : World) (he : Env w) (hs : s.size ≤ 1000000) (h : ∀ v, Lib.atoiAll s.data.toList ≠ .ok v) : Calls Tryz.prog 41 #[.string s] w fun e w' => (∃ (n : Int) (g : Nat), e = .returned (.tuple #[.int .i64 n, .iface 281 (.pointer (some ⟨g, 0, none⟩))])) ∧ Below w.heap.size w w' := by
  cases hr : Lib.atoiAll s.data.toList with
  | ok v => exact absurd hr (h v)
  | range =>
    obtain ⟨t, p, hv⟩ := he.rng
    exact (Tryz.strconv_Atoi_range s (by omega) hr _ w hv (.inr ⟨t, p, rfl⟩)).mono fun _ _ ⟨g, h1, _, _, h4⟩ => ⟨⟨_, g, h1⟩, h4⟩
  | _ =>
    obtain ⟨t, p, hv⟩ := he.syn
    exact (Tryz.strconv_Atoi_syntax s (by omega) hr _ w hv (.inr ⟨t, p, rfl⟩)).mono fun _ _ ⟨g, h1, _, _, h4⟩ => ⟨⟨_, g, h1⟩, h4⟩

/-- What integer says of a text. -/
def IntR (s : List UInt8) (n : Int) (good : Bool) : Prop := (good = true → Bd n ∧ Lib.itoa n = s) ∧ ∀ z, Bd z → Lib.itoa z = s → good = true ∧ n = z
set_option maxHeartbeats 2000000 in
theorem integerC (s : List UInt8) (w : World) (hE : Env w) (hs : s.length ≤ 1000000) :
    Calls Tryz.prog 21 #[.string (bs s)] w fun e w' => (∃ n good, e = .returned (.tuple #[.int .i64 n, .bool good]) ∧ IntR s n good) ∧ Below w.heap.size w w' := by
  have hsz := bs_size s
  have e1 : (bs s).data.toList = s := by simp
  by_cases hok : ∃ z, Lib.atoiAll s = .ok z
  · obtain ⟨z, hz⟩ := hok
    have hbz := Lib.atoiAll_bounds hz
    have hz' := Lib.hid hz
    have ha := atoiOk (bs s) z w (by omega) (by rw [e1]; exact hz)
    have hi := fun v (hb : Below w.heap.size w v) => itoaC z v (hE.below hb rfl) hbz.1 hbz.2
    have ht := fun v => Tryz.strings_TrimPrefix (bs s) ⟨#[45]⟩ v
    have e2 : (⟨#[45]⟩ : ByteArray).data.toList = [45] := rfl
    rw [e1, e2] at ht
    by_cases he : Lib.itoa z = s
    · have hb : (Lib.itoa z == s) = true := by rw [he]; simp
      have hts := bs_size (Lib.trimPrefix s [45])
      have htb := trim_bd z
      rw [he] at htb
      have hR : Lib.itoa z = s ∧ ((Lib.trimPrefix s [45]).length ≤ 18 ↔ Bd z) := ⟨he, htb⟩
      have hR := Lib.hid hR
      have ha := ha
      generalize Lib.trimPrefix s [45] = T at *
      clear e1 e2 hz htb he
      by_cases hl : T.length ≤ 18
      · have hl2 : ((T.length : Nat) : Int) ≤ 18 := by omega
        go_enter Tryz.func21, Tryz.ntmps21
        go_wp2_with fail
        refine ha.mono ?_
        rintro e w1 ⟨rfl, hb1⟩
        have hi1 := hi w1 hb1
        go_wp2_with fail
        refine hi1.mono ?_
        rintro e w2 ⟨rfl, hb2⟩
        go_wp2_with fail
        refine (ht w2).mono ?_
        rintro e w3 ⟨rfl, rfl⟩
        go_wp2_with fail
        go_ret2
        exact ⟨⟨z, true, rfl, fun _ => ⟨hR.out.2.1 hl, hR.out.1⟩, fun y hy1 hy2 => ⟨rfl, by have h1 := atoi_own hy1; rw [hy2] at h1; rw [hz'.out] at h1; injection h1⟩⟩, hb1.trans (hb2.mono hb1.size)⟩
      · have hl2 : ¬ ((T.length : Nat) : Int) ≤ 18 := by omega
        have hl3 : decide (((T.length : Nat) : Int) ≤ 18) = false := decide_eq_false hl2
        go_enter Tryz.func21, Tryz.ntmps21
        go_wp2_with fail
        refine ha.mono ?_
        rintro e w1 ⟨rfl, hb1⟩
        have hi1 := hi w1 hb1
        go_wp2_with fail
        refine hi1.mono ?_
        rintro e w2 ⟨rfl, hb2⟩
        go_wp2_with fail
        refine (ht w2).mono ?_
        rintro e w3 ⟨rfl, rfl⟩
        go_wp2_with fail
        go_ret2
        exact ⟨⟨z, false, rfl, (fun h => by cases h), fun y hy1 hy2 => absurd (by have h1 := atoi_own hy1; rw [hy2] at h1; rw [hz'.out] at h1; injection h1 with h1; rw [h1]; exact hy1) (fun c => hl (hR.out.2.2 c))⟩, hb1.trans (hb2.mono hb1.size)⟩
    · have hb : (Lib.itoa z == s) = false := by
        rw [beq_eq_false_iff_ne]
        exact he
      have hR := Lib.hid he
      clear he hz ht
      go_enter Tryz.func21, Tryz.ntmps21
      go_wp2_with fail
      refine ha.mono ?_
      rintro e w1 ⟨rfl, hb1⟩
      have hi1 := hi w1 hb1
      go_wp2_with fail
      refine hi1.mono ?_
      rintro e w2 ⟨rfl, hb2⟩
      go_wp2_with fail
      go_ret2
      exact ⟨⟨z, false, rfl, (fun h => by cases h), fun y hy1 hy2 => absurd (by have h1 := atoi_own hy1; rw [hy2] at h1; rw [hz'.out] at h1; injection h1 with h1; rw [h1]; exact hy2) hR.out⟩, hb1.trans (hb2.mono hb1.size)⟩
  · have hbad : ∀ v, Lib.atoiAll (bs s).data.toList ≠ .ok v := fun v h => hok ⟨v, by rw [e1] at h; exact h⟩
    have ha := atoiBad (bs s) w hE (by omega) hbad
    have hok' := Lib.hid hok
    clear hbad hok
    go_enter Tryz.func21, Tryz.ntmps21
    go_wp2_with fail
    refine ha.mono ?_
    rintro e w1 ⟨⟨n, g, rfl⟩, hb1⟩
    go_wp2_with fail
    go_ret2
    exact ⟨⟨n, false, rfl, (fun h => by cases h), fun y hy1 hy2 => absurd ⟨y, by rw [← hy2]; exact atoi_own hy1⟩ hok'.out⟩, hb1⟩
end Go.Proofs.YtmbchdfgckmpoaaGreatDoor
