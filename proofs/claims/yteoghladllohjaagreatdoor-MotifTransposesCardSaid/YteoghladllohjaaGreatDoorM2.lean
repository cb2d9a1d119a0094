/- motif.Check, and the model's badTones. -/
import Derived.Test.YteoghladllohjaaGreatDoorM1
namespace Go.Proofs.YteoghladllohjaaGreatDoor
open Go.RowKit Go.Sort

theorem toneErr_len {t : Tone} (h : t.len < 1 ∨ 123863040 < t.len) : toneErr t = 2 := by unfold toneErr; rw [if_pos h]
theorem toneErr_form {len st al oc : Int} (h1 : 1 ≤ len) (h2 : len ≤ 123863040) (h : st ≠ 0 ∨ al ≠ 0 ∨ oc ≠ 0) : toneErr ⟨len, ⟨st, al, oc⟩, true⟩ = 3 := by
  unfold toneErr
  rw [if_neg (by simp; omega), if_pos ⟨rfl, fun e => by simp [pit0] at e; omega⟩]
theorem toneErr_rest {len : Int} (h1 : 1 ≤ len) (h2 : len ≤ 123863040) : toneErr ⟨len, ⟨0, 0, 0⟩, true⟩ = 0 := by
  unfold toneErr
  rw [if_neg (by simp; omega), if_neg (fun h => h.2 rfl), if_neg (fun h => by simp at h)]
theorem toneErr_note {len st al oc : Int} (h1 : 1 ≤ len) (h2 : len ≤ 123863040) : toneErr ⟨len, ⟨st, al, oc⟩, false⟩ = pitchCheckF st al oc := by
  unfold toneErr
  rw [if_neg (by simp; omega), if_neg (fun h => by simp at h)]
  rcases pitchCheckF_or st al oc with h | h
  · rw [if_neg (fun hh => hh.2 h), h]
  · rw [if_pos ⟨rfl, by simp only [h]; omega⟩, h]
theorem checkL_at {l : List Tone} (h1 : 0 < l.length) (h2 : l.length ≤ 64) : checkL l = firstErr l := by
  unfold checkL
  rw [if_neg (by omega), if_neg (by omega)]
theorem firstErr_end (l : List Tone) {k : Nat} (h : k = l.length) : firstErr (l.drop k) = 0 := by
  rw [h, List.drop_length]; rfl

theorem checkCShort (A : Option Addr) (c n : Nat) (w : World) (h : n = 0 ∨ 64 < n) (hn : n ≤ 1000) :
    Calls Tryz.prog 18 #[.slice A n c] w fun r w' => r = .returned (.int .i64 (if n = 0 then 4 else 9)) ∧ Below w.heap.size w w' := by
  rcases h with rfl | h
  · rw [if_pos rfl]
    go_enter Tryz.func18, Tryz.ntmps18
    go_wp2_with fail
    go_ret
    exact ⟨rfl, Below.refl _ _⟩
  · rw [if_neg (by omega)]
    have e0 : ((n : Int) == 0) = false := by simp; omega
    have e1 : decide ((64 : Int) < n) = true := decide_eq_true (by omega)
    go_enter Tryz.func18, Tryz.ntmps18
    go_wp2_with fail
    go_ret
    exact ⟨rfl, Below.refl _ _⟩
set_option maxHeartbeats 4000000 in
theorem checkCLoop (A : Option Addr) (c : Nat) (l : List Tone) (w : World) (h1 : 0 < l.length) (h2 : l.length ≤ 64) (h : SlT w A l) :
    Calls Tryz.prog 18 #[.slice A l.length c] w fun r w' => r = .returned (.int .i64 (checkL l)) ∧ Below w.heap.size w w' := by
  rw [checkL_at h1 h2]
  obtain ⟨b, off, rfl, hlb, hrd⟩ := h.some h1
  have hstep := fun k => firstErr_drop (l := l) (k := k)
  have hend := fun k => firstErr_end l (k := k)
  have hnl : ∃ n, n = l.length := ⟨_, rfl⟩
  obtain ⟨n, hnl⟩ := hnl
  rw [← hnl] at h1 h2 ⊢
  have e0 : ((n : Int) == 0) = false := by simp; omega
  have e1 : decide ((64 : Int) < n) = false := decide_eq_false (by omega)
  have hnl' : n ≤ l.length := by omega
  have hnl2 : l.length ≤ n := by omega
  clear hnl
  go_enter Tryz.func18, Tryz.ntmps18
  go_wp2_with fail
  go_loopw [15] (fun i wr => ∃ k : Nat, k ≤ n ∧ i = .int .i64 k ∧ Aside (firstErr l = firstErr (l.drop k)) ∧ Below w.heap.size w wr) (fun i _ => n - (intOf i).toNat)
  case atStart => exact ⟨0, by omega, rfl, (show Aside (firstErr l = firstErr (l.drop 0)) from (rfl : firstErr l = firstErr l)), Below.refl _ _⟩
  case round =>
    obtain ⟨k, hk, rfl, hA, hB⟩ := hrel
    have hz := hB.size
    by_cases hlt : k < n
    · have hA := hA.out
      rw [hstep k (by omega)] at hA
      obtain ⟨r0, r1, r2, r3, r4⟩ := hrd.below hB hlb k (by omega)
      clear hstep hend hrd
      generalize nth l k = t at *
      obtain ⟨len, ⟨st, al, oc⟩, rest⟩ := t
      simp only at r0 r1 r2 r3 r4
      by_cases hl1 : len < 1
      · have hE := toneErr_len (t := ⟨len, ⟨st, al, oc⟩, rest⟩) (.inl hl1)
        have hA' := Lib.hid (show firstErr l = 2 by rw [hA, hE]; rfl)
        clear hA hE
        go_wp2_with fail
        go_ret
        exact ⟨by rw [hA'.out]; rfl, hB.alloc (by omega) _⟩
      by_cases hl2 : 123863040 < len
      · have hE := toneErr_len (t := ⟨len, ⟨st, al, oc⟩, rest⟩) (.inr hl2)
        have hA' := Lib.hid (show firstErr l = 2 by rw [hA, hE]; rfl)
        clear hA hE
        go_wp2_with fail
        go_ret
        exact ⟨by rw [hA'.out]; rfl, hB.alloc (by omega) _⟩
      cases rest
      · skip
        have hE := toneErr_note (st := st) (al := al) (oc := oc) (len := len) (by omega) (by omega)
        have hpc := pitchCheck st al oc (wr.alloc (.cells #[.int .i64 len, .int .i64 st, .int .i64 al, .int .i64 oc, .bool false] 35))
        rcases pitchCheckF_or st al oc with hp | hp
        · rw [hp] at hE hpc
          rw [hE, if_pos rfl] at hA
          have hA' := Lib.hid hA
          clear hA hE hp
          go_wp2_with fail
          refine hpc.mono ?_
          rintro e w9 ⟨rfl, hb9⟩
          go_wp2_with fail
          go_roundw
          case rel => exact ⟨k + 1, by omega, by go_num, (show Aside _ from hA'.out), (hB.alloc (by omega) _).trans (hb9.mono (by simp; omega))⟩
          case measure => simp [intOf]; omega
        · rw [hp] at hE hpc
          have hA' := Lib.hid (show firstErr l = 18 by rw [hA, hE]; rfl)
          clear hA hE hp
          go_wp2_with fail
          refine hpc.mono ?_
          rintro e w9 ⟨rfl, hb9⟩
          go_wp2_with fail
          go_ret
          exact ⟨by rw [hA'.out]; rfl, (hB.alloc (by omega) _).trans (hb9.mono (by simp; omega))⟩
      · by_cases hs : st = 0
        · by_cases ha : al = 0
          · by_cases ho : oc = 0
            · subst hs ha ho
              have hE := toneErr_rest (len := len) (by omega) (by omega)
              rw [hE, if_pos rfl] at hA
              have hA' := Lib.hid hA
              clear hA hE
              go_wp2_with fail
              go_roundw
              case rel => exact ⟨k + 1, by omega, by go_num, (show Aside _ from hA'.out), hB.alloc (by omega) _⟩
              case measure => simp [intOf]; omega
            · subst hs ha
              have hE := toneErr_form (len := len) (st := 0) (al := 0) (oc := oc) (by omega) (by omega) (.inr (.inr ho))
              have hA' := Lib.hid (show firstErr l = 3 by rw [hA, hE]; rfl)
              clear hA hE
              go_wp2_with fail
              go_ret
              exact ⟨by rw [hA'.out]; rfl, hB.alloc (by omega) _⟩
          · subst hs
            have hE := toneErr_form (len := len) (st := 0) (al := al) (oc := oc) (by omega) (by omega) (.inr (.inl ha))
            have hA' := Lib.hid (show firstErr l = 3 by rw [hA, hE]; rfl)
            clear hA hE
            go_wp2_with fail
            go_ret
            exact ⟨by rw [hA'.out]; rfl, hB.alloc (by omega) _⟩
        · have hE := toneErr_form (len := len) (st := st) (al := al) (oc := oc) (by omega) (by omega) (.inl hs)
          have hA' := Lib.hid (show firstErr l = 3 by rw [hA, hE]; rfl)
          clear hA hE
          go_wp2_with fail
          go_ret
          exact ⟨by rw [hA'.out]; rfl, hB.alloc (by omega) _⟩
    · have hA' := Lib.hid (show firstErr l = 0 by rw [hA.out, hend k (by omega)])
      clear hA hstep hend
      go_wp2_with fail
      go_ret
      exact ⟨by rw [hA'.out]; rfl, hB⟩

theorem checkC (A : Option Addr) (c : Nat) (l : List Tone) (w : World) (hl : l.length ≤ 1000) (h : SlT w A l) :
    Calls Tryz.prog 18 #[.slice A l.length c] w fun r w' => r = .returned (.int .i64 (checkL l)) ∧ Below w.heap.size w w' := by
  by_cases h1 : l.length = 0 ∨ 64 < l.length
  · have := checkCShort A c l.length w h1 hl
    have e : checkL l = if l.length = 0 then 4 else 9 := by
      unfold checkL
      split
      · rfl
      · rw [if_pos (by omega)]
    rw [e]; exact this
  · exact checkCLoop A c l w (by omega) (by omega) h

theorem badCShort (A : Option Addr) (c n : Nat) (w : World) (h : n = 0 ∨ 64 < n) (hn : n ≤ 1000) :
    Calls Tryz.prog 10 #[.slice A n c] w fun r w' => r = .returned (.int .i64 (if n = 0 then 4 else 9)) ∧ Below w.heap.size w w' := by
  rcases h with rfl | h
  · rw [if_pos rfl]
    go_enter Tryz.func10, Tryz.ntmps10
    go_wp2_with fail
    go_ret
    exact ⟨rfl, Below.refl _ _⟩
  · rw [if_neg (by omega)]
    have e0 : ((n : Int) == 0) = false := by simp; omega
    have e1 : decide ((64 : Int) < n) = true := decide_eq_true (by omega)
    go_enter Tryz.func10, Tryz.ntmps10
    go_wp2_with fail
    go_ret
    exact ⟨rfl, Below.refl _ _⟩
set_option maxHeartbeats 4000000 in
theorem badCLoop (A : Option Addr) (c : Nat) (l : List Tone) (w : World) (h1 : 0 < l.length) (h2 : l.length ≤ 64) (h : SlT w A l) :
    Calls Tryz.prog 10 #[.slice A l.length c] w fun r w' => r = .returned (.int .i64 (checkL l)) ∧ Below w.heap.size w w' := by
  rw [checkL_at h1 h2]
  obtain ⟨b, off, rfl, hlb, hrd⟩ := h.some h1
  have hstep := fun k => firstErr_drop (l := l) (k := k)
  have hend := fun k => firstErr_end l (k := k)
  have hnl : ∃ n, n = l.length := ⟨_, rfl⟩
  obtain ⟨n, hnl⟩ := hnl
  rw [← hnl] at h1 h2 ⊢
  have e0 : ((n : Int) == 0) = false := by simp; omega
  have e1 : decide ((64 : Int) < n) = false := decide_eq_false (by omega)
  have hnl' : n ≤ l.length := by omega
  have hnl2 : l.length ≤ n := by omega
  clear hnl
  go_enter Tryz.func10, Tryz.ntmps10
  go_wp2_with fail
  go_loopw [3] (fun i wr => ∃ k : Nat, k ≤ n ∧ i = .int .i64 k ∧ Aside (firstErr l = firstErr (l.drop k)) ∧ Below w.heap.size w wr) (fun i _ => n - (intOf i).toNat)
  case atStart => exact ⟨0, by omega, rfl, (show Aside (firstErr l = firstErr (l.drop 0)) from (rfl : firstErr l = firstErr l)), Below.refl _ _⟩
  case round =>
    obtain ⟨k, hk, rfl, hA, hB⟩ := hrel
    have hz := hB.size
    by_cases hlt : k < n
    · have hA := hA.out
      rw [hstep k (by omega)] at hA
      obtain ⟨r0, r1, r2, r3, r4⟩ := hrd.below hB hlb k (by omega)
      clear hstep hend hrd
      generalize nth l k = t at *
      obtain ⟨len, ⟨st, al, oc⟩, rest⟩ := t
      simp only at r0 r1 r2 r3 r4
      by_cases hl1 : len < 1
      · have hE := toneErr_len (t := ⟨len, ⟨st, al, oc⟩, rest⟩) (.inl hl1)
        have hA' := Lib.hid (show firstErr l = 2 by rw [hA, hE]; rfl)
        clear hA hE
        go_wp2_with fail
        go_ret
        exact ⟨by rw [hA'.out]; rfl, hB⟩
      by_cases hl2 : 123863040 < len
      · have hE := toneErr_len (t := ⟨len, ⟨st, al, oc⟩, rest⟩) (.inr hl2)
        have hA' := Lib.hid (show firstErr l = 2 by rw [hA, hE]; rfl)
        clear hA hE
        go_wp2_with fail
        go_ret
        exact ⟨by rw [hA'.out]; rfl, hB⟩
      cases rest
      · skip
        have hE := toneErr_note (st := st) (al := al) (oc := oc) (len := len) (by omega) (by omega)
        have hpc := pitchCheck st al oc wr
        rcases pitchCheckF_or st al oc with hp | hp
        · rw [hp] at hE hpc
          rw [hE, if_pos rfl] at hA
          have hA' := Lib.hid hA
          clear hA hE hp
          go_wp2_with fail
          refine hpc.mono ?_
          rintro e w9 ⟨rfl, hb9⟩
          go_wp2_with fail
          go_roundw
          case rel => exact ⟨k + 1, by omega, by go_num, (show Aside _ from hA'.out), hB.trans (hb9.mono (by omega))⟩
          case measure => simp [intOf]; omega
        · rw [hp] at hE hpc
          have hA' := Lib.hid (show firstErr l = 18 by rw [hA, hE]; rfl)
          clear hA hE hp
          go_wp2_with fail
          refine hpc.mono ?_
          rintro e w9 ⟨rfl, hb9⟩
          go_wp2_with fail
          go_ret
          exact ⟨by rw [hA'.out]; rfl, hB.trans (hb9.mono (by omega))⟩
      · by_cases hs : st = 0
        · by_cases ha : al = 0
          · by_cases ho : oc = 0
            · subst hs ha ho
              have hE := toneErr_rest (len := len) (by omega) (by omega)
              rw [hE, if_pos rfl] at hA
              have hA' := Lib.hid hA
              clear hA hE
              go_wp2_with fail
              go_roundw
              case rel => exact ⟨k + 1, by omega, by go_num, (show Aside _ from hA'.out), hB⟩
              case measure => simp [intOf]; omega
            · subst hs ha
              have hE := toneErr_form (len := len) (st := 0) (al := 0) (oc := oc) (by omega) (by omega) (.inr (.inr ho))
              have hA' := Lib.hid (show firstErr l = 3 by rw [hA, hE]; rfl)
              clear hA hE
              go_wp2_with fail
              go_ret
              exact ⟨by rw [hA'.out]; rfl, hB⟩
          · subst hs
            have hE := toneErr_form (len := len) (st := 0) (al := al) (oc := oc) (by omega) (by omega) (.inr (.inl ha))
            have hA' := Lib.hid (show firstErr l = 3 by rw [hA, hE]; rfl)
            clear hA hE
            go_wp2_with fail
            go_ret
            exact ⟨by rw [hA'.out]; rfl, hB⟩
        · have hE := toneErr_form (len := len) (st := st) (al := al) (oc := oc) (by omega) (by omega) (.inl hs)
          have hA' := Lib.hid (show firstErr l = 3 by rw [hA, hE]; rfl)
          clear hA hE
          go_wp2_with fail
          go_ret
          exact ⟨by rw [hA'.out]; rfl, hB⟩
    · have hA' := Lib.hid (show firstErr l = 0 by rw [hA.out, hend k (by omega)])
      clear hA hstep hend
      go_wp2_with fail
      go_ret
      exact ⟨by rw [hA'.out]; rfl, hB⟩

theorem badC (A : Option Addr) (c : Nat) (l : List Tone) (w : World) (hl : l.length ≤ 1000) (h : SlT w A l) :
    Calls Tryz.prog 10 #[.slice A l.length c] w fun r w' => r = .returned (.int .i64 (checkL l)) ∧ Below w.heap.size w w' := by
  by_cases h1 : l.length = 0 ∨ 64 < l.length
  · have := badCShort A c l.length w h1 hl
    have e : checkL l = if l.length = 0 then 4 else 9 := by
      unfold checkL
      split
      · rfl
      · rw [if_pos (by omega)]
    rw [e]; exact this
  · exact badCLoop A c l w (by omega) (by omega) h
end Go.Proofs.YteoghladllohjaaGreatDoor
