/- The law MotifTransposes (printed by mkT16.py). -/
import Derived.Test.YteoghladllohjaaGreatDoorT15
import Derived.Test.YteoghladllohjaaGreatDoorM13
namespace Go.Proofs.YteoghladllohjaaGreatDoor
open Go.RowKit Go.Shelf Go.Sort

instance (t m : Int) : Decidable (ivOk t m) := inferInstanceAs (Decidable (_ ∧ _))
def topRes (bad : Int) (gp : Pit → Pit) (ge : Pit → Int) (l : List Tone) (ok : Prop) [Decidable ok] : List Tone × Int :=
  if checkL l ≠ 0 then ([], checkL l) else if ok then (if chErr ge l = 0 then (chL gp l, 0) else ([], 18)) else ([], bad)
theorem topRes_bad {bad : Int} {gp : Pit → Pit} {ge : Pit → Int} {l : List Tone} {ok : Prop} [Decidable ok] (h : checkL l ≠ 0) : topRes bad gp ge l ok = ([], checkL l) := if_pos h
theorem topRes_no {bad : Int} {gp : Pit → Pit} {ge : Pit → Int} {l : List Tone} {ok : Prop} [Decidable ok] (h : checkL l = 0) (hk : ¬ ok) : topRes bad gp ge l ok = ([], bad) := by
  unfold topRes; rw [if_neg (by simpa using h), if_neg hk]
theorem topRes_ok {bad : Int} {gp : Pit → Pit} {ge : Pit → Int} {l : List Tone} {ok : Prop} [Decidable ok] (h : checkL l = 0) (hk : ok) : topRes bad gp ge l ok = if chErr ge l = 0 then (chL gp l, 0) else ([], 18) := by
  unfold topRes; rw [if_neg (by simpa using h), if_pos hk]
theorem ChEnd.res {bad : Int} {gp : Pit → Pit} {ge : Pit → Int} {l : List Tone} {ok : Prop} [Decidable ok] {r : Ending} {w' : World} (h : checkL l = 0) (hk : ok) (he : ChEnd gp ge l r w') :
    ∃ A c, r = .returned (.tuple #[.slice A (topRes bad gp ge l ok).1.length c, .int .i64 (topRes bad gp ge l ok).2]) ∧ SlT w' A (topRes bad gp ge l ok).1 := by
  rw [topRes_ok h hk]
  by_cases h0 : chErr ge l = 0
  · obtain ⟨A, c, h1, h2⟩ := he.1 h0
    rw [if_pos h0]
    exact ⟨A, c, by rw [chL_len]; exact h1, h2⟩
  · rw [if_neg h0]
    exact ⟨none, 0, he.2 h0, .inl rfl⟩
theorem TopEnd.res {bad : Int} {gp : Pit → Pit} {ge : Pit → Int} {l : List Tone} {ok : Prop} [Decidable ok] {r : Ending} {w' : World} (he : TopEnd bad gp ge l ok r w') :
    ∃ A c, r = .returned (.tuple #[.slice A (topRes bad gp ge l ok).1.length c, .int .i64 (topRes bad gp ge l ok).2]) ∧ SlT w' A (topRes bad gp ge l ok).1 := by
  by_cases h : checkL l = 0
  · by_cases hk : ok
    · exact (he.2.2 h hk).res h hk
    · rw [topRes_no h hk]
      exact ⟨none, 0, he.2.1 h hk, .inl rfl⟩
  · rw [topRes_bad h]
    exact ⟨none, 0, he.1 h, .inl rfl⟩
theorem topRes_len (bad : Int) (gp : Pit → Pit) (ge : Pit → Int) (l : List Tone) (ok : Prop) [Decidable ok] : (topRes bad gp ge l ok).1.length ≤ l.length := by
  unfold topRes
  (repeat' split) <;> simp [chL_len]

set_option maxRecDepth 100000 in
set_option maxHeartbeats 16000000 in
theorem lawBad0 (A : Option Addr) (n c : Nat) (l : List Tone) (t m : Int) (ax : Pit) (w : World) (he : Env w) (hn : l.length = min n 70) (hcut : ∀ w, Calls Tryz.prog 4 #[.slice A n c] w fun r w' => r = .returned (.slice A l.length c) ∧ w' = w) (hc : checkL l ≠ 0) (h0 : l.length = 0) (h : SlT w A l) :
    Calls Tryz.prog 3 #[.slice A n c, .agg #[.int .i64 t, .int .i64 m], pitV ax] w fun r w' => r = .returned (.bool true) ∧ Below w.heap.size w w' := by
  have hB : Below w.heap.size w ((w.alloc (.cells #[.int .i64 t, .int .i64 m] 24)).alloc (.cells #[.int .i64 ax.st, .int .i64 ax.al, .int .i64 ax.oc] 26)) := ((Below.refl _ w).alloc (Nat.le_refl _) _).alloc (by simp) _
  have h := h.below hB
  have he := he.below hB
  have hk := known
  have x0 : ((w.alloc (.cells #[.int .i64 t, .int .i64 m] 24)).alloc (.cells #[.int .i64 ax.st, .int .i64 ax.al, .int .i64 ax.oc] 26)).cell? ⟨w.heap.size, 0, none⟩ = some (.int .i64 t) := by simp [go_sem]
  have x1 : ((w.alloc (.cells #[.int .i64 t, .int .i64 m] 24)).alloc (.cells #[.int .i64 ax.st, .int .i64 ax.al, .int .i64 ax.oc] 26)).cell? ⟨w.heap.size, 1, none⟩ = some (.int .i64 m) := by simp [go_sem]
  have y0 : ((w.alloc (.cells #[.int .i64 t, .int .i64 m] 24)).alloc (.cells #[.int .i64 ax.st, .int .i64 ax.al, .int .i64 ax.oc] 26)).cell? ⟨w.heap.size + 1, 0, none⟩ = some (.int .i64 ax.st) := by simp [go_sem]
  have y1 : ((w.alloc (.cells #[.int .i64 t, .int .i64 m] 24)).alloc (.cells #[.int .i64 ax.st, .int .i64 ax.al, .int .i64 ax.oc] 26)).cell? ⟨w.heap.size + 1, 1, none⟩ = some (.int .i64 ax.al) := by simp [go_sem]
  have y2 : ((w.alloc (.cells #[.int .i64 t, .int .i64 m] 24)).alloc (.cells #[.int .i64 ax.st, .int .i64 ax.al, .int .i64 ax.oc] 26)).cell? ⟨w.heap.size + 1, 2, none⟩ = some (.int .i64 ax.oc) := by simp [go_sem]
  have hsz : w.heap.size + 1 < ((w.alloc (.cells #[.int .i64 t, .int .i64 m] 24)).alloc (.cells #[.int .i64 ax.st, .int .i64 ax.al, .int .i64 ax.oc] 26)).heap.size := by simp
  have hsz0 : w.heap.size < ((w.alloc (.cells #[.int .i64 t, .int .i64 m] 24)).alloc (.cells #[.int .i64 ax.st, .int .i64 ax.al, .int .i64 ax.oc] 26)).heap.size := by omega
  have hl : l.length ≤ 1000 := by omega
  have htr : ∀ W, SlT W A l → Calls Tryz.prog 5 #[.slice A l.length c, .agg #[.int .i64 t, .int .i64 m]] W fun r w' => (∃ A' c', r = .returned (.tuple #[.slice A' (topRes 2 (fun p => trP p t m) (fun p => trE p m) l (ivOk t m)).1.length c', .int .i64 (topRes 2 (fun p => trP p t m) (fun p => trE p m) l (ivOk t m)).2]) ∧ SlT w' A' (topRes 2 (fun p => trP p t m) (fun p => trE p m) l (ivOk t m)).1) ∧ Below W.heap.size W w' := fun W hs => (transC A c l t m W hl hs).mono fun _ _ ⟨e, hb⟩ => ⟨e.res, hb⟩
  have hin : ∀ W, SlT W A l → Calls Tryz.prog 6 #[.slice A l.length c, pitV ax] W fun r w' => (∃ A' c', r = .returned (.tuple #[.slice A' (topRes 18 (mirP ax) (mirE ax) l (pitchCheckF ax.st ax.al ax.oc = 0)).1.length c', .int .i64 (topRes 18 (mirP ax) (mirE ax) l (pitchCheckF ax.st ax.al ax.oc = 0)).2]) ∧ SlT w' A' (topRes 18 (mirP ax) (mirE ax) l (pitchCheckF ax.st ax.al ax.oc = 0)).1) ∧ Below W.heap.size W w' := fun W hs => (invC A c l ax W hl hs).mono fun _ _ ⟨e, hb⟩ => ⟨e.res, hb⟩
  have hrv := fun W hs => reverseC A c l W hl hs
  have hrv2 : ∀ A' c' W, SlT W A' l.reverse → Calls Tryz.prog 7 #[.slice A' l.length c'] W fun e w' => (∃ B d, e = .returned (.slice B l.length d) ∧ SlT w' B l) ∧ Below W.heap.size W w' := fun A' c' W hs => by
    have := reverseC A' c' l.reverse W (by simpa using hl) hs
    rw [List.length_reverse, List.reverse_reverse] at this
    exact this
  have hsm := fun B d W hs1 hs2 => sameC B A d c l W hl hs1 hs2
  have hbd := fun W hs => badC A c l W hl hs
  rw [topRes_bad hc] at htr
  rw [topRes_bad hc] at hin
  simp only [List.length_nil] at htr hin
  have dc : (checkL l != 0) = true := by simpa using hc
  have dc2 : (checkL l == 0) = false := by simpa using hc
  clear hc hn hl
  rw [h0] at hcut htr hin hrv hrv2 hsm hbd
  generalize checkL l = ck at *
  go_enter Tryz.func3, Tryz.ntmps3
  go_upto_region 1 with (fail)
  generalize ((w.alloc (.cells #[.int .i64 t, .int .i64 m] 24)).alloc (.cells #[.int .i64 ax.st, .int .i64 ax.al, .int .i64 ax.oc] 26)) = v at *
  go_wp2_with fail
  refine (hcut v).mono ?_
  rintro e w0 ⟨rfl, rfl⟩
  go_wp2_with fail
  refine (htr _ h).mono ?_
  rintro e w1 ⟨⟨A1, c1, rfl, s1⟩, hb1⟩
  have V1 := hb1
  have h := h.below hb1
  have q0 := (V1.cell (p := ⟨w.heap.size + 1, 0, none⟩) hsz).trans y0
  have q1 := (V1.cell (p := ⟨w.heap.size + 1, 1, none⟩) hsz).trans y1
  have q2 := (V1.cell (p := ⟨w.heap.size + 1, 2, none⟩) hsz).trans y2
  go_wp2_with fail
  refine (hin _ h).mono ?_
  rintro e w2 ⟨⟨A2, c2, rfl, s2⟩, hb2⟩
  have V2 := V1.trans (hb2.mono V1.size)
  have h := h.below hb2
  have s1 := s1.below hb2
  go_wp2_with fail
  refine (hrv _ h).mono ?_
  rintro e w3 ⟨⟨A3, c3, rfl, s3⟩, hb3⟩
  have V3 := V2.trans (hb3.mono V2.size)
  have h := h.below hb3
  have s1 := s1.below hb3
  have s2 := s2.below hb3
  have he3 := he.below V3.drew
  have h := h.below ((Below.refl w3.heap.size w3).drew)
  have s1 := s1.below ((Below.refl w3.heap.size w3).drew)
  have s2 := s2.below ((Below.refl w3.heap.size w3).drew)
  have s3 := s3.below ((Below.refl w3.heap.size w3).drew)
  have V3 := V3.drew
  go_wp2_with fail
  refine wp_region_held_drew (S := fun _ => True) (by kernel_rfl) trivial (fun hHeld => ?_)
  refine wpAnyH_ready (rs := [0]) (by kernel_rfl) (by simp) ?_
  refine AllReadyH.cons rfl (fun K hK => ?_) AllReadyH.nil
  go_simp
  refine (hk w3.drew he3).mono ?_
  rintro e w4 ⟨rfl, hb4⟩
  have V4 := V3.trans (hb4.mono V3.size)
  have h4 := h.below hb4
  have s34 := s3.below hb4
  have s14 := s1.below hb4
  have s24 := s2.below hb4
  have V4z := hb4.size
  go_wp2_with fail
  refine hK.out _ _ trivial (fun hHeld => ?_)
  clear hK K
  try simp only [List.getElem_toArray, List.getElem_cons_succ, List.getElem_cons_zero, Act.put, List.setIfInBounds_toArray, List.set_cons_zero, List.set_cons_succ]
  refine wpAnyH_take (i := 1) (v := ?_) rfl (by kernel_rfl) (by kernel_rfl) (by kernel_rfl) (fun _ _ _ h => h) (Or.inl ⟨by kernel_rfl, ?_⟩) (by assumption) ?_
  rotate_left
  · intro w hSw
    go_simp
    try with_reducible rfl
  try simp only [List.getElem_toArray, List.getElem_cons_succ, List.getElem_cons_zero, Act.put, List.setIfInBounds_toArray, List.set_cons_zero, List.set_cons_succ]
  refine wpAnyH_take (i := 2) (v := ?_) rfl (by kernel_rfl) (by kernel_rfl) (by kernel_rfl) (fun _ _ _ h => h) (Or.inl ⟨by kernel_rfl, ?_⟩) (by assumption) ?_
  rotate_left
  · intro w hSw
    go_simp
    try with_reducible rfl
  try simp only [List.getElem_toArray, List.getElem_cons_succ, List.getElem_cons_zero, Act.put, List.setIfInBounds_toArray, List.set_cons_zero, List.set_cons_succ]
  refine wpAnyH_take (i := 3) (v := ?_) rfl (by kernel_rfl) (by kernel_rfl) (by kernel_rfl) (fun _ _ _ h => h) (Or.inl ⟨by kernel_rfl, ?_⟩) (by assumption) ?_
  rotate_left
  · intro w hSw
    go_simp
    try with_reducible rfl
  try simp only [List.getElem_toArray, List.getElem_cons_succ, List.getElem_cons_zero, Act.put, List.setIfInBounds_toArray, List.set_cons_zero, List.set_cons_succ]
  refine wpAnyH_take (i := 5) (v := ?_) rfl (by kernel_rfl) (by kernel_rfl) (by kernel_rfl) (fun _ _ _ h => h) (Or.inl ⟨by kernel_rfl, ?_⟩) (by assumption) ?_
  rotate_left
  · intro w hSw
    go_simp
    try with_reducible rfl
  try simp only [List.getElem_toArray, List.getElem_cons_succ, List.getElem_cons_zero, Act.put, List.setIfInBounds_toArray, List.set_cons_zero, List.set_cons_succ]
  refine wpAnyH_ready (rs := [4]) (by kernel_rfl) (by simp) ?_
  refine AllReadyH.cons rfl (fun K hK => ?_) AllReadyH.nil
  go_simp
  refine (hrv2 A3 c3 w4 s34).mono ?_
  rintro e w5 ⟨⟨A5, c5, rfl, s5⟩, hb5⟩
  have V5 := V4.trans (hb5.mono V4.size)
  have h5 := h4.below hb5
  have s15 := s14.below hb5
  have s25 := s24.below hb5
  have V4z := Nat.le_trans V4z hb5.size
  go_wp2_with fail
  refine hK.out _ _ trivial (fun hHeld => ?_)
  clear hK K
  try simp only [List.getElem_toArray, List.getElem_cons_succ, List.getElem_cons_zero, Act.put, List.setIfInBounds_toArray, List.set_cons_zero, List.set_cons_succ]
  refine wpAnyH_ready (rs := [6]) (by kernel_rfl) (by simp) ?_
  refine AllReadyH.cons rfl (fun K hK => ?_) AllReadyH.nil
  go_simp
  refine (hsm A5 c5 w5 s5 h5).mono ?_
  rintro e w6 ⟨rfl, hb6⟩
  have V6 := V5.trans (hb6.mono V5.size)
  have h6 := h5.below hb6
  have s16 := s15.below hb6
  have s26 := s25.below hb6
  have V4z := Nat.le_trans V4z hb6.size
  go_wp2_with fail
  refine hK.out _ _ trivial (fun hHeld => ?_)
  clear hK K
  try simp only [List.getElem_toArray, List.getElem_cons_succ, List.getElem_cons_zero, Act.put, List.setIfInBounds_toArray, List.set_cons_zero, List.set_cons_succ]
  refine wpAnyH_take (i := 7) (v := ?_) rfl (by kernel_rfl) (by kernel_rfl) (by kernel_rfl) (fun _ _ _ h => h) (Or.inl ⟨by kernel_rfl, ?_⟩) (by assumption) ?_
  rotate_left
  · intro w hSw
    go_simp
    try with_reducible rfl
  try simp only [List.getElem_toArray, List.getElem_cons_succ, List.getElem_cons_zero, Act.put, List.setIfInBounds_toArray, List.set_cons_zero, List.set_cons_succ]
  refine wpAnyH_take (i := 8) (v := ?_) rfl (by kernel_rfl) (by kernel_rfl) (by kernel_rfl) (fun _ _ _ h => h) (Or.inl ⟨by kernel_rfl, ?_⟩) (by assumption) ?_
  rotate_left
  · intro w hSw
    go_simp
    try with_reducible rfl
  try simp only [List.getElem_toArray, List.getElem_cons_succ, List.getElem_cons_zero, Act.put, List.setIfInBounds_toArray, List.set_cons_zero, List.set_cons_succ]
  refine wpAnyH_take (i := 9) (v := ?_) rfl (by kernel_rfl) (by kernel_rfl) (by kernel_rfl) (fun _ _ _ h => h) (Or.inl ⟨by kernel_rfl, ?_⟩) (by assumption) ?_
  rotate_left
  · intro w hSw
    go_simp
    try with_reducible rfl
  try simp only [List.getElem_toArray, List.getElem_cons_succ, List.getElem_cons_zero, Act.put, List.setIfInBounds_toArray, List.set_cons_zero, List.set_cons_succ]
  refine wpAnyH_take (i := 10) (v := ?_) rfl (by kernel_rfl) (by kernel_rfl) (by kernel_rfl) (fun _ _ _ h => h) (Or.inl ⟨by kernel_rfl, ?_⟩) (by assumption) ?_
  rotate_left
  · intro w hSw
    go_simp
    try with_reducible rfl
  try simp only [List.getElem_toArray, List.getElem_cons_succ, List.getElem_cons_zero, Act.put, List.setIfInBounds_toArray, List.set_cons_zero, List.set_cons_succ]
  refine wpAnyH_ready (rs := [11]) (by kernel_rfl) (by simp) ?_
  refine AllReadyH.cons rfl (fun K hK => ?_) AllReadyH.nil
  go_simp
  refine hK.out _ _ trivial (fun hHeld => ?_)
  clear hK K
  try simp only [List.getElem_toArray, List.getElem_cons_succ, List.getElem_cons_zero, Act.put, List.setIfInBounds_toArray, List.set_cons_zero, List.set_cons_succ]
  refine wpAnyH_take (i := 12) (v := ?_) rfl (by kernel_rfl) (by kernel_rfl) (by kernel_rfl) (fun _ _ _ h => h) (Or.inl ⟨by kernel_rfl, ?_⟩) (by assumption) ?_
  rotate_left
  · intro w hSw
    go_simp
    try with_reducible rfl
  try simp only [List.getElem_toArray, List.getElem_cons_succ, List.getElem_cons_zero, Act.put, List.setIfInBounds_toArray, List.set_cons_zero, List.set_cons_succ]
  refine wpAnyH_take (i := 13) (v := ?_) rfl (by kernel_rfl) (by kernel_rfl) (by kernel_rfl) (fun _ _ _ h => h) (Or.inl ⟨by kernel_rfl, ?_⟩) (by assumption) ?_
  rotate_left
  · intro w hSw
    go_simp
    try with_reducible rfl
  try simp only [List.getElem_toArray, List.getElem_cons_succ, List.getElem_cons_zero, Act.put, List.setIfInBounds_toArray, List.set_cons_zero, List.set_cons_succ]
  refine wpAnyH_take (i := 14) (v := undef) rfl (by kernel_rfl) (by kernel_rfl) (by kernel_rfl) (fun _ _ _ h => h) (Or.inr ⟨by kernel_rfl, rfl⟩) (by assumption) ?_
  try simp only [List.getElem_toArray, List.getElem_cons_succ, List.getElem_cons_zero, Act.put, List.setIfInBounds_toArray, List.set_cons_zero, List.set_cons_succ]
  refine wpAnyH_take (i := 15) (v := undef) rfl (by kernel_rfl) (by kernel_rfl) (by kernel_rfl) (fun _ _ _ h => h) (Or.inr ⟨by kernel_rfl, rfl⟩) (by assumption) ?_
  try simp only [List.getElem_toArray, List.getElem_cons_succ, List.getElem_cons_zero, Act.put, List.setIfInBounds_toArray, List.set_cons_zero, List.set_cons_succ]
  refine wpAnyH_take (i := 16) (v := undef) rfl (by kernel_rfl) (by kernel_rfl) (by kernel_rfl) (fun _ _ _ h => h) (Or.inr ⟨by kernel_rfl, rfl⟩) (by assumption) ?_
  try simp only [List.getElem_toArray, List.getElem_cons_succ, List.getElem_cons_zero, Act.put, List.setIfInBounds_toArray, List.set_cons_zero, List.set_cons_succ]
  refine wpAnyH_take (i := 17) (v := undef) rfl (by kernel_rfl) (by kernel_rfl) (by kernel_rfl) (fun _ _ _ h => h) (Or.inr ⟨by kernel_rfl, rfl⟩) (by assumption) ?_
  try simp only [List.getElem_toArray, List.getElem_cons_succ, List.getElem_cons_zero, Act.put, List.setIfInBounds_toArray, List.set_cons_zero, List.set_cons_succ]
  refine wpAnyH_take (i := 18) (v := undef) rfl (by kernel_rfl) (by kernel_rfl) (by kernel_rfl) (fun _ _ _ h => h) (Or.inr ⟨by kernel_rfl, rfl⟩) (by assumption) ?_
  try simp only [List.getElem_toArray, List.getElem_cons_succ, List.getElem_cons_zero, Act.put, List.setIfInBounds_toArray, List.set_cons_zero, List.set_cons_succ]
  refine wpAnyH_take (i := 19) (v := undef) rfl (by kernel_rfl) (by kernel_rfl) (by kernel_rfl) (fun _ _ _ h => h) (Or.inr ⟨by kernel_rfl, rfl⟩) (by assumption) ?_
  try simp only [List.getElem_toArray, List.getElem_cons_succ, List.getElem_cons_zero, Act.put, List.setIfInBounds_toArray, List.set_cons_zero, List.set_cons_succ]
  refine wpAnyH_take (i := 20) (v := undef) rfl (by kernel_rfl) (by kernel_rfl) (by kernel_rfl) (fun _ _ _ h => h) (Or.inr ⟨by kernel_rfl, rfl⟩) (by assumption) ?_
  try simp only [List.getElem_toArray, List.getElem_cons_succ, List.getElem_cons_zero, Act.put, List.setIfInBounds_toArray, List.set_cons_zero, List.set_cons_succ]
  refine wpAnyH_take (i := 21) (v := undef) rfl (by kernel_rfl) (by kernel_rfl) (by kernel_rfl) (fun _ _ _ h => h) (Or.inr ⟨by kernel_rfl, rfl⟩) (by assumption) ?_
  try simp only [List.getElem_toArray, List.getElem_cons_succ, List.getElem_cons_zero, Act.put, List.setIfInBounds_toArray, List.set_cons_zero, List.set_cons_succ]
  refine wpAnyH_take (i := 22) (v := undef) rfl (by kernel_rfl) (by kernel_rfl) (by kernel_rfl) (fun _ _ _ h => h) (Or.inr ⟨by kernel_rfl, rfl⟩) (by assumption) ?_
  try simp only [List.getElem_toArray, List.getElem_cons_succ, List.getElem_cons_zero, Act.put, List.setIfInBounds_toArray, List.set_cons_zero, List.set_cons_succ]
  refine wpAnyH_take (i := 23) (v := undef) rfl (by kernel_rfl) (by kernel_rfl) (by kernel_rfl) (fun _ _ _ h => h) (Or.inr ⟨by kernel_rfl, rfl⟩) (by assumption) ?_
  try simp only [List.getElem_toArray, List.getElem_cons_succ, List.getElem_cons_zero, Act.put, List.setIfInBounds_toArray, List.set_cons_zero, List.set_cons_succ]
  refine wpAnyH_take (i := 24) (v := ?_) rfl (by kernel_rfl) (by kernel_rfl) (by kernel_rfl) (fun _ _ _ h => h) (Or.inl ⟨by kernel_rfl, ?_⟩) (by assumption) ?_
  rotate_left
  · intro w hSw
    go_simp
    try with_reducible rfl
  try simp only [List.getElem_toArray, List.getElem_cons_succ, List.getElem_cons_zero, Act.put, List.setIfInBounds_toArray, List.set_cons_zero, List.set_cons_succ]
  refine wpAnyH_take (i := 25) (v := ?_) rfl (by kernel_rfl) (by kernel_rfl) (by kernel_rfl) (fun _ _ _ h => h) (Or.inl ⟨by kernel_rfl, ?_⟩) (by assumption) ?_
  rotate_left
  · intro w hSw
    go_simp
    try with_reducible rfl
  try simp only [List.getElem_toArray, List.getElem_cons_succ, List.getElem_cons_zero, Act.put, List.setIfInBounds_toArray, List.set_cons_zero, List.set_cons_succ]
  refine wpAnyH_done (by kernel_rfl) ?_ _
  try simp only [List.getElem_toArray, List.getElem_cons_succ, List.getElem_cons_zero, Act.put, List.setIfInBounds_toArray, List.set_cons_zero, List.set_cons_succ]
  clear hHeld hrv hrv2 hsm htr hin hcut hk
  go_wp2_with fail
  refine (hbd w6 h6).mono ?_
  rintro e w7 ⟨rfl, hb7⟩
  have V7 := V6.trans (hb7.mono V6.size)
  go_wp2_with fail
  go_ret
  exact ⟨rfl, hB.trans (V7.mono hB.size)⟩

set_option maxRecDepth 100000 in
set_option maxHeartbeats 16000000 in
theorem lawBad1 (A : Option Addr) (n c : Nat) (l : List Tone) (t m : Int) (ax : Pit) (w : World) (he : Env w) (hn : l.length = min n 70) (hcut : ∀ w, Calls Tryz.prog 4 #[.slice A n c] w fun r w' => r = .returned (.slice A l.length c) ∧ w' = w) (hc : checkL l ≠ 0) (h0 : 0 < l.length) (h : SlT w A l) :
    Calls Tryz.prog 3 #[.slice A n c, .agg #[.int .i64 t, .int .i64 m], pitV ax] w fun r w' => r = .returned (.bool true) ∧ Below w.heap.size w w' := by
  have hB : Below w.heap.size w ((w.alloc (.cells #[.int .i64 t, .int .i64 m] 24)).alloc (.cells #[.int .i64 ax.st, .int .i64 ax.al, .int .i64 ax.oc] 26)) := ((Below.refl _ w).alloc (Nat.le_refl _) _).alloc (by simp) _
  have h := h.below hB
  have he := he.below hB
  have hk := known
  have x0 : ((w.alloc (.cells #[.int .i64 t, .int .i64 m] 24)).alloc (.cells #[.int .i64 ax.st, .int .i64 ax.al, .int .i64 ax.oc] 26)).cell? ⟨w.heap.size, 0, none⟩ = some (.int .i64 t) := by simp [go_sem]
  have x1 : ((w.alloc (.cells #[.int .i64 t, .int .i64 m] 24)).alloc (.cells #[.int .i64 ax.st, .int .i64 ax.al, .int .i64 ax.oc] 26)).cell? ⟨w.heap.size, 1, none⟩ = some (.int .i64 m) := by simp [go_sem]
  have y0 : ((w.alloc (.cells #[.int .i64 t, .int .i64 m] 24)).alloc (.cells #[.int .i64 ax.st, .int .i64 ax.al, .int .i64 ax.oc] 26)).cell? ⟨w.heap.size + 1, 0, none⟩ = some (.int .i64 ax.st) := by simp [go_sem]
  have y1 : ((w.alloc (.cells #[.int .i64 t, .int .i64 m] 24)).alloc (.cells #[.int .i64 ax.st, .int .i64 ax.al, .int .i64 ax.oc] 26)).cell? ⟨w.heap.size + 1, 1, none⟩ = some (.int .i64 ax.al) := by simp [go_sem]
  have y2 : ((w.alloc (.cells #[.int .i64 t, .int .i64 m] 24)).alloc (.cells #[.int .i64 ax.st, .int .i64 ax.al, .int .i64 ax.oc] 26)).cell? ⟨w.heap.size + 1, 2, none⟩ = some (.int .i64 ax.oc) := by simp [go_sem]
  have hsz : w.heap.size + 1 < ((w.alloc (.cells #[.int .i64 t, .int .i64 m] 24)).alloc (.cells #[.int .i64 ax.st, .int .i64 ax.al, .int .i64 ax.oc] 26)).heap.size := by simp
  have hsz0 : w.heap.size < ((w.alloc (.cells #[.int .i64 t, .int .i64 m] 24)).alloc (.cells #[.int .i64 ax.st, .int .i64 ax.al, .int .i64 ax.oc] 26)).heap.size := by omega
  have hl : l.length ≤ 1000 := by omega
  have htr : ∀ W, SlT W A l → Calls Tryz.prog 5 #[.slice A l.length c, .agg #[.int .i64 t, .int .i64 m]] W fun r w' => (∃ A' c', r = .returned (.tuple #[.slice A' (topRes 2 (fun p => trP p t m) (fun p => trE p m) l (ivOk t m)).1.length c', .int .i64 (topRes 2 (fun p => trP p t m) (fun p => trE p m) l (ivOk t m)).2]) ∧ SlT w' A' (topRes 2 (fun p => trP p t m) (fun p => trE p m) l (ivOk t m)).1) ∧ Below W.heap.size W w' := fun W hs => (transC A c l t m W hl hs).mono fun _ _ ⟨e, hb⟩ => ⟨e.res, hb⟩
  have hin : ∀ W, SlT W A l → Calls Tryz.prog 6 #[.slice A l.length c, pitV ax] W fun r w' => (∃ A' c', r = .returned (.tuple #[.slice A' (topRes 18 (mirP ax) (mirE ax) l (pitchCheckF ax.st ax.al ax.oc = 0)).1.length c', .int .i64 (topRes 18 (mirP ax) (mirE ax) l (pitchCheckF ax.st ax.al ax.oc = 0)).2]) ∧ SlT w' A' (topRes 18 (mirP ax) (mirE ax) l (pitchCheckF ax.st ax.al ax.oc = 0)).1) ∧ Below W.heap.size W w' := fun W hs => (invC A c l ax W hl hs).mono fun _ _ ⟨e, hb⟩ => ⟨e.res, hb⟩
  have hrv := fun W hs => reverseC A c l W hl hs
  have hrv2 : ∀ A' c' W, SlT W A' l.reverse → Calls Tryz.prog 7 #[.slice A' l.length c'] W fun e w' => (∃ B d, e = .returned (.slice B l.length d) ∧ SlT w' B l) ∧ Below W.heap.size W w' := fun A' c' W hs => by
    have := reverseC A' c' l.reverse W (by simpa using hl) hs
    rw [List.length_reverse, List.reverse_reverse] at this
    exact this
  have hsm := fun B d W hs1 hs2 => sameC B A d c l W hl hs1 hs2
  have hbd := fun W hs => badC A c l W hl hs
  rw [topRes_bad hc] at htr
  rw [topRes_bad hc] at hin
  simp only [List.length_nil] at htr hin
  have dc : (checkL l != 0) = true := by simpa using hc
  have dc2 : (checkL l == 0) = false := by simpa using hc
  have hlast := fun (W : World) A' (hs : SlT W A' l.reverse) => hs.some (k := 0) (by simpa using h0)
  have hfl : nth l.reverse 0 = nth l (l.length - 1) := by rw [nth_rev h0]; rfl
  have hab := fun (W : World) (hs : SlT W A l) => hs.some (k := 0) h0
  have hi1 : ((l.length : Nat) : Int) - 1 = ((l.length - 1 : Nat) : Int) := by omega
  have hi0 : (0 : Int) < (l.length : Int) := by omega
  have hi2 : l.length - 1 < l.length := by omega
  have hlr : 0 < l.reverse.length := by simpa using h0
  have hlastc := fun (W : World) A' (hs : SlT W A' l.reverse) => show ∃ b off, A' = some ⟨b, off, none⟩ ∧ b < W.heap.size ∧ AtT W b off (nth l (l.length - 1)) from by
    obtain ⟨b, off, e, hb, hr⟩ := hlast W A' hs
    have := hr 0 hlr
    rw [hfl, Nat.zero_mul, Nat.add_zero] at this
    exact ⟨b, off, e, hb, this⟩
  have habc := fun (W : World) (hs : SlT W A l) => show ∃ b off, A = some ⟨b, off, none⟩ ∧ b < W.heap.size ∧ AtT W b (off + (l.length - 1) * 5) (nth l (l.length - 1)) from by
    obtain ⟨b, off, e, hb, hr⟩ := hab W hs
    exact ⟨b, off, e, hb, hr (l.length - 1) hi2⟩
  clear hlast hab hfl hlr hc
  generalize nth l (l.length - 1) = X at *
  generalize hj : l.length - 1 = j at *
  clear hj hn
  generalize l.length = N at *
  have hj4 : IntKind.i64.wrap (j : Int) = (j : Int) := IntWalk.i64_in _ (by omega)
  generalize checkL l = ck at *
  go_enter Tryz.func3, Tryz.ntmps3
  go_upto_region 1 with (fail)
  generalize ((w.alloc (.cells #[.int .i64 t, .int .i64 m] 24)).alloc (.cells #[.int .i64 ax.st, .int .i64 ax.al, .int .i64 ax.oc] 26)) = v at *
  go_wp2_with fail
  refine (hcut v).mono ?_
  rintro e w0 ⟨rfl, rfl⟩
  go_wp2_with fail
  refine (htr _ h).mono ?_
  rintro e w1 ⟨⟨A1, c1, rfl, s1⟩, hb1⟩
  have V1 := hb1
  have h := h.below hb1
  have q0 := (V1.cell (p := ⟨w.heap.size + 1, 0, none⟩) hsz).trans y0
  have q1 := (V1.cell (p := ⟨w.heap.size + 1, 1, none⟩) hsz).trans y1
  have q2 := (V1.cell (p := ⟨w.heap.size + 1, 2, none⟩) hsz).trans y2
  go_wp2_with fail
  refine (hin _ h).mono ?_
  rintro e w2 ⟨⟨A2, c2, rfl, s2⟩, hb2⟩
  have V2 := V1.trans (hb2.mono V1.size)
  have h := h.below hb2
  have s1 := s1.below hb2
  go_wp2_with fail
  refine (hrv _ h).mono ?_
  rintro e w3 ⟨⟨A3, c3, rfl, s3⟩, hb3⟩
  have V3 := V2.trans (hb3.mono V2.size)
  have h := h.below hb3
  have s1 := s1.below hb3
  have s2 := s2.below hb3
  have he3 := he.below V3.drew
  have h := h.below ((Below.refl w3.heap.size w3).drew)
  have s1 := s1.below ((Below.refl w3.heap.size w3).drew)
  have s2 := s2.below ((Below.refl w3.heap.size w3).drew)
  have s3 := s3.below ((Below.refl w3.heap.size w3).drew)
  have V3 := V3.drew
  obtain ⟨b3, o3, rfl, hb3l, g3⟩ := hlastc w3.drew A3 s3
  obtain ⟨ba, oa, rfl, hbal, gl⟩ := habc w3.drew h
  have KS : AtT w3.drew b3 o3 X ∧ AtT w3.drew ba (oa + j * 5) X := ⟨g3, gl⟩
  clear g3 gl hlastc habc
  go_wp2_with fail
  refine wp_region_held_drew (S := fun w' => AtT w' b3 o3 X ∧ AtT w' ba (oa + j * 5) X) (by kernel_rfl) KS (fun hHeld => ?_)
  refine wpAnyH_ready (rs := [0]) (by kernel_rfl) (by simp) ?_
  refine AllReadyH.cons rfl (fun K hK => ?_) AllReadyH.nil
  go_simp
  refine (hk w3.drew he3).mono ?_
  rintro e w4 ⟨rfl, hb4⟩
  have V4 := V3.trans (hb4.mono V3.size)
  have h4 := h.below hb4
  have s34 := s3.below hb4
  have s14 := s1.below hb4
  have s24 := s2.below hb4
  have V4z := hb4.size
  go_wp2_with fail
  refine hK.out _ _ ⟨hHeld.1.below hb4 (by have := V4z; omega), hHeld.2.below hb4 (by have := V4z; omega)⟩ (fun hHeld => ?_)
  clear hK K
  try simp only [List.getElem_toArray, List.getElem_cons_succ, List.getElem_cons_zero, Act.put, List.setIfInBounds_toArray, List.set_cons_zero, List.set_cons_succ]
  refine wpAnyH_take (i := 1) (v := ?_) rfl (by kernel_rfl) (by kernel_rfl) (by kernel_rfl) (fun _ _ _ h => h) (Or.inl ⟨by kernel_rfl, ?_⟩) (by assumption) ?_
  rotate_left
  · intro w hSw
    obtain ⟨⟨m0, m1, m2, m3, m4⟩, ⟨n0, n1, n2, n3, n4⟩⟩ := hSw
    go_simp
    try with_reducible rfl
  try simp only [List.getElem_toArray, List.getElem_cons_succ, List.getElem_cons_zero, Act.put, List.setIfInBounds_toArray, List.set_cons_zero, List.set_cons_succ]
  refine wpAnyH_take (i := 2) (v := ?_) rfl (by kernel_rfl) (by kernel_rfl) (by kernel_rfl) (fun _ _ _ h => h) (Or.inl ⟨by kernel_rfl, ?_⟩) (by assumption) ?_
  rotate_left
  · intro w hSw
    obtain ⟨⟨m0, m1, m2, m3, m4⟩, ⟨n0, n1, n2, n3, n4⟩⟩ := hSw
    go_simp
    try with_reducible rfl
  try simp only [List.getElem_toArray, List.getElem_cons_succ, List.getElem_cons_zero, Act.put, List.setIfInBounds_toArray, List.set_cons_zero, List.set_cons_succ]
  refine wpAnyH_take (i := 3) (v := ?_) rfl (by kernel_rfl) (by kernel_rfl) (by kernel_rfl) (fun _ _ _ h => h) (Or.inl ⟨by kernel_rfl, ?_⟩) (by assumption) ?_
  rotate_left
  · intro w hSw
    obtain ⟨⟨m0, m1, m2, m3, m4⟩, ⟨n0, n1, n2, n3, n4⟩⟩ := hSw
    go_simp
    try with_reducible rfl
  try simp only [List.getElem_toArray, List.getElem_cons_succ, List.getElem_cons_zero, Act.put, List.setIfInBounds_toArray, List.set_cons_zero, List.set_cons_succ]
  refine wpAnyH_take (i := 5) (v := ?_) rfl (by kernel_rfl) (by kernel_rfl) (by kernel_rfl) (fun _ _ _ h => h) (Or.inl ⟨by kernel_rfl, ?_⟩) (by assumption) ?_
  rotate_left
  · intro w hSw
    obtain ⟨⟨m0, m1, m2, m3, m4⟩, ⟨n0, n1, n2, n3, n4⟩⟩ := hSw
    go_simp
    try with_reducible rfl
  try simp only [List.getElem_toArray, List.getElem_cons_succ, List.getElem_cons_zero, Act.put, List.setIfInBounds_toArray, List.set_cons_zero, List.set_cons_succ]
  refine wpAnyH_ready (rs := [4]) (by kernel_rfl) (by simp) ?_
  refine AllReadyH.cons rfl (fun K hK => ?_) AllReadyH.nil
  go_simp
  refine (hrv2 _ c3 w4 s34).mono ?_
  rintro e w5 ⟨⟨A5, c5, rfl, s5⟩, hb5⟩
  have V5 := V4.trans (hb5.mono V4.size)
  have h5 := h4.below hb5
  have s15 := s14.below hb5
  have s25 := s24.below hb5
  have V4z := Nat.le_trans V4z hb5.size
  go_wp2_with fail
  refine hK.out _ _ ⟨hHeld.1.below hb5 (by have := V4z; omega), hHeld.2.below hb5 (by have := V4z; omega)⟩ (fun hHeld => ?_)
  clear hK K
  try simp only [List.getElem_toArray, List.getElem_cons_succ, List.getElem_cons_zero, Act.put, List.setIfInBounds_toArray, List.set_cons_zero, List.set_cons_succ]
  refine wpAnyH_ready (rs := [6]) (by kernel_rfl) (by simp) ?_
  refine AllReadyH.cons rfl (fun K hK => ?_) AllReadyH.nil
  go_simp
  refine (hsm A5 c5 w5 s5 h5).mono ?_
  rintro e w6 ⟨rfl, hb6⟩
  have V6 := V5.trans (hb6.mono V5.size)
  have h6 := h5.below hb6
  have s16 := s15.below hb6
  have s26 := s25.below hb6
  have V4z := Nat.le_trans V4z hb6.size
  go_wp2_with fail
  refine hK.out _ _ ⟨hHeld.1.below hb6 (by have := V4z; omega), hHeld.2.below hb6 (by have := V4z; omega)⟩ (fun hHeld => ?_)
  clear hK K
  try simp only [List.getElem_toArray, List.getElem_cons_succ, List.getElem_cons_zero, Act.put, List.setIfInBounds_toArray, List.set_cons_zero, List.set_cons_succ]
  refine wpAnyH_take (i := 7) (v := ?_) rfl (by kernel_rfl) (by kernel_rfl) (by kernel_rfl) (fun _ _ _ h => h) (Or.inl ⟨by kernel_rfl, ?_⟩) (by assumption) ?_
  rotate_left
  · intro w hSw
    obtain ⟨⟨m0, m1, m2, m3, m4⟩, ⟨n0, n1, n2, n3, n4⟩⟩ := hSw
    go_simp
    try with_reducible rfl
  try simp only [List.getElem_toArray, List.getElem_cons_succ, List.getElem_cons_zero, Act.put, List.setIfInBounds_toArray, List.set_cons_zero, List.set_cons_succ]
  refine wpAnyH_take (i := 8) (v := ?_) rfl (by kernel_rfl) (by kernel_rfl) (by kernel_rfl) (fun _ _ _ h => h) (Or.inl ⟨by kernel_rfl, ?_⟩) (by assumption) ?_
  rotate_left
  · intro w hSw
    obtain ⟨⟨m0, m1, m2, m3, m4⟩, ⟨n0, n1, n2, n3, n4⟩⟩ := hSw
    go_simp
    try with_reducible rfl
  try simp only [List.getElem_toArray, List.getElem_cons_succ, List.getElem_cons_zero, Act.put, List.setIfInBounds_toArray, List.set_cons_zero, List.set_cons_succ]
  refine wpAnyH_take (i := 9) (v := ?_) rfl (by kernel_rfl) (by kernel_rfl) (by kernel_rfl) (fun _ _ _ h => h) (Or.inl ⟨by kernel_rfl, ?_⟩) (by assumption) ?_
  rotate_left
  · intro w hSw
    obtain ⟨⟨m0, m1, m2, m3, m4⟩, ⟨n0, n1, n2, n3, n4⟩⟩ := hSw
    go_simp
    try with_reducible rfl
  try simp only [List.getElem_toArray, List.getElem_cons_succ, List.getElem_cons_zero, Act.put, List.setIfInBounds_toArray, List.set_cons_zero, List.set_cons_succ]
  refine wpAnyH_take (i := 10) (v := ?_) rfl (by kernel_rfl) (by kernel_rfl) (by kernel_rfl) (fun _ _ _ h => h) (Or.inl ⟨by kernel_rfl, ?_⟩) (by assumption) ?_
  rotate_left
  · intro w hSw
    obtain ⟨⟨m0, m1, m2, m3, m4⟩, ⟨n0, n1, n2, n3, n4⟩⟩ := hSw
    go_simp
    try with_reducible rfl
  try simp only [List.getElem_toArray, List.getElem_cons_succ, List.getElem_cons_zero, Act.put, List.setIfInBounds_toArray, List.set_cons_zero, List.set_cons_succ]
  refine wpAnyH_ready (rs := [11]) (by kernel_rfl) (by simp) ?_
  refine AllReadyH.cons rfl (fun K hK => ?_) AllReadyH.nil
  go_simp
  refine hK.out _ _ (by assumption) (fun hHeld => ?_)
  clear hK K
  try simp only [List.getElem_toArray, List.getElem_cons_succ, List.getElem_cons_zero, Act.put, List.setIfInBounds_toArray, List.set_cons_zero, List.set_cons_succ]
  refine wpAnyH_take (i := 12) (v := ?_) rfl (by kernel_rfl) (by kernel_rfl) (by kernel_rfl) (fun _ _ _ h => h) (Or.inl ⟨by kernel_rfl, ?_⟩) (by assumption) ?_
  rotate_left
  · intro w hSw
    obtain ⟨⟨m0, m1, m2, m3, m4⟩, ⟨n0, n1, n2, n3, n4⟩⟩ := hSw
    go_simp
    try with_reducible rfl
  try simp only [List.getElem_toArray, List.getElem_cons_succ, List.getElem_cons_zero, Act.put, List.setIfInBounds_toArray, List.set_cons_zero, List.set_cons_succ]
  refine wpAnyH_take (i := 13) (v := ?_) rfl (by kernel_rfl) (by kernel_rfl) (by kernel_rfl) (fun _ _ _ h => h) (Or.inl ⟨by kernel_rfl, ?_⟩) (by assumption) ?_
  rotate_left
  · intro w hSw
    obtain ⟨⟨m0, m1, m2, m3, m4⟩, ⟨n0, n1, n2, n3, n4⟩⟩ := hSw
    go_simp
    try with_reducible rfl
  try simp only [List.getElem_toArray, List.getElem_cons_succ, List.getElem_cons_zero, Act.put, List.setIfInBounds_toArray, List.set_cons_zero, List.set_cons_succ]
  refine wpAnyH_take (i := 14) (v := ?_) rfl (by kernel_rfl) (by kernel_rfl) (by kernel_rfl) (fun _ _ _ h => h) (Or.inl ⟨by kernel_rfl, ?_⟩) (by assumption) ?_
  rotate_left
  · intro w hSw
    obtain ⟨⟨m0, m1, m2, m3, m4⟩, ⟨n0, n1, n2, n3, n4⟩⟩ := hSw
    go_simp
    try with_reducible rfl
  try simp only [List.getElem_toArray, List.getElem_cons_succ, List.getElem_cons_zero, Act.put, List.setIfInBounds_toArray, List.set_cons_zero, List.set_cons_succ]
  refine wpAnyH_take (i := 15) (v := ?_) rfl (by kernel_rfl) (by kernel_rfl) (by kernel_rfl) (fun _ _ _ h => h) (Or.inl ⟨by kernel_rfl, ?_⟩) (by assumption) ?_
  rotate_left
  · intro w hSw
    obtain ⟨⟨m0, m1, m2, m3, m4⟩, ⟨n0, n1, n2, n3, n4⟩⟩ := hSw
    go_simp
    try with_reducible rfl
  try simp only [List.getElem_toArray, List.getElem_cons_succ, List.getElem_cons_zero, Act.put, List.setIfInBounds_toArray, List.set_cons_zero, List.set_cons_succ]
  refine wpAnyH_take (i := 16) (v := ?_) rfl (by kernel_rfl) (by kernel_rfl) (by kernel_rfl) (fun _ _ _ h => h) (Or.inl ⟨by kernel_rfl, ?_⟩) (by assumption) ?_
  rotate_left
  · intro w hSw
    obtain ⟨⟨m0, m1, m2, m3, m4⟩, ⟨n0, n1, n2, n3, n4⟩⟩ := hSw
    go_simp
    try with_reducible rfl
  try simp only [List.getElem_toArray, List.getElem_cons_succ, List.getElem_cons_zero, Act.put, List.setIfInBounds_toArray, List.set_cons_zero, List.set_cons_succ]
  refine wpAnyH_take (i := 17) (v := ?_) rfl (by kernel_rfl) (by kernel_rfl) (by kernel_rfl) (fun _ _ _ h => h) (Or.inl ⟨by kernel_rfl, ?_⟩) (by assumption) ?_
  rotate_left
  · intro w hSw
    obtain ⟨⟨m0, m1, m2, m3, m4⟩, ⟨n0, n1, n2, n3, n4⟩⟩ := hSw
    go_simp
    try with_reducible rfl
  try simp only [List.getElem_toArray, List.getElem_cons_succ, List.getElem_cons_zero, Act.put, List.setIfInBounds_toArray, List.set_cons_zero, List.set_cons_succ]
  refine wpAnyH_take (i := 18) (v := ?_) rfl (by kernel_rfl) (by kernel_rfl) (by kernel_rfl) (fun _ _ _ h => h) (Or.inl ⟨by kernel_rfl, ?_⟩) (by assumption) ?_
  rotate_left
  · intro w hSw
    obtain ⟨⟨m0, m1, m2, m3, m4⟩, ⟨n0, n1, n2, n3, n4⟩⟩ := hSw
    go_simp
    try with_reducible rfl
  try simp only [List.getElem_toArray, List.getElem_cons_succ, List.getElem_cons_zero, Act.put, List.setIfInBounds_toArray, List.set_cons_zero, List.set_cons_succ]
  refine wpAnyH_ready (rs := [19]) (by kernel_rfl) (by simp) ?_
  refine AllReadyH.cons rfl (fun K hK => ?_) AllReadyH.nil
  go_simp
  refine hK.out _ _ (by assumption) (fun hHeld => ?_)
  clear hK K
  try simp only [List.getElem_toArray, List.getElem_cons_succ, List.getElem_cons_zero, Act.put, List.setIfInBounds_toArray, List.set_cons_zero, List.set_cons_succ]
  refine wpAnyH_take (i := 20) (v := ?_) rfl (by kernel_rfl) (by kernel_rfl) (by kernel_rfl) (fun _ _ _ h => h) (Or.inl ⟨by kernel_rfl, ?_⟩) (by assumption) ?_
  rotate_left
  · intro w hSw
    obtain ⟨⟨m0, m1, m2, m3, m4⟩, ⟨n0, n1, n2, n3, n4⟩⟩ := hSw
    go_simp
    try with_reducible rfl
  try simp only [List.getElem_toArray, List.getElem_cons_succ, List.getElem_cons_zero, Act.put, List.setIfInBounds_toArray, List.set_cons_zero, List.set_cons_succ]
  refine wpAnyH_take (i := 21) (v := ?_) rfl (by kernel_rfl) (by kernel_rfl) (by kernel_rfl) (fun _ _ _ h => h) (Or.inl ⟨by kernel_rfl, ?_⟩) (by assumption) ?_
  rotate_left
  · intro w hSw
    obtain ⟨⟨m0, m1, m2, m3, m4⟩, ⟨n0, n1, n2, n3, n4⟩⟩ := hSw
    go_simp
    try with_reducible rfl
  try simp only [List.getElem_toArray, List.getElem_cons_succ, List.getElem_cons_zero, Act.put, List.setIfInBounds_toArray, List.set_cons_zero, List.set_cons_succ]
  refine wpAnyH_take (i := 22) (v := ?_) rfl (by kernel_rfl) (by kernel_rfl) (by kernel_rfl) (fun _ _ _ h => h) (Or.inl ⟨by kernel_rfl, ?_⟩) (by assumption) ?_
  rotate_left
  · intro w hSw
    obtain ⟨⟨m0, m1, m2, m3, m4⟩, ⟨n0, n1, n2, n3, n4⟩⟩ := hSw
    go_simp
    try with_reducible rfl
  try simp only [List.getElem_toArray, List.getElem_cons_succ, List.getElem_cons_zero, Act.put, List.setIfInBounds_toArray, List.set_cons_zero, List.set_cons_succ]
  refine wpAnyH_take (i := 23) (v := ?_) rfl (by kernel_rfl) (by kernel_rfl) (by kernel_rfl) (fun _ _ _ h => h) (Or.inl ⟨by kernel_rfl, ?_⟩) (by assumption) ?_
  rotate_left
  · intro w hSw
    obtain ⟨⟨m0, m1, m2, m3, m4⟩, ⟨n0, n1, n2, n3, n4⟩⟩ := hSw
    go_simp
    try with_reducible rfl
  try simp only [List.getElem_toArray, List.getElem_cons_succ, List.getElem_cons_zero, Act.put, List.setIfInBounds_toArray, List.set_cons_zero, List.set_cons_succ]
  refine wpAnyH_take (i := 24) (v := ?_) rfl (by kernel_rfl) (by kernel_rfl) (by kernel_rfl) (fun _ _ _ h => h) (Or.inl ⟨by kernel_rfl, ?_⟩) (by assumption) ?_
  rotate_left
  · intro w hSw
    obtain ⟨⟨m0, m1, m2, m3, m4⟩, ⟨n0, n1, n2, n3, n4⟩⟩ := hSw
    go_simp
    try with_reducible rfl
  try simp only [List.getElem_toArray, List.getElem_cons_succ, List.getElem_cons_zero, Act.put, List.setIfInBounds_toArray, List.set_cons_zero, List.set_cons_succ]
  refine wpAnyH_take (i := 25) (v := ?_) rfl (by kernel_rfl) (by kernel_rfl) (by kernel_rfl) (fun _ _ _ h => h) (Or.inl ⟨by kernel_rfl, ?_⟩) (by assumption) ?_
  rotate_left
  · intro w hSw
    obtain ⟨⟨m0, m1, m2, m3, m4⟩, ⟨n0, n1, n2, n3, n4⟩⟩ := hSw
    go_simp
    try with_reducible rfl
  try simp only [List.getElem_toArray, List.getElem_cons_succ, List.getElem_cons_zero, Act.put, List.setIfInBounds_toArray, List.set_cons_zero, List.set_cons_succ]
  refine wpAnyH_done (by kernel_rfl) ?_ _
  try simp only [List.getElem_toArray, List.getElem_cons_succ, List.getElem_cons_zero, Act.put, List.setIfInBounds_toArray, List.set_cons_zero, List.set_cons_succ]
  clear hHeld hrv hrv2 hsm htr hin hcut hk
  go_wp2_with fail
  refine (hbd w6 h6).mono ?_
  rintro e w7 ⟨rfl, hb7⟩
  have V7 := V6.trans (hb7.mono V6.size)
  go_wp2_with fail
  go_ret
  exact ⟨rfl, hB.trans (V7.mono hB.size)⟩
end Go.Proofs.YteoghladllohjaaGreatDoor

