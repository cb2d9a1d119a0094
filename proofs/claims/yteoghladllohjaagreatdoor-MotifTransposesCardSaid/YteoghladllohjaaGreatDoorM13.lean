/- Text, known. -/
import Derived.Test.YteoghladllohjaaGreatDoorM12
namespace Go.Proofs.YteoghladllohjaaGreatDoor
open Go.RowKit Go.Sort

theorem textGood (A : Option Addr) (c : Nat) (l : List Tone) (w : World) (he : Env w) (hc : checkL l = 0) (h : SlT w A l) :
    Calls Tryz.prog 24 #[.slice A l.length c] w fun r w' => r = .returned (.tuple #[.string (bs (textF l)), .int .i64 0]) ∧ Below w.heap.size w w' := by
  obtain ⟨l1, l2, l3⟩ := checkL_zero hc
  have hck := checkC A c l w (by omega) h
  rw [hc] at hck
  have htx := fun W hb => textP A c l W (he.below hb) l1 l2 l3 (h.below hb)
  clear hc
  go_enter Tryz.func24, Tryz.ntmps24
  go_wp2_with fail
  refine hck.mono ?_
  rintro e w1 ⟨rfl, hb1⟩
  go_wp2_with fail
  refine (htx w1 hb1).mono ?_
  rintro e w2 ⟨rfl, hb2⟩
  go_wp2_with fail
  go_ret2
  exact ⟨rfl, hb1.trans (hb2.mono hb1.size)⟩
theorem textBad (A : Option Addr) (c : Nat) (l : List Tone) (w : World) (hl : l.length ≤ 1000) (hc : checkL l ≠ 0) (h : SlT w A l) :
    Calls Tryz.prog 24 #[.slice A l.length c] w fun r w' => r = .returned (.tuple #[.string ⟨#[]⟩, .int .i64 (checkL l)]) ∧ Below w.heap.size w w' := by
  have hck := checkC A c l w hl h
  have dc : (checkL l != 0) = true := by simpa using hc
  clear hc
  generalize checkL l = ck at *
  go_enter Tryz.func24, Tryz.ntmps24
  go_wp2_with fail
  refine hck.mono ?_
  rintro e w1 ⟨rfl, hb1⟩
  go_wp2_with fail
  go_ret2
  exact ⟨rfl, hb1⟩

theorem textF_inj {a b : List Tone} (ha : checkL a = 0) (hb : checkL b = 0) (h : textF a = textF b) : a = b := by
  obtain ⟨a1, _, a3⟩ := checkL_zero ha
  obtain ⟨b1, _, b3⟩ := checkL_zero hb
  have hna : a ≠ [] := by intro e; rw [e] at a1; simp at a1
  have hnb : b ≠ [] := by intro e; rw [e] at b1; simp at b1
  have hs := parts_text hna
  rw [h, parts_text hnb] at hs
  have hp := congrArg (List.map parseT) hs
  rw [List.map_map, List.map_map] at hp
  have e1 : b.map (parseT ∘ toneText) = b.map some := List.map_congr_left fun t ht => parseT_own (b3 t ht)
  have e2 : a.map (parseT ∘ toneText) = a.map some := List.map_congr_left fun t ht => parseT_own (a3 t ht)
  rw [e1, e2] at hp
  exact ((List.map_inj_right (fun _ _ h => Option.some.inj h)).1 hp).symm
theorem textF_len {l : List Tone} (hc : checkL l = 0) : (textF l).length ≤ 5000 := by
  obtain ⟨_, l2, l3⟩ := checkL_zero hc
  have := textK_len l3 l.length (Nat.le_refl _)
  rw [textK_all] at this
  omega
theorem parseGood (l : List Tone) (w : World) (he : Env w) (hc : checkL l = 0) :
    Calls Tryz.prog 25 #[.string (bs (textF l))] w fun e w' => (∃ A c, e = .returned (.tuple #[.slice A l.length c, .int .i64 0]) ∧ SlT w' A l) ∧ Below w.heap.size w w' :=
  (parseT_C (textF l) (textF_len hc) w he).mono fun e w' ⟨h, hb⟩ => ⟨by
    rcases h with ⟨A, c, L, rfl, hsl, h1, h2⟩ | ⟨_, h⟩
    · obtain rfl := textF_inj h1 hc h2
      exact ⟨A, c, rfl, hsl⟩
    · exact absurd rfl (h l hc), hb⟩

def l0 : List Tone := [⟨483840, ⟨0, 0, 4⟩, false⟩, ⟨241920, pit0, true⟩]
theorem l0_text : textF l0 = [67, 52, 58, 52, 56, 51, 56, 52, 48, 32, 114, 58, 50, 52, 49, 57, 50, 48] := by kernel_rfl
theorem l0_ok : checkL l0 = 0 := by decide
theorem SlT.of_row {w : World} {b : Nat} {l : List Tone} {t : TypeId} {fz : Nat × Nat} (h : w.heap[b]? = Option.some (.cells (cellsT l).toArray t fz)) : SlT w (Option.some ⟨b, 0, none⟩) l := by
  refine SlT.intro (Array.getElem?_eq_some_iff.1 h).1 fun k hk => ?_
  have hc : ∀ j, w.cell? ⟨b, 0 + k * 5 + j, none⟩ = (cellsT l)[k * 5 + j]? := fun j => by
    rw [cell_of_row w b _ _ t fz h, Nat.zero_add]; simp
  have hg := fun j (hj : j < 5) => cellsT_get l k j hk hj
  exact ⟨by rw [show 0 + k * 5 = 0 + k * 5 + 0 by omega, hc, hg 0 (by omega)]; rfl, by rw [hc, hg 1 (by omega)]; rfl, by rw [hc, hg 2 (by omega)]; rfl, by rw [hc, hg 3 (by omega)]; rfl, by rw [hc, hg 4 (by omega)]; rfl⟩

set_option maxHeartbeats 2000000 in
theorem known (w : World) (he : Env w) : Calls Tryz.prog 8 #[] w fun r w' => r = .returned (.bool true) ∧ Below w.heap.size w w' := by
  have ht := fun A c W he h => textGood A c l0 W he l0_ok h
  have hp := fun W he => parseGood l0 W he l0_ok
  rw [l0_text] at ht hp
  have hs := fun A B c d W h1 h2 => sameC A B c d l0 W (by decide) h1 h2
  have hB : Below w.heap.size w (w.alloc (.cells (cellsT l0).toArray 35)) := (Below.refl _ w).alloc (Nat.le_refl _) _
  have hsl : SlT (w.alloc (.cells (cellsT l0).toArray 35)) (some ⟨w.heap.size, 0, none⟩) l0 := SlT.of_row (heap_alloc_new w _)
  change Below w.heap.size w (w.alloc (.cells #[.int .i64 483840, .int .i64 0, .int .i64 0, .int .i64 4, .bool false, .int .i64 241920, .int .i64 0, .int .i64 0, .int .i64 0, .bool true] 35)) at hB
  change SlT (w.alloc (.cells #[.int .i64 483840, .int .i64 0, .int .i64 0, .int .i64 4, .bool false, .int .i64 241920, .int .i64 0, .int .i64 0, .int .i64 0, .bool true] 35)) (some ⟨w.heap.size, 0, none⟩) l0 at hsl
  change ∀ (A : Option Addr) (c : Nat) (W : World), Env W → SlT W A l0 → Calls Tryz.prog 24 #[.slice A 2 c] W _ at ht
  change ∀ (W : World), Env W → Calls Tryz.prog 25 _ W (fun e w' => (∃ A c, e = .returned (.tuple #[.slice A 2 c, .int .i64 0]) ∧ SlT w' A l0) ∧ Below W.heap.size W w') at hp
  change ∀ (A B : Option Addr) (c d : Nat) (W : World), SlT W A l0 → SlT W B l0 → Calls Tryz.prog 9 #[.slice A 2 c, .slice B 2 d] W _ at hs
  go_enter Tryz.func8, Tryz.ntmps8
  go_upto_region 2 with (fail)
  generalize w.alloc (.cells #[.int .i64 483840, .int .i64 0, .int .i64 0, .int .i64 4, .bool false, .int .i64 241920, .int .i64 0, .int .i64 0, .int .i64 0, .bool true] 35) = v at *
  have hev := he.below hB
  go_wp2_with fail
  refine (ht _ _ _ hev hsl).mono ?_
  rintro e w1 ⟨rfl, hb1⟩
  have hsl := hsl.below hb1
  have he1 := hev.below hb1
  have hB := hB.trans (hb1.mono hB.size)
  go_wp2_with fail
  refine (hp w1 he1).mono ?_
  rintro e w2 ⟨⟨A2, c2, rfl, hm⟩, hb2⟩
  have hsl := hsl.below hb2
  have hB := hB.trans (hb2.mono hB.size)
  go_wp2_with fail
  refine (hs _ _ _ _ w2 hm hsl).mono ?_
  rintro e w3 ⟨rfl, hb3⟩
  go_wp2_with fail
  go_ret
  exact ⟨rfl, hB.trans (hb3.mono hB.size)⟩
end Go.Proofs.YteoghladllohjaaGreatDoor
