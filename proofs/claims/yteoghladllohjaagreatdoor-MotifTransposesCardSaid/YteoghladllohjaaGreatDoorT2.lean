/- pitch.Enharmonics. -/
import Derived.Test.YteoghladllohjaaGreatDoorT1
namespace Go.Proofs.YteoghladllohjaaGreatDoor
open Go.RowKit Go.Shelf Go.Sort

theorem enhBad (n : Int) (w : World) (h : n < 0 ∨ 127 < n) : Calls Tryz.prog 39 #[.int .i64 n] w fun e w' => e = .returned (.tuple #[.slice none 0 0, .int .i64 2]) ∧ Below w.heap.size w w' := by
  have h : n < 0 ∨ (0 ≤ n ∧ 127 < n) := by omega
  rcases h with h | ⟨h, h2⟩
  all_goals
    go_enter Tryz.func39, Tryz.ntmps39
    go_wp2_with fail
    go_ret2
    exact ⟨rfl, Below.refl _ _⟩

theorem enhOne_on {num alt : Int} {k : Nat} (h1 : semiF k = (num - alt) % 12) (h2 : pitchCheckF k alt ((num - alt) / 12 - 1) = 0) : enhOne num alt k = [⟨k, alt, (num - alt) / 12 - 1⟩] := by unfold enhOne; rw [if_pos ⟨h1, h2⟩]
theorem enhOne_off {num alt : Int} {k : Nat} (h : ¬ (semiF k = (num - alt) % 12 ∧ pitchCheckF k alt ((num - alt) / 12 - 1) = 0)) : enhOne num alt k = [] := by unfold enhOne; rw [if_neg h]
/-- How Enharmonics ends. -/
def EnhR (n : Int) (base : Nat) (r : Ending) (w' : World) : Prop := ∃ v, r = .returned (.tuple #[v, .int .i64 0]) ∧ w'.ownsRow base 26 3 v (enhL n).length (cellsP (enhL n))
abbrev OwnP (w : World) (base : Nat) (v : Value) (l : List Pit) : Prop := w.ownsRow base 26 3 v l.length (cellsP l)

set_option maxRecDepth 100000 in
set_option maxHeartbeats 8000000 in
theorem enhC (n : Int) (w : World) (h1 : 0 ≤ n) (h2 : n ≤ 127) : Calls Tryz.prog 39 #[.int .i64 n] w fun e w' => EnhR n w.heap.size e w' ∧ Below w.heap.size w w' := by
  have i26 := info_parts info26
  obtain ⟨i0, hi, hi0, hi1, hi2⟩ := i26
  have hiH := Lib.hid hi
  clear hi
  go_enter Tryz.func39, Tryz.ntmps39
  go_wp2_with fail
  go_loopw [4, 5] (fun v i wr => ∃ j : Nat, j ≤ 5 ∧ i = .int .i64 (2 - (j : Int)) ∧ OwnP wr w.heap.size v (enhOut n j) ∧ Below w.heap.size w wr) (fun _ i _ => (intOf i + 3).toNat)
  case atStart => exact ⟨0, by omega, rfl, World.ownsRow_nil _ _ _ _, Below.refl _ _⟩
  case round =>
    obtain ⟨j, hj, rfl, hown, hB⟩ := hrel
    have hz := hB.size
    by_cases hlt : j < 5
    · have hol := enhOut_len n j
      have hfl := floorC (n - (2 - (j : Int))) wr (by omega) (by omega)
      have hsucc : enhOut n (j + 1) = enhOut n j ++ enhIn n (2 - (j : Int)) 7 := rfl
      have hsucc := Lib.hid hsucc
      generalize halt : 2 - (j : Int) = alt at *
      go_wp2_with fail
      refine hfl.mono ?_
      rintro e w1 ⟨rfl, hb1⟩
      have hown1 := OwnRow.below hown hb1
      have B1 := hB.trans (hb1.mono hz)
      go_wp2_with fail
      refine (semitonesC w1).mono ?_
      rintro e w2 ⟨rfl, hb2⟩
      have hown2 := OwnRow.below hown1 hb2
      have B2 := B1.trans (hb2.mono B1.size)
      clear hown hown1 hb1 hb2 hfl hB hz
      have hil := fun k => enhIn_len n alt k
      have hst : ∀ k, enhOut n j ++ enhIn n alt (k + 1) = (enhOut n j ++ enhIn n alt k) ++ enhOne n alt k := fun k => by rw [List.append_assoc]; rfl
      have hat : -2 ≤ alt ∧ alt ≤ 2 := by omega
      obtain ⟨ha1, ha2⟩ := hat
      go_wp2_with fail
      go_loopw [4, 29] (fun v i wx => ∃ k : Nat, k ≤ 7 ∧ i = .int .i64 k ∧ OwnP wx w.heap.size v (enhOut n j ++ enhIn n alt k) ∧ Below w.heap.size w wx) (fun _ i _ => 7 - (intOf i).toNat)
      case atStart => exact ⟨0, by omega, rfl, by simpa [enhIn] using hown2, B2⟩
      case round =>
        obtain ⟨k, hk, rfl, hownk, hBk⟩ := hrel
        have hzk := hBk.size
        have hlk := hil k
        have hsk := Lib.hid (hst k)
        by_cases hlt2 : k < 7
        · have ix := semiIx (k : Int) (by omega) (by omega)
          have on := enhOne_on (num := n) (alt := alt) (k := k)
          have off := enhOne_off (num := n) (alt := alt) (k := k)
          have zo : -100 ≤ (n - alt) / 12 ∧ (n - alt) / 12 ≤ 100 := by omega
          obtain ⟨zo1, zo2⟩ := zo
          have hpc := fun W => pitchCheck k alt ((n - alt) / 12 - 1) W
          have hor := pitchCheckF_or k alt ((n - alt) / 12 - 1)
          clear hil hst hown2 B2
          generalize (n - alt) / 12 = oc at *
          generalize (n - alt) % 12 = re at *
          generalize semiF k = se at *
          generalize enhOne n alt k = O at *
          by_cases c1 : se = re
          · rcases hor with c2 | c2
            · have hO := Lib.hid (on c1 c2)
              rw [c2] at hpc
              subst c1
              clear on off c2
              go_wp2_with fail
              refine (hpc _).mono ?_
              rintro e w3 ⟨rfl, hb3⟩
              have hown3 := OwnRow.below (World.ownsRow.alloc hownk (.cells #[.int .i64 k, .int .i64 alt, .int .i64 (oc - 1)] 26)) hb3
              have zx : wr.heap.size < (wr.alloc (.cells #[.int .i64 k, .int .i64 alt, .int .i64 (oc - 1)] 26)).heap.size := by simp
              have z3 := hb3.size
              have B3 := (hBk.alloc hzk (.cells #[.int .i64 k, .int .i64 alt, .int .i64 (oc - 1)] 26)).trans (hb3.mono (by omega))
              have y0 := (hb3.cell (p := ⟨wr.heap.size, 0, none⟩) zx).trans (show _ = some (.int .i64 k) by simp [go_sem])
              have y1 := (hb3.cell (p := ⟨wr.heap.size, 1, none⟩) zx).trans (show _ = some (.int .i64 alt) by simp [go_sem])
              have y2 := (hb3.cell (p := ⟨wr.heap.size, 2, none⟩) zx).trans (show _ = some (.int .i64 (oc - 1)) by simp [go_sem])
              clear hb3 hpc
              go_wp2_with (at_builtin; refine wpList_append_lies _ rfl _ _ _ rfl w.heap.size 26 i0 (.agg #[.int .i64 0, .int .i64 0, .int .i64 0]) 3 24 Tryz.underlying55 hiH.out hi0 hi1 hi2 rfl (by omega) _ _ _ (by rfl) (hown3.alloc _) ⟨w3.heap.size, 0, none⟩ 1 1 (encP3 ⟨k, alt, oc - 1⟩) (by rfl) rfl ?_ ?_ (by omega) ?_ ?_ ?_ (w3.heap.size + 1) ?_ ?_)
              · exact World.news_of_block (heap_alloc_new w3 _)
              · intro u hu; simp [encP3] at hu; rcases hu with rfl | rfl | rfl <;> rfl
              · rw [List.length_append]; unfold maxLen; omega
              · rw [List.length_append]; omega
              · simp; omega
              · simp
              · intro g cap w9 hown9 hgrow hat hlt1
                have hlo := World.ownsRow.lt hown3
                go_wp2_with fail
                go_roundw
                case rel =>
                  refine ⟨k + 1, by omega, by go_num, ?_, (B3.alloc (by omega) _).grown hgrow (by simp; omega) (fun q hq => (hlo q hq).1)⟩
                  show World.ownsRow _ _ _ _ _ _ _
                  rw [hsk.out, hO.out, cellsP_snoc]
                  have e3 : (enhOut n j ++ enhIn n alt k ++ [(⟨k, alt, oc - 1⟩ : Pit)]).length = (enhOut n j ++ enhIn n alt k).length + 1 := List.length_append
                  rw [e3, List.length_append]
                  exact hown9
                case measure => simp [intOf]; omega
            · have hO := Lib.hid (off (fun h => by omega))
              rw [c2] at hpc
              subst c1
              clear on off c2
              go_wp2_with fail
              refine (hpc _).mono ?_
              rintro e w3 ⟨rfl, hb3⟩
              have hown3 := OwnRow.below (World.ownsRow.alloc hownk (.cells #[.int .i64 k, .int .i64 alt, .int .i64 (oc - 1)] 26)) hb3
              have zx : wr.heap.size < (wr.alloc (.cells #[.int .i64 k, .int .i64 alt, .int .i64 (oc - 1)] 26)).heap.size := by simp
              have z3 := hb3.size
              have B3 := (hBk.alloc hzk (.cells #[.int .i64 k, .int .i64 alt, .int .i64 (oc - 1)] 26)).trans (hb3.mono (by omega))
              clear hb3 hpc
              go_wp2_with fail
              go_roundw
              case rel => exact ⟨k + 1, by omega, by go_num, by show World.ownsRow _ _ _ _ _ _ _; rw [hsk.out, hO.out, List.append_nil]; exact hown3, B3⟩
              case measure => simp [intOf]; omega
          · have hO := Lib.hid (off (fun h => c1 h.1))
            clear on off hor hpc
            go_wp2_with fail
            go_roundw
            case rel => exact ⟨k + 1, by omega, by go_num, by show World.ownsRow _ _ _ _ _ _ _; rw [hsk.out, hO.out, List.append_nil]; exact World.ownsRow.alloc hownk _, hBk.alloc hzk _⟩
            case measure => simp [intOf]; omega
        · obtain rfl : k = 7 := by omega
          clear hil hst hown2 B2
          go_wp2_with fail
          go_roundw
          case rel => exact ⟨j + 1, by omega, by simp [← halt]; omega, by rw [hsucc.out]; exact hownk, hBk⟩
          case measure => simp [intOf, ← halt]; omega
    · obtain rfl : j = 5 := by omega
      go_wp2_with fail
      go_ret2
      exact ⟨⟨_, rfl, hown⟩, hB⟩
end Go.Proofs.YteoghladllohjaaGreatDoor
