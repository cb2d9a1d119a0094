/- The program's text. -/
import Derived.Test.YteoghladllohjaaGreatDoorM6
namespace Go.Proofs.YteoghladllohjaaGreatDoor
open Go.RowKit Go.Sort

def strK (l : List Tone) : Nat → List Value
  | 0 => []
  | k + 1 => strK l k ++ [.string (bs (toneText (nth l k)))]
theorem strK_len (l : List Tone) : ∀ k, (strK l k).length = k
  | 0 => rfl
  | k + 1 => by simp [strK, strK_len l k]
theorem strK_get (l : List Tone) : ∀ k j, j < k → (strK l k)[j]? = some (.string (bs (toneText (nth l j))))
  | k + 1, j, h => by
    unfold strK
    by_cases hj : j < k
    · rw [List.getElem?_append_left (by rw [strK_len]; exact hj)]
      exact strK_get l k j hj
    · obtain rfl : j = k := by omega
      rw [List.getElem?_append_right (by rw [strK_len]; exact Nat.le_refl _), strK_len]
      simp
theorem join_eq : ∀ l : List (List UInt8), Lib.join l [32] = joinF l
  | [] => Lib.join_nil _
  | [x] => Lib.join_one x _
  | x :: y :: l => by
    have ih := join_eq (y :: l)
    unfold Lib.join at *
    rw [joinF, ← ih]
    simp [List.intercalate]
theorem info9 : (Tryz.prog.info? 9).map (fun i => (i.zero, i.size, i.bytes)) = some (some (.string ⟨#[]⟩), 1, 16) := by kernel_rfl

set_option maxHeartbeats 4000000 in
theorem textP (A : Option Addr) (c : Nat) (l : List Tone) (w : World) (he : Env w) (h1 : 0 < l.length) (hl : l.length ≤ 64) (hv : ∀ t ∈ l, toneErr t = 0) (h : SlT w A l) :
    Calls Tryz.prog 34 #[.slice A l.length c] w fun r w' => r = .returned (.string (bs (textF l))) ∧ Below w.heap.size w w' := by
  have hjoin : ∀ (g cap : Nat) (w' : World), w'.ownsRow w.heap.size 9 1 (.slice (some ⟨g, 0, none⟩) l.length cap) l.length (strK l l.length) → l.length ≤ cap → Calls Tryz.prog 47 #[.slice (some ⟨g, 0, none⟩) l.length cap, .string ⟨#[32]⟩] w' fun e w'' => e = .returned (.string (bs (textF l))) ∧ Below w'.heap.size w' w'' := by
    intro g cap w' hown hcap
    have hlt := hown.lt g rfl
    have hj := Tryz.strings_Join g 0 cap (l.map fun t => bs (toneText t)) ⟨#[32]⟩ w' (fun j x hx => by
      rw [Nat.zero_add]
      rw [List.getElem?_map] at hx
      have hjl : j < l.length := by
        rcases Nat.lt_or_ge j l.length with h | h
        · exact h
        · rw [List.getElem?_eq_none h] at hx; simp at hx
      have hn : l[j]? = some (nth l j) := by unfold nth; rw [List.getD_eq_getElem?_getD, List.getElem?_eq_getElem hjl]; rfl
      rw [hn] at hx
      obtain rfl : bs (toneText (nth l j)) = x := by simpa using hx
      have := hown.cells (g := g) rfl j _ (strK_get l l.length j hjl)
      rwa [Addr.add_lit, Nat.zero_add] at this) hlt.2 (by rw [List.length_map]; omega) (by rw [List.length_map]; exact hcap)
    have ej : Lib.join (List.map (fun x => x.data.toList) (l.map fun t => bs (toneText t))) (⟨#[32]⟩ : ByteArray).data.toList = textF l := by
      have : List.map (fun x => x.data.toList) (l.map fun t => bs (toneText t)) = l.map toneText := by
        rw [List.map_map]
        exact List.map_congr_left fun t _ => by simp [bs]
      rw [this]
      exact join_eq _
    rw [ej, List.length_map] at hj
    refine hj ?_
    have := textK_len hv l.length (Nat.le_refl _)
    rw [textK_all] at this
    omega
  obtain ⟨n, hn⟩ : ∃ n, n = l.length := ⟨_, rfl⟩
  rw [← hn] at h1 hl hjoin ⊢
  have hn1 : n ≤ l.length := by omega
  have hn2 : l.length ≤ n := by omega
  clear hn
  obtain ⟨i0, hi, hi0, hi1, hi2⟩ := info_parts info9
  have hi := Lib.hid hi
  go_enter Tryz.func34, Tryz.ntmps34
  go_wp2_with fail
  go_loopw [3, 9] (fun s i wr => ∃ k : Nat, k ≤ n ∧ i = .int .i64 k ∧ wr.ownsRow w.heap.size 9 1 s k (strK l k) ∧ Below w.heap.size w wr) (fun _ i _ => n - (intOf i).toNat)
  case atStart => exact ⟨0, by omega, rfl, World.ownsRow_nil _ _ _ _, Below.refl _ _⟩
  case round =>
    obtain ⟨k, hk, rfl, hown, hB⟩ := hrel
    have hz := hB.size
    by_cases hlt : k < n
    · obtain ⟨b, off, hAd, hlb, hrd⟩ := h.some (k := k) (by omega)
      cases hAd
      have hA := True.intro
      obtain ⟨r0, r1, r2, r3, r4⟩ := hrd.below hB hlb k (by omega)
      have ht := hv _ (nth_mem (l := l) (k := k) (by omega))
      have hT := tone_bs (nth l k)
      have hco : (⟨#[58]⟩ : ByteArray).size = 1 := rfl
      have hr1 : (⟨#[114]⟩ : ByteArray).size = 1 := rfl
      clear hjoin hv hrd
      generalize hnt : nth l k = t at *
      have hnt := Lib.hid hnt
      obtain ⟨len, ⟨st, al, oc⟩, rest⟩ := t
      simp only at r0 r1 r2 r3 r4
      obtain ⟨g1, g2, g3, g4⟩ := toneErr_zero ht
      simp only at g1 g2 g3 g4
      have hdl := itoa_len len (by omega) (by omega)
      have hds := bs_size (Lib.itoa len)
      cases rest
      · skip
        have hpc := g4 rfl
        have hN := fun w he => nameC ⟨st, al, oc⟩ w he hpc
        have hT := hT (nameF ⟨st, al, oc⟩) rfl
        obtain ⟨_, _, _, _, p5, p6, _, _⟩ := pitchCheckF_in hpc
        have q1 := itoa_len oc (by omega) (by omega)
        have q2 := signF_len al
        have q3 : (bs (nameF ⟨st, al, oc⟩)).size ≤ 30 := by rw [bs_size]; simp [nameF]; omega
        have n1 := ByteArray.size_append (a := bs (nameF ⟨st, al, oc⟩)) (b := ⟨#[58]⟩)
        have a2 := fun w => addS w (bs (nameF ⟨st, al, oc⟩)) ⟨#[58]⟩ (by omega) (by omega)
        have a3 := fun w => addS w (bs (nameF ⟨st, al, oc⟩) ++ ⟨#[58]⟩) (bs (Lib.itoa len)) (by omega) (by omega)
        rw [hT] at a3
        have hD := fun w he => itoaC len w he (by omega) (by omega)
        have hBx : Below w.heap.size w (wr.alloc (.cells #[.int .i64 len, .int .i64 st, .int .i64 al, .int .i64 oc, .bool false] 35)) := hB.alloc hz _
        have hownx := hown.alloc (.cells #[.int .i64 len, .int .i64 st, .int .i64 al, .int .i64 oc, .bool false] 35)
        have c0 : (wr.alloc (.cells #[.int .i64 len, .int .i64 st, .int .i64 al, .int .i64 oc, .bool false] 35)).cell? ⟨wr.heap.size, 0, none⟩ = some (.int .i64 len) := by simp [go_sem]
        have zx : (wr.alloc (.cells #[.int .i64 len, .int .i64 st, .int .i64 al, .int .i64 oc, .bool false] 35)).heap.size = wr.heap.size + 1 := World.size_alloc _ _
        clear n1 hT hds hdl ht g1 g2 g3 g4 hco hr1 q3 hown hA
        generalize hTT : bs (toneText ⟨len, ⟨st, al, oc⟩, false⟩) = TT at *
        have hTT := Lib.hid hTT
        generalize bs (nameF ⟨st, al, oc⟩) = NM at *
        generalize bs (Lib.itoa len) = DD at *
        go_wp2_with fail
        refine (hN _ (he.below hBx)).mono ?_
        rintro e w1 ⟨rfl, hb1⟩
        have c0 := (hb1.cell (p := ⟨wr.heap.size, 0, none⟩) (by show wr.heap.size < _; omega)).trans c0
        have hB1 := hBx.trans (hb1.mono (by omega))
        have hown1 := OwnRow.below hownx hb1
        have z1 := hb1.size
        go_wp2_with fail
        refine (hD _ (he.below hB1)).mono ?_
        rintro e w2 ⟨rfl, hb2⟩
        have hB2 := hB1.trans (hb2.mono (by omega))
        have hown2 := OwnRow.below hown1 hb2
        have z2 := hB2.size
        go_wp2_with (at_builtin; refine wpList_append_lies _ rfl _ _ _ rfl w.heap.size 9 i0 (.string ⟨#[]⟩) 1 16 Tryz.underlying79 hi.out hi0 hi1 hi2 rfl (by omega) _ _ _ (by rfl) (hown2.alloc _) ⟨w2.heap.size, 0, none⟩ 1 1 [.string TT] (by rfl) rfl ?_ ?_ (by omega) ?_ ?_ ?_ (w2.heap.size + 1) ?_ ?_)
        · exact World.news_of_block (heap_alloc_new w2 _)
        · intro u hu; simp at hu; subst hu; rfl
        · unfold maxLen; omega
        · omega
        · simp; omega
        · simp
        · intro g cap w9 hown9 hgrow hat hlt1
          have hlo := hown2.lt
          go_wp2_with fail
          go_roundw
          case rel =>
            refine ⟨k + 1, by omega, by go_num, ?_, (hB2.alloc (by omega) _).grown hgrow (by simp; omega) (fun j hj => (hlo j hj).1)⟩
            have e5 : strK l (k + 1) = strK l k ++ [.string TT] := by rw [← hTT.out, ← hnt.out]; rfl
            rw [e5]
            exact hown9
          case measure => simp [intOf]; omega
      · skip
        have hT := hT [114] rfl
        change ⟨#[114]⟩ ++ ⟨#[58]⟩ ++ bs (Lib.itoa len) = _ at hT
        have q3 : (⟨#[114]⟩ : ByteArray).size ≤ 30 := by omega
        have n1 := ByteArray.size_append (a := ⟨#[114]⟩) (b := ⟨#[58]⟩)
        have a2 := fun w => addS w ⟨#[114]⟩ ⟨#[58]⟩ (by omega) (by omega)
        have a3 := fun w => addS w (⟨#[114]⟩ ++ ⟨#[58]⟩) (bs (Lib.itoa len)) (by omega) (by omega)
        rw [hT] at a3
        have hD := fun w he => itoaC len w he (by omega) (by omega)
        have hBx : Below w.heap.size w (wr.alloc (.cells #[.int .i64 len, .int .i64 st, .int .i64 al, .int .i64 oc, .bool true] 35)) := hB.alloc hz _
        have hownx := hown.alloc (.cells #[.int .i64 len, .int .i64 st, .int .i64 al, .int .i64 oc, .bool true] 35)
        have c0 : (wr.alloc (.cells #[.int .i64 len, .int .i64 st, .int .i64 al, .int .i64 oc, .bool true] 35)).cell? ⟨wr.heap.size, 0, none⟩ = some (.int .i64 len) := by simp [go_sem]
        have zx : (wr.alloc (.cells #[.int .i64 len, .int .i64 st, .int .i64 al, .int .i64 oc, .bool true] 35)).heap.size = wr.heap.size + 1 := World.size_alloc _ _
        clear n1 hT hds hdl ht g1 g2 g3 g4 hco hr1 q3 hown hA
        generalize hTT : bs (toneText ⟨len, ⟨st, al, oc⟩, true⟩) = TT at *
        have hTT := Lib.hid hTT
        generalize bs (Lib.itoa len) = DD at *
        go_wp2_with fail
        refine (hD _ (he.below hBx)).mono ?_
        rintro e w2 ⟨rfl, hb2⟩
        have hB2 := hBx.trans (hb2.mono (by omega))
        have hown2 := OwnRow.below hownx hb2
        have z2 := hB2.size
        go_wp2_with (at_builtin; refine wpList_append_lies _ rfl _ _ _ rfl w.heap.size 9 i0 (.string ⟨#[]⟩) 1 16 Tryz.underlying79 hi.out hi0 hi1 hi2 rfl (by omega) _ _ _ (by rfl) (hown2.alloc _) ⟨w2.heap.size, 0, none⟩ 1 1 [.string TT] (by rfl) rfl ?_ ?_ (by omega) ?_ ?_ ?_ (w2.heap.size + 1) ?_ ?_)
        · exact World.news_of_block (heap_alloc_new w2 _)
        · intro u hu; simp at hu; subst hu; rfl
        · unfold maxLen; omega
        · omega
        · simp; omega
        · simp
        · intro g cap w9 hown9 hgrow hat hlt1
          have hlo := hown2.lt
          go_wp2_with fail
          go_roundw
          case rel =>
            refine ⟨k + 1, by omega, by go_num, ?_, (hB2.alloc (by omega) _).grown hgrow (by simp; omega) (fun j hj => (hlo j hj).1)⟩
            have e5 : strK l (k + 1) = strK l k ++ [.string TT] := by rw [← hTT.out, ← hnt.out]; rfl
            rw [e5]
            exact hown9
          case measure => simp [intOf]; omega
    · obtain rfl : k = n := by omega
      obtain ⟨g, cap, rfl, _, _⟩ := hown.form (by omega)
      have hcap : k ≤ cap := by
        rcases hown.2 with ⟨h, _⟩ | ⟨g', cap', cur, hs, _, _, hc, _⟩
        · cases h
        · cases hs; exact hc
      have hj := hjoin g cap wr hown hcap
      clear hjoin
      go_wp2_with fail
      refine hj.mono ?_
      rintro e w9 ⟨rfl, hb9⟩
      go_wp2_with fail
      go_ret
      exact ⟨rfl, hB.trans (hb9.mono hz)⟩
end Go.Proofs.YteoghladllohjaaGreatDoor
