/- The law PerformDecodes returns true. -/
import Derived.Test.YtmbchdfgckmpoaaGreatDoorZ14
import Derived.Test.YtmbchdfgckmpoaaGreatDoorZ7
import Derived.Test.YtmbchdfgckmpoaaGreatDoorZ6
namespace Go.Proofs.YtmbchdfgckmpoaaGreatDoor
open Go.RowKit Go.Sort

theorem line_pos (p : Ply) : 1 ≤ (lineL p).length := by rw [lineL_body]; simp
theorem text_long : ∀ l : List Ply, l.length ≤ (textL l).length
  | [] => by simp
  | p :: l => by
    have h1 := line_pos p
    have h2 := text_long l
    show _ ≤ (lineL p ++ textL l).length
    rw [List.length_append, List.length_cons]
    omega
theorem cut300 (S : ByteArray) : S.extract 0 (min (S.size : Int) 300).toNat = bs (S.data.toList.take 300) := by
  apply ByteArray.ext
  apply Array.toList_inj.1
  have hs : S.size = S.data.toList.length := Lib.size_eq S
  rw [Lib.extract_data]
  by_cases h : S.size ≤ 300
  · rw [show (min (S.size : Int) 300).toNat = S.size by omega]
    simp only [List.drop_zero]
    rw [List.take_of_length_le (show S.data.toList.length ≤ 300 by omega)]
    first | (rw [List.take_of_length_le (by omega)]) | simp
  · rw [show (min (S.size : Int) 300).toNat = 300 by omega]
    simp
theorem ofDec {T : List UInt8} {e : Ending} {w' : World} (h : DecR T e w') : (∃ A c L, e = .returned (.tuple #[.slice A L.length c, .int .i64 0]) ∧ SlY w' A L ∧ (∀ p ∈ L, InR p) ∧ textL L = T) ∨ e = .returned (.tuple #[.slice none 0 0, .int .i64 3]) := by
  rcases h with ⟨A, c, L, h1, h2, h3, h4, _⟩ | ⟨h, _⟩
  · exact .inl ⟨A, c, L, h1, h2, h3, h4⟩
  · exact .inr h
set_option maxHeartbeats 4000000 in
theorem decodesC (S : ByteArray) (w : World) (he : Env w) :
    Calls Tryz.prog 4 #[.string S] w fun r w' => r = .returned (.bool true) ∧ Below w.heap.size w w' := by
  have hcut := cut300 S
  have hTl : (S.data.toList.take 300).length ≤ 300 := by rw [List.length_take]; omega
  generalize S.data.toList.take 300 = T at *
  have hd := decodeC T (by omega) w he
  go_enter Tryz.func4, Tryz.ntmps4
  go_upto_region 2 with (fail)
  go_wp2_with fail
  refine hd.mono ?_
  rintro e w1 ⟨hD, hb1⟩
  rcases ofDec hD with ⟨A, c, L, rfl, hsl, hR, ht⟩ | rfl
  · have hLl : L.length ≤ 300 := by
      have := text_long L
      rw [ht] at this
      omega
    have hTT : (T == T) = true := by simp
    have he1 := he.below hb1 rfl
    have hts := fun v (hb : Below w1.heap.size w1 v) => textC A c L v (by omega) hR (hsl.below hb)
    have hen := fun v (hb : Below w1.heap.size w1 v) => encodeC A c L v (he1.below hb rfl) (by omega) hR (hsl.below hb)
    rw [ht] at hts hen
    have hts := Lib.hid hts
    have hen := Lib.hid hen
    clear hD hd hsl hR ht he he1
    generalize L.length = n at *
    go_wp2_with fail
    refine (knownC _).mono ?_
    rintro e w2 ⟨rfl, hb2⟩
    have h3 := hts.out w2 hb2
    go_wp2_with fail
    refine h3.mono ?_
    rintro e w3 ⟨rfl, hb3⟩
    have hB3 := hb2.trans (hb3.mono hb2.size)
    have h4 := hen.out w3 hB3
    clear h3
    go_wp2_with fail
    refine h4.mono ?_
    rintro e w4 ⟨rfl, hb4⟩
    go_wp2_with fail
    go_ret
    exact ⟨rfl, hb1.trans ((hB3.trans (hb4.mono hB3.size)).mono hb1.size)⟩
  · clear hD hd
    go_wp2_with fail
    refine (knownC _).mono ?_
    rintro e w2 ⟨rfl, hb2⟩
    go_wp2_with fail
    go_ret
    exact ⟨rfl, hb1.trans (hb2.mono hb1.size)⟩
end Go.Proofs.YtmbchdfgckmpoaaGreatDoor
