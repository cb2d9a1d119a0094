/- The law PerformTexts returns true. -/
import Derived.Test.YtmbchdfgckmpoaaGreatDoorZ15
import Derived.StillTailTactics
import Derived.BigRegion
namespace Go.Proofs.YtmbchdfgckmpoaaGreatDoor
open Go.RowKit Go.Sort

theorem inR_of {p : Ply} (h : ∀ k, k < 7 → Bd (val7 p k)) : InR p := ⟨h 0 (by omega), h 1 (by omega), h 2 (by omega), h 3 (by omega), h 4 (by omega), h 5 (by omega), h 6 (by omega)⟩
def v7A (p : Ply) : Array Value := #[.int .i64 p.o, .int .i64 p.f, .int .i64 p.n, .int .i64 p.v, .int .i64 p.p, .int .i64 p.s, .int .i64 p.e]
theorem v7A_get (p : Ply) {k : Nat} (h : k < 7) : (v7A p)[k]? = some (.int .i64 (val7 p k)) := by
  obtain rfl | rfl | rfl | rfl | rfl | rfl | rfl : k = 0 ∨ k = 1 ∨ k = 2 ∨ k = 3 ∨ k = 4 ∨ k = 5 ∨ k = 6 := by omega
  all_goals rfl
theorem decText {l : List Ply} (hl : ∀ p ∈ l, InR p) {e : Ending} {w' : World} (h : DecR (textL l) e w') : ∃ A c, e = .returned (.tuple #[.slice A l.length c, .int .i64 0]) ∧ SlY w' A l := by
  rcases h with ⟨A, c, L, h1, h2, h3, h4, _⟩ | ⟨_, h⟩
  · have e := text_inj h3 hl h4
    subst e
    exact ⟨A, c, h1, h2⟩
  · exact absurd rfl (h l hl)
set_option maxHeartbeats 8000000 in
set_option maxRecDepth 20000 in
theorem textsC (A : Option Addr) (c : Nat) (l : List Ply) (w : World) (he : Env w) (hl : l.length ≤ maxLen) (h : SlY w A l) :
    Calls Tryz.prog 3 #[.slice A l.length c] w fun r w' => r = .returned (.bool true) ∧ Below w.heap.size w w' := by
  unfold maxLen at hl
  by_cases hbig : 20 < l.length
  · generalize l.length = n at *
    have hz : (20 : Int) < (n : Int) := by omega
    go_enter Tryz.func3, Tryz.ntmps3
    go_wp2_with fail
    refine (knownC _).mono ?_
    rintro e w1 ⟨rfl, hb1⟩
    go_wp2_with fail
    refine (knownC _).mono ?_
    rintro e w2 ⟨rfl, hb2⟩
    go_wp2_with fail
    go_ret
    exact ⟨rfl, hb1.trans (hb2.mono hb1.size)⟩
  · have hen := fun v (hv : SlY v A l) (hR : ∀ p ∈ l, InR p) (he : Env v) => encodeC A c l v he (by omega) hR hv
    have hde := fun v (hR : ∀ p ∈ l, InR p) (he : Env v) => (decodeC (textL l) (by have := textL_len hR; omega) v he).mono fun e w' ⟨h1, h2⟩ => And.intro (decText hR h1) h2
    have hte := fun v (hv : SlY v A l) (hR : ∀ p ∈ l, InR p) => textC A c l v (by omega) hR hv
    have hsa := fun v B d (hv : SlY v B l) (hv2 : SlY v A l) => sameC B A d c l v (by omega) hv hv2
    have hnl : ∃ n, n = l.length := ⟨_, rfl⟩
    obtain ⟨n, hnl⟩ := hnl
    have hall : (∀ j, j < n → InR (nth l j)) → ∀ p ∈ l, InR p := fun h p hp => by
      obtain ⟨j, hj, rfl⟩ := List.getElem_of_mem hp
      have e : nth l j = l[j] := by unfold nth; rw [List.getD_eq_getElem?_getD, List.getElem?_eq_getElem hj]; rfl
      rw [← e]
      exact h j (by omega)
    rw [← hnl] at hbig ⊢
    rw [← hnl] at hen hde hte hsa
    have hn2 : l.length = n := hnl.symm
    have HH := Lib.hid (And.intro hen (And.intro hde (And.intro hte (And.intro hsa hall))))
    clear hnl hl hen hde hte hsa hall
    have hz : ¬ (20 : Int) < (n : Int) := by omega
    go_enter Tryz.func3, Tryz.ntmps3
    go_wp2_with fail
    refine (knownC _).mono ?_
    rintro e w1 ⟨rfl, hb1⟩
    go_wp2_with fail
    go_loopw [3] (fun iv wr => ∃ i : Nat, i ≤ n ∧ iv = .int .i64 i ∧ Aside (∀ j, j < i → InR (nth l j)) ∧ Below w.heap.size w wr) (fun iv _ => n - (intOf iv).toNat)
    case atStart => exact ⟨0, by omega, rfl, (show Aside _ from fun j hj => by omega), hb1⟩
    case round =>
      clear hb1
      obtain ⟨i, hi, rfl, hA, hB⟩ := hrel
      have hA := hA.out
      by_cases hlt : i < n
      · obtain ⟨b, off, hAe, hlb, hrd⟩ := h.some (k := i) (by omega)
        cases hAe
        obtain ⟨x0, x1, x2, x3, x4, x5, x6⟩ := hrd.below hB hlb i (by omega)
        have hA' := Lib.hid (fun (hx : InR (nth l i)) j (hj : j < i + 1) => if e : j = i then (show InR (nth l j) by rw [e]; exact hx) else hA j (by omega))
        have h' := Lib.hid h
        clear hrd h hA
        generalize nth l i = x at *
        have hi1 : (i : Int) < (n : Int) := by omega
        go_upto_region 6 with (fail)
        go_cut [4] from 1000 (fun sv wx => sv = .slice (some ⟨wr.heap.size, 0, none⟩) 7 7 ∧ wx.heap[wr.heap.size]? = some (.cells (v7A x) 3 (0, 0)) ∧ Below w.heap.size w wx)
        case first =>
          clear h' HH hA' he
          refine wp_region_still_tail 37 (by kernel_rfl) (by kernel_rfl) ?_
          simp only [List.take_succ_cons, List.take_zero, List.drop_succ_cons, List.drop_zero]
          repeat still_step
          try refine wpStill_nil ?_
          change wpList _ _ _ _ _ wr.drew
          go_wp2_with fail
          go_meet
          exact ⟨rfl, heap_alloc_new wr _, hB.drew.alloc hB.size _⟩
        case rest =>
        obtain ⟨rfl, hV1, hBV⟩ := hcut
        clear x0 x1 x2 x3 x4 x5 x6 hB
        generalize wr.heap.size = m at *
        have hcell := Lib.hid (fun k (hk : k < 7) => (Lib.cell_of_heap hV1 k).trans (v7A_get x hk))
        clear hV1 HH
        go_wp2_with fail
        go_loop [5] (fun jv => ∃ k : Nat, k ≤ 7 ∧ jv = .int .i64 k ∧ Aside (∀ j, j < k → Bd (val7 x j))) (fun jv => 7 - (intOf jv).toNat)
        case atStart => exact ⟨0, by omega, rfl, (show Aside _ from fun j hj => by omega)⟩
        case round =>
          obtain ⟨k, hk, rfl, hK⟩ := hrel
          have hK := hK.out
          by_cases hk7 : k < 7
          · have c0 := hcell.out k hk7
            have hk1 : (k : Int) < 7 := by omega
            have hstep := Lib.hid (fun (hb : Bd (val7 x k)) j (hj : j < k + 1) => if e : j = k then (show Bd (val7 x j) by rw [e]; exact hb) else hK j (by omega))
            clear hK
            generalize val7 x k = z at *
            by_cases h1 : z < -999999999999999999
            · go_wp2_with fail
              go_ret
              exact ⟨rfl, hBV⟩
            · by_cases h2 : z > 999999999999999999
              · go_wp2_with fail
                go_ret
                exact ⟨rfl, hBV⟩
              · have hbz : Bd z := ⟨by omega, by omega⟩
                go_wp2_with fail
                go_round
                case rel => exact ⟨k + 1, by omega, by go_num, (show Aside _ from hstep.out hbz)⟩
                case measure => simp [intOf]; omega
          · obtain rfl : k = 7 := by omega
            have hx := inR_of (p := x) hK
            have hA2 := Lib.hid (hA'.out hx)
            clear hcell hK hx
            go_wp2_with fail
            go_roundw
            case rel => exact ⟨i + 1, by omega, by go_num, (show Aside _ from hA2.out), hBV⟩
            case measure => simp [intOf]; omega
      · obtain rfl : i = n := by omega
        obtain ⟨hen, hde, hte, hsa, hall⟩ := HH.out
        have hR := hall hA
        have hs1 := h.below hB
        have c1 := hen wr hs1 hR (he.below hB rfl)
        clear hen
        have hTT : (textL l == textL l) = true := by simp
        have HH := Lib.hid (And.intro (fun v (hv : Env v) => hde v hR hv) (And.intro (fun v hv => hte v hv hR) hsa))
        clear hde hte hsa hall hR hA
        go_wp2_with fail
        refine c1.mono ?_
        rintro e w2 ⟨rfl, hb2⟩
        have hB2 := hB.trans (hb2.mono hB.size)
        have c2 := HH.out.1 w2 (he.below hB2 rfl)
        clear c1
        go_wp2_with fail
        refine c2.mono ?_
        rintro e w3 ⟨⟨A2, d2, rfl, hs2⟩, hb3⟩
        have hB3 := hB2.trans (hb3.mono hB2.size)
        have c3 := HH.out.2.1 w3 (h.below hB3)
        clear c2
        go_wp2_with fail
        refine c3.mono ?_
        rintro e w4 ⟨rfl, hb4⟩
        have hB4 := hB3.trans (hb4.mono hB3.size)
        have c4 := HH.out.2.2 w4 A2 d2 (hs2.below hb4) (h.below hB4)
        clear c3 hs2
        go_wp2_with fail
        refine c4.mono ?_
        rintro e w5 ⟨rfl, hb5⟩
        go_wp2_with fail
        go_ret
        exact ⟨rfl, hB4.trans (hb5.mono hB4.size)⟩
end Go.Proofs.YtmbchdfgckmpoaaGreatDoor
