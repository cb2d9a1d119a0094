/- The model's change, with the closure of MotifAugments. -/
import Derived.Test.YtbmnkeihmmcciaaDoorM18
namespace Go.Proofs.YtbmnkeihmmcciaaDoor
open Go.RowKit Go.Shelf Go.Sort

set_option maxHeartbeats 4000000 in
theorem closC (t : Tone) (bn bd : Nat) (num den : Int) (w : World) (h1 : 1 ≤ num) (h2 : num ≤ 64) (h3 : 1 ≤ den) (h4 : den ≤ 64) (b1 : 1 ≤ t.len) (b2 : t.len ≤ 123863040)
    (hn : w.cell? ⟨bn, 0, none⟩ = some (.int .i64 num)) (hd : w.cell? ⟨bd, 0, none⟩ = some (.int .i64 den)) (ln : bn < w.heap.size) (ld : bd < w.heap.size) :
    Calls Tryd.prog 16 #[toneV t, .pointer (some ⟨bn, 0, none⟩), .pointer (some ⟨bd, 0, none⟩)] w fun r w' => r = .returned (.tuple #[toneV (augT num den t), .int .i64 (augE num den t)]) ∧ Below w.heap.size w w' := by
  have x16 := augE_16 (num := num) (den := den) (t := t)
  have x2 := augE_2 (num := num) (den := den) (t := t)
  have x0 := augE_0 (num := num) (den := den) (t := t)
  show Calls _ _ _ _ fun r w' => r = .returned (.tuple #[.agg #[.int .i64 (t.len * num / den), .int .i64 t.p.st, .int .i64 t.p.al, .int .i64 t.p.oc, .bool t.rest], .int .i64 (augE num den t)]) ∧ Below w.heap.size w w'
  generalize augE num den t = ae at *
  obtain ⟨len, ⟨st, al, oc⟩, rest⟩ := t
  simp only at *
  have p1 : 1 ≤ len * num := Int.le_trans b1 (by
    have := Int.mul_le_mul_of_nonneg_left h1 (show 0 ≤ len by omega)
    rwa [Int.mul_one] at this)
  have p2 : len * num ≤ 7927234560 := Int.le_trans (Int.mul_le_mul b2 h2 (by omega) (by omega)) (by omega)
  have td : (len * num).tdiv den = len * num / den := Int.tdiv_eq_ediv_of_nonneg (by omega)
  have tm : (len * num).tmod den = len * num % den := Int.tmod_eq_emod_of_nonneg (by omega)
  have q1 : 0 ≤ len * num / den := Int.ediv_nonneg (by omega) (by omega)
  have q2 : len * num / den ≤ 7927234560 := Int.le_trans (Int.ediv_le_self _ (by omega)) p2
  have q3 : 0 ≤ len * num % den := Int.emod_nonneg _ (by omega)
  have q4 : len * num % den < den := Int.emod_lt_of_pos _ (by omega)
  have l1 : bn ≠ w.heap.size := by omega
  have l2 : bd ≠ w.heap.size := by omega
  have l3 : bn ≠ w.heap.size + 1 := by omega
  have l4 : bd ≠ w.heap.size + 1 := by omega
  have hw : ∀ o1 o2, Below w.heap.size w ((w.alloc o1).alloc o2) := fun o1 o2 => ((Below.refl _ w).alloc (Nat.le_refl _) _).alloc (by simp) _
  by_cases e1 : len * num % den = 0
  · by_cases e2 : 123863040 < len * num / den
    · have hx := Lib.hid (x2 e1 e2)
      clear x16 x2 x0
      go_enter Tryd.func16, Tryd.ntmps16
      go_wp2_with fail
      rw [hx.out]
      refine bodyPost_ret (v := .tuple #[.agg #[.int .i64 (len * num / den), .int .i64 st, .int .i64 al, .int .i64 oc, .bool rest], .int .i64 2]) ?_ rfl ⟨rfl, ?_⟩
      · simp [results, Tryd.results16, go_sem]
      · go_grown
    · have hx := Lib.hid (x0 e1 e2)
      clear x16 x2 x0
      go_enter Tryd.func16, Tryd.ntmps16
      go_wp2_with fail
      rw [hx.out]
      refine bodyPost_ret (v := .tuple #[.agg #[.int .i64 (len * num / den), .int .i64 st, .int .i64 al, .int .i64 oc, .bool rest], .int .i64 0]) ?_ rfl ⟨rfl, ?_⟩
      · simp [results, Tryd.results16, go_sem]
      · go_grown
  · have hx := Lib.hid (x16 e1)
    clear x16 x2 x0
    go_enter Tryd.func16, Tryd.ntmps16
    go_wp2_with fail
    rw [hx.out]
    refine bodyPost_ret (v := .tuple #[.agg #[.int .i64 (len * num / den), .int .i64 st, .int .i64 al, .int .i64 oc, .bool rest], .int .i64 16]) ?_ rfl ⟨rfl, ?_⟩
    · simp [results, Tryd.results16, go_sem]
    · go_grown

theorem AugEnd.own {num den : Int} {l : List Tone} {w' : World} {base : Nat} {v : Value} (he : augErr num den l = 0) (ho : w'.ownsRow base 40 5 v (augL num den l).length (cellsT (augL num den l))) : AugEnd num den l (.returned (.tuple #[v, .int .i64 0])) w' := by
  obtain ⟨A, cap, rfl, hs⟩ := ownT_slice ho
  rw [augL_len]
  exact ⟨fun _ => ⟨_, _, rfl, hs⟩, fun h => absurd he h⟩
/-- The first k tones, turned. -/
def augP (num den : Int) (l : List Tone) (k : Nat) : List Tone := (l.take k).map (augT num den)
theorem augP_len {num den : Int} {l : List Tone} {k : Nat} (h : k ≤ l.length) : (augP num den l k).length = k := by simp [augP]; omega
theorem augP_snoc {num den : Int} {l : List Tone} {k : Nat} (h : k < l.length) : augP num den l (k + 1) = augP num den l k ++ [augT num den (nth l k)] := by
  unfold augP nth
  rw [List.getD_eq_getElem?_getD, List.getElem?_eq_getElem h, List.take_add_one, List.getElem?_eq_getElem h, List.map_append]
  rfl
theorem augP_all {num den : Int} {l : List Tone} {k : Nat} (h : l.length ≤ k) : augP num den l k = augL num den l := by
  unfold augP augL; rw [List.take_of_length_le h]

set_option maxHeartbeats 4000000 in
theorem changeC (A : Option Addr) (c : Nat) (l : List Tone) (bn bd : Nat) (num den : Int) (w : World) (hc : checkL l = 0) (h1 : 1 ≤ num) (h2 : num ≤ 64) (h3 : 1 ≤ den) (h4 : den ≤ 64) (h : SlT w A l)
    (hn : w.cell? ⟨bn, 0, none⟩ = some (.int .i64 num)) (hd : w.cell? ⟨bd, 0, none⟩ = some (.int .i64 den)) (ln : bn < w.heap.size) (ld : bd < w.heap.size) :
    Calls Tryd.prog 15 #[.slice A l.length c, .func (.func 16) #[] #[.pointer (some ⟨bn, 0, none⟩), .pointer (some ⟨bd, 0, none⟩)]] w fun r w' => AugEnd num den l r w' ∧ Below w.heap.size w w' := by
  obtain ⟨a1, a2, a3⟩ := checkL_zero hc
  obtain ⟨b, off, rfl, hlb, hrd⟩ := h.some a1
  have hlen : ∀ k, k < l.length → 1 ≤ (nth l k).len ∧ (nth l k).len ≤ 123863040 := fun k hk => ⟨(toneErr_zero (a3 _ (nth_mem hk))).1, (toneErr_zero (a3 _ (nth_mem hk))).2.1⟩
  have hstep := fun k => augErr_drop (num := num) (den := den) (l := l) (k := k)
  have hend := fun k => augErr_end (num := num) (den := den) l (k := k)
  have hsn := fun k => augP_snoc (num := num) (den := den) (l := l) (k := k)
  have hpl := fun k => augP_len (num := num) (den := den) (l := l) (k := k)
  have hpa := fun k => augP_all (num := num) (den := den) (l := l) (k := k)
  have hnl : ∃ n, n = l.length := ⟨_, rfl⟩
  obtain ⟨n, hnl⟩ := hnl
  have hnl' : n ≤ l.length := by omega
  have hnl2 : l.length ≤ n := by omega
  rw [← hnl] at a1 a2 ⊢
  clear hc a3 hnl h
  obtain ⟨i0, hi, hi0, hi1, hi2⟩ := info_parts info40
  have hi := Lib.hid hi
  go_enter Tryd.func15, Tryd.ntmps15
  go_wp2_with fail
  go_loopw [6, 7] (fun v i wr => ∃ k : Nat, k ≤ n ∧ i = .int .i64 k ∧ Aside (augErr num den l = augErr num den (l.drop k)) ∧ wr.ownsRow w.heap.size 40 5 v (augP num den l k).length (cellsT (augP num den l k)) ∧ Below w.heap.size w wr) (fun _ i _ => n - (intOf i).toNat)
  case atStart => exact ⟨0, by omega, rfl, (show Aside (augErr num den l = augErr num den (l.drop 0)) from (rfl : augErr num den l = augErr num den l)), World.ownsRow_nil _ _ _ _, Below.refl _ _⟩
  case round =>
    obtain ⟨k, hk, rfl, hA, hown, hB⟩ := hrel
    have hz := hB.size
    by_cases hlt : k < n
    · have hA := hA.out
      rw [hstep k (by omega)] at hA
      obtain ⟨r0, r1, r2, r3, r4⟩ := hrd.below hB hlb k (by omega)
      obtain ⟨b1, b2⟩ := hlen k (by omega)
      have hpk := hpl k (by omega)
      have hsk := hsn k (by omega)
      have hcl := closC (nth l k) bn bd num den wr h1 h2 h3 h4 b1 b2 (by rw [← hn]; exact hB.cell (p := ⟨bn, 0, none⟩) ln) (by rw [← hd]; exact hB.cell (p := ⟨bd, 0, none⟩) ld) (by omega) (by omega)
      clear hstep hend hlen hrd hpl hsn hpa b1 b2
      have e0 : augE num den (nth l k) = 0 ∨ augE num den (nth l k) ≠ 0 := by omega
      generalize augP num den l k = P at *
      generalize augT num den (nth l k) = y at *
      generalize augE num den (nth l k) = ae at *
      generalize nth l k = x at *
      rcases e0 with rfl | e0
      · rw [if_pos rfl] at hA
        have hA' := Lib.hid hA
        have hsk := Lib.hid hsk
        clear hA
        go_wp2_with fail
        refine hcl.mono ?_
        rintro e w1 ⟨rfl, hb1⟩
        have hown1 := OwnRow.below hown hb1
        have B1 := hB.trans (hb1.mono hz)
        have z1 := hb1.size
        clear hcl hown hb1
        obtain ⟨ylen, ⟨yst, yal, yoc⟩, yrest⟩ := y
        go_wp2_with (at_builtin; refine wpList_append_lies _ rfl _ _ _ rfl w.heap.size 40 i0 (.agg #[.int .i64 0, .int .i64 0, .int .i64 0, .int .i64 0, .bool false]) 5 40 Tryd.underlying22 hi.out hi0 hi1 hi2 rfl (by omega) _ _ _ (by rfl) ((hown1.alloc _).alloc _) ⟨w1.heap.size + 1, 0, none⟩ 1 1 (encT ⟨ylen, ⟨yst, yal, yoc⟩, yrest⟩) (by rfl) rfl ?_ ?_ (by omega) ?_ ?_ ?_ (w1.heap.size + 2) ?_ ?_)
        · have h := heap_alloc_new (w1.alloc (.cells #[.int .i64 ylen, .int .i64 yst, .int .i64 yal, .int .i64 yoc, .bool yrest] 40)) (.cells #[.int .i64 ylen, .int .i64 yst, .int .i64 yal, .int .i64 yoc, .bool yrest] 40)
          rw [World.size_alloc] at h
          exact World.news_of_block h
        · intro u hu; simp [encT] at hu; rcases hu with rfl | rfl | rfl | rfl | rfl <;> rfl
        · unfold maxLen; omega
        · omega
        · simp; omega
        · simp
        · intro g cap w9 hown9 hgrow hat hlt1
          have hlo := hown1.lt
          go_wp2_with fail
          go_roundw
          case rel =>
            refine ⟨k + 1, by omega, by go_num, (show Aside _ from hA'.out), ?_, ((B1.alloc (by omega) _).alloc (by simp; omega) _).grown hgrow (by simp; omega) (fun j hj => (hlo j hj).1)⟩
            rw [hsk.out, cellsT_snoc, List.length_append, hpk]
            exact hown9
          case measure => simp [intOf]; omega
      · rw [if_neg e0] at hA
        have hA' := Lib.hid hA
        have dc : (ae != 0) = true := by simpa using e0
        have e0' := Lib.hid e0
        clear hA hsk e0 hown
        go_wp2_with fail
        refine hcl.mono ?_
        rintro e w1 ⟨rfl, hb1⟩
        have B1 := hB.trans (hb1.mono hz)
        have z1 := hb1.size
        clear hcl hb1
        go_wp2_with fail
        go_ret2
        exact ⟨AugEnd.off hA'.out e0'.out, by first | exact B1 | exact B1.alloc (by omega) _⟩
    · have hA' := Lib.hid (show augErr num den l = 0 by rw [hA.out, hend k (by omega)])
      rw [hpa k (by omega)] at hown
      have hO := Lib.hid hown
      clear hA hstep hend hlen hown hrd hsn hpl hpa
      go_wp2_with fail
      go_ret2
      exact ⟨AugEnd.own hA'.out hO.out, hB⟩
end Go.Proofs.YtbmnkeihmmcciaaDoor
