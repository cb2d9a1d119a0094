/- Part. -/
import Derived.Test.YtmbchdfgckmpoaaGreatB1
namespace Go.Proofs.YtmbchdfgckmpoaaGreat
open Go.RowKit Go.Sort

def partF (l : List Ply) (p : Int) (k : Nat) : List Ply := (l.take k).filter fun x => x.p == p
theorem partF_hit {l : List Ply} {p : Int} {k : Nat} (h : k < l.length) (hp : (nth l k).p = p) : partF l p (k + 1) = partF l p k ++ [nth l k] := by
  unfold partF nth at *
  rw [List.getD_eq_getElem?_getD, List.getElem?_eq_getElem h] at *
  rw [List.take_add_one, List.getElem?_eq_getElem h, List.filter_append]
  simp at hp ⊢
  exact hp
theorem partF_miss {l : List Ply} {p : Int} {k : Nat} (h : k < l.length) (hp : (nth l k).p ≠ p) : partF l p (k + 1) = partF l p k := by
  unfold partF nth at *
  rw [List.getD_eq_getElem?_getD, List.getElem?_eq_getElem h] at hp
  rw [List.take_add_one, List.getElem?_eq_getElem h, List.filter_append]
  simp at hp ⊢
  exact hp
theorem partF_len (l : List Ply) (p : Int) (k : Nat) : (partF l p k).length ≤ l.length := by
  unfold partF
  exact Nat.le_trans (List.length_filter_le _ _) (by simp; omega)
theorem partF_all {l : List Ply} {p : Int} {k : Nat} (h : l.length ≤ k) : partF l p k = l.filter fun x => x.p == p := by
  unfold partF; rw [List.take_of_length_le h]

set_option maxHeartbeats 4000000 in
theorem partC (A : Option Addr) (c : Nat) (l : List Ply) (p : Int) (w : World) (hl : l.length ≤ 1000) (h : SlY w A l) :
    Calls Tryz.prog 16 #[.slice A l.length c, .int .i64 p] w fun r w' => (∃ B d, r = .returned (.slice B (partF l p l.length).length d) ∧ SlY w' B (partF l p l.length)) ∧ Below w.heap.size w w' := by
  have hit := fun k => partF_hit (l := l) (p := p) (k := k)
  have miss := fun k => partF_miss (l := l) (p := p) (k := k)
  have hln := partF_len l p
  have hnl : ∃ n, n = l.length := ⟨_, rfl⟩
  obtain ⟨n, hnl⟩ := hnl
  have hnl' : n ≤ l.length := by omega
  have hnl2 : l.length ≤ 1000 := hl
  rw [← hnl] at hl ⊢
  clear hnl
  obtain ⟨i0, hi, hi0, hi1, hi2⟩ := info_parts info30
  have hi := Lib.hid hi
  go_enter Tryz.func16, Tryz.ntmps16
  go_wp2_with fail
  go_loopw [5, 10] (fun v i wr => ∃ k : Nat, k ≤ n ∧ i = .int .i64 k ∧ wr.ownsRow w.heap.size 30 7 v (partF l p k).length (cellsY (partF l p k)) ∧ Below w.heap.size w wr) (fun _ i _ => n - (intOf i).toNat)
  case atStart => exact ⟨0, by omega, rfl, World.ownsRow_nil _ _ _ _, Below.refl _ _⟩
  case round =>
    obtain ⟨k, hk, rfl, hown, hB⟩ := hrel
    have hz := hB.size
    by_cases hlt : k < n
    · obtain ⟨b, off, hAe, hlb, hrd⟩ := h.some (k := k) (by omega)
      cases hAe
      obtain ⟨r0, r1, r2, r3, r4, r5, r6⟩ := hrd.below hB hlb k (by omega)
      have hpk := hln k
      by_cases he : (nth l k).p = p
      · have hs := Lib.hid (hit k (by omega) he)
        have e1 : ((nth l k).p == p) = true := by simpa using he
        clear hit miss hln hrd h he
        generalize partF l p k = Q at *
        generalize nth l k = x at *
        go_wp2_with (at_builtin; refine wpList_append_lies _ rfl _ _ _ rfl w.heap.size 30 i0 (.agg #[.int .i64 0, .int .i64 0, .int .i64 0, .int .i64 0, .int .i64 0, .int .i64 0, .int .i64 0]) 7 56 Tryz.underlying25 hi.out hi0 hi1 hi2 rfl (by omega) _ _ _ (by rfl) ((hown.alloc _).alloc _) ⟨wr.heap.size + 1, 0, none⟩ 1 1 (encY x) (by rfl) rfl ?_ ?_ (by omega) ?_ ?_ ?_ (wr.heap.size + 2) ?_ ?_)
        · have h := heap_alloc_new (wr.alloc (.cells #[.int .i64 x.o, .int .i64 x.f, .int .i64 x.n, .int .i64 x.v, .int .i64 x.p, .int .i64 x.s, .int .i64 x.e] 30)) (.cells #[.int .i64 x.o, .int .i64 x.f, .int .i64 x.n, .int .i64 x.v, .int .i64 x.p, .int .i64 x.s, .int .i64 x.e] 30)
          rw [World.size_alloc] at h
          exact World.news_of_block h
        · intro u hu; simp [encY] at hu; rcases hu with rfl | rfl | rfl | rfl | rfl | rfl | rfl <;> rfl
        · unfold maxLen; omega
        · omega
        · simp; omega
        · simp
        · intro g cap w9 hown9 hgrow hat hlt1
          have hlo := hown.lt
          go_wp2_with fail
          go_roundw
          case rel =>
            refine ⟨k + 1, by omega, by go_num, ?_, ((hB.alloc (by omega) _).alloc (by simp; omega) _).grown hgrow (by simp; omega) (fun j hj => (hlo j hj).1)⟩
            rw [hs.out, cellsY_snoc, List.length_append]
            exact hown9
          case measure => simp [intOf]; omega
      · have hs := Lib.hid (miss k (by omega) he)
        have e1 : ((nth l k).p == p) = false := by simpa using he
        clear hit miss hln hrd h he
        generalize partF l p k = Q at *
        generalize nth l k = x at *
        go_wp2_with fail
        go_roundw
        case rel =>
          refine ⟨k + 1, by omega, by go_num, ?_, hB.alloc (by omega) _⟩
          rw [hs.out]
          exact hown.alloc _
        case measure => simp [intOf]; omega
    · obtain rfl : k = n := by omega
      have hO := Lib.hid (ownY_slice hown)
      clear hit miss hln hown h
      go_wp2_with fail
      obtain ⟨B, d, rfl, hS⟩ := hO.out
      go_ret
      exact ⟨⟨B, d, rfl, hS⟩, hB⟩
end Go.Proofs.YtmbchdfgckmpoaaGreat
