/- Clip. -/
import Derived.Test.YtmbchdfgckmpoaaGreatB1
namespace Go.Proofs.YtmbchdfgckmpoaaGreat
open Go.RowKit Go.Sort

def clipX (a b : Int) (x : Ply) : Ply := { x with o := if x.o < a then a else x.o, f := if b < x.f then b else x.f }
def inT (a b : Int) (x : Ply) : Bool := decide (a < b) && (decide (x.o < b) && (decide (a < x.f) && decide (x.o < x.f)))
def clipF (l : List Ply) (a b : Int) (k : Nat) : List Ply := ((l.take k).filter (inT a b)).map (clipX a b)
theorem clipF_hit {l : List Ply} {a b : Int} {k : Nat} (h : k < l.length) (hp : inT a b (nth l k) = true) : clipF l a b (k + 1) = clipF l a b k ++ [clipX a b (nth l k)] := by
  unfold clipF nth at *
  rw [List.getD_eq_getElem?_getD, List.getElem?_eq_getElem h] at *
  rw [List.take_add_one, List.getElem?_eq_getElem h, List.filter_append]
  simp at hp ⊢
  rw [List.filter_cons_of_pos hp]
  simp
theorem clipF_miss {l : List Ply} {a b : Int} {k : Nat} (h : k < l.length) (hp : inT a b (nth l k) = false) : clipF l a b (k + 1) = clipF l a b k := by
  unfold clipF nth at *
  rw [List.getD_eq_getElem?_getD, List.getElem?_eq_getElem h] at hp
  rw [List.take_add_one, List.getElem?_eq_getElem h, List.filter_append]
  simp at hp ⊢
  exact hp
theorem clipF_len (l : List Ply) (a b : Int) (k : Nat) : (clipF l a b k).length ≤ l.length := by
  unfold clipF
  rw [List.length_map]
  exact Nat.le_trans (List.length_filter_le _ _) (by simp; omega)

set_option maxHeartbeats 4000000 in
set_option maxRecDepth 20000 in
theorem clipC (A : Option Addr) (c : Nat) (l : List Ply) (a b : Int) (w : World) (hl : l.length ≤ 1000) (h : SlY w A l) :
    Calls Tryz.prog 15 #[.slice A l.length c, .int .i64 a, .int .i64 b] w fun r w' => (∃ B d, r = .returned (.slice B (clipF l a b l.length).length d) ∧ SlY w' B (clipF l a b l.length)) ∧ Below w.heap.size w w' := by
  have hit := fun k => clipF_hit (l := l) (a := a) (b := b) (k := k)
  have miss := fun k => clipF_miss (l := l) (a := a) (b := b) (k := k)
  have hln := clipF_len l a b
  have hnl : ∃ n, n = l.length := ⟨_, rfl⟩
  obtain ⟨n, hnl⟩ := hnl
  have hnl' : n ≤ l.length := by omega
  have hnl2 : l.length ≤ 1000 := hl
  rw [← hnl] at hl ⊢
  clear hnl
  obtain ⟨i0, hi, hi0, hi1, hi2⟩ := info_parts info30
  have hi := Lib.hid hi
  go_enter Tryz.func15, Tryz.ntmps15
  go_wp2_with fail
  go_loopw [7, 12] (fun v i wr => ∃ k : Nat, k ≤ n ∧ i = .int .i64 k ∧ wr.ownsRow w.heap.size 30 7 v (clipF l a b k).length (cellsY (clipF l a b k)) ∧ Below w.heap.size w wr) (fun _ i _ => n - (intOf i).toNat)
  case atStart => exact ⟨0, by omega, rfl, World.ownsRow_nil _ _ _ _, Below.refl _ _⟩
  case round =>
    obtain ⟨k, hk, rfl, hown, hB⟩ := hrel
    have hz := hB.size
    by_cases hlt : k < n
    · obtain ⟨bb, off, hAe, hlb, hrd⟩ := h.some (k := k) (by omega)
      cases hAe
      obtain ⟨r0, r1, r2, r3, r4, r5, r6⟩ := hrd.below hB hlb k (by omega)
      have hpk := hln k
      by_cases he : inT a b (nth l k) = true
      · have hs := Lib.hid (hit k (by omega) he)
        clear hit miss hln hrd h
        generalize clipF l a b k = Q at *
        generalize nth l k = x at *
        simp only [inT, Bool.and_eq_true, decide_eq_true_eq] at he
        obtain ⟨c1, c2, c3, c4⟩ := he
        by_cases c5 : x.o < a
        · by_cases c6 : b < x.f
          · have hx : clipX a b x = ⟨a, b, x.n, x.v, x.p, x.s, x.e⟩ := by simp [clipX, c5, c6]
            rw [hx] at hs
            clear hx
            go_wp2_with (at_builtin; refine wpList_append_lies _ rfl _ _ _ rfl w.heap.size 30 i0 (.agg #[.int .i64 0, .int .i64 0, .int .i64 0, .int .i64 0, .int .i64 0, .int .i64 0, .int .i64 0]) 7 56 Tryz.underlying25 hi.out hi0 hi1 hi2 rfl (by omega) _ _ _ (by rfl) ((hown.alloc _).alloc _) ⟨wr.heap.size + 1, 0, none⟩ 1 1 (encY ⟨a, b, x.n, x.v, x.p, x.s, x.e⟩) (by rfl) rfl ?_ (by intro u hu; simp [encY] at hu; rcases hu with rfl | rfl | rfl | rfl | rfl | rfl | rfl <;> rfl) (by omega) (by unfold maxLen; omega) (by omega) (by simp; omega) (wr.heap.size + 2) (by simp) ?_)
            · first
              | exact fun j u h => h
              | have h := heap_alloc_new (wr.alloc (.cells #[.int .i64 a, .int .i64 b, .int .i64 x.n, .int .i64 x.v, .int .i64 x.p, .int .i64 x.s, .int .i64 x.e] 30)) (.cells #[.int .i64 a, .int .i64 b, .int .i64 x.n, .int .i64 x.v, .int .i64 x.p, .int .i64 x.s, .int .i64 x.e] 30)
                rw [World.size_alloc] at h
                exact World.news_of_block h
            · intro g cap w9 hown9 hgrow hat hlt1
              have hlo := hown.lt
              go_wp2_with fail
              go_roundw
              case rel =>
                refine ⟨k + 1, by omega, by go_num, ?_, ((hB.alloc (by omega) _).alloc (by simp; omega) _).grown hgrow (by simp; omega) (fun j hj => (hlo j hj).1)⟩
                rw [hs.out, cellsY_snoc, List.length_append]
                exact hown9
              case measure => simp [intOf]; omega
          · have hx : clipX a b x = ⟨a, x.f, x.n, x.v, x.p, x.s, x.e⟩ := by simp [clipX, c5, c6]
            rw [hx] at hs
            clear hx
            go_wp2_with (at_builtin; refine wpList_append_lies _ rfl _ _ _ rfl w.heap.size 30 i0 (.agg #[.int .i64 0, .int .i64 0, .int .i64 0, .int .i64 0, .int .i64 0, .int .i64 0, .int .i64 0]) 7 56 Tryz.underlying25 hi.out hi0 hi1 hi2 rfl (by omega) _ _ _ (by rfl) ((hown.alloc _).alloc _) ⟨wr.heap.size + 1, 0, none⟩ 1 1 (encY ⟨a, x.f, x.n, x.v, x.p, x.s, x.e⟩) (by rfl) rfl ?_ (by intro u hu; simp [encY] at hu; rcases hu with rfl | rfl | rfl | rfl | rfl | rfl | rfl <;> rfl) (by omega) (by unfold maxLen; omega) (by omega) (by simp; omega) (wr.heap.size + 2) (by simp) ?_)
            · first
              | exact fun j u h => h
              | have h := heap_alloc_new (wr.alloc (.cells #[.int .i64 a, .int .i64 x.f, .int .i64 x.n, .int .i64 x.v, .int .i64 x.p, .int .i64 x.s, .int .i64 x.e] 30)) (.cells #[.int .i64 a, .int .i64 x.f, .int .i64 x.n, .int .i64 x.v, .int .i64 x.p, .int .i64 x.s, .int .i64 x.e] 30)
                rw [World.size_alloc] at h
                exact World.news_of_block h
            · intro g cap w9 hown9 hgrow hat hlt1
              have hlo := hown.lt
              go_wp2_with fail
              go_roundw
              case rel =>
                refine ⟨k + 1, by omega, by go_num, ?_, ((hB.alloc (by omega) _).alloc (by simp; omega) _).grown hgrow (by simp; omega) (fun j hj => (hlo j hj).1)⟩
                rw [hs.out, cellsY_snoc, List.length_append]
                exact hown9
              case measure => simp [intOf]; omega
        · by_cases c6 : b < x.f
          · have hx : clipX a b x = ⟨x.o, b, x.n, x.v, x.p, x.s, x.e⟩ := by simp [clipX, c5, c6]
            rw [hx] at hs
            clear hx
            go_wp2_with (at_builtin; refine wpList_append_lies _ rfl _ _ _ rfl w.heap.size 30 i0 (.agg #[.int .i64 0, .int .i64 0, .int .i64 0, .int .i64 0, .int .i64 0, .int .i64 0, .int .i64 0]) 7 56 Tryz.underlying25 hi.out hi0 hi1 hi2 rfl (by omega) _ _ _ (by rfl) ((hown.alloc _).alloc _) ⟨wr.heap.size + 1, 0, none⟩ 1 1 (encY ⟨x.o, b, x.n, x.v, x.p, x.s, x.e⟩) (by rfl) rfl ?_ (by intro u hu; simp [encY] at hu; rcases hu with rfl | rfl | rfl | rfl | rfl | rfl | rfl <;> rfl) (by omega) (by unfold maxLen; omega) (by omega) (by simp; omega) (wr.heap.size + 2) (by simp) ?_)
            · first
              | exact fun j u h => h
              | have h := heap_alloc_new (wr.alloc (.cells #[.int .i64 x.o, .int .i64 b, .int .i64 x.n, .int .i64 x.v, .int .i64 x.p, .int .i64 x.s, .int .i64 x.e] 30)) (.cells #[.int .i64 x.o, .int .i64 b, .int .i64 x.n, .int .i64 x.v, .int .i64 x.p, .int .i64 x.s, .int .i64 x.e] 30)
                rw [World.size_alloc] at h
                exact World.news_of_block h
            · intro g cap w9 hown9 hgrow hat hlt1
              have hlo := hown.lt
              go_wp2_with fail
              go_roundw
              case rel =>
                refine ⟨k + 1, by omega, by go_num, ?_, ((hB.alloc (by omega) _).alloc (by simp; omega) _).grown hgrow (by simp; omega) (fun j hj => (hlo j hj).1)⟩
                rw [hs.out, cellsY_snoc, List.length_append]
                exact hown9
              case measure => simp [intOf]; omega
          · have hx : clipX a b x = ⟨x.o, x.f, x.n, x.v, x.p, x.s, x.e⟩ := by simp [clipX, c5, c6]
            rw [hx] at hs
            clear hx
            go_wp2_with (at_builtin; refine wpList_append_lies _ rfl _ _ _ rfl w.heap.size 30 i0 (.agg #[.int .i64 0, .int .i64 0, .int .i64 0, .int .i64 0, .int .i64 0, .int .i64 0, .int .i64 0]) 7 56 Tryz.underlying25 hi.out hi0 hi1 hi2 rfl (by omega) _ _ _ (by rfl) ((hown.alloc _).alloc _) ⟨wr.heap.size + 1, 0, none⟩ 1 1 (encY ⟨x.o, x.f, x.n, x.v, x.p, x.s, x.e⟩) (by rfl) rfl ?_ (by intro u hu; simp [encY] at hu; rcases hu with rfl | rfl | rfl | rfl | rfl | rfl | rfl <;> rfl) (by omega) (by unfold maxLen; omega) (by omega) (by simp; omega) (wr.heap.size + 2) (by simp) ?_)
            · first
              | exact fun j u h => h
              | have h := heap_alloc_new (wr.alloc (.cells #[.int .i64 x.o, .int .i64 x.f, .int .i64 x.n, .int .i64 x.v, .int .i64 x.p, .int .i64 x.s, .int .i64 x.e] 30)) (.cells #[.int .i64 x.o, .int .i64 x.f, .int .i64 x.n, .int .i64 x.v, .int .i64 x.p, .int .i64 x.s, .int .i64 x.e] 30)
                rw [World.size_alloc] at h
                exact World.news_of_block h
            · intro g cap w9 hown9 hgrow hat hlt1
              have hlo := hown.lt
              go_wp2_with fail
              go_roundw
              case rel =>
                refine ⟨k + 1, by omega, by go_num, ?_, ((hB.alloc (by omega) _).alloc (by simp; omega) _).grown hgrow (by simp; omega) (fun j hj => (hlo j hj).1)⟩
                rw [hs.out, cellsY_snoc, List.length_append]
                exact hown9
              case measure => simp [intOf]; omega
      · have he : inT a b (nth l k) = false := by simpa using he
        have hs := Lib.hid (miss k (by omega) he)
        clear hit miss hln hrd h
        generalize clipF l a b k = Q at *
        generalize nth l k = x at *
        by_cases c1 : a < b
        · by_cases c2 : x.o < b
          · by_cases c3 : a < x.f
            · have c4 : ¬ x.o < x.f := by
                intro c4
                simp [inT, c1, c2, c3, c4] at he
              clear he
              go_wp2_with fail
              go_roundw
              case rel =>
                refine ⟨k + 1, by omega, by go_num, ?_, hB.alloc (by omega) _⟩
                rw [hs.out]
                exact hown.alloc _
              case measure => simp [intOf]; omega
            · clear he
              go_wp2_with fail
              go_roundw
              case rel =>
                refine ⟨k + 1, by omega, by go_num, ?_, hB.alloc (by omega) _⟩
                rw [hs.out]
                exact hown.alloc _
              case measure => simp [intOf]; omega
          · clear he
            go_wp2_with fail
            go_roundw
            case rel =>
              refine ⟨k + 1, by omega, by go_num, ?_, hB.alloc (by omega) _⟩
              rw [hs.out]
              exact hown.alloc _
            case measure => simp [intOf]; omega
        · clear he
          go_wp2_with fail
          go_roundw
          case rel =>
            refine ⟨k + 1, by omega, by go_num, ?_, hB.alloc (by omega) _⟩
            rw [hs.out]
            exact hown.alloc _
          case measure => simp [intOf]; omega
    · obtain rfl : k = n := by omega
      have hO := Lib.hid (ownY_slice hown)
      clear hit miss hln hown h
      go_wp2_with fail
      obtain ⟨B, d, rfl, hS⟩ := hO.out
      go_ret
      exact ⟨⟨B, d, rfl, hS⟩, hB⟩
end Go.Proofs.YtmbchdfgckmpoaaGreat
