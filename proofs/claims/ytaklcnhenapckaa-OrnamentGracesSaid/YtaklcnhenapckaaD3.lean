/- Graces of the model. -/
import Derived.Test.YtaklcnhenapckaaD2
namespace Go.Proofs.Ytaklcnhenapckaa
open Go.RowKit

/-- The times, as cells. -/
def timeCells (l : List Gr) (k : Nat) : List Value := (List.range k).map fun j => .int .i64 (timeF (gAt0 l j))
theorem timeCells_succ (l : List Gr) (k : Nat) : timeCells l (k + 1) = timeCells l k ++ [.int .i64 (timeF (gAt0 l k))] := by
  simp only [timeCells]; rw [List.range_succ, List.map_append]; rfl
theorem times_at {w : World} {B g n cap : Nat} {l : List Gr} {m : Nat} (h : w.ownsRow B 3 1 (.slice (some ⟨g, 0, none⟩) n cap) n (timeCells l m)) (k : Nat) (hk : k < m) : w.cell? ⟨g, k, none⟩ = some (.int .i64 (timeF (gAt0 l k))) := by
  have hc := h.cells (g := g) rfl k (.int .i64 (timeF (gAt0 l k))) (by simp [timeCells, hk])
  rw [add_none, Nat.zero_add] at hc
  exact hc

set_option maxHeartbeats 4000000 in
theorem gracesL_ok (l : List Gr) (n : Nat) (hl' : l.length = n) (b off cap : Nat) (s a o len : Int) (w : World) (hb : b < w.heap.size) (hr : RdG w b off n l) (h0 : 0 < n) (hn : n ≤ 10)
    (hc' : checkG l = 0) (hp : pitchCheckF s a o = 0) (l1 : 1 ≤ len) (l2 : len ≤ 4398046511104) :
    Calls Try.prog 20 #[.slice (some ⟨b, off, none⟩) n cap, pitchV s a o, .int .i64 len] w fun e w' => ∃ g cap', e = .returned (.tuple #[.slice (some ⟨g, 0, none⟩) n cap', .int .i64 (min (sumTo l n) (len / 2)), .int .i64 0]) ∧
      w'.ownsRow w.heap.size 36 3 (.slice (some ⟨g, 0, none⟩) n cap') n (cellsN (graceNotes l (numberF s a o) (min (sumTo l n) (len / 2)) (sumTo l n) n)) ∧ Below w.heap.size w w' := by
  obtain ⟨c1, c2⟩ := checkG_in hc'
  obtain ⟨p1, p2, p3, p4, p5, p6, p7, p8⟩ := pitchCheckF_in hp
  have hc := Lib.hid hc'
  have hR := Lib.hid hr
  have C2 := Lib.hid c2
  have hnum := Lib.hid (show numOr s a o = numberF s a o from (numOr_in hp).symm)
  generalize hB : numberF s a o = base at *
  have hl := Lib.hid hl'
  have hP := Lib.hid hp
  rw [hl'] at c1
  clear hl' hc' hr c2 hB hp
  obtain ⟨i0, hi, iz0, iz1, iz2⟩ := info_parts info3
  have HI := Lib.hid hi
  clear hi
  obtain ⟨j0, hj, jz0, jz1, jz2⟩ := info_parts info36
  have HJ := Lib.hid hj
  clear hj
  have d1 : decide ((8 : Int) < (n : Int)) = false := decide_eq_false (by omega)
  have d2 : decide (len < 1) = false := decide_eq_false (by omega)
  have d3 : decide (4398046511104 < len) = false := decide_eq_false (by omega)
  go_enter Try.func20, Try.ntmps20
  go_wp2_with fail
  refine (checkGraces l n hl.out b off cap _ (by simp; omega) (hR.out.below (B := w.heap.size) ((Below.refl _ _).alloc (Nat.le_refl _) _) hb) h0 hn).mono ?_
  rintro e w1 ⟨rfl, hb1⟩
  rw [hc.out]
  obtain ⟨hc1, hf1⟩ := bcell hb1
  have hz1 : w.heap.size < w1.heap.size := by have := hb1.size; simp at this; omega
  have B1 : Below (w.heap.size + 1) (w.alloc (.cells #[.int .i64 s, .int .i64 a, .int .i64 o] 23)) w1 := by rw [World.size_alloc] at hb1; exact hb1
  go_wp2_with fail
  refine (pitchCheck _ _ _ _).mono ?_; rintro e w2 ⟨rfl, hb2⟩
  rw [hP.out]
  have hz2 : w.heap.size < w2.heap.size := by have := hb2.size; omega
  have B2 : Below (w.heap.size + 1) (w.alloc (.cells #[.int .i64 s, .int .i64 a, .int .i64 o] 23)) w2 := B1.trans (hb2.mono (by omega))
  have B0 : Below w.heap.size w (w.alloc (.cells #[.int .i64 s, .int .i64 a, .int .i64 o] 23)) := (Below.refl _ _).alloc (Nat.le_refl _) _
  go_wp2_with fail
  go_loopw [11, 12, 13] (fun sm v i wr => ∃ k : Nat, k ≤ n ∧ i = .int .i64 k ∧ sm = .int .i64 (sumTo l k) ∧ wr.ownsRow (w.heap.size + 1) 3 1 v k (timeCells l k) ∧ Below (w.heap.size + 1) (w.alloc (.cells #[.int .i64 s, .int .i64 a, .int .i64 o] 23)) wr) (fun _ _ i _ => n - (intOf i).toNat)
  case atStart => exact ⟨0, by omega, rfl, rfl, World.ownsRow_nil _ _ _ _, B2⟩
  case round =>
    obtain ⟨k, hk, rfl, rfl, hown, hbel⟩ := hrel
    have hz : w.heap.size + 1 ≤ wr.heap.size := by have := hbel.size; simp at this; omega
    have hbw : Below w.heap.size w wr := B0.trans (hbel.mono (by omega))
    by_cases hlt : k < n
    · obtain ⟨a1, a2, a3, a4, a5⟩ := (hR.out.below hbw hb) k hlt
      obtain ⟨_, x1, x2⟩ := C2.out k (by rw [hl.out]; exact hlt)
      have sh := shrT _ x1 x2
      have tb := timeT_bd (gAt0 l k).log
      have sb := sumTo_bd l k
      have hs := Lib.hid (timeCells_succ l k)
      have ss := Lib.hid (show sumTo l (k + 1) = sumTo l k + timeF (gAt0 l k) from rfl)
      have tf := Lib.hid (show timeF (gAt0 l k) = if (gAt0 l k).slash then 30240 else timeT (gAt0 l k).log from rfl)
      generalize (gAt0 l k).s = S at *
      generalize (gAt0 l k).a = A at *
      generalize (gAt0 l k).o = O at *
      generalize (gAt0 l k).log = L at *
      cases hsl : (gAt0 l k).slash
      · rw [hsl] at a5 tf
        have hs2 := Lib.hid (show timeCells l (k + 1) = timeCells l k ++ [.int .i64 (timeT L)] by rw [hs.out, tf.out]; rfl)
        have ss2 := Lib.hid (show sumTo l (k + 1) = sumTo l k + timeT L by rw [ss.out, tf.out]; rfl)
        clear hsl
        go_wp2_with (at_builtin; refine wpList_append_lies _ rfl _ _ _ rfl (w.heap.size + 1) 3 i0 (.int .i64 0) 1 8 Try.underlying62 HI.out iz0 iz1 iz2 rfl (by omega) _ k _ (by rfl) (hown.alloc _) ⟨wr.heap.size, 0, none⟩ 1 1 [.int .i64 (timeT L)] (by rfl) rfl (World.news_of_block (heap_alloc_new wr _)) (one1 _) (by omega) (by unfold maxLen; omega) (by omega) (by simp; omega) (wr.heap.size + 1) (by simp) ?_; intro g' cap' w3 hown1 hgrow hat hlt1)
        rw [← hs2.out] at hown1
        go_roundw
        case rel => exact ⟨k + 1, by omega, by go_num, by rw [ss2.out], hown1, (hbel.alloc hz _).grown hgrow (by simp; omega) (fun j hj => (hown.lt j hj).1)⟩
        case measure => simp [intOf]; omega
      · rw [hsl] at a5 tf
        have hs2 := Lib.hid (show timeCells l (k + 1) = timeCells l k ++ [.int .i64 (30240)] by rw [hs.out, tf.out]; rfl)
        have ss2 := Lib.hid (show sumTo l (k + 1) = sumTo l k + 30240 by rw [ss.out, tf.out]; rfl)
        clear hsl
        go_wp2_with (at_builtin; refine wpList_append_lies _ rfl _ _ _ rfl (w.heap.size + 1) 3 i0 (.int .i64 0) 1 8 Try.underlying62 HI.out iz0 iz1 iz2 rfl (by omega) _ k _ (by rfl) (hown.alloc _) ⟨wr.heap.size, 0, none⟩ 1 1 [.int .i64 (30240)] (by rfl) rfl (World.news_of_block (heap_alloc_new wr _)) (one1 _) (by omega) (by unfold maxLen; omega) (by omega) (by simp; omega) (wr.heap.size + 1) (by simp) ?_; intro g' cap' w3 hown1 hgrow hat hlt1)
        rw [← hs2.out] at hown1
        go_roundw
        case rel => exact ⟨k + 1, by omega, by go_num, by rw [ss2.out], hown1, (hbel.alloc hz _).grown hgrow (by simp; omega) (fun j hj => (hown.lt j hj).1)⟩
        case measure => simp [intOf]; omega
    · obtain rfl : k = n := by omega
      have tb := sumTo_bd l k
      obtain ⟨g, cap1, rfl, _, hg4⟩ := hown.form (by omega)
      obtain ⟨taken, et, t0, t1, et2⟩ : ∃ taken, (if len / 2 < sumTo l k then len / 2 else sumTo l k) = taken ∧ 0 ≤ taken ∧ taken ≤ sumTo l k ∧ min (sumTo l k) (len / 2) = taken := by
        refine ⟨_, rfl, ?_, ?_, ?_⟩ <;> split <;> omega
      have et2 := Lib.hid et2
      have n0 : (sumTo l k == 0) = false := beq_eq_false_iff_ne.2 (by omega)
      have n1 : ¬ sumTo l k = 0 := by omega
      obtain ⟨wz, rfl⟩ : ∃ w4, w4 = wr := ⟨_, rfl⟩
      have S0 := Lib.hid (fun j (hj : j < k) => times_at hown j hj)
      have pc1 : wz.cell? ⟨w.heap.size, 0, none⟩ = some (.int .i64 s) := (hbel.cell (p := ⟨w.heap.size, 0, none⟩) (by simp)).trans (by simp)
      have pc2 : wz.cell? ⟨w.heap.size, 1, none⟩ = some (.int .i64 a) := (hbel.cell (p := ⟨w.heap.size, 1, none⟩) (by simp)).trans (by simp)
      have pc3 : wz.cell? ⟨w.heap.size, 2, none⟩ = some (.int .i64 o) := (hbel.cell (p := ⟨w.heap.size, 2, none⟩) (by simp)).trans (by simp)
      go_wp2_with fail
      refine (numberC _ _ _ _).mono ?_; rintro e w4 ⟨rfl, hb4⟩
      rw [hP.out, hnum.out]
      clear pc1 pc2 pc3
      have hzz := hb4.size
      have S1 := Lib.hid (fun j (hj : j < k) => (hb4.cell (p := ⟨g, j, none⟩) hg4).trans (S0.out j hj))
      have hbw4 : Below w.heap.size w w4 := hbw.trans (hb4.mono (by omega))
      go_wp2_with fail
      go_loopw [18, 19, 20] (fun v at_ i wr => ∃ m : Nat, m ≤ k ∧ i = .int .i64 m ∧ at_ = .int .i64 (sumTo l m) ∧ wr.ownsRow w4.heap.size 36 3 v m (cellsN (graceNotes l base taken (sumTo l k) m)) ∧ Below w4.heap.size w4 wr) (fun _ _ i _ => k - (intOf i).toNat)
      case atStart => exact ⟨0, by omega, rfl, rfl, World.ownsRow_nil _ _ _ _, Below.refl _ _⟩
      case round =>
        obtain ⟨m, hm, rfl, rfl, hownN, hbel4⟩ := hrel
        have hz4 := hbel4.size
        have hbwr : Below w.heap.size w wr := hbw4.trans (hbel4.mono (by omega))
        by_cases hlt : m < k
        · obtain ⟨a1, a2, a3, a4, a5⟩ := (hR.out.below hbwr hb) m hlt
          obtain ⟨x0, x1, x2⟩ := C2.out m (by rw [hl.out]; exact hlt)
          have nm := Lib.hid (numOr_in x0)
          have nb := (pitchCheckF_in x0).2.2.2.2.2.2
          have x0 := Lib.hid x0
          have gs := Lib.hid (graceNotes_succ l base taken (sumTo l k) m)
          have gn := Lib.hid (show graceNote l base taken (sumTo l k) m = (sumTo l m * taken / sumTo l k, (sumTo l m + timeF (gAt0 l m)) * taken / sumTo l k, numberF (gAt0 l m).s (gAt0 l m).a (gAt0 l m).o - base) from rfl)
          have ss := Lib.hid (show sumTo l (m + 1) = sumTo l m + timeF (gAt0 l m) from rfl)
          have s1' := (hbel4.cell (p := ⟨g, m, none⟩) (by show g < _; omega)).trans (S1.out m hlt)
          have tf := timeF_bd (gAt0 l m)
          generalize timeF (gAt0 l m) = T at *
          generalize (gAt0 l m).s = S at *
          generalize (gAt0 l m).a = A at *
          generalize (gAt0 l m).o = O at *
          generalize (gAt0 l m).log = L at *
          generalize (gAt0 l m).slash = SL at *
          have i1 : (0 : Int) ≤ (m : Int) := by omega
          have i4 : (m : Int) < (k : Int) := by omega
          go_wp2_with fail
          refine (numberC _ _ _ _).mono ?_; rintro e w5 ⟨rfl, hb5⟩
          rw [x0.out, ← nm.out]
          have hownN5 := owns_below hownN hb5
          have hz5 := hb5.size
          have B5 : Below w4.heap.size w4 w5 := hbel4.trans (hb5.mono (by omega))
          have hg4' : g < w4.heap.size := by omega
          have s1 : w5.cell? ⟨g, m, none⟩ = some (.int .i64 T) := (hb5.cell (p := ⟨g, m, none⟩) (by show g < _; omega)).trans s1'
          clear s1'
          have q1 := sumTo_bd l m
          have P1 := mul_bd (a := sumTo l m) (b := taken) (x := 8000000) (y := 8000000) (by omega) (by omega) t0 (by omega)
          have P2 := mul_bd (a := sumTo l m + T) (b := taken) (x := 9000000) (y := 8000000) (by omega) (by omega) t0 (by omega)
          have om1 : m + 1 ≤ maxLen := by unfold maxLen; omega
          have om2 : (m + 1) * 24 ≤ 140737488355328 := by omega
          have av : u18.ownBlock ≠ some g := fun e => by have := (hownN.lt _ e).1; omega
          have hg5 : g < w5.heap.size := by omega
          have o1 : w4.heap.size ≤ (w5.alloc (.cells #[.int .i64 (sumTo l m * taken / sumTo l k), .int .i64 ((sumTo l m + T) * taken / sumTo l k), .int .i64 (numberF S A O - base)] 36)).drew.heap.size := by simp; omega
          have e1 : IntKind.i64.wrap (sumTo l m + T) = sumTo l m + T := IntWalk.i64_in _ (by omega)
          have e2 : IntKind.i64.wrap (sumTo l m * taken) = sumTo l m * taken := IntWalk.i64_in _ (by omega)
          have e3 : IntKind.i64.wrap ((sumTo l m + T) * taken) = (sumTo l m + T) * taken := IntWalk.i64_in _ (by omega)
          have e4 : IntKind.i64.wrap (numberF S A O - base) = numberF S A O - base := IntWalk.i64_in _ (by omega)
          have e5 : IntKind.i64.wrap ((sumTo l m * taken).tdiv (sumTo l k)) = sumTo l m * taken / sumTo l k := IntWalk.i64_quo _ _ (by omega)
          have e6 : IntKind.i64.wrap (((sumTo l m + T) * taken).tdiv (sumTo l k)) = (sumTo l m + T) * taken / sumTo l k := IntWalk.i64_quo _ _ (by omega)
          go_wp2_with fail
          go_region_held3 (fun w' => w'.cell? ⟨g, m, none⟩ = some (.int .i64 T))
            (first | go_keep | (rw [hgrow.cell_far _ (by simp; omega) (Ne.symm av)]; assumption))
            ((refine step_append_lies _ (by rfl) _ _ _ (by rfl) w4.heap.size 36 j0 (.agg #[.int .i64 0, .int .i64 0, .int .i64 0]) 3 24 Try.underlying30 HJ.out jz0 jz1 jz2 rfl (by omega) _ m _ (by rfl) ((hownN5.alloc _).drew) ⟨w5.heap.size, 0, none⟩ 1 1 [.int .i64 (sumTo l m * taken / sumTo l k), .int .i64 ((sumTo l m + T) * taken / sumTo l k), .int .i64 (numberF S A O - base)] (by rfl) (by rfl) (World.news_of_block (new1d w5 _)) (one3 _ _ _) (by decide) om1 om2 o1 (w5.heap.size + 1) (by simp) ?_; intro g' cap' w6 hown1 hgrow hat hlt1))
          clear e1 e2 e3 e4 e5 e6
          rw [cellsN_gn gs.out gn.out] at hown1
          have s6 : w6.cell? ⟨g, m, none⟩ = some (.int .i64 T) := (hgrow.cell_far ⟨g, m, none⟩ (by simp; omega) (Ne.symm av)).trans ((show _ = _ from World.cell?_alloc_lt w5 _ ⟨g, m, none⟩ hg5).trans s1)
          go_wp2
          go_roundw
          case rel => exact ⟨m + 1, by omega, by go_num, by rw [ss.out], hown1, (((B5.alloc (by omega) _).drew).grown hgrow (by simp; omega) (fun j hj => (hownN.lt j hj).1))⟩
          case measure => simp [intOf]; omega
        · obtain rfl : m = k := by omega
          obtain ⟨g', cap', rfl, _, _⟩ := hownN.form (by omega)
          go_wp2_with fail
          go_ret3
          rw [et2.out]
          exact ⟨g', cap', rfl, owns_mono hownN (by omega), hbwr⟩
end Go.Proofs.Ytaklcnhenapckaa
