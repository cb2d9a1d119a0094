/- Graces of the program. -/
import Derived.Test.YtaklcnhenapckaaD1
import Derived.Test.YtaklcnhenapckaaB5
import Derived.Test.YtaklcnhenapckaaB2
import Derived.Deep.RegionHeld3
import Derived.Deep.AppendLies
namespace Go.Proofs.Ytaklcnhenapckaa
open Go.RowKit

def timeT (log : Int) : Int := if log = 1 then 967680 else if log = 2 then 483840 else if log = 3 then 241920 else if log = 4 then 120960 else if log = 5 then 60480 else 30240
def timeF (g : Gr) : Int := if g.slash then 30240 else timeT g.log
def sumTo (l : List Gr) : Nat → Int
  | 0 => 0
  | k + 1 => sumTo l k + timeF (gAt0 l k)
theorem timeT_bd (x : Int) : 30240 ≤ timeT x ∧ timeT x ≤ 967680 := by unfold timeT; (repeat' split) <;> omega
theorem timeF_bd (g : Gr) : 30240 ≤ timeF g ∧ timeF g ≤ 967680 := by unfold timeF; have := timeT_bd g.log; split <;> omega
theorem sumTo_bd (l : List Gr) (k : Nat) : 30240 * (k : Int) ≤ sumTo l k ∧ sumTo l k ≤ 967680 * (k : Int) := by
  induction k with
  | zero => simp [sumTo]
  | succ k ih => have := timeF_bd (gAt0 l k); simp only [sumTo]; omega
theorem sumTo_mono (l : List Gr) {k m : Nat} (h : k ≤ m) : sumTo l k ≤ sumTo l m := by
  induction m with
  | zero => obtain rfl : k = 0 := by omega
            exact Int.le_refl _
  | succ m ih =>
    by_cases e : k = m + 1
    · subst e; exact Int.le_refl _
    · have := timeF_bd (gAt0 l m); have := ih (by omega); simp only [sumTo]; omega

theorem shrT (x : Int) (h1 : 1 ≤ x) (h2 : x ≤ 6) : (1935360 : Int) / 2 ^ x.toNat = timeT x := by
  have h : x = 1 ∨ x = 2 ∨ x = 3 ∨ x = 4 ∨ x = 5 ∨ x = 6 := by omega
  rcases h with rfl | rfl | rfl | rfl | rfl | rfl <;> rfl

theorem one1 (x : Int) : ∀ u ∈ [Value.int .i64 x], u.oneCell' = true := by intro u hu; simp at hu; subst hu; rfl
theorem one3 (x y z : Int) : ∀ u ∈ [Value.int .i64 x, .int .i64 y, .int .i64 z], u.oneCell' = true := by intro u hu; simp at hu; rcases hu with rfl | rfl | rfl <;> rfl

theorem new1d (w : World) (a : Obj) : (w.alloc a).drew.heap[w.heap.size]? = some a := heap_alloc_new w a

theorem newN (w : World) (a b : Obj) : ((w.alloc a).alloc b).heap[w.heap.size + 1]? = some b := by
  have h := heap_alloc_new (w.alloc a) b
  rw [World.size_alloc] at h
  exact h

theorem checkL_in {l : List Gr} (h : checkL l = 0) : ∀ k (hk : k < l.length), pitchCheckF l[k].s l[k].a l[k].o = 0 ∧ 1 ≤ l[k].log ∧ l[k].log ≤ 6 := by
  induction l with
  | nil => intro k hk; simp at hk
  | cons g l ih =>
    rw [checkL] at h
    split at h
    · omega
    · split at h
      · omega
      · intro k hk
        cases k with
        | zero => simp; omega
        | succ k => simpa using ih h k (by simpa using hk)

theorem checkG_in {l : List Gr} (h : checkG l = 0) : l.length ≤ 8 ∧ ∀ k, k < l.length → pitchCheckF (gAt0 l k).s (gAt0 l k).a (gAt0 l k).o = 0 ∧ 1 ≤ (gAt0 l k).log ∧ (gAt0 l k).log ≤ 6 := by
  unfold checkG at h
  split at h
  · omega
  · refine ⟨by omega, fun k hk => ?_⟩
    have e : gAt0 l k = l[k] := by simp [gAt0, List.getD, hk]
    rw [e]
    exact checkL_in h k hk

/-- The notes of grace notes, the first k of them. -/
def graceNote (l : List Gr) (base taken t : Int) (k : Nat) : Int × Int × Int := (sumTo l k * taken / t, sumTo l (k + 1) * taken / t, numberF (gAt0 l k).s (gAt0 l k).a (gAt0 l k).o - base)
def graceNotes (l : List Gr) (base taken t : Int) (k : Nat) : List (Int × Int × Int) := (List.range k).map (graceNote l base taken t)
theorem graceNotes_succ (l : List Gr) (base taken t : Int) (k : Nat) : graceNotes l base taken t (k + 1) = graceNotes l base taken t k ++ [graceNote l base taken t k] := by simp [graceNotes, List.range_succ]
theorem graceNotes_len (l : List Gr) (base taken t : Int) (k : Nat) : (graceNotes l base taken t k).length = k := by simp [graceNotes]

/-- The sums, as cells. -/
def sumCells (l : List Gr) (k : Nat) : List Value := (List.range (k + 1)).map fun j => .int .i64 (sumTo l j)
theorem sumCells_succ (l : List Gr) (k : Nat) : sumCells l (k + 1) = sumCells l k ++ [.int .i64 (sumTo l k + timeF (gAt0 l k))] := by
  simp only [sumCells]; rw [List.range_succ, List.map_append]; rfl

theorem cellsN_gn {l : List Gr} {base taken t : Int} {k : Nat} {a b c : Int} (h : graceNotes l base taken t (k + 1) = graceNotes l base taken t k ++ [graceNote l base taken t k]) (hn : graceNote l base taken t k = (a, b, c)) :
    cellsN (graceNotes l base taken t k) ++ [.int .i64 a, .int .i64 b, .int .i64 c] = cellsN (graceNotes l base taken t (k + 1)) := by rw [h, hn, cellsN_snoc]

theorem info3 : (Try.prog.info? 3).map (fun i => (i.zero, i.size, i.bytes)) = some (some (.int .i64 0), 1, 8) := by kernel_rfl

/-- What is owned as sums has its k-th sum in its k-th cell. -/
theorem sums_at {w : World} {B g n cap : Nat} {l : List Gr} {m : Nat} (h : w.ownsRow B 3 1 (.slice (some ⟨g, 0, none⟩) n cap) n (sumCells l m)) (k : Nat) (hk : k ≤ m) : w.cell? ⟨g, k, none⟩ = some (.int .i64 (sumTo l k)) := by
  have hc := h.cells (g := g) rfl k (.int .i64 (sumTo l k)) (by simp [sumCells, show k < m + 1 by omega])
  rw [add_none, Nat.zero_add] at hc
  exact hc

/-- What is owned stays owned where nothing that was there has turned. -/
theorem owns_below {w w' : World} {base e size n : Nat} {v : Value} {xs : List Value} (h : w.ownsRow base e size v n xs) (hb : Below w.heap.size w w') : w'.ownsRow base e size v n xs :=
  h.kept (row := none) ⟨hb.os, hb.tape, hb.output, hb.size, fun k hk _ => hb.block k hk⟩ (by cases hv : v.ownBlock <;> simp)
theorem owns_mono {w : World} {base base' e size n : Nat} {v : Value} {xs : List Value} (h : w.ownsRow base e size v n xs) (hb : base' ≤ base) : w.ownsRow base' e size v n xs := by
  obtain ⟨h1, h2⟩ := h
  refine ⟨h1, ?_⟩
  rcases h2 with h2 | ⟨g, cap, cur, r1, r2, r3⟩
  · exact .inl h2
  · exact .inr ⟨g, cap, cur, r1, by omega, r3⟩

set_option maxHeartbeats 4000000 in
theorem gracesO_ok (l : List Gr) (n : Nat) (hl' : l.length = n) (b off cap : Nat) (s a o len : Int) (w : World) (hb : b < w.heap.size) (hr : RdG w b off n l) (h0 : 0 < n) (hn : n ≤ 10)
    (hc' : checkG l = 0) (hp : pitchCheckF s a o = 0) (l1 : 1 ≤ len) (l2 : len ≤ 4398046511104) :
    Calls Try.prog 19 #[.slice (some ⟨b, off, none⟩) n cap, pitchV s a o, .int .i64 len] w fun e w' => ∃ g cap', e = .returned (.tuple #[.slice (some ⟨g, 0, none⟩) n cap', .int .i64 (min (sumTo l n) (len / 2)), .int .i64 0]) ∧
      w'.ownsRow w.heap.size 36 3 (.slice (some ⟨g, 0, none⟩) n cap') n (cellsN (graceNotes l (numberF s a o) (min (sumTo l n) (len / 2)) (sumTo l n) n)) ∧ Below w.heap.size w w' := by
  obtain ⟨c1, c2⟩ := checkG_in hc'
  obtain ⟨p1, p2, p3, p4, p5, p6, p7, p8⟩ := pitchCheckF_in hp
  have hc := Lib.hid hc'
  have hR := Lib.hid hr
  have C2 := Lib.hid c2
  have hnum := Lib.hid (show numOr s a o = numberF s a o from (numOr_in hp).symm)
  generalize hB : numberF s a o = base at *
  have hl := Lib.hid hl'
  have hP := Lib.hid hp
  rw [hl'] at c1
  clear hl' hc' hr c2 hB hp
  obtain ⟨i0, hi, iz0, iz1, iz2⟩ := info_parts info3
  have HI := Lib.hid hi
  clear hi
  obtain ⟨j0, hj, jz0, jz1, jz2⟩ := info_parts info36
  have HJ := Lib.hid hj
  clear hj
  have d1 : decide ((8 : Int) < (n : Int)) = false := decide_eq_false (by omega)
  have d2 : decide (len < 1) = false := decide_eq_false (by omega)
  have d3 : decide (4398046511104 < len) = false := decide_eq_false (by omega)
  go_enter Try.func19, Try.ntmps19
  go_wp2_with fail
  refine (checkGraces l n hl.out b off cap _ (by simp; omega) (hR.out.below (B := w.heap.size) ((Below.refl _ _).alloc (Nat.le_refl _) _) hb) h0 hn).mono ?_
  rintro e w1 ⟨rfl, hb1⟩
  rw [hc.out]
  obtain ⟨hc1, hf1⟩ := bcell hb1
  have hz1 : w.heap.size < w1.heap.size := by have := hb1.size; simp at this; omega
  have B1 := bstep ((Below.refl _ _).alloc (Nat.le_refl _) _) hb1
  go_wp2_with fail
  refine (numberC _ _ _ _).mono ?_; rintro e w2 ⟨rfl, hb2⟩
  rw [hP.out, hnum.out]
  have hz2 : w.heap.size < w2.heap.size := by have := hb2.size; omega
  have B2 := bstep B1 hb2
  go_wp2_with fail
  go_loopw [11, 47] (fun v i wr => ∃ k : Nat, k ≤ n ∧ i = .int .i64 k ∧ wr.ownsRow w.heap.size 3 1 v (k + 1) (sumCells l k) ∧ Below w.heap.size w wr) (fun _ i _ => n - (intOf i).toNat)
  case atStart => exact ⟨0, by omega, rfl, owns_full w2 w.heap.size #[.int .i64 0] 3 1 1 (by omega) rfl (by unfold maxLen; omega), B2.alloc (by omega) _⟩
  case round =>
    obtain ⟨k, hk, rfl, hown, hbel⟩ := hrel
    have hz := hbel.size
    obtain ⟨g, cap1, rfl, _, _⟩ := hown.form (by omega)
    have sk := sums_at hown k (Nat.le_refl _)
    by_cases hlt : k < n
    · obtain ⟨a1, a2, a3, a4, a5⟩ := (hR.out.below hbel hb) k hlt
      obtain ⟨_, x1, x2⟩ := C2.out k (by rw [hl.out]; exact hlt)
      have sh := shrT _ x1 x2
      have tb := timeT_bd (gAt0 l k).log
      have sb := sumTo_bd l k
      have hs := Lib.hid (sumCells_succ l k)
      have tf := Lib.hid (show timeF (gAt0 l k) = if (gAt0 l k).slash then 30240 else timeT (gAt0 l k).log from rfl)
      generalize (gAt0 l k).s = S at *
      generalize (gAt0 l k).a = A at *
      generalize (gAt0 l k).o = O at *
      generalize (gAt0 l k).log = L at *
      cases hsl : (gAt0 l k).slash
      · rw [hsl] at a5 tf
        have hs2 := Lib.hid (show sumCells l (k + 1) = sumCells l k ++ [.int .i64 (sumTo l k + timeT L)] by rw [hs.out, tf.out]; rfl)
        clear hsl
        go_wp2_with (at_builtin; refine wpList_append_lies _ rfl _ _ _ rfl w.heap.size 3 i0 (.int .i64 0) 1 8 Try.underlying62 HI.out iz0 iz1 iz2 rfl (by omega) _ (k + 1) _ (by rfl) ((hown.alloc _).alloc _) ⟨wr.heap.size + 1, 0, none⟩ 1 1 [.int .i64 (sumTo l k + timeT L)] (by rfl) rfl (World.news_of_block (newN wr _ _)) (one1 _) (by omega) (by unfold maxLen; omega) (by omega) (by simp; omega) (wr.heap.size + 2) (by simp) ?_; intro g' cap' w3 hown1 hgrow hat hlt1)
        rw [← hs2.out] at hown1
        go_roundw
        case rel => exact ⟨k + 1, by omega, by go_num, hown1, ((hbel.alloc hz _).alloc (by simp; omega) _).grown hgrow (by simp; omega) (fun j hj => (hown.lt j hj).1)⟩
        case measure => simp [intOf]; omega
      · rw [hsl] at a5 tf
        have hs2 := Lib.hid (show sumCells l (k + 1) = sumCells l k ++ [.int .i64 (sumTo l k + 30240)] by rw [hs.out, tf.out]; rfl)
        clear hsl
        go_wp2_with (at_builtin; refine wpList_append_lies _ rfl _ _ _ rfl w.heap.size 3 i0 (.int .i64 0) 1 8 Try.underlying62 HI.out iz0 iz1 iz2 rfl (by omega) _ (k + 1) _ (by rfl) ((hown.alloc _).alloc _) ⟨wr.heap.size + 1, 0, none⟩ 1 1 [.int .i64 (sumTo l k + 30240)] (by rfl) rfl (World.news_of_block (newN wr _ _)) (one1 _) (by omega) (by unfold maxLen; omega) (by omega) (by simp; omega) (wr.heap.size + 2) (by simp) ?_; intro g' cap' w3 hown1 hgrow hat hlt1)
        rw [← hs2.out] at hown1
        go_roundw
        case rel => exact ⟨k + 1, by omega, by go_num, hown1, ((hbel.alloc hz _).alloc (by simp; omega) _).grown hgrow (by simp; omega) (fun j hj => (hown.lt j hj).1)⟩
        case measure => simp [intOf]; omega
    · obtain rfl : k = n := by omega
      have tb := sumTo_bd l k
      obtain ⟨taken, et, t0, t1, et2⟩ : ∃ taken, (if len / 2 < sumTo l k then len / 2 else sumTo l k) = taken ∧ 0 ≤ taken ∧ taken ≤ sumTo l k ∧ min (sumTo l k) (len / 2) = taken := by
        refine ⟨_, rfl, ?_, ?_, ?_⟩ <;> split <;> omega
      have et2 := Lib.hid et2
      obtain ⟨w4, rfl⟩ : ∃ w4, w4 = wr := ⟨_, rfl⟩
      have S0 := Lib.hid (fun j (hj : j ≤ k) => sums_at hown j hj)
      go_wp2_with fail
      go_loopw [6, 78] (fun v i wr => ∃ m : Nat, m ≤ k ∧ i = .int .i64 m ∧ wr.ownsRow w4.heap.size 36 3 v m (cellsN (graceNotes l base taken (sumTo l k) m)) ∧ Below w4.heap.size w4 wr) (fun _ i _ => k - (intOf i).toNat)
      case atStart => exact ⟨0, by omega, rfl, World.ownsRow_nil _ _ _ _, Below.refl _ _⟩
      case round =>
        obtain ⟨m, hm, rfl, hownN, hbel4⟩ := hrel
        have hz4 := hbel4.size
        have hbw : Below w.heap.size w wr := hbel.trans (hbel4.mono hz)
        by_cases hlt : m < k
        · obtain ⟨a1, a2, a3, a4, a5⟩ := (hR.out.below hbw hb) m hlt
          obtain ⟨x0, x1, x2⟩ := C2.out m (by rw [hl.out]; exact hlt)
          have nm := Lib.hid (numOr_in x0)
          have nb := (pitchCheckF_in x0).2.2.2.2.2.2
          have x0 := Lib.hid x0
          have gs := Lib.hid (graceNotes_succ l base taken (sumTo l k) m)
          have gn := Lib.hid (show graceNote l base taken (sumTo l k) m = (sumTo l m * taken / sumTo l k, sumTo l (m + 1) * taken / sumTo l k, numberF (gAt0 l m).s (gAt0 l m).a (gAt0 l m).o - base) from rfl)
          generalize (gAt0 l m).s = S at *
          generalize (gAt0 l m).a = A at *
          generalize (gAt0 l m).o = O at *
          generalize (gAt0 l m).log = L at *
          generalize (gAt0 l m).slash = SL at *
          go_wp2_with fail
          refine (numberC _ _ _ _).mono ?_; rintro e w5 ⟨rfl, hb5⟩
          rw [x0.out, ← nm.out]
          have hownN5 := owns_below (hownN.alloc _) hb5
          have hz5 := hb5.size
          rw [World.size_alloc] at hz5
          have B5 : Below w4.heap.size w4 w5 := (hbel4.alloc hz4 _).trans (hb5.mono (by simp; omega))
          have hg4 : g < w4.heap.size := by assumption
          have s1 : w5.cell? ⟨g, m, none⟩ = some (.int .i64 (sumTo l m)) := (B5.cell (p := ⟨g, m, none⟩) hg4).trans (S0.out m (by omega))
          have s2 : w5.cell? ⟨g, m + 1, none⟩ = some (.int .i64 (sumTo l (m + 1))) := (B5.cell (p := ⟨g, m + 1, none⟩) hg4).trans (S0.out (m + 1) (by omega))
          have q1 := sumTo_bd l m
          have q2 := sumTo_bd l (m + 1)
          have P1 := mul_bd (a := sumTo l m) (b := taken) (x := 8000000) (y := 8000000) (by omega) (by omega) t0 (by omega)
          have P2 := mul_bd (a := sumTo l (m + 1)) (b := taken) (x := 8000000) (y := 8000000) (by omega) (by omega) t0 (by omega)
          have i1 : (0 : Int) ≤ (m : Int) := by omega
          have i2 : (m : Int) < (k : Int) + 1 := by omega
          have i3 : (0 : Int) ≤ (m : Int) + 1 := by omega
          have i4 : (m : Int) < (k : Int) := by omega
          have i5 : (m : Int) + 1 < (k : Int) + 1 := by omega
          have i6 : ((m : Int) + 1).toNat = m + 1 := by omega
          have n0 : (sumTo l k == 0) = false := beq_eq_false_iff_ne.2 (by omega)
          have n1 : ¬ sumTo l k = 0 := by omega
          have om1 : m + 1 ≤ maxLen := by unfold maxLen; omega
          have om2 : (m + 1) * 24 ≤ 140737488355328 := by omega
          have e1 : IntKind.i64.wrap ((m : Int) + 1) = (m : Int) + 1 := IntWalk.i64_in _ (by omega)
          have e2 : IntKind.i64.wrap (sumTo l m * taken) = sumTo l m * taken := IntWalk.i64_in _ (by omega)
          have e3 : IntKind.i64.wrap (sumTo l (m + 1) * taken) = sumTo l (m + 1) * taken := IntWalk.i64_in _ (by omega)
          have e4 : IntKind.i64.wrap (numberF S A O - base) = numberF S A O - base := IntWalk.i64_in _ (by omega)
          have e5 : IntKind.i64.wrap ((sumTo l m * taken).tdiv (sumTo l k)) = sumTo l m * taken / sumTo l k := IntWalk.i64_quo _ _ (by omega)
          have e6 : IntKind.i64.wrap ((sumTo l (m + 1) * taken).tdiv (sumTo l k)) = sumTo l (m + 1) * taken / sumTo l k := IntWalk.i64_quo _ _ (by omega)
          have av : u6.ownBlock ≠ some g := fun e => by have := (hownN.lt _ e).1; omega
          have hg5 : g < w5.heap.size := by omega
          have o1 : w4.heap.size ≤ (w5.alloc (.cells #[.int .i64 (sumTo l m * taken / sumTo l k), .int .i64 (sumTo l (m + 1) * taken / sumTo l k), .int .i64 (numberF S A O - base)] 36)).drew.heap.size := by simp; omega
          go_wp2_with fail
          go_region_held3 (fun w' => w'.cell? ⟨g, m, none⟩ = some (.int .i64 (sumTo l m)) ∧ w'.cell? ⟨g, m + 1, none⟩ = some (.int .i64 (sumTo l (m + 1))))
            (first | go_keep | (go_split_ands; refine ⟨?_, ?_⟩ <;> (rw [hgrow.cell_far _ (by simp; omega) (Ne.symm av)]; assumption)))
            ((refine step_append_lies _ (by rfl) _ _ _ (by rfl) w4.heap.size 36 j0 (.agg #[.int .i64 0, .int .i64 0, .int .i64 0]) 3 24 Try.underlying30 HJ.out jz0 jz1 jz2 rfl (by omega) _ m _ (by rfl) ((hownN5.alloc _).drew) ⟨w5.heap.size, 0, none⟩ 1 1 [.int .i64 (sumTo l m * taken / sumTo l k), .int .i64 (sumTo l (m + 1) * taken / sumTo l k), .int .i64 (numberF S A O - base)] (by rfl) (by rfl) (World.news_of_block (new1d w5 _)) (one3 _ _ _) (by decide) om1 om2 o1 (w5.heap.size + 1) (by simp) ?_; intro g' cap' w6 hown1 hgrow hat hlt1))
          clear e1 e2 e3 e4 e5 e6
          rw [cellsN_gn gs.out gn.out] at hown1
          go_wp2
          go_roundw
          case rel => exact ⟨m + 1, by omega, by go_num, hown1, (((B5.alloc (by omega) _).drew).grown hgrow (by simp; omega) (fun j hj => (hownN.lt j hj).1))⟩
          case measure => simp [intOf]; omega
        · obtain rfl : m = k := by omega
          obtain ⟨g', cap', rfl, _, _⟩ := hownN.form (by omega)
          go_wp2_with fail
          go_ret3
          rw [et2.out]
          exact ⟨g', cap', rfl, owns_mono hownN hz, hbw⟩
end Go.Proofs.Ytaklcnhenapckaa
