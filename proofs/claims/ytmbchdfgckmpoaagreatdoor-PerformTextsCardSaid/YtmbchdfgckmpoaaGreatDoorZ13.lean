/- A line of text and its fields; what Decode's loop keeps; the library's calls that it makes. -/
import Derived.Test.YtmbchdfgckmpoaaGreatDoorZ10
import Derived.Lib.Split
import Derived.Lib.CountLaws
import Derived.Lib.SplitLaws
namespace Go.Proofs.YtmbchdfgckmpoaaGreatDoor
section
open Go.RowKit

def splitL : List UInt8 → List (List UInt8)
  | [] => [[]]
  | c :: s => if c = 32 then [] :: splitL s else match splitL s with
    | [] => [[c]]
    | p :: ps => (c :: p) :: ps
theorem splitL_ne (s : List UInt8) : splitL s ≠ [] := by
  cases s with
  | nil => simp [splitL]
  | cons c s =>
    unfold splitL
    split
    · simp
    · split <;> simp
theorem splitL_one : ∀ {x : List UInt8}, (32 : UInt8) ∉ x → splitL x = [x]
  | [], _ => rfl
  | c :: x, h => by
    unfold splitL
    rw [if_neg (fun e => h (by simp [e])), splitL_one (fun e => h (by simp [e]))]
theorem splitL_cons : ∀ {x : List UInt8} (y : List UInt8), (32 : UInt8) ∉ x → splitL (x ++ 32 :: y) = x :: splitL y
  | [], y, _ => by rw [List.nil_append, splitL, if_pos rfl]
  | c :: x, y, h => by
    rw [List.cons_append, splitL, if_neg (fun e => h (by simp [e])), splitL_cons y (fun e => h (by simp [e]))]
theorem splitL_len : ∀ (s : List UInt8), (splitL s).length ≤ s.length + 1
  | [] => by simp [splitL]
  | c :: s => by
    have := splitL_len s
    unfold splitL
    split
    · simp; omega
    · split
      · simp
      · rename_i p ps hp
        rw [hp] at this
        simp at this ⊢; omega


def joinF : List (List UInt8) → List UInt8
  | [] => []
  | [x] => x
  | x :: y :: l => x ++ 32 :: joinF (y :: l)
theorem splitL_flat : ∀ s : List UInt8, joinF (splitL s) = s
  | [] => rfl
  | c :: s => by
    have ih := splitL_flat s
    have hne := splitL_ne s
    unfold splitL
    split
    · rename_i h
      subst h
      cases hs : splitL s with
      | nil => exact absurd hs hne
      | cons p ps =>
        rw [hs] at ih
        show [] ++ 32 :: joinF (p :: ps) = _
        rw [ih]; rfl
    · split
      · rename_i h
        exact absurd h hne
      · rename_i p ps hp
        rw [hp] at ih
        cases ps with
        | nil => simp [joinF] at ih ⊢; exact ih
        | cons q ps => simp [joinF] at ih ⊢; exact ih
theorem split_eq : ∀ (k : Nat) (s : List UInt8), Lib.countB (bs s) ⟨#[32]⟩ = k → Lib.splitB ⟨#[32]⟩ 0 k (bs s) = (splitL s).map bs := by
  intro k
  induction k with
  | zero =>
    intro s hk
    rcases idx_form 32 s with ⟨hi, hno⟩ | ⟨x, y, rfl, hno, hi⟩
    · rw [Lib.splitB_zero, splitL_one hno]; rfl
    · have h1 : Lib.indexB (bs (x ++ 32 :: y)) ⟨#[32]⟩ = (x.length : Int) := by
        show Lib.index (bs (x ++ 32 :: y)).data.toList [32] = _
        simpa using hi
      rw [Lib.countB_hit _ _ x.length (by decide) h1] at hk
      omega
  | succ k ih =>
    intro s hk
    rcases idx_form 32 s with ⟨hi, hno⟩ | ⟨x, y, rfl, hno, hi⟩
    · have h1 : Lib.indexB (bs s) ⟨#[32]⟩ = -1 := by
        show Lib.index (bs s).data.toList [32] = _
        simpa using hi
      rw [Lib.countB_miss _ _ h1] at hk
      omega
    · have h1 : Lib.indexB (bs (x ++ 32 :: y)) ⟨#[32]⟩ = (x.length : Int) := by
        show Lib.index (bs (x ++ 32 :: y)).data.toList [32] = _
        simpa using hi
      have e1 : (bs (x ++ 32 :: y)).extract 0 (x.length + 0) = bs x := by
        apply ByteArray.ext
        apply Array.toList_inj.1
        rw [Lib.extract_data]
        simp
      have e2 : (bs (x ++ 32 :: y)).extract (x.length + (⟨#[32]⟩ : ByteArray).size) (bs (x ++ 32 :: y)).size = bs y := by
        apply ByteArray.ext
        apply Array.toList_inj.1
        rw [Lib.extract_data, bs_size, show (⟨#[32]⟩ : ByteArray).size = 1 from rfl]
        simp
        exact List.take_of_length_le (by omega)
      rw [Lib.countB_hit _ _ x.length (by decide) h1, e2] at hk
      rw [Lib.splitB_hit _ _ _ _ x.length h1, e1, e2, ih y (by omega), splitL_cons y hno]
      rfl
theorem cut_none {s : List UInt8} (h : (46 : UInt8) ∉ s) : Lib.cut s [46] = (s, [], false) := by
  unfold Lib.cut
  rw [idx_none h, if_neg (by omega)]
theorem cut_some {x : List UInt8} (y : List UInt8) (h : (46 : UInt8) ∉ x) : Lib.cut (x ++ 46 :: y) [46] = (x, y, true) := by
  unfold Lib.cut
  rw [idx_append y h, if_pos (by omega)]
  simp
theorem itoa_no (z : Int) (b : UInt8) (h : b.toNat ≠ 45 ∧ ¬ (48 ≤ b.toNat ∧ b.toNat ≤ 57)) : b ∉ Lib.itoa z := fun hb => by
  rcases itoa_bytes z b hb with e | e
  · exact h.1 e
  · exact h.2 e

/-- The fields of a line. -/
def txtF (x : List UInt8) : List UInt8 := Lib.trimSuffix x [10]
def endF (x : List UInt8) : Bool := Lib.hasSuffix x [10]
def fiveF (x : List UInt8) : List UInt8 := (splitL (txtF x)).getD 5 []
def fF (x : List UInt8) (i : Nat) : List UInt8 := if i < 5 then (splitL (txtF x)).getD i [] else if i = 5 then (Lib.cut (fiveF x) [46]).1 else (Lib.cut (fiveF x) [46]).2.1
def dotF (x : List UInt8) : Bool := (Lib.cut (fiveF x) [46]).2.2
def val7 (p : Ply) (i : Nat) : Int := [p.o, p.f, p.n, p.v, p.p, p.s, p.e].getD i 0
def mkP (ns : Nat → Int) : Ply := ⟨ns 0, ns 1, ns 2, ns 3, ns 4, ns 5, ns 6⟩
def bodyL (p : Ply) : List UInt8 := Lib.itoa p.o ++ 32 :: (Lib.itoa p.f ++ 32 :: (Lib.itoa p.n ++ 32 :: (Lib.itoa p.v ++ 32 :: (Lib.itoa p.p ++ 32 :: (Lib.itoa p.s ++ 46 :: Lib.itoa p.e)))))
theorem lineL_body (p : Ply) : lineL p = bodyL p ++ [10] := by
  unfold lineL bodyL
  simp
theorem body_no (p : Ply) : (10 : UInt8) ∉ bodyL p := by
  have h := fun z => itoa_no z 10 (by decide)
  unfold bodyL
  simp [h]
theorem suffix_snoc (x : List UInt8) : Lib.hasSuffix (x ++ [10]) [10] = true ∧ Lib.trimSuffix (x ++ [10]) [10] = x := by
  have h : Lib.hasSuffix (x ++ [10]) [10] = true := by
    unfold Lib.hasSuffix
    rw [List.isSuffixOf_iff_suffix]
    exact List.suffix_append x [10]
  refine ⟨h, ?_⟩
  unfold Lib.trimSuffix
  rw [if_pos h]
  simp
theorem end_form {x : List UInt8} (h : endF x = true) : x = txtF x ++ [10] := by
  have h2 := h
  unfold endF Lib.hasSuffix at h2
  rw [List.isSuffixOf_iff_suffix] at h2
  obtain ⟨t, rfl⟩ := h2
  rw [show txtF (t ++ [10]) = t from (suffix_snoc t).2]
/-- A line's own text: what its fields are. -/
theorem line_own (p : Ply) : endF (lineL p) = true ∧ (splitL (txtF (lineL p))).length = 6 ∧ dotF (lineL p) = true ∧ ∀ i, i < 7 → fF (lineL p) i = Lib.itoa (val7 p i) := by
  have h1 := suffix_snoc (bodyL p)
  rw [← lineL_body] at h1
  have h32 := fun z => itoa_no z 32 (by decide)
  have h46 := fun z => itoa_no z 46 (by decide)
  have hs : splitL (txtF (lineL p)) = [Lib.itoa p.o, Lib.itoa p.f, Lib.itoa p.n, Lib.itoa p.v, Lib.itoa p.p, Lib.itoa p.s ++ 46 :: Lib.itoa p.e] := by
    rw [show txtF (lineL p) = bodyL p from h1.2]
    unfold bodyL
    rw [splitL_cons _ (h32 _), splitL_cons _ (h32 _), splitL_cons _ (h32 _), splitL_cons _ (h32 _), splitL_cons _ (h32 _), splitL_one (by simp [h32])]
  have h5 : fiveF (lineL p) = Lib.itoa p.s ++ 46 :: Lib.itoa p.e := by unfold fiveF; rw [hs]; rfl
  have hc := cut_some (x := Lib.itoa p.s) (Lib.itoa p.e) (h46 _)
  refine ⟨h1.1, by rw [hs]; rfl, by unfold dotF; rw [h5, hc], fun i hi => ?_⟩
  unfold fF
  rw [hs, h5, hc]
  obtain rfl | rfl | rfl | rfl | rfl | rfl | rfl : i = 0 ∨ i = 1 ∨ i = 2 ∨ i = 3 ∨ i = 4 ∨ i = 5 ∨ i = 6 := by omega
  all_goals rfl
/-- Fields that are the texts of numbers: what their line is. -/
theorem line_of {x : List UInt8} {ns : Nat → Int} (h1 : endF x = true) (h2 : (splitL (txtF x)).length = 6) (h3 : dotF x = true) (h4 : ∀ i, i < 7 → Bd (ns i) ∧ Lib.itoa (ns i) = fF x i) : x = lineL (mkP ns) ∧ InR (mkP ns) := by
  refine ⟨?_, ⟨(h4 0 (by omega)).1, (h4 1 (by omega)).1, (h4 2 (by omega)).1, (h4 3 (by omega)).1, (h4 4 (by omega)).1, (h4 5 (by omega)).1, (h4 6 (by omega)).1⟩⟩
  have hx := end_form h1
  have hj := splitL_flat (txtF x)
  have h5 : fiveF x = fF x 5 ++ 46 :: fF x 6 := by
    unfold dotF at h3
    unfold fF
    rw [if_neg (by omega), if_pos rfl, if_neg (by omega), if_neg (by omega)]
    rcases idx_form 46 (fiveF x) with ⟨_, hno⟩ | ⟨a, b, e, hno, _⟩
    · rw [cut_none hno] at h3; cases h3
    · rw [e, cut_some b hno]
  match hs : splitL (txtF x), h2 with
  | [a0, a1, a2, a3, a4, a5], _ =>
    have e0 : fF x 0 = a0 := by unfold fF; rw [hs]; rfl
    have e1 : fF x 1 = a1 := by unfold fF; rw [hs]; rfl
    have e2 : fF x 2 = a2 := by unfold fF; rw [hs]; rfl
    have e3 : fF x 3 = a3 := by unfold fF; rw [hs]; rfl
    have e4 : fF x 4 = a4 := by unfold fF; rw [hs]; rfl
    have e5 : fiveF x = a5 := by unfold fiveF; rw [hs]; rfl
    rw [hs] at hj
    simp only [joinF] at hj
    rw [hx, lineL_body, ← hj]
    unfold bodyL mkP
    simp only
    rw [(h4 0 (by omega)).2, (h4 1 (by omega)).2, (h4 2 (by omega)).2, (h4 3 (by omega)).2, (h4 4 (by omega)).2, (h4 5 (by omega)).2, (h4 6 (by omega)).2, e0, e1, e2, e3, e4, ← h5, e5]
theorem lines_text : ∀ (l : List Ply), linesL (textL l) = l.map lineL
  | [] => rfl
  | p :: l => by
    have e : textL (p :: l) = bodyL p ++ 10 :: textL l := by
      show lineL p ++ textL l = _
      rw [lineL_body]; simp
    rw [e, linesL_cons _ (body_no p), lines_text l, List.map_cons, lineL_body]
theorem lineL_inj {p q : Ply} (h1 : InR p) (h2 : InR q) (h : lineL p = lineL q) : p = q := by
  have a := (line_own p).2.2.2
  have b := (line_own q).2.2.2
  have key : ∀ i, i < 7 → Bd (val7 p i) → Bd (val7 q i) → val7 p i = val7 q i := fun i hi x y => by
    have e : Lib.itoa (val7 p i) = Lib.itoa (val7 q i) := by rw [← a i hi, ← b i hi, h]
    have e1 := atoi_own x
    rw [e, atoi_own y] at e1
    injection e1 with e1
    exact e1.symm
  obtain ⟨_, _, _, _, _, _, _⟩ := p
  obtain ⟨_, _, _, _, _, _, _⟩ := q
  have k0 := key 0 (by omega) h1.o h2.o
  have k1 := key 1 (by omega) h1.f h2.f
  have k2 := key 2 (by omega) h1.n h2.n
  have k3 := key 3 (by omega) h1.v h2.v
  have k4 := key 4 (by omega) h1.p h2.p
  have k5 := key 5 (by omega) h1.s h2.s
  have k6 := key 6 (by omega) h1.e h2.e
  simp [val7] at k0 k1 k2 k3 k4 k5 k6
  subst k0 k1 k2 k3 k4 k5 k6
  rfl
end
section
open Go.RowKit Go.Shelf

/-- What holds between two rounds: out's variable, its row, the two results. -/
structure PI (n : Nat) (w : World) (L : List Ply) (v : Value) (V : World) : Prop where
  out : Boxed V (n + 2) 22 v
  own : V.ownsRow (n + 4) 27 7 v L.length (cellsY L)
  resL : Boxed V n 22 (.slice none 0 0)
  resE : Boxed V (n + 1) 30 (.int .i64 0)
  below : Below n w V
  big : n + 4 ≤ V.heap.size
def IP (n : Nat) (w : World) (pre : List Part) (V : World) : Prop := ∃ L v, (pre.map (·.1) = L.map lineL ∧ ∀ p ∈ L, InR p) ∧ PI n w L v V ∧ L.length ≤ 6000
def Bad (pre : List Part) : Prop := ∃ x ∈ pre, ∀ p, InR p → x.1 ≠ lineL p
structure XI (n : Nat) (w : World) (V : World) : Prop where
  resL : Boxed V n 22 (.slice none 0 0)
  resE : Boxed V (n + 1) 30 (.int .i64 3)
  below : Below n w V
  big : n + 4 ≤ V.heap.size
def IX (n : Nat) (w : World) (c : Code) (pre : List Part) (V : World) : Prop := c = .ret ∧ Bad pre ∧ XI n w V

theorem PI.step {n : Nat} {w : World} {L : List Ply} {v : Value} {A B : World} {row : Option Nat} (h : PI n w L v A) (hg : A.grownBy B row) (hr : ∀ r, row = some r → n + 3 ≤ r) (hv : v.ownBlock = none ∨ v.ownBlock ≠ row) : PI n w L v B := by
  have ne : ∀ k, k < n + 3 → some k ≠ row := fun k hk e => by have := hr k e.symm; omega
  exact ⟨h.out.kept hg (ne _ (by omega)), h.own.kept hg hv, h.resL.kept hg (ne _ (by omega)), h.resE.kept hg (ne _ (by omega)), h.below.grown hg (by have := h.big; omega) (fun k e => by have := hr k e; omega), Nat.le_trans h.big hg.size⟩
theorem XI.step {n : Nat} {w : World} {A B : World} {row : Option Nat} (h : XI n w A) (hg : A.grownBy B row) (hr : ∀ r, row = some r → n + 3 ≤ r) : XI n w B := by
  have ne : ∀ k, k < n + 3 → some k ≠ row := fun k hk e => by have := hr k e.symm; omega
  exact ⟨h.resL.kept hg (ne _ (by omega)), h.resE.kept hg (ne _ (by omega)), h.below.grown hg (by have := h.big; omega) (fun k e => by have := hr k e; omega), Nat.le_trans h.big hg.size⟩
theorem ownBlock_far {w : World} {base : Nat} {e : TypeId} {size : Nat} {v : Value} {k : Nat} {xs : List Value} (h : w.ownsRow base e size v k xs) {r : Nat} (hr : ∀ cs t fz, w.heap[r]? ≠ some (.cells cs t fz)) : v.ownBlock = none ∨ v.ownBlock ≠ some r := by
  rcases h.2 with ⟨rfl, _⟩ | ⟨g, cap, cur, rfl, _, hg, _⟩
  · exact .inl rfl
  · refine .inr fun e => ?_
    have e : g = r := Option.some.inj e
    subst e
    exact hr _ _ _ hg
theorem ip_from (n : Nat) (w : World) : OwnFrom (n + 4) (IP n w) := by
  rintro pre A B row ⟨L, v, h1, h2, h3⟩ hg hr
  refine ⟨L, v, h1, h2.step hg (fun r e => by have := (hr r e).1; omega) ?_, h3⟩
  cases row with
  | none =>
    cases hb : v.ownBlock with
    | none => exact .inl rfl
    | some g => exact .inr (by simp)
  | some r =>
    obtain ⟨_, o, ho, hc⟩ := hr r rfl
    exact ownBlock_far h2.own fun cs t fz e => by rw [ho] at e; injection e with e; rw [e] at hc; cases hc
theorem ix_from (n : Nat) (w : World) (c : Code) : OwnFrom (n + 4) (IX n w c) := by
  rintro pre A B row ⟨h1, h2, h3⟩ hg hr
  exact ⟨h1, h2, h3.step hg (fun r e => by have := (hr r e).1; omega)⟩
theorem ip_lets (n : Nat) (w : World) : Lets (n + 3) (IP n w) := by
  rintro pre A B ⟨L, v, h1, h2, h3⟩ hg
  refine ⟨L, v, h1, h2.step hg (fun r e => by cases e; omega) ?_, h3⟩
  cases hb : v.ownBlock with
  | none => exact .inl rfl
  | some g =>
    refine .inr fun e => ?_
    have := (h2.own.lt g hb).1
    have e := Option.some.inj e
    omega
theorem ix_lets (n : Nat) (w : World) (c : Code) : Lets (n + 3) (IX n w c) := by
  rintro pre A B ⟨h1, h2, h3⟩ hg
  exact ⟨h1, h2, h3.step hg (fun r e => by cases e; omega)⟩
theorem keeps_below {V X : World} (h : Below V.heap.size V X) : KeepsOthers V X := ⟨h.size, fun k _ hk _ => (h.block k (Array.getElem?_eq_some_iff.1 hk).1).trans hk⟩

/-- A round that has appended a tone. -/
theorem round_on {n : Nat} {w V X Z : World} {pre : List Part} {x : Part} {L : List Ply} {v v' : Value} {t : Ply} {o : Obj} (hp : pre.map (·.1) = L.map lineL ∧ ∀ p ∈ L, InR p) (hI : PI n w L v V) (hl : L.length < 6000) (ht : x.1 = lineL t ∧ InR t)
    (hB : Below V.heap.size V X) (hown : Z.ownsRow (n + 4) 27 7 v' (L.length + 1) (cellsY L ++ encY t)) (hg : (X.alloc o).grownBy Z v.ownBlock) :
    KeepsOthers V (Z.setCell ⟨n + 2, 0, none⟩ v') ∧ Kp1 (n + 3) V (Z.setCell ⟨n + 2, 0, none⟩ v') ∧ IP n w (pre ++ [x]) (Z.setCell ⟨n + 2, 0, none⟩ v') := by
  have big := hI.big
  have hX : Below V.heap.size V (X.alloc o) := hB.alloc hB.size o
  have far : ∀ k, k < n + 4 → some k ≠ v.ownBlock := fun k hk e => by have := (hI.own.lt k e.symm).1; omega
  have same : ∀ k, k < n + 4 → Z.heap[k]? = V.heap[k]? := fun k hk => (hg.block k (by have := hX.size; omega) (far k hk)).trans (hX.block k (by omega))
  have hset : ∀ k, k ≠ n + 2 → (Z.setCell ⟨n + 2, 0, none⟩ v').heap[k]? = Z.heap[k]? := fun k hk => Below.heap_setCell _ _ _ _ hk
  have outZ : Boxed Z (n + 2) 22 v := (same _ (by omega)).trans hI.out
  have hsize : n + 4 ≤ Z.heap.size := Nat.le_trans big (Nat.le_trans hX.size hg.size)
  have cellsRow : ∀ (j : Nat) (o' : Obj), v.ownBlock = some j → (X.alloc o).heap[j]? = some o' → o'.isCells = true := fun j o' e hj => by
    rcases hI.own.2 with ⟨rfl, _⟩ | ⟨g, cap, cur, rfl, _, hgb, _⟩
    · cases e
    · have e : g = j := Option.some.inj e
      subst e
      have hb := hX.block g (Array.getElem?_eq_some_iff.1 hgb).1
      rw [hb, hgb] at hj
      injection hj with hj
      rw [← hj]; rfl
  refine ⟨((keeps_below hX).trans (KeepsOthers.of_grownBy hg cellsRow)).trans (KeepsOthers.setCell _ _ _), Eq.trans (hset _ (by omega)) (same _ (by omega)), L ++ [t], v', ⟨by rw [List.map_append, List.map_append, hp.1]; simp [ht.1], fun p hq => by rcases List.mem_append.1 hq with hq | hq; exact hp.2 p hq; rw [List.mem_singleton.1 hq]; exact ht.2⟩, ⟨outZ.set v', ?_, ?_, ?_, ?_, ?_⟩, by simp; omega⟩
  · have e : (L ++ [t]).length = L.length + 1 := by simp
    rw [e, cellsY_snoc]
    exact hown.kept (grownBy_setCell' _ _ _) (by
      cases hb : v'.ownBlock with
      | none => exact .inl rfl
      | some g =>
        refine .inr fun e => ?_
        have := (hown.lt g hb).1
        have e := Option.some.inj e
        omega)
  · exact (hset _ (by omega)).trans ((same _ (by omega)).trans hI.resL)
  · exact (hset _ (by omega)).trans ((same _ (by omega)).trans hI.resE)
  · exact (hI.below.trans ((hX.mono (by omega)).grown hg (by have := hX.size; omega) (fun k e => by have := (hI.own.lt k e).1; omega))).setCell (p := ⟨n + 2, 0, none⟩) (by show n ≤ n + 2; omega) _
  · rw [show (Z.setCell ⟨n + 2, 0, none⟩ v').heap.size = Z.heap.size by simp]; exact hsize
/-- A round that has failed. -/
theorem round_off {n : Nat} {w V X : World} {pre : List Part} {x : Part} {L : List Ply} {v : Value} (hI : PI n w L v V) (hbad : ∀ p, InR p → x.1 ≠ lineL p) (hB : Below V.heap.size V X) :
    KeepsOthers V ((X.setCell ⟨n, 0, none⟩ (.slice none 0 0)).setCell ⟨n + 1, 0, none⟩ (.int .i64 3)) ∧ IX n w .ret (pre ++ [x]) ((X.setCell ⟨n, 0, none⟩ (.slice none 0 0)).setCell ⟨n + 1, 0, none⟩ (.int .i64 3)) := by
  have big := hI.big
  have hL : Boxed X n 22 (.slice none 0 0) := (hB.block n (by omega)).trans hI.resL
  have hE : Boxed X (n + 1) 30 (.int .i64 0) := (hB.block (n + 1) (by omega)).trans hI.resE
  refine ⟨((keeps_below hB).trans (KeepsOthers.setCell _ _ _)).trans (KeepsOthers.setCell _ _ _), rfl, ?_, (hL.set (.slice none 0 0)).other (by omega) _, (hE.other (by omega) _).set _, ?_, ?_⟩
  · exact ⟨x, by simp, hbad⟩
  · exact ((hI.below.trans (hB.mono (by omega))).setCell (p := ⟨n, 0, none⟩) (Nat.le_refl _) _).setCell (p := ⟨n + 1, 0, none⟩) (by show n ≤ n + 1; omega) _
  · have := hB.size; simp; omega


/-! ### What the lines say of notes with this text -/
theorem no_bad {pre : List Part} {s : List UInt8} (hpre : pre.map (·.1) <+: linesL s) (hb : Bad pre) {l : List Ply} (hc : ∀ p ∈ l, InR p) (ht : textL l = s) : False := by
  rw [← ht, lines_text] at hpre
  obtain ⟨x, hx, hn⟩ := hb
  have hm : x.1 ∈ l.map lineL := hpre.subset (List.mem_map.2 ⟨x, hx, rfl⟩)
  obtain ⟨p, hp, e⟩ := List.mem_map.1 hm
  exact hn p (hc p hp) e.symm
theorem all_lines {xs : List Part} {s : List UInt8} {L : List Ply} (hx : xs.map (·.1) = linesL s) (hp : xs.map (·.1) = L.map lineL) : textL L = s := by
  have h := linesL_join s
  rw [← hx, hp] at h
  rw [← h]
  unfold textL
  rw [List.flatMap_def]
theorem text_inj : ∀ {l m : List Ply}, (∀ p ∈ l, InR p) → (∀ p ∈ m, InR p) → textL l = textL m → l = m := by
  intro l m hl hm h
  have e : l.map lineL = m.map lineL := by rw [← lines_text, ← lines_text, h]
  clear h
  induction l generalizing m with
  | nil => cases m with
    | nil => rfl
    | cons y m => simp at e
  | cons x l ih => cases m with
    | nil => simp at e
    | cons y m =>
      simp only [List.map_cons, List.cons.injEq] at e
      rw [lineL_inj (hl x (by simp)) (hm y (by simp)) e.1, ih (fun p hp => hl p (by simp [hp])) (fun p hp => hm p (by simp [hp])) e.2]
end
section
open Go.RowKit Go.Shelf

theorem bs_list (l : List UInt8) : (bs l).data.toList = l := by simp
theorem txtF_len (x : List UInt8) : (txtF x).length ≤ x.length := by
  unfold txtF Lib.trimSuffix
  split
  · rw [List.length_take]; omega
  · exact Nat.le_refl _
theorem suffixC (x : List UInt8) (hx : x.length ≤ 5000) (w : World) : Calls Tryz.prog 18 #[.string (bs x), .string ⟨#[10]⟩] w fun e w' => e = .returned (.tuple #[.string (bs (txtF x)), .bool (endF x)]) ∧ w' = w := by
  have h := Tryz.strings_CutSuffix (bs x) ⟨#[10]⟩ w (by rw [bs_size]; omega)
  rw [bs_list, show (⟨#[10]⟩ : ByteArray).data.toList = [10] from rfl] at h
  exact h
def fldA (x : List UInt8) : Array Value := (((splitL (txtF x)).map bs).map Value.string).toArray
theorem splitC (x : List UInt8) (hx : x.length ≤ 5000) (w : World) (hE : Env w) : Calls Tryz.prog 19 #[.string (bs (txtF x)), .string ⟨#[32]⟩] w fun e w' => e = .returned (.slice (some ⟨w.heap.size, 0, none⟩) (splitL (txtF x)).length (splitL (txtF x)).length) ∧ Below w.heap.size w w' ∧ w'.heap[w.heap.size]? = some (.cells (fldA x) 9 (0, 0)) := by
  obtain ⟨m, hm⟩ := hE.max
  have ht := txtF_len x
  have h := Tryz.strings_Split (bs (txtF x)) ⟨#[32]⟩ m w (by rw [bs_size]; omega) hm (by decide)
  have e1 := split_eq (Lib.countB (bs (txtF x)) ⟨#[32]⟩) (txtF x) rfl
  have e2 := Lib.splitB_all ⟨#[32]⟩ (by decide) 0 _ (bs (txtF x)) rfl
  rw [e1] at e2 h
  rw [List.length_map] at e2
  rw [← e2] at h
  exact h.mono fun _ _ ⟨h1, h2⟩ => ⟨h1, by rw [h2]; exact (Below.refl _ w).alloc (Nat.le_refl _) _, by rw [h2]; exact heap_alloc_new w _⟩
theorem fldA_get {x : List UInt8} {i : Nat} (h : i < (splitL (txtF x)).length) : (fldA x)[i]? = some (.string (bs ((splitL (txtF x)).getD i []))) := by
  unfold fldA
  rw [List.getElem?_toArray, List.getElem?_map, List.getElem?_map, List.getD_eq_getElem?_getD, List.getElem?_eq_getElem h]
  rfl
theorem cutC (x : List UInt8) (hx : (fiveF x).length ≤ 5000) (w : World) (hE : Env w) : Calls Tryz.prog 20 #[.string (bs (fiveF x)), .string ⟨#[46]⟩] w fun e w' => e = .returned (.tuple #[.string (bs (fF x 5)), .string (bs (fF x 6)), .bool (dotF x)]) ∧ Below w.heap.size w w' := by
  obtain ⟨m, hm⟩ := hE.max
  have h := Tryz.strings_Cut (bs (fiveF x)) ⟨#[46]⟩ m w (by rw [bs_size]; omega) hm
  rw [bs_list, show (⟨#[46]⟩ : ByteArray).data.toList = [46] from rfl] at h
  exact h.mono fun _ _ ⟨h1, k, h2⟩ => ⟨h1, by subst h2; exact ⟨rfl, rfl, rfl, Nat.le_refl _, fun _ _ => rfl⟩⟩
theorem splitL_mem_len : ∀ (s : List UInt8) (p : List UInt8), p ∈ splitL s → p.length ≤ s.length
  | [], p, h => by simp [splitL] at h; subst h; simp
  | c :: s, p, h => by
    have ih := splitL_mem_len s
    unfold splitL at h
    split at h
    · rcases List.mem_cons.1 h with rfl | h
      · simp
      · have := ih p h; simp; omega
    · split at h
      · simp at h; subst h; simp
      · rename_i q qs hq
        rcases List.mem_cons.1 h with rfl | h
        · have := ih q (by rw [hq]; simp); simp; omega
        · have := ih p (by rw [hq]; simp [h]); simp; omega
theorem cut_len (s : List UInt8) : (Lib.cut s [46]).1.length ≤ s.length ∧ (Lib.cut s [46]).2.1.length ≤ s.length := by
  unfold Lib.cut
  split
  · constructor
    · rw [List.length_take]; omega
    · rw [List.length_drop]; omega
  · exact ⟨Nat.le_refl _, Nat.zero_le _⟩
theorem getD_len (s : List UInt8) (i : Nat) : ((splitL s).getD i []).length ≤ s.length := by
  rw [List.getD_eq_getElem?_getD]
  cases h : (splitL s)[i]? with
  | none => simp
  | some p => exact splitL_mem_len s p (List.mem_of_getElem? h)
theorem five_len (x : List UInt8) : (fiveF x).length ≤ x.length := Nat.le_trans (getD_len _ _) (txtF_len x)
theorem fF_len (x : List UInt8) (i : Nat) : (fF x i).length ≤ x.length := by
  unfold fF
  split
  · exact Nat.le_trans (getD_len _ _) (txtF_len x)
  · split
    · exact Nat.le_trans (cut_len _).1 (five_len x)
    · exact Nat.le_trans (cut_len _).2 (five_len x)

/-! ### the seven numbers -/
def pcA (ns : Nat → Int) (i : Nat) : Array Value := #[.int .i64 (if 0 < i then ns 0 else 0), .int .i64 (if 1 < i then ns 1 else 0), .int .i64 (if 2 < i then ns 2 else 0), .int .i64 (if 3 < i then ns 3 else 0), .int .i64 (if 4 < i then ns 4 else 0), .int .i64 (if 5 < i then ns 5 else 0), .int .i64 (if 6 < i then ns 6 else 0)]
def upd (ns : Nat → Int) (i : Nat) (n : Int) : Nat → Int := fun j => if j = i then n else ns j
theorem pcA_set (ns : Nat → Int) (n : Int) {i : Nat} (h : i < 7) : (pcA ns i).setIfInBounds i (.int .i64 n) = pcA (upd ns i n) (i + 1) := by
  obtain rfl | rfl | rfl | rfl | rfl | rfl | rfl : i = 0 ∨ i = 1 ∨ i = 2 ∨ i = 3 ∨ i = 4 ∨ i = 5 ∨ i = 6 := by omega
  all_goals simp [pcA, upd]
theorem pcA_get (ns : Nat → Int) {i : Nat} (h : i < 7) : (pcA ns i)[i]? = some (.int .i64 0) := by
  obtain rfl | rfl | rfl | rfl | rfl | rfl | rfl : i = 0 ∨ i = 1 ∨ i = 2 ∨ i = 3 ∨ i = 4 ∨ i = 5 ∨ i = 6 := by omega
  all_goals rfl
def ptA (np : Nat) : Array Value := #[.pointer (some ⟨np, 0, none⟩), .pointer (some ⟨np, 1, none⟩), .pointer (some ⟨np, 2, none⟩), .pointer (some ⟨np, 3, none⟩), .pointer (some ⟨np, 4, none⟩), .pointer (some ⟨np, 5, none⟩), .pointer (some ⟨np, 6, none⟩)]
theorem ptA_get (np : Nat) {i : Nat} (h : i < 7) : (ptA np)[i]? = some (.pointer (some ⟨np, i, none⟩)) := by
  obtain rfl | rfl | rfl | rfl | rfl | rfl | rfl : i = 0 ∨ i = 1 ∨ i = 2 ∨ i = 3 ∨ i = 4 ∨ i = 5 ∨ i = 6 := by omega
  all_goals rfl
/-- What the flag says behind i fields. -/
def GoodI (x : List UInt8) (ns : Nat → Int) (i : Nat) (G : Bool) : Prop := (G = true → dotF x = true ∧ ∀ j, j < i → Bd (ns j) ∧ Lib.itoa (ns j) = fF x j) ∧ ((dotF x = true ∧ ∀ j, j < i → ∃ z, Bd z ∧ Lib.itoa z = fF x j) → G = true)
theorem goodI_zero (x : List UInt8) (ns : Nat → Int) : GoodI x ns 0 (dotF x) := ⟨fun h => ⟨h, fun j hj => by omega⟩, fun h => h.1⟩
theorem goodI_step {x : List UInt8} {ns : Nat → Int} {i : Nat} {G : Bool} (h : GoodI x ns i G) {n : Int} {good : Bool} (hI : IntR (fF x i) n good) : GoodI x (upd ns i n) (i + 1) (G && good) := by
  refine ⟨fun hg => ?_, fun ⟨h1, h2⟩ => ?_⟩
  · rw [Bool.and_eq_true] at hg
    obtain ⟨a, b⟩ := h.1 hg.1
    refine ⟨a, fun j hj => ?_⟩
    unfold upd
    by_cases e : j = i
    · subst e
      rw [if_pos rfl]
      exact hI.1 hg.2
    · rw [if_neg e]
      exact b j (by omega)
  · rw [Bool.and_eq_true]
    refine ⟨h.2 ⟨h1, fun j hj => h2 j (by omega)⟩, ?_⟩
    obtain ⟨z, hz1, hz2⟩ := h2 i (by omega)
    exact (hI.2 z hz1 hz2).1
theorem good_line {x : List UInt8} {ns : Nat → Int} (h1 : endF x = true) (h2 : (splitL (txtF x)).length = 6) (h : GoodI x ns 7 true) : x = lineL (mkP ns) ∧ InR (mkP ns) :=
  line_of h1 h2 (h.1 rfl).1 (h.1 rfl).2
theorem bad_line {x : List UInt8} {ns : Nat → Int} (h : GoodI x ns 7 false) : ∀ p, InR p → x ≠ lineL p := fun p hp e => by
  have k := line_own p
  rw [← e] at k
  have hv : ∀ i, i < 7 → Bd (val7 p i) := fun i hi => by
    obtain rfl | rfl | rfl | rfl | rfl | rfl | rfl : i = 0 ∨ i = 1 ∨ i = 2 ∨ i = 3 ∨ i = 4 ∨ i = 5 ∨ i = 6 := by omega
    · exact hp.o
    · exact hp.f
    · exact hp.n
    · exact hp.v
    · exact hp.p
    · exact hp.s
    · exact hp.e
  have := h.2 ⟨k.2.2.1, fun j hj => ⟨val7 p j, hv j hj, (k.2.2.2 j hj).symm⟩⟩
  cases this
theorem bad_form {x : List UInt8} (h : ¬ (endF x = true ∧ (splitL (txtF x)).length = 6)) : ∀ p, InR p → x ≠ lineL p := fun p _ e => by
  have k := line_own p
  rw [← e] at k
  exact h ⟨k.1, k.2.1⟩
theorem pcA_all (ns : Nat → Int) : pcA ns 7 = (encY (mkP ns)).toArray := rfl
end
end Go.Proofs.YtmbchdfgckmpoaaGreatDoor
