/- slices.Insert of one id into an own slice. -/
import Derived.Test.YtacoeahipklibaaDoorB5
import Derived.Shelf.Spec.SlicesInsertGrow
import Derived.Laws.CopyOwn
namespace Go.Proofs.YtacoeahipklibaaDoor
open Go.RowKit Go.Lib

theorem size30 : (Tryd.prog.info? 30).map (·.size) = some 2 := by kernel_rfl
theorem sizeOf30 (w : World) : (sizeOf 30).run Tryd.prog w = .ok 2 w := by kernel_rfl

theorem run_copy2 (w : World) (ty : TypeId) (g o dLen dCap : Nat) (a : Addr) (sLen sCap : Nat) (cur : Array Value) (t : TypeId) (cs : List Value)
    (hg : w.heap[g]? = some (.cells cur t (0, 0))) (hn : cs.length = Nat.min sLen dLen * 2)
    (hsrc : ∀ j v, cs[j]? = some v → w.cell? (a.add j) = some v) (hfit : o + cs.length ≤ cur.size) (h1 : ∀ v ∈ cs, v.oneCell' = true) :
    (Builtin.copy_ #[22, 22] ty #[.slice (some ⟨g, o, none⟩) dLen dCap, .slice (some a) sLen sCap]).run Tryd.prog w =
      .ok (goInt (Nat.min sLen dLen)) (w.setRow g (cur.toList.take o ++ cs ++ cur.toList.drop (o + cs.length)).toArray) := by
  have hl := run_loadCells_list (P := Tryd.prog) w a cs hsrc
  have hst := run_storeCells_at Tryd.prog g o t cs 0 cur w hg (by simpa using hfit) h1
  have hs := size30
  cases hq : Tryd.prog.info? 30 with
  | none => simp [hq] at hs
  | some i =>
    have hi : i.size = 2 := by simpa [hq] using hs
    simp [Builtin.copy_, run_underlying Tryd.underlying22, Builtin.lenOf, Builtin.firstCells, sizeOf, typeInfo, hq, hi, ← hn, hl, hst]

/-- Cells laid over a row from a place on. -/
abbrev lay (L : List Value) (o : Nat) (cs : List Value) : List Value := L.take o ++ cs ++ L.drop (o + cs.length)
theorem lay_len (L : List Value) (o : Nat) (cs : List Value) (h : o + cs.length ≤ L.length) : (lay L o cs).length = L.length := by simp [lay]; omega

theorem cellsI_one (l : List Id) : ∀ v ∈ cellsI l, v.oneCell' = true := by
  intro v hv
  obtain ⟨x, _, hx⟩ := List.mem_flatMap.1 hv
  simp [encId] at hx
  rcases hx with rfl | rfl <;> rfl
theorem cellsI_append (a b : List Id) : cellsI (a ++ b) = cellsI a ++ cellsI b := by simp [cellsI]
theorem cellsI_take (l : List Id) (i : Nat) : cellsI (l.take i) = (cellsI l).take (i * 2) := by
  by_cases h : i ≤ l.length
  · have e : cellsI l = cellsI (l.take i) ++ cellsI (l.drop i) := by rw [← cellsI_append, List.take_append_drop]
    have hl : (cellsI (l.take i)).length = i * 2 := by rw [cellsI_len, List.length_take]; omega
    rw [e, ← hl, List.take_left]
  · rw [List.take_of_length_le (by omega), List.take_of_length_le (by rw [cellsI_len]; omega)]
theorem cellsI_drop (l : List Id) (i : Nat) : cellsI (l.drop i) = (cellsI l).drop (i * 2) := by
  by_cases h : i ≤ l.length
  · have e : cellsI l = cellsI (l.take i) ++ cellsI (l.drop i) := by rw [← cellsI_append, List.take_append_drop]
    have hl : (cellsI (l.take i)).length = i * 2 := by rw [cellsI_len, List.length_take]; omega
    rw [e, ← hl, List.drop_left]
  · rw [List.drop_eq_nil_of_le (by omega), List.drop_eq_nil_of_le (by rw [cellsI_len]; omega)]; rfl
theorem cellsI_ins (l : List Id) (i : Nat) (x : Id) : cellsI (insAt l i x) = (cellsI l).take (i * 2) ++ (encId x ++ (cellsI l).drop (i * 2)) := by
  unfold insAt
  rw [cellsI_append, cellsI_take]
  have : cellsI (x :: l.drop i) = encId x ++ cellsI (l.drop i) := rfl
  rw [this, cellsI_drop]

theorem setRow_grown (w : World) (g : Nat) (cs : Array Value) : w.grownBy (w.setRow g cs) (some g) := ⟨rfl, rfl, rfl, by simp [World.setRow], fun i hi hne => setRow_other w g i cs (fun e => hne (by rw [e]))⟩

/-- What Insert has done, where it works in place. -/
theorem shift_row {L C X : List Value} {n2 i2 m : Nat} (hL : L.length = m) (hm : n2 + 2 ≤ m) (ht : L.take n2 = C) (hC : C.length = n2) (hi : i2 ≤ n2) (hX : X.length = 2) :
    (lay (lay L (i2 + 2) (C.drop i2)) i2 X).take (n2 + 2) = C.take i2 ++ (X ++ C.drop i2) := by
  have hd : (C.drop i2).length = n2 - i2 := by rw [List.length_drop, hC]
  have e1 : lay L (i2 + 2) (C.drop i2) = (L.take (i2 + 2) ++ C.drop i2) ++ L.drop (n2 + 2) := by
    unfold lay; rw [hd]; congr 2; omega
  have e2 : (L.take (i2 + 2)).length = i2 + 2 := by rw [List.length_take]; omega
  have e3 : (lay L (i2 + 2) (C.drop i2)).take i2 = C.take i2 := by
    rw [e1, List.append_assoc, List.take_append_of_le_length (by omega), List.take_take, ← ht, List.take_take]
    congr 1; omega
  have e4 : (lay L (i2 + 2) (C.drop i2)).drop (i2 + 2) = C.drop i2 ++ L.drop (n2 + 2) := by
    rw [e1, List.append_assoc]
    exact List.drop_left' e2
  have e5 : lay (lay L (i2 + 2) (C.drop i2)) i2 X = (C.take i2 ++ (X ++ C.drop i2)) ++ L.drop (n2 + 2) := by
    show List.take i2 _ ++ X ++ List.drop (i2 + X.length) _ = _
    rw [hX, e3, e4]; simp
  rw [e5, List.take_append_of_le_length (by simp; omega), List.take_of_length_le (by simp; omega)]
end Go.Proofs.YtacoeahipklibaaDoor
