/- append of a slice of ids to an own slice, whatever its length. -/
import Derived.Test.YtacoeahipklibaaDoorB4
namespace Go.Proofs.YtacoeahipklibaaDoor
open Go.RowKit

theorem RdI.cells {w : World} {b off : Nat} {l : List Id} (h : RdI w b off l) : ∀ j u, (cellsI l)[j]? = some u → w.cell? ((⟨b, off, none⟩ : Addr).add j) = some u := by
  intro j u hu
  have hj : j < l.length * 2 := by
    have := (List.getElem?_eq_some_iff.1 hu).1
    rwa [cellsI_len] at this
  have e1 : j = j / 2 * 2 + j % 2 := by omega
  rw [Addr.add_lit]
  obtain ⟨h0, h1⟩ := h (j / 2) (by omega)
  have hm : j % 2 = 0 ∨ j % 2 = 1 := by omega
  rcases hm with hm | hm
  · have e2 := cellsI_get l (j / 2) 0 (by omega) (by omega)
    rw [show j / 2 * 2 + 0 = j by omega, hu] at e2
    have e3 : u = .int .i64 (ith l (j / 2)).s := by simpa [encId] using e2
    rw [e3, show off + j = off + j / 2 * 2 by omega]; exact h0
  · have e2 := cellsI_get l (j / 2) 1 (by omega) (by omega)
    rw [show j / 2 * 2 + 1 = j by omega, hu] at e2
    have e3 : u = .int .i64 (ith l (j / 2)).n := by simpa [encId] using e2
    rw [e3, show off + j = off + j / 2 * 2 + 1 by omega]; exact h1
theorem cellsI_one' (l : List Id) : ∀ v ∈ cellsI l, v.oneCell' = true := by
  intro v hv
  obtain ⟨x, _, hx⟩ := List.mem_flatMap.1 hv
  simp [encId] at hx
  rcases hx with rfl | rfl <;> rfl

theorem run_append_empty (w : World) (ty : TypeId) (base : Nat) (v : Value) (n : Nat) (xs : List Value) (hown : w.ownsRow base 30 2 v n xs) (A : Option Addr) (c : Nat) :
    (Builtin.append_ #[22, 22] ty #[v, .slice A 0 c]).run Tryd.prog w = .ok v w := by
  obtain ⟨i, hi, _, _, _⟩ := info_parts info30
  cases A with
  | none =>
    rcases hown.2 with ⟨rfl, rfl⟩ | ⟨g, cap, cur, rfl, _, _, hnc, _⟩
    · simp [Builtin.append_, run_underlying Tryd.underlying22, sizeOf, typeInfo, hi, Builtin.lenOf, Builtin.firstCells]
    · simp [Builtin.append_, run_underlying Tryd.underlying22, sizeOf, typeInfo, hi, Builtin.lenOf, Builtin.firstCells, hnc, storeCells]
  | some a =>
    rcases hown.2 with ⟨rfl, rfl⟩ | ⟨g, cap, cur, rfl, _, _, hnc, _⟩
    · simp [Builtin.append_, run_underlying Tryd.underlying22, sizeOf, typeInfo, hi, Builtin.lenOf, Builtin.firstCells, loadCells, loadCellsFrom]
    · simp [Builtin.append_, run_underlying Tryd.underlying22, sizeOf, typeInfo, hi, Builtin.lenOf, Builtin.firstCells, hnc, storeCells, loadCells, loadCellsFrom]

theorem wpList_appendSl (w : World) {ops : Array Oper} {rest : List Oper} {o : Oper} {a : Act} {Q : Exit → Act → World → Prop} (hgd : o.guard = none) (s x : Operand)
    (ho : o.op = .call { callee := .builtin .append, args := #[s, x], argTypes := #[22, 22] }) (base : Nat) (v : Value) (l m : List Id) (hs : a.eval s = v) (hown : OwnI w base v l) (A : Option Addr) (c : Nat) (hx : a.eval x = .slice A m.length c)
    (hsl : SlI w A m) (hlen : l.length + m.length ≤ 2000) (hbase : base ≤ w.heap.size)
    (h : ∀ v' w', OwnI w' base v' (l ++ m) → w.grownBy w' v.ownBlock → wpList Tryd.prog ops Q rest (a.put o.dst v') w') : wpList Tryd.prog ops Q (o :: rest) a w := by
  rcases hsl with rfl | ⟨h0, b, off, rfl, hb, hr⟩
  · refine wpList_plain hgd fun K hK => ?_
    have hrun := run_append_empty w o.type base v _ _ hown A c
    have hx' : a.eval x = .slice A 0 c := hx
    unfold Oper.wp
    simp [execOp, ho, resolve, invoke, builtin, hs, hx', hrun, Result.andThen]
    exact hK _ _ (h v w (by rw [List.append_nil]; exact hown) ⟨rfl, rfl, rfl, Nat.le_refl _, fun _ _ _ => rfl⟩)
  · obtain ⟨i0, hi, hi0, hi1, hi2⟩ := info_parts info30
    refine wpList_append_lies w hgd s x 22 ho base 30 i0 _ 2 16 Tryd.underlying22 hi hi0 hi1 hi2 rfl (by omega) v l.length _ hs hown ⟨b, off, none⟩ m.length c (cellsI m) hx (cellsI_len m) hr.cells (cellsI_one' m) h0 (by unfold maxLen; omega) (by omega) hbase w.heap.size rfl ?_
    intro g cap w' h1 h2 _ _
    refine h _ w' ?_ h2
    show World.ownsRow _ _ _ _ _ (l ++ m).length (cellsI (l ++ m))
    have e1 : cellsI (l ++ m) = cellsI l ++ cellsI m := by simp [cellsI]
    rw [List.length_append, e1]
    exact h1
end Go.Proofs.YtacoeahipklibaaDoor
