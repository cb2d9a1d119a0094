/- Maps keyed by ids that a call makes: a set, a table of places. -/
import Derived.Test.YtacoeahipklibaaDoorB1
import Derived.Maps.Own
import Derived.Maps.OwnOps
import Derived.Maps.OwnSet
import Derived.DeepKeys5
namespace Go.Proofs.YtacoeahipklibaaDoor
open Go.RowKit Go.Maps

theorem laidOut : laidOutB Tryd.prog = true := by kernel_rfl
theorem tsize : Tryd.prog.types.size = 85 := by kernel_rfl
theorem law : Keyed Tryd.prog 30 := Keyed.of_law (deep_law_gate laidOut (k := 30) (by rw [tsize]; omega) (by rw [tsize]; decide) (by kernel_rfl) (by kernel_rfl))
theorem cells30 : Tryd.prog.cellsOf 30 = 2 := by kernel_rfl
theorem cells3 : Tryd.prog.cellsOf 3 = 1 := by kernel_rfl
theorem keyType30 : Tryd.prog.keyType 30 = true := by kernel_rfl

def klId (x : Id) : Lit := .string (keyBytes [.int .i64 x.s, .int .i64 x.n])

theorem keyId (x : Id) : keyOf Tryd.prog 30 (idV x) = some (klId x) := by
  have hf : (idV x).formed Tryd.prog 30 = true := by
    simp [Value.formed, Tryd.underlying30]
    exact cells30.symm
  have h3 : ∀ d n, (Lit.int .i64 n).wf = true → Tryd.prog.keyLits (d + 1) 3 [.int .i64 n] = some [.int .i64 n] := by
    intro d n h
    unfold Program.keyLits
    rw [Tryd.underlying3]
    simp [h]
  have hd : ∀ d, Tryd.prog.keyLits (d + 1 + 1) 30 [.int .i64 x.s, .int .i64 x.n] = some [.int .i64 x.s, .int .i64 x.n] := by
    intro d
    unfold Program.keyLits
    rw [Tryd.underlying30]
    simp [cells30, cells3, h3 d _ x.hs, h3 d _ x.hn]
  have hl : Tryd.prog.keyLits 86 30 [.int .i64 x.s, .int .i64 x.n] = some [.int .i64 x.s, .int .i64 x.n] := hd 84
  unfold keyOf
  rw [Tryd.underlying30, tsize]
  have hc : (idV x).cells.toList = [.int .i64 x.s, .int .i64 x.n] := rfl
  rw [hc, hl]
  simp [keyType30, hf, klId]
theorem klId_inj {x y : Id} (h : klId x = klId y) : x = y := by
  have h1 := law.inj (keyId x) (h ▸ keyId y)
  obtain ⟨a, b, _, _⟩ := x
  obtain ⟨c, d, _, _⟩ := y
  simp only [idV, Value.agg.injEq] at h1
  simp at h1
  simp [h1]
theorem klId_key (x : Id) : WideAt.IsKeyLit (klId x) := trivial

theorem zero4 (w : World) : (zeroValue 4).run Tryd.prog w = .ok (.bool false) w := by kernel_rfl
theorem zero3 (w : World) : (zeroValue 3).run Tryd.prog w = .ok (.int .i64 0) w := by kernel_rfl

theorem plainElem_bool_inv {v : Value} {z : DataW Unit × List MemPlace} (h : plainElem Tryd.prog 4 v = some z) : ∃ a, v = .bool a ∧ z = (.lit (.bool a), []) := by
  unfold plainElem at h
  rw [Tryd.underlying4] at h
  cases v <;> simp at h
  exact ⟨_, rfl, h.symm⟩

/-- Block b is a map from ids to bools: S says what is there. -/
def MB (w : World) (b n : Nat) (S : Id → Bool) : Prop := ∃ D : DataW Unit, w.ownsMap Tryd.prog 30 (plainElem Tryd.prog 4) b n D ∧ ∀ x, D.atKey (klId x) (.lit (.bool false)) = .lit (.bool (S x))
/-- Block b is a map from ids to ints: F says what is there. -/
def MI (w : World) (b n : Nat) (F : Id → Option Int) : Prop := ∃ D : DataW Unit, w.ownsMap Tryd.prog 30 (plainElem Tryd.prog 3) b n D ∧ ∀ x, D.atKey (klId x) (.lit (.int .i64 0)) = .lit (.int .i64 ((F x).getD 0)) ∧ Maps.has D (klId x) = (F x).isSome

theorem MB.made (w : World) : MB (w.alloc (.map #[] 0)) w.heap.size 0 (fun _ => false) := ⟨_, World.ownsMap_made _ _ _ _, fun _ => rfl⟩
theorem MI.made (w : World) : MI (w.alloc (.map #[] 0)) w.heap.size 0 (fun _ => none) := ⟨_, World.ownsMap_made _ _ _ _, fun _ => ⟨rfl, rfl⟩⟩
theorem MB.kept {w w' : World} {row : Option Nat} {b n : Nat} {S : Id → Bool} (h : MB w b n S) (hg : w.grownBy w' row) (hne : some b ≠ row) : MB w' b n S := by
  obtain ⟨D, h1, h2⟩ := h; exact ⟨D, h1.kept hg hne, h2⟩
theorem MI.kept {w w' : World} {row : Option Nat} {b n : Nat} {F : Id → Option Int} (h : MI w b n F) (hg : w.grownBy w' row) (hne : some b ≠ row) : MI w' b n F := by
  obtain ⟨D, h1, h2⟩ := h; exact ⟨D, h1.kept hg hne, h2⟩
theorem MB.alloc {w : World} {b n : Nat} {S : Id → Bool} (h : MB w b n S) (o : Obj) : MB (w.alloc o) b n S := by
  obtain ⟨D, h1, h2⟩ := h; exact ⟨D, h1.alloc o, h2⟩
theorem MI.alloc {w : World} {b n : Nat} {F : Id → Option Int} (h : MI w b n F) (o : Obj) : MI (w.alloc o) b n F := by
  obtain ⟨D, h1, h2⟩ := h; exact ⟨D, h1.alloc o, h2⟩

section
variable {ops : Array Oper} {rest : List Oper} {o : Oper} {a : Act} {Q : Exit → Act → World → Prop}

theorem wpList_lookMB (w : World) (hg : o.guard = none) (m x : Operand) (hop : o.op = Op.lookup 44 m x false) (b n : Nat) (S : Id → Bool) (id : Id)
    (hm : a.eval m = .map (some b)) (h : MB w b n S) (hx : a.eval x = idV id) (hK : wpList Tryd.prog ops Q rest (a.put o.dst (.bool (S id))) w) : wpList Tryd.prog ops Q (o :: rest) a w := by
  obtain ⟨D, h1, h2⟩ := h
  refine wpList_plain hg fun K' hK' => ?_
  obtain ⟨v, ps, hrun, hv⟩ := h1.lookup law Tryd.underlying44 (zero4 w) (plainElem_bool Tryd.underlying4 false) (keyId id)
  obtain ⟨c, rfl, hc⟩ := plainElem_bool_inv hv
  have h3 := congrArg Prod.fst hc
  simp only [h2 id] at h3
  obtain rfl : S id = c := by simpa using h3
  unfold Oper.wp
  simp [execOp, hop, hm, hx, hrun, Result.andThen]
  exact hK' _ _ hK

theorem wpList_putMB (w : World) (hg : o.guard = none) (m x v : Operand) (hop : o.op = Op.mapUpdate 44 m x v) (b n : Nat) (S : Id → Bool) (id : Id)
    (hm : a.eval m = .map (some b)) (h : MB w b n S) (hn : n < maxLen) (hx : a.eval x = idV id) (hv : a.eval v = .bool true)
    (hK : ∀ w', MB w' b (n + 1) (fun y => if y = id then true else S y) → w.grownBy w' (some b) → wpList Tryd.prog ops Q rest (a.put o.dst undef) w') : wpList Tryd.prog ops Q (o :: rest) a w := by
  obtain ⟨D, h1, h2⟩ := h
  refine wpList_mapUpdate_own w hg m x v 44 hop 30 4 law Tryd.underlying44 _ b n D hm h1 hn _ _ (klId id) hx hv (keyId id) _ [] (plainElem_bool Tryd.underlying4 true) ?_
  intro w' h3 h4
  refine hK w' ⟨_, h3, fun y => ?_⟩ h4
  show _ = DataW.lit (.bool (if y = id then true else S y))
  by_cases e : y = id
  · subst e
    rw [if_pos rfl, atKey_put_same h1.isMap (klId_key y)]
  · rw [if_neg e, atKey_put_other (fun hh => e (klId_inj hh)), h2]

theorem wpList_lookMI (w : World) (hg : o.guard = none) (m x : Operand) (hop : o.op = Op.lookup 45 m x true) (b n : Nat) (F : Id → Option Int) (id : Id)
    (hm : a.eval m = .map (some b)) (h : MI w b n F) (hx : a.eval x = idV id) (hK : wpList Tryd.prog ops Q rest (a.put o.dst (.tuple #[.int .i64 ((F id).getD 0), .bool (F id).isSome])) w) : wpList Tryd.prog ops Q (o :: rest) a w := by
  obtain ⟨D, h1, h2⟩ := h
  refine wpList_lookup_own_ok_int w hg m x 45 hop 30 3 .i64 law Tryd.underlying45 Tryd.underlying3 (zero3 w) b n D hm h1 _ _ hx (keyId id) ?_
  intro c hat _
  rw [(h2 id).1] at hat
  obtain rfl : (F id).getD 0 = c := by simpa using hat
  rw [(h2 id).2]
  exact hK

theorem wpList_putMI (w : World) (hg : o.guard = none) (m x v : Operand) (hop : o.op = Op.mapUpdate 45 m x v) (b n : Nat) (F : Id → Option Int) (id : Id) (i : Int) (hi : (Lit.int .i64 i).wf = true)
    (hm : a.eval m = .map (some b)) (h : MI w b n F) (hn : n < maxLen) (hx : a.eval x = idV id) (hv : a.eval v = .int .i64 i)
    (hK : ∀ w', MI w' b (n + 1) (fun y => if y = id then some i else F y) → w.grownBy w' (some b) → wpList Tryd.prog ops Q rest (a.put o.dst undef) w') : wpList Tryd.prog ops Q (o :: rest) a w := by
  obtain ⟨D, h1, h2⟩ := h
  refine wpList_mapUpdate_own w hg m x v 45 hop 30 3 law Tryd.underlying45 _ b n D hm h1 hn _ _ (klId id) hx hv (keyId id) _ [] (plainElem_int Tryd.underlying3 hi) ?_
  intro w' h3 h4
  refine hK w' ⟨_, h3, fun y => ?_⟩ h4
  show _ = DataW.lit (.int .i64 ((if y = id then some i else F y).getD 0)) ∧ _ = (if y = id then some i else F y).isSome
  by_cases e : y = id
  · subst e
    rw [if_pos rfl, atKey_put_same h1.isMap (klId_key y), has_put_same h1.isMap (klId_key y)]
    exact ⟨rfl, rfl⟩
  · rw [if_neg e, atKey_put_other (fun hh => e (klId_inj hh)), has_put_other (fun hh => e (klId_inj hh))]
    exact h2 y
end
end Go.Proofs.YtacoeahipklibaaDoor
