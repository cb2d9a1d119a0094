/- How Go data that came in lies in memory, as relations between Lean data and cells; and that what can be read as data lies so. Over any program. -/
import Derived.WalkKit
import Derived.ProofKit
import Derived.OpenShut
import Derived.Below
import Derived.Deep.Slices
namespace Go.Proofs.YteoghladllohjaaGreatDoor
open Go.ChangeShapes Go.WideShapes Go.RowKit

/-- In a world, below a block, data lies as cells. -/
abbrev Rel (α : Type) := World → Nat → α → List Value → Prop

/-- From an offset of a block on lie these cells. -/
def At (w : World) (b off : Nat) (cs : List Value) : Prop := ∀ j u, cs[j]? = some u → w.cell? ⟨b, off + j, none⟩ = some u

theorem At.below {w w' : World} {B b off : Nat} {cs : List Value} (h : At w b off cs) (hb : Below B w w') (hB : b < B) : At w' b off cs :=
  fun j u hu => (hb.cell (p := ⟨b, off + j, none⟩) hB).trans (h j u hu)

structure Keeps {α : Type} (R : Rel α) : Prop where
  below : ∀ {w w' : World} {B : Nat} {x : α} {cs : List Value}, R w B x cs → Below B w w' → R w' B x cs
  mono : ∀ {w : World} {B B' : Nat} {x : α} {cs : List Value}, R w B x cs → B ≤ B' → R w B' x cs

/-- Data with no memory behind it. -/
def relFlat {α : Type} (enc : α → List Value) : Rel α := fun _ _ x cs => cs = enc x
theorem keepsFlat {α : Type} (enc : α → List Value) : Keeps (relFlat enc) := ⟨fun h _ => h, fun h _ => h⟩

/-- A slice: nil, empty, or its elements one after another in a block. -/
def relSlice {α : Type} (R : Rel α) (size : Nat) : Rel (List α) := fun w B l cs =>
  (l = [] ∧ ∃ A cap, cs = [.slice A 0 cap] ∧ (A = none → cap = 0)) ∨
  ∃ b off cap, cs = [.slice (some ⟨b, off, none⟩) l.length cap] ∧ b < B ∧ l.length ≤ cap ∧ cap ≤ maxLen ∧ l ≠ [] ∧
    ∀ i (h : i < l.length), ∃ c, c.length = size ∧ At w b (off + i * size) c ∧ R w B l[i] c

theorem keepsSlice {α : Type} {R : Rel α} {size : Nat} (hR : Keeps R) : Keeps (relSlice R size) := by
  constructor
  · intro w w' B l cs h hb
    rcases h with h | ⟨b, off, cap, hcs, hB, h1, h2, h3, h4⟩
    · exact .inl h
    · refine .inr ⟨b, off, cap, hcs, hB, h1, h2, h3, fun i hi => ?_⟩
      obtain ⟨c, hc, ha, hr⟩ := h4 i hi
      exact ⟨c, hc, ha.below hb hB, hR.below hr hb⟩
  · intro w B B' l cs h hb
    rcases h with h | ⟨b, off, cap, hcs, hB, h1, h2, h3, h4⟩
    · exact .inl h
    · refine .inr ⟨b, off, cap, hcs, by omega, h1, h2, h3, fun i hi => ?_⟩
      obtain ⟨c, hc, ha, hr⟩ := h4 i hi
      exact ⟨c, hc, ha, hR.mono hr hb⟩

section
variable {H : Type} {enc : TypeId × Value → H} {P : Program}

/-- What can be read as data of a type lies as data of a relation. -/
def Opens {α : Type} (enc : TypeId × Value → H) (P : Program) (R : Rel α) (t : TypeId) : Prop :=
  ∀ (w : World) (base : Nat) (spare : Nat → Bool) (held : Bool) (fuel : Nat) (cs : List Value) (x : DataW H × List MemPlace), DataW.trod enc P w base spare held fuel t cs = some x → ∃ a, R w w.heap.size a cs

theorem choose_list {α : Type} {p : Nat → α → Prop} : ∀ n, (∀ i, i < n → ∃ a, p i a) → ∃ l : List α, l.length = n ∧ ∀ i (h : i < l.length), p i l[i]
  | 0, _ => ⟨[], rfl, by simp⟩
  | n + 1, h => by
    obtain ⟨l, hl, hp⟩ := choose_list n fun i hi => h i (by omega)
    obtain ⟨a, ha⟩ := h n (by omega)
    refine ⟨l ++ [a], by simp [hl], fun i hi => ?_⟩
    by_cases h1 : i < l.length
    · rw [List.getElem_append_left h1]; exact hp i h1
    · have : i = n := by simp at hi; omega
      subst this
      rw [List.getElem_append_right (by omega)]
      simpa [hl] using ha

theorem add_none (b off i : Nat) : (⟨b, off, none⟩ : Addr).add i = ⟨b, off + i, none⟩ := by unfold Addr.add; split <;> simp_all

theorem at_of_cells {w : World} {base : Nat} {b off i n : Nat} {cs : List Value} (h : w.cells? base ((⟨b, off, none⟩ : Addr).add i) n = some cs) : cs.length = n ∧ At w b (off + i) cs := by
  obtain ⟨_, h1, h2⟩ := World.cells?_some h
  refine ⟨h1, fun j u hu => ?_⟩
  have hj : j < n := by rw [← h1]; exact (List.getElem?_eq_some_iff.1 hu).1
  have := h2 j hj
  rw [add_none, add_none] at this
  rw [this, hu]

theorem opens_slice {α : Type} {R : Rel α} {size : Nat} {t e : TypeId} (ht : P.underlying t = some (.slice e)) (hC : P.cellsOf e = size) (hs : 0 < size) (ho : Opens enc P R e) : Opens enc P (relSlice R size) t := by
  intro w base spare held fuel cs x h
  rcases Go.Deep.open_slice ht h with ⟨rfl, _⟩ | ⟨a, len, cap, m, n, D, Pl, rfl, _, hl, hm, hmm, _, hi⟩
  · exact ⟨[], .inl ⟨rfl, none, 0, rfl, fun _ => rfl⟩⟩
  · have hml : len ≤ m := by rw [hmm]; split <;> omega
    by_cases h0 : len = 0
    · subst h0
      exact ⟨[], .inl ⟨rfl, some a, cap, rfl, by simp⟩⟩
    · rw [hC] at hi
      obtain ⟨c0, hc0, _⟩ := hi 0 (by omega)
      obtain ⟨b, off, rfl⟩ : ∃ b off, a = ⟨b, off, none⟩ := by
        obtain ⟨_, h1, h2⟩ := World.cells?_some hc0
        have h3 := h2 0 hs
        rw [Nat.zero_mul] at h3
        have hv : c0[0]? = some (c0[0]'(by omega)) := List.getElem?_eq_getElem (by omega)
        rw [hv] at h3
        obtain ⟨b, off, spot⟩ := a
        cases spot with
        | none => exact ⟨b, off, rfl⟩
        | some s => simp [Addr.add, World.cell?] at h3; split at h3 <;> simp_all
      have hb : b < w.heap.size := by
        obtain ⟨h1, h2⟩ := at_of_cells hc0
        have hv : c0[0]? = some (c0[0]'(by omega)) := List.getElem?_eq_getElem (by omega)
        exact World.block_lt_of_cell? w ⟨b, _, none⟩ (h2 0 _ hv)
      obtain ⟨l, hll, hp⟩ := choose_list (p := fun i a => ∃ c, c.length = size ∧ At w b (off + i * size) c ∧ R w w.heap.size a c) len (fun i hi' => by
        obtain ⟨c, hc, ht⟩ := hi i (by omega)
        obtain ⟨a, ha⟩ := ho _ _ _ _ _ _ _ ht
        obtain ⟨h1, h2⟩ := at_of_cells hc
        exact ⟨a, c, h1, h2, ha⟩)
      refine ⟨l, .inr ⟨b, off, cap, by rw [hll], hb, by omega, hm, fun he => ?_, hp⟩⟩
      rw [he] at hll; simp at hll; omega

/-- Which cells a type has, if all are ints or bools: true for an int. -/
def flatK (P : Program) : Nat → TypeId → Option (List Bool)
  | 0, _ => none
  | d + 1, t => match P.underlying t with
    | some (.int .i64) => some [true]
    | some .bool => some [false]
    | some (.struct fs) => (fs.toList.foldlM (fun acc f => if f.offset = acc.length then (flatK P d f.type).bind fun ks => if ks.length = P.cellsOf f.type then some (acc ++ ks) else none else none) []).bind fun ks => if ks.length = P.cellsOf t then some ks else none
    | _ => none

def fits : List Bool → List Value → Prop
  | [], [] => True
  | true :: ks, v :: vs => (∃ n, v = .int .i64 n ∧ IntKind.i64.has n) ∧ fits ks vs
  | false :: ks, v :: vs => (∃ b, v = .bool b) ∧ fits ks vs
  | _, _ => False

theorem fits_len : ∀ {ks : List Bool} {vs : List Value}, fits ks vs → vs.length = ks.length
  | [], [], _ => rfl
  | true :: ks, v :: vs, h => by simp [fits_len h.2]
  | false :: ks, v :: vs, h => by simp [fits_len h.2]
  | [], _ :: _, h => h.elim
  | true :: _, [], h => h.elim
  | false :: _, [], h => h.elim

theorem fits_append : ∀ {ks ks' : List Bool} {vs vs' : List Value}, fits ks vs → fits ks' vs' → fits (ks ++ ks') (vs ++ vs')
  | [], _, [], _, _, h' => h'
  | true :: _, _, _ :: _, _, h, h' => ⟨h.1, fits_append h.2 h'⟩
  | false :: _, _, _ :: _, _, h, h' => ⟨h.1, fits_append h.2 h'⟩
  | [], _, _ :: _, _, h, _ => h.elim
  | true :: _, _, [], _, h, _ => h.elim
  | false :: _, _, [], _, h, _ => h.elim

theorem wf_has {n : Int} (h : (Lit.int .i64 n).wf = true) : IntKind.i64.has n := by
  have := bounds_i64 h
  unfold IntKind.has
  constructor <;> simpa [IntKind.min, IntKind.max, IntKind.bits, IntKind.signed] using (by omega)

theorem fits_of_trod : ∀ (d : Nat) {t : TypeId} {ks : List Bool}, flatK P d t = some ks →
    ∀ (w : World) (base : Nat) (spare : Nat → Bool) (held : Bool) (fuel : Nat) (cs : List Value) (x : DataW H × List MemPlace), DataW.trod enc P w base spare held fuel t cs = some x → fits ks cs
  | 0, _, _, h => by simp [flatK] at h
  | d + 1, t, ks, h => by
    intro w base spare held fuel cs x hx
    unfold flatK at h
    split at h
    · rename_i hu
      injection h with h; subst h
      obtain ⟨n, h1, _, h2⟩ := DataW.trod_int hu hx
      subst h1
      exact ⟨⟨n, rfl, wf_has h2⟩, trivial⟩
    · rename_i hu
      injection h with h; subst h
      obtain ⟨b, h1, _⟩ := DataW.trod_bool hu hx
      subst h1
      exact ⟨⟨b, rfl⟩, trivial⟩
    · rename_i fs hu
      obtain ⟨xs, n, rfl, rfl, hl, hlen, hf⟩ := DataW.trod_struct hu hx
      rw [Option.bind_eq_some_iff] at h
      obtain ⟨ks', hfold, h⟩ := h
      split at h
      · rename_i hk
        injection h with h; subst h
        -- the fields one after another
        have key : ∀ (l : List Field) (pre : List Field) (acc ks : List Bool), fs.toList = pre ++ l →
            l.foldlM (fun acc f => if f.offset = acc.length then (flatK P d f.type).bind fun ks => if ks.length = P.cellsOf f.type then some (acc ++ ks) else none else none) acc = some ks →
            fits acc (cs.take acc.length) → fits ks (cs.take ks.length) := by
          intro l
          induction l with
          | nil => intro pre acc ks _ h hfit; simp at h; subst h; exact hfit
          | cons f l ih =>
            intro pre acc ks hpre h hfit
            rw [List.foldlM_cons] at h
            simp only [Option.bind_eq_bind, Option.bind_eq_some_iff] at h
            obtain ⟨acc', h1, h2⟩ := h
            split at h1
            · rename_i hoff
              rw [Option.bind_eq_some_iff] at h1
              obtain ⟨kf, hkf, h1⟩ := h1
              split at h1
              · rename_i hkl
                injection h1 with h1; subst h1
                refine ih (pre ++ [f]) _ _ (by simp [hpre]) h2 ?_
                have hfi : fs[pre.length]? = some f := by
                  rw [← Array.getElem?_toList, hpre]; simp
                have ht := hf pre.length f hfi
                have hxi : pre.length < xs.length := by
                  rw [hlen]; exact (Array.getElem?_eq_some_iff.1 hfi).1
                rw [List.getElem?_eq_getElem hxi] at ht
                have hff := fits_of_trod d hkf _ _ _ _ _ _ _ ht
                have hlf := fits_len hff
                rw [hoff] at hff
                have : cs.take (acc ++ kf).length = cs.take acc.length ++ (cs.drop acc.length).take (P.cellsOf f.type) := by
                  rw [List.length_append, List.take_add, hkl]
                rw [this]
                exact fits_append hfit hff
              · cases h1
            · cases h1
        have := key fs.toList [] [] ks' (by simp) hfold (by simp [fits])
        rw [hk, ← hl, List.take_length] at this
        exact this
      · cases h
    · cases h
end
end Go.Proofs.YteoghladllohjaaGreatDoor
