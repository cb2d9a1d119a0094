/- A range over a function whose iterator writes one variable of its own between two rounds. -/
import Derived.Test.YteoghladllohjaaGreatDoorM8
import Derived.RangeFuncNested
import Derived.RangeFuncLeaves
import Derived.RangeFuncFrom
import Derived.RangeFuncBox
import Derived.OwnWalkIn
import Derived.TacticsInMore
import Derived.LoopNIn
import Derived.LoopIn
import Derived.Shelf.Abstract
import Derived.Shelf.RegionOpen
namespace Go.Proofs.YteoghladllohjaaGreatDoor
open Go.RowKit

/-- A word about worlds that abides whatever becomes of one block. -/
def Lets {β : Type} (b0 : Nat) (J : β → World → Prop) : Prop := ∀ s A B, J s A → A.grownBy B (some b0) → J s B

/-- The contract of such an iterator, at a world: it hands out its elements in turn, or a round has said 'no more'. -/
def Iter {α : Type} (F : Fence) (n : Nat) (P : Program) (g : Nat) (lb : Array Value) (encs : α → Array Value) (Kp : World → World → Prop) (S Sp : List α → Prop) (N b0 : Nat) (W : World) : Prop :=
  ∀ (l : Nat) (J Jx : List α → World → Prop), Lets b0 J → Lets b0 Jx →
    (∀ pre x V, J pre V → pre.length < N → YieldAt F (n - 1) P l (encs x) V fun e V' => (e = .returned (.bool true) ∧ J (pre ++ [x]) V' ∧ Kp V V') ∨ (e = .returned (.bool false) ∧ Jx (pre ++ [x]) V')) →
    J [] W → CallsIn F n P g (#[.func (.yield l) #[] #[]] ++ lb) W fun e V' => (∃ v, e = .returned v) ∧ ((∃ xs, S xs ∧ J xs V') ∨ (∃ pre, Sp pre ∧ Jx pre V'))

section
variable {F : Fence} {n : Nat} {P : Program}

/-- The loop, by the iterator's contract and one walk of its body. -/
theorem rangeBox {α : Type} {g : Operand} {ps : Array Tmp} {assign body : Code} {Q : Exit → Act → World → Prop} {a : Act} {w : World}
    (hro : F.round = none) (h1 : 1 ≤ n) {gf : Nat} {lb : Array Value} (hg : a.eval g = .func (.func gf) #[] lb) (hFg : F.fn gf) (eg : ∀ args w, (callFunc gf args).run P w = .ok (.enter gf args) w)
    {encs : α → Array Value} {Kp : World → World → Prop} {S Sp : List α → Prop} {N b0 : Nat} (hb0 : b0 < w.heap.size) (hit : ∀ W, Below w.heap.size w W → Iter F (n - 1) P gf lb encs Kp S Sp N b0 W)
    (hKt : ∀ {A B C : World}, Kp A B → Kp B C → Kp A C) (hKb : ∀ (W : World) (l : Nat) (o : Obj), w.heap.size ≤ l → Kp W (W.putObj l o)) (hps : ∀ x, (encs x).size = ps.size)
    (I : List α → World → Prop) (Ix : Code → List α → World → Prop) (hI : OwnFrom w.heap.size I) (hIx : ∀ c, OwnFrom w.heap.size (Ix c)) (hIb : Lets b0 I) (hIxb : ∀ c, Lets b0 (Ix c)) (h0 : I [] w) (a₁ : α → Act)
    (hassign : ∀ (l : Nat) (x : α) (W : World) (K : Act → World → Prop), K (a₁ x) W →
      assign.wpIn (F.inRound l) (n - 1 - 1) P (Exit.then K (fun _ _ _ => False)) { tmps := (ps.zip (encs x)).foldl (fun t (p, v) => t.setIfInBounds p v) a.tmps, defers := [] } W)
    (hbody : ∀ (l : Nat) (pre : List α) (x : α) (W : World), I pre W → pre.length < N → body.wpIn (F.inRound l) (n - 1 - 1) P (ownPostK Kp I Ix (pre ++ [x]) W) (a₁ x) W)
    (hdone : ∀ (D : Nat) (xs : List α) (W : World), w.heap.size ≤ D → S xs → I xs W → W.heap[D]? = some (.deferred (some [])) → Q .normal { a with defers := { target := .collected D, args := #[] } :: a.defers } W)
    (hstop : ∀ (D : Nat) (c : Code) (pre : List α) (W : World), w.heap.size ≤ D → Sp pre → Ix c pre W → W.heap[D]? = some (.deferred (some [])) → c.wpIn F n P Q { a with defers := { target := .collected D, args := #[] } :: a.defers } W) :
    (Code.rangeFunc g ps assign body).wpIn F n P Q a w := by
  refine wpIn_rangeFunc fun fn hfn => ?_
  rw [hro]
  -- the loop's record, in its states
  let R : LoopState → Option Code → Obj := fun st pe => .loop { state := st, pending := pe, fn, tmps := a.tmps, params := ps, assign, body, defers := w.heap.size }
  have start : ∃ W, W = (w.alloc (.deferred (some []))).alloc (R .ready none) := ⟨_, rfl⟩
  obtain ⟨W, hW⟩ := start
  have recAt : W.heap[w.heap.size + 1]? = some (R .ready none) := by
    have h := World.alloc_heap_new (w.alloc (.deferred (some []))) (R .ready none)
    rw [World.size_alloc] at h
    rw [hW]; exact h
  have defAt : W.heap[w.heap.size]? = some (.deferred (some [])) := by
    rw [hW]; exact (Below.heap_alloc _ _ _ (by rw [World.size_alloc]; omega)).trans (World.alloc_heap_new w _)
  have grown : Below w.heap.size w W := by
    rw [hW]; exact ((Below.refl _ w).alloc (Nat.le_refl _) _).alloc (by rw [World.size_alloc]; omega) _
  have begun : I [] W := by rw [hW]; exact hI.alloc _ (hI.alloc _ h0)
  -- a step of the iterator's leaves the record and the deferred calls
  have apart : ∀ {A B : World} {k : Nat} {o : Obj}, A.grownBy B (some b0) → w.heap.size ≤ k → A.heap[k]? = some o → B.heap[k]? = some o := fun hgr hk h =>
    (hgr.block _ (Array.getElem?_eq_some_iff.1 h).1 (fun e => by have := Option.some.inj e; omega)).trans h
  refine ⟨w.heap.size + 1, [{ target := .collected w.heap.size, args := #[] }], W, { target := .fn (.func gf) lb, args := #[.func (.yield (w.heap.size + 1)) #[] #[]] }, W, gf,
    #[.func (.yield (w.heap.size + 1)) #[] #[]] ++ lb, W, ?_, ?_, ?_, ?_, fun _ => h1, ?_⟩
  · rw [hW]; exact run_enterLoop_outer _ _ _ _ _
  · simp only [resolve, hg]
    simp [go_sem]
  · intro f' hf'
    simp [Target.leads] at hf'
    subst hf'
    exact hFg
  · simp [invoke, go_sem, eg]
  have behind := hit W grown (w.heap.size + 1)
    (fun pre V => I pre V ∧ V.heap[w.heap.size + 1]? = some (R .ready none) ∧ V.heap[w.heap.size]? = some (.deferred (some [])))
    (fun pre V => ∃ c, Ix c pre V ∧ V.heap[w.heap.size + 1]? = some (R .done (some c)) ∧ V.heap[w.heap.size]? = some (.deferred (some [])))
    (fun s A B hs hgr => ⟨hIb s A B hs.1 hgr, apart hgr (by omega) hs.2.1, apart hgr (Nat.le_refl _) hs.2.2⟩)
    (fun s A B ⟨c, hc, hl, hd⟩ hgr => ⟨c, hIxb c s A B hc hgr, apart hgr (by omega) hl, apart hgr (Nat.le_refl _) hd⟩)
    ?round ⟨begun, recAt, defAt⟩
  case round =>
    rintro pre x V ⟨hi, hl, hd⟩ hlen
    have hlt : w.heap.size + 1 < V.heap.size := (Array.getElem?_eq_some_iff.1 hl).1
    have busyAt : (V.putObj (w.heap.size + 1) (R .busy none)).heap[w.heap.size + 1]? = some (R .busy none) := World.putObj_heap_same hlt
    have defAt' : (V.putObj (w.heap.size + 1) (R .busy none)).heap[w.heap.size]? = some (.deferred (some [])) := (World.putObj_heap_other (by omega)).trans hd
    refine ⟨fn, _, assign, body, run_yield hl (hps x), roundIn_of_wpIn hfn (hassign _ x V _ ⟨_, run_beginRound hl rfl, ?_⟩)⟩
    refine wpIn_mono (hbody _ pre x _ (hI.putObj (R .busy none) hi (by omega) hl rfl) hlen) ?_
    -- how a round ends, with or without a jump
    have ends : ∀ (jump : Option Code) (U : World), KeepsOthers (V.putObj (w.heap.size + 1) (R .busy none)) U →
        U.heap[w.heap.size + 1]? = some (R .busy none) ∧ (Instr.endRound (w.heap.size + 1) jump).run P U = .ok (.bool jump.isNone) (U.putObj (w.heap.size + 1) (R (if jump.isNone then .ready else .done) jump)) ∧
        (U.putObj (w.heap.size + 1) (R (if jump.isNone then .ready else .done) jump)).heap[w.heap.size + 1]? = some (R (if jump.isNone then .ready else .done) jump) ∧
        (U.putObj (w.heap.size + 1) (R (if jump.isNone then .ready else .done) jump)).heap[w.heap.size]? = some (.deferred (some [])) := fun jump U hk =>
      have hu := hk.same _ _ busyAt rfl
      ⟨hu, run_endRound jump hu, World.putObj_heap_same (Array.getElem?_eq_some_iff.1 hu).1, (World.putObj_heap_other (by omega)).trans (hk.same _ _ defAt' rfl)⟩
    have jumped : ∀ (c : Code) (U : World), KeepsOthers (V.putObj (w.heap.size + 1) (R .busy none)) U ∧ Ix c (pre ++ [x]) U →
        ∃ v U', (Instr.endRound (w.heap.size + 1) (some c)).run P U = .ok v U' ∧ Ending.returned v = .returned (.bool false) ∧ ∃ c, Ix c (pre ++ [x]) U' ∧ U'.heap[w.heap.size + 1]? = some (R .done (some c)) ∧ U'.heap[w.heap.size]? = some (.deferred (some [])) := fun c U ⟨hk, hx⟩ =>
      let ⟨hu, hr, h3, h4⟩ := ends (some c) U hk
      ⟨_, _, hr, rfl, c, (hIx c).putObj _ hx (by omega) hu rfl, h3, h4⟩
    rintro e a3 U hp
    cases e with
    | normal =>
      obtain ⟨hk, hkp, hi3⟩ := hp
      obtain ⟨hu, hr, h3, h4⟩ := ends none U hk
      exact ⟨_, _, hr, .inl ⟨rfl, ⟨hI.putObj _ hi3 (by omega) hu rfl, h3, h4⟩, hKt (hKt (hKb _ _ _ (by omega)) hkp) (hKb _ _ _ (by omega))⟩⟩
    | ret => obtain ⟨v, U', hr, hx⟩ := jumped .ret U hp; exact ⟨v, U', hr, .inr hx⟩
    | exit id => obtain ⟨v, U', hr, hx⟩ := jumped (.exit id) U hp; exact ⟨v, U', hr, .inr hx⟩
    | goto t => obtain ⟨v, U', hr, hx⟩ := jumped (.goto t) U hp; exact ⟨v, U', hr, .inr hx⟩
    | panic ch => exact hp.elim
    | outgrown => exact hp.elim
  refine behind.mono ?_
  rintro e U ⟨⟨v, rfl⟩, ⟨xs, hS, hi, hl, hd⟩ | ⟨pre, hSp, c, hi, hl, hd⟩⟩
  · exact ⟨none, _, run_endLoop hl (by simp), hdone _ xs _ (Nat.le_refl _) hS (hI.putObj _ hi (by omega) hl rfl) ((World.putObj_heap_other (by omega)).trans hd)⟩
  · exact ⟨some c, _, run_endLoop hl (by simp), hstop _ c pre _ (Nat.le_refl _) hSp ((hIx c).putObj _ hi (by omega) hl rfl) ((World.putObj_heap_other (by omega)).trans hd)⟩
end
end Go.Proofs.YteoghladllohjaaGreatDoor
