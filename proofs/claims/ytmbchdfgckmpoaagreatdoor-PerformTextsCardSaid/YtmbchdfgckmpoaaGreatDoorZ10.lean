/- strings.Lines: the lines come in turn. -/
import Derived.Test.YtmbchdfgckmpoaaGreatDoorZ8
import Derived.RangeFuncNested
import Derived.RangeFuncLeaves
import Derived.RangeFuncFrom
import Derived.RangeFuncBox
import Derived.OwnWalkIn
import Derived.TacticsInMore
import Derived.LoopNIn
import Derived.LoopIn
import Derived.Shelf.Abstract
import Derived.Shelf.RegionOpen
namespace Go.Proofs.YtmbchdfgckmpoaaGreatDoor
section
open Go.RowKit

/-- A word about worlds that abides whatever becomes of one block. -/
def Lets {β : Type} (b0 : Nat) (J : β → World → Prop) : Prop := ∀ s A B, J s A → A.grownBy B (some b0) → J s B

/-- The contract of such an iterator, at a world: it hands out its elements in turn, or a round has said 'no more'. -/
def Iter {α : Type} (F : Fence) (n : Nat) (P : Program) (g : Nat) (lb : Array Value) (encs : α → Array Value) (Kp : World → World → Prop) (S Sp : List α → Prop) (N b0 : Nat) (W : World) : Prop :=
  ∀ (l : Nat) (J Jx : List α → World → Prop), Lets b0 J → Lets b0 Jx →
    (∀ pre x V, J pre V → pre.length < N → YieldAt F (n - 1) P l (encs x) V fun e V' => (e = .returned (.bool true) ∧ J (pre ++ [x]) V' ∧ Kp V V') ∨ (e = .returned (.bool false) ∧ Jx (pre ++ [x]) V')) →
    J [] W → CallsIn F n P g (#[.func (.yield l) #[] #[]] ++ lb) W fun e V' => (∃ v, e = .returned v) ∧ ((∃ xs, S xs ∧ J xs V') ∨ (∃ pre, Sp pre ∧ Jx pre V'))

section
variable {F : Fence} {n : Nat} {P : Program}

/-- The loop, by the iterator's contract and one walk of its body. -/
theorem rangeBox {α : Type} {g : Operand} {ps : Array Tmp} {assign body : Code} {Q : Exit → Act → World → Prop} {a : Act} {w : World}
    (hro : F.round = none) (h1 : 1 ≤ n) {gf : Nat} {lb : Array Value} (hg : a.eval g = .func (.func gf) #[] lb) (hFg : F.fn gf) (eg : ∀ args w, (callFunc gf args).run P w = .ok (.enter gf args) w)
    {encs : α → Array Value} {Kp : World → World → Prop} {S Sp : List α → Prop} {N b0 : Nat} (hb0 : b0 < w.heap.size) (hit : ∀ W, Below w.heap.size w W → Iter F (n - 1) P gf lb encs Kp S Sp N b0 W)
    (hKt : ∀ {A B C : World}, Kp A B → Kp B C → Kp A C) (hKb : ∀ (W : World) (l : Nat) (o : Obj), w.heap.size ≤ l → Kp W (W.putObj l o)) (hps : ∀ x, (encs x).size = ps.size)
    (I : List α → World → Prop) (Ix : Code → List α → World → Prop) (hI : OwnFrom w.heap.size I) (hIx : ∀ c, OwnFrom w.heap.size (Ix c)) (hIb : Lets b0 I) (hIxb : ∀ c, Lets b0 (Ix c)) (h0 : I [] w) (a₁ : α → Act)
    (hassign : ∀ (l : Nat) (x : α) (W : World) (K : Act → World → Prop), K (a₁ x) W →
      assign.wpIn (F.inRound l) (n - 1 - 1) P (Exit.then K (fun _ _ _ => False)) { tmps := (ps.zip (encs x)).foldl (fun t (p, v) => t.setIfInBounds p v) a.tmps, defers := [] } W)
    (hbody : ∀ (l : Nat) (pre : List α) (x : α) (W : World), I pre W → pre.length < N → body.wpIn (F.inRound l) (n - 1 - 1) P (ownPostK Kp I Ix (pre ++ [x]) W) (a₁ x) W)
    (hdone : ∀ (D : Nat) (xs : List α) (W : World), w.heap.size ≤ D → S xs → I xs W → W.heap[D]? = some (.deferred (some [])) → Q .normal { a with defers := { target := .collected D, args := #[] } :: a.defers } W)
    (hstop : ∀ (D : Nat) (c : Code) (pre : List α) (W : World), w.heap.size ≤ D → Sp pre → Ix c pre W → W.heap[D]? = some (.deferred (some [])) → c.wpIn F n P Q { a with defers := { target := .collected D, args := #[] } :: a.defers } W) :
    (Code.rangeFunc g ps assign body).wpIn F n P Q a w := by
  refine wpIn_rangeFunc fun fn hfn => ?_
  rw [hro]
  -- the loop's record, in its states
  let R : LoopState → Option Code → Obj := fun st pe => .loop { state := st, pending := pe, fn, tmps := a.tmps, params := ps, assign, body, defers := w.heap.size }
  have start : ∃ W, W = (w.alloc (.deferred (some []))).alloc (R .ready none) := ⟨_, rfl⟩
  obtain ⟨W, hW⟩ := start
  have recAt : W.heap[w.heap.size + 1]? = some (R .ready none) := by
    have h := World.alloc_heap_new (w.alloc (.deferred (some []))) (R .ready none)
    rw [World.size_alloc] at h
    rw [hW]; exact h
  have defAt : W.heap[w.heap.size]? = some (.deferred (some [])) := by
    rw [hW]; exact (Below.heap_alloc _ _ _ (by rw [World.size_alloc]; omega)).trans (World.alloc_heap_new w _)
  have grown : Below w.heap.size w W := by
    rw [hW]; exact ((Below.refl _ w).alloc (Nat.le_refl _) _).alloc (by rw [World.size_alloc]; omega) _
  have begun : I [] W := by rw [hW]; exact hI.alloc _ (hI.alloc _ h0)
  -- a step of the iterator's leaves the record and the deferred calls
  have apart : ∀ {A B : World} {k : Nat} {o : Obj}, A.grownBy B (some b0) → w.heap.size ≤ k → A.heap[k]? = some o → B.heap[k]? = some o := fun hgr hk h =>
    (hgr.block _ (Array.getElem?_eq_some_iff.1 h).1 (fun e => by have := Option.some.inj e; omega)).trans h
  refine ⟨w.heap.size + 1, [{ target := .collected w.heap.size, args := #[] }], W, { target := .fn (.func gf) lb, args := #[.func (.yield (w.heap.size + 1)) #[] #[]] }, W, gf,
    #[.func (.yield (w.heap.size + 1)) #[] #[]] ++ lb, W, ?_, ?_, ?_, ?_, fun _ => h1, ?_⟩
  · rw [hW]; exact run_enterLoop_outer _ _ _ _ _
  · simp only [resolve, hg]
    simp [go_sem]
  · intro f' hf'
    simp [Target.leads] at hf'
    subst hf'
    exact hFg
  · simp [invoke, go_sem, eg]
  have behind := hit W grown (w.heap.size + 1)
    (fun pre V => I pre V ∧ V.heap[w.heap.size + 1]? = some (R .ready none) ∧ V.heap[w.heap.size]? = some (.deferred (some [])))
    (fun pre V => ∃ c, Ix c pre V ∧ V.heap[w.heap.size + 1]? = some (R .done (some c)) ∧ V.heap[w.heap.size]? = some (.deferred (some [])))
    (fun s A B hs hgr => ⟨hIb s A B hs.1 hgr, apart hgr (by omega) hs.2.1, apart hgr (Nat.le_refl _) hs.2.2⟩)
    (fun s A B ⟨c, hc, hl, hd⟩ hgr => ⟨c, hIxb c s A B hc hgr, apart hgr (by omega) hl, apart hgr (Nat.le_refl _) hd⟩)
    ?round ⟨begun, recAt, defAt⟩
  case round =>
    rintro pre x V ⟨hi, hl, hd⟩ hlen
    have hlt : w.heap.size + 1 < V.heap.size := (Array.getElem?_eq_some_iff.1 hl).1
    have busyAt : (V.putObj (w.heap.size + 1) (R .busy none)).heap[w.heap.size + 1]? = some (R .busy none) := World.putObj_heap_same hlt
    have defAt' : (V.putObj (w.heap.size + 1) (R .busy none)).heap[w.heap.size]? = some (.deferred (some [])) := (World.putObj_heap_other (by omega)).trans hd
    refine ⟨fn, _, assign, body, run_yield hl (hps x), roundIn_of_wpIn hfn (hassign _ x V _ ⟨_, run_beginRound hl rfl, ?_⟩)⟩
    refine wpIn_mono (hbody _ pre x _ (hI.putObj (R .busy none) hi (by omega) hl rfl) hlen) ?_
    -- how a round ends, with or without a jump
    have ends : ∀ (jump : Option Code) (U : World), KeepsOthers (V.putObj (w.heap.size + 1) (R .busy none)) U →
        U.heap[w.heap.size + 1]? = some (R .busy none) ∧ (Instr.endRound (w.heap.size + 1) jump).run P U = .ok (.bool jump.isNone) (U.putObj (w.heap.size + 1) (R (if jump.isNone then .ready else .done) jump)) ∧
        (U.putObj (w.heap.size + 1) (R (if jump.isNone then .ready else .done) jump)).heap[w.heap.size + 1]? = some (R (if jump.isNone then .ready else .done) jump) ∧
        (U.putObj (w.heap.size + 1) (R (if jump.isNone then .ready else .done) jump)).heap[w.heap.size]? = some (.deferred (some [])) := fun jump U hk =>
      have hu := hk.same _ _ busyAt rfl
      ⟨hu, run_endRound jump hu, World.putObj_heap_same (Array.getElem?_eq_some_iff.1 hu).1, (World.putObj_heap_other (by omega)).trans (hk.same _ _ defAt' rfl)⟩
    have jumped : ∀ (c : Code) (U : World), KeepsOthers (V.putObj (w.heap.size + 1) (R .busy none)) U ∧ Ix c (pre ++ [x]) U →
        ∃ v U', (Instr.endRound (w.heap.size + 1) (some c)).run P U = .ok v U' ∧ Ending.returned v = .returned (.bool false) ∧ ∃ c, Ix c (pre ++ [x]) U' ∧ U'.heap[w.heap.size + 1]? = some (R .done (some c)) ∧ U'.heap[w.heap.size]? = some (.deferred (some [])) := fun c U ⟨hk, hx⟩ =>
      let ⟨hu, hr, h3, h4⟩ := ends (some c) U hk
      ⟨_, _, hr, rfl, c, (hIx c).putObj _ hx (by omega) hu rfl, h3, h4⟩
    rintro e a3 U hp
    cases e with
    | normal =>
      obtain ⟨hk, hkp, hi3⟩ := hp
      obtain ⟨hu, hr, h3, h4⟩ := ends none U hk
      exact ⟨_, _, hr, .inl ⟨rfl, ⟨hI.putObj _ hi3 (by omega) hu rfl, h3, h4⟩, hKt (hKt (hKb _ _ _ (by omega)) hkp) (hKb _ _ _ (by omega))⟩⟩
    | ret => obtain ⟨v, U', hr, hx⟩ := jumped .ret U hp; exact ⟨v, U', hr, .inr hx⟩
    | exit id => obtain ⟨v, U', hr, hx⟩ := jumped (.exit id) U hp; exact ⟨v, U', hr, .inr hx⟩
    | goto t => obtain ⟨v, U', hr, hx⟩ := jumped (.goto t) U hp; exact ⟨v, U', hr, .inr hx⟩
    | panic ch => exact hp.elim
    | outgrown => exact hp.elim
  refine behind.mono ?_
  rintro e U ⟨⟨v, rfl⟩, ⟨xs, hS, hi, hl, hd⟩ | ⟨pre, hSp, c, hi, hl, hd⟩⟩
  · exact ⟨none, _, run_endLoop hl (by simp), hdone _ xs _ (Nat.le_refl _) hS (hI.putObj _ hi (by omega) hl rfl) ((World.putObj_heap_other (by omega)).trans hd)⟩
  · exact ⟨some c, _, run_endLoop hl (by simp), hstop _ c pre _ (Nat.le_refl _) hSp ((hIx c).putObj _ hi (by omega) hl rfl) ((World.putObj_heap_other (by omega)).trans hd)⟩
end
end
open Go.RowKit Go.Shelf
attribute [local go_sem] Oper.semAt_some

theorem idx_hit (c : UInt8) (l : List UInt8) : Lib.index (c :: l) [c] = 0 := by simp [Lib.index, List.isPrefixOf]
theorem idx_skip {b c : UInt8} (h : c ≠ b) (l : List UInt8) : Lib.index (b :: l) [c] = if Lib.index l [c] == -1 then -1 else Lib.index l [c] + 1 := by
  have : (c == b) = false := by simpa using h
  rw [Lib.index]
  simp [List.isPrefixOf, this]
theorem idx_none {c : UInt8} : ∀ {l : List UInt8}, c ∉ l → Lib.index l [c] = -1
  | [], _ => by simp [Lib.index]
  | b :: l, h => by
    rw [idx_skip (fun e => h (by simp [e])), idx_none (fun e => h (by simp [e]))]
    rfl
theorem idx_append {c : UInt8} : ∀ {x : List UInt8} (y : List UInt8), c ∉ x → Lib.index (x ++ c :: y) [c] = x.length
  | [], y, _ => by rw [List.nil_append, idx_hit]; rfl
  | b :: x, y, h => by
    rw [List.cons_append, idx_skip (fun e => h (by simp [e])), idx_append y (fun e => h (by simp [e]))]
    have : ((x.length : Int) == -1) = false := by simp
    rw [this]
    simp
theorem idx_form (c : UInt8) (l : List UInt8) : (Lib.index l [c] = -1 ∧ c ∉ l) ∨ ∃ x y, l = x ++ c :: y ∧ c ∉ x ∧ Lib.index l [c] = x.length := by
  induction l with
  | nil => exact .inl ⟨by simp [Lib.index], by simp⟩
  | cons b l ih =>
    by_cases e : c = b
    · subst e
      exact .inr ⟨[], l, rfl, by simp, by rw [idx_hit]; rfl⟩
    · rcases ih with ⟨h1, h2⟩ | ⟨x, y, rfl, h2, h3⟩
      · exact .inl ⟨by rw [idx_skip e, h1]; rfl, by simp [e, h2]⟩
      · exact .inr ⟨b :: x, y, rfl, by simp [e, h2], by rw [← List.cons_append]; exact idx_append y (by simp [e, h2])⟩

theorem indexByte_eq (c : UInt8) : ∀ l : List UInt8, Lib.indexByte l c = Lib.index l [c]
  | [] => by simp [Lib.index, Lib.indexByte]
  | b :: l => by
    by_cases h : c = b
    · subst h
      rw [idx_hit]
      simp [Lib.indexByte]
    · have h2 : (b == c) = false := by simpa using Ne.symm h
      rw [idx_skip h, Lib.indexByte, h2, indexByte_eq c l]
      rfl


theorem grown_drew (w : World) (row : Option Nat) : w.grownBy w.drew row := ⟨rfl, rfl, rfl, Nat.le_refl _, fun _ _ _ => rfl⟩
def linesL : List UInt8 → List (List UInt8)
  | [] => []
  | c :: s => if c = 10 then [10] :: linesL s else match linesL s with
    | [] => [[c]]
    | p :: ps => (c :: p) :: ps
theorem linesL_one : ∀ {x : List UInt8}, (10 : UInt8) ∉ x → x ≠ [] → linesL x = [x]
  | [], _, h => absurd rfl h
  | [c], h, _ => by
    unfold linesL
    rw [if_neg (fun e => h (by simp [e]))]
    rfl
  | c :: d :: x, h, _ => by
    unfold linesL
    rw [if_neg (fun e => h (by simp [e])), linesL_one (fun e => h (by simp [e])) (by simp)]
theorem linesL_cons : ∀ {x : List UInt8} (y : List UInt8), (10 : UInt8) ∉ x → linesL (x ++ 10 :: y) = (x ++ [10]) :: linesL y
  | [], y, _ => by rw [List.nil_append, linesL, if_pos rfl]; rfl
  | c :: x, y, h => by
    rw [List.cons_append, linesL, if_neg (fun e => h (by simp [e])), linesL_cons y (fun e => h (by simp [e]))]
    rfl
theorem linesL_len : ∀ (s : List UInt8), (linesL s).length ≤ s.length
  | [] => by simp [linesL]
  | c :: s => by
    have := linesL_len s
    unfold linesL
    split
    · simp; omega
    · split
      · simp
      · rename_i p ps hp
        rw [hp] at this
        simp at this ⊢; omega
theorem linesL_join : ∀ (s : List UInt8), (linesL s).flatten = s
  | [] => rfl
  | c :: s => by
    have := linesL_join s
    unfold linesL
    split
    · rename_i h
      subst h
      simp [this]
    · split
      · rename_i h
        rw [h] at this
        simp at this ⊢
        exact this
      · rename_i p ps hp
        rw [hp] at this
        simp at this ⊢
        exact this

/-- A line: at most 5000 bytes. -/
abbrev Part := { x : List UInt8 // x.length ≤ 5000 }
def encP (x : Part) : Array Value := #[.string (bs x.1)]
/-- What a round keeps: the iterator's block. -/
def Kp1 (b0 : Nat) (V V' : World) : Prop := V'.heap[b0]? = V.heap[b0]?
theorem Kp1.trans {b0 : Nat} {A B C : World} (h : Kp1 b0 A B) (k : Kp1 b0 B C) : Kp1 b0 A C := Eq.trans k h
def boxLen (V : World) (b : Nat) : Nat := match V.cell? ⟨b, 0, none⟩ with
  | some (.string x) => x.size
  | _ => 0
theorem boxLen_eq {V : World} {b : Nat} {x : List UInt8} (h : V.cell? ⟨b, 0, none⟩ = some (.string (bs x))) : boxLen V b = x.length := by
  unfold boxLen; rw [h]; simp only; rw [bs_size]

theorem linesC (s : ByteArray) (w : World) : Calls Tryz.prog 17 #[.string s] w fun e w' => e = .returned (.func (.func 36) #[] #[.pointer (some ⟨w.heap.size, 0, none⟩)]) ∧ w' = w.alloc (.cells #[.string s] 9) := by
  go_enter Tryz.func17, Tryz.ntmps17
  go_wp2
  go_ret
  exact ⟨rfl, rfl⟩

set_option maxRecDepth 100000 in
set_option maxHeartbeats 4000000 in
theorem linesIn (n : Nat) (hn : 1 ≤ n) (l b0 : Nat) (s : List UInt8) (hs : s.length ≤ 5000) (J Jx : List Part → World → Prop) (hJ : Lets b0 J) (_hJx : Lets b0 Jx)
    (hY : ∀ pre x V, J pre V → pre.length < 6000 → YieldAt Fence.wide (n - 1) Tryz.prog l (encP x) V fun e V' => (e = .returned (.bool true) ∧ J (pre ++ [x]) V' ∧ Kp1 b0 V V') ∨ (e = .returned (.bool false) ∧ Jx (pre ++ [x]) V'))
    (W : World) (h0 : J [] W) (hb0 : Boxed W b0 9 (.string (bs s))) :
    CallsIn Fence.wide n Tryz.prog 36 #[.func (.yield l) #[] #[], .pointer (some ⟨b0, 0, none⟩)] W fun e W' => (∃ v, e = .returned v) ∧ ((∃ xs : List Part, xs.map (·.1) = linesL s ∧ J xs W') ∨ (∃ pre : List Part, pre.map (·.1) <+: linesL s ∧ Jx pre W')) := by
  have hsl := linesL_len s
  refine callsIn_of_wp Tryz.func36 rfl trivial ?_
  simp only [Tryz.ntmps36, List.size_toArray, List.length_cons, List.length_nil, Nat.reduceAdd, Nat.reduceSub, Array.replicate_succ, Array.replicate_zero, List.push_toArray, List.append_toArray, List.nil_append, List.cons_append]
  gi_wp2_with fail
  gi_loopw [4] (fun _ wr => ∃ (pre : List Part) (rest : List UInt8), rest.length ≤ 5000 ∧ linesL s = pre.map (·.1) ++ linesL rest ∧ J pre wr ∧ Boxed wr b0 9 (.string (bs rest))) (fun _ wr => boxLen wr b0)
  case atStart => exact ⟨[], s, hs, rfl, h0, hb0⟩
  case round =>
    clear h0 hb0
    obtain ⟨pre, rest, hrl, hsp, hj, hb0⟩ := hrel
    have c0 := hb0.cell
    have f0 := hb0.frozen
    have hbl := boxLen_eq c0
    have hix := Tryz.strings_IndexByte (bs rest) 10
    have er : (bs rest).data.toList = rest := by simp
    rw [er, show (10 : Int).toNat.toUInt8 = 10 from rfl, indexByte_eq] at hix
    have hrs := bs_size rest
    have hplen : pre.length + (linesL rest).length ≤ 5000 := by
      have := congrArg List.length hsp
      rw [List.length_append, List.length_map] at this
      omega
    by_cases hr0 : rest = []
    · subst hr0
      have hd : decide ((((bs []).size : Nat) : Int) > 0) = false := by rw [hrs]; decide
      have hsp' := Lib.hid hsp
      clear hY hix hsp er hsl
      gi_wp2_with fail
      go_end0
      exact ⟨⟨_, rfl⟩, .inl ⟨pre, by rw [hsp'.out]; simp [linesL], hj⟩⟩
    · have hpos : 0 < rest.length := List.length_pos_iff.2 hr0
      have hd : decide ((((bs rest).size : Nat) : Int) > 0) = true := decide_eq_true (by rw [hrs]; omega)
      rcases idx_form 10 rest with ⟨hi, hno⟩ | ⟨x, y, hxy, hno, hi⟩
      · have hone := linesL_one hno hr0
        rw [hi] at hix
        have hsp' := Lib.hid hsp
        rw [hone] at hplen
        simp only [List.length_singleton] at hplen
        have hj' := hJ _ _ _ hj (grownBy_setCell' wr b0 (.string ⟨#[]⟩))
        have hbx := hb0.set (.string ⟨#[]⟩)
        obtain ⟨fn, tmps, assign, body, hy, hR⟩ := hY pre ⟨rest, hrl⟩ _ hj' (by omega)
        dsimp only [encP] at hy
        have hone' := Lib.hid hone
        clear hY hi hno hone hsp er hsl hr0
        gi_wp2_with (refine ⟨trivial, ?_⟩; gi_at_call 37; refine (callsIn_wide.2 (hix wr)).mono ?_; rintro e w' ⟨rfl, rfl⟩)
        refine hR.mono ?_
        rintro e V' (⟨rfl, hj2, hk⟩ | ⟨rfl, hx'⟩)
        · have hb0' : Boxed V' b0 9 (.string (bs [])) := Eq.trans hk hbx
          gi_wp2_with fail
          go_roundw
          case rel => exact ⟨pre ++ [⟨rest, hrl⟩], [], by simp, by rw [hsp'.out, hone'.out]; simp [linesL], hj2, hb0'⟩
          case measure =>
            rw [boxLen_eq hb0'.cell, hbl]
            simpa using hpos
        · gi_wp2_with fail
          refine bodyPost_ret (results_none rfl _ _ _) rfl ?_
          exact ⟨⟨_, rfl⟩, .inr ⟨pre ++ [⟨rest, hrl⟩], by rw [hsp'.out, hone'.out]; simp, hx'⟩⟩
      · have hcons := linesL_cons y hno
        rw [← hxy] at hcons
        rw [hi] at hix
        rw [hcons] at hplen
        simp only [List.length_cons] at hplen
        have hlen : rest.length = x.length + 1 + y.length := by rw [hxy]; simp; omega
        have hcut1 : ∀ w, (Instr.slice 9 (.string (bs rest)) none (some (.int .i64 ((x.length : Int) + 1))) none).run Tryz.prog w = .ok (.string (bs (x ++ [10]))) w := by
          intro w
          have e : (bs rest).extract 0 (x.length + 1) = bs (x ++ [10]) := by
            apply ByteArray.ext
            apply Array.toList_inj.1
            rw [Lib.extract_data, hxy]
            simp
            rw [show x ++ 10 :: y = (x ++ [10]) ++ y from by simp]
            exact List.take_left' (by simp)
          have h1 : (x.length : Int) + 1 ≤ (rest.length : Int) := by omega
          have h2 : (0 : Int) ≤ (x.length : Int) + 1 := by omega
          have h3 : ((x.length : Int) + 1).toNat = x.length + 1 := by omega
          simp [go_sem, e, hrs, h1, h2, h3]
        have hcut2 : ∀ w, (Instr.slice 9 (.string (bs rest)) (some (.int .i64 ((x.length : Int) + 1))) none none).run Tryz.prog w = .ok (.string (bs y)) w := by
          intro w
          have e : (bs rest).extract (x.length + 1) rest.length = bs y := by
            apply ByteArray.ext
            apply Array.toList_inj.1
            rw [Lib.extract_data, hxy]
            simp
            exact List.take_of_length_le (by omega)
          have h1 : (x.length : Int) + 1 ≤ (rest.length : Int) := by omega
          have h2 : (0 : Int) ≤ (x.length : Int) + 1 := by omega
          have h3 : ((x.length : Int) + 1).toNat = x.length + 1 := by omega
          simp [go_sem, hrs, e, h1, h2, h3]
        have hsp' := Lib.hid (show linesL s = (pre.map (·.1) ++ [x ++ [10]]) ++ linesL y by rw [hsp, hcons]; simp)
        have hj' := hJ _ _ _ (hJ _ _ _ hj (grownBy_setCell' wr b0 (.string (bs y)))) (grown_drew _ _)
        have hbx : Boxed (wr.setCell ⟨b0, 0, none⟩ (.string (bs y))).drew b0 9 (.string (bs y)) := hb0.set (.string (bs y))
        have hx10 : (x ++ [10]).length ≤ 5000 := by simp; omega
        obtain ⟨fn, tmps, assign, body, hy, hR⟩ := hY pre ⟨x ++ [10], hx10⟩ _ hj' (by omega)
        dsimp only [encP] at hy
        have hyl : y.length ≤ 5000 := by omega
        have hxp : (0 : Int) ≤ (x.length : Int) := by omega
        have hxl : x.length ≤ 5000 := by omega
        have hw1 : IntKind.i64.wrap ((x.length : Int) + 1) = (x.length : Int) + 1 := IntWalk.i64_in _ (by omega)
        clear hY hi hno hcons hsp er hsl hxy hplen hr0
        generalize bs rest = R at *
        gi_wp2_with (first | (refine ⟨trivial, ?_⟩; gi_at_call 37; refine (callsIn_wide.2 (hix wr)).mono ?_; rintro e w' ⟨rfl, rfl⟩))
        gi_region
        gi_wp2_with fail
        refine hR.mono ?_
        rintro e V' (⟨rfl, hj2, hk⟩ | ⟨rfl, hx'⟩)
        · have hb0' : Boxed V' b0 9 (.string (bs y)) := Eq.trans hk hbx
          gi_wp2_with fail
          go_roundw
          case rel => exact ⟨pre ++ [⟨x ++ [10], hx10⟩], y, hyl, by rw [hsp'.out]; simp, hj2, hb0'⟩
          case measure =>
            rw [boxLen_eq hb0'.cell, hbl]
            omega
        · gi_wp2_with fail
          refine bodyPost_ret (results_none rfl _ _ _) rfl ?_
          exact ⟨⟨_, rfl⟩, .inr ⟨pre ++ [⟨x ++ [10], hx10⟩], by rw [hsp'.out]; simp, hx'⟩⟩
end Go.Proofs.YtmbchdfgckmpoaaGreatDoor
