/- PE, part 21: results known ahead: closed calls that were run before, and calls that the model runs here and now. -/
import Derived.Test.YtmbchdfgckmpoaaGreatDoorPE20
import Derived.Laws.Externs
namespace Go.PE
open Go.RowKit

/-- A value that hangs on no block that can change. -/
def closedP : Nat → PV → Bool
  | 0, _ => false
  | n + 1, p => match p with
    | .any => true
    | .sc _ => true
    | .agg cs => cs.all (closedP n)
    | .tup cs => cs.all (closedP n)
    | .sl _ r _ es => (match r with | .own _ => false | _ => true) && es.all fun e => e.all (closedP n)
    | .ip cs => cs.all (closedP n)
    | .fn _ p q => p.all (closedP n) && q.all (closedP n)
    | _ => false
theorem RV.closed {g g2 : Gh} (hC : ∀ b o v, g.C b o = some v → g2.C b o = some v) : ∀ (n : Nat) {p : PV} {v : Value}, closedP n p = true → RV g p v → RV g2 p v
  | 0, p, v, h, _ => by cases h
  | n + 1, p, v, h, hr => by
    have ih := fun {p : PV} {v : Value} => RV.closed hC n (p := p) (v := v)
    have lst : ∀ {cs : List PV}, cs.all (closedP n) = true → ∀ (i : Nat) (p : PV), cs[i]? = some p → closedP n p = true := fun hc i p hp => List.all_eq_true.1 hc p (List.mem_of_getElem? hp)
    cases hr with
    | any v => exact .any v
    | sc hp => exact .sc hp
    | agg hn hk => exact .agg hn fun i p v hp hv => ih (lst h i p hp) (hk i p v hp hv)
    | tup hn hk => exact .tup hn fun i p v hp hv => ih (lst h i p hp) (hk i p v hp hv)
    | nilsl r s => exact .nilsl r s
    | @sl r es b o cap s vf hc hm hs hC0 hR hr =>
      simp only [closedP, Bool.and_eq_true] at h
      have hel : ∀ (i j : Nat) (e : List PV) (p : PV), es[i]? = some e → e[j]? = some p → closedP n p = true := fun i j e p he hp =>
        List.all_eq_true.1 (List.all_eq_true.1 h.2 e (List.mem_of_getElem? he)) p (List.mem_of_getElem? hp)
      refine .sl vf hc hm hs (fun i j e p he hp => hC _ _ _ (hC0 i j e p he hp)) (fun i j e p he hp => ih (hel i j e p he hp) (hR i j e p he hp)) ?_
      cases r with
      | no => trivial
      | full => exact hr
      | own j => cases h.1
    | ip vf hC0 hR => exact .ip vf (fun j p hp => hC _ _ _ (hC0 j p hp)) fun j p hp => ih (lst h j p hp) (hR j p hp)
    | bp _ => cases h
    | fn hn hm hk hk2 =>
      simp only [closedP, Bool.and_eq_true] at h
      exact .fn hn hm (fun i p v hp hv => ih (lst h.1 i p hp) (hk i p v hp hv)) (fun i p v hp hv => ih (lst h.2 i p hp) (hk2 i p v hp hv))
    | mp _ => cases h
    | bs _ _ _ _ _ => cases h
    | yl _ => cases h

/-- What a closed call does beside no memory of ours, it does beside any. -/
theorem frame_call {P : Program} {f : FuncId} {args : List PV} {r : PV} (ha : args.all (closedP 60) = true) (hr : closedP 60 r = true) (h : ACall P f args [] (fun r' H' => r' = r ∧ H' = [])) (H : List Blk) :
    ACall P f args H (fun r' H' => r' = r ∧ H' = H) := by
  refine ⟨h.1, fun g w vs hI hargs => ?_⟩
  let g0 : Gh := ⟨g.C, fun _ _ => Option.none, fun _ => Option.none, fun _ => Option.none⟩
  have hI0 : Inv g0 [] w := ⟨hI.C, fun k x h => by simp at h, fun _ _ h => (nomatch h), fun _ _ h => (nomatch h), fun _ _ => rfl, fun _ _ _ => rfl, fun _ _ h => (nomatch h)⟩
  have hL0 : LR g0 args vs := ⟨hargs.1, fun i p v hp hv => RV.closed (g := g) (g2 := g0) (fun _ _ _ h => h) 60 (List.all_eq_true.1 ha p (List.mem_of_getElem? hp)) (hargs.2 i p v hp hv)⟩
  refine (h.2 g0 w vs hI0 hL0).mono ?_
  rintro e w' ⟨u, r', H2, g', rfl, ⟨rfl, rfl⟩, hS, _, hI', hru⟩
  let g2 : Gh := ⟨g'.C, g.T, g.B, g.O⟩
  have hle : g.le g2 := ⟨fun b o v h => hS.le.C b o v h, fun _ _ _ h => h, fun _ _ h => h, fun _ _ h => h⟩
  refine ⟨u, r', H, g2, rfl, ⟨rfl, rfl⟩, ⟨hle, fun _ _ => rfl, hS.os, hS.tape, hS.output, hS.size, fun b hb _ => hS.block b hb rfl, fun b k h => .inl h, fun b o _ hb => hS.C b o rfl hb⟩, Nat.le_refl _,
    ⟨hI'.C, fun k x hx => ?_, hI.own, fun b k h => Nat.lt_of_lt_of_le (hI.lt b k h) hS.size, hI.domB, hI.domT, hI.domO⟩, RV.closed (g := g') (g2 := g2) (fun _ _ _ h => h) 60 hr hru⟩
  exact (hI.blk k x hx).keep hle rfl (fun _ => rfl) (fun b hb => ⟨hS.block b (hI.lt b k hb) rfl, fun q => hS.C b q rfl (hI.lt b k hb)⟩) hI.own

/-! ### equal arguments -/
def eqL {α : Type} (f : α → α → Bool) : List α → List α → Bool
  | [], [] => true
  | x :: l, y :: m => match f x y with
    | true => eqL f l m
    | false => false
  | _, _ => false
theorem eqL_sound {α : Type} {f : α → α → Bool} (hf : ∀ x y, f x y = true → x = y) : ∀ {l m : List α}, eqL f l m = true → l = m
  | [], [], _ => rfl
  | x :: l, y :: m, h => by
    simp only [eqL] at h
    split at h
    · rename_i h1; rw [hf x y h1, eqL_sound hf h]
    · cases h
  | [], _ :: _, h => by cases h
  | _ :: _, [], h => by cases h
def eqInt (a b : Int) : Bool := match a, b with
  | .ofNat a, .ofNat b => Nat.beq a b
  | .negSucc a, .negSucc b => Nat.beq a b
  | _, _ => false
theorem eqInt_sound {a b : Int} (h : eqInt a b = true) : a = b := by
  cases a <;> cases b <;> simp only [eqInt] at h
  · rw [Nat.eq_of_beq_eq_true h]
  · cases h
  · cases h
  · rw [Nat.eq_of_beq_eq_true h]
def eqKd (a b : IntKind) : Bool := a == b
def eqVal (a b : Value) : Bool := match a, b with
  | .int k a, .int k' b => (match decide (k = k') with | true => eqInt a b | false => false)
  | .bool a, .bool b => a == b
  | .string a, .string b => a.data.toList == b.data.toList
  | .nilFunc, .nilFunc => true
  | .nilIface, .nilIface => true
  | .pointer none, .pointer none => true
  | .map none, .map none => true
  | _, _ => false
theorem eqVal_sound {a b : Value} (h : eqVal a b = true) : a = b := by
  unfold eqVal at h
  split at h
  · rename_i k a k' b
    split at h
    · rename_i hk
      have hk : k = k' := by simpa using hk
      rw [hk, eqInt_sound h]
    · cases h
  · simp at h; rw [h]
  · rename_i a b
    obtain ⟨⟨a⟩⟩ := a
    obtain ⟨⟨b⟩⟩ := b
    have : a = b := by simpa using h
    rw [this]
  all_goals first | rfl | cases h
def eqRt (a b : Right) : Bool := match a, b with
  | .no, .no => true
  | .full, .full => true
  | .own a, .own b => Nat.beq a b
  | _, _ => false
def eqP : Nat → PV → PV → Bool
  | 0, _, _ => false
  | n + 1, p, q => match p with
    | .sc a => (match q with | .sc b => eqVal a b | _ => false)
    | .agg a => (match q with | .agg b => eqL (eqP n) a b | _ => false)
    | .tup a => (match q with | .tup b => eqL (eqP n) a b | _ => false)
    | .sl nl r s es => (match q with
      | .sl nl' r' s' es' => (match (nl == nl') && eqRt r r' && Nat.beq s s' with | true => eqL (eqL (eqP n)) es es' | false => false)
      | _ => false)
    | _ => false
theorem eqP_sound : ∀ (n : Nat) {p q : PV}, eqP n p q = true → p = q
  | 0, p, q, h => by cases h
  | n + 1, p, q, h => by
    have ih := fun x y (h : eqP n x y = true) => eqP_sound n h
    cases p <;> cases q <;> simp only [eqP] at h <;> try (cases h; done)
    · rw [eqVal_sound h]
    · rw [eqL_sound ih h]
    · rw [eqL_sound ih h]
    · rename_i nl r s es nl' r' s' es'
      split at h
      · rename_i h1
        simp only [Bool.and_eq_true, beq_iff_eq] at h1
        obtain ⟨⟨rfl, hr⟩, hs⟩ := h1
        have hr : r = r' := by
          cases r <;> cases r' <;> simp only [eqRt] at hr
          · rfl
          · cases hr
          · cases hr
          · cases hr
          · rfl
          · cases hr
          · cases hr
          · cases hr
          · rw [Nat.eq_of_beq_eq_true hr]
        rw [hr, Nat.eq_of_beq_eq_true hs, eqL_sound (fun x y h => eqL_sound ih h) h]
      · cases h

/-! ### a table as a tree -/
inductive LT where
  | e
  | n (k : Nat) (v : AF) (l r : LT)
def LT.look : LT → FuncId → Option AF
  | .e, _ => none
  | .n k v l r, f => match Nat.beq f k with
    | true => some v
    | false => match Nat.ble f k with
      | true => l.look f
      | false => r.look f
def LT.All (P : Program) : LT → Prop
  | .e => True
  | .n k v l r => EntryOk P k v ∧ l.All P ∧ r.All P
theorem LT.ok {P : Program} : ∀ {t : LT}, t.All P → TabOk P t.look
  | .e, _, f, af, h => by cases h
  | .n k v l r, ht, f, af, h => by
    simp only [LT.look] at h
    split at h
    · rename_i hk
      cases h
      rw [Nat.eq_of_beq_eq_true hk]
      exact ht.1
    · split at h
      · exact LT.ok ht.2.1 f af h
      · exact LT.ok ht.2.2 f af h

/-! ### what is known ahead -/
structure Fact where
  f : Nat
  args : List PV
  r : PV
def preL : List Fact → FuncId → List PV → Option PV
  | [], _, _ => none
  | x :: l, f, args => match Nat.beq x.f f with
    | true => (match eqL (eqP 60) x.args args with | true => some x.r | false => preL l f args)
    | false => preL l f args
def FactOk (P : Program) (x : Fact) : Prop := ∀ H, XCall P x.f x.args H (fun r' H' => r' = x.r ∧ H' = H)
theorem preL_ok {P : Program} : ∀ {l : List Fact}, (∀ x ∈ l, FactOk P x) → PreOk P (preL l)
  | [], _ => fun f args r h => by cases h
  | x :: l, hl => fun f args r h H => by
    have ih := preL_ok (P := P) (l := l) (fun y hy => hl y (List.mem_cons_of_mem _ hy))
    simp only [preL] at h
    split at h
    · rename_i h1
      split at h
      · rename_i h2
        have e1 := Nat.eq_of_beq_eq_true h1
        have e2 := eqL_sound (fun _ _ h => eqP_sound 60 h) h2
        cases h
        subst e2
        have := hl x (List.mem_cons_self ..) H
        rw [e1] at this
        exact this
      · exact ih f args r h H
    · exact ih f args r h H
/-- A closed run is a fact. -/
theorem fact_of_run {P : Program} {pre : FuncId → List PV → Option PV} {tab : FuncId → Option AF} (hmix : P.follows .mixedOrders = true) (hp : PreOk P pre) (ht : TabOk P tab) (n : Nat) {f : Nat} {args : List PV} {r : PV}
    (ha : args.all (closedP 60) = true) (hr : closedP 60 r = true) {cut : Bool} {lo : Nat} (h : gF pre tab n cut (.fn f true) args [] = some (r, [], lo)) : FactOk P ⟨f, args, r⟩ := fun H => by
  obtain ⟨h1, _⟩ := evF_sound hmix hp ht n cut (.fn f true) args [] _ _ _ (hOk0 P) (gF_le pre tab n _ _ _ _ _ h)
  exact .inl (frame_call ha hr h1 H)

/-- math/bits.Add64, whose number is given. -/
def add64 (args : List PV) : Option PV := match args with
  | [.sc (.int .u64 (.ofNat x)), .sc (.int .u64 (.ofNat y)), .sc (.int .u64 (.ofNat c))] => (match Nat.ble c 1 with
    | true => some (.tup [.sc (.int .u64 (.ofNat (Nat.mod (Nat.add (Nat.add x y) c) 18446744073709551616))), .sc (.int .u64 (.ofNat (Nat.div (Nat.add (Nat.add x y) c) 18446744073709551616)))])
    | false => none)
  | _ => none
def preA (n : Nat) (pre : FuncId → List PV → Option PV) : FuncId → List PV → Option PV := fun f args => match Nat.beq f n with
  | true => add64 args
  | false => pre f args
theorem preA_ok {P : Program} {n : Nat} {pre : FuncId → List PV → Option PV} (hp : PreOk P pre)
    (hA : ∀ (x y c : Nat), c ≤ 1 → ∀ w, (callFunc n #[.int .u64 x, .int .u64 y, .int .u64 c]).run P w = .ok (.value (.tuple #[.int .u64 (((x + y + c) % 18446744073709551616 : Nat) : Int), .int .u64 (((x + y + c) / 18446744073709551616 : Nat) : Int)])) w) : PreOk P (preA n pre) := by
  intro f args r h H
  unfold preA at h
  split at h
  · rename_i hf
    have hf : f = n := Nat.eq_of_beq_eq_true hf
    subst hf
    unfold add64 at h
    split at h
    · rename_i x y c
      split at h
      · rename_i hc
        have hc : c ≤ 1 := Nat.le_of_ble_eq_true hc
        cases h
        refine .inr fun g w vs hL => ?_
        have e : vs = #[.int .u64 x, .int .u64 y, .int .u64 c] := by
          have hn : vs.size = 3 := by rw [← hL.1]; rfl
          apply Array.ext
          · simpa using hn
          · intro i h1 h2
            have hi : i < 3 := by omega
            match i, hi with
            | 0, _ => exact (sc_inv (hL.2 0 _ _ rfl (Array.getElem?_eq_getElem h1))).1
            | 1, _ => exact (sc_inv (hL.2 1 _ _ rfl (Array.getElem?_eq_getElem h1))).1
            | 2, _ => exact (sc_inv (hL.2 2 _ _ rfl (Array.getElem?_eq_getElem h1))).1
        rw [e]
        refine ⟨_, _, hA x y c hc w, ⟨rfl, rfl⟩, .tup rfl fun i p v hp hv => ?_⟩
        match i, hp, hv with
        | 0, hp, hv => simp at hp hv; subst hp; subst hv; exact .sc rfl
        | 1, hp, hv => simp at hp hv; subst hp; subst hv; exact .sc rfl
        | i + 2, hp, hv => simp at hp
      · cases h
    · cases h
  · exact hp f args r h H
end Go.PE
