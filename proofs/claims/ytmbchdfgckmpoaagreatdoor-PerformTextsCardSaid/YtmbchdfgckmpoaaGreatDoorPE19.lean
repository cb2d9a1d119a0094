/- PE, part 19: what a closed run says of the machine. -/
import Derived.Test.YtmbchdfgckmpoaaGreatDoorPE18
namespace Go.PE
open Go.RowKit

def gh0 : Gh := ⟨fun _ _ => Option.none, fun _ _ => Option.none, fun _ => Option.none, fun _ => Option.none⟩
theorem inv0 (w : World) : Inv gh0 [] w :=
  ⟨fun _ _ _ h => (nomatch h), fun k x h => by simp at h, fun _ _ h => (nomatch h), fun _ _ h => (nomatch h), fun _ _ => rfl, fun _ _ _ => rfl, fun _ _ h => (nomatch h)⟩
theorem hOk0 (P : Program) : HOk P [] := fun k env ps ai bd cA cB st pend h => by simp at h
theorem step_below {n : Nat} {g g' : Gh} {w w' : World} (h : Step n g w g' w') (h0 : ∀ b, g.O b = Option.none) : Below w.heap.size w w' :=
  ⟨h.os, h.tape, h.output, h.size, fun b hb => h.block b hb (h0 b)⟩
/-- A result that is known whole. -/
def toVal : PV → Option Value
  | .sc v => some v
  | .tup cs => ((cs.mapM fun p : PV => match p with | .sc v => some v | _ => none) : Option (List Value)).map fun l : List Value => .tuple l.toArray
  | _ => none
theorem toVal_inv {g : Gh} {p : PV} {v u : Value} (h : toVal p = some v) (hr : RV g p u) : u = v := by
  cases hr with
  | sc hp => simp [toVal] at h; exact h
  | tup hn hk =>
    rename_i cs vs
    simp only [toVal, Option.map_eq_some_iff] at h
    obtain ⟨l, hl, rfl⟩ := h
    have e := mapM_sc hl
    subst e
    congr 1
    apply Array.ext'
    apply List.ext_getElem?
    intro i
    cases hi : l[i]? with
    | none =>
      have : l.length ≤ i := by simpa using hi
      rw [List.getElem?_eq_none (by simp at hn ⊢; omega)]
    | some x =>
      have hlt : i < vs.size := by simp at hn; have := (List.getElem?_eq_some_iff.1 hi).1; omega
      have := (sc_inv (hk i (.sc x) vs[i] (by simp [hi]) (Array.getElem?_eq_getElem hlt))).1
      simp [hlt, this]
  | _ => simp [toVal] at h
/-- A closed run of a function whose arguments and result are scalars. -/
theorem run_calls {P : Program} {pre : FuncId → List PV → Option PV} {tab : FuncId → Option AF} (hmix : P.follows .mixedOrders = true) (hp : PreOk P pre) (ht : TabOk P tab) (n : Nat) {f : FuncId} {cut : Bool} (args : List Value) (ha : args.all plainV = true) {r : PV} {v : Value} {H' : List Blk} {lo : Nat}
    (h : evF pre tab n cut (.fn f true) (args.map .sc) [] = some (r, H', lo)) (hv : toVal r = some v) (w : World) :
    Calls P f args.toArray w fun e w' => e = .returned v ∧ Below w.heap.size w w' := by
  obtain ⟨h1, _⟩ := evF_sound hmix hp ht n cut (.fn f true) (args.map .sc) [] _ _ _ (hOk0 P) h
  have h1 : ACall P f (args.map .sc) [] _ := h1
  refine (h1.2 gh0 w args.toArray (inv0 w) ⟨by simp, fun i p u hp hu => ?_⟩).mono ?_
  · simp only [List.getElem?_map, Option.map_eq_some_iff] at hp
    obtain ⟨x, hx, rfl⟩ := hp
    have : x = u := by simpa [hx] using hu
    subst this
    exact .sc (List.all_eq_true.1 ha x (List.mem_of_getElem? hx))
  · rintro e w' ⟨u, r', H2, g', rfl, ⟨rfl, _⟩, hS, _, _, hr⟩
    rw [toVal_inv hv hr]
    exact ⟨rfl, step_below hS fun _ => rfl⟩
end Go.PE
