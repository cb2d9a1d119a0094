/- MergeSequences: walk. -/
import Derived.Test.YtacoeahipklibaaDoorS1
import Derived.Test.YtacoeahipklibaaDoorB12
namespace Go.Proofs.YtacoeahipklibaaDoor
open Go.RowKit

set_option maxHeartbeats 2000000 in
theorem seqsBad (A1 A2 A3 : Option Addr) (c1 c2 c3 n1 n2 n3 : Nat) (w : World) (h : 12 < n1 ∨ (n1 ≤ 12 ∧ 12 < n2) ∨ (n1 ≤ 12 ∧ n2 ≤ 12 ∧ 12 < n3)) :
    Calls Tryd.prog 3 #[.slice A1 n1 c1, .slice A2 n2 c2, .slice A3 n3 c3] w fun r w' => r = .returned (.bool true) ∧ Below w.heap.size w w' := by
  rcases h with h | ⟨h, h2⟩ | ⟨h, h2, h3⟩
  · have e1 : decide ((12 : Int) < n1) = true := decide_eq_true (by omega)
    go_enter Tryd.func3, Tryd.ntmps3
    go_wp2_with fail
    refine (known _).mono ?_
    rintro e w1 ⟨rfl, hb⟩
    go_wp2_with fail
    refine (known _).mono ?_
    rintro e w3 ⟨rfl, hb3⟩
    go_wp2_with fail
    go_ret
    exact ⟨rfl, hb.trans (hb3.mono hb.size)⟩
  · have e1 : decide ((12 : Int) < n1) = false := decide_eq_false (by omega)
    have e2 : decide ((12 : Int) < n2) = true := decide_eq_true (by omega)
    go_enter Tryd.func3, Tryd.ntmps3
    go_wp2_with fail
    refine (known _).mono ?_
    rintro e w1 ⟨rfl, hb⟩
    go_wp2_with fail
    refine (known _).mono ?_
    rintro e w3 ⟨rfl, hb3⟩
    go_wp2_with fail
    go_ret
    exact ⟨rfl, hb.trans (hb3.mono hb.size)⟩
  · have e1 : decide ((12 : Int) < n1) = false := decide_eq_false (by omega)
    have e2 : decide ((12 : Int) < n2) = false := decide_eq_false (by omega)
    have e3 : decide ((12 : Int) < n3) = true := decide_eq_true (by omega)
    go_enter Tryd.func3, Tryd.ntmps3
    go_wp2_with fail
    refine (known _).mono ?_
    rintro e w1 ⟨rfl, hb⟩
    go_wp2_with fail
    refine (known _).mono ?_
    rintro e w3 ⟨rfl, hb3⟩
    go_wp2_with fail
    go_ret
    exact ⟨rfl, hb.trans (hb3.mono hb.size)⟩

set_option maxHeartbeats 4000000 in
theorem seqsGood (A1 A2 A3 : Option Addr) (c1 c2 c3 : Nat) (base left right : List Id) (w : World) (hb1 : base.length ≤ 12) (hl1 : left.length ≤ 12) (hr1 : right.length ≤ 12) (hb : SlI w A1 base) (hl : SlI w A2 left) (hr : SlI w A3 right) :
    Calls Tryd.prog 3 #[.slice A1 base.length c1, .slice A2 left.length c2, .slice A3 right.length c3] w fun r w' => r = .returned (.bool true) ∧ Below w.heap.size w w' := by
  have e1 : decide ((12 : Int) < base.length) = false := decide_eq_false (by omega)
  have e2 : decide ((12 : Int) < left.length) = false := decide_eq_false (by omega)
  have e3 : decide ((12 : Int) < right.length) = false := decide_eq_false (by omega)
  have hlen := seqF_len base left right
  have hu := Lib.hid (uniq_self (seqF_nodup base left right))
  have hSq := fun w h1 h2 h3 => sequenceP A1 A2 A3 c1 c2 c3 base left right w (by omega) (by omega) (by omega) h1 h2 h3
  have hSm := fun w h1 h2 h3 => sequenceM A1 A2 A3 c1 c2 c3 base left right w (by omega) (by omega) (by omega) h1 h2 h3
  generalize seqF base left right = L at *
  go_enter Tryd.func3, Tryd.ntmps3
  go_wp2_with fail
  refine (known _).mono ?_
  rintro e w1 ⟨rfl, B1⟩
  have hb := hb.below B1
  have hl := hl.below B1
  have hr := hr.below B1
  have z1 := B1.size
  go_wp2_with fail
  refine (hSq w1 hb hl hr).mono ?_
  rintro e w2 ⟨⟨AL, cL, rfl, hL⟩, B2⟩
  have hb := hb.below B2
  have hl := hl.below B2
  have hr := hr.below B2
  have B2 := B1.trans (B2.mono z1)
  have z2 := B2.size
  clear hSq B1 z1
  go_wp2_with fail
  refine (hSm w2 hb hl hr).mono ?_
  rintro e w3 ⟨⟨AM, cM, rfl, hM⟩, B3⟩
  have hL := hL.below B3
  have B3 := B2.trans (B3.mono z2)
  have z3 := B3.size
  clear hSm hb hl hr
  go_wp2_with fail
  refine (equalI AL AM cL cM L w3 (by omega) hL hM).mono ?_
  rintro e w4 ⟨rfl, B4⟩
  have hL := hL.below B4
  have B4 := B3.trans (B4.mono z3)
  have z4 := B4.size
  go_wp2_with fail
  refine (distinctC AL cL L w4 (by omega) hL).mono ?_
  rw [hu.out]
  rintro e w5 ⟨⟨A5, c5, rfl, hA5⟩, B5⟩
  go_wp2_with fail
  go_ret
  exact ⟨rfl, B4.trans (B5.mono z4)⟩

theorem seqsC (A1 A2 A3 : Option Addr) (c1 c2 c3 : Nat) (base left right : List Id) (w : World) (hb : SlI w A1 base) (hl : SlI w A2 left) (hr : SlI w A3 right) :
    Calls Tryd.prog 3 #[.slice A1 base.length c1, .slice A2 left.length c2, .slice A3 right.length c3] w fun r w' => r = .returned (.bool true) ∧ Below w.heap.size w w' := by
  by_cases h1 : base.length ≤ 12
  · by_cases h2 : left.length ≤ 12
    · by_cases h3 : right.length ≤ 12
      · exact seqsGood A1 A2 A3 c1 c2 c3 base left right w h1 h2 h3 hb hl hr
      · exact seqsBad _ _ _ _ _ _ _ _ _ w (.inr (.inr ⟨h1, h2, by omega⟩))
    · exact seqsBad _ _ _ _ _ _ _ _ _ w (.inr (.inl ⟨h1, by omega⟩))
  · exact seqsBad _ _ _ _ _ _ _ _ _ w (.inl (by omega))
end Go.Proofs.YtacoeahipklibaaDoor
