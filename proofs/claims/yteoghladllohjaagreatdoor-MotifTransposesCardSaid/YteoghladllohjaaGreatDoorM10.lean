/- strings.SplitSeq at one space: the parts come in turn. -/
import Derived.Test.YteoghladllohjaaGreatDoorM9
namespace Go.Proofs.YteoghladllohjaaGreatDoor
open Go.RowKit Go.Shelf
attribute [local go_sem] Oper.semAt_some

theorem indexByte_eq (c : UInt8) : ∀ l : List UInt8, Lib.indexByte l c = Lib.index l [c]
  | [] => by simp [Lib.index, Lib.indexByte]
  | b :: l => by
    by_cases h : c = b
    · subst h
      rw [idx_hit]
      simp [Lib.indexByte]
    · have h2 : (b == c) = false := by simpa using Ne.symm h
      rw [idx_skip h, Lib.indexByte, h2, indexByte_eq c l]
      rfl

/-- A part: at most 5000 bytes. -/
abbrev Part := { x : List UInt8 // x.length ≤ 5000 }
def encP (x : Part) : Array Value := #[.string (bs x.1)]
/-- What a round keeps: three blocks. -/
def Kp3 (b0 b1 b2 : Nat) (V V' : World) : Prop := V'.heap[b0]? = V.heap[b0]? ∧ V'.heap[b1]? = V.heap[b1]? ∧ V'.heap[b2]? = V.heap[b2]?
theorem Kp3.trans {b0 b1 b2 : Nat} {A B C : World} (h : Kp3 b0 b1 b2 A B) (k : Kp3 b0 b1 b2 B C) : Kp3 b0 b1 b2 A C := ⟨k.1.trans h.1, k.2.1.trans h.2.1, k.2.2.trans h.2.2⟩
def boxLen (V : World) (b : Nat) : Nat := match V.cell? ⟨b, 0, none⟩ with
  | some (.string x) => x.size + 1
  | _ => 0
theorem boxLen_eq {V : World} {b : Nat} {x : List UInt8} (h : V.cell? ⟨b, 0, none⟩ = some (.string (bs x))) : boxLen V b = x.length + 1 := by
  unfold boxLen; rw [h]; simp only; rw [bs_size]

theorem splitSeqC (s : ByteArray) (w : World) : Calls Tryz.prog 35 #[.string s, .string ⟨#[32]⟩] w fun e w' => e = .returned (.func (.func 62) #[] #[.pointer (some ⟨w.heap.size + 1, 0, none⟩), .pointer (some ⟨w.heap.size, 0, none⟩), .pointer (some ⟨w.heap.size + 1 + 1, 0, none⟩)]) ∧ w' = ((w.alloc (.cells #[.string s] 9)).alloc (.cells #[.string ⟨#[32]⟩] 9)).alloc (.cells #[.int .i64 0] 3) := by
  have h29 : Calls Tryz.prog 48 #[.string s, .string ⟨#[32]⟩, .int .i64 0] w fun e w' => e = .returned (.func (.func 62) #[] #[.pointer (some ⟨w.heap.size + 1, 0, none⟩), .pointer (some ⟨w.heap.size, 0, none⟩), .pointer (some ⟨w.heap.size + 1 + 1, 0, none⟩)]) ∧ w' = ((w.alloc (.cells #[.string s] 9)).alloc (.cells #[.string ⟨#[32]⟩] 9)).alloc (.cells #[.int .i64 0] 3) := by
    go_enter Tryz.func48, Tryz.ntmps48
    go_wp2
    go_ret
    exact ⟨rfl, rfl⟩
  go_enter Tryz.func35, Tryz.ntmps35
  go_wp2_with fail
  refine h29.mono ?_
  rintro e w' ⟨rfl, rfl⟩
  go_wp2_with fail
  go_ret
  exact ⟨rfl, rfl⟩

set_option maxRecDepth 100000 in
set_option maxHeartbeats 4000000 in
theorem splitIn (n : Nat) (hn : 1 ≤ n) (l b1 b0 b2 : Nat) (hne1 : b1 ≠ b0) (hne2 : b2 ≠ b0) (s : List UInt8) (hs : s.length ≤ 5000) (J Jx : List Part → World → Prop) (hJ : Lets b0 J) (_hJx : Lets b0 Jx)
    (hY : ∀ pre x V, J pre V → pre.length < 6000 → YieldAt Fence.wide (n - 1) Tryz.prog l (encP x) V fun e V' => (e = .returned (.bool true) ∧ J (pre ++ [x]) V' ∧ Kp3 b0 b1 b2 V V') ∨ (e = .returned (.bool false) ∧ Jx (pre ++ [x]) V'))
    (W : World) (h0 : J [] W) (hb0 : Boxed W b0 9 (.string (bs s))) (hb1 : Boxed W b1 9 (.string ⟨#[32]⟩)) (hb2 : Boxed W b2 3 (.int .i64 0)) :
    CallsIn Fence.wide n Tryz.prog 62 #[.func (.yield l) #[] #[], .pointer (some ⟨b1, 0, none⟩), .pointer (some ⟨b0, 0, none⟩), .pointer (some ⟨b2, 0, none⟩)] W fun e W' => (∃ v, e = .returned v) ∧ ((∃ xs : List Part, xs.map (·.1) = splitL s ∧ J xs W') ∨ (∃ pre : List Part, pre.map (·.1) <+: splitL s ∧ Jx pre W')) := by
  have hsl := splitL_len s
  refine callsIn_of_wp Tryz.func62 rfl trivial ?_
  simp only [Tryz.ntmps62, List.size_toArray, List.length_cons, List.length_nil, Nat.reduceAdd, Nat.reduceSub, Array.replicate_succ, Array.replicate_zero, List.push_toArray, List.append_toArray, List.nil_append, List.cons_append]
  have c1 := hb1.cell
  gi_wp2_with fail
  gi_loopw [7] (fun _ wr => ∃ (pre : List Part) (rest : List UInt8), rest.length ≤ 5000 ∧ splitL s = pre.map (·.1) ++ splitL rest ∧ J pre wr ∧ Boxed wr b0 9 (.string (bs rest)) ∧ Boxed wr b1 9 (.string ⟨#[32]⟩) ∧ Boxed wr b2 3 (.int .i64 0)) (fun _ wr => boxLen wr b0)
  case atStart => exact ⟨[], s, hs, rfl, h0, hb0, hb1, hb2⟩
  case round =>
    clear h0 hb0 hb1 hb2 c1
    obtain ⟨pre, rest, hrl, hsp, hj, hb0, hb1, hb2⟩ := hrel
    have c0 := hb0.cell
    have c1 := hb1.cell
    have c2 := hb2.cell
    have f0 := hb0.frozen
    have hix := Tryz.strings_Index_one (bs rest) 32
    have er : (bs rest).data.toList = rest := by simp
    rw [er, indexByte_eq] at hix
    have hbl := boxLen_eq c0
    have hplen : pre.length + (splitL rest).length ≤ 5001 := by
      have := congrArg List.length hsp
      rw [List.length_append, List.length_map] at this
      omega
    rcases idx_form 32 rest with ⟨hi, hno⟩ | ⟨x, y, hxy, hno, hi⟩
    · have hone := splitL_one hno
      rw [hi] at hix
      have hsp' := Lib.hid hsp
      rw [hone] at hplen
      simp only [List.length_singleton] at hplen
      obtain ⟨fn, tmps, assign, body, hy, hR⟩ := hY pre ⟨rest, hrl⟩ wr hj (by omega)
      dsimp only [encP] at hy
      have hone' := Lib.hid hone
      clear hY hi hno hone hsp er hsl
      gi_wp2_with (refine ⟨trivial, ?_⟩; gi_at_call 64; refine (callsIn_wide.2 (hix wr)).mono ?_; rintro e w' ⟨rfl, rfl⟩)
      refine hR.mono ?_
      rintro e V' (⟨rfl, hj', hk⟩ | ⟨rfl, hx'⟩)
      · gi_wp2_with fail
        go_end0
        exact ⟨⟨_, rfl⟩, .inl ⟨pre ++ [⟨rest, hrl⟩], by rw [hsp'.out, hone'.out]; simp, hj'⟩⟩
      · gi_wp2_with fail
        go_end0
        exact ⟨⟨_, rfl⟩, .inr ⟨pre ++ [⟨rest, hrl⟩], by rw [hsp'.out, hone'.out]; simp, hx'⟩⟩
    · have hcons := splitL_cons y hno
      rw [← hxy] at hcons
      rw [hi] at hix
      rw [hcons] at hplen
      simp only [List.length_cons] at hplen
      have hlen : rest.length = x.length + 1 + y.length := by rw [hxy]; simp; omega
      have hcut1 : ∀ w, (Instr.slice 9 (.string (bs rest)) none (some (.int .i64 (x.length : Int))) none).run Tryz.prog w = .ok (.string (bs x)) w := by
        intro w
        have e : (bs rest).extract 0 x.length = bs x := by
          apply ByteArray.ext
          apply Array.toList_inj.1
          rw [Lib.extract_data, hxy]
          simp
        have hsz := bs_size rest
        have h1 : ¬ rest.length < x.length := by omega
        simp [go_sem, e, hsz]
        exact fun h => absurd h h1
      have hcut2 : ∀ w, (Instr.slice 9 (.string (bs rest)) (some (.int .i64 ((x.length : Int) + 1))) none none).run Tryz.prog w = .ok (.string (bs y)) w := by
        intro w
        have hsz := bs_size rest
        have e : (bs rest).extract (x.length + 1) rest.length = bs y := by
          apply ByteArray.ext
          apply Array.toList_inj.1
          rw [Lib.extract_data, hxy]
          simp
          exact List.take_of_length_le (by omega)
        have h1 : (x.length : Int) + 1 ≤ (rest.length : Int) := by omega
        have h2 : (0 : Int) ≤ (x.length : Int) + 1 := by omega
        have h3 : ((x.length : Int) + 1).toNat = x.length + 1 := by omega
        simp [go_sem, hsz, e, h1, h2, h3]
      have hsp' := Lib.hid (show splitL s = (pre.map (·.1) ++ [x]) ++ splitL y by rw [hsp, hcons]; simp)
      obtain ⟨fn, tmps, assign, body, hy, hR⟩ := hY pre ⟨x, by omega⟩ wr hj (by omega)
      dsimp only [encP] at hy
      have hyl : y.length ≤ 5000 := by omega
      have hxl : x.length ≤ 5000 := by omega
      have hxy' := Lib.hid hxy
      clear hY hi hno hcons hsp er hsl hxy hplen
      generalize bs rest = R at *
      gi_wp2_with (refine ⟨trivial, ?_⟩; gi_at_call 64; refine (callsIn_wide.2 (hix wr)).mono ?_; rintro e w' ⟨rfl, rfl⟩)
      refine hR.mono ?_
      rintro e V' (⟨rfl, hj', hk⟩ | ⟨rfl, hx'⟩)
      · have hb0' : Boxed V' b0 9 (.string R) := hk.1.trans hb0
        have hb1' : Boxed V' b1 9 (.string ⟨#[32]⟩) := hk.2.1.trans hb1
        have hb2' : Boxed V' b2 3 (.int .i64 0) := hk.2.2.trans hb2
        have d0 := hb0'.cell
        have d1 := hb1'.cell
        have d2 := hb2'.cell
        have g0 := hb0'.frozen
        gi_wp2_with fail
        go_roundw
        case rel => exact ⟨pre ++ [⟨x, by omega⟩], y, hyl, by rw [hsp'.out]; simp, hJ _ _ _ hj' (grownBy_setCell' _ _ _), hb0'.set _, hb1'.kept (grownBy_setCell' _ _ _) (by simpa using hne1), hb2'.kept (grownBy_setCell' _ _ _) (by simpa using hne2)⟩
        case measure =>
          rw [boxLen_eq ((hb0'.set (.string (bs y))).cell)]
          omega
      · gi_wp2_with fail
        refine bodyPost_ret (results_none rfl _ _ _) rfl ?_
        exact ⟨⟨_, rfl⟩, .inr ⟨pre ++ [⟨x, by omega⟩], by rw [hsp'.out]; simp, hx'⟩⟩
end Go.Proofs.YteoghladllohjaaGreatDoor
