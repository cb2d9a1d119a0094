/- Grace notes: how they lie; event.CheckGraces. -/
import Derived.Test.YtaklcnhenapckaaA6
import Derived.Test.YtaklcnhenapckaaRel
namespace Go.Proofs.Ytaklcnhenapckaa
open Go.RowKit

structure Gr where
  (s a o log : Int) (slash : Bool)
def encGr (g : Gr) : List Value := [.int .i64 g.s, .int .i64 g.a, .int .i64 g.o, .int .i64 g.log, .bool g.slash]

theorem opensGr {H : Type} (enc : TypeId × Value → H) : Opens enc Try.prog (relFlat encGr) 53 := by
  intro w base spare held fuel cs x h
  have hf := fits_of_trod 3 (show flatK Try.prog 3 53 = some [true, true, true, true, false] by kernel_rfl) _ _ _ _ _ _ _ h
  match cs, fits_len hf, hf with
  | [_, _, _, _, _], _, ⟨⟨s, rfl, _⟩, ⟨a, rfl, _⟩, ⟨o, rfl, _⟩, ⟨l, rfl, _⟩, ⟨b, rfl⟩, _⟩ => exact ⟨⟨s, a, o, l, b⟩, rfl⟩

def gAt0 (l : List Gr) (k : Nat) : Gr := l.getD k ⟨0, 0, 0, 1, false⟩

/-- From an offset of a block on lie n grace notes. -/
def RdG (w : World) (b off n : Nat) (l : List Gr) : Prop := ∀ k, k < n →
    w.cell? ⟨b, off + k * 5, none⟩ = some (.int .i64 (gAt0 l k).s) ∧ w.cell? ⟨b, off + k * 5 + 1, none⟩ = some (.int .i64 (gAt0 l k).a) ∧ w.cell? ⟨b, off + k * 5 + 2, none⟩ = some (.int .i64 (gAt0 l k).o) ∧
      w.cell? ⟨b, off + k * 5 + 3, none⟩ = some (.int .i64 (gAt0 l k).log) ∧ w.cell? ⟨b, off + k * 5 + 4, none⟩ = some (.bool (gAt0 l k).slash)
theorem RdG.below {w w' : World} {B b off n : Nat} {l : List Gr} (h : RdG w b off n l) (hb : Below B w w') (hB : b < B) : RdG w' b off n l := by
  intro k hk
  obtain ⟨h1, h2, h3, h4, h5⟩ := h k hk
  exact ⟨(hb.cell (p := ⟨b, _, none⟩) hB).trans h1, (hb.cell (p := ⟨b, _, none⟩) hB).trans h2, (hb.cell (p := ⟨b, _, none⟩) hB).trans h3, (hb.cell (p := ⟨b, _, none⟩) hB).trans h4, (hb.cell (p := ⟨b, _, none⟩) hB).trans h5⟩
theorem RdG.of {w : World} {b off n : Nat} {l : List Gr} {B : Nat} (hn : l.length = n) (h : ∀ i (h : i < l.length), ∃ c, c.length = 5 ∧ At w b (off + i * 5) c ∧ relFlat encGr w B l[i] c) : RdG w b off n l := by
  intro k hk
  have hk' : k < l.length := by omega
  obtain ⟨c, _, h1, h2⟩ := h k hk'
  have e : gAt0 l k = l[k] := by simp [gAt0, List.getD, hk']
  rw [e]
  rw [h2] at h1
  exact ⟨h1 0 _ rfl, h1 1 _ rfl, h1 2 _ rfl, h1 3 _ rfl, h1 4 _ rfl⟩

theorem pitchCheckF_two (s a o : Int) : pitchCheckF s a o = 0 ∨ pitchCheckF s a o = 18 := by unfold pitchCheckF; (repeat' split) <;> simp

/-- event.number. -/
theorem evNumber (s a o : Int) (w : World) :
    Calls Try.prog 35 #[pitchV s a o] w fun e w' => e = .returned (.tuple #[.int .i64 (numOr s a o), .int .i64 (pitchCheckF s a o)]) ∧ Below w.heap.size w w' := by
  rcases pitchCheckF_two s a o with h | h
  · obtain ⟨_, _, _, _, _, _, h7, h8⟩ := pitchCheckF_in h
    have e1 : numOr s a o = numberF s a o := (numOr_in h).symm
    rw [e1, h]
    go_enter Try.func35, Try.ntmps35
    go_wp2_with fail
    refine (numberC _ _ _ _).mono ?_; rintro e w1 ⟨rfl, hb1⟩
    rw [e1, h]
    clear e1 h
    go_wp2_with fail
    go_ret2
    exact ⟨rfl, bstep ((Below.refl _ _).alloc (Nat.le_refl _) _) hb1⟩
  · have e1 : numOr s a o = 0 := by unfold numOr; rw [if_neg (by omega)]
    rw [e1, h]
    go_enter Try.func35, Try.ntmps35
    go_wp2_with fail
    refine (numberC _ _ _ _).mono ?_; rintro e w1 ⟨rfl, hb1⟩
    rw [e1, h]
    clear e1 h
    go_wp2_with fail
    go_ret2
    exact ⟨rfl, bstep ((Below.refl _ _).alloc (Nat.le_refl _) _) hb1⟩

def checkL : List Gr → Int
  | [] => 0
  | g :: l => if pitchCheckF g.s g.a g.o ≠ 0 then 18 else if g.log < 1 ∨ 6 < g.log then 2 else checkL l
def checkG (l : List Gr) : Int := if 8 < l.length then 9 else checkL l

theorem checkL_drop {l : List Gr} {k : Nat} (h : k < l.length) : checkL (l.drop k) = if pitchCheckF (gAt0 l k).s (gAt0 l k).a (gAt0 l k).o ≠ 0 then 18 else if (gAt0 l k).log < 1 ∨ 6 < (gAt0 l k).log then 2 else checkL (l.drop (k + 1)) := by
  rw [List.drop_eq_getElem_cons h, checkL]
  simp [gAt0, List.getD, h]

set_option maxHeartbeats 2000000 in
theorem checkGraces (l : List Gr) (n : Nat) (hl' : l.length = n) (b off cap : Nat) (w : World) (hb : b < w.heap.size) (hr : RdG w b off n l) (h0 : 0 < n) (hn : n ≤ 10) :
    Calls Try.prog 31 #[.slice (some ⟨b, off, none⟩) n cap] w fun e w' => e = .returned (.int .i64 (checkG l)) ∧ Below w.heap.size w w' := by
  have hl := Lib.hid hl'
  clear hl'
  by_cases h8 : 8 < n
  · have he := Lib.hid (show checkG l = 9 by unfold checkG; rw [hl.out, if_pos h8])
    clear hr
    go_enter Try.func31, Try.ntmps31
    go_wp2_with fail
    go_ret
    exact ⟨ret_int he.out.symm, Below.refl _ _⟩
  · have he := Lib.hid (show checkG l = checkL (l.drop 0) by unfold checkG; rw [hl.out, if_neg h8]; rfl)
    have hR := Lib.hid hr
    clear hr
    go_enter Try.func31, Try.ntmps31
    go_wp2_with fail
    go_loopw [12] (fun i wr => ∃ k : Nat, k ≤ n ∧ i = .int .i64 k ∧ Hid (checkG l = checkL (l.drop k)) ∧ Below w.heap.size w wr) (fun i _ => n - (intOf i).toNat)
    case atStart => exact ⟨0, by omega, rfl, he, Below.refl _ _⟩
    case round =>
      obtain ⟨k, hk, rfl, hh, hbel⟩ := hrel
      have hz := hbel.size
      by_cases hlt : k < n
      · have hkl : k < l.length := by rw [hl.out]; exact hlt
        obtain ⟨a1, a2, a3, a4, a5⟩ := (hR.out.below hbel hb) k hlt
        have hd := Lib.hid (checkL_drop hkl)
        generalize (gAt0 l k).s = S at *
        generalize (gAt0 l k).a = A at *
        generalize (gAt0 l k).o = O at *
        generalize (gAt0 l k).log = G at *
        generalize (gAt0 l k).slash = SL at *
        go_wp2_with fail
        refine (evNumber _ _ _ _).mono ?_; rintro e w1 ⟨rfl, hb1⟩
        obtain ⟨hc1, hf1⟩ := bcell hb1
        have hz1 : wr.heap.size < w1.heap.size := by have := hb1.size; simp at this; omega
        have B1 : Below w.heap.size w w1 := (hbel.alloc hz _).trans (hb1.mono (by simp; omega))
        rcases pitchCheckF_two S A O with hp | hp
        · rw [hp]
          rw [hp] at hd
          by_cases hg : G < 1
          · go_wp2_with fail
            go_ret
            exact ⟨ret_int (by rw [hh.out, hd.out, if_neg (by omega), if_pos (by omega)]), B1⟩
          · by_cases hg2 : 6 < G
            · go_wp2_with fail
              go_ret
              exact ⟨ret_int (by rw [hh.out, hd.out, if_neg (by omega), if_pos (by omega)]), B1⟩
            · have hh2 := Lib.hid (show checkG l = checkL (l.drop (k + 1)) by rw [hh.out, hd.out, if_neg (by omega), if_neg (by omega)])
              go_wp2_with fail
              go_roundw
              case rel => exact ⟨k + 1, by omega, by go_num, hh2, B1⟩
              case measure => simp [intOf]; omega
        · rw [hp]
          rw [hp] at hd
          go_wp2_with fail
          go_ret
          exact ⟨ret_int (by rw [hh.out, hd.out, if_pos (by omega)]), B1⟩
      · obtain rfl : k = n := by omega
        have hh2 := Lib.hid (show checkG l = 0 by rw [hh.out, ← hl.out, List.drop_length]; rfl)
        go_wp2_with fail
        go_ret
        exact ⟨ret_int hh2.out.symm, hbel⟩
end Go.Proofs.Ytaklcnhenapckaa
