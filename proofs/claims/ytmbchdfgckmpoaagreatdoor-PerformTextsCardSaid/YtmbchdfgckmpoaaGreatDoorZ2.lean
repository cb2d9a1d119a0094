/- The Builder's writing methods; Itoa; what the library's variables hold. -/
import Derived.Test.YtmbchdfgckmpoaaGreatDoorB1
import Derived.Test.YtmbchdfgckmpoaaGreatDoorShelf
import Derived.Lib.AppendIntMem
import Derived.Lib.AtoiErrMem
import Derived.Laws.IdiomStrings
import Derived.Lib.Builder
import Derived.Lib.AppendStr
import Derived.Lib.UnsafeStr
import Derived.Laws.Externs
import Derived.IntWalk
import Derived.Lib.ItoaNum
import Derived.Lib.ItoaLen
namespace Go.Proofs.YtmbchdfgckmpoaaGreatDoor
open Go.RowKit Go.Sort

abbrev Tab (w : World) : Prop := Lib.TabIs Tryz.prog w "internal/strconv.uint64pow10" .u64 Lib.pow10Tab
abbrev bs (l : List UInt8) : ByteArray := ⟨l.toArray⟩
theorem bs_size (l : List UInt8) : (bs l).size = l.length := by show l.toArray.size = _; simp
theorem bs_append (a b : List UInt8) : bs a ++ bs b = bs (a ++ b) := ByteArray.mk_append_mk _ _
theorem itoa_len (z : Int) (h1 : -9223372036854775808 ≤ z) (h2 : z ≤ 9223372036854775807) : (Lib.itoa z).length ≤ 21 := Lib.itoa_length_le z (by omega) (by omega)
/-- What the variables of the library hold that the code reads. -/
structure Env (w : World) : Prop where
  tab : Tab w
  size : 4 ≤ w.heap.size
  max : ∃ m : Int, w.cell? ⟨0, 0, none⟩ = some (.int .i64 m)
  syn : ∃ t p, w.cell? ⟨2, 0, none⟩ = some (.iface t p)
  rng : ∃ t p, w.cell? ⟨3, 0, none⟩ = some (.iface t p)
theorem Env.below {w w' : World} (h : Env w) {B : Nat} (hb : Below B w w') (hB : B = w.heap.size) : Env w' := by
  subst hB
  have hs := h.size
  refine ⟨Lib.tabBelow_of_tabIs h.tab w' hb, Nat.le_trans hs hb.size, ?_, ?_, ?_⟩
  · obtain ⟨m, hm⟩ := h.max
    exact ⟨m, (hb.cell (p := ⟨0, 0, none⟩) (by show 0 < _; omega)).trans hm⟩
  · obtain ⟨t, p, hm⟩ := h.syn
    exact ⟨t, p, (hb.cell (p := ⟨2, 0, none⟩) (by show 2 < _; omega)).trans hm⟩
  · obtain ⟨t, p, hm⟩ := h.rng
    exact ⟨t, p, (hb.cell (p := ⟨3, 0, none⟩) (by show 3 < _; omega)).trans hm⟩
theorem itoaC (z : Int) (w : World) (h : Env w) (h0 : -9223372036854775808 ≤ z) (h1 : z ≤ 9223372036854775807) : Calls Tryz.prog 14 #[.int .i64 z] w fun e w' => e = .returned (.string (bs (Lib.itoa z))) ∧ Below w.heap.size w w' :=
  (Tryz.strconv_Itoa z h0 h1 w h.tab).mono fun _ _ ⟨he, k, os, hw⟩ => ⟨he, hw ▸ Lib.below_grow _ w (Nat.le_refl _) k os⟩
theorem info5 : (Tryz.prog.info? 5).map (fun i => (i.zero, i.size, i.bytes)) = some (some (.int .u8 0), 1, 1) := by kernel_rfl
theorem sz49 : (Tryz.prog.info? 49).map (·.size) = some 2 := by kernel_rfl

/-- Blocks that are no rows of bytes, but for one, stay as they are. -/
def Keep (b : Nat) (w w' : World) : Prop := ∀ k cs t fz, w.heap[k]? = some (.cells cs t fz) → t ≠ 5 → k ≠ b → w'.heap[k]? = some (.cells cs t fz)
theorem Keep.refl (b : Nat) (w : World) : Keep b w w := fun _ _ _ _ h _ _ => h
theorem Keep.trans {b : Nat} {u v w : World} (h : Keep b u v) (g : Keep b v w) : Keep b u w := fun k cs t fz h1 h2 h3 => g k cs t fz (h k cs t fz h1 h2 h3) h2 h3
theorem Keep.below {b : Nat} {w w' : World} (h : Below w.heap.size w w') : Keep b w w' := fun k cs t fz h1 _ _ => (h.block k (Array.getElem?_eq_some_iff.1 h1).1).trans h1
theorem isBuilder_below {B b : Nat} {l : List Value} {w w' : World} (h : Lib.IsBuilder 49 5 B b l w) (hb : Below w.heap.size w w') : Lib.IsBuilder 49 5 B b l w' := by
  rcases h with h | h
  · refine .inl ?_
    have hl := h.lt
    obtain ⟨h1, v, h2, h3, h4⟩ := h
    exact ⟨h1, v, (hb.block b hl).trans h2, OwnRow.below h3 hb, h4⟩
  · refine .inr ?_
    have hl := h.lt
    obtain ⟨h1, v, h2, h3, h4⟩ := h
    exact ⟨h1, v, (hb.block b hl).trans h2, OwnRow.below h3 hb, h4⟩

set_option maxHeartbeats 1000000 in
set_option maxRecDepth 100000 in
theorem copyUsed (b : Nat) (w : World) (h0 : w.cell? ⟨b, 0, none⟩ = some (.pointer (some ⟨b, 0, none⟩))) :
    Calls Tryz.prog 34 #[.pointer (some ⟨b, 0, none⟩)] w fun e w' => e = .returned (.tuple #[]) ∧ w' = w := by
  obtain ⟨j, hj, _⟩ := Option.map_eq_some_iff.1 sz49
  go_enter Tryz.func34, Tryz.ntmps34
  go_wp2
  rw [Lib.run_neq_ptr_same w _ Tryz.underlying46 hj]
  go_wp2
  go_end0
  exact ⟨rfl, rfl⟩
set_option maxHeartbeats 1000000 in
set_option maxRecDepth 100000 in
theorem copyFresh (b : Nat) (w : World) (h0 : w.cell? ⟨b, 0, none⟩ = some (.pointer none)) (hsh : w.shape? b = some (49, 2)) (hfz : w.frozen? ⟨b, 0, none⟩ = false) :
    Calls Tryz.prog 34 #[.pointer (some ⟨b, 0, none⟩)] w fun e w' => e = .returned (.tuple #[]) ∧ w' = w.setCell ⟨b, 0, none⟩ (.pointer (some ⟨b, 0, none⟩)) := by
  obtain ⟨j, hj, hjs⟩ := Option.map_eq_some_iff.1 sz49
  go_enter Tryz.func34, Tryz.ntmps34
  go_wp2
  rw [Lib.run_to_unsafe w ⟨b, 0, none⟩ Tryz.underlying46 Tryz.underlying200 hj (by rw [hjs]; decide) hsh (Nat.zero_lt_succ 1)]
  simp only [Result.andThen]
  rw [Oper.upon_value]
  go_wp2
  rw [run_callFunc_extern Tryz.func81 (by kernel_rfl) (by kernel_rfl) (by kernel_rfl) (e := Extern.AbiNoEscape.same) (by kernel_rfl)]
  rw [Lib.run_noEscape]
  simp only [Result.andThen]
  rw [Oper.upon_value]
  go_wp2
  rw [Lib.run_from_unsafe w ⟨b, 0, none⟩ Tryz.underlying200 Tryz.underlying46 hj hsh (by kernel_rfl)]
  simp only [Result.andThen]
  rw [Oper.upon_value]
  go_wp2
  go_end0
  exact ⟨rfl, rfl⟩
theorem copyC (B b : Nat) (l : List Value) (w : World) (h : Lib.IsBuilder 49 5 B b l w) :
    Calls Tryz.prog 34 #[.pointer (some ⟨b, 0, none⟩)] w fun e w' => e = .returned (.tuple #[]) ∧ (Lib.BuilderAt 49 5 B b (.pointer (some ⟨b, 0, none⟩)) l w' ∧ Below B w w' ∧ Keep b w w') := by
  rcases h with h | h
  · refine (copyFresh b w h.cell0 h.shape h.frozen0).mono ?_
    rintro e w' ⟨rfl, rfl⟩
    exact ⟨rfl, h.used _, (Below.refl B w).setCell (p := ⟨b, 0, none⟩) h.1 _, fun k cs t fz h1 _ h3 => (Below.heap_setCell _ _ _ _ h3).trans h1⟩
  · refine (copyUsed b w h.cell0).mono ?_
    rintro e w' ⟨rfl, rfl⟩
    exact ⟨rfl, h, Below.refl B _, Keep.refl _ _⟩

set_option maxHeartbeats 2000000 in
set_option maxRecDepth 100000 in
theorem writeByteC (B b : Nat) (l : List Value) (c : Int) (w : World) (h : Lib.IsBuilder 49 5 B b l w) (hlen : l.length + 1 ≤ 100000000) (hBw : B ≤ w.heap.size) :
    Calls Tryz.prog 15 #[.pointer (some ⟨b, 0, none⟩), .int .u8 c] w fun e w' => e = .returned .nilIface ∧ (Lib.BuilderAt 49 5 B b (.pointer (some ⟨b, 0, none⟩)) (l ++ [.int .u8 c]) w' ∧ Below B w w' ∧ Keep b w w') := by
  obtain ⟨i0, hi, hz0, hz1, hz2⟩ := info_parts info5
  go_enter Tryz.func15, Tryz.ntmps15
  go_wp2_with fail
  refine (copyC B b l _ h).mono ?_
  rintro e w1 ⟨rfl, h1, hb1, hk1⟩
  obtain ⟨hB, v, hbk, hown, hne⟩ := h1
  have far : ∀ k cs t fz, w1.heap[k]? = some (.cells cs t fz) → t ≠ 5 → some k ≠ v.ownBlock := fun k cs t fz h1 h2 e => Lib.ownBlock_ne hown h1 h2 e.symm
  have c0 : w1.cell? ⟨b, 0, none⟩ = some (.pointer (some ⟨b, 0, none⟩)) := by rw [Lib.cell_of_heap hbk]; rfl
  have c1 : w1.cell? ⟨b, 1, none⟩ = some v := by rw [Lib.cell_of_heap hbk]; rfl
  go_wp2_with (at_builtin; refine wpList_append_own _ rfl _ _ 47 rfl B 5 i0 (.int .u8 0) 1 1 Tryz.underlying47 hi hz0 hz1 hz2 rfl (by decide) _ _ _ rfl (hown.alloc _) ⟨w1.heap.size, 0, none⟩ 1 1 [.int .u8 c] rfl rfl ?c1 ?c2 ?c3 ?c4 ?c5 ?_)
  case c1 =>
    intro j u hj
    match j, hj with
    | 0, hj => simp at hj; subst hj; simp [Addr.add]
  case c2 => intro u hu; simp at hu; subst hu; rfl
  case c3 => unfold maxLen; omega
  case c4 => omega
  case c5 => have := hb1.size; simp; omega
  intro v' w2 hown' hgrow _
  have hlt : b < w1.heap.size := by
    rcases Nat.lt_or_ge b w1.heap.size with h' | h'
    · exact h'
    · simp [Array.getElem?_eq_none h'] at hbk
  have hb2 : w2.heap[b]? = some (.cells #[.pointer (some ⟨b, 0, none⟩), v] 49 (0, 0)) := by
    rw [hgrow.block b (by simp; omega) (fun e => hne e.symm), Lib.alloc_old w1 _ b hlt]
    exact hbk
  have d0 : w2.cell? ⟨b, 0, none⟩ = some (.pointer (some ⟨b, 0, none⟩)) := by rw [Lib.cell_of_heap hb2]; rfl
  have d1 : w2.cell? ⟨b, 1, none⟩ = some v := by rw [Lib.cell_of_heap hb2]; rfl
  have f1 : w2.frozen? ⟨b, 1, none⟩ = false := Lib.frozen_of_heap hb2 1
  obtain ⟨g, cap, rfl⟩ : ∃ g cap, v' = .slice (some ⟨g, 0, none⟩) (l.length + 1) cap := by
    rcases hown'.2 with ⟨_, h0⟩ | ⟨g, cap, cur, hv, _⟩
    · omega
    · exact ⟨g, cap, hv⟩
  go_wp2
  go_ret
  refine ⟨rfl, ?_, ?_, fun k cs t fz h1 h2 h3 => ?_⟩
  · exact Lib.BuilderAt.put (T := 49) (e := 5) hB hb2 (bs' := l ++ [.int .u8 c]) (by simpa using hown') (by decide)
  · exact ((hb1.alloc (by have := hb1.size; omega) _).grown hgrow (by have := hb1.size; simp; omega) (fun k hk => (hown.lt k hk).1)).setCell (p := ⟨b, 1, none⟩) hB _
  · have q := hk1 k cs t fz h1 h2 h3
    have ql := (Array.getElem?_eq_some_iff.1 q).1
    exact (Below.heap_setCell _ _ _ _ h3).trans ((hgrow.block k (by simp; omega) (far k cs t fz q h2)).trans ((Lib.alloc_old w1 _ k ql).trans q))

set_option maxHeartbeats 2000000 in
set_option maxRecDepth 100000 in
theorem writeStringC (B b : Nat) (l : List Value) (s : ByteArray) (w : World) (h : Lib.IsBuilder 49 5 B b l w) (hlen : l.length + s.size ≤ 100000000) (hBw : B ≤ w.heap.size) :
    Calls Tryz.prog 13 #[.pointer (some ⟨b, 0, none⟩), .string s] w fun e w' => e = .returned (.tuple #[.int .i64 s.size, .nilIface]) ∧ (Lib.BuilderAt 49 5 B b (.pointer (some ⟨b, 0, none⟩)) (l ++ Lib.strCells s) w' ∧ Below B w w' ∧ Keep b w w') := by
  obtain ⟨i0, hi, hz0, hz1, hz2⟩ := info_parts info5
  go_enter Tryz.func13, Tryz.ntmps13
  go_wp2_with fail
  refine (copyC B b l _ h).mono ?_
  rintro e w1 ⟨rfl, h1, hb1, hk1⟩
  obtain ⟨hB, v, hbk, hown, hne⟩ := h1
  have far : ∀ k cs t fz, w1.heap[k]? = some (.cells cs t fz) → t ≠ 5 → some k ≠ v.ownBlock := fun k cs t fz h1 h2 e => Lib.ownBlock_ne hown h1 h2 e.symm
  have c0 : w1.cell? ⟨b, 0, none⟩ = some (.pointer (some ⟨b, 0, none⟩)) := by rw [Lib.cell_of_heap hbk]; rfl
  have c1 : w1.cell? ⟨b, 1, none⟩ = some v := by rw [Lib.cell_of_heap hbk]; rfl
  go_wp2_with (at_builtin; refine Lib.wpList_append_own_string _ rfl _ _ 47 9 rfl B 5 i0 Tryz.underlying47 Tryz.underlying9 hi hz0 hz1 hz2 _ _ _ rfl hown s rfl ?c3 ?c4 ?c5 ?_)
  case c3 => unfold maxLen; omega
  case c4 => omega
  case c5 => have := hb1.size; omega
  intro v' w2 hown' hgrow _
  have hlt : b < w1.heap.size := by
    rcases Nat.lt_or_ge b w1.heap.size with h' | h'
    · exact h'
    · simp [Array.getElem?_eq_none h'] at hbk
  have hb2 : w2.heap[b]? = some (.cells #[.pointer (some ⟨b, 0, none⟩), v] 49 (0, 0)) := by
    rw [hgrow.block b hlt (fun e => hne e.symm)]
    exact hbk
  have d0 : w2.cell? ⟨b, 0, none⟩ = some (.pointer (some ⟨b, 0, none⟩)) := by rw [Lib.cell_of_heap hb2]; rfl
  have d1 : w2.cell? ⟨b, 1, none⟩ = some v := by rw [Lib.cell_of_heap hb2]; rfl
  have f1 : w2.frozen? ⟨b, 1, none⟩ = false := Lib.frozen_of_heap hb2 1
  obtain ⟨ao, n', cap, rfl⟩ : ∃ ao n' cap, v' = .slice ao n' cap := by
    rcases hown'.2 with ⟨hv, _⟩ | ⟨g, cap, cur, hv, _⟩
    · exact ⟨_, _, _, hv⟩
    · exact ⟨_, _, _, hv⟩
  go_wp2
  go_ret2
  refine ⟨rfl, ?_, ?_, fun k cs t fz h1 h2 h3 => ?_⟩
  · exact Lib.BuilderAt.put (T := 49) (e := 5) hB hb2 (bs' := l ++ Lib.strCells s) (by simpa [Lib.strCells_length] using hown') (by decide)
  · exact (hb1.grown hgrow (by have := hb1.size; omega) (fun k hk => (hown.lt k hk).1)).setCell (p := ⟨b, 1, none⟩) hB _
  · have q := hk1 k cs t fz h1 h2 h3
    have ql := (Array.getElem?_eq_some_iff.1 q).1
    exact (Below.heap_setCell _ _ _ _ h3).trans ((hgrow.block k ql (far k cs t fz q h2)).trans q)
end Go.Proofs.YtmbchdfgckmpoaaGreatDoor
