/- The globals that the library reads; Itoa and Atoi; pitch.Name. -/
import Derived.Test.YteoghladllohjaaGreatDoorM3
import Derived.Test.YteoghladllohjaaGreatDoorShelf
import Derived.Lib.AppendIntMem
import Derived.Lib.AtoiErrMem
import Derived.Laws.IdiomStrings
namespace Go.Proofs.YteoghladllohjaaGreatDoor
open Go.RowKit Go.Sort

abbrev Tab (w : World) : Prop := Lib.TabIs Tryz.prog w "internal/strconv.uint64pow10" .u64 Lib.pow10Tab
/-- What the variables of the library hold that the code reads. -/
structure Env (w : World) : Prop where
  tab : Tab w
  size : 3 ≤ w.heap.size
  max : ∃ m : Int, w.cell? ⟨0, 0, none⟩ = some (.int .i64 m)
  syn : ∃ t p, w.cell? ⟨1, 0, none⟩ = some (.iface t p)
  rng : ∃ t p, w.cell? ⟨2, 0, none⟩ = some (.iface t p)
theorem Env.below {w w' : World} (h : Env w) (hb : Below w.heap.size w w') : Env w' := by
  have hs := h.size
  refine ⟨Lib.tabBelow_of_tabIs h.tab w' hb, Nat.le_trans hs hb.size, ?_, ?_, ?_⟩
  · obtain ⟨m, hm⟩ := h.max
    exact ⟨m, (hb.cell (p := ⟨0, 0, none⟩) (by show 0 < _; omega)).trans hm⟩
  · obtain ⟨t, p, hm⟩ := h.syn
    exact ⟨t, p, (hb.cell (p := ⟨1, 0, none⟩) (by show 1 < _; omega)).trans hm⟩
  · obtain ⟨t, p, hm⟩ := h.rng
    exact ⟨t, p, (hb.cell (p := ⟨2, 0, none⟩) (by show 2 < _; omega)).trans hm⟩
theorem Env.on {B : Nat} {w w' : World} (h : Env w) (hb : Below B w w') (hB : B = w.heap.size) : Env w' := by subst hB; exact h.below hb

abbrev bs (l : List UInt8) : ByteArray := ⟨l.toArray⟩
theorem bs_size (l : List UInt8) : (bs l).size = l.length := by show l.toArray.size = _; simp
theorem bs_append (a b : List UInt8) : bs a ++ bs b = bs (a ++ b) := ByteArray.mk_append_mk _ _
theorem itoa_len (z : Int) (h1 : -9223372036854775808 ≤ z) (h2 : z ≤ 9223372036854775807) : (Lib.itoa z).length ≤ 21 := Lib.itoa_length_le z (by omega) (by omega)
theorem itoaC (z : Int) (w : World) (h : Env w) (h0 : -9223372036854775808 ≤ z) (h1 : z ≤ 9223372036854775807) : Calls Tryz.prog 46 #[.int .i64 z] w fun e w' => e = .returned (.string (bs (Lib.itoa z))) ∧ Below w.heap.size w w' :=
  (Tryz.strconv_Itoa z h0 h1 w h.tab).mono fun _ _ ⟨he, k, os, hw⟩ => ⟨he, hw ▸ Lib.below_grow _ w (Nat.le_refl _) k os⟩
/-- strconv.Atoi where it reads a number. -/
theorem atoiOk (s : ByteArray) (v : Int) (w : World) (hs : s.size ≤ 100000) (h : Lib.atoiAll s.data.toList = .ok v) : Calls Tryz.prog 37 #[.string s] w fun e w' => e = .returned (.tuple #[.int .i64 v, .nilIface]) ∧ Below w.heap.size w w' :=
  (Tryz.strconv_Atoi_ok s (by omega) v h w).mono fun _ _ ⟨he, hw⟩ => ⟨he, by
    rcases hw with rfl | ⟨t, rfl⟩
    · exact Below.refl _ _
    · exact Lib.bytesWorld_below w 5 t⟩
/-- strconv.Atoi where it reads none. -/
theorem atoiBad (s : ByteArray) (w : World) (he : Env w) (hs : s.size ≤ 100000) (h : ∀ v, Lib.atoiAll s.data.toList ≠ .ok v) : Calls Tryz.prog 37 #[.string s] w fun e w' => (∃ (n : Int) (g : Nat), e = .returned (.tuple #[.int .i64 n, .iface 108 (.pointer (some ⟨g, 0, none⟩))])) ∧ Below w.heap.size w w' := by
  cases hr : Lib.atoiAll s.data.toList with
  | ok v => exact absurd hr (h v)
  | range =>
    obtain ⟨t, p, hv⟩ := he.rng
    exact (Tryz.strconv_Atoi_range s (by omega) hr _ w hv (.inr ⟨t, p, rfl⟩)).mono fun _ _ ⟨g, h1, _, _, h4⟩ => ⟨⟨_, g, h1⟩, h4⟩
  | _ =>
    obtain ⟨t, p, hv⟩ := he.syn
    exact (Tryz.strconv_Atoi_syntax s (by omega) hr _ w hv (.inr ⟨t, p, rfl⟩)).mono fun _ _ ⟨g, h1, _, _, h4⟩ => ⟨⟨_, g, h1⟩, h4⟩

/-! ### pitch.Name -/
abbrev signsV : Value := .agg #[.string ⟨#[98, 98]⟩, .string ⟨#[98]⟩, .string ⟨#[]⟩, .string ⟨#[35]⟩, .string ⟨#[35, 35]⟩]
theorem signsC (w : World) : Calls Tryz.prog 53 #[] w fun e w' => e = .returned signsV ∧ Below w.heap.size w w' := by
  go_enter Tryz.func53, Tryz.ntmps53
  go_wp2
  go_returns
  exact ⟨rfl, by go_grown⟩
theorem signIx (n : Int) (h0 : -2 ≤ n) (h6 : n ≤ 2) (W : World) : (Instr.index 86 signsV (.int .i64 (n + 2))).run Tryz.prog W = .ok (.string (bs (signF n))) W := by
  have h : ∀ (n : Int) (v : ByteArray), (n, v) ∈ [((0 : Int), (⟨#[98, 98]⟩ : ByteArray)), (1, ⟨#[98]⟩), (2, ⟨#[]⟩), (3, ⟨#[35]⟩), (4, ⟨#[35, 35]⟩)] → (Instr.index 86 signsV (.int .i64 n)).run Tryz.prog W = .ok (.string v) W := by
    intro n v h
    simp only [List.mem_cons, Prod.mk.injEq, List.not_mem_nil, or_false] at h
    rcases h with ⟨rfl, rfl⟩ | ⟨rfl, rfl⟩ | ⟨rfl, rfl⟩ | ⟨rfl, rfl⟩ | ⟨rfl, rfl⟩ <;> kernel_rfl
  have hn : n = -2 ∨ n = -1 ∨ n = 0 ∨ n = 1 ∨ n = 2 := by omega
  rcases hn with rfl | rfl | rfl | rfl | rfl
  · exact h 0 _ (by simp [signF])
  · exact h 1 _ (by simp [signF])
  · exact h 2 _ (by simp [signF])
  · exact h 3 _ (by simp [signF])
  · exact h 4 _ (by simp [signF])
theorem letterIx (n : Int) (h0 : 0 ≤ n) (h6 : n ≤ 6) (W : World) : (Instr.slice 9 (.string ⟨#[67, 68, 69, 70, 71, 65, 66]⟩) (some (.int .i64 n)) (some (.int .i64 (n + 1))) none).run Tryz.prog W = .ok (.string (bs [letterF n])) W := by
  have h : ∀ (n m : Int) (v : ByteArray), (n, m, v) ∈ [((0 : Int), (1 : Int), (⟨#[67]⟩ : ByteArray)), (1, 2, ⟨#[68]⟩), (2, 3, ⟨#[69]⟩), (3, 4, ⟨#[70]⟩), (4, 5, ⟨#[71]⟩), (5, 6, ⟨#[65]⟩), (6, 7, ⟨#[66]⟩)] → (Instr.slice 9 (.string ⟨#[67, 68, 69, 70, 71, 65, 66]⟩) (some (.int .i64 n)) (some (.int .i64 m)) none).run Tryz.prog W = .ok (.string v) W := by
    intro n m v h
    simp only [List.mem_cons, Prod.mk.injEq, List.not_mem_nil, or_false] at h
    rcases h with ⟨rfl, rfl, rfl⟩ | ⟨rfl, rfl, rfl⟩ | ⟨rfl, rfl, rfl⟩ | ⟨rfl, rfl, rfl⟩ | ⟨rfl, rfl, rfl⟩ | ⟨rfl, rfl, rfl⟩ | ⟨rfl, rfl, rfl⟩ <;> kernel_rfl
  have hn : n = 0 ∨ n = 1 ∨ n = 2 ∨ n = 3 ∨ n = 4 ∨ n = 5 ∨ n = 6 := by omega
  rcases hn with rfl | rfl | rfl | rfl | rfl | rfl | rfl
  · exact h 0 1 _ (by simp [letterF])
  · exact h 1 2 _ (by simp [letterF])
  · exact h 2 3 _ (by simp [letterF])
  · exact h 3 4 _ (by simp [letterF])
  · exact h 4 5 _ (by simp [letterF])
  · exact h 5 6 _ (by simp [letterF])
  · exact h 6 7 _ (by simp [letterF])
theorem nameF_bs (p : Pit) : bs [letterF p.st] ++ bs (signF p.al) ++ bs (Lib.itoa p.oc) = bs (nameF p) := by
  rw [bs_append, bs_append]; rfl
theorem signF_len (a : Int) : (signF a).length ≤ 2 := by unfold signF; (repeat' split) <;> simp

set_option maxHeartbeats 1000000 in
theorem nameC (p : Pit) (w : World) (he : Env w) (hp : pitchCheckF p.st p.al p.oc = 0) :
    Calls Tryz.prog 45 #[pitV p] w fun e w' => e = .returned (.tuple #[.string (bs (nameF p)), .int .i64 0]) ∧ Below w.heap.size w w' := by
  obtain ⟨h1, h2, h3, h4, h5, h6, _, _⟩ := pitchCheckF_in hp
  rw [← nameF_bs]
  have hc := pitchCheck p.st p.al p.oc (w.alloc (.cells #[.int .i64 p.st, .int .i64 p.al, .int .i64 p.oc] 26))
  rw [hp] at hc
  have x1 := letterIx p.st h1 h2
  have x2 := signIx p.al h3 h4
  have u1 : IntKind.i64.wrap (p.st + 1) = p.st + 1 := IntWalk.i64_in _ (by omega)
  have u2 : IntKind.i64.wrap (p.al + 2) = p.al + 2 := IntWalk.i64_in _ (by omega)
  have n1 := bs_size [letterF p.st]
  have n2 := bs_size (signF p.al)
  have n3 := bs_size (Lib.itoa p.oc)
  have n4 := signF_len p.al
  have n5 := itoa_len p.oc (by omega) (by omega)
  have n6 := ByteArray.size_append (a := bs [letterF p.st]) (b := bs (signF p.al))
  simp only [List.length_singleton] at n1
  have a1 := fun w => run_string_add (P := Tryz.prog) w (bs [letterF p.st]) (bs (signF p.al)) (by omega) (by omega)
  have a2 := fun w => run_string_add (P := Tryz.prog) w (bs [letterF p.st] ++ bs (signF p.al)) (bs (Lib.itoa p.oc)) (by omega) (by omega)
  have ki := fun w h => itoaC p.oc w h (by omega) (by omega)
  have hB : Below w.heap.size w (w.alloc (.cells #[.int .i64 p.st, .int .i64 p.al, .int .i64 p.oc] 26)) := (Below.refl _ w).alloc (Nat.le_refl _) _
  have y0 : (w.alloc (.cells #[.int .i64 p.st, .int .i64 p.al, .int .i64 p.oc] 26)).cell? ⟨w.heap.size, 0, none⟩ = some (.int .i64 p.st) := by simp [go_sem]
  have y1 : (w.alloc (.cells #[.int .i64 p.st, .int .i64 p.al, .int .i64 p.oc] 26)).cell? ⟨w.heap.size, 1, none⟩ = some (.int .i64 p.al) := by simp [go_sem]
  have y2 : (w.alloc (.cells #[.int .i64 p.st, .int .i64 p.al, .int .i64 p.oc] 26)).cell? ⟨w.heap.size, 2, none⟩ = some (.int .i64 p.oc) := by simp [go_sem]
  have z0 : w.heap.size < (w.alloc (.cells #[.int .i64 p.st, .int .i64 p.al, .int .i64 p.oc] 26)).heap.size := by simp
  clear n1 n2 n3 n4 n5 n6 hp
  generalize bs [letterF p.st] = S1 at *
  generalize bs (signF p.al) = S2 at *
  generalize bs (Lib.itoa p.oc) = S3 at *
  go_enter Tryz.func45, Tryz.ntmps45
  go_upto_region 1 with (fail)
  generalize w.alloc (.cells #[.int .i64 p.st, .int .i64 p.al, .int .i64 p.oc] 26) = v at *
  go_wp2_with fail
  refine hc.mono ?_
  rintro e w1 ⟨rfl, hb1⟩
  have y0 := (hb1.cell (p := ⟨w.heap.size, 0, none⟩) z0).trans y0
  have y1 := (hb1.cell (p := ⟨w.heap.size, 1, none⟩) z0).trans y1
  have y2 := (hb1.cell (p := ⟨w.heap.size, 2, none⟩) z0).trans y2
  have hB1 := hB.trans (hb1.mono (by omega))
  have he1 := he.below hB1
  clear hb1 hB he
  go_wp2_with fail
  have c0 := cell_regrown y0
  have c1 := cell_regrown y1
  have c2 := cell_regrown y2
  have k1 := fun d os => (signsC (grow (redrawn w1 d) os)).regrown_of
  have k2 := fun d os => (ki (grow (redrawn w1 d) os) (he1.below (below_regrown w1 d os))).regrown_of
  refine wp_region_quiet_below (by kernel_rfl) (by kernel_rfl) ?_
  repeat (quiet_step (first | (go_at_call 53; (with_reducible exact k1 _ _)) | (go_at_call 46; (with_reducible exact k2 _ _))))
  refine wpQuiet_nil ?_
  intro _ hw'
  obtain ⟨⟨dq, osq⟩, hw''⟩ := hw'
  subst hw''
  go_wp2_with fail
  go_ret2
  exact ⟨rfl, hB1.trans ((below_regrown w1 dq osq).mono hB1.size)⟩
end Go.Proofs.YteoghladllohjaaGreatDoor
