/- The model's text of notes. -/
import Derived.Test.YtmbchdfgckmpoaaGreatDoorZ4
import Derived.Test.YtmbchdfgckmpoaaGreatDoorZ5
namespace Go.Proofs.YtmbchdfgckmpoaaGreatDoor
open Go.RowKit Go.Sort

theorem line_sum (T : List UInt8) (x : Ply) : ((((((((((((((bs T ++ bs (Lib.itoa x.o)) ++ bs [32]) ++ bs (Lib.itoa x.f)) ++ bs [32]) ++ bs (Lib.itoa x.n)) ++ bs [32]) ++ bs (Lib.itoa x.v)) ++ bs [32]) ++ bs (Lib.itoa x.p)) ++ bs [32]) ++ bs (Lib.itoa x.s)) ++ bs [46]) ++ bs (Lib.itoa x.e)) ++ bs [10]) = bs (T ++ lineL x) := by
  simp only [bs_append]
  congr 1
  unfold lineL
  simp

set_option maxHeartbeats 4000000 in
set_option maxRecDepth 20000 in
theorem textC (A : Option Addr) (c : Nat) (l : List Ply) (w : World) (hl : l.length ≤ 1000) (hR : ∀ p ∈ l, InR p) (h : SlY w A l) :
    Calls Tryz.prog 8 #[.slice A l.length c] w fun e w' => e = .returned (.string (bs (textL l))) ∧ Below w.heap.size w w' := by
  have hnl : ∃ n, n = l.length := ⟨_, rfl⟩
  obtain ⟨n, hnl⟩ := hnl
  have hall := Lib.hid (show l.take n = l by rw [hnl]; exact List.take_length)
  have hsn := Lib.hid (fun k (hk : k < l.length) => textL_snoc hk)
  have hlen := Lib.hid (fun k => Nat.le_trans (textL_len (l := l.take k) fun p hp => hR p (List.mem_of_mem_take hp)) (show (l.take k).length * 154 ≤ 154000 by have := List.length_take_le k l; simp; omega))
  have hRn := Lib.hid (fun k (hk : k < l.length) => hR _ (nth_mem hk))
  rw [← hnl] at hl ⊢
  have hn2 : l.length = n := hnl.symm
  clear hnl hR
  go_enter Tryz.func8, Tryz.ntmps8
  go_wp2_with fail
  go_loopw [3, 4] (fun s iv wr => ∃ k : Nat, k ≤ n ∧ iv = .int .i64 k ∧ s = .string (bs (textL (l.take k))) ∧ Below w.heap.size w wr) (fun _ iv _ => n - (intOf iv).toNat)
  case atStart => exact ⟨0, by omega, rfl, rfl, Below.refl _ _⟩
  case round =>
    obtain ⟨k, hk, rfl, rfl, hB⟩ := hrel
    by_cases hlt : k < n
    · obtain ⟨b, off, hAe, hlb, hrd⟩ := h.some (k := k) (by omega)
      cases hAe
      obtain ⟨r0, r1, r2, r3, r4, r5, r6⟩ := hrd.below hB hlb k (by omega)
      have hx := hRn.out k (by omega)
      have hs := hsn.out k (by omega)
      have hT := hlen.out k
      have hs' := line_sum (textL (l.take k)) (nth l k)
      rw [← hs] at hs'
      clear hrd h hsn hlen hRn hs
      have hTs := bs_size (textL (l.take k))
      generalize hT2e : bs (textL (l.take (k + 1))) = T2 at *
      have hT2e := Lib.hid hT2e
      generalize bs (textL (l.take k)) = S at *
      generalize nth l k = x at *
      have hlt' : (k : Int) < (n : Int) := by omega
      go_upto_region 6 with (fail)
      obtain ⟨V, hV⟩ : ∃ V, V = wr.alloc (.cells #[.int .i64 x.o, .int .i64 x.f, .int .i64 x.n, .int .i64 x.v, .int .i64 x.p, .int .i64 x.s, .int .i64 x.e] 27) := ⟨_, rfl⟩
      have hVb : Below wr.heap.size wr V := by rw [hV]; exact (Below.refl _ wr).alloc (Nat.le_refl _) _
      have hV1 : V.heap[wr.heap.size]? = some (.cells #[.int .i64 x.o, .int .i64 x.f, .int .i64 x.n, .int .i64 x.v, .int .i64 x.p, .int .i64 x.s, .int .i64 x.e] 27 (0, 0)) := by
        rw [hV]; exact heap_alloc_new wr _
      rw [← hV]
      have hBV : Below w.heap.size w V := hB.trans (hVb.mono hB.size)
      clear hV hVb r0 r1 r2 r3 r4 r5 r6 hB
      generalize wr.heap.size = m at *
      have c0 := cell_regrown (show V.cell? ⟨m, 0, none⟩ = some (.int .i64 x.o) by rw [Lib.cell_of_heap hV1]; rfl)
      have c1 := cell_regrown (show V.cell? ⟨m, 1, none⟩ = some (.int .i64 x.f) by rw [Lib.cell_of_heap hV1]; rfl)
      have c2 := cell_regrown (show V.cell? ⟨m, 2, none⟩ = some (.int .i64 x.n) by rw [Lib.cell_of_heap hV1]; rfl)
      have c3 := cell_regrown (show V.cell? ⟨m, 3, none⟩ = some (.int .i64 x.v) by rw [Lib.cell_of_heap hV1]; rfl)
      have c4 := cell_regrown (show V.cell? ⟨m, 4, none⟩ = some (.int .i64 x.p) by rw [Lib.cell_of_heap hV1]; rfl)
      have c5 := cell_regrown (show V.cell? ⟨m, 5, none⟩ = some (.int .i64 x.s) by rw [Lib.cell_of_heap hV1]; rfl)
      have c6 := cell_regrown (show V.cell? ⟨m, 6, none⟩ = some (.int .i64 x.e) by rw [Lib.cell_of_heap hV1]; rfl)
      have z0 : (bs (Lib.itoa x.o)).size ≤ 21 := by rw [bs_size]; exact bd_len hx.o
      have z1 : (bs (Lib.itoa x.f)).size ≤ 21 := by rw [bs_size]; exact bd_len hx.f
      have z2 : (bs (Lib.itoa x.n)).size ≤ 21 := by rw [bs_size]; exact bd_len hx.n
      have z3 : (bs (Lib.itoa x.v)).size ≤ 21 := by rw [bs_size]; exact bd_len hx.v
      have z4 : (bs (Lib.itoa x.p)).size ≤ 21 := by rw [bs_size]; exact bd_len hx.p
      have z5 : (bs (Lib.itoa x.s)).size ≤ 21 := by rw [bs_size]; exact bd_len hx.s
      have z6 : (bs (Lib.itoa x.e)).size ≤ 21 := by rw [bs_size]; exact bd_len hx.e
      have k0 := fun d os => (decimalZ x.o (grow (redrawn V d) os) (by have := hx.o.1; omega) (by have := hx.o.2; omega)).regrown_of
      have k1 := fun d os => (decimalZ x.f (grow (redrawn V d) os) (by have := hx.f.1; omega) (by have := hx.f.2; omega)).regrown_of
      have k2 := fun d os => (decimalZ x.n (grow (redrawn V d) os) (by have := hx.n.1; omega) (by have := hx.n.2; omega)).regrown_of
      have k3 := fun d os => (decimalZ x.v (grow (redrawn V d) os) (by have := hx.v.1; omega) (by have := hx.v.2; omega)).regrown_of
      have k4 := fun d os => (decimalZ x.p (grow (redrawn V d) os) (by have := hx.p.1; omega) (by have := hx.p.2; omega)).regrown_of
      have k5 := fun d os => (decimalZ x.s (grow (redrawn V d) os) (by have := hx.s.1; omega) (by have := hx.s.2; omega)).regrown_of
      have k6 := fun d os => (decimalZ x.e (grow (redrawn V d) os) (by have := hx.e.1; omega) (by have := hx.e.2; omega)).regrown_of
      have y46 : (⟨#[46]⟩ : ByteArray).size = 1 := rfl
      have y10 : (⟨#[10]⟩ : ByteArray).size = 1 := rfl
      have y32 : (⟨#[32]⟩ : ByteArray).size = 1 := rfl
      generalize bs (Lib.itoa x.o) = D0 at *
      generalize bs (Lib.itoa x.f) = D1 at *
      generalize bs (Lib.itoa x.n) = D2 at *
      generalize bs (Lib.itoa x.v) = D3 at *
      generalize bs (Lib.itoa x.p) = D4 at *
      generalize bs (Lib.itoa x.s) = D5 at *
      generalize bs (Lib.itoa x.e) = D6 at *
      have hS0 : S.size ≤ 160000 := by omega
      clear hV1 hT hTs
      have a0 := fun w => run_string_add (P := Tryz.prog) w S D0 (by omega) (by omega)
      have t1 : ((S ++ D0) : ByteArray).size ≤ 160025 := by rw [ByteArray.size_append]; omega
      have a1 := fun w => run_string_add (P := Tryz.prog) w (S ++ D0) (⟨#[32]⟩ : ByteArray) (by omega) (by omega)
      have t2 : (((S ++ D0) ++ ⟨#[32]⟩) : ByteArray).size ≤ 160050 := by rw [ByteArray.size_append]; omega
      have a2 := fun w => run_string_add (P := Tryz.prog) w ((S ++ D0) ++ ⟨#[32]⟩) D1 (by omega) (by omega)
      have t3 : ((((S ++ D0) ++ ⟨#[32]⟩) ++ D1) : ByteArray).size ≤ 160075 := by rw [ByteArray.size_append]; omega
      have a3 := fun w => run_string_add (P := Tryz.prog) w (((S ++ D0) ++ ⟨#[32]⟩) ++ D1) (⟨#[32]⟩ : ByteArray) (by omega) (by omega)
      have t4 : (((((S ++ D0) ++ ⟨#[32]⟩) ++ D1) ++ ⟨#[32]⟩) : ByteArray).size ≤ 160100 := by rw [ByteArray.size_append]; omega
      have a4 := fun w => run_string_add (P := Tryz.prog) w ((((S ++ D0) ++ ⟨#[32]⟩) ++ D1) ++ ⟨#[32]⟩) D2 (by omega) (by omega)
      have t5 : ((((((S ++ D0) ++ ⟨#[32]⟩) ++ D1) ++ ⟨#[32]⟩) ++ D2) : ByteArray).size ≤ 160125 := by rw [ByteArray.size_append]; omega
      have a5 := fun w => run_string_add (P := Tryz.prog) w (((((S ++ D0) ++ ⟨#[32]⟩) ++ D1) ++ ⟨#[32]⟩) ++ D2) (⟨#[32]⟩ : ByteArray) (by omega) (by omega)
      have t6 : (((((((S ++ D0) ++ ⟨#[32]⟩) ++ D1) ++ ⟨#[32]⟩) ++ D2) ++ ⟨#[32]⟩) : ByteArray).size ≤ 160150 := by rw [ByteArray.size_append]; omega
      have a6 := fun w => run_string_add (P := Tryz.prog) w ((((((S ++ D0) ++ ⟨#[32]⟩) ++ D1) ++ ⟨#[32]⟩) ++ D2) ++ ⟨#[32]⟩) D3 (by omega) (by omega)
      have t7 : ((((((((S ++ D0) ++ ⟨#[32]⟩) ++ D1) ++ ⟨#[32]⟩) ++ D2) ++ ⟨#[32]⟩) ++ D3) : ByteArray).size ≤ 160175 := by rw [ByteArray.size_append]; omega
      have a7 := fun w => run_string_add (P := Tryz.prog) w (((((((S ++ D0) ++ ⟨#[32]⟩) ++ D1) ++ ⟨#[32]⟩) ++ D2) ++ ⟨#[32]⟩) ++ D3) (⟨#[32]⟩ : ByteArray) (by omega) (by omega)
      have t8 : (((((((((S ++ D0) ++ ⟨#[32]⟩) ++ D1) ++ ⟨#[32]⟩) ++ D2) ++ ⟨#[32]⟩) ++ D3) ++ ⟨#[32]⟩) : ByteArray).size ≤ 160200 := by rw [ByteArray.size_append]; omega
      have a8 := fun w => run_string_add (P := Tryz.prog) w ((((((((S ++ D0) ++ ⟨#[32]⟩) ++ D1) ++ ⟨#[32]⟩) ++ D2) ++ ⟨#[32]⟩) ++ D3) ++ ⟨#[32]⟩) D4 (by omega) (by omega)
      have t9 : ((((((((((S ++ D0) ++ ⟨#[32]⟩) ++ D1) ++ ⟨#[32]⟩) ++ D2) ++ ⟨#[32]⟩) ++ D3) ++ ⟨#[32]⟩) ++ D4) : ByteArray).size ≤ 160225 := by rw [ByteArray.size_append]; omega
      have a9 := fun w => run_string_add (P := Tryz.prog) w (((((((((S ++ D0) ++ ⟨#[32]⟩) ++ D1) ++ ⟨#[32]⟩) ++ D2) ++ ⟨#[32]⟩) ++ D3) ++ ⟨#[32]⟩) ++ D4) (⟨#[32]⟩ : ByteArray) (by omega) (by omega)
      have t10 : (((((((((((S ++ D0) ++ ⟨#[32]⟩) ++ D1) ++ ⟨#[32]⟩) ++ D2) ++ ⟨#[32]⟩) ++ D3) ++ ⟨#[32]⟩) ++ D4) ++ ⟨#[32]⟩) : ByteArray).size ≤ 160250 := by rw [ByteArray.size_append]; omega
      have a10 := fun w => run_string_add (P := Tryz.prog) w ((((((((((S ++ D0) ++ ⟨#[32]⟩) ++ D1) ++ ⟨#[32]⟩) ++ D2) ++ ⟨#[32]⟩) ++ D3) ++ ⟨#[32]⟩) ++ D4) ++ ⟨#[32]⟩) D5 (by omega) (by omega)
      have t11 : ((((((((((((S ++ D0) ++ ⟨#[32]⟩) ++ D1) ++ ⟨#[32]⟩) ++ D2) ++ ⟨#[32]⟩) ++ D3) ++ ⟨#[32]⟩) ++ D4) ++ ⟨#[32]⟩) ++ D5) : ByteArray).size ≤ 160275 := by rw [ByteArray.size_append]; omega
      have a11 := fun w => run_string_add (P := Tryz.prog) w (((((((((((S ++ D0) ++ ⟨#[32]⟩) ++ D1) ++ ⟨#[32]⟩) ++ D2) ++ ⟨#[32]⟩) ++ D3) ++ ⟨#[32]⟩) ++ D4) ++ ⟨#[32]⟩) ++ D5) (⟨#[46]⟩ : ByteArray) (by omega) (by omega)
      have t12 : (((((((((((((S ++ D0) ++ ⟨#[32]⟩) ++ D1) ++ ⟨#[32]⟩) ++ D2) ++ ⟨#[32]⟩) ++ D3) ++ ⟨#[32]⟩) ++ D4) ++ ⟨#[32]⟩) ++ D5) ++ ⟨#[46]⟩) : ByteArray).size ≤ 160300 := by rw [ByteArray.size_append]; omega
      have a12 := fun w => run_string_add (P := Tryz.prog) w ((((((((((((S ++ D0) ++ ⟨#[32]⟩) ++ D1) ++ ⟨#[32]⟩) ++ D2) ++ ⟨#[32]⟩) ++ D3) ++ ⟨#[32]⟩) ++ D4) ++ ⟨#[32]⟩) ++ D5) ++ ⟨#[46]⟩) D6 (by omega) (by omega)
      have t13 : ((((((((((((((S ++ D0) ++ ⟨#[32]⟩) ++ D1) ++ ⟨#[32]⟩) ++ D2) ++ ⟨#[32]⟩) ++ D3) ++ ⟨#[32]⟩) ++ D4) ++ ⟨#[32]⟩) ++ D5) ++ ⟨#[46]⟩) ++ D6) : ByteArray).size ≤ 160325 := by rw [ByteArray.size_append]; omega
      have a13 := fun w => run_string_add (P := Tryz.prog) w (((((((((((((S ++ D0) ++ ⟨#[32]⟩) ++ D1) ++ ⟨#[32]⟩) ++ D2) ++ ⟨#[32]⟩) ++ D3) ++ ⟨#[32]⟩) ++ D4) ++ ⟨#[32]⟩) ++ D5) ++ ⟨#[46]⟩) ++ D6) (⟨#[10]⟩ : ByteArray) (by omega) (by omega)
      have t14 : (((((((((((((((S ++ D0) ++ ⟨#[32]⟩) ++ D1) ++ ⟨#[32]⟩) ++ D2) ++ ⟨#[32]⟩) ++ D3) ++ ⟨#[32]⟩) ++ D4) ++ ⟨#[32]⟩) ++ D5) ++ ⟨#[46]⟩) ++ D6) ++ ⟨#[10]⟩) : ByteArray).size ≤ 160350 := by rw [ByteArray.size_append]; omega
      have hs' := Lib.hid hs'
      refine wp_region_quiet_below (by kernel_rfl) (by kernel_rfl) ?_
      repeat (quiet_step (first | (go_at_call 22; (with_reducible exact k0 _ _)) | (go_at_call 22; (with_reducible exact k1 _ _)) | (go_at_call 22; (with_reducible exact k2 _ _)) | (go_at_call 22; (with_reducible exact k3 _ _)) | (go_at_call 22; (with_reducible exact k4 _ _)) | (go_at_call 22; (with_reducible exact k5 _ _)) | (go_at_call 22; (with_reducible exact k6 _ _))))
      refine wpQuiet_nil ?_
      intro _ hw'
      obtain ⟨⟨dq, osq⟩, hw''⟩ := hw'
      subst hw''
      have hB := hBV.trans ((below_regrown V dq osq).mono hBV.size)
      clear c0 c1 c2 c3 c4 c5 c6 k0 k1 k2 k3 k4 k5 k6
      go_wp2_with fail
      go_roundw
      case rel => exact ⟨k + 1, by omega, by go_num, by rw [hT2e.out, ← hs'.out], hB⟩
      case measure => simp [intOf]; omega
    · obtain rfl : k = n := by omega
      have hall' := Lib.hid hall.out
      go_wp2_with fail
      go_ret
      exact ⟨by rw [hall'.out]; rfl, hB⟩
end Go.Proofs.YtmbchdfgckmpoaaGreatDoor
