/- perform.Encode: the text of notes. -/
import Derived.Test.YtmbchdfgckmpoaaGreatDoorZ5
namespace Go.Proofs.YtmbchdfgckmpoaaGreatDoor
open Go.RowKit Go.Sort

def fld (x : Ply) (q : Nat) : Int := [x.o, x.f, x.n, x.v, x.p].getD q 0
def partL (x : Ply) (q : Nat) : List UInt8 := ([x.o, x.f, x.n, x.v, x.p].take q).flatMap fun z => Lib.itoa z ++ [32]
theorem partL_step (x : Ply) {q : Nat} (h : q < 5) : partL x (q + 1) = partL x q ++ (Lib.itoa (fld x q) ++ [32]) := by
  unfold partL fld
  obtain rfl | rfl | rfl | rfl | rfl : q = 0 ∨ q = 1 ∨ q = 2 ∨ q = 3 ∨ q = 4 := by omega
  all_goals simp
theorem partL_all (x : Ply) : partL x 5 ++ (Lib.itoa x.s ++ [46] ++ Lib.itoa x.e ++ [10]) = lineL x := by
  unfold partL lineL
  simp
theorem fld_bd {x : Ply} (h : InR x) (q : Nat) : Bd (fld x q) := by
  unfold fld
  match q with
  | 0 => exact h.o
  | 1 => exact h.f
  | 2 => exact h.n
  | 3 => exact h.v
  | 4 => exact h.p
  | n + 5 => exact ⟨by simp, by simp⟩
theorem partL_len {x : Ply} (h : InR x) {q : Nat} (hq : q ≤ 5) : (partL x q).length ≤ 110 := by
  have h0 := bd_len h.o
  have h1 := bd_len h.f
  have h2 := bd_len h.n
  have h3 := bd_len h.v
  have h4 := bd_len h.p
  unfold partL
  obtain rfl | rfl | rfl | rfl | rfl | rfl : q = 0 ∨ q = 1 ∨ q = 2 ∨ q = 3 ∨ q = 4 ∨ q = 5 := by omega
  all_goals simp
  all_goals omega
theorem bc_app (a b : List UInt8) : Lib.byteCells (a ++ b) = Lib.byteCells a ++ Lib.byteCells b := by simp [Lib.byteCells]

set_option maxHeartbeats 4000000 in
set_option maxRecDepth 20000 in
theorem encodeC (A : Option Addr) (c : Nat) (l : List Ply) (w : World) (hE : Env w) (hl : l.length ≤ 1000) (hR : ∀ p ∈ l, InR p) (h : SlY w A l) :
    Calls Tryz.prog 6 #[.slice A l.length c] w fun e w' => e = .returned (.string (bs (textL l))) ∧ Below w.heap.size w w' := by
  have hnl : ∃ n, n = l.length := ⟨_, rfl⟩
  obtain ⟨n, hnl⟩ := hnl
  have hall := Lib.hid (show l.take n = l by rw [hnl]; exact List.take_length)
  have hsn := Lib.hid (fun k (hk : k < l.length) => textL_snoc hk)
  have hlen := Lib.hid (fun k => Nat.le_trans (textL_len (l := l.take k) fun p hp => hR p (List.mem_of_mem_take hp)) (show (l.take k).length * 154 ≤ 154000 by have := List.length_take_le k l; simp; omega))
  have hRn := Lib.hid (fun k (hk : k < l.length) => hR _ (nth_mem hk))
  rw [← hnl] at hl ⊢
  have hn2 : l.length = n := hnl.symm
  clear hnl hR
  have hfresh := Lib.hid (Lib.fresh_isBuilder 49 5 w)
  go_enter Tryz.func6, Tryz.ntmps6
  go_wp2_with fail
  go_loopw [10] (fun iv wr => ∃ k : Nat, k ≤ n ∧ iv = .int .i64 k ∧ Aside (Lib.IsBuilder 49 5 w.heap.size w.heap.size (Lib.byteCells (textL (l.take k))) wr) ∧ Below w.heap.size w wr ∧ w.heap.size < wr.heap.size) (fun iv _ => n - (intOf iv).toNat)
  case atStart => exact ⟨0, by omega, rfl, (show Aside _ from hfresh.out), (Below.refl _ w).alloc (Nat.le_refl _) _, by simp⟩
  case round =>
    obtain ⟨k, hk, rfl, hI, hB, hz⟩ := hrel
    clear hfresh
    have hI := hI.out
    by_cases hlt : k < n
    · obtain ⟨b, off, hAe, hlb, hrd⟩ := h.some (k := k) (by omega)
      cases hAe
      obtain ⟨r0, r1, r2, r3, r4, r5, r6⟩ := hrd.below hB hlb k (by omega)
      have hx := hRn.out k (by omega)
      have hs := hsn.out k (by omega)
      have hT := hlen.out k
      have hT2 := hlen.out (k + 1)
      rw [hs] at hT2
      have hs := Lib.hid hs
      clear hrd h hsn hlen hRn
      generalize hT2e : textL (l.take (k + 1)) = T2 at *
      have hT2e := Lib.hid hT2e
      generalize textL (l.take k) = T at *
      generalize nth l k = x at *
      have hlt' : (k : Int) < (n : Int) := by omega
      go_upto_block 2 with (fail)
      obtain ⟨V, hV⟩ : ∃ V, V = (wr.alloc (.cells #[.int .i64 x.o, .int .i64 x.f, .int .i64 x.n, .int .i64 x.v, .int .i64 x.p, .int .i64 x.s, .int .i64 x.e] 27)).alloc (.cells #[.int .i64 x.o, .int .i64 x.f, .int .i64 x.n, .int .i64 x.v, .int .i64 x.p] 3) := ⟨_, rfl⟩
      have hVb : Below wr.heap.size wr V := by rw [hV]; exact ((Below.refl _ wr).alloc (Nat.le_refl _) _).alloc (by simp) _
      have hV1 : V.heap[wr.heap.size]? = some (.cells #[.int .i64 x.o, .int .i64 x.f, .int .i64 x.n, .int .i64 x.v, .int .i64 x.p, .int .i64 x.s, .int .i64 x.e] 27 (0, 0)) := by
        rw [hV]; exact (Lib.alloc_old _ _ _ (by simp)).trans (heap_alloc_new wr _)
      have hV2 : V.heap[wr.heap.size + 1]? = some (.cells #[.int .i64 x.o, .int .i64 x.f, .int .i64 x.n, .int .i64 x.v, .int .i64 x.p] 3 (0, 0)) := by
        rw [hV]; have h := heap_alloc_new (wr.alloc (.cells #[.int .i64 x.o, .int .i64 x.f, .int .i64 x.n, .int .i64 x.v, .int .i64 x.p, .int .i64 x.s, .int .i64 x.e] 27)) (.cells #[.int .i64 x.o, .int .i64 x.f, .int .i64 x.n, .int .i64 x.v, .int .i64 x.p] 3); rw [World.size_alloc] at h; exact h
      rw [← hV]
      have hIV := isBuilder_below hI hVb
      have hBV : Below w.heap.size w V := hB.trans (hVb.mono hB.size)
      have hzV : wr.heap.size ≤ V.heap.size := hVb.size
      have hpl := Lib.hid (fun q (hq : q ≤ 5) => partL_len hx hq)
      have hps := Lib.hid (fun q (hq : q < 5) => partL_step x hq)
      have hpa := Lib.hid (partL_all x)
      have hfb := Lib.hid (fun q => fld_bd hx q)
      have hcell : ∀ q, q < 5 → (#[Value.int .i64 x.o, .int .i64 x.f, .int .i64 x.n, .int .i64 x.v, .int .i64 x.p] : Array Value)[q]? = some (.int .i64 (fld x q)) := fun q hq => by
        obtain rfl | rfl | rfl | rfl | rfl : q = 0 ∨ q = 1 ∨ q = 2 ∨ q = 3 ∨ q = 4 := by omega
        all_goals rfl
      have hcell := Lib.hid hcell
      have hne1 : wr.heap.size ≠ w.heap.size := by omega
      have hne2 : wr.heap.size + 1 ≠ w.heap.size := by omega
      have hs2 := Lib.hid (show T ++ lineL x = T2 from hs.out.symm)
      clear hV hI hVb r0 r1 r2 r3 r4 r5 r6 hs
      have h0 := Lib.hid hIV
      have hV1 := Lib.hid hV1
      have hV2 := Lib.hid hV2
      clear hIV
      have hzw : w.heap.size < wr.heap.size := hz
      clear hB hz
      generalize wr.heap.size = m at *
      go_cut [26] (fun _ wx => Lib.IsBuilder 49 5 w.heap.size w.heap.size (Lib.byteCells (T ++ partL x 5)) wx ∧ Keep w.heap.size V wx ∧ Below w.heap.size w wx)
      case first =>
        go_wp2_with fail
        go_loopw [26] (fun iv wq => ∃ q : Nat, q ≤ 5 ∧ iv = .int .i64 q ∧ Aside (Lib.IsBuilder 49 5 w.heap.size w.heap.size (Lib.byteCells (T ++ partL x q)) wq) ∧ Aside (Keep w.heap.size V wq) ∧ Below w.heap.size w wq) (fun iv _ => 5 - (intOf iv).toNat)
        case atStart =>
          have h00 : Lib.IsBuilder 49 5 w.heap.size w.heap.size (Lib.byteCells (T ++ partL x 0)) V := by have := h0.out; simpa [partL] using this
          exact ⟨0, by omega, rfl, (show Aside _ from h00), (show Aside _ from Keep.refl _ _), hBV⟩
        case round =>
          clear h0 hBV
          obtain ⟨q, hq, rfl, hI, hK, hBq⟩ := hrel
          have hI := hI.out
          have hK := hK.out
          by_cases hq5 : q < 5
          · have hq2 := hK _ _ _ _ hV2.out (by decide) hne2
            have c0 : wr.cell? ⟨m + 1, q, none⟩ = some (.int .i64 (fld x q)) := by
              rw [Lib.cell_of_heap hq2]
              exact hcell.out q hq5
            have hEn := hE.below hBq rfl
            have hbd := hfb.out q
            have hlp := hpl.out q hq
            have hln := bd_len hbd
            have hzq := hBq.size
            have hit := itoaC (fld x q) wr hEn (by have := hbd.1; omega) (by have := hbd.2; omega)
            have hst := hps.out q hq5
            have hI2 := fun v (hb : Below wr.heap.size wr v) => writeStringC w.heap.size w.heap.size _ (bs (Lib.itoa (fld x q))) v (isBuilder_below hI hb) (by rw [Lib.byteCells_length, bs_size, List.length_append]; omega) (by have := hb.size; omega)
            have hI3 : ∀ v, Lib.IsBuilder 49 5 w.heap.size w.heap.size (Lib.byteCells (T ++ partL x q) ++ Lib.strCells (bs (Lib.itoa (fld x q)))) v → w.heap.size ≤ v.heap.size → Calls Tryz.prog 15 #[.pointer (some ⟨w.heap.size, 0, none⟩), .int .u8 32] v fun e w' => e = .returned .nilIface ∧ Lib.IsBuilder 49 5 w.heap.size w.heap.size (Lib.byteCells (T ++ partL x (q + 1))) w' ∧ Below w.heap.size v w' ∧ Keep w.heap.size v w' := fun v hv hs => (writeByteC w.heap.size w.heap.size _ 32 v hv (by rw [List.length_append, Lib.byteCells_length, Lib.strCells_length, bs_size, List.length_append]; omega) hs).mono fun _ _ ⟨h1, h2, h3, h4⟩ => ⟨h1, .inr (by
              have e : Lib.byteCells (T ++ partL x q) ++ Lib.strCells (bs (Lib.itoa (fld x q))) ++ [Value.int .u8 32] = Lib.byteCells (T ++ partL x (q + 1)) := by
                rw [hst, Lib.strCells_toArray, ← bc_app]
                simp [Lib.byteCells]
              rw [← e]; exact h2), h3, h4⟩
            have hI2 := Lib.hid hI2
            have hI3 := Lib.hid hI3
            have hK := Lib.hid hK
            clear hI hst hbd hlp hln hq2 hEn
            generalize fld x q = z at *
            have hq5' : (q : Int) < 5 := by omega
            go_wp2_with fail
            refine hit.mono ?_
            rintro e v1 ⟨rfl, hb1⟩
            have hw := hI2.out v1 hb1
            have hz1 : w.heap.size ≤ v1.heap.size := Nat.le_trans hzq hb1.size
            clear hit hI2 c0
            go_wp2_with fail
            refine hw.mono ?_
            rintro e v2 ⟨rfl, h2, hb2, hk2⟩
            have hw2 := hI3.out v2 (.inr h2) (Nat.le_trans hz1 hb2.size)
            clear hw hI3 h2
            go_wp2_with fail
            refine hw2.mono ?_
            rintro e v3 ⟨rfl, h3, hb3, hk3⟩
            have h3 := Lib.hid h3
            clear hw2
            go_wp2_with fail
            go_roundw
            case rel => exact ⟨q + 1, by omega, by go_num, (show Aside _ from h3.out), (show Aside _ from ((hK.out.trans (Keep.below hb1)).trans hk2).trans hk3), ((hBq.trans (hb1.mono hzq)).trans hb2).trans hb3⟩
            case measure => simp [intOf]; omega
          · obtain rfl : q = 5 := by omega
            have hX := Lib.hid (And.intro hI hK)
            clear hI hK
            go_wp2_with fail
            go_meet
            exact ⟨hX.out.1, hX.out.2, hBq⟩
      case rest =>
        obtain ⟨hI, hK, hBq⟩ := hcut
        have q1 := hK _ _ _ _ hV1.out (by decide) hne1
        have c5 : wc.cell? ⟨m, 5, none⟩ = some (.int .i64 x.s) := by rw [Lib.cell_of_heap q1]; rfl
        have c6 : wc.cell? ⟨m, 6, none⟩ = some (.int .i64 x.e) := by rw [Lib.cell_of_heap q1]; rfl
        have hml : m < wc.heap.size := (Array.getElem?_eq_some_iff.1 q1).1
        have hzq := hBq.size
        have hEn := hE.below hBq rfl
        have hl5 := bd_len hx.s
        have hl6 := bd_len hx.e
        have hlp := hpl.out 5 (Nat.le_refl _)
        have k1 := itoaC x.s wc.drew (hEn.below ((Below.refl _ wc).drew) rfl) (by have := hx.s.1; omega) (by have := hx.s.2; omega)
        have k2 := fun v (hb : Below wc.heap.size wc v) => itoaC x.e v (hEn.below hb rfl) (by have := hx.e.1; omega) (by have := hx.e.2; omega)
        have hS1 := bs_size (Lib.itoa x.s)
        have hS2 := bs_size (Lib.itoa x.e)
        have hfin : Lib.byteCells (T ++ partL x 5) ++ Lib.strCells (bs (Lib.itoa x.s) ++ ⟨#[46]⟩ ++ bs (Lib.itoa x.e) ++ ⟨#[10]⟩) = Lib.byteCells T2 := by
          rw [show (⟨#[46]⟩ : ByteArray) = bs [46] from rfl, show (⟨#[10]⟩ : ByteArray) = bs [10] from rfl, bs_append, bs_append, bs_append, Lib.strCells_toArray, ← bc_app, List.append_assoc, hpa.out, hs2.out]
        have hlen2 : (Lib.byteCells (T ++ partL x 5)).length ≤ 200000 := by rw [Lib.byteCells_length, List.length_append]; omega
        have hfin := Lib.hid hfin
        have q1 := Lib.hid q1
        clear hpl hps hpa hfb hcell hs2 hE hEn hV1 hV2 hK
        generalize Lib.byteCells (T ++ partL x 5) = C at *
        generalize bs (Lib.itoa x.s) = S1 at *
        generalize bs (Lib.itoa x.e) = S2 at *
        have s1 : (⟨#[46]⟩ : ByteArray).size = 1 := rfl
        have s2 : (⟨#[10]⟩ : ByteArray).size = 1 := rfl
        have a1 := fun w => run_string_add (P := Tryz.prog) w S1 ⟨#[46]⟩ (by omega) (by omega)
        have t1 : (S1 ++ ⟨#[46]⟩ : ByteArray).size ≤ 30 := by rw [ByteArray.size_append]; omega
        have a2 := fun w => run_string_add (P := Tryz.prog) w (S1 ++ ⟨#[46]⟩) S2 (by omega) (by omega)
        have t2 : (S1 ++ ⟨#[46]⟩ ++ S2 : ByteArray).size ≤ 60 := by rw [ByteArray.size_append]; omega
        have a3 := fun w => run_string_add (P := Tryz.prog) w (S1 ++ ⟨#[46]⟩ ++ S2) ⟨#[10]⟩ (by omega) (by omega)
        have t3 : (S1 ++ ⟨#[46]⟩ ++ S2 ++ ⟨#[10]⟩ : ByteArray).size ≤ 70 := by rw [ByteArray.size_append]; omega
        have hw := fun v (hb : Below wc.heap.size wc v) => writeStringC w.heap.size w.heap.size _ (S1 ++ ⟨#[46]⟩ ++ S2 ++ ⟨#[10]⟩) v (isBuilder_below hI hb) (by omega) (by have := hb.size; omega)
        have hw := Lib.hid hw
        have k2 := Lib.hid k2
        clear hI
        go_wp2_with fail
        go_region_held3 (fun w' => w'.cell? ⟨m, 5, none⟩ = some (.int .i64 x.s) ∧ w'.cell? ⟨m, 6, none⟩ = some (.int .i64 x.e))
          (first | exact g3 | exact g2 | exact g1 | exact ⟨c5, c6⟩)
          (first
            | (go_at_call 13; (with_reducible refine (hw.out v2 hB2).mono ?_); rintro e v3 ⟨rfl, h3, hb3, hk3⟩; have q3 := hk3 m _ _ _ ((hB2.block m hml).trans q1.out) (by decide) hne1; have g3 : v3.cell? ⟨m, 5, none⟩ = some (.int .i64 x.s) ∧ v3.cell? ⟨m, 6, none⟩ = some (.int .i64 x.e) := ⟨by rw [Lib.cell_of_heap q3]; rfl, by rw [Lib.cell_of_heap q3]; rfl⟩)
            | (go_at_call 14; (with_reducible refine (k2.out v1 hB1).mono ?_); rintro e v2 ⟨rfl, hb2⟩; have hB2 := hB1.trans (hb2.mono hB1.size); have g2 : v2.cell? ⟨m, 5, none⟩ = some (.int .i64 x.s) ∧ v2.cell? ⟨m, 6, none⟩ = some (.int .i64 x.e) := ⟨(hB2.cell (p := ⟨m, 5, none⟩) hml).trans c5, (hB2.cell (p := ⟨m, 6, none⟩) hml).trans c6⟩)
            | (go_at_call 14; (with_reducible refine k1.mono ?_); rintro e v1 ⟨rfl, hb1⟩; have hB1 : Below wc.heap.size wc v1 := (Below.refl _ wc).drew.trans hb1; have g1 : v1.cell? ⟨m, 5, none⟩ = some (.int .i64 x.s) ∧ v1.cell? ⟨m, 6, none⟩ = some (.int .i64 x.e) := ⟨(hB1.cell (p := ⟨m, 5, none⟩) hml).trans c5, (hB1.cell (p := ⟨m, 6, none⟩) hml).trans c6⟩))
        have h4 : Lib.IsBuilder 49 5 w.heap.size w.heap.size (Lib.byteCells (textL (l.take (k + 1)))) v3 := by
          rw [hT2e.out, ← hfin.out]; exact .inr h3
        have h4 := Lib.hid h4
        have hB3 := (hBq.trans (hB2.mono hzq)).trans hb3
        have hz3 : w.heap.size < v3.heap.size := by have := hb3.size; have := hB2.size; omega
        clear g1 g2 g3 q3 hw k2 h3
        go_wp2_with fail
        go_roundw
        case rel => exact ⟨k + 1, by omega, by go_num, (show Aside _ from h4.out), hB3, hz3⟩
        case measure => simp [intOf]; omega
    · obtain rfl : k = n := by omega
      rw [hall.out] at hI
      have hz' : w.heap.size ≤ wr.heap.size := by omega
      have hS := Tryz.Builder_String_any w.heap.size w.heap.size (textL l) wr hI hz'
      clear hI h hsn hlen hRn
      go_wp2_with fail
      refine hS.mono ?_
      rintro e w2 ⟨rfl, hb2⟩
      go_wp2_with fail
      go_ret
      exact ⟨rfl, hB.trans hb2⟩
end Go.Proofs.YtmbchdfgckmpoaaGreatDoor
