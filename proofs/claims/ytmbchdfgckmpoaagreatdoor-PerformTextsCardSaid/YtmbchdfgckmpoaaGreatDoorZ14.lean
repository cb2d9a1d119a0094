/- perform.Decode: walk. -/
import Derived.Test.YtmbchdfgckmpoaaGreatDoorZ13
namespace Go.Proofs.YtmbchdfgckmpoaaGreatDoor
open Go.RowKit Go.Shelf
attribute [local go_sem] Oper.semAt_some

/-- What Decode hands back. -/
def DecR (s : List UInt8) (e : Ending) (w' : World) : Prop :=
  (∃ A c L, e = .returned (.tuple #[.slice A L.length c, .int .i64 0]) ∧ SlY w' A L ∧ (∀ p ∈ L, InR p) ∧ textL L = s ∧ L.length ≤ 6000) ∨
  (e = .returned (.tuple #[.slice none 0 0, .int .i64 3]) ∧ ∀ l, (∀ p ∈ l, InR p) → textL l ≠ s)

set_option maxRecDepth 100000 in
set_option maxHeartbeats 4000000 in
theorem decodeIn (s : List UInt8) (hs : s.length ≤ 5000) (w : World) (he : Env w) :
    CallsIn Fence.wide 6 Tryz.prog 7 #[.string (bs s)] w fun e w' => DecR s e w' ∧ Below w.heap.size w w' := by
  refine callsIn_of_wp_marks Tryz.func7 rfl trivial ?_ rfl
  simp only [Tryz.ntmps7, List.size_toArray, List.length_cons, List.length_nil, Nat.reduceAdd, Nat.reduceSub, Array.replicate_succ, Array.replicate_zero, List.push_toArray, List.append_toArray, List.nil_append, List.cons_append]
  gi_wp2_with (refine ⟨trivial, ?_⟩; gi_at_call 17; refine (callsIn_wide.2 (linesC _ _)).mono ?_; rintro e w' ⟨rfl, rfl⟩)
  obtain ⟨W0, hW0⟩ : ∃ W0, W0 = ((((w.alloc (.cells #[.slice none 0 0] 22)).alloc (.cells #[.int .i64 0] 30)).alloc (.cells #[.slice none 0 0] 22)).alloc (.cells #[.string (bs s)] 9)) := ⟨_, rfl⟩
  have hsz : W0.heap.size = w.heap.size + 4 := by rw [hW0]; simp
  have hbB : Below w.heap.size w W0 := by
    rw [hW0]
    exact ((((Below.refl _ w).alloc (Nat.le_refl _) _).alloc (by simp) _).alloc (by simp; omega) _).alloc (by simp; omega) _
  have x0 : Boxed W0 w.heap.size 22 (.slice none 0 0) := by
    rw [hW0]; exact ((((Boxed.new w 22 _).alloc _).alloc _).alloc _)
  have x1 : Boxed W0 (w.heap.size + 1) 30 (.int .i64 0) := by
    rw [hW0]; have h := Boxed.new (w.alloc (.cells #[.slice none 0 0] 22)) 30 (.int .i64 0); rw [World.size_alloc] at h; exact ((h.alloc _).alloc _)
  have x2 : Boxed W0 (w.heap.size + 2) 22 (.slice none 0 0) := by
    rw [hW0]; have h := Boxed.new ((w.alloc (.cells #[.slice none 0 0] 22)).alloc (.cells #[.int .i64 0] 30)) 22 (.slice none 0 0); rw [World.size_alloc, World.size_alloc] at h; exact h.alloc _
  have x3 : Boxed W0 (w.heap.size + 3) 9 (.string (bs s)) := by
    rw [hW0]; have h := Boxed.new (((w.alloc (.cells #[.slice none 0 0] 22)).alloc (.cells #[.int .i64 0] 30)).alloc (.cells #[.slice none 0 0] 22)) 9 (.string (bs s)); rw [World.size_alloc, World.size_alloc, World.size_alloc] at h; exact h
  rw [← hW0]
  clear hW0
  have hit : ∀ W, Below W0.heap.size W0 W → Iter Fence.wide (6 - 1) Tryz.prog 36 #[.pointer (some ⟨w.heap.size + 3, 0, none⟩)] encP (Kp1 (w.heap.size + 3)) (fun xs => xs.map (·.1) = linesL s) (fun pre => pre.map (·.1) <+: linesL s) 6000 (w.heap.size + 3) W := fun W hW l J Jx hJ hJx hY h0 =>
    linesIn 5 (by omega) l _ s hs J Jx hJ hJx hY W h0 ((hW.block _ (by omega)).trans x3)
  have hi0 : IP w.heap.size w [] W0 := ⟨[], _, ⟨rfl, fun p hp => by cases hp⟩, ⟨x2, World.ownsRow_nil _ _ _ _, x0, x1, hbB, by omega⟩, by simp⟩
  refine rangeBox rfl (by omega) (gf := 36) (lb := #[.pointer (some ⟨w.heap.size + 3, 0, none⟩)]) rfl trivial (enters_of Tryz.func36 (by kernel_rfl) rfl)
    (b0 := w.heap.size + 3) (by omega) hit Kp1.trans (fun W l o hl => World.putObj_heap_other (by omega)) (fun x => rfl)
    (IP w.heap.size w) (IX w.heap.size w) (by rw [hsz]; exact ip_from _ _) (fun c => by rw [hsz]; exact ix_from _ _ c) (ip_lets _ _) (ix_lets _ _) hi0 ?a1 ?assign ?body ?done ?stop
  case assign =>
    intro l x W K hK
    simp only [encP]
    gi_wp2
    exact hK
  case body =>
    rintro l pre ⟨x, hx⟩ V ⟨L, v, hp, hI, hl65⟩ hpre
    have heV := he.below hI.below rfl
    have hLlen : L.length < 6000 := by
      have := congrArg List.length hp.1
      rw [List.length_map, List.length_map] at this
      omega
    have hcs := suffixC x hx V
    have hsp := splitC x hx V heV
    have hcu := fun v (hb : Below V.heap.size V v) => cutC x (Nat.le_trans (five_len x) hx) v (heV.below hb rfl)
    obtain ⟨A, cap, rfl, hsl⟩ := ownY_slice hI.own
    have big := hI.big
    have hcu := Lib.hid hcu
    clear hit hi0 x0 x1 x2 x3 hbB
    by_cases hform : endF x = true ∧ (splitL (txtF x)).length = 6
    · obtain ⟨hE, hK6⟩ := hform
      have hform2 := Lib.hid (And.intro hE hK6)
      have hget := fun i (hi : i < 6) => fldA_get (x := x) (i := i) (by omega)
      have hF5 : (fldA x)[5]? = some (.string (bs (fiveF x))) := hget 5 (by omega)
      have hF5 := Lib.hid hF5
      have hget := Lib.hid hget
      rw [hE] at hcs
      rw [hK6] at hsp
      clear hE hK6
      generalize txtF x = T at hcs hsp
      gi_wp2_with (first
          | (refine ⟨trivial, ?_⟩; gi_at_call 20; refine (CallsIn.inRound l (callsIn_wide.2 (hcu.out w2 hb2))).mono ?_; rintro e w3 ⟨rfl, hb3⟩)
          | (refine ⟨trivial, ?_⟩; gi_at_call 19; refine (CallsIn.inRound l (callsIn_wide.2 hsp)).mono ?_; rintro e w2 ⟨rfl, hb2, hF⟩; have c5 : w2.cell? ⟨V.heap.size, 5, none⟩ = some (.string (bs (fiveF x))) := (by rw [Lib.cell_of_heap hF]; exact hF5.out))
          | (refine ⟨trivial, ?_⟩; gi_at_call 18; refine (CallsIn.inRound l (callsIn_wide.2 hcs)).mono ?_; rintro e w1 ⟨rfl, hw⟩; obtain rfl := hw.symm))
      obtain ⟨V4, hV4⟩ : ∃ V4, V4 = (w3.alloc (.cells #[.int .i64 0, .int .i64 0, .int .i64 0, .int .i64 0, .int .i64 0, .int .i64 0, .int .i64 0] 27)).alloc (.cells #[.pointer (some ⟨w3.heap.size, 0, none⟩), .pointer (some ⟨w3.heap.size, 1, none⟩), .pointer (some ⟨w3.heap.size, 2, none⟩), .pointer (some ⟨w3.heap.size, 3, none⟩), .pointer (some ⟨w3.heap.size, 4, none⟩), .pointer (some ⟨w3.heap.size, 5, none⟩), .pointer (some ⟨w3.heap.size, 6, none⟩)] 66) := ⟨_, rfl⟩
      rw [← hV4]
      have hb4 : Below w3.heap.size w3 V4 := by rw [hV4]; exact ((Below.refl _ w3).alloc (Nat.le_refl _) _).alloc (by simp) _
      have hV2 : V.heap.size < w2.heap.size := (Array.getElem?_eq_some_iff.1 hF).1
      have hnp : V.heap.size < w3.heap.size := Nat.lt_of_lt_of_le hV2 hb3.size
      have hF4 : V4.heap[V.heap.size]? = some (.cells (fldA x) 9 (0, 0)) := (hb4.block _ hnp).trans ((hb3.block _ hV2).trans hF)
      have hP4 : V4.heap[w3.heap.size]? = some (.cells (pcA (fun _ => 0) 0) 27 (0, 0)) := by rw [hV4]; exact (Lib.alloc_old _ _ _ (by simp)).trans (heap_alloc_new w3 _)
      have hQ4 : V4.heap[w3.heap.size + 1]? = some (.cells (ptA w3.heap.size) 66 (0, 0)) := by
        rw [hV4]; have h := heap_alloc_new (w3.alloc (.cells #[.int .i64 0, .int .i64 0, .int .i64 0, .int .i64 0, .int .i64 0, .int .i64 0, .int .i64 0] 27)) (.cells (ptA w3.heap.size) 66); rw [World.size_alloc] at h; exact h
      have hB4 : Below V.heap.size V V4 := (hb2.trans (hb3.mono hb2.size)).trans (hb4.mono (Nat.le_of_lt hnp))
      have hI' := Lib.hid hI
      have h4 := Lib.hid (And.intro hF4 (And.intro hP4 hQ4))
      clear hV4 hb2 hb3 hb4 hV2 hF c5 hcs hsp hcu hF4 hP4 hQ4 hF5 hI
      generalize w3.heap.size = np at *
      clear w3 w2
      gi_loopw [13, 56] (fun gv iv wq => ∃ (i : Nat) (ns : Nat → Int) (G : Bool), i ≤ 7 ∧ iv = .int .i64 i ∧ gv = .bool G ∧ Aside (GoodI x ns i G) ∧ Aside (wq.heap[V.heap.size]? = some (.cells (fldA x) 9 (0, 0)) ∧ wq.heap[np]? = some (.cells (pcA ns i) 27 (0, 0)) ∧ wq.heap[np + 1]? = some (.cells (ptA np) 66 (0, 0))) ∧ Below V.heap.size V wq) (fun _ iv _ => 7 - (intOf iv).toNat)
      case atStart => exact ⟨0, fun _ => 0, dotF x, by omega, rfl, rfl, (show Aside _ from goodI_zero x _), (show Aside _ from h4.out), hB4⟩
      case round =>
        clear h4 hB4
        obtain ⟨i, ns, G, hi7, rfl, rfl, hG, hH, hBq⟩ := hrel
        have hG := hG.out
        obtain ⟨hF, hP, hQ⟩ := hH.out
        have hpl : np < wr.heap.size := (Array.getElem?_eq_some_iff.1 hP).1
        have hql : np + 1 < wr.heap.size := (Array.getElem?_eq_some_iff.1 hQ).1
        have hfl : V.heap.size < wr.heap.size := (Array.getElem?_eq_some_iff.1 hF).1
        by_cases hi : i < 7
        · have hint := integerC (fF x i) wr (heV.below hBq rfl) (by have := fF_len x i; omega)
          have cq : wr.cell? ⟨np + 1, i, none⟩ = some (.pointer (some ⟨np, i, none⟩)) := by rw [Lib.cell_of_heap hQ]; exact ptA_get np hi
          have hi7' : (i : Int) < 7 := by omega
          have hstep := fun n good (h : IntR (fF x i) n good) => goodI_step hG h
          have hafter : ∀ (v : World) (m : Int), Below wr.heap.size wr v → v.cell? ⟨np, i, none⟩ = some (.int .i64 0) ∧ v.frozen? ⟨np, i, none⟩ = false ∧ ((v.setCell ⟨np, i, none⟩ (.int .i64 m)).heap[V.heap.size]? = some (.cells (fldA x) 9 (0, 0)) ∧ (v.setCell ⟨np, i, none⟩ (.int .i64 m)).heap[np]? = some (.cells (pcA (upd ns i m) (i + 1)) 27 (0, 0)) ∧ (v.setCell ⟨np, i, none⟩ (.int .i64 m)).heap[np + 1]? = some (.cells (ptA np) 66 (0, 0))) ∧ Below V.heap.size V (v.setCell ⟨np, i, none⟩ (.int .i64 m)) := fun v m hv => by
            have p1 := (hv.block np hpl).trans hP
            have p2 := (hv.block (np + 1) hql).trans hQ
            have p3 := (hv.block V.heap.size hfl).trans hF
            refine ⟨by rw [Lib.cell_of_heap p1]; exact pcA_get ns hi, Lib.frozen_of_heap p1 i, ⟨(Below.heap_setCell _ _ _ _ (by show V.heap.size ≠ np; omega)).trans p3, ?_, (Below.heap_setCell _ _ _ _ (by show np + 1 ≠ np; omega)).trans p2⟩, (hBq.trans (hv.mono (by omega))).setCell (p := ⟨np, i, none⟩) (by show V.heap.size ≤ np; omega) _⟩
            rw [heap_setCell_same v np i _ _ _ p1, pcA_set ns m hi]
          have hlast := fun (v : World) (m : Int) (good : Bool) (hv : Below wr.heap.size wr v) (hr : IntR (fF x i) m good) => And.intro (hstep m good hr) (hafter v m hv).2.2
          have hlast := Lib.hid hlast
          have hafter2 := fun v m hv => And.intro (hafter v m hv).1 (hafter v m hv).2.1
          have hafter2 := Lib.hid hafter2
          by_cases hi5 : i < 5
          · have cf : wr.cell? ⟨V.heap.size, i, none⟩ = some (.string (bs (fF x i))) := by
              rw [Lib.cell_of_heap hF, hget.out i (by omega)]
              unfold fF
              rw [if_pos hi5]
            have d5 : (i : Int) < 5 := by omega
            have d6 : (i : Int) < 6 := by omega
            clear hG hH hF hP hQ hstep hafter hget hform2 heV
            generalize bs (fF x i) = TX at *
            generalize bs (fF x 5) = T5 at *
            generalize bs (fF x 6) = T6 at *
            cases G with
            | true =>
              gi_wp2_with (first
                | (refine ⟨trivial, ?_⟩; gi_at_call 21; refine (CallsIn.inRound l (callsIn_wide.2 hint)).mono ?_; rintro e v1 ⟨⟨m, good, rfl, hIR⟩, hb1⟩; obtain ⟨z1, z2⟩ := hafter2.out v1 m hb1))
              obtain ⟨y1, y2, y3⟩ := hlast.out v1 m good hb1 hIR
              simp only [Bool.true_and, Bool.false_and] at y1
              exact ⟨⟨i + 1, upd ns i m, good, by omega, by go_num, rfl, (show Aside _ from y1), (show Aside _ from y2), y3⟩, by first | (simp [intOf]; done) | (simp [intOf]; omega)⟩
            | false =>
              gi_wp2_with (first
                | (refine ⟨trivial, ?_⟩; gi_at_call 21; refine (CallsIn.inRound l (callsIn_wide.2 hint)).mono ?_; rintro e v1 ⟨⟨m, good, rfl, hIR⟩, hb1⟩; obtain ⟨z1, z2⟩ := hafter2.out v1 m hb1))
              obtain ⟨y1, y2, y3⟩ := hlast.out v1 m good hb1 hIR
              simp only [Bool.true_and, Bool.false_and] at y1
              exact ⟨⟨i + 1, upd ns i m, false, by omega, by go_num, rfl, (show Aside _ from y1), (show Aside _ from y2), y3⟩, by first | (simp [intOf]; done) | (simp [intOf]; omega)⟩
          · by_cases hi6 : i = 5
            · subst hi6
              clear hG hH hF hP hQ hstep hafter hget hform2 heV
              generalize bs (fF x 5) = T5 at *
              generalize bs (fF x 6) = T6 at *
              cases G with
              | true =>
                gi_wp2_with (first
                  | (refine ⟨trivial, ?_⟩; gi_at_call 21; refine (CallsIn.inRound l (callsIn_wide.2 hint)).mono ?_; rintro e v1 ⟨⟨m, good, rfl, hIR⟩, hb1⟩; obtain ⟨z1, z2⟩ := hafter2.out v1 m hb1))
                obtain ⟨y1, y2, y3⟩ := hlast.out v1 m good hb1 hIR
                simp only [Bool.true_and, Bool.false_and] at y1
                exact ⟨⟨5 + 1, upd ns 5 m, good, by omega, by go_num, rfl, (show Aside _ from y1), (show Aside _ from y2), y3⟩, by first | (simp [intOf]; done) | (simp [intOf]; omega)⟩
              | false =>
                gi_wp2_with (first
                  | (refine ⟨trivial, ?_⟩; gi_at_call 21; refine (CallsIn.inRound l (callsIn_wide.2 hint)).mono ?_; rintro e v1 ⟨⟨m, good, rfl, hIR⟩, hb1⟩; obtain ⟨z1, z2⟩ := hafter2.out v1 m hb1))
                obtain ⟨y1, y2, y3⟩ := hlast.out v1 m good hb1 hIR
                simp only [Bool.true_and, Bool.false_and] at y1
                exact ⟨⟨5 + 1, upd ns 5 m, false, by omega, by go_num, rfl, (show Aside _ from y1), (show Aside _ from y2), y3⟩, by first | (simp [intOf]; done) | (simp [intOf]; omega)⟩
            · obtain rfl : i = 6 := by omega
              clear hG hH hF hP hQ hstep hafter hget hform2 heV
              generalize bs (fF x 5) = T5 at *
              generalize bs (fF x 6) = T6 at *
              cases G with
              | true =>
                gi_wp2_with (first
                  | (refine ⟨trivial, ?_⟩; gi_at_call 21; refine (CallsIn.inRound l (callsIn_wide.2 hint)).mono ?_; rintro e v1 ⟨⟨m, good, rfl, hIR⟩, hb1⟩; obtain ⟨z1, z2⟩ := hafter2.out v1 m hb1))
                obtain ⟨y1, y2, y3⟩ := hlast.out v1 m good hb1 hIR
                simp only [Bool.true_and, Bool.false_and] at y1
                exact ⟨⟨6 + 1, upd ns 6 m, good, by omega, by go_num, rfl, (show Aside _ from y1), (show Aside _ from y2), y3⟩, by first | (simp [intOf]; done) | (simp [intOf]; omega)⟩
              | false =>
                gi_wp2_with (first
                  | (refine ⟨trivial, ?_⟩; gi_at_call 21; refine (CallsIn.inRound l (callsIn_wide.2 hint)).mono ?_; rintro e v1 ⟨⟨m, good, rfl, hIR⟩, hb1⟩; obtain ⟨z1, z2⟩ := hafter2.out v1 m hb1))
                obtain ⟨y1, y2, y3⟩ := hlast.out v1 m good hb1 hIR
                simp only [Bool.true_and, Bool.false_and] at y1
                exact ⟨⟨6 + 1, upd ns 6 m, false, by omega, by go_num, rfl, (show Aside _ from y1), (show Aside _ from y2), y3⟩, by first | (simp [intOf]; done) | (simp [intOf]; omega)⟩
        · obtain rfl : i = 7 := by omega
          cases G with
          | false =>
            have hfin := round_off (x := ⟨x, hx⟩) (pre := pre) (X := wr) hI'.out (bad_line hG) hBq
            have q0 : Boxed wr w.heap.size 22 (.slice none 0 0) := (hBq.block _ (by omega)).trans hI'.out.resL
            have q1 : Boxed wr (w.heap.size + 1) 30 (.int .i64 0) := (hBq.block _ (by omega)).trans hI'.out.resE
            have q0c := q0.cell
            have q1c := q1.cell
            have q0f := q0.frozen
            have q1f := q1.frozen
            have hfin := Lib.hid hfin
            clear hG hH hF hP hQ hget hform2 heV
            gi_wp2_with fail
            exact hfin.out
          | true =>
            have hgl := good_line hform2.out.1 hform2.out.2 hG
            have hI := hI'.out
            obtain ⟨i0, hi, hi0, hi1, hi2⟩ := info_parts info27
            have hi := Lib.hid hi
            have hon := fun Z v' t o ht hown hg => round_on (n := w.heap.size) (w := w) (V := V) (X := wr) (Z := Z) (pre := pre) (x := ⟨x, hx⟩) (L := L) (v := .slice A L.length cap) (v' := v') (t := t) (o := o) hp hI hLlen ht hBq hown hg
            have hown0 := hI.own
            have hown2 := OwnRow.below hown0 hBq
            have q2 : Boxed wr (w.heap.size + 2) 22 (.slice A L.length cap) := (hBq.block _ (by omega)).trans hI.out
            have q2c := q2.cell
            have k0 : wr.cell? ⟨np, 0, none⟩ = some (.int .i64 (ns 0)) := by rw [Lib.cell_of_heap hP]; rfl
            have k1 : wr.cell? ⟨np, 1, none⟩ = some (.int .i64 (ns 1)) := by rw [Lib.cell_of_heap hP]; rfl
            have k2 : wr.cell? ⟨np, 2, none⟩ = some (.int .i64 (ns 2)) := by rw [Lib.cell_of_heap hP]; rfl
            have k3 : wr.cell? ⟨np, 3, none⟩ = some (.int .i64 (ns 3)) := by rw [Lib.cell_of_heap hP]; rfl
            have k4 : wr.cell? ⟨np, 4, none⟩ = some (.int .i64 (ns 4)) := by rw [Lib.cell_of_heap hP]; rfl
            have k5 : wr.cell? ⟨np, 5, none⟩ = some (.int .i64 (ns 5)) := by rw [Lib.cell_of_heap hP]; rfl
            have k6 : wr.cell? ⟨np, 6, none⟩ = some (.int .i64 (ns 6)) := by rw [Lib.cell_of_heap hP]; rfl
            have hgl := Lib.hid hgl
            have hon := Lib.hid hon
            have hzz := hBq.size
            clear hG hH hF hQ hP hget hform2 heV hI'
            gi_wp2_with (gi_at_builtin; refine wpListIn_append_own _ rfl _ _ 22 rfl (w.heap.size + 4) 27 i0 (.agg #[.int .i64 0, .int .i64 0, .int .i64 0, .int .i64 0, .int .i64 0, .int .i64 0, .int .i64 0]) 7 56 Tryz.underlying22 hi.out hi0 hi1 hi2 rfl (by omega) _ _ _ (by rfl) (hown2.alloc _) ⟨wr.heap.size, 0, none⟩ 1 1 (encY (mkP ns)) (by rfl) rfl ?_ ?_ ?_ ?_ ?_ ?_)
            · exact fun j u h => h
            · intro u hu
              simp [encY] at hu
              rcases hu with rfl | rfl | rfl | rfl | rfl | rfl | rfl <;> rfl
            · unfold maxLen; omega
            · omega
            · have := hI.big; omega
            · intro v' Z hown' hgrow _
              obtain ⟨g', cap', rfl⟩ := ownsRow_succ hown'
              have qZ : Boxed Z (w.heap.size + 2) 22 (.slice A L.length cap) := (hgrow.block _ (by rw [World.size_alloc]; omega) (fun e => by have := (hown0.lt _ e.symm).1; omega)).trans ((q2.alloc _))
              have qc := qZ.cell
              have qf := qZ.frozen
              have hend := hon.out Z _ _ _ hgl.out hown' hgrow
              have hend := Lib.hid hend
              clear hon hown' hgrow qZ hown2 hown0 q2
              gi_wp2_with fail
              exact hend.out
    · have hfin := fun X hB => round_off (x := ⟨x, hx⟩) (pre := pre) (X := X) hI (bad_form hform) hB
      have hfin := Lib.hid hfin
      cases hE : endF x with
      | false =>
        rw [hE] at hcs
        clear hform hE
        generalize txtF x = T at *
        gi_wp2_with (first
          | (refine ⟨trivial, ?_⟩; gi_at_call 19; refine (CallsIn.inRound l (callsIn_wide.2 hsp)).mono ?_; rintro e w2 ⟨rfl, hb2, hF⟩; have q0 : Boxed w2 w.heap.size 22 (.slice none 0 0) := (hb2.block _ (by omega)).trans hI.resL; have q1 : Boxed w2 (w.heap.size + 1) 30 (.int .i64 0) := (hb2.block _ (by omega)).trans hI.resE; have q0c := q0.cell; have q1c := q1.cell; have q0f := q0.frozen; have q1f := q1.frozen)
          | (refine ⟨trivial, ?_⟩; gi_at_call 18; refine (CallsIn.inRound l (callsIn_wide.2 hcs)).mono ?_; rintro e w1 ⟨rfl, rfl⟩))
        exact hfin.out w2 hb2
      | true =>
        have hK6 : (splitL (txtF x)).length ≠ 6 := fun h => hform ⟨hE, h⟩
        rw [hE] at hcs
        clear hform hE
        have hKb : (((splitL (txtF x)).length : Int) != 6) = true := by simp; omega
        generalize (splitL (txtF x)).length = K at *
        generalize txtF x = T at *
        gi_wp2_with (first
          | (refine ⟨trivial, ?_⟩; gi_at_call 19; refine (CallsIn.inRound l (callsIn_wide.2 hsp)).mono ?_; rintro e w2 ⟨rfl, hb2, hF⟩; have q0 : Boxed w2 w.heap.size 22 (.slice none 0 0) := (hb2.block _ (by omega)).trans hI.resL; have q1 : Boxed w2 (w.heap.size + 1) 30 (.int .i64 0) := (hb2.block _ (by omega)).trans hI.resE; have q0c := q0.cell; have q1c := q1.cell; have q0f := q0.frozen; have q1f := q1.frozen)
          | (refine ⟨trivial, ?_⟩; gi_at_call 18; refine (CallsIn.inRound l (callsIn_wide.2 hcs)).mono ?_; rintro e w1 ⟨rfl, rfl⟩))
        exact hfin.out w2 hb2
  case done =>
    rintro D xs W hD hxs ⟨L, v, hp, hI, hl65⟩ hK
    obtain ⟨A, cap, rfl, hsl⟩ := ownY_slice hI.own
    have hc0 := hI.out.cell
    have big := hI.big
    have hDl : D < W.heap.size := (Array.getElem?_eq_some_iff.1 hK).1
    have hfin : Hid ((∀ p ∈ L, InR p) ∧ textL L = s) := ⟨hp.2, all_lines hxs hp.1⟩
    have q0 := hI.resL
    have q1 := hI.resE
    have q0c := q0.cell
    have q1c := q1.cell
    have q0f := q0.frozen
    have q1f := q1.frozen
    clear hit hi0 x0 x1 x2 x3 hbB hxs hp
    gi_wp2_with fail
    have hK3 := ((KeepsOthers.setCell W ⟨w.heap.size, 0, none⟩ (.slice A L.length cap)).trans (KeepsOthers.setCell _ ⟨w.heap.size + 1, 0, none⟩ (.int .i64 0))).same D _ hK rfl
    have Q0 : Boxed ((W.setCell ⟨w.heap.size, 0, none⟩ (.slice A L.length cap)).setCell ⟨w.heap.size + 1, 0, none⟩ (.int .i64 0)) w.heap.size 22 (.slice A L.length cap) := (q0.set _).other (by omega) _
    have Q1 : Boxed ((W.setCell ⟨w.heap.size, 0, none⟩ (.slice A L.length cap)).setCell ⟨w.heap.size + 1, 0, none⟩ (.int .i64 0)) (w.heap.size + 1) 30 (.int .i64 0) := (q1.other (by omega) _).set _
    have hBf : Below w.heap.size w ((W.setCell ⟨w.heap.size, 0, none⟩ (.slice A L.length cap)).setCell ⟨w.heap.size + 1, 0, none⟩ (.int .i64 0)) := ((hI.below).setCell (p := ⟨w.heap.size, 0, none⟩) (Nat.le_refl _) _).setCell (p := ⟨w.heap.size + 1, 0, none⟩) (by show w.heap.size ≤ w.heap.size + 1; omega) _
    have hslF : SlY (((W.setCell ⟨w.heap.size, 0, none⟩ (.slice A L.length cap)).setCell ⟨w.heap.size + 1, 0, none⟩ (.int .i64 0)).putObj D (.deferred none)) A L := by
      rcases hsl with h | ⟨h0, b, off, rfl, hb, hr⟩
      · exact .inl h
      · have hbn : w.heap.size + 4 ≤ b := by
          have := hI.own.lt b rfl
          exact this.1
        have hbD : b ≠ D := by
          intro e
          subst e
          have h := (hr 0 h0).1
          simp [World.cell?, hK] at h
        refine .inr ⟨h0, b, off, rfl, by simp; omega, fun k hk => ?_⟩
        have same : ∀ j, (((W.setCell ⟨w.heap.size, 0, none⟩ (.slice (some ⟨b, off, none⟩) L.length cap)).setCell ⟨w.heap.size + 1, 0, none⟩ (.int .i64 0)).putObj D (.deferred none)).cell? ⟨b, j, none⟩ = W.cell? ⟨b, j, none⟩ := fun j =>
          World.cell?_of_block ((World.putObj_heap_other hbD).trans ((Below.heap_setCell _ _ _ _ (by show b ≠ w.heap.size + 1; omega)).trans (Below.heap_setCell _ _ _ _ (by show b ≠ w.heap.size; omega))))
        obtain ⟨e0, e1, e2, e3, e4, e5, e6⟩ := hr k hk
        exact ⟨(same _).trans e0, (same _).trans e1, (same _).trans e2, (same _).trans e3, (same _).trans e4, (same _).trans e5, (same _).trans e6⟩
    refine ⟨by simp, .inl ⟨_, _, rfl, run_takeDeferred hK3, ?_⟩⟩
    have kL := cell_kept (Q0).cell (grownBy_putObj' _ D (.deferred none)) (fun r e => by cases e; exact ⟨_, hK3, rfl⟩)
    have kE := cell_kept (Q1).cell (grownBy_putObj' _ D (.deferred none)) (fun r e => by cases e; exact ⟨_, hK3, rfl⟩)
    refine ⟨.tuple #[.slice A L.length cap, .int .i64 0], ?_, .inl ⟨A, cap, L, rfl, hslF, hfin.out.1, hfin.out.2, hl65⟩, (hBf).grown (grownBy_putObj' _ D (.deferred none)) (by simp; omega) (fun k e => by cases e; omega)⟩
    simp [results, Tryz.f7, go_sem, kL, kE]
  case stop =>
    rintro D c pre W hD hpre ⟨rfl, hbad, hX⟩ hK
    have hno : ∀ l, (∀ p ∈ l, InR p) → textL l ≠ s := fun l hc ht => no_bad hpre hbad hc ht
    clear hit hi0 x0 x1 x2 x3 hbB hbad hpre
    gi_wp2_with fail
    refine ⟨by simp, .inl ⟨_, _, rfl, run_takeDeferred hK, ?_⟩⟩
    have kL := cell_kept (hX.resL).cell (grownBy_putObj' _ D (.deferred none)) (fun r e => by cases e; exact ⟨_, hK, rfl⟩)
    have kE := cell_kept (hX.resE).cell (grownBy_putObj' _ D (.deferred none)) (fun r e => by cases e; exact ⟨_, hK, rfl⟩)
    refine ⟨.tuple #[.slice none 0 0, .int .i64 3], ?_, .inr ⟨rfl, hno⟩, (hX.below).grown (grownBy_putObj' _ D (.deferred none)) (by have := hX.big; omega) (fun k e => by cases e; omega)⟩
    simp [results, Tryz.f7, go_sem, kL, kE]
theorem decodeC (s : List UInt8) (hs : s.length ≤ 5000) (w : World) (he : Env w) :
    Calls Tryz.prog 7 #[.string (bs s)] w fun e w' => DecR s e w' ∧ Below w.heap.size w w' := callsIn_wide.1 (decodeIn s hs w he)
end Go.Proofs.YtmbchdfgckmpoaaGreatDoor
