/- motif.Parse: walk. -/
import Derived.Test.YteoghladllohjaaGreatDoorM11
namespace Go.Proofs.YteoghladllohjaaGreatDoor
open Go.RowKit Go.Shelf
attribute [local go_sem] Oper.semAt_some

/-- What Parse hands back. -/
def ParseR (s : List UInt8) (e : Ending) (w' : World) : Prop :=
  (∃ A c L, e = .returned (.tuple #[.slice A L.length c, .int .i64 0]) ∧ SlT w' A L ∧ checkL L = 0 ∧ textF L = s) ∨
  (e = .returned (.tuple #[.slice none 0 0, .int .i64 13]) ∧ ∀ l, checkL l = 0 → textF l ≠ s)

theorem cut_len (x : List UInt8) : (Lib.cut x [58]).1.length ≤ x.length ∧ (Lib.cut x [58]).2.1.length ≤ x.length := by
  unfold Lib.cut
  split
  · constructor
    · rw [List.length_take]; omega
    · rw [List.length_drop]; omega
  · exact ⟨Nat.le_refl _, Nat.zero_le _⟩
theorem cutP_C (x : List UInt8) (w : World) (he : Env w) (hx : x.length ≤ 5000) : Calls Tryz.prog 36 #[.string (bs x), .string ⟨#[58]⟩] w fun e w' => e = .returned (.tuple #[.string (bs (Lib.cut x [58]).1), .string (bs (Lib.cut x [58]).2.1), .bool (Lib.cut x [58]).2.2]) ∧ Below w.heap.size w w' := by
  obtain ⟨m, hm⟩ := he.max
  have h := Tryz.strings_Cut (bs x) ⟨#[58]⟩ m w (by rw [bs_size]; omega) hm
  have e1 : (bs x).data.toList = x := by simp
  have e2 : (⟨#[58]⟩ : ByteArray).data.toList = [58] := rfl
  rw [e1, e2] at h
  exact h.mono fun _ _ ⟨h1, k, h2⟩ => ⟨h1, by subst h2; exact ⟨rfl, rfl, rfl, Nat.le_refl _, fun _ _ => rfl⟩⟩

set_option maxRecDepth 100000 in
set_option maxHeartbeats 400000 in
theorem parseIn (s : List UInt8) (hs : s.length ≤ 5000) (w : World) (he : Env w) :
    CallsIn Fence.wide 6 Tryz.prog 25 #[.string (bs s)] w fun e w' => ParseR s e w' ∧ Below w.heap.size w w' := by
  refine callsIn_of_wp_marks Tryz.func25 rfl trivial ?_ rfl
  simp only [Tryz.ntmps25, List.size_toArray, List.length_cons, List.length_nil, Nat.reduceAdd, Nat.reduceSub, Array.replicate_succ, Array.replicate_zero, List.push_toArray, List.append_toArray, List.nil_append, List.cons_append]
  gi_wp2_with (refine ⟨trivial, ?_⟩; gi_at_call 35; refine (callsIn_wide.2 (splitSeqC _ _)).mono ?_; rintro e w' ⟨rfl, rfl⟩)
  obtain ⟨W0, hW0⟩ : ∃ W0, W0 = (((((w.alloc (.cells #[.slice none 0 0] 22)).alloc (.cells #[.int .i64 0] 28)).alloc (.cells #[.slice none 0 0] 22)).alloc (.cells #[.string (bs s)] 9)).alloc (.cells #[.string ⟨#[32]⟩] 9)).alloc (.cells #[.int .i64 0] 3) := ⟨_, rfl⟩
  have hsz : W0.heap.size = w.heap.size + 6 := by rw [hW0]; simp
  have hbB : Below w.heap.size w W0 := by
    rw [hW0]
    exact ((((((Below.refl _ w).alloc (Nat.le_refl _) _).alloc (by simp) _).alloc (by simp; omega) _).alloc (by simp; omega) _).alloc (by simp; omega) _).alloc (by simp; omega) _
  have x0 : Boxed W0 w.heap.size 22 (.slice none 0 0) := by
    rw [hW0]; exact ((((((Boxed.new w 22 _).alloc _).alloc _).alloc _).alloc _).alloc _)
  have x1 : Boxed W0 (w.heap.size + 1) 28 (.int .i64 0) := by
    rw [hW0]; have h := Boxed.new (w.alloc (.cells #[.slice none 0 0] 22)) 28 (.int .i64 0); rw [World.size_alloc] at h; exact ((((h.alloc _).alloc _).alloc _).alloc _)
  have x2 : Boxed W0 (w.heap.size + 2) 22 (.slice none 0 0) := by
    rw [hW0]; have h := Boxed.new ((w.alloc (.cells #[.slice none 0 0] 22)).alloc (.cells #[.int .i64 0] 28)) 22 (.slice none 0 0); rw [World.size_alloc, World.size_alloc] at h; exact (((h.alloc _).alloc _).alloc _)
  have x3 : Boxed W0 (w.heap.size + 3) 9 (.string (bs s)) := by
    rw [hW0]; have h := Boxed.new (((w.alloc (.cells #[.slice none 0 0] 22)).alloc (.cells #[.int .i64 0] 28)).alloc (.cells #[.slice none 0 0] 22)) 9 (.string (bs s)); rw [World.size_alloc, World.size_alloc, World.size_alloc] at h; exact ((h.alloc _).alloc _)
  have x4 : Boxed W0 (w.heap.size + 4) 9 (.string ⟨#[32]⟩) := by
    rw [hW0]; have h := Boxed.new ((((w.alloc (.cells #[.slice none 0 0] 22)).alloc (.cells #[.int .i64 0] 28)).alloc (.cells #[.slice none 0 0] 22)).alloc (.cells #[.string (bs s)] 9)) 9 (.string ⟨#[32]⟩); rw [World.size_alloc, World.size_alloc, World.size_alloc, World.size_alloc] at h; exact h.alloc _
  have x5 : Boxed W0 (w.heap.size + 5) 3 (.int .i64 0) := by
    rw [hW0]; have h := Boxed.new (((((w.alloc (.cells #[.slice none 0 0] 22)).alloc (.cells #[.int .i64 0] 28)).alloc (.cells #[.slice none 0 0] 22)).alloc (.cells #[.string (bs s)] 9)).alloc (.cells #[.string ⟨#[32]⟩] 9)) 3 (.int .i64 0); rw [World.size_alloc, World.size_alloc, World.size_alloc, World.size_alloc, World.size_alloc] at h; exact h
  rw [← hW0]
  clear hW0
  have hit : ∀ W, Below W0.heap.size W0 W → Iter Fence.wide (6 - 1) Tryz.prog 62 #[.pointer (some ⟨w.heap.size + 4, 0, none⟩), .pointer (some ⟨w.heap.size + 3, 0, none⟩), .pointer (some ⟨w.heap.size + 5, 0, none⟩)] encP (Kp3 (w.heap.size + 3) (w.heap.size + 4) (w.heap.size + 5)) (fun xs => xs.map (·.1) = splitL s) (fun pre => pre.map (·.1) <+: splitL s) 6000 (w.heap.size + 3) W := fun W hW l J Jx hJ hJx hY h0 =>
    splitIn 5 (by omega) l _ _ _ (by omega) (by omega) s hs J Jx hJ hJx hY W h0 ((hW.block _ (by omega)).trans x3) ((hW.block _ (by omega)).trans x4) ((hW.block _ (by omega)).trans x5)
  have hi0 : IP w.heap.size w [] W0 := ⟨[], _, rfl, ⟨x2, World.ownsRow_nil _ _ _ _, x0, x1, hbB, by omega⟩, by simp⟩
  refine rangeBox rfl (by omega) (gf := 62) (lb := #[.pointer (some ⟨w.heap.size + 4, 0, none⟩), .pointer (some ⟨w.heap.size + 3, 0, none⟩), .pointer (some ⟨w.heap.size + 5, 0, none⟩)]) rfl trivial (enters_of Tryz.func62 (by kernel_rfl) rfl)
    (b0 := w.heap.size + 3) (by omega) hit Kp3.trans (fun W l o hl => ⟨World.putObj_heap_other (by omega), World.putObj_heap_other (by omega), World.putObj_heap_other (by omega)⟩) (fun x => rfl)
    (IP w.heap.size w) (IX w.heap.size w) (by rw [hsz]; exact ip_from _ _) (fun c => by rw [hsz]; exact ix_from _ _ c) (ip_lets _ _) (ix_lets _ _) hi0 ?a1 ?assign ?body ?done ?stop
  case assign =>
    intro l x W K hK
    simp only [encP]
    gi_wp2
    exact hK
  case body =>
    rintro l pre ⟨x, hx⟩ V ⟨L, v, hp, hI, hl65⟩ _
    have heV := he.below hI.below
    have hcut := cutP_C x V heV hx
    obtain ⟨A, cap, rfl, hsl⟩ := ownT_slice hI.own
    obtain ⟨hl1, hl2⟩ := cut_len x
    have hpt : parseT x = match Lib.atoiAll (Lib.cut x [58]).2.1 with
      | .ok n => some ⟨n, if (Lib.cut x [58]).1 = [114] then pit0 else parseP (Lib.cut x [58]).1, decide ((Lib.cut x [58]).1 = [114])⟩
      | _ => none := rfl
    have hc0 := hI.out.cell
    have big := hI.big
    clear hit hi0 x0 x1 x2 x3 x4 x5 hbB
    generalize (Lib.cut x [58]).1 = nm at *
    generalize (Lib.cut x [58]).2.1 = num at *
    generalize (Lib.cut x [58]).2.2 = fb at *
    by_cases hok : ∃ z, Lib.atoiAll num = .ok z
    · obtain ⟨z, hz⟩ := hok
      rw [hz] at hpt
      simp only at hpt
      have hz' : Lib.atoiAll (bs num).data.toList = .ok z := by simpa using hz
      clear hz
      by_cases hL : 65 ≤ L.length
      · have hfin := fun X hB => round_off (x := ⟨x, hx⟩) hp hI (.inr hL) (X := X) hB
        have d1 : decide ((64 : Int) < L.length) = true := decide_eq_true (by omega)
        clear hpt
        gi_wp2_with (first
          | (refine ⟨trivial, ?_⟩; gi_at_call 36; refine (CallsIn.inRound l (callsIn_wide.2 hcut)).mono ?_; rintro e w1 ⟨rfl, hb1⟩; have hc1 := (hb1.cell (p := ⟨w.heap.size + 2, 0, none⟩) (by show w.heap.size + 2 < _; omega)).trans hc0)
          | (refine ⟨trivial, ?_⟩; gi_at_call 37; refine (CallsIn.inRound l (callsIn_wide.2 (atoiOk (bs num) z w1 (by rw [bs_size]; omega) hz'))).mono ?_; rintro e w2 ⟨rfl, hb2⟩; have hB2 := hb1.trans (hb2.mono hb1.size); have hc2 := (hB2.cell (p := ⟨w.heap.size + 2, 0, none⟩) (by show w.heap.size + 2 < _; omega)).trans hc0; have q0 : Boxed w2 w.heap.size 22 (.slice none 0 0) := (hB2.block _ (by omega)).trans hI.resL; have q1 : Boxed w2 (w.heap.size + 1) 28 (.int .i64 0) := (hB2.block _ (by omega)).trans hI.resE; have q0c := q0.cell; have q1c := q1.cell; have q0f := q0.frozen; have q1f := q1.frozen))
        exact hfin w2 hB2
      · have d1 : decide ((64 : Int) < L.length) = false := decide_eq_false (by omega)
        obtain ⟨i0, hi, hi0, hi1, hi2⟩ := info_parts info40
        have hi := Lib.hid hi
        have hon := fun X Z v' t o ht hB hown hg => round_on (n := w.heap.size) (w := w) (V := V) (X := X) (Z := Z) (pre := pre) (x := ⟨x, hx⟩) (L := L) (v := .slice A L.length cap) (v' := v') (t := t) (o := o) hp hI (by omega) ht hB hown hg
        have hown0 := hI.own
        have hcf0 := hI.out.frozen
        by_cases hr : nm = [114]
        · rw [if_pos hr, decide_eq_true hr] at hpt
          have hrB : (nm == [114]) = true := by rw [hr]; rfl
          have hpt' := Lib.hid hpt
          clear hpt hr
          gi_wp2_with (first
            | (refine ⟨trivial, ?_⟩; gi_at_call 36; refine (CallsIn.inRound l (callsIn_wide.2 hcut)).mono ?_; rintro e w1 ⟨rfl, hb1⟩; have hc1 := (hb1.cell (p := ⟨w.heap.size + 2, 0, none⟩) (by show w.heap.size + 2 < _; omega)).trans hc0)
            | (refine ⟨trivial, ?_⟩; gi_at_call 37; refine (CallsIn.inRound l (callsIn_wide.2 (atoiOk (bs num) z w1 (by rw [bs_size]; omega) hz'))).mono ?_; rintro e w2 ⟨rfl, hb2⟩; have hB2 := hb1.trans (hb2.mono hb1.size); have hc2 := (hB2.cell (p := ⟨w.heap.size + 2, 0, none⟩) (by show w.heap.size + 2 < _; omega)).trans hc0; have hown2 := OwnRow.below hown0 hB2; have z2 := hB2.size; have hlt2 : w.heap.size + 1 + 1 < w2.heap.size := (by omega); have hne2 : w.heap.size + 1 + 1 ≠ w2.heap.size := (by omega))
            | (gi_at_builtin; refine wpListIn_append_own _ rfl _ _ 22 rfl (w.heap.size + 6) 35 i0 (.agg #[.int .i64 0, .int .i64 0, .int .i64 0, .int .i64 0, .bool false]) 5 40 Tryz.underlying22 hi.out hi0 hi1 hi2 rfl (by omega) _ _ _ (by rfl) ((hown2.alloc _).alloc _) ⟨w2.heap.size + 1, 0, none⟩ 1 1 (encT ⟨z, pit0, true⟩) (by rfl) rfl ?_ ?_ ?_ ?_ ?_ ?_))
          · have h := heap_alloc_new (w2.alloc (.cells #[.int .i64 z, .int .i64 0, .int .i64 0, .int .i64 0, .bool true] 35)) (.cells #[.int .i64 z, .int .i64 0, .int .i64 0, .int .i64 0, .bool true] 35)
            rw [World.size_alloc] at h
            exact World.news_of_block h
          · intro u hu
            simp [encT] at hu
            rcases hu with rfl | rfl | rfl | rfl | rfl <;> rfl
          · unfold maxLen; omega
          · omega
          · rw [World.size_alloc, World.size_alloc]; omega
          · intro v' Z hown' hgrow _
            obtain ⟨g', cap', rfl⟩ := ownsRow_succ hown'
            have hxx : Below V.heap.size V ((w2.alloc (.cells #[.int .i64 z, .int .i64 0, .int .i64 0, .int .i64 0, .bool true] 35)).alloc (.cells #[.int .i64 z, .int .i64 0, .int .i64 0, .int .i64 0, .bool true] 35)) := (hB2.alloc hB2.size (.cells #[.int .i64 z, .int .i64 0, .int .i64 0, .int .i64 0, .bool true] 35)).alloc (hB2.alloc hB2.size (.cells #[.int .i64 z, .int .i64 0, .int .i64 0, .int .i64 0, .bool true] 35)).size _
            have qZ : Boxed Z (w.heap.size + 2) 22 (.slice A L.length cap) := (hgrow.block _ (by have := hxx.size; omega) (fun e => by have := (hown0.lt _ e.symm).1; omega)).trans ((hxx.block _ (by omega)).trans hI.out)
            have qc := qZ.cell
            have qf := qZ.frozen
            have hend := hon (w2.alloc (.cells #[.int .i64 z, .int .i64 0, .int .i64 0, .int .i64 0, .bool true] 35)) Z _ _ _ hpt'.out (hB2.alloc hB2.size (.cells #[.int .i64 z, .int .i64 0, .int .i64 0, .int .i64 0, .bool true] 35)) hown' hgrow
            clear hon hown' hgrow qZ hxx hown2 hown0
            gi_wp2_with fail
            exact hend
        · rw [if_neg hr, decide_eq_false hr] at hpt
          have hrB : (nm == [114]) = false := by rw [beq_eq_false_iff_ne]; exact hr
          have hpt' := Lib.hid hpt
          clear hpt hr
          have hnl : nm.length ≤ 5000 := by omega
          gi_wp2_with (first
            | (refine ⟨trivial, ?_⟩; gi_at_call 36; refine (CallsIn.inRound l (callsIn_wide.2 hcut)).mono ?_; rintro e w1 ⟨rfl, hb1⟩; have hc1 := (hb1.cell (p := ⟨w.heap.size + 2, 0, none⟩) (by show w.heap.size + 2 < _; omega)).trans hc0)
            | (refine ⟨trivial, ?_⟩; gi_at_call 37; refine (CallsIn.inRound l (callsIn_wide.2 (atoiOk (bs num) z w1 (by rw [bs_size]; omega) hz'))).mono ?_; rintro e w2 ⟨rfl, hb2⟩; have hB2 := hb1.trans (hb2.mono hb1.size); have hc2 := (hB2.cell (p := ⟨w.heap.size + 2, 0, none⟩) (by show w.heap.size + 2 < _; omega)).trans hc0; have hown2 := OwnRow.below hown0 hB2; have z2 := hB2.size; have hlt2 : w.heap.size + 1 + 1 < w2.heap.size := (by omega); have hne2 : w.heap.size + 1 + 1 ≠ w2.heap.size := (by omega))
            | (refine ⟨trivial, ?_⟩; gi_at_call 38; refine (CallsIn.inRound l (callsIn_wide.2 (parseC nm (w2.alloc (.cells #[.int .i64 z, .int .i64 0, .int .i64 0, .int .i64 0, .bool false] 35)) (heV.below (hB2.alloc hB2.size _)) hnl))).mono ?_; rintro e w3 ⟨⟨pa, pb, rfl⟩, hb3⟩; have hB3 : Below V.heap.size V w3 := (hB2.alloc hB2.size _).trans (hb3.mono (by rw [World.size_alloc]; omega)); have zT : w2.heap.size < (w2.alloc (.cells #[.int .i64 z, .int .i64 0, .int .i64 0, .int .i64 0, .bool false] 35)).heap.size := (by simp); have t0 := (hb3.cell (p := ⟨w2.heap.size, 0, none⟩) zT).trans (show _ = some (.int .i64 z) by simp [go_sem]); have t1 := (hb3.cell (p := ⟨w2.heap.size, 1, none⟩) zT).trans (show _ = some (.int .i64 0) by simp [go_sem]); have t2 := (hb3.cell (p := ⟨w2.heap.size, 2, none⟩) zT).trans (show _ = some (.int .i64 0) by simp [go_sem]); have t3 := (hb3.cell (p := ⟨w2.heap.size, 3, none⟩) zT).trans (show _ = some (.int .i64 0) by simp [go_sem]); have t4 := (hb3.cell (p := ⟨w2.heap.size, 4, none⟩) zT).trans (show _ = some (.bool false) by simp [go_sem]); have g1 := (hb3.frozen (p := ⟨w2.heap.size, 1, none⟩) zT).trans (show _ = false by simp [go_sem]); have g2 := (hb3.frozen (p := ⟨w2.heap.size, 2, none⟩) zT).trans (show _ = false by simp [go_sem]); have g3 := (hb3.frozen (p := ⟨w2.heap.size, 3, none⟩) zT).trans (show _ = false by simp [go_sem]); have hc3 := (hB3.cell (p := ⟨w.heap.size + 2, 0, none⟩) (by show w.heap.size + 2 < _; omega)).trans hc0; have z3 := hB3.size; have hBX : Below V.heap.size V (((w3.setCell ⟨w2.heap.size, 1, none⟩ (.int .i64 (parseP nm).st)).setCell ⟨w2.heap.size, 2, none⟩ (.int .i64 (parseP nm).al)).setCell ⟨w2.heap.size, 3, none⟩ (.int .i64 (parseP nm).oc)) := ((hB3.setCell (p := ⟨w2.heap.size, 1, none⟩) z2 _).setCell (p := ⟨w2.heap.size, 2, none⟩) z2 _).setCell (p := ⟨w2.heap.size, 3, none⟩) z2 _; have hXs : (((w3.setCell ⟨w2.heap.size, 1, none⟩ (.int .i64 (parseP nm).st)).setCell ⟨w2.heap.size, 2, none⟩ (.int .i64 (parseP nm).al)).setCell ⟨w2.heap.size, 3, none⟩ (.int .i64 (parseP nm).oc)).heap.size = w3.heap.size := (by simp); have hownX := OwnRow.below hown0 hBX)
            | (gi_at_builtin; refine wpListIn_append_own _ rfl _ _ 22 rfl (w.heap.size + 6) 35 i0 (.agg #[.int .i64 0, .int .i64 0, .int .i64 0, .int .i64 0, .bool false]) 5 40 Tryz.underlying22 hi.out hi0 hi1 hi2 rfl (by omega) _ _ _ (by rfl) (hownX.alloc _) ⟨w3.heap.size, 0, none⟩ 1 1 (encT ⟨z, parseP nm, false⟩) (by rfl) rfl ?_ ?_ ?_ ?_ ?_ ?_))
          · have h := heap_alloc_new (((w3.setCell ⟨w2.heap.size, 1, none⟩ (.int .i64 (parseP nm).st)).setCell ⟨w2.heap.size, 2, none⟩ (.int .i64 (parseP nm).al)).setCell ⟨w2.heap.size, 3, none⟩ (.int .i64 (parseP nm).oc)) (.cells #[.int .i64 z, .int .i64 (parseP nm).st, .int .i64 (parseP nm).al, .int .i64 (parseP nm).oc, .bool false] 35)
            rw [hXs] at h
            exact World.news_of_block h
          · intro u hu
            simp [encT] at hu
            rcases hu with rfl | rfl | rfl | rfl | rfl <;> rfl
          · unfold maxLen; omega
          · omega
          · rw [World.size_alloc, hXs]; omega
          · intro v' Z hown' hgrow _
            obtain ⟨g', cap', rfl⟩ := ownsRow_succ hown'
            have hxx : Below V.heap.size V ((((w3.setCell ⟨w2.heap.size, 1, none⟩ (.int .i64 (parseP nm).st)).setCell ⟨w2.heap.size, 2, none⟩ (.int .i64 (parseP nm).al)).setCell ⟨w2.heap.size, 3, none⟩ (.int .i64 (parseP nm).oc)).alloc (.cells #[.int .i64 z, .int .i64 (parseP nm).st, .int .i64 (parseP nm).al, .int .i64 (parseP nm).oc, .bool false] 35)) := hBX.alloc hBX.size _
            have qZ : Boxed Z (w.heap.size + 2) 22 (.slice A L.length cap) := (hgrow.block _ (by have := hxx.size; omega) (fun e => by have := (hown0.lt _ e.symm).1; omega)).trans ((hxx.block _ (by omega)).trans hI.out)
            have qc := qZ.cell
            have qf := qZ.frozen
            have hend := hon (((w3.setCell ⟨w2.heap.size, 1, none⟩ (.int .i64 (parseP nm).st)).setCell ⟨w2.heap.size, 2, none⟩ (.int .i64 (parseP nm).al)).setCell ⟨w2.heap.size, 3, none⟩ (.int .i64 (parseP nm).oc)) Z _ _ _ hpt'.out hBX hown' hgrow
            clear hon hown' hgrow qZ hxx hownX hown2 hown0 hBX
            gi_wp2_with fail
            exact hend
    · have hbad : ∀ z, Lib.atoiAll (bs num).data.toList ≠ .ok z := fun z h => hok ⟨z, by simpa using h⟩
      have hnone : parseT x = none := by
        rw [hpt]
        cases h : Lib.atoiAll num with
        | ok z => exact absurd ⟨z, h⟩ hok
        | range => rfl
        | _ => rfl
      have hfin := fun X hB => round_off (x := ⟨x, hx⟩) hp hI (.inl hnone) (X := X) hB
      clear hok hpt hnone
      gi_wp2_with (first
        | (refine ⟨trivial, ?_⟩; gi_at_call 36; (with_reducible refine (CallsIn.inRound l (callsIn_wide.2 hcut)).mono ?_); rintro e w1 ⟨rfl, hb1⟩; have he1 := heV.below hb1)
        | (refine ⟨trivial, ?_⟩; gi_at_call 37; refine (CallsIn.inRound l (callsIn_wide.2 (atoiBad (bs num) w1 he1 (by rw [bs_size]; omega) hbad))).mono ?_; rintro e w2 ⟨⟨nn, gg, rfl⟩, hb2⟩; have hB2 := hb1.trans (hb2.mono hb1.size); have q0 : Boxed w2 w.heap.size 22 (.slice none 0 0) := (hB2.block _ (by omega)).trans hI.resL; have q1 : Boxed w2 (w.heap.size + 1) 28 (.int .i64 0) := (hB2.block _ (by omega)).trans hI.resE; have q0c := q0.cell; have q1c := q1.cell; have q0f := q0.frozen; have q1f := q1.frozen))
      exact hfin w2 hB2
  case done =>
    rintro D xs W hD hxs ⟨L, v, hp, hI, hl65⟩ hK
    have heV := he.below hI.below
    obtain ⟨A, cap, rfl, hsl⟩ := ownT_slice hI.own
    have hc0 := hI.out.cell
    have big := hI.big
    have hck := checkC A cap L W (by omega) hsl
    have hall := fun l hc ht => all_parts hxs hp (l := l) hc ht
    have hDl : D < W.heap.size := (Array.getElem?_eq_some_iff.1 hK).1
    clear hit hi0 x0 x1 x2 x3 x4 x5 hbB hxs hp
    by_cases hc : checkL L = 0
    · have hc' := hc
      rw [hc] at hck
      obtain ⟨l1, l2, l3⟩ := checkL_zero hc
      have htx := fun W1 hb => textP A cap L W1 (heV.below hb) l1 l2 l3 (hsl.below hb)
      by_cases ht : textF L = s
      · have dt : (textF L == s) = true := by rw [ht]; exact beq_self_eq_true s
        have hfin : Hid (checkL L = 0 ∧ textF L = s) := ⟨hc, ht⟩
        clear hc hc' ht hall
        gi_wp2_with (first
          | (refine ⟨trivial, ?_⟩; gi_at_call 18; refine (callsIn_wide.2 hck).mono ?_; rintro e w1 ⟨rfl, hb1⟩; have hc1 := (hb1.cell (p := ⟨w.heap.size + 2, 0, none⟩) (by show w.heap.size + 2 < _; omega)).trans hc0)
          | (refine ⟨trivial, ?_⟩; gi_at_call 34; refine (callsIn_wide.2 (htx w1 hb1)).mono ?_; rintro e w2 ⟨rfl, hb2⟩; have hB2 := hb1.trans (hb2.mono hb1.size); have hc2 := (hB2.cell (p := ⟨w.heap.size + 2, 0, none⟩) (by show w.heap.size + 2 < _; omega)).trans hc0; have q0 : Boxed w2 w.heap.size 22 (.slice none 0 0) := (hB2.block _ (by omega)).trans hI.resL; have q1 : Boxed w2 (w.heap.size + 1) 28 (.int .i64 0) := (hB2.block _ (by omega)).trans hI.resE; have q0c := q0.cell; have q1c := q1.cell; have q0f := q0.frozen; have q1f := q1.frozen; have hK2 := (hB2.block D hDl).trans hK; have z2 := hB2.size))
        have hK3 := ((KeepsOthers.setCell w2 ⟨w.heap.size, 0, none⟩ (.slice A L.length cap)).trans (KeepsOthers.setCell _ ⟨w.heap.size + 1, 0, none⟩ (.int .i64 0))).same D _ hK2 rfl
        have Q0 : Boxed ((w2.setCell ⟨w.heap.size, 0, none⟩ (.slice A L.length cap)).setCell ⟨w.heap.size + 1, 0, none⟩ (.int .i64 0)) w.heap.size 22 (.slice A L.length cap) := (q0.set _).other (by omega) _
        have Q1 : Boxed ((w2.setCell ⟨w.heap.size, 0, none⟩ (.slice A L.length cap)).setCell ⟨w.heap.size + 1, 0, none⟩ (.int .i64 0)) (w.heap.size + 1) 28 (.int .i64 0) := (q1.other (by omega) _).set _
        have hBf : Below w.heap.size w ((w2.setCell ⟨w.heap.size, 0, none⟩ (.slice A L.length cap)).setCell ⟨w.heap.size + 1, 0, none⟩ (.int .i64 0)) := (((hI.below.trans (hB2.mono (by omega))).setCell (p := ⟨w.heap.size, 0, none⟩) (Nat.le_refl _) _).setCell (p := ⟨w.heap.size + 1, 0, none⟩) (by show w.heap.size ≤ w.heap.size + 1; omega) _)
        have hslF : SlT (((w2.setCell ⟨w.heap.size, 0, none⟩ (.slice A L.length cap)).setCell ⟨w.heap.size + 1, 0, none⟩ (.int .i64 0)).putObj D (.deferred none)) A L := by
          rcases hsl with h | ⟨h0, b, off, rfl, hb, hr⟩
          · exact .inl h
          · have hbn : w.heap.size + 6 ≤ b := by
              have := hI.own.lt b rfl
              exact this.1
            have hbD : b ≠ D := by
              intro e
              subst e
              have h := (hr 0 h0).1
              simp [World.cell?, hK] at h
            refine .inr ⟨h0, b, off, rfl, by simp; omega, fun k hk => ?_⟩
            have same : ∀ j, (((w2.setCell ⟨w.heap.size, 0, none⟩ (.slice (some ⟨b, off, none⟩) L.length cap)).setCell ⟨w.heap.size + 1, 0, none⟩ (.int .i64 0)).putObj D (.deferred none)).cell? ⟨b, j, none⟩ = W.cell? ⟨b, j, none⟩ := fun j =>
              World.cell?_of_block (((World.putObj_heap_other hbD).trans ((Below.heap_setCell _ _ _ _ (by show b ≠ w.heap.size + 1; omega)).trans (Below.heap_setCell _ _ _ _ (by show b ≠ w.heap.size; omega)))).trans (hB2.block b hb))
            obtain ⟨e0, e1, e2, e3, e4⟩ := hr k hk
            exact ⟨(same _).trans e0, (same _).trans e1, (same _).trans e2, (same _).trans e3, (same _).trans e4⟩
        refine ⟨by simp, .inl ⟨_, _, rfl, run_takeDeferred hK3, ?_⟩⟩
        have kL := cell_kept (Q0).cell (grownBy_putObj' _ D (.deferred none)) (fun r e => by cases e; exact ⟨_, hK3, rfl⟩)
        have kE := cell_kept (Q1).cell (grownBy_putObj' _ D (.deferred none)) (fun r e => by cases e; exact ⟨_, hK3, rfl⟩)
        refine ⟨.tuple #[.slice A L.length cap, .int .i64 0], ?_, .inl ⟨A, cap, L, rfl, hslF, hfin.out⟩, (hBf).grown (grownBy_putObj' _ D (.deferred none)) (by simp; omega) (fun k e => by cases e; omega)⟩
        simp [results, Tryz.f25, go_sem, kL, kE]
      · have dt : (textF L == s) = false := by rw [beq_eq_false_iff_ne]; exact ht
        have hno : ∀ l, checkL l = 0 → textF l ≠ s := fun l h1 h2 => ht (by rw [hall l h1 h2]; exact h2)
        clear hc hc' ht hall
        gi_wp2_with (first
          | (refine ⟨trivial, ?_⟩; gi_at_call 18; refine (callsIn_wide.2 hck).mono ?_; rintro e w1 ⟨rfl, hb1⟩; have hc1 := (hb1.cell (p := ⟨w.heap.size + 2, 0, none⟩) (by show w.heap.size + 2 < _; omega)).trans hc0)
          | (refine ⟨trivial, ?_⟩; gi_at_call 34; refine (callsIn_wide.2 (htx w1 hb1)).mono ?_; rintro e w2 ⟨rfl, hb2⟩; have hB2 := hb1.trans (hb2.mono hb1.size); have q0 : Boxed w2 w.heap.size 22 (.slice none 0 0) := (hB2.block _ (by omega)).trans hI.resL; have q1 : Boxed w2 (w.heap.size + 1) 28 (.int .i64 0) := (hB2.block _ (by omega)).trans hI.resE; have q0c := q0.cell; have q1c := q1.cell; have q0f := q0.frozen; have q1f := q1.frozen; have hK2 := (hB2.block D hDl).trans hK; have z2 := hB2.size))
        have hK3 := ((KeepsOthers.setCell w2 ⟨w.heap.size, 0, none⟩ (.slice none 0 0)).trans (KeepsOthers.setCell _ ⟨w.heap.size + 1, 0, none⟩ (.int .i64 13))).same D _ hK2 rfl
        have Q0 : Boxed ((w2.setCell ⟨w.heap.size, 0, none⟩ (.slice none 0 0)).setCell ⟨w.heap.size + 1, 0, none⟩ (.int .i64 13)) w.heap.size 22 (.slice none 0 0) := (q0.set _).other (by omega) _
        have Q1 : Boxed ((w2.setCell ⟨w.heap.size, 0, none⟩ (.slice none 0 0)).setCell ⟨w.heap.size + 1, 0, none⟩ (.int .i64 13)) (w.heap.size + 1) 28 (.int .i64 13) := (q1.other (by omega) _).set _
        have hBf : Below w.heap.size w ((w2.setCell ⟨w.heap.size, 0, none⟩ (.slice none 0 0)).setCell ⟨w.heap.size + 1, 0, none⟩ (.int .i64 13)) := (((hI.below.trans (hB2.mono (by omega))).setCell (p := ⟨w.heap.size, 0, none⟩) (Nat.le_refl _) _).setCell (p := ⟨w.heap.size + 1, 0, none⟩) (by show w.heap.size ≤ w.heap.size + 1; omega) _)
        refine ⟨by simp, .inl ⟨_, _, rfl, run_takeDeferred hK3, ?_⟩⟩
        have kL := cell_kept (Q0).cell (grownBy_putObj' _ D (.deferred none)) (fun r e => by cases e; exact ⟨_, hK3, rfl⟩)
        have kE := cell_kept (Q1).cell (grownBy_putObj' _ D (.deferred none)) (fun r e => by cases e; exact ⟨_, hK3, rfl⟩)
        refine ⟨.tuple #[.slice none 0 0, .int .i64 13], ?_, .inr ⟨rfl, hno⟩, (hBf).grown (grownBy_putObj' _ D (.deferred none)) (by simp; omega) (fun k e => by cases e; omega)⟩
        simp [results, Tryz.f25, go_sem, kL, kE]
    · have hno : ∀ l, checkL l = 0 → textF l ≠ s := fun l h1 h2 => hc (by rw [hall l h1 h2]; exact h1)
      have dc : (checkL L != 0) = true := by simpa using hc
      clear hc hall
      generalize checkL L = ck at *
      gi_wp2_with (first | (refine ⟨trivial, ?_⟩; gi_at_call 18; refine (callsIn_wide.2 hck).mono ?_; rintro e w2 ⟨rfl, hB2⟩; have q0 : Boxed w2 w.heap.size 22 (.slice none 0 0) := (hB2.block _ (by omega)).trans hI.resL; have q1 : Boxed w2 (w.heap.size + 1) 28 (.int .i64 0) := (hB2.block _ (by omega)).trans hI.resE; have q0c := q0.cell; have q1c := q1.cell; have q0f := q0.frozen; have q1f := q1.frozen; have hK2 := (hB2.block D hDl).trans hK; have z2 := hB2.size) | (refine ⟨trivial, ?_⟩))
      have hK3 := ((KeepsOthers.setCell w2 ⟨w.heap.size, 0, none⟩ (.slice none 0 0)).trans (KeepsOthers.setCell _ ⟨w.heap.size + 1, 0, none⟩ (.int .i64 13))).same D _ hK2 rfl
      have Q0 : Boxed ((w2.setCell ⟨w.heap.size, 0, none⟩ (.slice none 0 0)).setCell ⟨w.heap.size + 1, 0, none⟩ (.int .i64 13)) w.heap.size 22 (.slice none 0 0) := (q0.set _).other (by omega) _
      have Q1 : Boxed ((w2.setCell ⟨w.heap.size, 0, none⟩ (.slice none 0 0)).setCell ⟨w.heap.size + 1, 0, none⟩ (.int .i64 13)) (w.heap.size + 1) 28 (.int .i64 13) := (q1.other (by omega) _).set _
      have hBf : Below w.heap.size w ((w2.setCell ⟨w.heap.size, 0, none⟩ (.slice none 0 0)).setCell ⟨w.heap.size + 1, 0, none⟩ (.int .i64 13)) := (((hI.below.trans (hB2.mono (by omega))).setCell (p := ⟨w.heap.size, 0, none⟩) (Nat.le_refl _) _).setCell (p := ⟨w.heap.size + 1, 0, none⟩) (by show w.heap.size ≤ w.heap.size + 1; omega) _)
      refine ⟨by simp, .inl ⟨_, _, rfl, run_takeDeferred hK3, ?_⟩⟩
      have kL := cell_kept (Q0).cell (grownBy_putObj' _ D (.deferred none)) (fun r e => by cases e; exact ⟨_, hK3, rfl⟩)
      have kE := cell_kept (Q1).cell (grownBy_putObj' _ D (.deferred none)) (fun r e => by cases e; exact ⟨_, hK3, rfl⟩)
      refine ⟨.tuple #[.slice none 0 0, .int .i64 13], ?_, .inr ⟨rfl, hno⟩, (hBf).grown (grownBy_putObj' _ D (.deferred none)) (by simp; omega) (fun k e => by cases e; omega)⟩
      simp [results, Tryz.f25, go_sem, kL, kE]
  case stop =>
    rintro D c pre W hD hpre ⟨rfl, hbad, hX⟩ hK
    have hno : ∀ l, checkL l = 0 → textF l ≠ s := fun l hc ht => no_bad hpre hbad hc ht
    clear hit hi0 x0 x1 x2 x3 x4 x5 hbB hbad hpre
    gi_wp2_with fail
    refine ⟨by simp, .inl ⟨_, _, rfl, run_takeDeferred hK, ?_⟩⟩
    have kL := cell_kept (hX.resL).cell (grownBy_putObj' _ D (.deferred none)) (fun r e => by cases e; exact ⟨_, hK, rfl⟩)
    have kE := cell_kept (hX.resE).cell (grownBy_putObj' _ D (.deferred none)) (fun r e => by cases e; exact ⟨_, hK, rfl⟩)
    refine ⟨.tuple #[.slice none 0 0, .int .i64 13], ?_, .inr ⟨rfl, hno⟩, (hX.below).grown (grownBy_putObj' _ D (.deferred none)) (by have := hX.big; omega) (fun k e => by cases e; omega)⟩
    simp [results, Tryz.f25, go_sem, kL, kE]
theorem parseT_C (s : List UInt8) (hs : s.length ≤ 5000) (w : World) (he : Env w) :
    Calls Tryz.prog 25 #[.string (bs s)] w fun e w' => ParseR s e w' ∧ Below w.heap.size w w' := callsIn_wide.1 (parseIn s hs w he)
end Go.Proofs.YteoghladllohjaaGreatDoor
