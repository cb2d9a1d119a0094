/- motif.changed. -/
import Derived.Test.YteoghladllohjaaGreatDoorT11
namespace Go.Proofs.YteoghladllohjaaGreatDoor
open Go.RowKit Go.Shelf Go.Sort

set_option maxRecDepth 100000 in
set_option maxHeartbeats 8000000 in
theorem changedC (gf : Nat) (cap : Value) (gp : Pit → Pit) (ge : Pit → Int) (eg : ∀ args w, (callFunc gf args).run Tryz.prog w = .ok (.enter gf args) w) (hge : ∀ p, ge p = 0 ∨ ge p = 18) (A : Option Addr) (c : Nat) (l : List Tone) (w : World) (hc : checkL l = 0) (h : SlT w A l)
    (hcl : ∀ p W, pitchCheckF p.st p.al p.oc = 0 → Below w.heap.size w W → Calls Tryz.prog gf #[pitV p, cap] W fun r w' => r = .returned (.tuple #[pitV (gp p), .int .i64 (ge p)]) ∧ Below W.heap.size W w') :
    Calls Tryz.prog 19 #[.slice A l.length c, .func (.func gf) #[] #[cap]] w fun r w' => ChEnd gp ge l r w' ∧ Below w.heap.size w w' := by
  obtain ⟨a1, a2, a3⟩ := checkL_zero hc
  have hcn := cloneC A c l w a1 a2 h
  have hval : ∀ k, k < l.length → (nth l k).rest = false → pitchCheckF (nth l k).p.st (nth l k).p.al (nth l k).p.oc = 0 := fun k hk => (toneErr_zero (a3 _ (nth_mem hk))).2.2.2
  have hstep := fun k => chErr_drop (ge := ge) (l := l) (k := k)
  have hend := fun k => chErr_end (ge := ge) l (k := k)
  have hor := chErr_or hge l
  have hnl : ∃ n, n = l.length := ⟨_, rfl⟩
  obtain ⟨n, hnl⟩ := hnl
  have hnl' : n ≤ l.length := by omega
  have hnl2 : l.length ≤ n := by omega
  rw [← hnl] at hcn a1 a2 ⊢
  have hnlH := Lib.hid hnl
  clear hnl hc a3 h
  go_enter Tryz.func19, Tryz.ntmps19
  go_wp2_with fail
  refine hcn.mono ?_
  rintro e w1 ⟨g, off, c', rfl, g1, g2, g3, g4, hb1⟩
  have m0 := MixC.start (gp := gp) g3
  have z1 := hb1.size
  clear g3 hcn
  go_wp2_with fail
  have B1 := hb1
  clear hb1
  go_loopw [14] (fun i wr => ∃ k : Nat, k ≤ n ∧ i = .int .i64 k ∧ Aside (chErr ge l = chErr ge (l.drop k)) ∧ MixC wr g off gp l k ∧ (∀ o, wr.frozen? ⟨g, o, none⟩ = false) ∧ Below w.heap.size w wr ∧ g < wr.heap.size) (fun i _ => n - (intOf i).toNat)
  case atStart => exact ⟨0, by omega, rfl, (show Aside (chErr ge l = chErr ge (l.drop 0)) from (rfl : chErr ge l = chErr ge l)), m0, g4, B1, g2⟩
  case round =>
    obtain ⟨k, hk, rfl, hA, hM, hF, hB, hg⟩ := hrel
    by_cases hlt : k < n
    · have hA := hA.out
      rw [hstep k (by omega)] at hA
      obtain ⟨r0, r1, r2, r3, r4⟩ := hM.at (by omega)
      have hv := hval k (by omega)
      by_cases hr : (nth l k).rest = true
      · have hsk := hM.skip hr
        have e0 : chE ge (nth l k) = 0 := by unfold chE; rw [if_pos hr]
        rw [e0, if_pos rfl] at hA
        rw [hr] at r4
        have hA' := Lib.hid hA
        have hX := Lib.hid hsk
        clear hA hsk hM hstep hend hval hv e0 hr hcl r0 r1 r2 r3
        go_wp2_with fail
        go_roundw
        case rel => exact ⟨k + 1, by omega, by go_num, (show Aside _ from hA'.out), hX.out, hF, hB, hg⟩
        case measure => simp [intOf]; omega
      · have hr : (nth l k).rest = false := by simpa using hr
        have e0 : chE ge (nth l k) = ge (nth l k).p := by unfold chE; rw [if_neg (by rw [hr]; decide)]
        rw [e0] at hA
        rw [hr] at r4
        have hcp := hcl (nth l k).p wr (hv hr) hB
        have hge' := hge (nth l k).p
        have hms := fun (W : World) (hb : Below wr.heap.size wr W) s a o (hq : gp (nth l k).p = ⟨s, a, o⟩) => (hM.below hb hg).step (by omega) hr hq
        clear hM hstep hend hval hv e0 hr hcl hge
        generalize gp (nth l k).p = q at *
        generalize ge (nth l k).p = er at *
        generalize (nth l k).p = p at *
        generalize (nth l k).len = len at *
        obtain ⟨s, a, o⟩ := p
        obtain ⟨qs, qa, qo⟩ := q
        simp only at r1 r2 r3
        rcases hge' with rfl | rfl
        · rw [if_pos rfl] at hA
          have hA' := Lib.hid hA
          have hms := Lib.hid (fun W hb => hms W hb qs qa qo rfl)
          clear hA
          go_wp2_with (go_at_fn gf; refine hcp.mono ?_; rintro e w2 ⟨rfl, hb2⟩; have hbP := hb2.alloc hb2.size (.cells #[.int .i64 qs, .int .i64 qa, .int .i64 qo] 26); have q1 : (w2.alloc (.cells #[.int .i64 qs, .int .i64 qa, .int .i64 qo] 26)).cell? ⟨g, off + k * 5 + 1, none⟩ = some (.int .i64 s) := (hbP.cell (p := ⟨g, _, none⟩) hg).trans r1; have q2 : (w2.alloc (.cells #[.int .i64 qs, .int .i64 qa, .int .i64 qo] 26)).cell? ⟨g, off + k * 5 + 1 + 1, none⟩ = some (.int .i64 a) := (hbP.cell (p := ⟨g, _, none⟩) hg).trans r2; have q3 : (w2.alloc (.cells #[.int .i64 qs, .int .i64 qa, .int .i64 qo] 26)).cell? ⟨g, off + k * 5 + 1 + 2, none⟩ = some (.int .i64 o) := (hbP.cell (p := ⟨g, _, none⟩) hg).trans r3; have z1 := (hbP.frozen (p := ⟨g, off + k * 5 + 1, none⟩) hg).trans (hF _); have z2 := (hbP.frozen (p := ⟨g, off + k * 5 + 1 + 1, none⟩) hg).trans (hF _); have z3 := (hbP.frozen (p := ⟨g, off + k * 5 + 1 + 2, none⟩) hg).trans (hF _))
          go_roundw
          case rel =>
            refine ⟨k + 1, by omega, by go_num, (show Aside _ from hA'.out), hms.out _ (hb2.alloc hb2.size _), ?_, ?_, ?_⟩
            · intro o'
              simpa using ((hb2.alloc hb2.size (.cells #[.int .i64 qs, .int .i64 qa, .int .i64 qo] 26)).frozen (p := ⟨g, o', none⟩) hg).trans (hF o')
            · exact ((((hB.trans (hb2.mono hB.size)).alloc (Nat.le_trans hB.size hb2.size) _).setCell (p := ⟨g, _, none⟩) (by show _ ≤ g; omega) _).setCell (p := ⟨g, _, none⟩) (by show _ ≤ g; omega) _).setCell (p := ⟨g, _, none⟩) (by show _ ≤ g; omega) _
            · have := hb2.size
              simp
              omega
          case measure => simp [intOf]; omega
        · rw [if_neg (by decide)] at hA
          have hA' := Lib.hid hA
          clear hA hms
          go_wp2_with (go_at_fn gf; refine hcp.mono ?_; rintro e w2 ⟨rfl, hb2⟩)
          go_ret2
          exact ⟨ChEnd.off hA'.out, by first | exact hB.trans (hb2.mono hB.size) | exact (hB.trans (hb2.mono hB.size)).alloc (by have := hb2.size; have := hB.size; omega) _⟩
    · have hA' := Lib.hid (show chErr ge l = 0 by rw [hA.out, hend k (by omega)])
      have hR := Lib.hid (hM.done (by omega))
      clear hA hstep hend hM hval hcl hge
      go_wp2_with fail
      go_ret2
      exact ⟨ChEnd.on hA'.out hnlH.out hg hR.out, hB⟩

set_option maxRecDepth 100000 in
set_option maxHeartbeats 8000000 in
theorem changeC (gf : Nat) (cap : Value) (gp : Pit → Pit) (ge : Pit → Int) (eg : ∀ args w, (callFunc gf args).run Tryz.prog w = .ok (.enter gf args) w) (hge : ∀ p, ge p = 0 ∨ ge p = 18) (A : Option Addr) (c : Nat) (l : List Tone) (w : World) (hc : checkL l = 0) (h : SlT w A l)
    (hcl : ∀ x W, (x.rest = false → pitchCheckF x.p.st x.p.al x.p.oc = 0) → Below w.heap.size w W → Calls Tryz.prog gf #[toneV x, cap] W fun r w' => r = .returned (.tuple #[toneV (chT gp x), .int .i64 (chE ge x)]) ∧ Below W.heap.size W w') :
    Calls Tryz.prog 12 #[.slice A l.length c, .func (.func gf) #[] #[cap]] w fun r w' => ChEnd gp ge l r w' ∧ Below w.heap.size w w' := by
  obtain ⟨a1, a2, a3⟩ := checkL_zero hc
  obtain ⟨b, off, rfl, hlb, hrd⟩ := h.some a1
  have hval : ∀ k, k < l.length → (nth l k).rest = false → pitchCheckF (nth l k).p.st (nth l k).p.al (nth l k).p.oc = 0 := fun k hk => (toneErr_zero (a3 _ (nth_mem hk))).2.2.2
  have hstep := fun k => chErr_drop (ge := ge) (l := l) (k := k)
  have hend := fun k => chErr_end (ge := ge) l (k := k)
  have hsn := fun k => chP_snoc (gp := gp) (l := l) (k := k)
  have hpl := fun k => chP_len (gp := gp) (l := l) (k := k)
  have hpa := fun k => chP_all (gp := gp) (l := l) (k := k)
  have hce := chE_or hge
  have hnl : ∃ n, n = l.length := ⟨_, rfl⟩
  obtain ⟨n, hnl⟩ := hnl
  have hnl' : n ≤ l.length := by omega
  have hnl2 : l.length ≤ n := by omega
  rw [← hnl] at a1 a2 ⊢
  clear hc a3 hnl h hge
  obtain ⟨i0, hi, hi0, hi1, hi2⟩ := info_parts info40
  have hi := Lib.hid hi
  go_enter Tryz.func12, Tryz.ntmps12
  go_wp2_with fail
  go_loopw [6, 7] (fun v i wr => ∃ k : Nat, k ≤ n ∧ i = .int .i64 k ∧ Aside (chErr ge l = chErr ge (l.drop k)) ∧ wr.ownsRow w.heap.size 35 5 v (chP gp l k).length (cellsT (chP gp l k)) ∧ Below w.heap.size w wr) (fun _ i _ => n - (intOf i).toNat)
  case atStart => exact ⟨0, by omega, rfl, (show Aside (chErr ge l = chErr ge (l.drop 0)) from (rfl : chErr ge l = chErr ge l)), World.ownsRow_nil _ _ _ _, Below.refl _ _⟩
  case round =>
    obtain ⟨k, hk, rfl, hA, hown, hB⟩ := hrel
    have hz := hB.size
    by_cases hlt : k < n
    · have hA := hA.out
      rw [hstep k (by omega)] at hA
      obtain ⟨r0, r1, r2, r3, r4⟩ := hrd.below hB hlb k (by omega)
      have hpk := hpl k (by omega)
      have hsk := hsn k (by omega)
      have hcx := hcl (nth l k) wr (hval k (by omega)) hB
      have e0 := hce (nth l k)
      clear hstep hend hval hrd hpl hsn hpa hcl hce
      generalize chP gp l k = P at *
      generalize chT gp (nth l k) = y at *
      generalize chE ge (nth l k) = ae at *
      generalize nth l k = x at *
      rcases e0 with rfl | rfl
      · rw [if_pos rfl] at hA
        have hA' := Lib.hid hA
        have hsk := Lib.hid hsk
        clear hA
        obtain ⟨ylen, ⟨yst, yal, yoc⟩, yrest⟩ := y
        go_wp2_with (first
          | (go_at_fn gf; refine hcx.mono ?_; rintro e w1 ⟨rfl, hb1⟩; have hown1 := OwnRow.below hown hb1; have B1 := hB.trans (hb1.mono hz); have z1 := hb1.size; clear hcx hown hb1)
          | (at_builtin; refine wpList_append_lies _ rfl _ _ _ rfl w.heap.size 35 i0 (.agg #[.int .i64 0, .int .i64 0, .int .i64 0, .int .i64 0, .bool false]) 5 40 Tryz.underlying22 hi.out hi0 hi1 hi2 rfl (by omega) _ _ _ (by rfl) ((hown1.alloc _).alloc _) ⟨w1.heap.size + 1, 0, none⟩ 1 1 (encT ⟨ylen, ⟨yst, yal, yoc⟩, yrest⟩) (by rfl) rfl ?_ ?_ (by omega) ?_ ?_ ?_ (w1.heap.size + 2) ?_ ?_))
        · have h := heap_alloc_new (w1.alloc (.cells #[.int .i64 ylen, .int .i64 yst, .int .i64 yal, .int .i64 yoc, .bool yrest] 35)) (.cells #[.int .i64 ylen, .int .i64 yst, .int .i64 yal, .int .i64 yoc, .bool yrest] 35)
          rw [World.size_alloc] at h
          exact World.news_of_block h
        · intro u hu; simp [encT] at hu; rcases hu with rfl | rfl | rfl | rfl | rfl <;> rfl
        · unfold maxLen; omega
        · omega
        · simp; omega
        · simp
        · intro g cap' w9 hown9 hgrow hat hlt1
          have hlo := hown1.lt
          go_wp2_with fail
          go_roundw
          case rel =>
            refine ⟨k + 1, by omega, by go_num, (show Aside _ from hA'.out), ?_, ((B1.alloc (by omega) _).alloc (by simp; omega) _).grown hgrow (by simp; omega) (fun j hj => (hlo j hj).1)⟩
            rw [hsk.out, cellsT_snoc, List.length_append, hpk]
            exact hown9
          case measure => simp [intOf]; omega
      · rw [if_neg (by decide)] at hA
        have hA' := Lib.hid hA
        clear hA hsk hown
        go_wp2_with (go_at_fn gf; refine hcx.mono ?_; rintro e w1 ⟨rfl, hb1⟩; have B1 := hB.trans (hb1.mono hz); have z1 := hb1.size)
        go_ret2
        exact ⟨ChEnd.off hA'.out, by first | exact B1 | exact B1.alloc (by omega) _⟩
    · have hA' := Lib.hid (show chErr ge l = 0 by rw [hA.out, hend k (by omega)])
      rw [hpa k (by omega)] at hown
      have hO := Lib.hid hown
      clear hA hstep hend hval hown hrd hsn hpl hpa hcl hce
      go_wp2_with fail
      go_ret2
      exact ⟨ChEnd.own hA'.out hO.out, hB⟩
end Go.Proofs.YteoghladllohjaaGreatDoor
