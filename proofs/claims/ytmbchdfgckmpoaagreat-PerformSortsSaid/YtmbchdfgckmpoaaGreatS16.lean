/- The law's own sorted: the elements in ascending order. -/
import Derived.Test.YtmbchdfgckmpoaaGreatS14
import Derived.Test.YtmbchdfgckmpoaaGreatS3
namespace Go.Proofs.YtmbchdfgckmpoaaGreat
open Go.RowKit Go.Sort

theorem swapL_comm {l : List Ply} {i j : Nat} (h : i ≠ j) : swapL l i j = swapL l j i := by
  unfold swapL
  exact List.set_comm _ _ h
theorem ins_of_asc {M : List Ply} {x : Ply} (h : AscR M 0 M.length) : Ins (M ++ [x]) 0 M.length M.length := by
  have e : ∀ k, k < M.length → nth (M ++ [x]) k = nth M k := fun k hk => by
    unfold nth
    rw [List.getD_eq_getElem?_getD, List.getD_eq_getElem?_getD, List.getElem?_append_left hk]
  refine ⟨fun p q h1 h2 h3 h4 h5 => ?_, fun q h1 h2 => by omega⟩
  rw [e p (by omega), e q (by omega)]
  exact h p q (by omega) h2 (by omega)
theorem take_snoc {l : List Ply} {k : Nat} (h : k < l.length) : l.take (k + 1) = l.take k ++ [nth l k] := by
  unfold nth
  rw [List.take_add_one, List.getElem?_eq_getElem h, List.getD_eq_getElem?_getD, List.getElem?_eq_getElem h]
  rfl
set_option maxHeartbeats 8000000 in
set_option maxRecDepth 20000 in
theorem sortedM (A : Option Addr) (c : Nat) (l : List Ply) (w : World) (hl : l.length ≤ 39) (h : SlY w A l) :
    Calls Tryz.prog 13 #[.slice A l.length c] w fun r w' => (∃ B d M, r = .returned (.slice B l.length d) ∧ SlY w' B M ∧ l.Perm M ∧ AscR M 0 l.length) ∧ Below w.heap.size w w' := by
  have hnl : ∃ n, n = l.length := ⟨_, rfl⟩
  obtain ⟨n, hnl⟩ := hnl
  have hnl' : n ≤ l.length := by omega
  have hall : l.take n = l := by rw [hnl]; exact List.take_length
  have hall := Lib.hid hall
  rw [← hnl] at hl ⊢
  obtain ⟨i0, hi, hi0, hi1, hi2⟩ := info_parts info30
  have hi := Lib.hid hi
  have hts := Lib.hid (fun k => take_snoc (l := l) (k := k))
  have hn2 : l.length = n := hnl.symm
  clear hnl
  go_enter Tryz.func13, Tryz.ntmps13
  go_wp2_with fail
  go_loopw [3, 4] (fun v iv wr => ∃ (i : Nat) (M : List Ply), i ≤ n ∧ iv = .int .i64 i ∧ wr.ownsRow w.heap.size 30 7 v i (cellsY M) ∧ M.length = i ∧ Aside ((l.take i).Perm M) ∧ Aside (AscR M 0 i) ∧ Below w.heap.size w wr) (fun _ iv _ => n - (intOf iv).toNat)
  case atStart => exact ⟨0, [], by omega, rfl, World.ownsRow_nil _ _ _ _, rfl, (show Aside _ from .refl _), (show Aside _ from fun i j h1 h2 h3 => by omega), Below.refl _ _⟩
  case round =>
    obtain ⟨i, M, hk, rfl, hown, hMi, hP, hA, hB⟩ := hrel
    have hz := hB.size
    have hP := hP.out
    have hA := hA.out
    by_cases hlt : i < n
    · obtain ⟨b, off, hAe, hlb, hrd⟩ := h.some (k := i) (by omega)
      cases hAe
      obtain ⟨r0, r1, r2, r3, r4, r5, r6⟩ := hrd.below hB hlb i (by omega)
      have hts' := hts.out i (by omega)
      have hin := ins_of_asc (x := nth l i) (by rw [hMi]; exact hA)
      rw [hMi] at hin
      have hpm : (l.take (i + 1)).Perm (M ++ [nth l i]) := by rw [hts']; exact hP.append_right _
      have HX := Lib.hid (And.intro hpm hin)
      clear hrd h hts' hin hpm hP hA
      generalize nth l i = x at *
      go_wp2_with (at_builtin; refine wpList_append_lies _ rfl _ _ _ rfl w.heap.size 30 i0 (.agg #[.int .i64 0, .int .i64 0, .int .i64 0, .int .i64 0, .int .i64 0, .int .i64 0, .int .i64 0]) 7 56 Tryz.underlying25 hi.out hi0 hi1 hi2 rfl (by omega) _ _ _ (by rfl) (hown.alloc _) ⟨wr.heap.size, 0, none⟩ 1 1 (encY x) (by rfl) rfl ?_ ?_ (by omega) ?_ ?_ ?_ (wr.heap.size + 1) ?_ ?_)
      · have h := heap_alloc_new wr (.cells #[.int .i64 x.o, .int .i64 x.f, .int .i64 x.n, .int .i64 x.v, .int .i64 x.p, .int .i64 x.s, .int .i64 x.e] 30)
        exact World.news_of_block h
      · intro u hu; simp [encY] at hu; rcases hu with rfl | rfl | rfl | rfl | rfl | rfl | rfl <;> rfl
      · unfold maxLen; omega
      · omega
      · simp; omega
      · simp
      · intro g cap w9 hown9 hgrow hat hlt1
        have hlo := hown.lt
        rw [← cellsY_snoc] at hown9
        have hB9 : Below w.heap.size w w9 := (hB.alloc (by omega) _).grown hgrow (by simp; omega) (fun j hj => (hlo j hj).1)
        have hgb : w.heap.size ≤ g := (hown9.lt g rfl).1
        have hown9 := Lib.hid hown9
        clear hown hgrow hat hlt1 hlo hB hz r0 r1 r2 r3 r4 r5 r6
        go_wp2_with fail
        go_loopw [5] (fun jv wq => ∃ (q : Nat) (M' : List Ply), jv = .int .i64 q ∧ q ≤ i ∧ M'.length = i + 1 ∧ Aside ((l.take (i + 1)).Perm M') ∧ Aside (Ins M' 0 q i) ∧ Aside (wq.ownsRow w.heap.size 30 7 (.slice (some ⟨g, 0, none⟩) (i + 1) cap) (i + 1) (cellsY M')) ∧ Below w.heap.size w wq) (fun jv _ => (intOf jv).toNat)
        case atStart => exact ⟨i, M ++ [x], by go_num, by omega, by simp [hMi], (show Aside _ from HX.out.1), (show Aside _ from HX.out.2), (show Aside _ from hown9.out), hB9⟩
        case round =>
          clear hown9 hB9 HX
          obtain ⟨q, M, rfl, hqi, hMn, hP, hI, hO, hB⟩ := hrel
          have hP := hP.out
          have hI := hI.out
          have hO := hO.out
          have hz := hB.size
          have hgl : g < wr.heap.size := (hO.lt g rfl).2
          by_cases hja : 0 < q
          · obtain ⟨p, rfl⟩ : ∃ p, q = p + 1 := ⟨q - 1, by omega⟩
            have hz2 : (0 : Int) < (p : Int) + 1 := by omega
            obtain ⟨x0, x1, x2, x3, x4, x5, x6⟩ := own_at hO hMn (k := p) (by omega)
            obtain ⟨y0, y1, y2, y3, y4, y5, y6⟩ := own_at hO hMn (k := p + 1) (by omega)
            have hc := compareM (nth M p) (nth M (p + 1))
            have hst := Ins.step hI (by omega) hqi (by omega)
            have hdn := Ins.done hI
            have hsw := swapL_perm (l := M) (i := p) (j := p + 1) (by omega) (by omega)
            have hng := cmpY_neg (nth M p) (nth M (p + 1))
            simp only [Nat.add_sub_cancel] at hst hdn
            rw [swapL_comm (by omega)] at hst
            have HX := Lib.hid (And.intro hP (And.intro hI (And.intro hO (And.intro hst (And.intro hdn (And.intro hsw hng))))))
            clear hP hI hO hst hdn hsw hng
            generalize hMx : nth M p = x at *
            generalize hMy : nth M (p + 1) = y at *
            have hMx' := Lib.hid hMx
            have hMy' := Lib.hid hMy
            clear hMx hMy
            have et : ((p : Int) + 1).toNat = p + 1 := by omega
            simp only [Int.natCast_add, Int.natCast_one]
            have hi1 : (0 : Int) ≤ (p : Int) + 1 := by omega
            have hi2' : (p : Int) + 1 < (i : Int) + 1 := by omega
            have hi3 : (p : Int) < (i : Int) + 1 := by omega
            have hi4 : IntKind.i64.wrap (p : Int) = (p : Int) := IntWalk.i64_in _ (by omega)
            go_upto_region 7 with (fail)
            have X0 := cell_regrown x0
            have X1 := cell_regrown x1
            have X2 := cell_regrown x2
            have X3 := cell_regrown x3
            have X4 := cell_regrown x4
            have X5 := cell_regrown x5
            have X6 := cell_regrown x6
            have Y0 := cell_regrown y0
            have Y1 := cell_regrown y1
            have Y2 := cell_regrown y2
            have Y3 := cell_regrown y3
            have Y4 := cell_regrown y4
            have Y5 := cell_regrown y5
            have Y6 := cell_regrown y6
            have k1 := fun d os => (hc (grow (redrawn wr d) os)).regrown_of
            clear x0 x1 x2 x3 x4 x5 x6 y0 y1 y2 y3 y4 y5 y6 hc
            refine wp_region_quiet_below (by kernel_rfl) (by kernel_rfl) ?_
            repeat (quiet_step ((first | (go_at_fn 10; (with_reducible exact k1 _ _)) | (go_at_call 10; (with_reducible exact k1 _ _)))))
            refine wpQuiet_nil ?_
            intro _ hw'
            obtain ⟨⟨dq, osq⟩, hw''⟩ := hw'
            subst hw''
            clear X0 X1 X2 X3 X4 X5 X6 Y0 Y1 Y2 Y3 Y4 Y5 Y6 k1
            have hbq := below_regrown wr dq osq
            obtain ⟨hP, hI, hO, hst, hdn, hsw, hng⟩ := HX.out
            have hO := OwnRow.below hO hbq
            have hB := hB.trans (hbq.mono hz)
            have hgl : g < (grow (redrawn wr dq) osq).heap.size := Nat.lt_of_lt_of_le hgl hbq.size
            have hMx := hMx'.out
            have hMy := hMy'.out
            clear HX hbq hMx' hMy' hz
            generalize grow (redrawn wr dq) osq = v at *
            by_cases hlt2 : cmpY x y > 0
            · have hlt3 : decide (cmpY x y > 0) = true := decide_eq_true hlt2
              subst hMx
              subst hMy
              have hst2 := hst (by omega)
              clear hst
              have hst := hst2
              have hsp := hP.trans hsw
              obtain ⟨x0, x1, x2, x3, x4, x5, x6⟩ := own_at hO (by omega) (k := p) (by omega)
              obtain ⟨y0, y1, y2, y3, y4, y5, y6⟩ := own_at hO (by omega) (k := p + 1) (by omega)
              have fx0 := hO.frozenAt ((p) * 7)
              have fx1 := hO.frozenAt ((p) * 7 + 1)
              have fx2 := hO.frozenAt ((p) * 7 + 2)
              have fx3 := hO.frozenAt ((p) * 7 + 3)
              have fx4 := hO.frozenAt ((p) * 7 + 4)
              have fx5 := hO.frozenAt ((p) * 7 + 5)
              have fx6 := hO.frozenAt ((p) * 7 + 6)
              have fy0 := hO.frozenAt ((p + 1) * 7)
              have fy1 := hO.frozenAt ((p + 1) * 7 + 1)
              have fy2 := hO.frozenAt ((p + 1) * 7 + 2)
              have fy3 := hO.frozenAt ((p + 1) * 7 + 3)
              have fy4 := hO.frozenAt ((p + 1) * 7 + 4)
              have fy5 := hO.frozenAt ((p + 1) * 7 + 5)
              have fy6 := hO.frozenAt ((p + 1) * 7 + 6)
              have hso := own_swap hO (p) (p + 1)
              have hsb : Below w.heap.size w (swapW v g (p) (p + 1) M) := putI_below (putI_below hB hgb _ _) hgb _ _
              unfold swapW at hso hsb
              generalize swapL M (p) (p + 1) = M2 at *
              generalize nth M (p) = x at *
              generalize nth M (p + 1) = y at *
              obtain ⟨w2, hw2⟩ : ∃ w2, w2 = ((((((((((((((v.setCell ⟨g, (p) * 7, none⟩ (.int .i64 y.o)).setCell ⟨g, (p) * 7 + 1, none⟩ (.int .i64 y.f)).setCell ⟨g, (p) * 7 + 2, none⟩ (.int .i64 y.n)).setCell ⟨g, (p) * 7 + 3, none⟩ (.int .i64 y.v)).setCell ⟨g, (p) * 7 + 4, none⟩ (.int .i64 y.p)).setCell ⟨g, (p) * 7 + 5, none⟩ (.int .i64 y.s)).setCell ⟨g, (p) * 7 + 6, none⟩ (.int .i64 y.e)).setCell ⟨g, (p + 1) * 7, none⟩ (.int .i64 x.o)).setCell ⟨g, (p + 1) * 7 + 1, none⟩ (.int .i64 x.f)).setCell ⟨g, (p + 1) * 7 + 2, none⟩ (.int .i64 x.n)).setCell ⟨g, (p + 1) * 7 + 3, none⟩ (.int .i64 x.v)).setCell ⟨g, (p + 1) * 7 + 4, none⟩ (.int .i64 x.p)).setCell ⟨g, (p + 1) * 7 + 5, none⟩ (.int .i64 x.s)).setCell ⟨g, (p + 1) * 7 + 6, none⟩ (.int .i64 x.e)) := ⟨_, rfl⟩
              have hso : w2.ownsRow w.heap.size 30 7 (.slice (some ⟨g, 0, none⟩) (i + 1) cap) (i + 1) (cellsY M2) := by rw [hw2]; exact hso
              have hsb : Below w.heap.size w w2 := by rw [hw2]; exact hsb
              have HX := Lib.hid (And.intro hst (And.intro hsp (And.intro hso hsb)))
              have hW := Lib.hid hw2
              clear hA hP hO hst hsp hso hsb hw2
              go_wp2_with fail
              go_region
              rw [← hW.out]
              clear x0 x1 x2 x3 x4 x5 x6 y0 y1 y2 y3 y4 y5 y6 fx0 fx1 fx2 fx3 fx4 fx5 fx6 fy0 fy1 fy2 fy3 fy4 fy5 fy6 hW
              go_wp2_with fail
              go_roundw
              case rel => obtain ⟨h1, h2, h3, h4⟩ := HX.out; exact ⟨p, M2, by go_num, by omega, by rw [← h2.length_eq, hP.length_eq]; exact hMn, (show Aside _ from h2), (show Aside _ from h1), (show Aside _ from h3.drew), h4.drew⟩
              case measure => simp [intOf]
            · have hlt3 : decide (cmpY x y > 0) = false := decide_eq_false hlt2
              have hdn := hdn (.inr (by omega)) (by omega) hqi
              have HX := Lib.hid (And.intro hP (And.intro hdn hO))
              clear hP hI hO hst hdn hsw hMx hMy
              go_wp2_with fail
              go_roundw
              case rel => obtain ⟨h1, h2, h3⟩ := HX.out; exact ⟨i + 1, M, by omega, by go_num, h3, hMn, (show Aside _ from h1), (show Aside _ from h2), hB⟩
              case measure => simp [intOf]; omega
          · obtain rfl : q = 0 := by omega
            have HX := Lib.hid (And.intro hP (And.intro (Ins.done hI (.inl (Nat.le_refl _)) (Nat.le_refl _) hqi) hO))
            clear hP hI hO
            go_wp2_with fail
            go_region
            go_wp2_with fail
            go_roundw
            case rel => obtain ⟨h1, h2, h3⟩ := HX.out; exact ⟨i + 1, M, by omega, by go_num, h3.drew, hMn, (show Aside _ from h1), (show Aside _ from h2), hB.drew⟩
            case measure => simp [intOf]; omega
    · obtain rfl : i = n := by omega
      have hown : wr.ownsRow w.heap.size 30 7 u3 M.length (cellsY M) := by rw [hMi]; exact hown
      have hO := Lib.hid (ownY_slice hown)
      rw [hall.out] at hP
      have HX := Lib.hid (And.intro hP hA)
      clear hown h hP hA
      go_wp2_with fail
      obtain ⟨B, d, rfl, hS⟩ := hO.out
      go_ret
      rw [hMi]
      exact ⟨⟨B, d, M, rfl, hS, HX.out.1, HX.out.2⟩, hB⟩
end Go.Proofs.YtmbchdfgckmpoaaGreat
