/- slices.Insert: there is room, in place. -/
import Derived.Test.YtacoeahipklibaaDoorB6
namespace Go.Proofs.YtacoeahipklibaaDoor
open Go.RowKit Go.Lib

set_option maxHeartbeats 4000000 in
set_option maxRecDepth 100000 in
theorem insertShift (b c i vb : Nat) (l : List Id) (x : Id) (cur : Array Value) (w : World) (hi : i < l.length) (hl : l.length ≤ 1000) (hroom : l.length + 1 ≤ c) (_hc : c ≤ 9223372036854775807) (hvb : vb ≠ b)
    (hg : w.heap[b]? = some (.cells cur 30 (0, 0))) (hcur : cur.size = c * 2) (htake : cur.toList.take (l.length * 2) = cellsI l) (hv : w.heap[vb]? = some (.cells (encId x).toArray 30 (0, 0))) :
    Calls Tryd.prog 20 #[.slice (some ⟨b, 0, none⟩) l.length c, .int .i64 i, .slice (some ⟨vb, 0, none⟩) 1 1] w fun e w' =>
      e = .returned (.slice (some ⟨b, 0, none⟩) (l.length + 1) c) ∧ w.grownBy w' (some b) ∧ ∃ cur' : Array Value, w'.heap[b]? = some (.cells cur' 30 (0, 0)) ∧ cur'.size = c * 2 ∧ cur'.toList.take ((l.length + 1) * 2) = cellsI (insAt l i x) := by
  obtain ⟨C, hC⟩ : ∃ C, C = cellsI l := ⟨_, rfl⟩
  have hCl : C.length = l.length * 2 := by rw [hC, cellsI_len]
  have hC1 : ∀ v ∈ C, v.oneCell' = true := by rw [hC]; exact cellsI_one l
  have hCi : cellsI (insAt l i x) = C.take (i * 2) ++ (encId x ++ C.drop (i * 2)) := by rw [hC]; exact cellsI_ins l i x
  rw [← hC] at htake
  have hX : ∀ j v, (encId x)[j]? = some v → w.cell? ⟨vb, j, none⟩ = some v := fun j v hj => by rw [cell_of_row w vb j _ 30 (0, 0) hv]; simpa using hj
  have hCc : ∀ j v, C[j]? = some v → w.cell? ⟨b, j, none⟩ = some v := fun j v hj => by
    rw [cell_of_row w b j cur 30 (0, 0) hg]
    have hjl : j < l.length * 2 := by rw [← hCl]; exact (List.getElem?_eq_some_iff.1 hj).1
    rw [← htake, List.getElem?_take, if_pos hjl] at hj
    simpa using hj
  rw [hCi]
  generalize hn : l.length = n at *
  clear hC
  have hz2 : ¬ ((i : Int) = (n : Int)) := by omega
  have hsv : w.shape? vb = some (30, 2) := by simp [World.shape?, hv, encId]
  have hsb : w.shape? b = some (30, c * 2) := by simp [World.shape?, hg, hcur]
  have hfv : ∀ j, w.frozen? ⟨vb, j, none⟩ = false := fun j => by simp [World.frozen?, hv]
  have hov : ∀ lb cb, (callFunc 27 #[.slice (some ⟨vb, 0, none⟩) 1 1, .slice (some ⟨b, (i + 1) * 2, none⟩) lb cb]).run Tryd.prog w = .ok (.value (.bool false)) w := fun lb cb => by
    rw [run_callFunc_extern Tryd.func27 (by kernel_rfl) (by kernel_rfl) (by kernel_rfl) (e := Extern.SlicesOverlaps.overlaps #[22, 22] #[4]) (by kernel_rfl),
      Lib.run_overlaps_apart w 22 4 30 Tryd.underlying22 2 sizeOf30 ⟨vb, 0, none⟩ ⟨b, (i + 1) * 2, none⟩ 1 1 lb cb hvb 30 30 2 (c * 2) hsv hsb (by omega) (hfv 0) (hfv 2)]
    rfl
  have hdl : (C.drop (i * 2)).length = (n - i) * 2 := by rw [List.length_drop, hCl]; omega
  have hcp1 : ∀ ty dc sc, (Builtin.copy_ #[22, 22] ty #[.slice (some ⟨b, (i + 1) * 2, none⟩) (n + 1 - (i + 1)) dc, .slice (some ⟨b, i * 2, none⟩) (n + 1 - i) sc]).run Tryd.prog w.drew =
      .ok (goInt ((n - i : Nat) : Int)) (w.drew.setRow b (lay cur.toList (i * 2 + 2) (C.drop (i * 2))).toArray) := fun ty dc sc => by
    have := run_copy2 w.drew ty b ((i + 1) * 2) (n + 1 - (i + 1)) dc ⟨b, i * 2, none⟩ (n + 1 - i) sc cur 30 (C.drop (i * 2)) hg (by rw [hdl]; simp only [Nat.min_def]; split <;> omega)
      (fun j v hj => by rw [Addr.add_lit]; exact hCc (i * 2 + j) v (by rwa [List.getElem?_drop] at hj)) (by rw [hdl, hcur]; omega) (fun v hv => hC1 v (List.mem_of_mem_drop hv))
    rw [this]
    have e1 : Nat.min (n + 1 - i) (n + 1 - (i + 1)) = n - i := by simp only [Nat.min_def]; split <;> omega
    have e2 : (i + 1) * 2 = i * 2 + 2 := by omega
    rw [e1, e2]
  obtain ⟨R1, hR1⟩ : ∃ R1 : Array Value, R1 = (lay cur.toList (i * 2 + 2) (C.drop (i * 2))).toArray := ⟨_, rfl⟩
  have hR1l : R1.size = c * 2 := by rw [hR1]; simp only [List.size_toArray]; rw [lay_len _ _ _ (by rw [hdl]; simp; omega)]; simpa using hcur
  rw [← hR1] at hcp1
  have hg1 : (w.drew.setRow b R1).heap[b]? = some (.cells R1 30 (0, 0)) := setRow_heap w.drew b cur _ 30 _ hg
  have hcp2 : ∀ ty dc, (Builtin.copy_ #[22, 22] ty #[.slice (some ⟨b, i * 2, none⟩) (n + 1 - i) dc, .slice (some ⟨vb, 0, none⟩) 1 1]).run Tryd.prog (w.drew.setRow b R1) =
      .ok (goInt ((1 : Nat) : Int)) ((w.drew.setRow b R1).setRow b (lay R1.toList (i * 2) (encId x)).toArray) := fun ty dc => by
    have := run_copy2 (w.drew.setRow b R1) ty b (i * 2) (n + 1 - i) dc ⟨vb, 0, none⟩ 1 1 R1 30 (encId x) hg1 (by simp only [Nat.min_def]; split <;> simp [encId] <;> omega)
      (fun j v hj => by
        rw [Addr.add_lit, Nat.zero_add, World.cell?_of_block (setRow_other w.drew b vb R1 hvb)]
        exact hX j v hj) (by rw [hR1l]; simp [encId]; omega) (fun v hv => by simp [encId] at hv; rcases hv with rfl | rfl <;> rfl)
    rw [this]
    have e1 : Nat.min 1 (n + 1 - i) = 1 := by simp only [Nat.min_def]; split <;> omega
    rw [e1]
  have hG : w.grownBy ((w.drew.setRow b R1).setRow b (lay R1.toList (i * 2) (encId x)).toArray) (some b) := by
    rw [setRow_setRow]
    exact ⟨rfl, rfl, rfl, (setRow_grown w.drew b _).size, fun j hj hne => setRow_other w.drew b j _ (fun e => hne (by rw [e]))⟩
  have hF : ∃ cur' : Array Value, ((w.drew.setRow b R1).setRow b (lay R1.toList (i * 2) (encId x)).toArray).heap[b]? = some (.cells cur' 30 (0, 0)) ∧ cur'.size = c * 2 ∧ cur'.toList.take ((n + 1) * 2) = C.take (i * 2) ++ (encId x ++ C.drop (i * 2)) := by
    refine ⟨_, setRow_heap _ b R1 _ 30 _ hg1, ?_, ?_⟩
    · have hq := lay_len R1.toList (i * 2) (encId x) (by show i * 2 + 2 ≤ R1.toList.length; rw [Array.length_toList, hR1l]; omega)
      have h3 : R1.toList.length = c * 2 := by rw [Array.length_toList, hR1l]
      exact hq.trans h3
    · have := shift_row (L := cur.toList) (C := C) (X := encId x) (n2 := n * 2) (i2 := i * 2) (m := c * 2) (by simpa using hcur) (by omega) htake hCl (by omega) rfl
      rw [hR1]
      have e : (n + 1) * 2 = n * 2 + 2 := by omega
      rw [e]
      simpa using this
  have mixed : Tryd.prog.follows .mixedOrders = true := by kernel_rfl
  have hw1 : IntKind.i64.wrap ((i : Int) + 1) = (i : Int) + 1 := by rw [IntKind.wrap_i64]; omega
  have hb1 : (0 : Int) ≤ (i : Int) + 1 := by omega
  have htn : ((i : Int) + 1).toNat = i + 1 := by omega
  have hb3 : (i : Int) ≤ (n : Int) := by omega
  have hb5 : (i : Int) ≤ (n : Int) + 1 := by omega
  have hb6 : (0 : Int) ≤ (n : Int) + 1 := by omega
  have hb2 : ¬ (c = i + 1) := by omega
  have hb4 : ¬ (c = i) := by omega
  generalize (w.drew.setRow b R1).setRow b (lay R1.toList (i * 2) (encId x)).toArray = W2 at *
  generalize w.drew.setRow b R1 = W1 at *
  have hF := Lib.hid hF
  have hG := Lib.hid hG
  clear hCc hX hC1 htake hCl hCi hdl hR1 hR1l hg1 hcur hv hg hsv hsb hfv
  go_enter Tryd.func20, Tryd.ntmps20
  go_wp2_with (simp only [hov])
  go_region_law_o (refine step_copy_runI rfl _ _ 22 22 rfl (.slice (some ⟨b, (i + 1) * 2, none⟩) (n + 1 - (i + 1)) (c - (i + 1))) (.slice (some ⟨b, i * 2, none⟩) (n + 1 - i) (c - i)) (by simp [Act.eval, Act.put]) (by simp [Act.eval, Act.put]) (hcp1 _ _ _) ?_)
  go_wp2_with (at_builtin; refine wpList_copy_runI _ rfl _ _ 22 22 rfl _ _ rfl rfl (hcp2 _ _) ?_)
  go_ret
  exact ⟨rfl, hG.out, hF.out⟩
end Go.Proofs.YtacoeahipklibaaDoor
