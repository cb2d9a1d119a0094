/- slices.Insert: no room, a new row. -/
import Derived.Test.YtacoeahipklibaaDoorB7
namespace Go.Proofs.YtacoeahipklibaaDoor
open Go.RowKit Go.Lib

theorem grow_row {L C X : List Value} {n2 i2 : Nat} (ht : L.take i2 = C.take i2) (hC : C.length = n2) (hi : i2 ≤ n2) (hX : X.length = 2) :
    (lay (lay L i2 X) (i2 + 2) (C.drop i2)).take (n2 + 2) = C.take i2 ++ (X ++ C.drop i2) := by
  have hd : (C.drop i2).length = n2 - i2 := by rw [List.length_drop, hC]
  have h1 : (C.take i2).length = i2 := by rw [List.length_take]; omega
  have e1 : lay L i2 X = (C.take i2 ++ X) ++ L.drop (i2 + 2) := by
    show L.take i2 ++ X ++ L.drop (i2 + X.length) = _
    rw [hX, ht]
  have e2 : (lay L i2 X).take (i2 + 2) = C.take i2 ++ X := by
    rw [e1]; exact List.take_left' (by simp [h1, hX])
  have e3 : lay (lay L i2 X) (i2 + 2) (C.drop i2) = (C.take i2 ++ (X ++ C.drop i2)) ++ (lay L i2 X).drop (i2 + 2 + (C.drop i2).length) := by
    show (lay L i2 X).take (i2 + 2) ++ C.drop i2 ++ _ = _
    rw [e2]; simp
  rw [e3]
  exact List.take_left' (by simp [h1, hX]; omega)

set_option maxHeartbeats 4000000 in
set_option maxRecDepth 100000 in
theorem insertGrow (b c i vb : Nat) (l : List Id) (x : Id) (cur : Array Value) (w : World) (hi : i < l.length) (hl : l.length ≤ 1000) (hnc : l.length ≤ c) (hroom : c < l.length + 1)
    (hg : w.heap[b]? = some (.cells cur 30 (0, 0))) (htake : cur.toList.take (l.length * 2) = cellsI l) (hv : w.heap[vb]? = some (.cells (encId x).toArray 30 (0, 0))) :
    Calls Tryd.prog 20 #[.slice (some ⟨b, 0, none⟩) l.length c, .int .i64 i, .slice (some ⟨vb, 0, none⟩) 1 1] w fun e w' =>
      w.grownBy w' none ∧ ∃ (G : Nat) (cur' : Array Value), e = .returned (.slice (some ⟨w.heap.size, 0, none⟩) (l.length + 1) G) ∧ l.length + 1 ≤ G ∧ G ≤ maxLen ∧ w'.heap[w.heap.size]? = some (.cells cur' 30 (0, 0)) ∧ cur'.size = G * 2 ∧ cur'.toList.take ((l.length + 1) * 2) = cellsI (insAt l i x) := by
  obtain ⟨C, hC⟩ : ∃ C, C = cellsI l := ⟨_, rfl⟩
  have hCl : C.length = l.length * 2 := by rw [hC, cellsI_len]
  have hC1 : ∀ v ∈ C, v.oneCell' = true := by rw [hC]; exact cellsI_one l
  have hCi : cellsI (insAt l i x) = C.take (i * 2) ++ (encId x ++ C.drop (i * 2)) := by rw [hC]; exact cellsI_ins l i x
  rw [← hC] at htake
  have hX : ∀ j v, (encId x)[j]? = some v → w.cell? ⟨vb, j, none⟩ = some v := fun j v hj => by rw [cell_of_row w vb j _ 30 (0, 0) hv]; simpa using hj
  have hCc : ∀ j v, C[j]? = some v → w.cell? ⟨b, j, none⟩ = some v := fun j v hj => by
    rw [cell_of_row w b j cur 30 (0, 0) hg]
    have hjl : j < l.length * 2 := by rw [← hCl]; exact (List.getElem?_eq_some_iff.1 hj).1
    rw [← htake, List.getElem?_take, if_pos hjl] at hj
    simpa using hj
  have hbw : b < w.heap.size := (Array.getElem?_eq_some_iff.1 hg).1
  have hvw : vb < w.heap.size := (Array.getElem?_eq_some_iff.1 hv).1
  rw [hCi]
  generalize hn : l.length = n at *
  clear hC hCi htake hg hv hn
  obtain ⟨i0, hi0, hz0, hzs, hzb⟩ := info_parts info30
  have hold : (Builtin.firstCells i0.size i (.slice (some ⟨b, 0, none⟩) i c)).run Tryd.prog w.drew = .ok (C.take (i * 2)).toArray w.drew := by
    rw [hzs]
    exact run_firstCells_some w.drew 2 i ⟨b, 0, none⟩ i c (C.take (i * 2)) (by rw [List.length_take, hCl]; omega) (fun j v hj => by
      rw [Addr.add_lit, Nat.zero_add]
      rw [List.getElem?_take] at hj
      split at hj
      · exact hCc j v hj
      · cases hj)
  have hkk : (n : Int) + 1 - (i : Int) = ((n + 1 - i : Nat) : Int) := by omega
  have hik : i + (n + 1 - i) = n + 1 := by omega
  obtain ⟨G, hG⟩ : ∃ G, G = grownCap w (n + 1) c 30 := ⟨_, rfl⟩
  obtain ⟨ROW, hROW⟩ : ∃ ROW : Array Value, ROW = (C.take (i * 2)).toArray ++ Builtin.zeroCells (Value.agg #[.int .i64 0, .int .i64 0]).cells (n + 1 - i) ++ Builtin.zeroCells (Value.agg #[.int .i64 0, .int .i64 0]).cells (G - (n + 1)) := ⟨_, rfl⟩
  obtain ⟨W1, hW1⟩ : ∃ W1, W1 = w.drew.alloc (.cells ROW 30) := ⟨_, rfl⟩
  have hrz : ∀ ty, (Builtin.append_ #[22, 3] ty #[.slice (some ⟨b, 0, none⟩) i c, .int .i64 ((n : Int) + 1 - (i : Int))]).run Tryd.prog w = .ok (.slice (some ⟨w.heap.size, 0, none⟩) (n + 1) G) W1 := fun ty => by
    have h := Lib.run_append_grow_zeros w 22 3 ty 30 i0 _ .i64 .i64 Tryd.underlying22 Tryd.underlying3 hi0 hz0 (some ⟨b, 0, none⟩) i c (C.take (i * 2)) hold (n + 1 - i) (by omega) (by omega) (by omega) (by omega) (by rw [hzb]; omega) (by rw [hzb, hik]; exact growslice_fits hroom (by omega))
    rw [hik, ← hG] at h
    rw [hkk, hW1, hROW]
    exact h
  have hGn : n + 1 ≤ G := by rw [hG]; exact grownCap_ge w _ _ _
  have hG63 : G ≤ maxLen := by rw [hG]; exact grownCap_le_maxLen w (n + 1) c 30 (by unfold maxLen; omega)
  have hG64 : G ≤ 9223372036854775807 := by unfold maxLen at hG63; omega
  have hRl : ROW.size = G * 2 := by
    rw [hROW]
    simp [Builtin.zeroCells, Value.cells, hCl]
    omega
  have hRt : ROW.toList.take (i * 2) = C.take (i * 2) := by
    rw [hROW, Array.toList_append, Array.toList_append, List.append_assoc]
    exact List.take_left' (by simp [hCl]; omega)
  have hz1 : W1.heap[w.heap.size]? = some (.cells ROW 30 (0, 0)) := by rw [hW1]; exact heap_alloc_new w.drew _
  have ho1 : ∀ k, k < w.heap.size → W1.heap[k]? = w.heap[k]? := fun k hk => by rw [hW1]; exact (World.grownBy_alloc w.drew _ none).block k hk (by simp)
  have hs1 : W1.heap.size = w.heap.size + 1 := by rw [hW1]; exact World.size_alloc w.drew _
  have hm1 : W1.os = w.os ∧ W1.tape = w.tape ∧ W1.output = w.output := by rw [hW1]; exact ⟨rfl, rfl, rfl⟩
  clear hW1 hROW hG hold hkk hik
  obtain ⟨R1, hR1⟩ : ∃ R1 : Array Value, R1 = (lay ROW.toList (i * 2) (encId x)).toArray := ⟨_, rfl⟩
  have hR1l : R1.size = G * 2 := by
    have hq := lay_len ROW.toList (i * 2) (encId x) (by show i * 2 + 2 ≤ ROW.toList.length; rw [Array.length_toList, hRl]; omega)
    have h3 : ROW.toList.length = G * 2 := by rw [Array.length_toList, hRl]
    rw [hR1]; exact hq.trans h3
  obtain ⟨W2, hW2⟩ : ∃ W2, W2 = W1.setRow w.heap.size R1 := ⟨_, rfl⟩
  have hcp1 : ∀ ty dc, (Builtin.copy_ #[22, 22] ty #[.slice (some ⟨w.heap.size, i * 2, none⟩) (n + 1 - i) dc, .slice (some ⟨vb, 0, none⟩) 1 1]).run Tryd.prog W1 = .ok (goInt ((1 : Nat) : Int)) W2 := fun ty dc => by
    have := run_copy2 W1 ty w.heap.size (i * 2) (n + 1 - i) dc ⟨vb, 0, none⟩ 1 1 ROW 30 (encId x) hz1 (by simp only [Nat.min_def]; split <;> simp [encId] <;> omega)
      (fun j v hj => by rw [Addr.add_lit, Nat.zero_add, World.cell?_of_block (ho1 vb hvw)]; exact hX j v hj) (by rw [hRl]; simp [encId]; omega) (fun v hv => by simp [encId] at hv; rcases hv with rfl | rfl <;> rfl)
    have e1 : Nat.min 1 (n + 1 - i) = 1 := by simp only [Nat.min_def]; split <;> omega
    rw [this, e1, hW2, hR1]
  have hz2 : W2.heap[w.heap.size]? = some (.cells R1 30 (0, 0)) := by rw [hW2]; exact setRow_heap W1 _ _ _ 30 _ hz1
  have ho2 : ∀ k, k < w.heap.size → W2.heap[k]? = w.heap[k]? := fun k hk => by rw [hW2, setRow_other W1 _ k R1 (by omega)]; exact ho1 k hk
  have hs2 : W2.heap.size = w.heap.size + 1 := by rw [hW2]; simpa [World.setRow] using hs1
  have hm2 : W2.os = w.os ∧ W2.tape = w.tape ∧ W2.output = w.output := by rw [hW2]; exact hm1
  clear hW2
  obtain ⟨R2, hR2⟩ : ∃ R2 : Array Value, R2 = (lay R1.toList (i * 2 + 2) (C.drop (i * 2))).toArray := ⟨_, rfl⟩
  obtain ⟨W3, hW3⟩ : ∃ W3, W3 = W2.drew.setRow w.heap.size R2 := ⟨_, rfl⟩
  have hdl : (C.drop (i * 2)).length = (n - i) * 2 := by rw [List.length_drop, hCl]; omega
  have hcp2 : ∀ ty dc sc, (Builtin.copy_ #[22, 22] ty #[.slice (some ⟨w.heap.size, (i + 1) * 2, none⟩) (n + 1 - (i + 1)) dc, .slice (some ⟨b, i * 2, none⟩) (n - i) sc]).run Tryd.prog W2.drew = .ok (goInt ((n - i : Nat) : Int)) W3 := fun ty dc sc => by
    have := run_copy2 W2.drew ty w.heap.size ((i + 1) * 2) (n + 1 - (i + 1)) dc ⟨b, i * 2, none⟩ (n - i) sc R1 30 (C.drop (i * 2)) hz2 (by rw [hdl]; simp only [Nat.min_def]; split <;> omega)
      (fun j v hj => by
        rw [Addr.add_lit, World.cell?_of_block (w' := W2.drew) (w := w) (ho2 b hbw)]
        exact hCc (i * 2 + j) v (by rwa [List.getElem?_drop] at hj)) (by rw [hdl, hR1l]; omega) (fun v hv => hC1 v (List.mem_of_mem_drop hv))
    have e1 : Nat.min (n - i) (n + 1 - (i + 1)) = n - i := by simp only [Nat.min_def]; split <;> omega
    have e2 : (i + 1) * 2 = i * 2 + 2 := by omega
    rw [this, e1, hW3, hR2, e2]
  have hF : w.grownBy W3 none ∧ ∃ cur' : Array Value, W3.heap[w.heap.size]? = some (.cells cur' 30 (0, 0)) ∧ cur'.size = G * 2 ∧ cur'.toList.take ((n + 1) * 2) = C.take (i * 2) ++ (encId x ++ C.drop (i * 2)) := by
    rw [hW3]
    refine ⟨⟨hm2.1, hm2.2.1, hm2.2.2, by have h5 := (setRow_grown W2.drew w.heap.size R2).size
                                         have h6 : W2.drew.heap.size = W2.heap.size := rfl
                                         omega, fun k hk _ => (setRow_other W2.drew _ k R2 (by omega)).trans (ho2 k hk)⟩, R2, setRow_heap W2.drew _ _ _ 30 _ hz2, ?_, ?_⟩
    · have hq := lay_len R1.toList (i * 2 + 2) (C.drop (i * 2)) (by rw [hdl, Array.length_toList, hR1l]; omega)
      have h3 : R1.toList.length = G * 2 := by rw [Array.length_toList, hR1l]
      rw [hR2]; exact hq.trans h3
    · have := grow_row (L := ROW.toList) (C := C) (X := encId x) (n2 := n * 2) (i2 := i * 2) hRt hCl (by omega) rfl
      have e : (n + 1) * 2 = n * 2 + 2 := by omega
      rw [e, hR2, hR1]
      simpa using this
  clear hW3 hR2 hR1 hRt hRl hR1l hz1 hz2 ho1 ho2 hs1 hs2 hm1 hm2 hCc hX hC1 hCl hdl
  have hF := Lib.hid hF
  have mixed : Tryd.prog.follows .mixedOrders = true := by kernel_rfl
  have hz3 : ¬ ((i : Int) = (n : Int)) := by omega
  have hz4 : (c : Int) < (n : Int) + 1 := by omega
  have hw1 : IntKind.i64.wrap ((i : Int) + 1) = (i : Int) + 1 := by rw [IntKind.wrap_i64]; omega
  have hb1 : (0 : Int) ≤ (i : Int) + 1 := by omega
  have htn : ((i : Int) + 1).toNat = i + 1 := by omega
  have hb3 : (i : Int) ≤ (n : Int) := by omega
  have hGi : ¬ (G = i) := by omega
  have hGim : ¬ (G = i + 1) := by omega
  have hci : ¬ (c = i) := by omega
  go_enter Tryd.func20, Tryd.ntmps20
  go_wp2_with (first
    | (at_builtin; refine Lib.wpList_append_run _ rfl _ _ _ _ rfl _ _ rfl rfl _ _ (hrz _) ?_)
    | (at_builtin; refine wpList_copy_runI _ rfl _ _ 22 22 rfl _ _ rfl rfl (hcp1 _ _) ?_))
  go_region_law_o (refine step_copy_runI rfl _ _ 22 22 rfl (.slice (some ⟨w.heap.size, (i + 1) * 2, none⟩) (n + 1 - (i + 1)) (G - (i + 1))) (.slice (some ⟨b, i * 2, none⟩) (n - i) (c - i)) (by simp [Act.eval, Act.put]) (by simp [Act.eval, Act.put]) (hcp2 _ _ _) ?_)
  go_wp2
  go_ret
  obtain ⟨h1, cur', h2, h3, h4⟩ := hF.out
  exact ⟨h1, G, cur', rfl, hGn, hG63, h2, h3, h4⟩
end Go.Proofs.YtacoeahipklibaaDoor
