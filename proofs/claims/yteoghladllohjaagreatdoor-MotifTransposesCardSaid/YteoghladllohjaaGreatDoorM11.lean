/- motif.Parse: what the loop keeps. -/
import Derived.Test.YteoghladllohjaaGreatDoorM10
namespace Go.Proofs.YteoghladllohjaaGreatDoor
open Go.RowKit Go.Shelf

def cellsT (l : List Tone) : List Value := l.flatMap encT
theorem cellsT_snoc (l : List Tone) (t : Tone) : cellsT (l ++ [t]) = cellsT l ++ encT t := by simp [cellsT]
theorem cellsT_len (l : List Tone) : (cellsT l).length = l.length * 5 := by
  induction l with
  | nil => rfl
  | cons x l ih => simp [cellsT, encT] at *; omega
theorem cellsT_get : ∀ (l : List Tone) (k j : Nat), k < l.length → j < 5 → (cellsT l)[k * 5 + j]? = (encT (nth l k))[j]?
  | x :: l, 0, j, _, hj => by
    have : cellsT (x :: l) = encT x ++ cellsT l := rfl
    rw [this, List.getElem?_append_left (by simp [encT]; omega)]
    simp [nth]
  | x :: l, k + 1, j, hk, hj => by
    have : cellsT (x :: l) = encT x ++ cellsT l := rfl
    rw [this, List.getElem?_append_right (by simp [encT]; omega)]
    have e : (k + 1) * 5 + j - (encT x).length = k * 5 + j := by simp [encT]; omega
    rw [e, cellsT_get l k j (by simpa using hk) hj]
    rfl
theorem info40 : (Tryz.prog.info? 35).map (fun i => (i.zero, i.size, i.bytes)) = some (some (.agg #[.int .i64 0, .int .i64 0, .int .i64 0, .int .i64 0, .bool false]), 5, 40) := by kernel_rfl
/-- An own row is a slice of these tones. -/
theorem ownT_slice {w : World} {base : Nat} {v : Value} {l : List Tone} (h : w.ownsRow base 35 5 v l.length (cellsT l)) : ∃ A cap, v = .slice A l.length cap ∧ SlT w A l := by
  by_cases h0 : 0 < l.length
  · obtain ⟨g, cap, rfl, _, _⟩ := h.form h0
    have hl := h.lt g rfl
    refine ⟨_, _, rfl, .inr ⟨h0, g, 0, rfl, hl.2, fun k hk => ?_⟩⟩
    have hc := fun j (hj : j < 5) => h.cellAt (k * 5 + j) (by omega)
    have hg := fun j (hj : j < 5) => cellsT_get l k j hk hj
    rw [Nat.zero_add]
    exact ⟨by rw [show k * 5 = k * 5 + 0 by omega, hc 0 (by omega), hg 0 (by omega)]; rfl, by rw [hc 1 (by omega), hg 1 (by omega)]; rfl, by rw [hc 2 (by omega), hg 2 (by omega)]; rfl, by rw [hc 3 (by omega), hg 3 (by omega)]; rfl, by rw [hc 4 (by omega), hg 4 (by omega)]; rfl⟩
  · obtain rfl : l = [] := List.eq_nil_of_length_eq_zero (by omega)
    rcases h.2 with ⟨rfl, _⟩ | ⟨g, cap, cur, rfl, _⟩
    · exact ⟨_, _, rfl, .inl rfl⟩
    · exact ⟨_, _, rfl, .inl rfl⟩

/-- What holds between two rounds: out's variable, its row, the two results. -/
structure PI (n : Nat) (w : World) (L : List Tone) (v : Value) (V : World) : Prop where
  out : Boxed V (n + 2) 22 v
  own : V.ownsRow (n + 6) 35 5 v L.length (cellsT L)
  resL : Boxed V n 22 (.slice none 0 0)
  resE : Boxed V (n + 1) 28 (.int .i64 0)
  below : Below n w V
  big : n + 6 ≤ V.heap.size
def IP (n : Nat) (w : World) (pre : List Part) (V : World) : Prop := ∃ L v, pre.map (fun x => parseT x.1) = L.map some ∧ PI n w L v V ∧ L.length ≤ 65
def Bad (pre : List Part) : Prop := (∃ x ∈ pre, parseT x.1 = none) ∨ 66 ≤ pre.length
structure XI (n : Nat) (w : World) (V : World) : Prop where
  resL : Boxed V n 22 (.slice none 0 0)
  resE : Boxed V (n + 1) 28 (.int .i64 13)
  below : Below n w V
  big : n + 6 ≤ V.heap.size
def IX (n : Nat) (w : World) (c : Code) (pre : List Part) (V : World) : Prop := c = .ret ∧ Bad pre ∧ XI n w V

theorem PI.step {n : Nat} {w : World} {L : List Tone} {v : Value} {A B : World} {row : Option Nat} (h : PI n w L v A) (hg : A.grownBy B row) (hr : ∀ r, row = some r → n + 3 ≤ r) (hv : v.ownBlock = none ∨ v.ownBlock ≠ row) : PI n w L v B := by
  have ne : ∀ k, k < n + 3 → some k ≠ row := fun k hk e => by have := hr k e.symm; omega
  exact ⟨h.out.kept hg (ne _ (by omega)), h.own.kept hg hv, h.resL.kept hg (ne _ (by omega)), h.resE.kept hg (ne _ (by omega)), h.below.grown hg (by have := h.big; omega) (fun k e => by have := hr k e; omega), Nat.le_trans h.big hg.size⟩
theorem XI.step {n : Nat} {w : World} {A B : World} {row : Option Nat} (h : XI n w A) (hg : A.grownBy B row) (hr : ∀ r, row = some r → n + 3 ≤ r) : XI n w B := by
  have ne : ∀ k, k < n + 3 → some k ≠ row := fun k hk e => by have := hr k e.symm; omega
  exact ⟨h.resL.kept hg (ne _ (by omega)), h.resE.kept hg (ne _ (by omega)), h.below.grown hg (by have := h.big; omega) (fun k e => by have := hr k e; omega), Nat.le_trans h.big hg.size⟩
theorem ownBlock_far {w : World} {base : Nat} {e : TypeId} {size : Nat} {v : Value} {k : Nat} {xs : List Value} (h : w.ownsRow base e size v k xs) {r : Nat} (hr : ∀ cs t fz, w.heap[r]? ≠ some (.cells cs t fz)) : v.ownBlock = none ∨ v.ownBlock ≠ some r := by
  rcases h.2 with ⟨rfl, _⟩ | ⟨g, cap, cur, rfl, _, hg, _⟩
  · exact .inl rfl
  · refine .inr fun e => ?_
    have e : g = r := Option.some.inj e
    subst e
    exact hr _ _ _ hg
theorem ip_from (n : Nat) (w : World) : OwnFrom (n + 6) (IP n w) := by
  rintro pre A B row ⟨L, v, h1, h2, h3⟩ hg hr
  refine ⟨L, v, h1, h2.step hg (fun r e => by have := (hr r e).1; omega) ?_, h3⟩
  cases row with
  | none =>
    cases hb : v.ownBlock with
    | none => exact .inl rfl
    | some g => exact .inr (by simp)
  | some r =>
    obtain ⟨_, o, ho, hc⟩ := hr r rfl
    exact ownBlock_far h2.own fun cs t fz e => by rw [ho] at e; injection e with e; rw [e] at hc; cases hc
theorem ix_from (n : Nat) (w : World) (c : Code) : OwnFrom (n + 6) (IX n w c) := by
  rintro pre A B row ⟨h1, h2, h3⟩ hg hr
  exact ⟨h1, h2, h3.step hg (fun r e => by have := (hr r e).1; omega)⟩
theorem ip_lets (n : Nat) (w : World) : Lets (n + 3) (IP n w) := by
  rintro pre A B ⟨L, v, h1, h2, h3⟩ hg
  refine ⟨L, v, h1, h2.step hg (fun r e => by cases e; omega) ?_, h3⟩
  cases hb : v.ownBlock with
  | none => exact .inl rfl
  | some g =>
    refine .inr fun e => ?_
    have := (h2.own.lt g hb).1
    have e := Option.some.inj e
    omega
theorem ix_lets (n : Nat) (w : World) (c : Code) : Lets (n + 3) (IX n w c) := by
  rintro pre A B ⟨h1, h2, h3⟩ hg
  exact ⟨h1, h2, h3.step hg (fun r e => by cases e; omega)⟩
theorem keeps_below {V X : World} (h : Below V.heap.size V X) : KeepsOthers V X := ⟨h.size, fun k _ hk _ => (h.block k (Array.getElem?_eq_some_iff.1 hk).1).trans hk⟩

/-- A round that has appended a tone. -/
theorem round_on {n : Nat} {w V X Z : World} {pre : List Part} {x : Part} {L : List Tone} {v v' : Value} {t : Tone} {o : Obj} (hp : pre.map (fun x => parseT x.1) = L.map some) (hI : PI n w L v V) (hl : L.length ≤ 64) (ht : parseT x.1 = some t)
    (hB : Below V.heap.size V X) (hown : Z.ownsRow (n + 6) 35 5 v' (L.length + 1) (cellsT L ++ encT t)) (hg : (X.alloc o).grownBy Z v.ownBlock) :
    KeepsOthers V (Z.setCell ⟨n + 2, 0, none⟩ v') ∧ Kp3 (n + 3) (n + 4) (n + 5) V (Z.setCell ⟨n + 2, 0, none⟩ v') ∧ IP n w (pre ++ [x]) (Z.setCell ⟨n + 2, 0, none⟩ v') := by
  have big := hI.big
  have hX : Below V.heap.size V (X.alloc o) := hB.alloc hB.size o
  have far : ∀ k, k < n + 6 → some k ≠ v.ownBlock := fun k hk e => by have := (hI.own.lt k e.symm).1; omega
  have same : ∀ k, k < n + 6 → Z.heap[k]? = V.heap[k]? := fun k hk => (hg.block k (by have := hX.size; omega) (far k hk)).trans (hX.block k (by omega))
  have hset : ∀ k, k ≠ n + 2 → (Z.setCell ⟨n + 2, 0, none⟩ v').heap[k]? = Z.heap[k]? := fun k hk => Below.heap_setCell _ _ _ _ hk
  have outZ : Boxed Z (n + 2) 22 v := (same _ (by omega)).trans hI.out
  have hsize : n + 6 ≤ Z.heap.size := Nat.le_trans big (Nat.le_trans hX.size hg.size)
  have cellsRow : ∀ (j : Nat) (o' : Obj), v.ownBlock = some j → (X.alloc o).heap[j]? = some o' → o'.isCells = true := fun j o' e hj => by
    rcases hI.own.2 with ⟨rfl, _⟩ | ⟨g, cap, cur, rfl, _, hgb, _⟩
    · cases e
    · have e : g = j := Option.some.inj e
      subst e
      have hb := hX.block g (Array.getElem?_eq_some_iff.1 hgb).1
      rw [hb, hgb] at hj
      injection hj with hj
      rw [← hj]; rfl
  refine ⟨((keeps_below hX).trans (KeepsOthers.of_grownBy hg cellsRow)).trans (KeepsOthers.setCell _ _ _), ⟨(hset _ (by omega)).trans (same _ (by omega)), (hset _ (by omega)).trans (same _ (by omega)), (hset _ (by omega)).trans (same _ (by omega))⟩, L ++ [t], v', by rw [List.map_append, List.map_append, hp]; simp [ht], ⟨outZ.set v', ?_, ?_, ?_, ?_, ?_⟩, by simp; omega⟩
  · have e : (L ++ [t]).length = L.length + 1 := by simp
    rw [e, cellsT_snoc]
    exact hown.kept (grownBy_setCell' _ _ _) (by
      cases hb : v'.ownBlock with
      | none => exact .inl rfl
      | some g =>
        refine .inr fun e => ?_
        have := (hown.lt g hb).1
        have e := Option.some.inj e
        omega)
  · exact (hset _ (by omega)).trans ((same _ (by omega)).trans hI.resL)
  · exact (hset _ (by omega)).trans ((same _ (by omega)).trans hI.resE)
  · exact (hI.below.trans ((hX.mono (by omega)).grown hg (by have := hX.size; omega) (fun k e => by have := (hI.own.lt k e).1; omega))).setCell (p := ⟨n + 2, 0, none⟩) (by show n ≤ n + 2; omega) _
  · rw [show (Z.setCell ⟨n + 2, 0, none⟩ v').heap.size = Z.heap.size by simp]; exact hsize
/-- A round that has failed. -/
theorem round_off {n : Nat} {w V X : World} {pre : List Part} {x : Part} {L : List Tone} {v : Value} (hp : pre.map (fun x => parseT x.1) = L.map some) (hI : PI n w L v V) (hbad : parseT x.1 = none ∨ 65 ≤ L.length) (hB : Below V.heap.size V X) :
    KeepsOthers V ((X.setCell ⟨n, 0, none⟩ (.slice none 0 0)).setCell ⟨n + 1, 0, none⟩ (.int .i64 13)) ∧ IX n w .ret (pre ++ [x]) ((X.setCell ⟨n, 0, none⟩ (.slice none 0 0)).setCell ⟨n + 1, 0, none⟩ (.int .i64 13)) := by
  have big := hI.big
  have hL : Boxed X n 22 (.slice none 0 0) := (hB.block n (by omega)).trans hI.resL
  have hE : Boxed X (n + 1) 28 (.int .i64 0) := (hB.block (n + 1) (by omega)).trans hI.resE
  refine ⟨((keeps_below hB).trans (KeepsOthers.setCell _ _ _)).trans (KeepsOthers.setCell _ _ _), rfl, ?_, (hL.set (.slice none 0 0)).other (by omega) _, (hE.other (by omega) _).set _, ?_, ?_⟩
  · rcases hbad with h | h
    · exact .inl ⟨x, by simp, h⟩
    · have := congrArg List.length hp
      rw [List.length_map, List.length_map] at this
      exact .inr (by simp; omega)
  · exact ((hI.below.trans (hB.mono (by omega))).setCell (p := ⟨n, 0, none⟩) (Nat.le_refl _) _).setCell (p := ⟨n + 1, 0, none⟩) (by show n ≤ n + 1; omega) _
  · have := hB.size; simp; omega

/-! ### What the parts say of a motif with this text -/
theorem no_bad {pre : List Part} {s : List UInt8} (hpre : pre.map (·.1) <+: splitL s) (hb : Bad pre) {l : List Tone} (hc : checkL l = 0) (ht : textF l = s) : False := by
  obtain ⟨h1, h2, h3⟩ := checkL_zero hc
  have hne : l ≠ [] := by intro e; rw [e] at h1; simp at h1
  have hs := parts_text hne
  rw [ht] at hs
  rw [hs] at hpre
  rcases hb with ⟨x, hx, hn⟩ | hlen
  · have hm : x.1 ∈ l.map toneText := hpre.subset (List.mem_map.2 ⟨x, hx, rfl⟩)
    obtain ⟨t, ht1, ht2⟩ := List.mem_map.1 hm
    rw [← ht2, parseT_own (h3 t ht1)] at hn
    cases hn
  · have := hpre.length_le
    rw [List.length_map, List.length_map] at this
    omega
theorem all_parts {xs : List Part} {s : List UInt8} {L : List Tone} (hx : xs.map (·.1) = splitL s) (hp : xs.map (fun x => parseT x.1) = L.map some) {l : List Tone} (hc : checkL l = 0) (ht : textF l = s) : L = l := by
  obtain ⟨h1, _, h3⟩ := checkL_zero hc
  have hne : l ≠ [] := by intro e; rw [e] at h1; simp at h1
  have hs := parts_text hne
  rw [ht, ← hx] at hs
  have e1 : xs.map (fun x => parseT x.1) = (xs.map (·.1)).map parseT := by rw [List.map_map]; rfl
  rw [e1, hs, List.map_map] at hp
  have e2 : l.map (parseT ∘ toneText) = l.map some := List.map_congr_left fun t ht' => parseT_own (h3 t ht')
  rw [e2] at hp
  exact (List.map_inj_right (fun _ _ h => Option.some.inj h)).1 hp.symm
end Go.Proofs.YteoghladllohjaaGreatDoor
