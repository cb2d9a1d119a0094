/- The order of played notes: total, and nought for equals alone; an ascending permutation is one. -/
import Derived.Test.YtmbchdfgckmpoaaGreatB1
namespace Go.Proofs.YtmbchdfgckmpoaaGreat

def lexL : List Int → List Int → Int
  | a :: l, b :: m => if a < b then -1 else if b < a then 1 else lexL l m
  | _, _ => 0
theorem lexL_self : ∀ l, lexL l l = 0
  | [] => rfl
  | a :: l => by
    unfold lexL
    rw [if_neg (by omega), if_neg (by omega)]
    exact lexL_self l
theorem lexL_neg : ∀ l m, lexL m l = - lexL l m
  | [], [] => rfl
  | [], _ :: _ => rfl
  | _ :: _, [] => rfl
  | a :: l, b :: m => by
    unfold lexL
    by_cases h : a < b
    · rw [if_neg (show ¬ b < a by omega), if_pos h, if_pos h]; rfl
    · by_cases h2 : b < a
      · rw [if_pos h2, if_neg h, if_pos h2]
      · rw [if_neg h2, if_neg h, if_neg h, if_neg h2]
        exact lexL_neg l m
theorem lexL_eq : ∀ l m, l.length = m.length → lexL l m = 0 → l = m
  | [], [], _, _ => rfl
  | [], _ :: _, h, _ => by simp at h
  | _ :: _, [], h, _ => by simp at h
  | a :: l, b :: m, h, e => by
    unfold lexL at e
    by_cases h1 : a < b
    · rw [if_pos h1] at e; omega
    · by_cases h2 : b < a
      · rw [if_neg h1, if_pos h2] at e; omega
      · rw [if_neg h1, if_neg h2] at e
        rw [show a = b by omega, lexL_eq l m (by simpa using h) e]
theorem lexL_trans : ∀ l m k, l.length = m.length → m.length = k.length → lexL l m ≤ 0 → lexL m k ≤ 0 → lexL l k ≤ 0
  | [], [], [], _, _, _, _ => by simp [lexL]
  | [], [], _ :: _, _, h, _, _ => by simp at h
  | [], _ :: _, _, h, _, _, _ => by simp at h
  | _ :: _, [], _, h, _, _, _ => by simp at h
  | _ :: _, _ :: _, [], _, h, _, _ => by simp at h
  | a :: l, b :: m, c :: k, h1, h2, e1, e2 => by
    unfold lexL at e1 e2 ⊢
    by_cases x1 : a < b
    · by_cases x2 : b < c
      · rw [if_pos (by omega)]; omega
      · by_cases x3 : c < b
        · rw [if_neg x2, if_pos x3] at e2; omega
        · rw [if_pos (by omega)]; omega
    · by_cases y1 : b < a
      · rw [if_neg x1, if_pos y1] at e1; omega
      · rw [if_neg x1, if_neg y1] at e1
        by_cases x2 : b < c
        · rw [if_pos (by omega)]; omega
        · by_cases x3 : c < b
          · rw [if_neg x2, if_pos x3] at e2; omega
          · rw [if_neg x2, if_neg x3] at e2
            rw [if_neg (by omega), if_neg (by omega)]
            exact lexL_trans l m k (by simpa using h1) (by simpa using h2) e1 e2
def keyY (x : Ply) : List Int := [x.o, x.n, x.p, x.f, x.v, x.s, x.e]
theorem keyY_inj {x y : Ply} (h : keyY x = keyY y) : x = y := by
  obtain ⟨_, _, _, _, _, _, _⟩ := x
  obtain ⟨_, _, _, _, _, _, _⟩ := y
  simp [keyY] at h
  obtain ⟨rfl, rfl, rfl, rfl, rfl, rfl, rfl⟩ := h
  rfl
def cmpY (x y : Ply) : Int := lexL (keyY x) (keyY y)
theorem cmpY_self (x : Ply) : cmpY x x = 0 := lexL_self _
theorem cmpY_neg (x y : Ply) : cmpY y x = - cmpY x y := lexL_neg _ _
theorem cmpY_eq {x y : Ply} (h : cmpY x y = 0) : x = y := keyY_inj (lexL_eq _ _ rfl h)
theorem cmpY_trans {x y z : Ply} (h1 : cmpY x y ≤ 0) (h2 : cmpY y z ≤ 0) : cmpY x z ≤ 0 := lexL_trans (keyY x) (keyY y) (keyY z) rfl rfl h1 h2
def Asc (l : List Ply) : Prop := l.Pairwise fun x y => cmpY x y ≤ 0
theorem asc_unique : ∀ {l m : List Ply}, l.Perm m → Asc l → Asc m → l = m
  | [], m, h, _, _ => (List.nil_perm.1 h).symm ▸ rfl
  | x :: l, [], h, _, _ => by simpa using h.length_eq
  | x :: l, y :: m, h, hl, hm => by
    have hl' := List.pairwise_cons.1 hl
    have hm' := List.pairwise_cons.1 hm
    have hxy : x = y := by
      have hx : x ∈ y :: m := h.mem_iff.1 (by simp)
      have hy : y ∈ x :: l := h.mem_iff.2 (by simp)
      rcases List.mem_cons.1 hx with e | e
      · exact e
      · rcases List.mem_cons.1 hy with e2 | e2
        · exact e2.symm
        · have a := hl'.1 y e2
          have b := hm'.1 x e
          have c := cmpY_neg x y
          exact cmpY_eq (by omega)
    subst hxy
    rw [asc_unique (List.perm_cons x |>.1 h) hl'.2 hm'.2]
end Go.Proofs.YtmbchdfgckmpoaaGreat
