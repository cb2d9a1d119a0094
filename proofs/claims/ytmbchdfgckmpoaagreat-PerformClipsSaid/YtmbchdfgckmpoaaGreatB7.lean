/- The law PerformClips. -/
import Derived.Test.YtmbchdfgckmpoaaGreatB2
import Derived.Test.YtmbchdfgckmpoaaGreatB3
import Derived.Test.YtmbchdfgckmpoaaGreatB6
import Derived.OneCell
namespace Go.Proofs.YtmbchdfgckmpoaaGreat
open Go.RowKit Go.Sort

def lenK (l : List Ply) : Nat → Int
  | 0 => 0
  | k + 1 => (maxF offF l k).f
def lowK (l : List Ply) : Nat → Int
  | 0 => 0
  | k + 1 => (minF numF l k).n
def highK (l : List Ply) : Nat → Int
  | 0 => 0
  | k + 1 => (maxF numF l k).n
theorem lenK_all (l : List Ply) : lenF l = lenK l l.length := by
  unfold lenF
  cases h : l.length with
  | zero => rfl
  | succ k => rw [if_neg (by omega)]; rfl
theorem lowK_all (l : List Ply) : lowF l = lowK l l.length := by
  unfold lowF
  cases h : l.length with
  | zero => rfl
  | succ k => rw [if_neg (by omega)]; rfl
theorem highK_all (l : List Ply) : highF l = highK l l.length := by
  unfold highF
  cases h : l.length with
  | zero => rfl
  | succ k => rw [if_neg (by omega)]; rfl
theorem cmpI_pos (x y : Int) : 0 < cmpI x y ↔ y < x := by
  unfold cmpI
  by_cases h : x < y
  · rw [if_pos h]; omega
  · by_cases h2 : y < x
    · rw [if_neg h, if_pos h2]; omega
    · rw [if_neg h, if_neg h2]; omega
theorem cmpI_neg (x y : Int) : cmpI x y < 0 ↔ x < y := by
  unfold cmpI
  by_cases h : x < y
  · rw [if_pos h]; omega
  · by_cases h2 : y < x
    · rw [if_neg h, if_pos h2]; omega
    · rw [if_neg h, if_neg h2]; omega
theorem lenK_zero (l : List Ply) : lenK l 1 = (nth l 0).f := rfl
theorem lowK_zero (l : List Ply) : lowK l 1 = (nth l 0).n := rfl
theorem highK_zero (l : List Ply) : highK l 1 = (nth l 0).n := rfl
theorem lenK_hit {l : List Ply} {k : Nat} (h0 : k ≠ 0) (h : lenK l k < (nth l k).f) : lenK l (k + 1) = (nth l k).f := by
  obtain ⟨p, rfl⟩ : ∃ p, k = p + 1 := ⟨k - 1, by omega⟩
  show (if 0 < offF (nth l (p + 1)) (maxF offF l p) then nth l (p + 1) else maxF offF l p).f = _
  have h : (maxF offF l p).f < (nth l (p + 1)).f := h
  have e : 0 < offF (nth l (p + 1)) (maxF offF l p) := (cmpI_pos _ _).2 h
  rw [if_pos e]
theorem lenK_miss {l : List Ply} {k : Nat} (h0 : k ≠ 0) (h : ¬ lenK l k < (nth l k).f) : lenK l (k + 1) = lenK l k := by
  obtain ⟨p, rfl⟩ : ∃ p, k = p + 1 := ⟨k - 1, by omega⟩
  show (if 0 < offF (nth l (p + 1)) (maxF offF l p) then nth l (p + 1) else maxF offF l p).f = _
  have h : ¬ (maxF offF l p).f < (nth l (p + 1)).f := h
  have e : ¬ 0 < offF (nth l (p + 1)) (maxF offF l p) := fun c => h ((cmpI_pos _ _).1 c)
  rw [if_neg e]
  rfl
theorem highK_hit {l : List Ply} {k : Nat} (h0 : k ≠ 0) (h : highK l k < (nth l k).n) : highK l (k + 1) = (nth l k).n := by
  obtain ⟨p, rfl⟩ : ∃ p, k = p + 1 := ⟨k - 1, by omega⟩
  show (if 0 < numF (nth l (p + 1)) (maxF numF l p) then nth l (p + 1) else maxF numF l p).n = _
  have h : (maxF numF l p).n < (nth l (p + 1)).n := h
  have e : 0 < numF (nth l (p + 1)) (maxF numF l p) := (cmpI_pos _ _).2 h
  rw [if_pos e]
theorem highK_miss {l : List Ply} {k : Nat} (h0 : k ≠ 0) (h : ¬ highK l k < (nth l k).n) : highK l (k + 1) = highK l k := by
  obtain ⟨p, rfl⟩ : ∃ p, k = p + 1 := ⟨k - 1, by omega⟩
  show (if 0 < numF (nth l (p + 1)) (maxF numF l p) then nth l (p + 1) else maxF numF l p).n = _
  have h : ¬ (maxF numF l p).n < (nth l (p + 1)).n := h
  have e : ¬ 0 < numF (nth l (p + 1)) (maxF numF l p) := fun c => h ((cmpI_pos _ _).1 c)
  rw [if_neg e]
  rfl
theorem lowK_hit {l : List Ply} {k : Nat} (h0 : k ≠ 0) (h : (nth l k).n < lowK l k) : lowK l (k + 1) = (nth l k).n := by
  obtain ⟨p, rfl⟩ : ∃ p, k = p + 1 := ⟨k - 1, by omega⟩
  show (if numF (nth l (p + 1)) (minF numF l p) < 0 then nth l (p + 1) else minF numF l p).n = _
  have h : (nth l (p + 1)).n < (minF numF l p).n := h
  have e : numF (nth l (p + 1)) (minF numF l p) < 0 := (cmpI_neg _ _).2 h
  rw [if_pos e]
theorem lowK_miss {l : List Ply} {k : Nat} (h0 : k ≠ 0) (h : ¬ (nth l k).n < lowK l k) : lowK l (k + 1) = lowK l k := by
  obtain ⟨p, rfl⟩ : ∃ p, k = p + 1 := ⟨k - 1, by omega⟩
  show (if numF (nth l (p + 1)) (minF numF l p) < 0 then nth l (p + 1) else minF numF l p).n = _
  have h : ¬ (nth l (p + 1)).n < (minF numF l p).n := h
  have e : ¬ numF (nth l (p + 1)) (minF numF l p) < 0 := fun c => h ((cmpI_neg _ _).1 c)
  rw [if_neg e]
  rfl
def Apart (u v : Value) : Prop := ∀ g, u.ownBlock = some g → v.ownBlock ≠ some g

set_option maxHeartbeats 40000000 in
set_option maxRecDepth 20000 in
theorem clipsC (A : Option Addr) (c : Nat) (l : List Ply) (a b part : Int) (w : World) (hl : l.length ≤ maxLen) (h : SlY w A l) :
    Calls Tryz.prog 5 #[.slice A l.length c, .agg #[.int .i64 a, .int .i64 b], .int .i64 part] w fun r w' => r = .returned (.bool true) ∧ Below w.heap.size w w' := by
  unfold maxLen at hl
  by_cases hbig : 30 < l.length
  · generalize l.length = n at *
    have hz : (30 : Int) < (n : Int) := by omega
    go_enter Tryz.func5, Tryz.ntmps5
    go_wp2_with fail
    refine (knownC _).mono ?_
    rintro e w1 ⟨rfl, hb1⟩
    go_wp2_with fail
    refine (knownC _).mono ?_
    rintro e w2 ⟨rfl, hb2⟩
    go_wp2_with fail
    go_ret
    exact ⟨rfl, ((Below.alloc (Below.refl _ w) (Nat.le_refl _) _).trans (hb1.mono (by simp))).trans (hb2.mono (by have := hb1.size; simp at this; omega))⟩
  · have phit := fun k => partF_hit (l := l) (p := part) (k := k)
    have pmiss := fun k => partF_miss (l := l) (p := part) (k := k)
    have pln := partF_len l part
    have chit := fun k => clipF_hit (l := l) (a := a) (b := b) (k := k)
    have cmiss := fun k => clipF_miss (l := l) (a := a) (b := b) (k := k)
    have cln := clipF_len l a b
    have k1 := Lib.hid (And.intro (@lenK_hit l) (And.intro (@lenK_miss l) (And.intro (@lowK_hit l) (And.intro (@lowK_miss l) (And.intro (@highK_hit l) (@highK_miss l))))))
    have hnl : ∃ n, n = l.length := ⟨_, rfl⟩
    obtain ⟨n, hnl⟩ := hnl
    have hn30 : n ≤ 30 := by omega
    have hz : ¬ (30 : Int) < (n : Int) := by omega
    have hnl2 : n ≤ l.length := by omega
    have hl30 : l.length ≤ 30 := by omega
    have FIN := fun w' (hb : Below w.heap.size w w') => Lib.hid (And.intro (rangeC A c l w' (by omega) (h.below hb)) (And.intro (clipC A c l a b w' (by omega) (h.below hb)) (And.intro (partC A c l part w' (by omega) (h.below hb)) (lengthC A c l w' (by omega) (h.below hb)))))
    have FL := Lib.hid (And.intro (lenK_all l) (And.intro (lowK_all l) (highK_all l)))
    rw [← hnl] at FIN FL hl
    rw [← hnl]
    clear hnl hbig
    obtain ⟨i0, hi, hi0, hi1, hi2⟩ := info_parts info30
    have hi := Lib.hid hi
    go_enter Tryz.func5, Tryz.ntmps5
    go_wp2_with fail
    refine (knownC _).mono ?_
    rintro e w1 ⟨rfl, hb1⟩
    have hs1 := hb1.size
    have d0 := hb1.cell (p := ⟨w.heap.size, 0, none⟩) (by simp)
    have d1 := hb1.cell (p := ⟨w.heap.size, 1, none⟩) (by simp)
    have hB1 : Below w.heap.size w w1 := (Below.alloc (Below.refl _ w) (Nat.le_refl _) _).trans (hb1.mono (by simp))
    simp [go_sem] at d0 d1 hs1
    go_wp2_with fail
    go_region
    go_wp2_with fail
    go_loopw [9, 10, 11, 12, 13, 14] (fun u v s11 s12 s13 i wr => ∃ k : Nat, k ≤ n ∧ i = .int .i64 k ∧ s11 = .int .i64 (lenK l k) ∧ s12 = .int .i64 (lowK l k) ∧ s13 = .int .i64 (highK l k) ∧ wr.ownsRow w.heap.size 30 7 u (clipF l a b k).length (cellsY (clipF l a b k)) ∧ wr.ownsRow w.heap.size 30 7 v (partF l part k).length (cellsY (partF l part k)) ∧ Apart u v ∧ Below w.heap.size w wr) (fun _ _ _ _ _ i _ => n - (intOf i).toNat)
    case atStart => exact ⟨0, by omega, rfl, rfl, rfl, rfl, World.ownsRow_nil _ _ _ _, World.ownsRow_nil _ _ _ _, (by intro g hg; exact absurd hg (by simp [Value.ownBlock])), hB1.drew⟩
    case round =>
      obtain ⟨k, hk, rfl, rfl, rfl, rfl, hu, hv, hap, hB⟩ := hrel
      have hzr := hB.size
      by_cases hlt : k < n
      · obtain ⟨bb, off, hAe, hlb, hrd⟩ := h.some (k := k) (by omega)
        cases hAe
        obtain ⟨r0, r1, r2, r3, r4, r5, r6⟩ := hrd.below hB hlb k (by omega)
        have hpk := pln k
        have hck := cln k
        have ph := Lib.hid (phit k (by omega))
        have pm := Lib.hid (pmiss k (by omega))
        have ch := Lib.hid (chit k (by omega))
        have cm := Lib.hid (cmiss k (by omega))
        have k1 := Lib.hid (And.intro (@lenK_zero l) (And.intro (@lowK_zero l) (And.intro (@highK_zero l) k1.out)))
        clear phit pmiss pln chit cmiss cln hrd h FIN FL d0 d1
        have kz : k = 0 → lenK l (k + 1) = (nth l k).f ∧ lowK l (k + 1) = (nth l k).n ∧ highK l (k + 1) = (nth l k).n := by rintro rfl; exact ⟨rfl, rfl, rfl⟩
        have la : k ≠ 0 → lenK l k < (nth l k).f → lenK l (k + 1) = (nth l k).f := lenK_hit
        have lb : k ≠ 0 → ¬ lenK l k < (nth l k).f → lenK l (k + 1) = lenK l k := lenK_miss
        have oa : k ≠ 0 → (nth l k).n < lowK l k → lowK l (k + 1) = (nth l k).n := lowK_hit
        have ob : k ≠ 0 → ¬ (nth l k).n < lowK l k → lowK l (k + 1) = lowK l k := lowK_miss
        have ha : k ≠ 0 → highK l k < (nth l k).n → highK l (k + 1) = (nth l k).n := highK_hit
        have hb : k ≠ 0 → ¬ highK l k < (nth l k).n → highK l (k + 1) = highK l k := highK_miss
        clear k1
        generalize clipF l a b k = U at *
        generalize partF l part k = V at *
        generalize lenK l k = L at *
        generalize lowK l k = Lo at *
        generalize highK l k = Hi at *
        generalize nth l k = x at *
        have KK := Lib.hid (And.intro kz (And.intro la (And.intro lb (And.intro oa (And.intro ob (And.intro ha hb))))))
        clear kz la lb oa ob ha hb
        go_upto_if 43 with (fail)
        go_cut [10] (fun v' wc => wc.ownsRow w.heap.size 30 7 v' (partF l part (k + 1)).length (cellsY (partF l part (k + 1))) ∧ wc.ownsRow w.heap.size 30 7 u9 U.length (cellsY U) ∧ Apart u9 v' ∧ u9.ownBlock ≠ some wr.heap.size ∧ v'.ownBlock ≠ some wr.heap.size ∧ AtY wc wr.heap.size 0 x ∧ (∀ o, wc.frozen? ⟨wr.heap.size, o, none⟩ = false) ∧ Below w.heap.size w wc ∧ wr.heap.size < wc.heap.size)
        case first =>
          have hxx : AtY (wr.alloc (.cells #[.int .i64 x.o, .int .i64 x.f, .int .i64 x.n, .int .i64 x.v, .int .i64 x.p, .int .i64 x.s, .int .i64 x.e] 30)) wr.heap.size 0 x := by
            refine ⟨?_, ?_, ?_, ?_, ?_, ?_, ?_⟩ <;> go_cell
          have hff : ∀ o, (wr.alloc (.cells #[.int .i64 x.o, .int .i64 x.f, .int .i64 x.n, .int .i64 x.v, .int .i64 x.p, .int .i64 x.s, .int .i64 x.e] 30)).frozen? ⟨wr.heap.size, o, none⟩ = false := by
            intro o; simp [go_sem]
          have nu : u9.ownBlock ≠ some wr.heap.size := fun e => by have := (hu.lt _ e).2; omega
          have nv : u10.ownBlock ≠ some wr.heap.size := fun e => by have := (hv.lt _ e).2; omega
          clear r0 r1 r2 r3 r4 r5 r6
          by_cases he : x.p = part
          · have e1 : (x.p == part) = true := by simpa using he
            have hs := Lib.hid (ph.out he)
            have hl1 := hv.lt
            have hl2 := hu.lt
            have HX := Lib.hid (And.intro hxx (And.intro hff (And.intro nu nv)))
            clear hxx hff nu nv ch cm KK he
            go_wp2_with (at_builtin; refine wpList_append_lies _ rfl _ _ _ rfl w.heap.size 30 i0 (.agg #[.int .i64 0, .int .i64 0, .int .i64 0, .int .i64 0, .int .i64 0, .int .i64 0, .int .i64 0]) 7 56 Tryz.underlying25 hi.out hi0 hi1 hi2 rfl (by omega) _ _ _ (by rfl) ((hv.alloc _).alloc _) ⟨wr.heap.size + 1, 0, none⟩ 1 1 (encY x) (by rfl) rfl ?_ ?_ (by omega) ?_ ?_ ?_ (wr.heap.size + 2) ?_ ?_)
            · have h := heap_alloc_new (wr.alloc (.cells #[.int .i64 x.o, .int .i64 x.f, .int .i64 x.n, .int .i64 x.v, .int .i64 x.p, .int .i64 x.s, .int .i64 x.e] 30)) (.cells #[.int .i64 x.o, .int .i64 x.f, .int .i64 x.n, .int .i64 x.v, .int .i64 x.p, .int .i64 x.s, .int .i64 x.e] 30)
              rw [World.size_alloc] at h
              exact World.news_of_block h
            · intro u hu; simp [encY] at hu; rcases hu with rfl | rfl | rfl | rfl | rfl | rfl | rfl <;> rfl
            · unfold maxLen; omega
            · omega
            · simp; omega
            · simp
            · intro g cap w9 hown9 hgrow hat hlt1
              go_wp2_with fail
              go_meet
              obtain ⟨hxx, hff, nu, nv⟩ := HX.out
              refine ⟨?_, ((hu.alloc _).alloc _).kept hgrow ?_, ?_, nu, ?_, ?_, ?_, ((hB.alloc (by omega) _).alloc (by simp; omega) _).grown hgrow (by simp; omega) (fun j hj => (hl1 j hj).1), ?_⟩
              · rw [hs.out, cellsY_snoc, List.length_append]
                exact hown9
              · cases hq : u9.ownBlock with
                | none => exact .inl rfl
                | some q => exact .inr (fun e => hap q hq e.symm)
              · intro q hq e
                have e : some g = some q := e
                cases e
                rcases hat with h1 | h1
                · exact hap _ hq h1
                · have := (hl2 _ hq).2
                  omega
              · intro e
                have e : some g = some wr.heap.size := e
                cases e
                rcases hat with h1 | h1
                · exact nv h1
                · omega
              · have e := fun o => hgrow.cell_far ⟨wr.heap.size, o, none⟩ (by simp; omega) (fun e => nv e.symm)
                have hx2 := hxx.below ((Below.refl _ _).alloc (Nat.le_refl _) (.cells #[.int .i64 x.o, .int .i64 x.f, .int .i64 x.n, .int .i64 x.v, .int .i64 x.p, .int .i64 x.s, .int .i64 x.e] 30)) (by simp)
                obtain ⟨m0, m1, m2, m3, m4, m5, m6⟩ := hx2
                exact ⟨(e _).trans m0, (e _).trans m1, (e _).trans m2, (e _).trans m3, (e _).trans m4, (e _).trans m5, (e _).trans m6⟩
              · intro o
                refine (hgrow.frozen_far ⟨wr.heap.size, o, none⟩ (by simp; omega) (fun e => nv e.symm)).trans ?_
                exact (((Below.refl _ _).alloc (Nat.le_refl _) (.cells #[.int .i64 x.o, .int .i64 x.f, .int .i64 x.n, .int .i64 x.v, .int .i64 x.p, .int .i64 x.s, .int .i64 x.e] 30)).frozen (p := ⟨wr.heap.size, o, none⟩) (by simp)).trans (hff o)
              · have := hgrow.size
                simp at this
                omega
          · have e1 : (x.p == part) = false := by simpa using he
            have hs := Lib.hid (pm.out he)
            have HX := Lib.hid (And.intro hxx (And.intro hff (And.intro nu nv)))
            clear hxx hff nu nv ch cm KK he
            go_wp2_with fail
            go_meet
            obtain ⟨hxx, hff, nu, nv⟩ := HX.out
            refine ⟨?_, hu.alloc _, hap, nu, nv, hxx, hff, hB.alloc (by omega) _, by simp⟩
            rw [hs.out]
            exact hv.alloc _
        case rest =>
          obtain ⟨hv, hu, hap, nu, nv, hx, hfx, hB, hzx⟩ := hcut
          obtain ⟨x0, x1, x2, x3, x4, x5, x6⟩ := hx
          simp only [Nat.zero_add] at x0 x1 x2 x3 x4 x5 x6
          have f0 := hfx 0
          have f1 := hfx 1
          clear ph pm r0 r1 r2 r3 r4 r5 r6 hfx
          go_upto_region 12 with (fail)
          go_cut [55] (fun s wx => s = .bool (decide (k = 0 ∨ L < x.f)) ∧ wx = wc)
          case first =>
            clear ch cm KK
            by_cases hk0 : k = 0
            · have hkb : ((k : Int) == 0) = true := by simp [hk0]
              have e1 := Lib.hid (show decide (k = 0 ∨ L < x.f) = true from decide_eq_true (.inl hk0))
              go_wp2_with fail
              go_meet
              exact ⟨by rw [e1.out], rfl⟩
            · have hkb : ((k : Int) == 0) = false := by simp [hk0]
              by_cases hc : L < x.f
              · have e1 := Lib.hid (show decide (k = 0 ∨ L < x.f) = true from decide_eq_true (.inr hc))
                go_wp2_with fail
                go_meet
                exact ⟨by rw [e1.out], rfl⟩
              · have e1 := Lib.hid (show decide (k = 0 ∨ L < x.f) = false from decide_eq_false (fun h => h.elim hk0 hc))
                go_wp2_with fail
                go_meet
                exact ⟨by rw [e1.out], rfl⟩
          case rest =>
            obtain ⟨rfl, rfl⟩ := hcut
            go_upto_if 55 with (fail)
            go_cut [11] (fun s wx => s = .int .i64 (lenK l (k + 1)) ∧ wx = wc)
            case first =>
              by_cases hd : k = 0 ∨ L < x.f
              · have e2 : lenK l (k + 1) = x.f := by
                  by_cases hk0 : k = 0
                  · exact (KK.out.1 hk0).1
                  · exact KK.out.2.1 hk0 (hd.resolve_left hk0)
                have e2 := Lib.hid e2
                have e1 : decide (k = 0 ∨ L < x.f) = true := decide_eq_true hd
                generalize decide (k = 0 ∨ L < x.f) = bq at *
                subst e1
                clear ch cm KK hd
                go_wp2_with fail
                go_meet
                exact ⟨by rw [e2.out], rfl⟩
              · have e2 := Lib.hid (KK.out.2.2.1 (fun h => hd (.inl h)) (fun h => hd (.inr h)))
                have e1 : decide (k = 0 ∨ L < x.f) = false := decide_eq_false hd
                generalize decide (k = 0 ∨ L < x.f) = bq at *
                subst e1
                clear ch cm KK hd
                go_wp2_with fail
                go_meet
                exact ⟨by rw [e2.out], rfl⟩
            case rest =>
              obtain ⟨rfl, rfl⟩ := hcut
              go_upto_region 14 with (fail)
              go_cut [65] (fun s wx => s = .bool (decide (k = 0 ∨ x.n < Lo)) ∧ wx = wc)
              case first =>
                clear ch cm KK
                by_cases hk0 : k = 0
                · have hkb : ((k : Int) == 0) = true := by simp [hk0]
                  have e1 := Lib.hid (show decide (k = 0 ∨ x.n < Lo) = true from decide_eq_true (.inl hk0))
                  go_wp2_with fail
                  go_meet
                  exact ⟨by rw [e1.out], rfl⟩
                · have hkb : ((k : Int) == 0) = false := by simp [hk0]
                  by_cases hc : x.n < Lo
                  · have e1 := Lib.hid (show decide (k = 0 ∨ x.n < Lo) = true from decide_eq_true (.inr hc))
                    go_wp2_with fail
                    go_meet
                    exact ⟨by rw [e1.out], rfl⟩
                  · have e1 := Lib.hid (show decide (k = 0 ∨ x.n < Lo) = false from decide_eq_false (fun h => h.elim hk0 hc))
                    go_wp2_with fail
                    go_meet
                    exact ⟨by rw [e1.out], rfl⟩
              case rest =>
                obtain ⟨rfl, rfl⟩ := hcut
                go_upto_if 65 with (fail)
                go_cut [12] (fun s wx => s = .int .i64 (lowK l (k + 1)) ∧ wx = wc)
                case first =>
                  by_cases hd : k = 0 ∨ x.n < Lo
                  · have e2 : lowK l (k + 1) = x.n := by
                      by_cases hk0 : k = 0
                      · exact (KK.out.1 hk0).2.1
                      · exact KK.out.2.2.2.1 hk0 (hd.resolve_left hk0)
                    have e2 := Lib.hid e2
                    have e1 : decide (k = 0 ∨ x.n < Lo) = true := decide_eq_true hd
                    generalize decide (k = 0 ∨ x.n < Lo) = bq at *
                    subst e1
                    clear ch cm KK hd
                    go_wp2_with fail
                    go_meet
                    exact ⟨by rw [e2.out], rfl⟩
                  · have e2 := Lib.hid (KK.out.2.2.2.2.1 (fun h => hd (.inl h)) (fun h => hd (.inr h)))
                    have e1 : decide (k = 0 ∨ x.n < Lo) = false := decide_eq_false hd
                    generalize decide (k = 0 ∨ x.n < Lo) = bq at *
                    subst e1
                    clear ch cm KK hd
                    go_wp2_with fail
                    go_meet
                    exact ⟨by rw [e2.out], rfl⟩
                case rest =>
                  obtain ⟨rfl, rfl⟩ := hcut
                  go_upto_region 16 with (fail)
                  go_cut [75] (fun s wx => s = .bool (decide (k = 0 ∨ Hi < x.n)) ∧ wx = wc)
                  case first =>
                    clear ch cm KK
                    by_cases hk0 : k = 0
                    · have hkb : ((k : Int) == 0) = true := by simp [hk0]
                      have e1 := Lib.hid (show decide (k = 0 ∨ Hi < x.n) = true from decide_eq_true (.inl hk0))
                      go_wp2_with fail
                      go_meet
                      exact ⟨by rw [e1.out], rfl⟩
                    · have hkb : ((k : Int) == 0) = false := by simp [hk0]
                      by_cases hc : Hi < x.n
                      · have e1 := Lib.hid (show decide (k = 0 ∨ Hi < x.n) = true from decide_eq_true (.inr hc))
                        go_wp2_with fail
                        go_meet
                        exact ⟨by rw [e1.out], rfl⟩
                      · have e1 := Lib.hid (show decide (k = 0 ∨ Hi < x.n) = false from decide_eq_false (fun h => h.elim hk0 hc))
                        go_wp2_with fail
                        go_meet
                        exact ⟨by rw [e1.out], rfl⟩
                  case rest =>
                    obtain ⟨rfl, rfl⟩ := hcut
                    go_upto_if 75 with (fail)
                    go_cut [13] (fun s wx => s = .int .i64 (highK l (k + 1)) ∧ wx = wc)
                    case first =>
                      by_cases hd : k = 0 ∨ Hi < x.n
                      · have e2 : highK l (k + 1) = x.n := by
                          by_cases hk0 : k = 0
                          · exact (KK.out.1 hk0).2.2
                          · exact KK.out.2.2.2.2.2.1 hk0 (hd.resolve_left hk0)
                        have e2 := Lib.hid e2
                        have e1 : decide (k = 0 ∨ Hi < x.n) = true := decide_eq_true hd
                        generalize decide (k = 0 ∨ Hi < x.n) = bq at *
                        subst e1
                        clear ch cm KK hd
                        go_wp2_with fail
                        go_meet
                        exact ⟨by rw [e2.out], rfl⟩
                      · have e2 := Lib.hid (KK.out.2.2.2.2.2.2 (fun h => hd (.inl h)) (fun h => hd (.inr h)))
                        have e1 : decide (k = 0 ∨ Hi < x.n) = false := decide_eq_false hd
                        generalize decide (k = 0 ∨ Hi < x.n) = bq at *
                        subst e1
                        clear ch cm KK hd
                        go_wp2_with fail
                        go_meet
                        exact ⟨by rw [e2.out], rfl⟩
                    case rest =>
                      obtain ⟨rfl, rfl⟩ := hcut
                      clear KK
                      go_upto_region 18 with (fail)
                      go_cut [99] (fun s wx => s = .bool (inT a b x) ∧ wx = wc)
                      case first =>
                        have hq := Lib.hid (show inT a b x = (decide (a < b) && (decide (x.o < b) && (decide (a < x.f) && decide (x.o < x.f)))) from rfl)
                        clear ch cm
                        by_cases c1 : a < b
                        · by_cases c2 : x.o < b
                          · by_cases c3 : a < x.f
                            · by_cases c4 : x.o < x.f
                              · go_wp2_with fail
                                go_meet
                                exact ⟨by rw [hq.out]; simp [c1, c2, c3, c4], rfl⟩
                              · go_wp2_with fail
                                go_meet
                                exact ⟨by rw [hq.out]; simp [c4], rfl⟩
                            · go_wp2_with fail
                              go_meet
                              exact ⟨by rw [hq.out]; simp [c3]; intros; omega, rfl⟩
                          · go_wp2_with fail
                            go_meet
                            exact ⟨by rw [hq.out]; simp [c2]; intros; omega, rfl⟩
                        · go_wp2_with fail
                          go_meet
                          exact ⟨by rw [hq.out]; simp [c1]; intros; omega, rfl⟩
                      case rest =>
                        obtain ⟨rfl, rfl⟩ := hcut
                        by_cases he : inT a b x = true
                        · have hs := Lib.hid (ch.out he)
                          clear ch cm
                          have hl1 := hv.lt
                          have hl2 := hu.lt
                          obtain ⟨M, hM⟩ : ∃ M, (if x.o < a then a else x.o) = M := ⟨_, rfl⟩
                          obtain ⟨m, hm⟩ : ∃ m, (if b < x.f then b else x.f) = m := ⟨_, rfl⟩
                          have hx : clipX a b x = ⟨M, m, x.n, x.v, x.p, x.s, x.e⟩ := by unfold clipX; rw [hM, hm]
                          rw [hx] at hs
                          clear hx
                          generalize inT a b x = bq at *
                          subst he
                          go_wp2_with (at_builtin; refine wpList_append_lies _ rfl _ _ _ rfl w.heap.size 30 i0 (.agg #[.int .i64 0, .int .i64 0, .int .i64 0, .int .i64 0, .int .i64 0, .int .i64 0, .int .i64 0]) 7 56 Tryz.underlying25 hi.out hi0 hi1 hi2 rfl (by omega) _ _ _ (by rfl) ((ownsRow_setCell_other (ownsRow_setCell_other hu nu _) nu _).alloc _) ⟨wc.heap.size, 0, none⟩ 1 1 (encY ⟨M, m, x.n, x.v, x.p, x.s, x.e⟩) (by rfl) rfl ?_ (by intro u hu; simp [encY] at hu; rcases hu with rfl | rfl | rfl | rfl | rfl | rfl | rfl <;> rfl) (by omega) (by unfold maxLen; omega) (by omega) (by simp; omega) (wc.heap.size + 1) (by simp) ?_)
                          · first
                            | exact fun j u h => h
                            | have h := heap_alloc_new ((wc.setCell ⟨wr.heap.size, 0, none⟩ (.int .i64 M)).setCell ⟨wr.heap.size, 1, none⟩ (.int .i64 m)) (.cells #[.int .i64 M, .int .i64 m, .int .i64 x.n, .int .i64 x.v, .int .i64 x.p, .int .i64 x.s, .int .i64 x.e] 30)
                              simp only [World.size_setCell] at h
                              exact World.news_of_block h
                          · intro g cap w9 hown9 hgrow hat hlt1
                            have hv2 := ((ownsRow_setCell_other (ownsRow_setCell_other hv nv _) nv _).alloc _ : ((wc.setCell ⟨wr.heap.size, 0, none⟩ (.int .i64 M)).setCell ⟨wr.heap.size, 1, none⟩ (.int .i64 m)).alloc (.cells #[.int .i64 M, .int .i64 m, .int .i64 x.n, .int .i64 x.v, .int .i64 x.p, .int .i64 x.s, .int .i64 x.e] 30) |>.ownsRow w.heap.size 30 7 _ _ _)
                            go_wp2_with fail
                            go_roundw
                            case rel =>
                              refine ⟨k + 1, by omega, by go_num, rfl, rfl, rfl, ?_, hv2.kept hgrow ?_, ?_, (((hB.setCell (p := ⟨wr.heap.size, 0, none⟩) (by omega) _).setCell (p := ⟨wr.heap.size, 1, none⟩) (by omega) _).alloc (by simp; omega) _).grown hgrow (by simp; omega) (fun j hj => (hl2 j hj).1)⟩
                              · rw [hs.out, cellsY_snoc, List.length_append]
                                exact hown9
                              · cases hq : Value.ownBlock _ with
                                | none => exact .inl rfl
                                | some q => exact .inr (fun e => hap q e.symm hq)
                              · intro q hq e
                                have hq : some g = some q := hq
                                cases hq
                                rcases hat with h1 | h1
                                · exact hap _ h1 e
                                · have := (hl1 _ e).2
                                  omega
                            case measure => simp [intOf]; omega
                        · have he : inT a b x = false := by simpa using he
                          have hs := Lib.hid (cm.out he)
                          clear ch cm
                          generalize inT a b x = bq at *
                          subst he
                          go_wp2_with fail
                          go_roundw
                          case rel =>
                            refine ⟨k + 1, by omega, by go_num, rfl, rfl, rfl, ?_, hv, hap, hB⟩
                            rw [hs.out]
                            exact hu
                          case measure => simp [intOf]; omega
      · obtain rfl : k = n := by omega
        have hU := Lib.hid (ownY_slice hu)
        have hV := Lib.hid (ownY_slice hv)
        have hF := FIN _ hB
        obtain ⟨F1, F2, F3, F4⟩ := hF.out
        obtain ⟨e1, e2, e3⟩ := FL.out
        rw [e2, e3] at F1
        rw [e1] at F4
        have F2' := fun w' (hb : Below w.heap.size w w') => (FIN w' hb).out.2.1
        have F3' := fun w' (hb : Below w.heap.size w w') => (FIN w' hb).out.2.2.1
        have F4' := fun w' (hb : Below w.heap.size w w') => (FIN w' hb).out.2.2.2
        simp only [e1] at F4'
        have F2' := Lib.hid F2'
        have F3' := Lib.hid F3'
        have F4' := Lib.hid F4'
        have sm := fun B C p q (w9 : World) (h1 : SlY w9 B (clipF l a b k)) (h2 : SlY w9 C (clipF l a b k)) => sameC B C p q (clipF l a b k) w9 (by have := cln k; omega) h1 h2
        have sp := fun B C p q (w9 : World) (h1 : SlY w9 B (partF l part k)) (h2 : SlY w9 C (partF l part k)) => sameC B C p q (partF l part k) w9 (by have := pln k; omega) h1 h2
        have sm := Lib.hid sm
        have sp := Lib.hid sp
        clear phit pmiss pln chit cmiss cln k1 FIN FL hu hv hF F2 F3 F4 e1 e2 e3 d0 d1 h
        go_wp2_with fail
        obtain ⟨CB, cd, rfl, hSU⟩ := hU.out
        obtain ⟨PB, pd, rfl, hSV⟩ := hV.out
        refine F1.mono ?_
        rintro e w2 ⟨rfl, hb2⟩
        have hB2 := hB.trans (hb2.mono hzr)
        have hz2 := hb2.size
        have hSU2 := hSU.below hb2
        have hSV2 := hSV.below hb2
        have G2 := F2'.out w2 hB2
        go_wp2_with fail
        refine G2.mono ?_
        rintro e w3 ⟨⟨B3, d3, rfl, hS3⟩, hb3⟩
        have hz3 := hb3.size
        have hB3 := hB2.trans (hb3.mono (by omega))
        have hSU3 := hSU2.below hb3
        have hSV3 := hSV2.below hb3
        have G3 := sm.out B3 CB d3 cd w3 hS3 hSU3
        go_wp2_with fail
        refine G3.mono ?_
        rintro e w4 ⟨rfl, hb4⟩
        have hz4 := hb4.size
        have hB4 := hB3.trans (hb4.mono (by omega))
        have hSV4 := hSV3.below hb4
        have G4 := F3'.out w4 hB4
        go_wp2_with fail
        refine G4.mono ?_
        rintro e w5 ⟨⟨B5, d5, rfl, hS5⟩, hb5⟩
        have hz5 := hb5.size
        have hB5 := hB4.trans (hb5.mono (by omega))
        have hSV5 := hSV4.below hb5
        have G5 := sp.out B5 PB d5 pd w5 hS5 hSV5
        go_wp2_with fail
        refine G5.mono ?_
        rintro e w6 ⟨rfl, hb6⟩
        have hB6 := hB5.trans (hb6.mono (by omega))
        have hz6 := hb6.size
        have G6 := F4'.out w6 hB6
        go_wp2_with fail
        refine G6.mono ?_
        rintro e w7 ⟨rfl, hb7⟩
        have hB7 := hB6.trans (hb7.mono (by omega))
        go_wp2_with fail
        go_ret
        exact ⟨rfl, hB7⟩
end Go.Proofs.YtmbchdfgckmpoaaGreat
