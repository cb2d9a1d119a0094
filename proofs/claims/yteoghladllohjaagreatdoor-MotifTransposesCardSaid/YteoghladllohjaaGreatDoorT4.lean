/- slices.SortFunc on pitches that lie in order. -/
import Derived.Test.YteoghladllohjaaGreatDoorT3
namespace Go.Proofs.YteoghladllohjaaGreatDoor
open Go.RowKit Go.Shelf Go.Sort

/-- In order of position, and not far out. -/
def AscP (l : List Pit) : Prop := (∀ k, k + 1 < l.length → posF (nthP l k) < posF (nthP l (k + 1))) ∧ ∀ k, k < l.length → -1000 ≤ (nthP l k).st ∧ (nthP l k).st ≤ 1000 ∧ -1000 ≤ (nthP l k).oc ∧ (nthP l k).oc ≤ 1000

set_option maxRecDepth 100000 in
set_option maxHeartbeats 4000000 in
theorem insC (g off c : Nat) (l : List Pit) (w : World) (h0 : 0 < l.length) (hl : l.length ≤ 12) (hasc : AscP l) (hg : g < w.heap.size) (hr : RdP w g off l) :
    Calls Tryz.prog 73 #[.slice (some ⟨g, off, none⟩) l.length c, .int .i64 0, .int .i64 l.length, .func (.func 41) #[] #[]] w fun e w' => e = .returned (.tuple #[]) ∧ Below w.heap.size w w' := by
  obtain ⟨ha, hb⟩ := hasc
  have hnl : ∃ n, n = l.length := ⟨_, rfl⟩
  obtain ⟨n, hnl⟩ := hnl
  have hnl' : n ≤ l.length := by omega
  rw [← hnl] at h0 hl ⊢
  clear hnl
  go_enter Tryz.func73, Tryz.ntmps73
  go_wp2_with fail
  go_loopw [8] (fun i wr => ∃ m : Nat, m + 1 ≤ n ∧ i = .int .i64 ((m : Int) + 1) ∧ Below w.heap.size w wr) (fun i _ => n - (intOf i).toNat)
  case atStart => exact ⟨0, by omega, rfl, Below.refl _ _⟩
  case round =>
    obtain ⟨m, hm, rfl, hB⟩ := hrel
    have hz := hB.size
    by_cases hlt : m + 1 < n
    · obtain ⟨r0, r1, r2⟩ := hr.below hB hg m (by omega)
      obtain ⟨s0, s1, s2⟩ := hr.below hB hg (m + 1) (by omega)
      have hp := ha m (by omega)
      obtain ⟨a1, a2, a3, a4⟩ := hb m (by omega)
      obtain ⟨b1, b2, b3, b4⟩ := hb (m + 1) (by omega)
      have hc := fun W => cmpC (nthP l (m + 1)) (nthP l m) W b1 b2 b3 b4 a1 a2 a3 a4
      have hd : ¬ posF (nthP l (m + 1)) - posF (nthP l m) < 0 := by omega
      have hlt' : (m : Int) + 1 < n := by omega
      clear ha hb hr a1 a2 a3 a4 b1 b2 b3 b4 hp
      generalize posF (nthP l (m + 1)) - posF (nthP l m) = df at *
      generalize nthP l (m + 1) = x at *
      generalize nthP l m = y at *
      go_wp2_with fail
      go_loopw [9] (fun j wx => j = .int .i64 ((m : Int) + 1) ∧ wr = wx) (fun _ _ => 0)
      case atStart => exact ⟨rfl, rfl⟩
      case round =>
        obtain ⟨rfl, rfl⟩ := hrel
        have et : ((m : Int) + 1).toNat = m + 1 := by omega
        have hi0 : (0 : Int) < (m : Int) + 1 := by omega
        have hi1 : (0 : Int) ≤ (m : Int) + 1 := by omega
        have hi3 : (m : Int) < (n : Int) := by omega
        have hi4 : IntKind.i64.wrap (m : Int) = (m : Int) := IntWalk.i64_in _ (by omega)
        go_upto_region 4 with (fail)
        have X0 := cell_regrown s0
        have X1 := cell_regrown s1
        have X2 := cell_regrown s2
        have Y0 := cell_regrown r0
        have Y1 := cell_regrown r1
        have Y2 := cell_regrown r2
        have k1 := fun d os => (hc (grow (redrawn wr d) os)).regrown_of
        clear r0 r1 r2 s0 s1 s2 hc
        refine wp_region_quiet_below (by kernel_rfl) (by kernel_rfl) ?_
        repeat (quiet_step ((first | (go_at_fn 41; (with_reducible exact k1 _ _)) | (go_at_call 41; (with_reducible exact k1 _ _)))))
        refine wpQuiet_nil ?_
        intro _ hw'
        obtain ⟨⟨dq, osq⟩, hw''⟩ := hw'
        subst hw''
        have hbq := below_regrown wr dq osq
        have hB := hB.trans (hbq.mono hz)
        have hdd : decide (df < 0) = false := by simpa using hd
        clear X0 X1 X2 Y0 Y1 Y2 k1 hbq
        generalize grow (redrawn wr dq) osq = v at *
        go_wp2_with fail
        go_roundw
        case rel => exact ⟨m + 1, by omega, by go_num, hB⟩
        case measure => simp [intOf]; omega
    · have hlt' : ¬ (m : Int) + 1 < n := by omega
      clear ha hb hr
      go_wp2_with fail
      go_end0
      exact ⟨rfl, hB⟩

set_option maxRecDepth 100000 in
set_option maxHeartbeats 4000000 in
theorem pdqC (g off c : Nat) (lim : Int) (l : List Pit) (w : World) (h0 : 0 < l.length) (hl : l.length ≤ 12) (hasc : AscP l) (hg : g < w.heap.size) (hr : RdP w g off l) :
    Calls Tryz.prog 56 #[.slice (some ⟨g, off, none⟩) l.length c, .int .i64 0, .int .i64 l.length, .int .i64 lim, .func (.func 41) #[] #[]] w fun e w' => e = .returned (.tuple #[]) ∧ Below w.heap.size w w' := by
  have hins := fun W hg hr => insC g off c l W h0 hl hasc hg hr
  have hr := Lib.hid hr
  clear hasc
  generalize l.length = n at *
  go_enter Tryz.func56, Tryz.ntmps56
  go_wp2_with fail
  go_loopw [1, 2] (fun a b wr => a = .int .i64 0 ∧ b = .int .i64 n ∧ Below w.heap.size w wr) (fun _ _ _ => 0)
  case atStart => exact ⟨rfl, rfl, Below.refl _ _⟩
  case round =>
    obtain ⟨rfl, rfl, hB⟩ := hrel
    have hi := hins wr (Nat.lt_of_lt_of_le hg hB.size) (hr.out.below hB hg)
    have hn : (n : Int) - 0 ≤ 12 := by omega
    clear hins hr
    go_wp2_with fail
    refine hi.mono ?_
    rintro e w1 ⟨rfl, hb1⟩
    go_wp2_with fail
    refine bodyPost_ret (results_none rfl _ _ _) rfl ?_
    exact ⟨rfl, hB.trans (hb1.mono hB.size)⟩

set_option maxRecDepth 100000 in
theorem sortC (g off c : Nat) (l : List Pit) (w : World) (h0 : 0 < l.length) (hl : l.length ≤ 12) (hasc : AscP l) (hg : g < w.heap.size) (hr : RdP w g off l) :
    Calls Tryz.prog 40 #[.slice (some ⟨g, off, none⟩) l.length c, .func (.func 41) #[] #[]] w fun e w' => e = .returned (.tuple #[]) ∧ Below w.heap.size w w' := by
  have hp := fun lim W hg hr => pdqC g off c lim l W h0 hl hasc hg hr
  have hr := Lib.hid hr
  clear hasc
  generalize l.length = n at *
  have hb := Tryz.bits_Len n w (by omega) (by omega)
  have e0 : IntKind.u64.wrap (n : Int) = (n : Int) := by rw [IntKind.wrap_u64]; omega
  go_enter Tryz.func40, Tryz.ntmps40
  go_wp2_with fail
  refine hb.mono ?_
  rintro e w1 ⟨rfl, rfl⟩
  go_wp2_with fail
  refine (hp _ _ hg hr.out).mono ?_
  rintro e w1 ⟨rfl, hb1⟩
  go_wp2_with fail
  go_end0
  exact ⟨rfl, hb1⟩
end Go.Proofs.YteoghladllohjaaGreatDoor
