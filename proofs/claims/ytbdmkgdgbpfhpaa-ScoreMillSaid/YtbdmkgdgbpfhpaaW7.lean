/- The walks of the laws ScoreOf and ScoreMill. No conditions. -/
import Derived.Test.YtbdmkgdgbpfhpaaW6
namespace Go.Proofs.Ytbdmkgdgbpfhpaa
open Go.RowKit
theorem wf64 {a : Int} (h : (Lit.int .i64 a).wf = true) : -9223372036854775808 ≤ a ∧ a ≤ 9223372036854775807 := by simpa [Lit.wf, IntKind.min, IntKind.max, IntKind.signed, IntKind.bits] using h

set_option maxHeartbeats 1000000 in
theorem walk_of (s : Option Addr) (len cap : Nat) (M : Nat → Mu) (a b c : Int) (w : World) (h : Muts w s len M ∧ len ≤ maxLen ∧ ∀ i, i < len → (Lit.int .i64 (M i).v).wf = true) (_ : (Lit.int .i64 a).wf = true) (_ : (Lit.int .i64 b).wf = true) (_ : (Lit.int .i64 c).wf = true) :
    Calls Try.prog 3 #[.slice s len cap, .agg #[.int .i64 a, .int .i64 b, .int .i64 c]] w fun e w' => e = .returned (.bool true) ∧ Below w.heap.size w w' := by
  obtain ⟨hM, hlen, _⟩ := h
  unfold maxLen at hlen
  by_cases hb : len ≤ 400
  · go_enter Try.func3, Try.ntmps3
    go_wp2_with fail
    refine (works_any _).mono ?_
    rintro e w1 ⟨rfl, hb1⟩
    have o0 := own3_below (own3_new w (.int .i64 a) (.int .i64 b) (.int .i64 c) 24) hb1 (by simp only [World.size_alloc]; omega)
    have hb2 : Below w.heap.size w w1 := ((Below.refl _ _).alloc (Nat.le_refl _) _).trans (hb1.mono (by simp))
    have hM1 := hM.later hb2
    clear hb1
    have k0 : ∀ w', Below w1.heap.size w1 w' → w'.cell? ⟨w.heap.size, 0, none⟩ = some (.int .i64 a) := fun w' h => cell_later h o0.2.1
    have k1 : ∀ w', Below w1.heap.size w1 w' → w'.cell? ⟨w.heap.size, 1, none⟩ = some (.int .i64 b) := fun w' h => cell_later h o0.2.2.1
    have k2 : ∀ w', Below w1.heap.size w1 w' → w'.cell? ⟨w.heap.size, 2, none⟩ = some (.int .i64 c) := fun w' h => cell_later h o0.2.2.2.1
    clear o0
    have HM := Lib.hid hM1
    clear hM hM1
    go_wp2_with fail
    go_region_held3 (fun w' => Below w1.heap.size w1 w') (first | assumption | go_grown)
      (first | (go_at_call 9; refine (Of_gen _ _ _ M _ (by omega) (HM.out.later (by first | assumption | go_grown))).mono ?_; rintro e w2 ⟨rfl, hb3⟩; obtain ⟨hbl, hsz⟩ := later' (by first | assumption | go_grown) hb3; clear hb3) | (go_at_call 10; refine (rof_gen _ _ _ M _ (by omega) (HM.out.later (by first | assumption | go_grown))).mono ?_; rintro e w2 ⟨rfl, hb3⟩; obtain ⟨hbl, hsz⟩ := later' (by first | assumption | go_grown) hb3; clear hb3) | (go_at_call 11; refine (mill_any _ _ _ _).mono ?_; rintro e w2 ⟨rfl, hb3⟩; obtain ⟨hbl, hsz⟩ := later' (by first | assumption | go_grown) hb3; clear hb3) | (go_at_call 12; refine (rmill_any _ _ _ _).mono ?_; rintro e w2 ⟨rfl, hb3⟩; obtain ⟨hbl, hsz⟩ := later' (by first | assumption | go_grown) hb3; clear hb3))
    all_goals go_wp2_with fail
    all_goals go_ret
    all_goals exact ⟨ret_bool (by simp), later hb2 (by first | assumption | go_grown)⟩
  · go_enter Try.func3, Try.ntmps3
    go_wp2_with fail
    refine (works_any _).mono ?_
    rintro e w1 ⟨rfl, hb1⟩
    have hb2 : Below w.heap.size w w1 := ((Below.refl _ _).alloc (Nat.le_refl _) _).trans (hb1.mono (by simp))
    go_wp2_with fail
    go_ret
    exact ⟨rfl, hb2⟩

theorem millV_in (a b c : Int) : 0 ≤ millV a b c ∧ millV a b c ≤ 1000 := by
  unfold millV
  split
  · split
    · omega
    · rename_i h1 h2
      obtain ⟨h, h', _⟩ := h1
      simp [rgt] at h h'
      constructor
      · exact Int.ediv_nonneg (by omega) (by omega)
      · exact Int.ediv_le_of_le_mul (by omega) (by omega)
  · omega
theorem millV_out (a b c : Int) (h : ¬ (0 ≤ a ∧ a ≤ 1000000 ∧ 0 ≤ b ∧ b ≤ 1000000 ∧ 0 ≤ c ∧ c ≤ 1000000)) : millV a b c = 0 := by
  unfold millV rgt; rw [if_neg]; simp only [decide_eq_true_eq]; omega

set_option maxHeartbeats 1000000 in
theorem walk_mill (a b c : Int) (w : World) (ha : (Lit.int .i64 a).wf = true) (hb : (Lit.int .i64 b).wf = true) (hc : (Lit.int .i64 c).wf = true) :
    Calls Try.prog 6 #[.agg #[.int .i64 a, .int .i64 b, .int .i64 c]] w fun e w' => e = .returned (.bool true) ∧ Below w.heap.size w w' := by
  by_cases h : 0 ≤ a ∧ a ≤ 1000000 ∧ 0 ≤ b ∧ b ≤ 1000000 ∧ 0 ≤ c ∧ c ≤ 1000000
  · obtain ⟨a0, a1, b0, b1, c0, c1⟩ := h
    by_cases z : a + b = 0
    · have hm : Hid (millV a b c = 0) := Lib.hid (by rw [millV, if_pos ⟨rgt_yes a0 a1, rgt_yes b0 b1, rgt_yes c0 c1⟩, if_pos z])
      have z' : (a + b == 0) = true := by simp; omega
      clear z
      go_enter Try.func6, Try.ntmps6
      go_wp2_with fail
      refine (works_any _).mono ?_
      rintro e w1 ⟨rfl, hb1⟩
      have o0 := own3_below (own3_new w (.int .i64 a) (.int .i64 b) (.int .i64 c) 24) hb1 (by simp only [World.size_alloc]; omega)
      have hb2 : Below w.heap.size w w1 := ((Below.refl _ _).alloc (Nat.le_refl _) _).trans (hb1.mono (by simp))
      clear hb1
      have O0 := Lib.hid o0
      obtain ⟨hsz0, k0, k1, k2, _⟩ := o0
      go_wp2_with fail
      refine (mill_any _ _ _ _).mono ?_
      rintro e w2 ⟨rfl, hb3⟩
      rw [hm.out]
      obtain ⟨hsz0, l0, l1, l2, _⟩ := own3_below O0.out hb3 O0.out.1
      have hb4 := hb2.trans (hb3.mono hb2.size)
      clear hb3 k0 k1 k2
      go_wp2_with fail
      go_ret
      exact ⟨rfl, hb4⟩
    · obtain ⟨m, hm⟩ : ∃ m, Hid (millV a b c = m) := ⟨_, Lib.hid rfl⟩
      have hm2 := hm.out
      rw [millV, if_pos ⟨rgt_yes a0 a1, rgt_yes b0 b1, rgt_yes c0 c1⟩, if_neg z] at hm2
      have hin := millV_in a b c
      rw [hm.out] at hin
      obtain ⟨m0, m1⟩ := hin
      have p0 : 0 < a + b := by omega
      have q0 : m * (a + b) ≤ 1000 * b := by rw [← hm2]; exact Int.ediv_mul_le _ (by omega)
      have q1 : 1000 * b < (m + 1) * (a + b) := by rw [← hm2]; exact Int.lt_ediv_add_one_mul_self _ p0
      have r0 : 0 ≤ m * (a + b) := Int.mul_nonneg m0 (by omega)
      have r1 : (m + 1) * (a + b) ≤ 1001 * (a + b) := Int.mul_le_mul_of_nonneg_right (by omega) (by omega)
      have z' : (a + b == 0) = false := by simp; omega
      have r2 : (m + 1) * (a + b) ≤ 9223372036854775807 := by omega
      have r3 : -9223372036854775808 ≤ (m + 1) * (a + b) := by omega
      clear r1 hm2 z
      go_enter Try.func6, Try.ntmps6
      go_wp2_with fail
      refine (works_any _).mono ?_
      rintro e w1 ⟨rfl, hb1⟩
      have o0 := own3_below (own3_new w (.int .i64 a) (.int .i64 b) (.int .i64 c) 24) hb1 (by simp only [World.size_alloc]; omega)
      have hb2 : Below w.heap.size w w1 := ((Below.refl _ _).alloc (Nat.le_refl _) _).trans (hb1.mono (by simp))
      clear hb1
      have O0 := Lib.hid o0
      obtain ⟨hsz0, k0, k1, k2, _⟩ := o0
      go_wp2_with fail
      refine (mill_any _ _ _ _).mono ?_
      rintro e w2 ⟨rfl, hb3⟩
      rw [hm.out]
      obtain ⟨hsz0, l0, l1, l2, _⟩ := own3_below O0.out hb3 O0.out.1
      have hb4 := hb2.trans (hb3.mono hb2.size)
      clear hb3 k0 k1 k2
      go_wp2_with fail
      all_goals go_ret
      all_goals exact ⟨ret_bool (by simp), hb4⟩
  · have h0 := Lib.hid (millV_out a b c h)
    have H := Lib.hid h
    clear h
    go_enter Try.func6, Try.ntmps6
    go_wp2_with fail
    refine (works_any _).mono ?_
    rintro e w1 ⟨rfl, hb1⟩
    have o0 := own3_below (own3_new w (.int .i64 a) (.int .i64 b) (.int .i64 c) 24) hb1 (by simp only [World.size_alloc]; omega)
    have hb2 : Below w.heap.size w w1 := ((Below.refl _ _).alloc (Nat.le_refl _) _).trans (hb1.mono (by simp))
    clear hb1
    have O0 := Lib.hid o0
    obtain ⟨hsz0, k0, k1, k2, _⟩ := o0
    go_wp2_with fail
    refine (mill_any _ _ _ _).mono ?_
    rintro e w2 ⟨rfl, hb3⟩
    rw [h0.out]
    obtain ⟨hsz0, l0, l1, l2, _⟩ := own3_below O0.out hb3 O0.out.1
    have hb4 := hb2.trans (hb3.mono hb2.size)
    clear hb3 k0 k1 k2
    go_wp2_with fail
    all_goals first | (go_ret; exact ⟨rfl, hb4⟩) | (exfalso; have := H.out; omega)
end Go.Proofs.Ytbdmkgdgbpfhpaa
