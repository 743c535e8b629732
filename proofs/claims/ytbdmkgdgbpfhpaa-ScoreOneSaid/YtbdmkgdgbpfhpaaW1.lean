/- The walks of layer 20's functions (score), each once: what they compute. No conditions. -/
import Derived.Test.YtbdmkgdgbpfhpaaRows
import Derived.WalkKit
import Derived.WalkSpells
import Derived.WalkLawsBesides
import Derived.RegionTactic
import Derived.ChangeAlike
import Derived.Handy
namespace Go.Proofs.Ytbdmkgdgbpfhpaa
open Go.RowKit
def sc (a b c : Int) : Value := .agg #[.int .i64 a, .int .i64 b, .int .i64 c]

set_option maxHeartbeats 400000 in
theorem of_any (a b c : Int) (w : World) :
    Calls Try.prog 17 #[.agg #[.int .i64 a, .int .i64 b, .int .i64 c]] w fun e w' => e = .returned (.agg #[.int .i64 a, .int .i64 b, .int .i64 c]) ∧ Below w.heap.size w w' := by
  go_enter Try.func17, Try.ntmps17
  go_wp2
  go_returns
  refine ⟨rfl, ?_⟩
  go_grown

set_option maxHeartbeats 400000 in
theorem score_any (a b c : Int) (w : World) :
    Calls Try.prog 15 #[.agg #[.int .i64 a, .int .i64 b, .int .i64 c]] w fun e w' => e = .returned (.agg #[.int .i64 a, .int .i64 b, .int .i64 c]) ∧ Below w.heap.size w w' := by
  go_enter Try.func15, Try.ntmps15
  go_wp2
  go_returns
  refine ⟨rfl, ?_⟩
  go_grown


theorem idx0 (x y z : Value) (w : World) : (Instr.index 42 (.agg #[x, y, z]) (.int .i64 0)).run Try.prog w = .ok x w := by kernel_rfl
theorem idx1 (x y z : Value) (w : World) : (Instr.index 42 (.agg #[x, y, z]) (.int .i64 1)).run Try.prog w = .ok y w := by kernel_rfl
theorem idx2 (x y z : Value) (w : World) : (Instr.index 42 (.agg #[x, y, z]) (.int .i64 2)).run Try.prog w = .ok z w := by kernel_rfl

set_option maxHeartbeats 400000 in
theorem total_any (a b c : Int) (w : World) :
    Calls Try.prog 14 #[.agg #[.int .i64 a, .int .i64 b, .int .i64 c]] w fun e w' => e = .returned (.int .i64 (wrap64 (wrap64 (wrap64 a + b) + c))) ∧ Below w.heap.size w w' := by
  have i0 := idx0 (.int .i64 a) (.int .i64 b) (.int .i64 c)
  have i1 := idx1 (.int .i64 a) (.int .i64 b) (.int .i64 c)
  have i2 := idx2 (.int .i64 a) (.int .i64 b) (.int .i64 c)
  go_enter Try.func14, Try.ntmps14
  go_wp2_with (go_at_call 17; refine (of_any _ _ _ _).mono ?_; rintro e w1 ⟨rfl, hb1⟩)
  go_rounds 4
  go_returns
  exact ⟨rfl, ((Below.refl _ _).alloc (Nat.le_refl _) _).trans (hb1.mono (by simp))⟩

set_option maxHeartbeats 400000 in
theorem right_yes (n : Int) (w : World) (h : 0 ≤ n) (h2 : n ≤ 1000000) :
    Calls Try.prog 18 #[.int .i64 n] w fun e w' => e = .returned (.bool true) ∧ w = w' := by
  go_enter Try.func18, Try.ntmps18
  go_wp2
  go_ret
  exact ⟨rfl, rfl⟩
set_option maxHeartbeats 400000 in
theorem right_no (n : Int) (w : World) (h : ¬ (0 ≤ n ∧ n ≤ 1000000)) :
    Calls Try.prog 18 #[.int .i64 n] w fun e w' => e = .returned (.bool false) ∧ w = w' := by
  by_cases h1 : 0 ≤ n
  · have h2 : ¬ n ≤ 1000000 := by omega
    clear h
    go_enter Try.func18, Try.ntmps18
    go_wp2
    go_ret
    exact ⟨rfl, rfl⟩
  · clear h
    go_enter Try.func18, Try.ntmps18
    go_wp2
    go_ret
    exact ⟨rfl, rfl⟩

/-- in range -/
def rgt (n : Int) : Bool := decide (0 ≤ n ∧ n ≤ 1000000)
def millV (a k t : Int) : Int := if rgt a = true ∧ rgt k = true ∧ rgt t = true then (if a + k = 0 then 0 else 1000 * k / (a + k)) else 0
theorem rgt_no {n : Int} (h : ¬ (0 ≤ n ∧ n ≤ 1000000)) : rgt n = false := by simp [rgt]; omega
theorem rgt_yes {n : Int} (h0 : 0 ≤ n) (h1 : n ≤ 1000000) : rgt n = true := by simp [rgt]; omega
theorem ret_int {k : IntKind} {a b : Int} (h : a = b) : Ending.returned (.int k a) = .returned (.int k b) := by rw [h]

theorem bcell {W w1 : World} (hb : Below W.heap.size W w1) : (∀ b o, b < W.heap.size → w1.cell? ⟨b, o, none⟩ = W.cell? ⟨b, o, none⟩) ∧ (∀ b o, b < W.heap.size → w1.frozen? ⟨b, o, none⟩ = W.frozen? ⟨b, o, none⟩) :=
  ⟨fun b o h => hb.cell (p := ⟨b, o, none⟩) h, fun b o h => hb.frozen (p := ⟨b, o, none⟩) h⟩

set_option maxHeartbeats 1000000 in
theorem mill_any (a b c : Int) (w : World) :
    Calls Try.prog 11 #[.agg #[.int .i64 a, .int .i64 b, .int .i64 c]] w fun e w' => e = .returned (.int .i64 (millV a b c)) ∧ Below w.heap.size w w' := by
  have i0 := idx0 (.int .i64 a) (.int .i64 b) (.int .i64 c)
  have i1 := idx1 (.int .i64 a) (.int .i64 b) (.int .i64 c)
  have i2 := idx2 (.int .i64 a) (.int .i64 b) (.int .i64 c)
  by_cases a0 : 0 ≤ a
  · by_cases a1 : a ≤ 1000000
    · by_cases b0 : 0 ≤ b
      · by_cases b1 : b ≤ 1000000
        · by_cases c0 : 0 ≤ c
          · by_cases c1 : c ≤ 1000000
            · by_cases z : a + b = 0
              · have z' : (b + a == 0) = true := by simp; omega
                go_enter Try.func11, Try.ntmps11
                go_wp2_with (go_at_call 17; refine (of_any _ _ _ _).mono ?_; rintro e w1 ⟨rfl, hb1⟩)
                obtain ⟨hc, hf⟩ := bcell hb1
                go_rounds 4
                all_goals go_returns
                exact ⟨ret_int (by rw [millV, if_pos ⟨rgt_yes a0 a1, rgt_yes b0 b1, rgt_yes c0 c1⟩, if_pos z]), ((Below.refl _ _).alloc (Nat.le_refl _) _).trans (hb1.mono (by simp))⟩
              · have z' : (b + a == 0) = false := by simp; omega
                go_enter Try.func11, Try.ntmps11
                go_wp2_with (go_at_call 17; refine (of_any _ _ _ _).mono ?_; rintro e w1 ⟨rfl, hb1⟩)
                obtain ⟨hc, hf⟩ := bcell hb1
                go_rounds 4
                all_goals go_returns
                exact ⟨ret_int (by rw [millV, if_pos ⟨rgt_yes a0 a1, rgt_yes b0 b1, rgt_yes c0 c1⟩, if_neg z, Int.add_comm a b]), ((Below.refl _ _).alloc (Nat.le_refl _) _).trans (hb1.mono (by simp))⟩
            · go_enter Try.func11, Try.ntmps11
              go_wp2_with (go_at_call 17; refine (of_any _ _ _ _).mono ?_; rintro e w1 ⟨rfl, hb1⟩)
              go_rounds 4
              go_returns
              exact ⟨ret_int (by simp [millV, rgt_no (n := c) (by omega)]), ((Below.refl _ _).alloc (Nat.le_refl _) _).trans (hb1.mono (by simp))⟩
          · go_enter Try.func11, Try.ntmps11
            go_wp2_with (go_at_call 17; refine (of_any _ _ _ _).mono ?_; rintro e w1 ⟨rfl, hb1⟩)
            go_rounds 4
            go_returns
            exact ⟨ret_int (by simp [millV, rgt_no (n := c) (by omega)]), ((Below.refl _ _).alloc (Nat.le_refl _) _).trans (hb1.mono (by simp))⟩
        · go_enter Try.func11, Try.ntmps11
          go_wp2_with (go_at_call 17; refine (of_any _ _ _ _).mono ?_; rintro e w1 ⟨rfl, hb1⟩)
          go_rounds 4
          go_returns
          exact ⟨ret_int (by simp [millV, rgt_no (n := b) (by omega)]), ((Below.refl _ _).alloc (Nat.le_refl _) _).trans (hb1.mono (by simp))⟩
      · go_enter Try.func11, Try.ntmps11
        go_wp2_with (go_at_call 17; refine (of_any _ _ _ _).mono ?_; rintro e w1 ⟨rfl, hb1⟩)
        go_rounds 4
        go_returns
        exact ⟨ret_int (by simp [millV, rgt_no (n := b) (by omega)]), ((Below.refl _ _).alloc (Nat.le_refl _) _).trans (hb1.mono (by simp))⟩
    · go_enter Try.func11, Try.ntmps11
      go_wp2_with (go_at_call 17; refine (of_any _ _ _ _).mono ?_; rintro e w1 ⟨rfl, hb1⟩)
      go_rounds 4
      go_returns
      exact ⟨ret_int (by simp [millV, rgt_no (n := a) (by omega)]), ((Below.refl _ _).alloc (Nat.le_refl _) _).trans (hb1.mono (by simp))⟩
  · go_enter Try.func11, Try.ntmps11
    go_wp2_with (go_at_call 17; refine (of_any _ _ _ _).mono ?_; rintro e w1 ⟨rfl, hb1⟩)
    go_rounds 4
    go_returns
    exact ⟨ret_int (by simp [millV, rgt_no (n := a) (by omega)]), ((Below.refl _ _).alloc (Nat.le_refl _) _).trans (hb1.mono (by simp))⟩


set_option maxHeartbeats 1000000 in
theorem rmill_any (a b c : Int) (w : World) :
    Calls Try.prog 12 #[.agg #[.int .i64 a, .int .i64 b, .int .i64 c]] w fun e w' => e = .returned (.int .i64 (millV a b c)) ∧ Below w.heap.size w w' := by
  by_cases a0 : 0 ≤ a ∧ a ≤ 1000000
  · by_cases b0 : 0 ≤ b ∧ b ≤ 1000000
    · by_cases c0 : 0 ≤ c ∧ c ≤ 1000000
      · obtain ⟨a0, a1⟩ := a0
        obtain ⟨b0, b1⟩ := b0
        obtain ⟨c0, c1⟩ := c0
        by_cases z : a + b = 0
        · have z' : (b + a == 0) = true := by simp; omega
          go_enter Try.func12, Try.ntmps12
          go_wp2_with (go_at_call 18; refine (right_yes _ _ (by omega) (by omega)).mono ?_; rintro e w1 ⟨rfl, rfl⟩)
          all_goals go_returns
          all_goals exact ⟨ret_int (by rw [millV, if_pos ⟨rgt_yes a0 a1, rgt_yes b0 b1, rgt_yes c0 c1⟩, if_pos z]), (Below.refl _ _).alloc (Nat.le_refl _) _⟩
        · have z' : (b + a == 0) = false := by simp; omega
          go_enter Try.func12, Try.ntmps12
          go_wp2_with (go_at_call 18; refine (right_yes _ _ (by omega) (by omega)).mono ?_; rintro e w1 ⟨rfl, rfl⟩)
          all_goals go_returns
          all_goals exact ⟨ret_int (by rw [millV, if_pos ⟨rgt_yes a0 a1, rgt_yes b0 b1, rgt_yes c0 c1⟩, if_neg z, Int.add_comm a b]), (Below.refl _ _).alloc (Nat.le_refl _) _⟩
      · have hno : rgt c = false := rgt_no c0
        go_enter Try.func12, Try.ntmps12
        go_wp2_with (go_at_call 18; first | (refine (right_yes _ _ (by omega) (by omega)).mono ?_; rintro e w1 ⟨rfl, rfl⟩) | (refine (right_no _ _ (by omega)).mono ?_; rintro e w1 ⟨rfl, rfl⟩))
        all_goals go_returns
        all_goals exact ⟨ret_int (by simp [millV, hno]), (Below.refl _ _).alloc (Nat.le_refl _) _⟩
    · have hno : rgt b = false := rgt_no b0
      go_enter Try.func12, Try.ntmps12
      go_wp2_with (go_at_call 18; first | (refine (right_yes _ _ (by omega) (by omega)).mono ?_; rintro e w1 ⟨rfl, rfl⟩) | (refine (right_no _ _ (by omega)).mono ?_; rintro e w1 ⟨rfl, rfl⟩))
      all_goals go_returns
      all_goals exact ⟨ret_int (by simp [millV, hno]), (Below.refl _ _).alloc (Nat.le_refl _) _⟩
  · have hno : rgt a = false := rgt_no a0
    go_enter Try.func12, Try.ntmps12
    go_wp2_with (go_at_call 18; first | (refine (right_yes _ _ (by omega) (by omega)).mono ?_; rintro e w1 ⟨rfl, rfl⟩) | (refine (right_no _ _ (by omega)).mono ?_; rintro e w1 ⟨rfl, rfl⟩))
    all_goals go_returns
    all_goals exact ⟨ret_int (by simp [millV, hno]), (Below.refl _ _).alloc (Nat.le_refl _) _⟩

end Go.Proofs.Ytbdmkgdgbpfhpaa
