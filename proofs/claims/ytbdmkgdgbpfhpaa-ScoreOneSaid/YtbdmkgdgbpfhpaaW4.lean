/- The walks of the reference Of and of works, the fixed example. No conditions. -/
import Derived.Test.YtbdmkgdgbpfhpaaW3
namespace Go.Proofs.Ytbdmkgdgbpfhpaa
open Go.RowKit
theorem mutAt.verdicts {w : World} {b off len : Nat} {M : Nat → Mu} {vs : Nat → Int} (hvs : ∀ i, (M i).v = vs i) (h : mutAt w b off len M) : ∀ i, i < len → w.cell? ⟨b, off + i * 8 + 3, none⟩ = some (.int .i64 (vs i)) := fun i hi => by
  rw [← hvs i]; exact (h.2 i hi).2.2.2.1
set_option maxHeartbeats 1000000 in
theorem rof_any (b off len cap : Nat) (vs : Nat → Int) (w : World) (hl : len ≤ 9223372036854775807)
   (hc : ∀ i, i < len → w.cell? ⟨b, off + i * 8 + 3, none⟩ = some (.int .i64 (vs i))) (hb : b < w.heap.size) :
    Calls Try.prog 10 #[.slice (some ⟨b, off, none⟩) len cap] w fun e w' => e = .returned (.agg #[.int .i64 (cnt vs 0 len), .int .i64 (cnt vs 1 len), .int .i64 (cnt vs 2 len)]) ∧ Below w.heap.size w w' := by
  have HC := Lib.hid (fun (o : Obj) (i : Nat) (hi : i < len) => (World.cell?_alloc_lt w o ⟨b, off + i * 8 + 3, none⟩ hb).trans (hc i hi))
  clear hc
  go_enter Try.func10, Try.ntmps10
  go_wp2_with fail
  refine (count_any b off len cap _ vs _ hl (HC.out _)).mono ?_
  rintro e w1 ⟨rfl, rfl⟩
  go_wp2_with fail
  refine (count_any b off len cap _ vs _ hl (HC.out _)).mono ?_
  rintro e w1 ⟨rfl, rfl⟩
  go_wp2_with fail
  refine (count_any b off len cap _ vs _ hl (HC.out _)).mono ?_
  rintro e w1 ⟨rfl, rfl⟩
  go_wp2_with fail
  go_returns
  refine ⟨rfl, ?_⟩
  go_grown

set_option maxHeartbeats 400000 in
theorem rof_nil (w : World) :
    Calls Try.prog 10 #[.slice none 0 0] w fun e w' => e = .returned (.agg #[.int .i64 0, .int .i64 0, .int .i64 0]) ∧ Below w.heap.size w w' := by
  go_enter Try.func10, Try.ntmps10
  go_wp2_with fail
  refine (count_nil _ _).mono ?_
  rintro e w1 ⟨rfl, rfl⟩
  go_wp2_with fail
  refine (count_nil _ _).mono ?_
  rintro e w1 ⟨rfl, rfl⟩
  go_wp2_with fail
  refine (count_nil _ _).mono ?_
  rintro e w1 ⟨rfl, rfl⟩
  go_wp2_with fail
  go_returns
  refine ⟨rfl, ?_⟩
  go_grown

def exM (i : Nat) : Mu := ⟨none, 0, 0, 0, 0, if i = 0 then 1 else if i = 1 then 2 else 7, 0, 0, 0, ⟨#[]⟩⟩
def exV (i : Nat) : Int := if i = 0 then 1 else if i = 1 then 2 else 7

theorem add_ex (w : World) : Calls Try.prog 13 #[.agg #[.int .i64 1, .int .i64 3, .int .i64 2], .agg #[.int .i64 1, .int .i64 3, .int .i64 2]] w fun e w' => e = .returned (.agg #[.int .i64 2, .int .i64 6, .int .i64 4]) ∧ Below w.heap.size w w' := by
  have h := add_any 1 3 2 1 3 2 w
  rw [show wrap64 (wrap64 1 + 1) = 2 by (unfold wrap64; decide), show wrap64 (wrap64 3 + 3) = 6 by (unfold wrap64; decide), show wrap64 (wrap64 2 + 2) = 4 by (unfold wrap64; decide)] at h
  exact h
theorem total_ex (w : World) : Calls Try.prog 14 #[.agg #[.int .i64 1, .int .i64 3, .int .i64 2]] w fun e w' => e = .returned (.int .i64 6) ∧ Below w.heap.size w w' := by
  have h := total_any 1 3 2 w
  rw [show wrap64 (wrap64 (wrap64 1 + 3) + 2) = 6 by (unfold wrap64; decide)] at h
  exact h
set_option maxHeartbeats 1000000 in
theorem works_any (w : World) :
    Calls Try.prog 8 #[] w fun e w' => e = .returned (.bool true) ∧ Below w.heap.size w w' := by
  have e1 : millV 1 3 2 = 750 := by decide
  have e2 : cnt exV 0 3 = 0 := by decide
  have e3 : cnt exV 1 3 = 1 := by decide
  have e4 : cnt exV 2 3 = 1 := by decide
  have e5 : millV 0 0 0 = 0 := by decide
  go_enter Try.func8, Try.ntmps8
  go_wp2_with fail
  refine (mill_any _ _ _ _).mono ?_
  rintro e w1 ⟨rfl, hb1⟩
  have o0 := own3_below (own3_alloc (own3_new w (.int .i64 1) (.int .i64 3) (.int .i64 2) 24) _) hb1 (by simp only [World.size_alloc]; omega)
  have g : mutAt w1 (w.heap.size + 1) 0 3 exM := by
    have K := fun j => (hb1.cell (p := ⟨w.heap.size + 1, j, none⟩) (show w.heap.size + 1 < _ by simp only [World.size_alloc]; omega)).trans (World.cell?_alloc_at (w := w.alloc _) _ _ _ j (by simp only [World.size_alloc]))
    refine ⟨by have := hb1.size; simp only [World.size_alloc] at this; omega, fun i hi => ?_⟩
    match i, hi with
    | 0, _ => exact ⟨K 0, K 1, K 2, K 3, K 4, K 5, K 6, K 7⟩
    | 1, _ => exact ⟨K 8, K 9, K 10, K 11, K 12, K 13, K 14, K 15⟩
    | 2, _ => exact ⟨K 16, K 17, K 18, K 19, K 20, K 21, K 22, K 23⟩
  have hz := hb1.size
  simp only [World.size_alloc] at hz
  have hb2 : Below w.heap.size w w1 := (((Below.refl _ _).alloc (Nat.le_refl _) _).alloc (by simp) _).trans (hb1.mono (by simp; omega))
  have G := Lib.hid g
  have O0 := Lib.hid o0
  clear g hb1
  obtain ⟨_, v0, v1, v2, _⟩ := o0
  go_wp2_with fail
  refine (total_ex _).mono ?_
  rintro e w2 ⟨rfl, hb1⟩
  have o0 := own3_below O0.out hb1 O0.out.1
  have hb3 := hb2.trans (hb1.mono hb2.size)
  have G := Lib.hid (G.out.below hb1 G.out.1)
  have O0 := Lib.hid o0
  clear hb1 v0 v1 v2
  obtain ⟨_, v0, v1, v2, _⟩ := o0
  go_wp2_with fail
  refine (Of_any _ _ _ _ exM exV (fun _ => rfl) _ (by omega) G.out).mono ?_
  rintro e w3 ⟨rfl, hb1⟩
  have o0 := own3_below O0.out hb1 O0.out.1
  have hb4 := hb3.trans (hb1.mono hb3.size)
  clear hb1 v0 v1 v2
  obtain ⟨_, v0, v1, v2, _⟩ := o0
  go_wp2_with fail
  refine (add_ex _).mono ?_
  rintro e w4 ⟨rfl, hb1⟩
  have hb5 := hb4.trans (hb1.mono hb4.size)
  clear hb1
  go_wp2_with fail
  refine (mill_any _ _ _ _).mono ?_
  rintro e w5 ⟨rfl, hb1⟩
  have hb6 := hb5.trans (hb1.mono hb5.size)
  clear hb1
  go_wp2_with fail
  go_ret
  exact ⟨rfl, hb6⟩
end Go.Proofs.Ytbdmkgdgbpfhpaa
