/- The walk of score.sum, and small facts on worlds. No conditions. -/
import Derived.Test.YtbdmkgdgbpfhpaaW1
import Derived.Lib.Hide
namespace Go.Proofs.Ytbdmkgdgbpfhpaa
open Go.RowKit
theorem set_other {W : World} {B i j : Nat} {x : Value} (h : i ≠ j) : (W.setCell ⟨B, i, none⟩ x).cell? ⟨B, j, none⟩ = W.cell? ⟨B, j, none⟩ :=
  World.cell?_setCell_other W _ _ x (by simp)
theorem set_far {W : World} {B C i j : Nat} {x : Value} (h : B ≠ C) : (W.setCell ⟨B, i, none⟩ x).cell? ⟨C, j, none⟩ = W.cell? ⟨C, j, none⟩ :=
  World.cell?_setCell_other W _ _ x (by simp)
theorem set_same {W : World} {B i : Nat} {x x0 : Value} (h : W.cell? ⟨B, i, none⟩ = some x0) : (W.setCell ⟨B, i, none⟩ x).cell? ⟨B, i, none⟩ = some x :=
  World.cell?_setCell_same W _ x h
/-- block B holds just three known cells, none frozen -/
def own3 (W : World) (B : Nat) (x y z : Value) : Prop :=
  B < W.heap.size ∧ W.cell? ⟨B, 0, none⟩ = some x ∧ W.cell? ⟨B, 1, none⟩ = some y ∧ W.cell? ⟨B, 2, none⟩ = some z ∧ ∀ j, W.frozen? ⟨B, j, none⟩ = false
theorem own3_new (W : World) (x y z : Value) (T : TypeId) : own3 (W.alloc (.cells #[x, y, z] T)) W.heap.size x y z :=
  ⟨by simp, by simp, by simp, by simp, fun j => by simp⟩
theorem own3_alloc {W : World} {B : Nat} {x y z : Value} (h : own3 W B x y z) (o : Obj) : own3 (W.alloc o) B x y z := by
  obtain ⟨h, h0, h1, h2, hf⟩ := h
  refine ⟨by simp only [World.size_alloc]; omega, ?_, ?_, ?_, fun j => ?_⟩
  · rw [World.cell?_alloc_lt _ _ _ (show B < _ from h)]; exact h0
  · rw [World.cell?_alloc_lt _ _ _ (show B < _ from h)]; exact h1
  · rw [World.cell?_alloc_lt _ _ _ (show B < _ from h)]; exact h2
  · rw [World.frozen?_alloc_old _ _ _ (show B ≠ _ by omega)]; exact hf j
theorem own3_below {W V : World} {B n : Nat} {x y z : Value} (h : own3 W B x y z) (hb : Below n W V) (hn : B < n) : own3 V B x y z := by
  obtain ⟨h, h0, h1, h2, hf⟩ := h
  have := hb.size
  exact ⟨by omega, (hb.cell (p := ⟨B, 0, none⟩) hn).trans h0, (hb.cell (p := ⟨B, 1, none⟩) hn).trans h1, (hb.cell (p := ⟨B, 2, none⟩) hn).trans h2, fun j => (hb.frozen (p := ⟨B, j, none⟩) hn).trans (hf j)⟩
theorem own3_far {W : World} {B C : Nat} {x y z : Value} (h : own3 W B x y z) (hC : C ≠ B) (i : Nat) (v : Value) : own3 (W.setCell ⟨C, i, none⟩ v) B x y z := by
  obtain ⟨h, h0, h1, h2, hf⟩ := h
  exact ⟨by simpa using h, (set_far hC).trans h0, (set_far hC).trans h1, (set_far hC).trans h2, fun j => by rw [World.frozen?_setCell]; exact hf j⟩
theorem own3_set {W : World} {B : Nat} {x y z : Value} (h : own3 W B x y z) (x' y' z' : Value) :
    own3 (((W.setCell ⟨B, 0, none⟩ x').setCell ⟨B, 1, none⟩ y').setCell ⟨B, 2, none⟩ z') B x' y' z' := by
  obtain ⟨h, h0, h1, h2, hf⟩ := h
  exact ⟨by simpa using h, (set_other (i := 2) (j := 0) (by omega)).trans ((set_other (i := 1) (j := 0) (by omega)).trans (set_same h0)),
   (set_other (i := 2) (j := 1) (by omega)).trans (set_same ((set_other (i := 0) (j := 1) (by omega)).trans h1)),
   set_same ((set_other (i := 1) (j := 2) (by omega)).trans ((set_other (i := 0) (j := 2) (by omega)).trans h2)), fun j => by rw [World.frozen?_setCell, World.frozen?_setCell, World.frozen?_setCell]; exact hf j⟩
set_option maxHeartbeats 1000000 in
theorem sum_any (a b c a' b' c' : Int) (blk cap : Nat) (w : World) (hblk : blk < w.heap.size)
   (h0 : w.cell? ⟨blk, 0, none⟩ = some (.int .i64 a)) (h1 : w.cell? ⟨blk, 1, none⟩ = some (.int .i64 b)) (h2 : w.cell? ⟨blk, 2, none⟩ = some (.int .i64 c))
   (h3 : w.cell? ⟨blk, 3, none⟩ = some (.int .i64 a')) (h4 : w.cell? ⟨blk, 4, none⟩ = some (.int .i64 b')) (h5 : w.cell? ⟨blk, 5, none⟩ = some (.int .i64 c')) :
    Calls Try.prog 19 #[.slice (some ⟨blk, 0, none⟩) 2 cap] w fun e w' => e = .returned (.agg #[.int .i64 (wrap64 (wrap64 a + a')), .int .i64 (wrap64 (wrap64 b + b')), .int .i64 (wrap64 (wrap64 c + c'))]) ∧ Below w.heap.size w w' := by
  have i0 := idx0 (.int .i64 a) (.int .i64 b) (.int .i64 c)
  have i1 := idx1 (.int .i64 a) (.int .i64 b) (.int .i64 c)
  have i2 := idx2 (.int .i64 a) (.int .i64 b) (.int .i64 c)
  have j0 := idx0 (.int .i64 a') (.int .i64 b') (.int .i64 c')
  have j1 := idx1 (.int .i64 a') (.int .i64 b') (.int .i64 c')
  have j2 := idx2 (.int .i64 a') (.int .i64 b') (.int .i64 c')
  go_enter Try.func19, Try.ntmps19
  go_wp2_with fail
  refine wp_loop_rounds 3 ?_
  rw [rounds_succ]
  go_wp2_with fail
  refine (of_any _ _ _ _).mono ?_
  rintro e w1 ⟨rfl, hb1⟩
  have o0 := own3_below (own3_alloc (own3_alloc (own3_new w (.int .i64 0) (.int .i64 0) (.int .i64 0) 42) (.cells #[.int .i64 0, .int .i64 0, .int .i64 0] 42)) (.cells #[.int .i64 a, .int .i64 b, .int .i64 c] 24)) hb1 (by simp only [World.size_alloc]; omega)
  have o1 := own3_below (own3_alloc (own3_new (w.alloc (.cells #[.int .i64 0, .int .i64 0, .int .i64 0] 42)) (.int .i64 0) (.int .i64 0) (.int .i64 0) 42) (.cells #[.int .i64 a, .int .i64 b, .int .i64 c] 24)) hb1 (by simp only [World.size_alloc]; omega)
  rw [World.size_alloc] at o1
  have hz1 := hb1.size
  simp only [World.size_alloc] at hz1
  have hb2 : Below w.heap.size w w1 := ((((Below.refl _ _).alloc (Nat.le_refl _) _).alloc (by simp) _).alloc (by simp; omega) _).trans (hb1.mono (by simp; omega))
  have g3 := cell_later hb2 h3
  have g4 := cell_later hb2 h4
  have g5 := cell_later hb2 h5
  obtain ⟨_, u0, u1, u2, uf⟩ := id o1
  go_wp2_with fail
  refine wp_loop_rounds 4 ?_
  rw [rounds_succ]; go_wp2_with fail
  rw [rounds_succ]; go_wp2_with fail
  rw [rounds_succ]; go_wp2_with fail
  rw [rounds_succ]; go_wp2_with fail
  rw [rounds_succ]; go_wp2_with fail
  refine (of_any _ _ _ _).mono ?_
  rintro e w2 ⟨rfl, hb3⟩
  have o0' := own3_below (own3_alloc (own3_far (own3_far (own3_far o0 (show w.heap.size + 1 ≠ _ by omega) 0 (.int .i64 (wrap64 a))) (show w.heap.size + 1 ≠ _ by omega) 1 (.int .i64 (wrap64 b))) (show w.heap.size + 1 ≠ _ by omega) 2 (.int .i64 (wrap64 c))) (.cells #[.int .i64 a', .int .i64 b', .int .i64 c'] 24)) hb3 (by simp only [World.size_alloc, World.size_setCell]; omega)
  have o1' := own3_below (own3_alloc (own3_set o1 (.int .i64 (wrap64 a)) (.int .i64 (wrap64 b)) (.int .i64 (wrap64 c))) (.cells #[.int .i64 a', .int .i64 b', .int .i64 c'] 24)) hb3 (by simp only [World.size_alloc, World.size_setCell]; omega)
  have hsz2 := hb3.size
  simp only [World.size_alloc, World.size_setCell] at hsz2
  have hb4 : Below w.heap.size w w2 := ((((hb2.setCell (by simp) _).setCell (by simp) _).setCell (by simp) _).alloc (by simp only [World.size_setCell]; omega) _).trans (hb3.mono (by simp only [World.size_alloc, World.size_setCell]; omega))
  clear i0 i1 i2 h0 h1 h2 h3 h4 h5 g3 g4 g5 hb1 hb3 u0 u1 u2 uf o0 o1
  have fin := own3_set (own3_far (own3_far (own3_far o0' (show w.heap.size + 1 ≠ _ by omega) 0 (.int .i64 (wrap64 (wrap64 a + a')))) (show w.heap.size + 1 ≠ _ by omega) 1 (.int .i64 (wrap64 (wrap64 b + b')))) (show w.heap.size + 1 ≠ _ by omega) 2 (.int .i64 (wrap64 (wrap64 c + c')))) (.int .i64 (wrap64 (wrap64 a + a'))) (.int .i64 (wrap64 (wrap64 b + b'))) (.int .i64 (wrap64 (wrap64 c + c')))
  have FIN := Lib.hid fin
  clear fin
  obtain ⟨_, v0, v1, v2, vf⟩ := o0'
  obtain ⟨_, u0, u1, u2, uf⟩ := o1'
  go_wp2_with fail
  refine wp_loop_rounds 4 ?_
  rw [rounds_succ]; go_wp2_with fail
  rw [rounds_succ]; go_wp2_with fail
  rw [rounds_succ]; go_wp2_with fail
  rw [rounds_succ]; go_wp2_with fail
  rw [rounds_succ]; go_wp2_with fail
  obtain ⟨_, f0, f1, f2, _⟩ := FIN.out
  exact bodyPost_ret (v := .agg #[.int .i64 (wrap64 (wrap64 a + a')), .int .i64 (wrap64 (wrap64 b + b')), .int .i64 (wrap64 (wrap64 c + c'))]) (by simp [results, Try.results19, go_sem, f0, f1, f2]) rfl ⟨rfl, (((((hb4.setCell (by simp) _).setCell (by simp) _).setCell (by simp) _).setCell (by simp) _).setCell (by simp) _).setCell (by simp) _⟩
end Go.Proofs.Ytbdmkgdgbpfhpaa
