/- Lists of mutants as rows of cells: what append makes of them; how verdicts of two lists add up. No conditions. -/
import Derived.Test.YtbdmkgdgbpfhpaaW6
namespace Go.Proofs.Ytbdmkgdgbpfhpaa
set_option linter.unusedVariables false
open Go.RowKit
/-- the cells of a mutant -/
def muCells8 (x : Mu) : List Value := [.slice x.pa x.pl x.pc, .int .i64 x.op, .int .i64 x.n, .int .i64 x.v, .int .i64 x.t, .int .i64 x.o1, .int .i64 x.o2, .string x.d]
def muCell (M : Nat → Mu) (j : Nat) : Value := (muCells8 (M (j / 8))).getD (j % 8) undef
def muRow (M : Nat → Mu) (n : Nat) : List Value := (List.range (n * 8)).map (muCell M)
theorem muRow_len (M : Nat → Mu) (n : Nat) : (muRow M n).length = n * 8 := by simp [muRow]
theorem muRow_get (M : Nat → Mu) (n j : Nat) (h : j < n * 8) : (muRow M n)[j]? = some (muCell M j) := by simp [muRow, h]
theorem muCell_at (M : Nat → Mu) (i j : Nat) (h : j < 8) : muCell M (i * 8 + j) = (muCells8 (M i)).getD j undef := by
  unfold muCell; rw [show (i * 8 + j) / 8 = i by omega, show (i * 8 + j) % 8 = j by omega]
def both (A B : Nat → Mu) (n : Nat) (i : Nat) : Mu := if i < n then A i else B (i - n)
theorem muRow_append (A B : Nat → Mu) (n m : Nat) : muRow A n ++ muRow B m = muRow (both A B n) (n + m) := by
  apply List.ext_getElem?
  intro j
  by_cases h1 : j < n * 8
  · rw [List.getElem?_append_left (by rw [muRow_len]; exact h1), muRow_get _ _ _ h1, muRow_get _ _ _ (by omega)]
    unfold muCell both; rw [if_pos (by omega)]
  · rw [List.getElem?_append_right (by rw [muRow_len]; omega), muRow_len]
    by_cases h2 : j < (n + m) * 8
    · rw [muRow_get _ _ _ (by omega), muRow_get _ _ _ h2]
      unfold muCell both
      rw [if_neg (by omega), show (j - n * 8) / 8 = j / 8 - n by omega, show (j - n * 8) % 8 = j % 8 by omega]
    · rw [List.getElem?_eq_none (by rw [muRow_len]; omega), List.getElem?_eq_none (by rw [muRow_len]; omega)]
theorem muRow_zero (M : Nat → Mu) : muRow M 0 = [] := rfl
theorem muRow_one (M : Nat → Mu) (n : Nat) : ∀ u ∈ muRow M n, u.oneCell' = true := by
  intro u hu
  unfold muRow at hu
  obtain ⟨j, _, rfl⟩ := List.mem_map.1 hu
  unfold muCell muCells8
  have : j % 8 < 8 := Nat.mod_lt _ (by omega)
  match h : j % 8, this with
  | 0, _ => rfl
  | 1, _ => rfl
  | 2, _ => rfl
  | 3, _ => rfl
  | 4, _ => rfl
  | 5, _ => rfl
  | 6, _ => rfl
  | 7, _ => rfl
theorem mutAt.row {w : World} {b off len : Nat} {M : Nat → Mu} (h : mutAt w b off len M) : ∀ j u, (muRow M len)[j]? = some u → w.cell? ((⟨b, off, none⟩ : Addr).add j) = some u := by
  intro j u hu
  have hj : j < len * 8 := by have := (List.getElem?_eq_some_iff.1 hu).1; rwa [muRow_len] at this
  rw [muRow_get _ _ _ hj] at hu
  cases hu
  obtain ⟨h0, h1, h2, h3, h4, h5, h6, h7⟩ := h.2 (j / 8) (by omega)
  rw [add_mk, show off + j = off + (j / 8) * 8 + j % 8 by omega]
  unfold muCell muCells8
  have : j % 8 < 8 := Nat.mod_lt _ (by omega)
  match h : j % 8, this with
  | 0, _ => exact h0
  | 1, _ => exact h1
  | 2, _ => exact h2
  | 3, _ => exact h3
  | 4, _ => exact h4
  | 5, _ => exact h5
  | 6, _ => exact h6
  | 7, _ => exact h7
theorem Muts.of_row {w : World} {n₀ n : Nat} {v : Value} {M : Nat → Mu} (h : w.ownsRow n₀ 39 8 v n (muRow M n)) : ∃ a cap, v = .slice a n cap ∧ Muts w a n M ∧ (∀ b off, a = some ⟨b, off, none⟩ → n₀ ≤ b ∧ b < w.heap.size) := by
  obtain ⟨hl, h⟩ := h
  rcases h with ⟨rfl, rfl⟩ | ⟨g, cap, cur, rfl, hb, hg, hnc, hcm, hcur, htake⟩
  · exact ⟨none, 0, rfl, .inl rfl, fun b off h => by cases h⟩
  · have hlt : g < w.heap.size := (Array.getElem?_eq_some_iff.1 hg).1
    refine ⟨some ⟨g, 0, none⟩, cap, rfl, .inr ⟨g, 0, rfl, hlt, fun i hi => ?_⟩, fun b off h => by cases h; exact ⟨hb, hlt⟩⟩
    have hown : w.ownsRow n₀ 39 8 (.slice (some ⟨g, 0, none⟩) n cap) n (muRow M n) := ⟨hl, .inr ⟨g, cap, cur, rfl, hb, hg, hnc, hcm, hcur, htake⟩⟩
    have K : ∀ j, j < 8 → w.cell? ⟨g, 0 + i * 8 + j, none⟩ = some ((muCells8 (M i)).getD j undef) := by
      intro j hj
      rw [Nat.zero_add, hown.cellAt (i * 8 + j) (by omega), muRow_get _ _ _ (by omega), muCell_at _ _ _ hj]
    exact ⟨K 0 (by omega), K 1 (by omega), K 2 (by omega), K 3 (by omega), K 4 (by omega), K 5 (by omega), K 6 (by omega), K 7 (by omega)⟩
theorem info39 : (Try.prog.info? 39).map (fun i => (i.zero.map (fun z => z.cells.size), i.size, i.bytes)) = some (some 8, 8, 88) := by kernel_rfl
theorem cnt_both (A B : Nat → Mu) (n m : Nat) (v : Int) : cnt (fun i => (both A B n i).v) v (n + m) = cnt (fun i => (A i).v) v n + cnt (fun i => (B i).v) v m := by
  induction m with
  | zero =>
    rw [cnt_zero, Nat.add_zero, Nat.add_zero]
    unfold cnt
    congr 1
    apply List.filter_congr
    intro i hi
    simp only [List.mem_range] at hi
    simp [both, hi]
  | succ m ih =>
    rw [← Nat.add_assoc, cnt_succ, ih, cnt_succ]
    have : (both A B n (n + m)).v = (B m).v := by unfold both; rw [if_neg (by omega), Nat.add_sub_cancel_left]
    rw [this]; omega
theorem cnt3_le (vs : Nat → Int) (n : Nat) : cnt vs 0 n + cnt vs 1 n + cnt vs 2 n ≤ n := by
  induction n with
  | zero => simp [cnt_zero]
  | succ n ih =>
    rw [cnt_succ, cnt_succ, cnt_succ]
    by_cases h0 : vs n = 0
    · simp [h0]; omega
    · by_cases h1 : vs n = 1
      · simp [h1]; omega
      · by_cases h2 : vs n = 2
        · simp [h2]; omega
        · simp [h0, h1, h2]; omega
end Go.Proofs.Ytbdmkgdgbpfhpaa
