/- The law ScoreJoins at whatever lists. No conditions. -/
import Derived.Test.YtbdmkgdgbpfhpaaW9
namespace Go.Proofs.Ytbdmkgdgbpfhpaa
set_option linter.unusedVariables false
open Go.RowKit Go.ChangeShapes Go.WideShapes Go.Deep
section
variable {H : Type} {enc : TypeId × Value → H} {w : World} {base : Nat} {spare : Nat → Bool} {held : Bool}
theorem open_muts2 {W : World} {v : Value} {d : DataW H} {p : List MemPlace} {b0 : Nat} {r : Reach} (hv : Value.okWide Try.prog W r b0 22 v) (h : DataW.Trod enc Try.prog W 0 (fun _ => true) true 22 v d p) :
    ∃ (a : Option Addr) (len cap : Nat) (M : Nat → Mu), v = .slice a len cap ∧ (Muts W a len M ∧ len ≤ maxLen ∧ Sl a len cap ∧ ∀ i, i < len → (Lit.int .i64 (M i).v).wf = true) := by
  obtain ⟨a, len, cap, M, rfl, hM, hl, hw⟩ := open_muts hv h
  refine ⟨a, len, cap, M, rfl, hM, hl, fun ha => ?_, hw⟩
  subst ha
  obtain ⟨fuel, hf⟩ := h
  rcases open_slice Try.underlying22 hf with ⟨hcs, _⟩ | ⟨x, len', cap', m, n, D, Pl, hcs, _⟩
  · simp [Value.cells] at hcs; exact hcs
  · simp [Value.cells] at hcs
end
set_option maxRecDepth 100000 in
set_option maxHeartbeats 2000000 in
theorem walk_joins (a : Option Addr) (la ca : Nat) (A : Nat → Mu) (b : Option Addr) (lb cb : Nat) (B : Nat → Mu) (w : World) (hA : Muts w a la A ∧ la ≤ maxLen ∧ Sl a la ca ∧ ∀ i, i < la → (Lit.int .i64 (A i).v).wf = true) (hB : Muts w b lb B ∧ lb ≤ maxLen ∧ Sl b lb cb ∧ ∀ i, i < lb → (Lit.int .i64 (B i).v).wf = true) :
    Calls Try.prog 4 #[.slice a la ca, .slice b lb cb] w fun e w' => e = .returned (.bool true) ∧ Below w.heap.size w w' := by
  obtain ⟨hA, la1, na, _⟩ := hA
  obtain ⟨hB, lb1, nb, _⟩ := hB
  by_cases h : la ≤ 400 ∧ lb ≤ 400
  · exact joins_in a la ca A b lb cb B w hA hB na nb h.1 h.2
  · unfold maxLen at la1 lb1
    clear hA hB na nb
    by_cases h1 : la ≤ 400
    · have h2 : ¬ lb ≤ 400 := by omega
      clear h
      go_enter Try.func4, Try.ntmps4
      go_wp2_with fail
      refine (works_any _).mono ?_
      rintro e w1 ⟨rfl, hb1⟩
      go_wp2_with fail
      go_ret
      exact ⟨rfl, hb1⟩
    · clear h
      go_enter Try.func4, Try.ntmps4
      go_wp2_with fail
      refine (works_any _).mono ?_
      rintro e w1 ⟨rfl, hb1⟩
      go_wp2_with fail
      go_ret
      exact ⟨rfl, hb1⟩
end Go.Proofs.Ytbdmkgdgbpfhpaa
