/- The law ScoreOne at whatever list and mutant. No conditions. -/
import Derived.Test.YtbdmkgdgbpfhpaaW10
import Derived.Test.YtbdmkgdgbpfhpaaW13
namespace Go.Proofs.Ytbdmkgdgbpfhpaa
set_option linter.unusedVariables false
open Go.RowKit Go.ChangeShapes Go.WideShapes Go.Deep
section
variable {H : Type} {enc : TypeId × Value → H} {w : World} {base : Nat} {spare : Nat → Bool} {held : Bool}
theorem open_mu1 {W : World} {v : Value} {d : DataW H} {p : List MemPlace} {b0 : Nat} {r : Reach} (hv : Value.okWide Try.prog W r b0 39 v) (h : DataW.Trod enc Try.prog W 0 (fun _ => true) true 39 v d p) :
    ∃ mm : Mu, v = mmA mm ∧ True := by
  obtain ⟨cs, rfl, hsz⟩ := okWide_struct Try.underlying39 hv
  obtain ⟨fuel, hf⟩ := h
  obtain ⟨mm, e, _⟩ := open_mu hf
  refine ⟨mm, ?_, trivial⟩
  unfold mmA muCells8
  simp only [Value.cells] at e
  rw [← e]
end
set_option maxRecDepth 100000 in
set_option maxHeartbeats 2000000 in
theorem walk_one (a : Option Addr) (la ca : Nat) (A : Nat → Mu) (mm : Mu) (w : World) (hA : Muts w a la A ∧ la ≤ maxLen ∧ Sl a la ca ∧ ∀ i, i < la → (Lit.int .i64 (A i).v).wf = true) (_ : True) :
    Calls Try.prog 7 #[.slice a la ca, mmA mm] w fun e w' => e = .returned (.bool true) ∧ Below w.heap.size w w' := by
  obtain ⟨hA, la1, na, _⟩ := hA
  by_cases h : la ≤ 400
  · exact one_in a la ca A mm w hA na h
  · unfold maxLen at la1
    clear hA na
    have HB0 := Lib.hid ((Below.refl _ w).alloc (Nat.le_refl _) (.cells (muCells8 mm).toArray 39))
    unfold muCells8 at HB0
    unfold mmA muCells8
    go_enter Try.func7, Try.ntmps7
    go_wp2_with fail
    generalize w.alloc (.cells #[.slice mm.pa mm.pl mm.pc, .int .i64 mm.op, .int .i64 mm.n, .int .i64 mm.v, .int .i64 mm.t, .int .i64 mm.o1, .int .i64 mm.o2, .string mm.d] 39) = V0 at HB0 ⊢
    refine (works_any V0).mono ?_
    rintro e w1 ⟨rfl, hb1⟩
    go_wp2_with fail
    go_ret
    exact ⟨rfl, HB0.out.trans (hb1.mono HB0.out.size)⟩
end Go.Proofs.Ytbdmkgdgbpfhpaa
