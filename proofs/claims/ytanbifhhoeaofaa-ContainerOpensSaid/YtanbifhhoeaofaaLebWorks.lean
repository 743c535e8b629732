/- The walk of the fixed examples of layer 1. No conditions. -/
import Derived.Test.YtanbifhhoeaofaaLebPut
import Derived.Test.YtanbifhhoeaofaaLebGet
namespace Go.Proofs.Ytanbifhhoeaofaa
set_option linter.unusedVariables false
open Go Go.RowKit
theorem digs300 : digs 300 = [172, 2] := by rw [digs_ge (by decide), digs_lt (by decide)]
theorem str300 : lebStr 300 = ⟨#[172, 2]⟩ := by rw [lebStr, digs300]; rfl
theorem str0 : lebStr 0 = ⟨#[0]⟩ := by rw [lebStr, digs_lt (by decide)]; rfl
theorem get1 : Got (lebGet ⟨#[172, 2, 7]⟩ 0) = .returned (.tuple #[.int .u64 300, .int .i64 2, .int .i64 0]) := by
  rw [show lebGet ⟨#[172, 2, 7]⟩ 0 = (300, 2, 0) by decide]; rfl
theorem get2 : Got (lebGet ⟨#[128, 0]⟩ 0) = .returned (.tuple #[.int .u64 0, .int .i64 0, .int .i64 3]) := by
  rw [show lebGet ⟨#[128, 0]⟩ 0 = (0, 0, 3) by decide]; rfl
theorem get3 : Got (lebGet ⟨#[128]⟩ 0) = .returned (.tuple #[.int .u64 0, .int .i64 0, .int .i64 2]) := by
  rw [show lebGet ⟨#[128]⟩ 0 = (0, 0, 2) by decide]; rfl
theorem get4 : Got (lebGet ⟨#[]⟩ 1) = .returned (.tuple #[.int .u64 0, .int .i64 1, .int .i64 1]) := by
  rw [show lebGet ⟨#[]⟩ 1 = (0, 1, 1) by decide]; rfl
theorem get_ex {s : ByteArray} {a : Int} {e0 : Ending} (h : Got (lebGet s a) = e0) (hs : s.size ≤ maxLen) (w : World) :
    Calls Try.prog 53 #[.string s, .int .i64 a] w fun e w' => e = e0 ∧ w = w' :=
  (get_any s a w hs).mono fun _ _ ⟨he, hw⟩ => ⟨he.trans h, hw⟩
theorem put_ex {m : Nat} {s : ByteArray} (h : lebStr m = s) (hm : U64 m) (w : World) :
    Calls Try.prog 46 #[.int .u64 m] w fun e w' => e = .returned (.string s) ∧ Below w.heap.size w w' :=
  (put_any m hm w).mono fun _ _ ⟨he, hw⟩ => ⟨he.trans (by rw [h]), hw⟩
theorem later {W w1 w2 : World} (h : Below W.heap.size W w1) (hb : Below w1.heap.size w1 w2) : Below W.heap.size W w2 := h.trans (hb.mono h.size)

end Go.Proofs.Ytanbifhhoeaofaa

