/- The walks of the fixed examples of layer 2 and of four of its laws. No conditions. -/
import Derived.Test.YtanbifhhoeaofaaZig
namespace Go.Proofs.Ytanbifhhoeaofaa
set_option linter.unusedVariables false
open Go Go.RowKit
theorem zget1 : ZGot (zigGet ⟨#[3]⟩ 0) = .returned (.tuple #[.int .i64 (-2), .int .i64 1, .int .i64 0]) := by
  rw [show zigGet ⟨#[3]⟩ 0 = (-2, 1, 0) by decide]; rfl
theorem str3 : lebStr (zigF (-2)) = ⟨#[3]⟩ := by rw [show zigF (-2) = 3 by decide, lebStr, digs_lt (by decide)]; rfl
theorem zagmax : zagF 18446744073709551615 = -9223372036854775808 := by rw [zagF, if_neg (by omega)]; rfl

theorem i64_of {a : Int} (h : (Lit.int .i64 a).wf = true) : I64 a := by
  simpa [I64, Lit.wf, IntKind.min, IntKind.max, IntKind.signed, IntKind.bits] using h
theorem zigF_odd (n : Int) : (zigF n % 2 = 1) ↔ n < 0 := by unfold zigF; split <;> omega

theorem zgot_back (a : ByteArray) {n : Int} (hn : I64 n) (b : ByteArray) : ZGot (zigGet (a ++ lebStr (zigF n) ++ b) a.size) = .returned (.tuple #[.int .i64 n, .int .i64 ((a.size : Int) + ((lebStr (zigF n)).size : Nat)), .int .i64 0]) := by
  rw [zigGet, lebGet_back a (zigF_u64 hn) b, if_pos rfl, zagF_zigF]; rfl
end Go.Proofs.Ytanbifhhoeaofaa

