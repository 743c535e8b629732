/- The walks of the fixed examples of layer 2 and of four of its laws. No conditions. -/
import Derived.Test.YtpnljefgenniaaaZig
namespace Go.Proofs.Ytpnljefgenniaaa
set_option linter.unusedVariables false
open Go Go.RowKit
theorem zig_ex {n : Int} {u : Nat} (h : zigF n = u) (hn : I64 n) (w : World) :
    Calls Try.prog 80 #[.int .i64 n] w fun e w' => e = .returned (.int .u64 (u : Nat)) ∧ Below w.heap.size w w' :=
  (zig_any n hn w).mono fun _ _ ⟨he, hw⟩ => ⟨he.trans (by rw [h]), hw⟩
theorem zag_ex {n : Int} {u : Nat} (h : zagF u = n) (hn : U64 u) (w : World) :
    Calls Try.prog 77 #[.int .u64 (u : Nat)] w fun e w' => e = .returned (.int .i64 n) ∧ w = w' :=
  (zag_any u hn w).mono fun _ _ ⟨he, hw⟩ => ⟨he.trans (by rw [h]), hw⟩
theorem zput_ex {n : Int} {s : ByteArray} (h : lebStr (zigF n) = s) (hn : I64 n) (w : World) :
    Calls Try.prog 71 #[.int .i64 n] w fun e w' => e = .returned (.string s) ∧ Below w.heap.size w w' :=
  (zput_any n hn w).mono fun _ _ ⟨he, hw⟩ => ⟨he.trans (by rw [h]), hw⟩
theorem zget_ex {s : ByteArray} {a : Int} {e0 : Ending} (h : ZGot (zigGet s a) = e0) (hs : s.size ≤ maxLen) (w : World) :
    Calls Try.prog 51 #[.string s, .int .i64 a] w fun e w' => e = e0 ∧ w = w' :=
  (zget_any s a w hs).mono fun _ _ ⟨he, hw⟩ => ⟨he.trans h, hw⟩
theorem zget1 : ZGot (zigGet ⟨#[3]⟩ 0) = .returned (.tuple #[.int .i64 (-2), .int .i64 1, .int .i64 0]) := by
  rw [show zigGet ⟨#[3]⟩ 0 = (-2, 1, 0) by decide]; rfl
theorem str3 : lebStr (zigF (-2)) = ⟨#[3]⟩ := by rw [show zigF (-2) = 3 by decide, lebStr, digs_lt (by decide)]; rfl
theorem zagmax : zagF 18446744073709551615 = -9223372036854775808 := by rw [zagF, if_neg (by omega)]; rfl

theorem i64_of {a : Int} (h : (Lit.int .i64 a).wf = true) : I64 a := by
  simpa [I64, Lit.wf, IntKind.min, IntKind.max, IntKind.signed, IntKind.bits] using h
theorem zigF_odd (n : Int) : (zigF n % 2 = 1) ↔ n < 0 := by unfold zigF; split <;> omega

theorem zgot_back (a : ByteArray) {n : Int} (hn : I64 n) (b : ByteArray) : ZGot (zigGet (a ++ lebStr (zigF n) ++ b) a.size) = .returned (.tuple #[.int .i64 n, .int .i64 ((a.size : Int) + ((lebStr (zigF n)).size : Nat)), .int .i64 0]) := by
  rw [zigGet, lebGet_back a (zigF_u64 hn) b, if_pos rfl, zagF_zigF]; rfl
end Go.Proofs.Ytpnljefgenniaaa

