/- The walks of zigzag: Zig, Zag, Put, Get. No conditions. -/
import Derived.Test.YtanbifhhoeaofaaLebRefGet
import Derived.Laws.EntriesVeiled
namespace Go.Proofs.Ytanbifhhoeaofaa
set_option linter.unusedVariables false
open Go Go.RowKit
/-- the number without a sign that tells n -/
def zigF (n : Int) : Nat := if 0 ≤ n then (2 * n).toNat else (-2 * n - 1).toNat
/-- the number that is told by u -/
def zagF (u : Nat) : Int := if u % 2 = 0 then ((u / 2 : Nat) : Int) else -((u / 2 : Nat) : Int) - 1
def I64 (n : Int) : Prop := -9223372036854775808 ≤ n ∧ n ≤ 9223372036854775807
theorem zagF_zigF (n : Int) : zagF (zigF n) = n := by
  unfold zagF zigF; split <;> split <;> omega
theorem zigF_zagF (u : Nat) : zigF (zagF u) = u := by
  unfold zagF zigF; split <;> split <;> omega
theorem zigF_u64 {n : Int} (h : I64 n) : U64 (zigF n) := by
  unfold I64 at h; unfold U64 zigF; split <;> omega
theorem zagF_i64 {u : Nat} (h : U64 u) : I64 (zagF u) := by
  unfold U64 at h; unfold I64 zagF; split <;> omega

theorem bv_neg1 : BitVec.ofInt 64 (-1) = BitVec.allOnes 64 := by decide
theorem xor_ones (x : Nat) (hx : x < 18446744073709551616) : (BitVec.ofInt 64 (x : Int) ^^^ BitVec.allOnes 64).toNat = 18446744073709551615 - x := by
  rw [BitVec.xor_allOnes, BitVec.toNat_not, BitVec.ofInt_natCast, BitVec.toNat_ofNat, Nat.mod_eq_of_lt (by simpa using hx)]
theorem zig_neg (x : Nat) (h : U64 x) : bits BinOp.xor IntKind.u64 IntKind.u64.max (x : Int) = ((18446744073709551615 - x : Nat) : Int) := by
  show IntKind.u64.wrap ((BitVec.ofInt 64 IntKind.u64.max ^^^ BitVec.ofInt 64 (x : Int)).toNat : Int) = _
  rw [show BitVec.ofInt 64 IntKind.u64.max = BitVec.allOnes 64 by decide, BitVec.xor_comm, xor_ones x h, IntKind.wrap_u64]
  omega
theorem and_one (m : Nat) (h : U64 m) : bits BinOp.and IntKind.u64 (m : Int) 1 = ((m % 2 : Nat) : Int) := by
  have := bits_and_u64_nat m 1 h (by omega)
  rw [Nat.and_one_is_mod] at this
  exact this
theorem zag_val (m : Nat) (h : U64 m) : bits BinOp.xor IntKind.i64 (wrap64 ((m : Int) / 2)) (wrap64 (-wrap64 (bits BinOp.and IntKind.u64 (m : Int) 1))) = zagF m := by
  rw [and_one m h]
  have e1 : wrap64 ((m : Int) / 2) = ((m / 2 : Nat) : Int) := by unfold U64 at h; unfold wrap64; omega
  have hx : m / 2 < 18446744073709551616 := by unfold U64 at h; omega
  rw [e1]
  unfold zagF
  by_cases hm : m % 2 = 0
  · rw [if_pos hm, hm]
    have e2 : wrap64 (-wrap64 ((0 : Nat) : Int)) = 0 := by unfold wrap64; decide
    rw [e2]
    show IntKind.i64.wrap ((BitVec.ofInt 64 ((m / 2 : Nat) : Int) ^^^ BitVec.ofInt 64 0).toNat : Int) = _
    rw [show BitVec.ofInt 64 0 = 0#64 by decide, BitVec.xor_zero, BitVec.ofInt_natCast, BitVec.toNat_ofNat, Nat.mod_eq_of_lt (by simpa using hx), IntKind.wrap_i64]
    unfold U64 at h; omega
  · rw [if_neg hm, show m % 2 = 1 by omega]
    have e2 : wrap64 (-wrap64 ((1 : Nat) : Int)) = -1 := by unfold wrap64; decide
    rw [e2]
    show IntKind.i64.wrap ((BitVec.ofInt 64 ((m / 2 : Nat) : Int) ^^^ BitVec.ofInt 64 (-1)).toNat : Int) = _
    rw [bv_neg1, xor_ones _ hx, IntKind.wrap_i64]
    unfold U64 at h; omega

/-- what a reading of a number with a sign answers -/
def zigGet (s : ByteArray) (a : Int) : Int × Int × Nat := if (lebGet s a).2.2 = 0 then (zagF (lebGet s a).1, (lebGet s a).2.1, 0) else (0, a, (lebGet s a).2.2)
def ZGot (r : Int × Int × Nat) : Ending := .returned (.tuple #[.int .i64 r.1, .int .i64 r.2.1, .int .i64 (r.2.2 : Nat)])
end Go.Proofs.Ytanbifhhoeaofaa

