/- The document's foot and number of containers. No conditions. -/
import Derived.Test.YtanbifhhoeaofaaContRef1
import Derived.Test.YtanbifhhoeaofaaCrcRef
import Derived.Test.YtanbifhhoeaofaaContOpen
import Derived.Test.YtanbifhhoeaofaaContSeal
namespace Go.Proofs.Ytanbifhhoeaofaa
set_option linter.unusedVariables false
open Go Go.RowKit

set_option maxRecDepth 100000 in
set_option maxHeartbeats 4000000 in
theorem rfoot_any (n : Nat) (w : World) (hn : n < 4294967296) :
    Calls Try.prog 31 #[.int .i64 n] w fun e w' => e = .returned (.string (bStr (bytes4 n ++ endL))) ∧ Below w.heap.size w w' := by
  have HS := Lib.hid (fun k h => bytes4_snoc n k h)
  have HF := Lib.hid (show bStr ((bytes4 n).take 4) ++ (⟨#[69, 78, 68, 46]⟩ : ByteArray) = bStr (bytes4 n ++ endL) from bs2 (bytes4 n) endL)
  generalize bStr (bytes4 n ++ endL) = R at HF ⊢
  go_enter Try.func31, Try.ntmps31
  go_wp2_with fail
  go_loopw [0, 3, 4] (fun a s i wr => ∃ k q : Nat, k ≤ 4 ∧ i = .int .i64 k ∧ q = n / 256 ^ k ∧ a = .int .i64 q ∧ s = .string (bStr ((bytes4 n).take k)) ∧ Below w.heap.size w wr) (fun _ _ i _ => 4 - (intOf i).toNat)
  case atStart => exact ⟨0, n, by omega, rfl, by simp, rfl, rfl, Below.refl _ _⟩
  case round =>
    obtain ⟨k, q, hk, rfl, hq, rfl, rfl, hB⟩ := hrel
    have HB := Lib.hid hB
    have hql : q < 4294967296 := by rw [hq]; exact Nat.lt_of_le_of_lt (Nat.div_le_self _ _) hn
    have HQ := Lib.hid (show q / 256 = n / 256 ^ (k + 1) by rw [hq, Nat.div_div_eq_div_mul, Nat.pow_succ])
    have HQ2 := Lib.hid hq
    clear hB hq
    by_cases hlt : k < 4
    · have HN := Lib.hid (show bStr ((bytes4 n).take k) ++ (⟨#[UInt8.ofNat (q % 256)]⟩ : ByteArray) = bStr ((bytes4 n).take (k + 1)) by rw [HS.out k hlt, HQ2.out]; exact bs2 _ [_])
      have hsz : (bStr ((bytes4 n).take k)).size ≤ 4 := by rw [bStr_size, List.length_take]; omega
      have hs1 : (⟨#[UInt8.ofNat (q % 256)]⟩ : ByteArray).size ≤ 1 := Nat.le_refl _
      have hs2 : (bStr ((bytes4 n).take k)).size + (⟨#[UInt8.ofNat (q % 256)]⟩ : ByteArray).size ≤ 9223372036854775807 := by omega
      have hcv := conv1 (q % 256) (by omega)
      have hcm : (q : Int) % 256 = ((q % 256 : Nat) : Int) := by omega
      have hcd : (q : Int) / 256 = ((q / 256 : Nat) : Int) := by omega
      generalize bStr ((bytes4 n).take k) = S at HN hsz hs2 ⊢
      generalize q % 256 = b at *
      generalize q / 256 = q' at *
      go_wp2
      exact ⟨⟨k + 1, q', by omega, by go_num, HQ.out, rfl, by rw [HN.out], HB.out.alloc HB.out.size _⟩, by simp [intOf]; omega⟩
    · obtain rfl : k = 4 := by omega
      have hsz : (bStr ((bytes4 n).take 4)).size ≤ 4 := by rw [bStr_size, List.length_take]; omega
      generalize bStr ((bytes4 n).take 4) = S at HF hsz ⊢
      go_wp2
      go_ret
      exact ⟨by rw [← HF.out]; rfl, HB.out⟩
def numR (s : ByteArray) : Nat → Nat
  | 0 => 0
  | k + 1 => numR s k * 256 + byteAt s (3 - k)
theorem numR_4 (s : ByteArray) : numR s 4 = num4 s 0 := by
  show (((0 * 256 + byteAt s 3) * 256 + byteAt s 2) * 256 + byteAt s 1) * 256 + byteAt s 0 = byteAt s 0 + 256 * byteAt s 1 + 65536 * byteAt s 2 + 16777216 * byteAt s 3
  omega
theorem numR_lt (s : ByteArray) (k : Nat) : numR s k < 256 ^ k := by
  induction k with
  | zero => simp [numR]
  | succ k ih =>
    have : byteAt s (3 - k) < 256 := UInt8.toNat_lt _
    rw [numR, Nat.pow_succ]; omega
theorem numR_step (s : ByteArray) (k i : Nat) (hk : k < 4) (hi : 3 - k = i) (h : i < s.size) : wrap64 (wrap64 (((numR s k : Nat) : Int) * 256) + wrap64 ((s[i].toNat : Nat) : Int)) = ((numR s (k + 1) : Nat) : Int) := by
  have h1 := numR_lt s k
  have h2 : 256 ^ k ≤ 256 ^ 3 := Nat.pow_le_pow_right (by omega) (by omega)
  have h3 : s[i].toNat < 256 := UInt8.toNat_lt _
  rw [numR, hi, byteAt_get h]
  generalize s[i].toNat = b at *
  generalize numR s k = a at *
  unfold wrap64
  omega
set_option maxRecDepth 100000 in
set_option maxHeartbeats 4000000 in
theorem rnumber_any (s : ByteArray) (w : World) (hs : s.size = 4) :
    Calls Try.prog 39 #[.string s] w fun e w' => e = .returned (.int .i64 (num4 s 0 : Nat)) ∧ w = w' := by
  have H4 := Lib.hid (numR_4 s)
  go_enter Try.func39, Try.ntmps39
  go_wp2_with fail
  go_loopw [3, 4] (fun n i wr => ∃ k : Nat, k ≤ 4 ∧ i = .int .i64 (3 - (k : Int)) ∧ n = .int .i64 (numR s k : Nat) ∧ w = wr) (fun _ i _ => (match i with | .int _ z => z + 1 | _ => 0).toNat)
  case atStart => exact ⟨0, by omega, rfl, rfl, rfl⟩
  case round =>
    obtain ⟨k, hk, rfl, rfl, rfl⟩ := hrel
    by_cases hlt : k < 4
    · have hk0 : k = 0 ∨ k = 1 ∨ k = 2 ∨ k = 3 := by omega
      rcases hk0 with rfl | rfl | rfl | rfl
      · have hst := Lib.hid (numR_step s 0 3 (by omega) rfl (by omega))
        go_wp2_with fail
        exact ⟨⟨1, by omega, by rfl, by rw [← hst.out], trivial⟩, by decide⟩
      · have hst := Lib.hid (numR_step s 1 2 (by omega) rfl (by omega))
        go_wp2_with fail
        exact ⟨⟨2, by omega, by rfl, by rw [← hst.out], trivial⟩, by decide⟩
      · have hst := Lib.hid (numR_step s 2 1 (by omega) rfl (by omega))
        go_wp2_with fail
        exact ⟨⟨3, by omega, by rfl, by rw [← hst.out], trivial⟩, by decide⟩
      · have hst := Lib.hid (numR_step s 3 0 (by omega) rfl (by omega))
        go_wp2_with fail
        exact ⟨⟨4, by omega, by rfl, by rw [← hst.out], trivial⟩, by decide⟩
    · obtain rfl : k = 4 := by omega
      rw [H4.out]
      go_wp2_with fail
      go_ret
      exact ⟨rfl, rfl⟩
end Go.Proofs.Ytanbifhhoeaofaa

