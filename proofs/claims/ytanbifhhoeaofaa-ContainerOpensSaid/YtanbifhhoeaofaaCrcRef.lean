/- The references of crc: Next, Sum, Tail, Good. No conditions. -/
import Derived.Test.YtanbifhhoeaofaaCrcGood
import Derived.Test.YtanbifhhoeaofaaBytes
namespace Go.Proofs.Ytanbifhhoeaofaa
set_option linter.unusedVariables false
open Go Go.RowKit

theorem crcStep_odd {c : Nat} (h : c % 2 = 1) : crcStep c = c / 2 ^^^ 3988292384 := by unfold crcStep; rw [if_pos h]
theorem crcStep_even {c : Nat} (h : ¬ c % 2 = 1) : crcStep c = c / 2 := by unfold crcStep; rw [if_neg h, Nat.xor_zero]
set_option maxRecDepth 100000 in
set_option maxHeartbeats 1600000 in
theorem rnext_any (c x : Nat) (w : World) (hc : c < 4294967296) (hx : x < 256) :
    Calls Try.prog 62 #[.int .u32 c, .int .u8 x] w fun e w' => e = .returned (.int .u32 (crcNext c x : Nat)) ∧ w = w' := by
  obtain ⟨d, hd⟩ : ∃ d, c ^^^ x = d := ⟨_, rfl⟩
  have hdl : d < 4294967296 := by rw [← hd]; exact Nat.xor_lt_two_pow (n := 32) (by omega) (by omega)
  have hxr : bits BinOp.xor IntKind.u32 (c : Int) (x : Int) = (d : Int) := by rw [← hd]; exact u32_xor_nat c x hc (by omega)
  have HD := Lib.hid hd
  clear hd
  go_enter Try.func62, Try.ntmps62
  go_wp2
  go_loop [0, 5] (fun y j => ∃ q : Nat, q ≤ 8 ∧ j = .int .i64 q ∧ y = .int .u32 (crcSteps q d : Nat)) (fun _ j => 8 - (intOf j).toNat)
  case atStart => exact ⟨0, by omega, rfl, rfl⟩
  case round =>
    obtain ⟨q, hq, rfl, rfl⟩ := hrel
    obtain ⟨m, hm⟩ : ∃ m, crcSteps q d = m := ⟨_, rfl⟩
    have hml : m < 4294967296 := by rw [← hm]; exact crcSteps_lt q (by omega)
    have hsn := crcSteps_snoc q d
    rw [hm] at hsn ⊢
    have HN := Lib.hid hsn
    have HM := Lib.hid hm
    clear hsn hm
    by_cases hlq : q < 8
    · by_cases hb : m % 2 = 1
      · have hb1 : ((m : Int) % 2 == 1) = true := by simp; omega
        have hxs : bits BinOp.xor IntKind.u32 ((m : Int) / 2) 3988292384 = ((m / 2 ^^^ 3988292384 : Nat) : Int) := by
          rw [← u32_xor_nat (m / 2) 3988292384 (by omega) (by omega)]; congr 1
        have HO := Lib.hid (crcStep_odd hb)
        clear hb
        go_wp2
        go_round
        case rel => exact ⟨q + 1, by omega, by go_num, by rw [HN.out, HO.out]⟩
        case measure => simp [intOf]; omega
      · have hb1 : ((m : Int) % 2 == 1) = false := by simp; omega
        have HO := Lib.hid (crcStep_even hb)
        clear hb
        go_wp2
        go_round
        case rel => exact ⟨q + 1, by omega, by go_num, by rw [HN.out, HO.out]; go_num⟩
        case measure => simp [intOf]; omega
    · obtain rfl : q = 8 := by omega
      go_wp2
      go_ret
      exact ⟨by rw [crcNext, HD.out, HM.out]; rfl, rfl⟩

set_option maxRecDepth 100000 in
set_option maxHeartbeats 1600000 in
theorem rsum_any (s : ByteArray) (w : World) (hs : s.size ≤ 9223372036854775807) :
    Calls Try.prog 45 #[.string s] w fun e w' => e = .returned (.int .u32 (crcSum s.data.toList : Nat)) ∧ w = w' := by
  go_enter Try.func45, Try.ntmps45
  go_wp2
  go_loop [3, 4] (fun c i => ∃ k : Nat, k ≤ s.size ∧ i = .int .i64 k ∧ c = .int .u32 (crcRun 4294967295 (s.data.toList.take k) : Nat)) (fun _ i => s.size - (intOf i).toNat)
  case atStart => exact ⟨0, by omega, rfl, rfl⟩
  case round =>
    obtain ⟨k, hk, rfl, rfl⟩ := hrel
    obtain ⟨c, hc⟩ : ∃ c, crcRun 4294967295 (s.data.toList.take k) = c := ⟨_, rfl⟩
    have hcl : c < 4294967296 := by rw [← hc]; exact crcRun_lt (by decide) _
    by_cases hlt : k < s.size
    · have hsn := crcRun_take 4294967295 s k hlt
      rw [hc] at hsn ⊢
      have HN := Lib.hid hsn
      clear hsn hc
      go_wp2_with (go_at_call 62; refine (rnext_any c _ _ hcl (u8lt _)).mono ?_; rintro e W ⟨rfl, rfl⟩)
      go_round
      case rel => exact ⟨k + 1, by omega, by go_num, by rw [HN.out]⟩
      case measure => simp [intOf]; omega
    · obtain rfl : k = s.size := by omega
      rw [hc]
      rw [List.take_of_length_le (by simp)] at hc
      have HC := Lib.hid hc
      clear hc
      go_wp2
      go_ret
      refine ⟨?_, rfl⟩
      rw [crcSum_eq, HC.out]
      have : (4294967295 : Int) - (c : Int) = ((4294967295 - c : Nat) : Int) := by omega
      rw [← this]; rfl

theorem bytes4_snoc (c k : Nat) (h : k < 4) : (bytes4 c).take (k + 1) = (bytes4 c).take k ++ [UInt8.ofNat (c / 256 ^ k % 256)] := by
  match k, h with
  | 0, _ => simp [bytes4]
  | 1, _ => rfl
  | 2, _ => rfl
  | 3, _ => rfl
set_option maxRecDepth 100000 in
set_option maxHeartbeats 1600000 in
theorem rtail_any (s : ByteArray) (w : World) (hs : s.size ≤ 9223372036854775807) :
    Calls Try.prog 30 #[.string s] w fun e w' => e = .returned (.string (strOf (crcTail s.data.toList))) ∧ Below w.heap.size w w' := by
  obtain ⟨c, hc⟩ : ∃ c, crcSum s.data.toList = c := ⟨_, rfl⟩
  have hcl : c < 4294967296 := by rw [← hc]; exact crcSum_lt _
  have HC := Lib.hid hc
  clear hc
  go_enter Try.func30, Try.ntmps30
  go_wp2_with (go_at_call 45; refine (rsum_any s _ hs).mono ?_; rintro e w1 ⟨rfl, rfl⟩; rw [HC.out])
  go_loopw [3, 4, 5] (fun y v i wr => ∃ k : Nat, k ≤ 4 ∧ i = .int .i64 k ∧ y = .int .u32 (c / 256 ^ k : Nat) ∧ BRow wr w.heap.size v ((bytes4 c).take k) ∧ Below w.heap.size w wr) (fun _ _ i _ => 4 - (intOf i).toNat)
  case atStart => exact ⟨0, by omega, rfl, by simp, BRow.nil _ _, Below.refl _ _⟩
  case round =>
    obtain ⟨k, hk, rfl, rfl, hrow, hb⟩ := hrel
    obtain ⟨q, hq⟩ : ∃ q, c / 256 ^ k = q := ⟨_, rfl⟩
    have hql : q < 4294967296 := by rw [← hq]; exact Nat.lt_of_le_of_lt (Nat.div_le_self _ _) hcl
    have hsn := fun h => bytes4_snoc c k h
    have hll : ((bytes4 c).take k).length = k := by rw [List.length_take, bytes4_len]; omega
    rw [hq] at hsn ⊢
    have hpow : c / 256 ^ (k + 1) = q / 256 := by rw [Nat.pow_succ, ← Nat.div_div_eq_div_mul, hq]
    generalize hL : (bytes4 c).take k = L at hrow hsn hll
    have HS := Lib.hid hsn
    have HL := Lib.hid hL
    have HLL := Lib.hid hll
    have HP := Lib.hid hpow
    have HB := Lib.hid hb
    clear hsn hL hq hll hpow hb
    by_cases hlt : k < 4
    · go_wp2_with (at_builtin; refine append_byte rfl _ _ rfl w.heap.size _ _ rfl hrow (UInt8.ofNat (q % 256)) _ ?c1 rfl HB.out.size ?c2 ?_; rotate_left; rotate_left; intro v' w' hown hg)
      case c1 => rw [ofNat_lt (by omega)]; omega
      case c2 => rw [HLL.out]; omega
      go_wp2
      go_roundw
      case rel => exact ⟨k + 1, by omega, by go_num, by rw [HP.out]; go_num, by rw [HS.out hlt]; exact hown, (HB.out.alloc HB.out.size _).grown hg (by have := HB.out.size; simp; omega) hrow.own⟩
      case measure => simp [intOf]; omega
    · obtain rfl : k = 4 := by omega
      have hcv := hrow.conv
      have HR := Lib.hid hrow
      clear hrow
      go_wp2
      go_ret
      refine ⟨?_, HB.out⟩
      have : L = bytes4 c := by rw [← HL.out]; exact List.take_of_length_le (by rw [bytes4_len]; omega)
      rw [crcTail, HC.out, this]; rfl
end Go.Proofs.Ytanbifhhoeaofaa

