/- The walk of leb.Get: what it answers at every text and place. No conditions. -/
import Derived.Test.YtanbifhhoeaofaaRows
import Derived.Test.YtanbifhhoeaofaaLebGetPlain
import Derived.WalkKit
import Derived.WalkSpells
import Derived.WalkLawsBesides
import Derived.Lib.Hide
import Derived.Handy
namespace Go.Proofs.Ytanbifhhoeaofaa
set_option linter.unusedVariables false
open Go Go.RowKit
theorem and127 : ∀ a : Fin 256, bits BinOp.and IntKind.u8 ((a.val : Nat) : Int) 127 = ((a.val % 128 : Nat) : Int) := by decide +kernel
theorem and_low {b : Nat} (h : b < 256) : bits BinOp.and IntKind.u8 (b : Int) 127 = ((b % 128 : Nat) : Int) := and127 ⟨b, h⟩

def W64 (n : Nat) : Nat := n % 18446744073709551616
theorem or_shift (q c k : Nat) (hq : q < 128 ^ k) (hk : k ≤ 9) :
    bits BinOp.or IntKind.u64 (q : Int) (IntKind.u64.wrap ((c : Int) * 2 ^ (7 * k))) = ((W64 (q + 128 ^ k * c) : Nat) : Int) := by
  have e : (c : Int) * 2 ^ (7 * k) = ((c * 2 ^ (7 * k) : Nat) : Int) := by simp
  have e2 : IntKind.u64.wrap ((c * 2 ^ (7 * k) : Nat) : Int) = ((c * 2 ^ (7 * k) % 18446744073709551616 : Nat) : Int) := by
    rw [IntKind.wrap_u64]; omega
  have e3 : 128 ^ k = 2 ^ (7 * k) := by rw [Nat.pow_mul]
  rw [e3] at hq ⊢
  have e4 : c * 2 ^ (7 * k) % 18446744073709551616 = (c % 2 ^ (64 - 7 * k)) * 2 ^ (7 * k) := by
    rw [show (18446744073709551616 : Nat) = 2 ^ (64 - 7 * k) * 2 ^ (7 * k) by rw [← Nat.pow_add, show 64 - 7 * k + 7 * k = 64 by omega]]
    exact Nat.mul_mod_mul_right _ _ _
  have hq64 : q < 18446744073709551616 := Nat.lt_of_lt_of_le hq (by
    rw [show (18446744073709551616 : Nat) = 2 ^ 64 by rfl]; exact Nat.pow_le_pow_right (by omega) (by omega))
  rw [e, e2, bits_or_u64_nat q _ hq64 (Nat.mod_lt _ (by omega)), e4]
  congr 1
  have h1 : (c % 2 ^ (64 - 7 * k)) * 2 ^ (7 * k) = (c % 2 ^ (64 - 7 * k)) <<< (7 * k) := (Nat.shiftLeft_eq _ _).symm
  rw [h1, Nat.or_comm, ← Nat.shiftLeft_add_eq_or_of_lt hq, Nat.shiftLeft_eq, ← e4, W64]
  have hc2 : (c % 2 ^ (64 - 7 * k)) * 2 ^ (7 * k) + q < 18446744073709551616 := by
    have h3 : c % 2 ^ (64 - 7 * k) + 1 ≤ 2 ^ (64 - 7 * k) := Nat.mod_lt _ (Nat.two_pow_pos _)
    have h4 := Nat.mul_le_mul_right (2 ^ (7 * k)) h3
    rw [← Nat.pow_add, show 64 - 7 * k + 7 * k = 64 by omega, Nat.add_mul] at h4
    have : (2 : Nat) ^ 64 = 18446744073709551616 := by rfl
    omega
  rw [← e4] at hc2
  rw [Nat.mul_comm (2 ^ (7 * k)) c]
  omega

theorem tup3 {a a' : Nat} {b b' c c' : Int} (h1 : a = a') (h2 : b = b') (h3 : c = c') : Ending.returned (.tuple #[.int .u64 (a : Int), .int .i64 b, .int .i64 c]) = .returned (.tuple #[.int .u64 (a' : Int), .int .i64 b', .int .i64 c']) := by rw [h1, h2, h3]
def Tells (s : ByteArray) (a : Nat) (e : Ending) : Prop := e = .returned (.tuple #[.int .u64 ((getF (bytesFrom s a)).1 : Nat), .int .i64 ((a : Int) + ((getF (bytesFrom s a)).2.1 : Nat)), .int .i64 ((getF (bytesFrom s a)).2.2 : Nat)])
theorem tells_short {s : ByteArray} {a k : Nat} (h : (bytesFrom s a).length = k) (h10 : k < 10) (hg : ∀ j, j < k → 128 ≤ (bytesFrom s a).getD j 0) : Tells s a (.returned (.tuple #[.int .u64 0, .int .i64 a, .int .i64 2])) := by
  unfold Tells; rw [getF, if_pos (endAt_short h h10 hg), if_pos (by omega)]; exact tup3 (a := 0) rfl (by simp) rfl
theorem tells_none {s : ByteArray} {a : Nat} (hg : ∀ j, j < 10 → j < (bytesFrom s a).length ∧ 128 ≤ (bytesFrom s a).getD j 0) : Tells s a (.returned (.tuple #[.int .u64 0, .int .i64 a, .int .i64 3])) := by
  unfold Tells; rw [getF, if_pos (endAt_none10 hg).1, if_neg (by have := (endAt_none10 hg).2; omega)]; exact tup3 (a := 0) rfl (by simp) rfl
theorem tells_bad {s : ByteArray} {a k : Nat} (he : endAt 10 (bytesFrom s a) = k + 1) (h : (0 < k ∧ (bytesFrom s a).getD k 0 = 0) ∨ (k = 9 ∧ 1 < (bytesFrom s a).getD k 0)) : Tells s a (.returned (.tuple #[.int .u64 0, .int .i64 a, .int .i64 3])) := by
  unfold Tells; rw [getF, if_neg (by omega), if_pos (by rw [he]; simpa using h)]; exact tup3 (a := 0) rfl (by simp) rfl
theorem tells_ok {s : ByteArray} {a k : Nat} (hk : k ≤ 9) (hl : k < (bytesFrom s a).length) (he : endAt 10 (bytesFrom s a) = k + 1) (h : ¬ ((0 < k ∧ (bytesFrom s a).getD k 0 = 0) ∨ (k = 9 ∧ 1 < (bytesFrom s a).getD k 0))) (h128 : (bytesFrom s a).getD k 0 < 128) :
    Tells s a (.returned (.tuple #[.int .u64 ((W64 (val ((bytesFrom s a).take k) + 128 ^ k * ((bytesFrom s a).getD k 0 % 128)) : Nat) : Int), .int .i64 ((a : Int) + (k + 1)), .int .i64 0])) := by
  unfold Tells; rw [getF, if_neg (by omega), if_neg (by rw [he]; simpa using h)]
  refine tup3 ?_ (by rw [he]; simp) rfl
  rw [he, take_snoc' hl, val_snoc, List.length_take_of_le (by omega)]
  unfold W64
  refine Nat.mod_eq_of_lt ?_
  have h1 := val_lt ((bytesFrom s a).take k)
  rw [List.length_take_of_le (by omega)] at h1
  by_cases h9 : k = 9
  · subst h9
    have : (bytesFrom s a).getD 9 0 ≤ 1 := by omega
    have h2 : 128 ^ 9 * ((bytesFrom s a).getD 9 0 % 128) ≤ 128 ^ 9 * 1 := Nat.mul_le_mul_left _ (by omega)
    omega
  · have h2 : 128 ^ k * ((bytesFrom s a).getD k 0 % 128 + 1) ≤ 128 ^ k * 128 := Nat.mul_le_mul_left _ (by omega)
    have h3 : 128 ^ k * 128 ≤ 128 ^ 9 := by rw [← Nat.pow_succ]; exact Nat.pow_le_pow_right (by omega) (by omega)
    rw [Nat.mul_add] at h2
    omega

theorem w64_val {l : List Nat} {k : Nat} (hk : k ≤ 9) : W64 (val (l.take k)) = val (l.take k) := by
  refine Nat.mod_eq_of_lt ?_
  have h1 := val_lt (l.take k)
  have h2 : 128 ^ (l.take k).length ≤ 128 ^ 9 := Nat.pow_le_pow_right (by omega) (by have := List.length_take_le k l; omega)
  omega

set_option maxRecDepth 100000 in
set_option maxHeartbeats 2000000 in
theorem get_in (s : ByteArray) (a : Nat) (w : World) (hs : s.size ≤ maxLen) (ha : a ≤ s.size) :
    Calls Try.prog 53 #[.string s, .int .i64 a] w fun e w' => Tells s a e ∧ w = w' := by
  obtain ⟨l, hl⟩ : ∃ l, bytesFrom s a = l := ⟨_, rfl⟩
  have hlen : l.length = s.size - a := by rw [← hl]; exact bytesFrom_length s a
  have hget : ∀ j, (h : a + j < s.size) → l.getD j 0 = (s[a + j]'h).toNat := fun j h => by rw [← hl]; exact bytesFrom_getD s a j h
  have HL := Lib.hid hl
  have HLEN := Lib.hid hlen
  have HGET := Lib.hid hget
  clear hl hlen hget
  unfold maxLen at hs
  have hA : decide ((a : Int) < 0) = false := by simp
  have hB : decide (s.size < a) = false := by simp; omega
  go_enter Try.func53, Try.ntmps53
  go_wp2_with fail
  go_step3
  go_wp2_with fail
  go_step3
  go_wp2_with fail
  go_loop [7, 8] (fun n i => ∃ k : Nat, k ≤ 10 ∧ a + k ≤ s.size ∧ i = .int .i64 k ∧ n = .int .u64 (W64 (val (l.take k))) ∧ ∀ j, j < k → 128 ≤ l.getD j 0) (fun _ i => 10 - (intOf i).toNat)
  case atStart => exact ⟨0, by omega, by omega, rfl, rfl, fun j hj => by omega⟩
  case round =>
    obtain ⟨k, hk, hk2, rfl, rfl, hge⟩ := hrel
    have HGE := Lib.hid hge
    clear hge
    by_cases h10 : k < 10
    · have hne : ((k : Int) == 10) = false := by simp; omega
      by_cases hend : a + k < s.size
      · have hne2 : ((a : Int) + k == s.size) = false := by simp; omega
        have HW := Lib.hid (w64_val (l := l) (k := k) (by omega))
        rw [HW.out]
        have hlk : k < l.length := by rw [HLEN.out]; omega
        have HTL : Hid ((l.take k).length = k) := Lib.hid (List.length_take_of_le (by omega))
        have hq := val_lt (l.take k)
        rw [HTL.out] at hq
        obtain ⟨q, hqq⟩ : ∃ q, val (l.take k) = q := ⟨_, rfl⟩
        rw [hqq] at hq ⊢
        have HQ := Lib.hid hqq
        obtain ⟨b, hbb⟩ : ∃ b : Nat, s[a + k].toNat = b := ⟨_, rfl⟩
        have hb256 : b < 256 := by rw [← hbb]; exact (s[a + k]).toNat_lt
        have HLB : Hid (l.getD k 0 = b) := Lib.hid ((HGET.out k hend).trans hbb)
        obtain ⟨c, hc⟩ : ∃ c, b % 128 = c := ⟨_, rfl⟩
        have hand := and_low hb256
        rw [hc] at hand
        have hc128 : c < 128 := by omega
        obtain ⟨t, ht⟩ : ∃ t : Nat, W64 (q + 128 ^ k * c) = t := ⟨_, rfl⟩
        have hor := or_shift q c k hq (by omega)
        rw [ht] at hor
        have HT := Lib.hid ht
        have HC := Lib.hid hc
        clear ht hc hqq hq
        by_cases hb : b < 128
        · have HE : Hid (endAt 10 (bytesFrom s a) = k + 1) := Lib.hid (by rw [HL.out]; exact endAt_at hlk h10 HGE.out (by rw [HLB.out]; exact hb))
          by_cases hb0 : b = 0
          · have z0 : ((b : Int) == 0) = true := by simp; omega
            have HB0 := Lib.hid hb0
            clear hb0
            by_cases hk0 : 0 < k
            · go_wp2_with fail
              go_ret3
              exact ⟨tells_bad HE.out (.inl ⟨hk0, by rw [HL.out, HLB.out]; exact HB0.out⟩), rfl⟩
            · have z1 : ((k : Int) + 1 == 10) = false := by simp; omega
              go_wp2_with fail
              rw [Exit.noGoto_ret]
              go_ret3
              refine ⟨?_, rfl⟩
              have := tells_ok (by omega) (by rw [HL.out]; exact hlk) HE.out (by rw [HL.out, HLB.out]; omega) (by rw [HL.out, HLB.out]; exact hb)
              rw [HL.out, HLB.out, HQ.out, HC.out, HT.out] at this
              exact this
          · have z0 : ((b : Int) == 0) = false := by simp; omega
            have HB0 := Lib.hid hb0
            clear hb0
            by_cases hk9 : k < 9
            · have z1 : ((k : Int) + 1 == 10) = false := by simp; omega
              go_wp2_with fail
              rw [Exit.noGoto_ret]
              go_ret3
              refine ⟨?_, rfl⟩
              have := tells_ok (by omega) (by rw [HL.out]; exact hlk) HE.out (by rw [HL.out, HLB.out]; have := HB0.out; omega) (by rw [HL.out, HLB.out]; exact hb)
              rw [HL.out, HLB.out, HQ.out, HC.out, HT.out] at this
              exact this
            · have z1 : ((k : Int) + 1 == 10) = true := by simp; omega
              have K9 : Hid (k = 9) := Lib.hid (by omega)
              clear hk9
              by_cases hb1 : 1 < b
              · go_wp2_with fail
                rw [Exit.noGoto_ret]
                go_ret3
                exact ⟨tells_bad HE.out (.inr ⟨K9.out, by rw [HL.out, HLB.out]; exact hb1⟩), rfl⟩
              · go_wp2_with fail
                rw [Exit.noGoto_ret]
                go_ret3
                refine ⟨?_, rfl⟩
                have := tells_ok (by omega) (by rw [HL.out]; exact hlk) HE.out (by rw [HL.out, HLB.out]; have := HB0.out; omega) (by rw [HL.out, HLB.out]; exact hb)
                rw [HL.out, HLB.out, HQ.out, HC.out, HT.out] at this
                exact this
        · go_wp2_with fail
          go_round
          case rel =>
            refine ⟨k + 1, by omega, by omega, by go_num, ?_, fun j hj => ?_⟩
            · rw [take_snoc' hlk, val_snoc, HTL.out, HLB.out, HC.out, HQ.out, HT.out]
            · by_cases hjk : j < k
              · exact HGE.out j hjk
              · obtain rfl : j = k := by omega
                rw [HLB.out]; omega
          case measure => simp [intOf]; omega
      · have hne2 : ((a : Int) + k == s.size) = true := by simp; omega
        go_wp2_with fail
        go_ret3
        exact ⟨tells_short (k := k) (by rw [HL.out, HLEN.out]; omega) h10 (by rw [HL.out]; exact HGE.out), rfl⟩
    · have hne : ((k : Int) == 10) = true := by simp; omega
      go_wp2_with fail
      go_ret3
      exact ⟨tells_none (fun j hj => by rw [HL.out]; exact ⟨by rw [HLEN.out]; omega, HGE.out j (by omega)⟩), rfl⟩

set_option maxHeartbeats 400000 in
theorem get_out (s : ByteArray) (a : Int) (w : World) (hs : s.size ≤ maxLen) (ha : a < 0 ∨ (s.size : Int) < a) :
    Calls Try.prog 53 #[.string s, .int .i64 a] w fun e w' => e = .returned (.tuple #[.int .u64 0, .int .i64 a, .int .i64 1]) ∧ w = w' := by
  unfold maxLen at hs
  by_cases h : a < 0
  · go_enter Try.func53, Try.ntmps53
    go_wp2_with fail
    go_step3
    go_wp2_with fail
    rw [Exit.noGoto_ret]
    go_ret3
    exact ⟨rfl, rfl⟩
  · have h2 : (s.size : Int) < a := by omega
    clear ha
    go_enter Try.func53, Try.ntmps53
    go_wp2_with fail
    go_step3
    go_wp2_with fail
    rw [Exit.noGoto_ret]
    go_ret3
    exact ⟨rfl, rfl⟩

/-- what a reading of a number answers -/
def Got (r : Nat × Int × Nat) : Ending := .returned (.tuple #[.int .u64 (r.1 : Int), .int .i64 r.2.1, .int .i64 (r.2.2 : Nat)])
theorem get_any (s : ByteArray) (a : Int) (w : World) (hs : s.size ≤ maxLen) :
    Calls Try.prog 53 #[.string s, .int .i64 a] w fun e w' => e = Got (lebGet s a) ∧ w = w' := by
  by_cases h : a < 0 ∨ (s.size : Int) < a
  · rw [show lebGet s a = (0, a, 1) from by rw [lebGet, if_pos h]]
    exact get_out s a w hs h
  · rw [lebGet, if_neg h]
    obtain ⟨n, rfl⟩ := Int.eq_ofNat_of_zero_le (show 0 ≤ a by omega)
    exact get_in s n w hs (by omega)
end Go.Proofs.Ytanbifhhoeaofaa

