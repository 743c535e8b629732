/- Plain laws on turned bits of a text: no program. No conditions. -/
import Derived.Test.YtanbifhhoeaofaaCrcPlain
namespace Go.Proofs.Ytanbifhhoeaofaa
set_option linter.unusedVariables false

theorem pow_mul_xor (k a b : Nat) : 2 ^ k * (a ^^^ b) = (2 ^ k * a) ^^^ (2 ^ k * b) := by
  apply Nat.eq_of_testBit_eq
  intro i
  rw [Nat.testBit_xor, Nat.testBit_two_pow_mul, Nat.testBit_two_pow_mul, Nat.testBit_two_pow_mul, Nat.testBit_xor]
  by_cases h : k ≤ i <;> simp [h]
theorem num_zip : ∀ (a b : List UInt8), a.length = b.length → num (a.zipWith (· ^^^ ·) b) = num a ^^^ num b := by
  intro a
  induction a with
  | nil => intro b h; cases b with | nil => rfl | cons => simp at h
  | cons x a ih =>
    intro b h
    cases b with
    | nil => simp at h
    | cons y b =>
      simp only [List.zipWith_cons_cons, num]
      rw [ih b (by simpa using h), byte_split _ _ (u8lt _), byte_split _ _ (u8lt x), byte_split _ _ (u8lt y), UInt8.toNat_xor, pow_mul_xor 8, xor4]
theorem num_set (y : UInt8) : ∀ (l : List UInt8) (j : Nat) (h : j < l.length), num (l.set j (l[j] ^^^ y)) = num l ^^^ (2 ^ (8 * j) * y.toNat) := by
  intro l
  induction l with
  | nil => intro j h; simp at h
  | cons x l ih =>
    intro j h
    cases j with
    | zero =>
      simp only [List.set_cons_zero, List.getElem_cons_zero, num, Nat.mul_zero, Nat.pow_zero, Nat.one_mul]
      rw [byte_split _ _ (u8lt _), byte_split _ _ (u8lt x), UInt8.toNat_xor, Nat.xor_assoc, Nat.xor_comm y.toNat, Nat.xor_assoc]
    | succ j =>
      simp only [List.set_cons_succ, List.getElem_cons_succ, num]
      rw [ih j (by simpa using h), byte_split _ _ (u8lt x), byte_split _ _ (u8lt x), pow_mul_xor 8, show 8 * (j + 1) = 8 + 8 * j by omega, Nat.pow_add, Nat.mul_assoc, Nat.xor_assoc]
theorem low_succ (m i : Nat) : m % 2 ^ (i + 1) = (m % 2 ^ i) ^^^ (2 ^ i * (m / 2 ^ i % 2)) := by
  apply Nat.eq_of_testBit_eq
  intro j
  rw [Nat.testBit_xor, Nat.testBit_mod_two_pow, Nat.testBit_mod_two_pow, Nat.testBit_two_pow_mul, show (2 : Nat) = 2 ^ 1 by rfl, Nat.testBit_mod_two_pow, Nat.testBit_div_two_pow]
  by_cases h : j < i
  · simp [h, show j < i + 1 by omega, show ¬ i ≤ j by omega]
  · by_cases h2 : j = i
    · subst h2; simp
    · simp [h, show ¬ j < i + 1 by omega, show ¬ j - i < 1 by omega]
/-- the text behind i rounds, as a number -/
def burst (n at_ m : Nat) : Nat := 2 ^ at_ * m % 2 ^ (8 * n)
theorem burst_zero (n at_ m : Nat) : burst n at_ (m % 2 ^ 0) = 0 := by unfold burst; rw [Nat.pow_zero, Nat.mod_one, Nat.mul_zero, Nat.zero_mod]
theorem burst_next (n at_ m i : Nat) : burst n at_ (m % 2 ^ (i + 1)) = burst n at_ (m % 2 ^ i) ^^^ (2 ^ (at_ + i) * (m / 2 ^ i % 2) % 2 ^ (8 * n)) := by
  unfold burst
  rw [low_succ, pow_mul_xor, Nat.xor_mod_two_pow, ← Nat.mul_assoc, ← Nat.pow_add]
theorem burst_skip (n at_ m i : Nat) (h : 8 * n ≤ at_ + i ∨ m / 2 ^ i % 2 = 0) : burst n at_ (m % 2 ^ (i + 1)) = burst n at_ (m % 2 ^ i) := by
  rw [burst_next]
  have : 2 ^ (at_ + i) * (m / 2 ^ i % 2) % 2 ^ (8 * n) = 0 := by
    rcases h with h | h
    · rw [show at_ + i = 8 * n + (at_ + i - 8 * n) by omega, Nat.pow_add, Nat.mul_assoc, Nat.mul_mod_right]
    · rw [h, Nat.mul_zero, Nat.zero_mod]
  rw [this, Nat.xor_zero]
theorem burst_hit (n at_ m i : Nat) (h : at_ + i < 8 * n) (hb : m / 2 ^ i % 2 = 1) : burst n at_ (m % 2 ^ (i + 1)) = burst n at_ (m % 2 ^ i) ^^^ 2 ^ (at_ + i) := by
  rw [burst_next, hb, Nat.mul_one, Nat.mod_eq_of_lt (Nat.pow_lt_pow_right (by omega) h)]
theorem pow_byte (k : Nat) : 2 ^ (8 * (k / 8)) * 2 ^ (k % 8) = 2 ^ k := by rw [← Nat.pow_add, Nat.div_add_mod]
theorem num_turn (l : List UInt8) (k : Nat) (h : k / 8 < l.length) : num (l.set (k / 8) (l[k / 8] ^^^ UInt8.ofNat (2 ^ (k % 8)))) = num l ^^^ 2 ^ k := by
  rw [num_set, ofNat_lt, pow_byte]
  exact Nat.pow_lt_pow_right (m := k % 8) (n := 8) (by omega) (by omega)
theorem burst_done (n at_ m : Nat) (h : at_ ≤ 8 * n) : burst n at_ m = 2 ^ at_ * (m % 2 ^ (8 * n - at_)) := by
  unfold burst
  rw [show 2 ^ (8 * n) = 2 ^ at_ * 2 ^ (8 * n - at_) by rw [← Nat.pow_add]; congr 1; omega, Nat.mul_mod_mul_left]
theorem burst_far (n at_ m : Nat) (h : 8 * n ≤ at_) : burst n at_ m = 0 := by
  unfold burst
  rw [show at_ = 8 * n + (at_ - 8 * n) by omega, Nat.pow_add, Nat.mul_assoc, Nat.mul_mod_right]
/-- what Turn makes of a text -/
def Turned (w x : List UInt8) (at_ m : Nat) : Prop := x.length = w.length ∧ num x = num w ^^^ burst w.length at_ m
theorem turned_good {w x : List UInt8} {at_ m : Nat} (h4 : 4 ≤ w.length) (hw : crcGood w = true) (hm : m < 2 ^ 32) (h : Turned w x at_ m) : crcGood x = true ↔ x = w := by
  obtain ⟨hl, hx⟩ := h
  by_cases ha : at_ ≤ 8 * w.length
  · rw [burst_done _ _ _ ha] at hx
    exact crcBurst w x at_ _ hl h4 hw (Nat.lt_of_le_of_lt (Nat.mod_le _ _) hm) ha hx
  · rw [burst_far _ _ _ (by omega), Nat.xor_zero] at hx
    have := num_inj hl hx
    subst this
    exact ⟨fun _ => rfl, fun _ => hw⟩
/-- three texts of one length, turned by each other -/
theorem crcSum_xor3 (a b c : List UInt8) (h1 : a.length = b.length) (h2 : a.length = c.length) :
    crcSum ((a.zipWith (· ^^^ ·) b).zipWith (· ^^^ ·) c) = crcSum a ^^^ crcSum b ^^^ crcSum c := by
  unfold crcSum
  rw [crcRun_num, crcRun_num _ a, crcRun_num _ b, crcRun_num _ c, num_zip _ _ (by simp [h1]; omega), num_zip _ _ h1, ← h1, ← h2]
  have hl : ((a.zipWith (· ^^^ ·) b).zipWith (· ^^^ ·) c).length = a.length := by simp; omega
  rw [hl]
  rw [show (4294967295 ^^^ ((num a ^^^ num b) ^^^ num c) : Nat) = (4294967295 ^^^ num a) ^^^ (4294967295 ^^^ num b) ^^^ (4294967295 ^^^ num c) by
    rw [xor4 4294967295 (num a), Nat.xor_self, Nat.zero_xor, ← Nat.xor_assoc, ← Nat.xor_assoc (num a ^^^ num b), Nat.xor_comm (num a ^^^ num b) 4294967295], crcSteps_xor, crcSteps_xor]
  rw [xor4 _ 4294967295 _ 4294967295, Nat.xor_self, Nat.xor_zero, ← Nat.xor_assoc]
theorem crcNext_inj {c d b : Nat} (hc : c < 2 ^ 32) (hd : d < 2 ^ 32) (hb : b < 256) : crcNext c b = crcNext d b ↔ c = d := by
  constructor
  · intro h
    have := crcSteps_inj 8 (Nat.xor_lt_two_pow hc (by omega)) (Nat.xor_lt_two_pow hd (by omega)) h
    have e : (c ^^^ b) ^^^ b = (d ^^^ b) ^^^ b := by rw [this]
    rwa [Nat.xor_assoc, Nat.xor_self, Nat.xor_zero, Nat.xor_assoc, Nat.xor_self, Nat.xor_zero] at e
  · rintro rfl; rfl
theorem crcNext_both (c d b : Nat) : crcNext (c ^^^ d) b = crcNext c b ^^^ crcNext d b ^^^ crcNext 0 b := by
  have h1 := crcNext_xor c d b b
  have h2 := crcNext_xor (c ^^^ d) 0 0 b
  rw [Nat.xor_self] at h1
  rw [Nat.xor_zero, Nat.zero_xor] at h2
  rw [h2, h1]
theorem crcSum_snoc (s : List UInt8) (b : UInt8) : crcNext (crcSum s ^^^ 4294967295) b.toNat ^^^ 4294967295 = crcSum (s ++ [b]) := by
  unfold crcSum
  rw [crcRun_append, Nat.xor_assoc, Nat.xor_self, Nat.xor_zero]; rfl
end Go.Proofs.Ytanbifhhoeaofaa

