/- Plain laws on a register of 32 bits that takes a text bit by bit: no program. No conditions. -/
namespace Go.Proofs.Ytanbifhhoeaofaa
set_option linter.unusedVariables false

/-- one bit of the register, of whatever size: the higher bits of a text may lie above it -/
def crcStep (c : Nat) : Nat := c / 2 ^^^ (if c % 2 = 1 then 3988292384 else 0)
def crcSteps : Nat → Nat → Nat
  | 0, c => c
  | k + 1, c => crcSteps k (crcStep c)
theorem crcSteps_add (a b c : Nat) : crcSteps (a + b) c = crcSteps b (crcSteps a c) := by
  induction a generalizing c with
  | zero => rw [Nat.zero_add]; rfl
  | succ a ih => rw [show a + 1 + b = a + b + 1 by omega]; exact ih _
theorem crcSteps_snoc (k c : Nat) : crcSteps (k + 1) c = crcStep (crcSteps k c) := crcSteps_add k 1 c
theorem xor4 (a b c d : Nat) : (a ^^^ b) ^^^ (c ^^^ d) = (a ^^^ c) ^^^ (b ^^^ d) := by
  rw [Nat.xor_assoc, Nat.xor_assoc, ← Nat.xor_assoc b, Nat.xor_comm b c, Nat.xor_assoc c]
theorem crcStep_xor (a b : Nat) : crcStep (a ^^^ b) = crcStep a ^^^ crcStep b := by
  unfold crcStep
  rw [Nat.xor_div_two, xor4]
  congr 1
  have h := Nat.xor_mod_two_eq_one (a := a) (b := b)
  by_cases ha : a % 2 = 1 <;> by_cases hb : b % 2 = 1
  · rw [if_neg (by rw [h]; simp [ha, hb]), if_pos ha, if_pos hb]; decide
  · rw [if_pos (by rw [h]; simp [ha, hb]), if_pos ha, if_neg hb]; decide
  · rw [if_pos (by rw [h]; simp [ha, hb]), if_neg ha, if_pos hb]; decide
  · rw [if_neg (by rw [h]; simp [ha, hb]), if_neg ha, if_neg hb]; decide
theorem crcSteps_xor (k a b : Nat) : crcSteps k (a ^^^ b) = crcSteps k a ^^^ crcSteps k b := by
  induction k generalizing a b with
  | zero => rfl
  | succ k ih => show crcSteps k (crcStep (a ^^^ b)) = _; rw [crcStep_xor, ih]; rfl
theorem crcStep_two (m : Nat) : crcStep (2 * m) = m := by
  unfold crcStep; rw [if_neg (by omega), Nat.xor_zero]; omega
theorem crcSteps_pow (k m : Nat) : crcSteps k (2 ^ k * m) = m := by
  induction k generalizing m with
  | zero => show 2 ^ 0 * m = m; simp
  | succ k ih => show crcSteps k (crcStep _) = m; rw [Nat.pow_succ, Nat.mul_comm (2 ^ k) 2, Nat.mul_assoc, crcStep_two, ih]
theorem crcStep_lt {c : Nat} (h : c < 2 ^ 32) : crcStep c < 2 ^ 32 := by
  unfold crcStep
  refine Nat.xor_lt_two_pow (by omega) ?_
  split <;> decide
theorem crcSteps_lt (k : Nat) {c : Nat} (h : c < 2 ^ 32) : crcSteps k c < 2 ^ 32 := by
  induction k generalizing c with
  | zero => exact h
  | succ k ih => exact ih (crcStep_lt h)
theorem xor_eq_zero {a b : Nat} (h : a ^^^ b = 0) : a = b := by
  have : (a ^^^ b) ^^^ b = 0 ^^^ b := by rw [h]
  rw [Nat.xor_assoc, Nat.xor_self, Nat.xor_zero, Nat.zero_xor] at this
  exact this
theorem crcStep_zero {c : Nat} (h : c < 2 ^ 32) (h0 : crcStep c = 0) : c = 0 := by
  unfold crcStep at h0
  by_cases hc : c % 2 = 1
  · rw [if_pos hc] at h0; have := xor_eq_zero h0; omega
  · rw [if_neg hc, Nat.xor_zero] at h0; omega
theorem crcSteps_zero (k : Nat) {c : Nat} (h : c < 2 ^ 32) (h0 : crcSteps k c = 0) : c = 0 := by
  induction k generalizing c with
  | zero => exact h0
  | succ k ih => exact crcStep_zero h (ih (crcStep_lt h) h0)
theorem crcSteps_of_zero (k : Nat) : crcSteps k 0 = 0 := by
  induction k with
  | zero => rfl
  | succ k ih => exact ih
theorem crcSteps_inj (k : Nat) {a b : Nat} (ha : a < 2 ^ 32) (hb : b < 2 ^ 32) (h : crcSteps k a = crcSteps k b) : a = b := by
  refine xor_eq_zero (crcSteps_zero k (Nat.xor_lt_two_pow ha hb) ?_)
  rw [crcSteps_xor, h, Nat.xor_self]

/-- the register behind a byte -/
def crcNext (c b : Nat) : Nat := crcSteps 8 (c ^^^ b)
theorem crcNext_lt {c b : Nat} (hc : c < 2 ^ 32) (hb : b < 256) : crcNext c b < 2 ^ 32 := crcSteps_lt 8 (Nat.xor_lt_two_pow hc (by omega))
theorem crcNext_xor (a b x y : Nat) : crcNext (a ^^^ b) (x ^^^ y) = crcNext a x ^^^ crcNext b y := by
  unfold crcNext; rw [xor4, crcSteps_xor]
theorem split256 (c : Nat) : c = (c % 256) ^^^ (2 ^ 8 * (c / 256)) := by
  apply Nat.eq_of_testBit_eq
  intro i
  rw [Nat.testBit_xor, show (256 : Nat) = 2 ^ 8 by rfl, Nat.testBit_mod_two_pow, Nat.testBit_two_pow_mul, Nat.testBit_div_two_pow]
  by_cases h : i < 8
  · simp [h, show ¬ 8 ≤ i by omega]
  · have : 8 ≤ i := by omega
    simp [h, this]
/-- by a table: a step of eight bits is the table's number for the lowest ones, turned by the higher ones -/
theorem crcNext_table (c b : Nat) : crcNext c b = crcSteps 8 ((c % 256) ^^^ b) ^^^ (c / 256) := by
  unfold crcNext
  rw [show c ^^^ b = ((c % 256) ^^^ b) ^^^ (2 ^ 8 * (c / 256)) by
    conv => lhs; rw [split256 c]
    rw [Nat.xor_assoc, Nat.xor_comm _ b, ← Nat.xor_assoc], crcSteps_xor, crcSteps_pow]

/-- a text as a number, the first byte lowest -/
def num : List UInt8 → Nat
  | [] => 0
  | x :: l => x.toNat + 256 * num l
theorem u8lt (x : UInt8) : x.toNat < 256 := x.toNat_lt
theorem num_lt (l : List UInt8) : num l < 2 ^ (8 * l.length) := by
  induction l with
  | nil => decide
  | cons x l ih =>
    have := u8lt x
    simp only [num, List.length_cons]
    rw [show 8 * (l.length + 1) = 8 * l.length + 8 by omega, Nat.pow_add]
    omega
theorem num_inj : ∀ {l m : List UInt8}, l.length = m.length → num l = num m → l = m := by
  intro l
  induction l with
  | nil => intro m h _; cases m with | nil => rfl | cons => simp at h
  | cons x l ih =>
    intro m h e
    cases m with
    | nil => simp at h
    | cons y m =>
      have hx := u8lt x
      have hy := u8lt y
      simp only [num] at e
      rw [ih (by simpa using h) (by omega), UInt8.toNat_inj.1 (show x.toNat = y.toNat by omega)]
theorem num_append (l m : List UInt8) : num (l ++ m) = num l + 2 ^ (8 * l.length) * num m := by
  induction l with
  | nil => simp [num]
  | cons x l ih =>
    simp only [List.cons_append, num, ih, List.length_cons]
    rw [show 8 * (l.length + 1) = 8 + 8 * l.length by omega, Nat.pow_add, Nat.mul_add, ← Nat.mul_assoc, ← Nat.add_assoc]
theorem byte_split (x m : Nat) (hx : x < 256) : x + 256 * m = x ^^^ (2 ^ 8 * m) := by
  have h := split256 (x + 256 * m)
  rw [show (x + 256 * m) % 256 = x by omega, show (x + 256 * m) / 256 = m by omega] at h
  exact h

/-- the register behind a text -/
def crcRun (c : Nat) : List UInt8 → Nat
  | [] => c
  | x :: l => crcRun (crcNext c x.toNat) l
theorem crcRun_append (c : Nat) (l m : List UInt8) : crcRun c (l ++ m) = crcRun (crcRun c l) m := by
  induction l generalizing c with
  | nil => rfl
  | cons x l ih => exact ih _
theorem crcRun_num (c : Nat) (l : List UInt8) : crcRun c l = crcSteps (8 * l.length) (c ^^^ num l) := by
  induction l generalizing c with
  | nil => show c = crcSteps 0 (c ^^^ 0); rw [Nat.xor_zero]; rfl
  | cons x l ih =>
    show crcRun (crcNext c x.toNat) l = crcSteps (8 * (l.length + 1)) (c ^^^ (x.toNat + 256 * num l))
    rw [ih, show 8 * (l.length + 1) = 8 + 8 * l.length by omega, crcSteps_add, byte_split _ _ (u8lt x), ← Nat.xor_assoc, crcSteps_xor 8, crcSteps_pow]
    rfl
theorem crcRun_lt {c : Nat} (h : c < 2 ^ 32) (l : List UInt8) : crcRun c l < 2 ^ 32 := by
  induction l generalizing c with
  | nil => exact h
  | cons x l ih => exact ih (crcNext_lt h (u8lt x))
theorem xor_ones32 {c : Nat} (h : c < 2 ^ 32) : c ^^^ 4294967295 = 4294967295 - c := by
  apply Nat.eq_of_testBit_eq
  intro i
  rw [Nat.testBit_xor, show 4294967295 - c = 2 ^ 32 - (c + 1) by omega, Nat.testBit_two_pow_sub_succ (by omega), show (4294967295 : Nat) = 2 ^ 32 - 1 by rfl, Nat.testBit_two_pow_sub_one]
  by_cases hi : i < 32
  · simp [hi]
  · simp [hi, Nat.testBit_lt_two_pow (Nat.lt_of_lt_of_le h (Nat.pow_le_pow_right (by omega) (show 32 ≤ i by omega)))]
/-- the sum of a text -/
def crcSum (l : List UInt8) : Nat := crcRun 4294967295 l ^^^ 4294967295
theorem crcSum_lt (l : List UInt8) : crcSum l < 2 ^ 32 := Nat.xor_lt_two_pow (crcRun_lt (by decide) l) (by decide)
theorem crcSum_eq (l : List UInt8) : crcSum l = 4294967295 - crcRun 4294967295 l := xor_ones32 (crcRun_lt (by decide) l)
/-- a number's four bytes -/
def bytes4 (c : Nat) : List UInt8 := [UInt8.ofNat (c % 256), UInt8.ofNat (c / 256 % 256), UInt8.ofNat (c / 65536 % 256), UInt8.ofNat (c / 16777216 % 256)]
theorem ofNat_lt {n : Nat} (h : n < 256) : (UInt8.ofNat n).toNat = n := by rw [UInt8.toNat_ofNat']; exact Nat.mod_eq_of_lt (by simpa using h)
theorem num_bytes4 {c : Nat} (h : c < 2 ^ 32) : num (bytes4 c) = c := by
  unfold bytes4
  simp only [num]
  rw [ofNat_lt (by omega), ofNat_lt (by omega), ofNat_lt (by omega), ofNat_lt (by omega)]
  omega
theorem bytes4_len (c : Nat) : (bytes4 c).length = 4 := rfl
def crcTail (l : List UInt8) : List UInt8 := bytes4 (crcSum l)
theorem crcTail_len (l : List UInt8) : (crcTail l).length = 4 := rfl
/-- does a text end with its tail? -/
def crcGood (l : List UInt8) : Bool := decide (4 ≤ l.length) && decide (crcTail (l.take (l.length - 4)) = l.drop (l.length - 4))
/-- the register behind a text that is good -/
theorem crcGood_iff (s t : List UInt8) (ht : t.length = 4) : crcTail s = t ↔ crcRun 4294967295 (s ++ t) = crcSteps 32 4294967295 := by
  have hc : crcRun 4294967295 s < 2 ^ 32 := crcRun_lt (by decide) s
  have hn : num t < 2 ^ 32 := by have := num_lt t; rw [ht] at this; exact this
  rw [crcRun_append, crcRun_num _ t, ht]
  unfold crcTail crcSum
  have hs := crcSum_lt s
  unfold crcSum at hs
  generalize crcRun 4294967295 s = R at hc hs ⊢
  constructor
  · intro h
    rw [← h, num_bytes4 hs, ← Nat.xor_assoc, Nat.xor_self, Nat.zero_xor]
  · intro h
    have e := crcSteps_inj 32 (Nat.xor_lt_two_pow hc hn) (by decide) h
    refine num_inj (by rw [bytes4_len, ht]) ?_
    rw [num_bytes4 hs]
    conv => lhs; rw [← e]
    rw [← Nat.xor_assoc, Nat.xor_self, Nat.zero_xor]
theorem crcGood_run (l : List UInt8) (h : 4 ≤ l.length) : crcGood l = true ↔ crcRun 4294967295 l = crcSteps 32 4294967295 := by
  have := crcGood_iff (l.take (l.length - 4)) (l.drop (l.length - 4)) (by rw [List.length_drop]; omega)
  rw [List.take_append_drop] at this
  rw [← this, crcGood]
  simp [h]
theorem crcGood_tail (s : List UInt8) : crcGood (s ++ crcTail s) = true := by
  unfold crcGood
  have h : (s ++ crcTail s).length - 4 = s.length := by rw [List.length_append, crcTail_len]; omega
  rw [h]
  simp [crcTail_len]
theorem crcGood_append (s t : List UInt8) (ht : t.length = 4) : crcGood (s ++ t) = decide (crcTail s = t) := by
  unfold crcGood
  have h : (s ++ t).length - 4 = s.length := by rw [List.length_append, ht]; omega
  rw [h]
  simp [ht]
/-- WHO TURNS BITS, NONE MORE THAN 31 BEHIND THE FIRST, IS FOUND OUT -/
theorem crcBurst (w x : List UInt8) (at_ m : Nat) (hl : x.length = w.length) (h4 : 4 ≤ w.length) (hw : crcGood w = true) (hm : m < 2 ^ 32) (hat : at_ ≤ 8 * w.length) (hx : num x = num w ^^^ (2 ^ at_ * m)) :
    crcGood x = true ↔ x = w := by
  constructor
  · intro h
    rw [crcGood_run x (by omega)] at h
    rw [crcGood_run w h4] at hw
    rw [← hw, crcRun_num, crcRun_num, hl, hx, ← Nat.xor_assoc, crcSteps_xor] at h
    have h0 : crcSteps (8 * w.length) (2 ^ at_ * m) = 0 := by
      have : crcSteps (8 * w.length) (4294967295 ^^^ num w) ^^^ (crcSteps (8 * w.length) (4294967295 ^^^ num w) ^^^ crcSteps (8 * w.length) (2 ^ at_ * m)) = 0 := by rw [h, Nat.xor_self]
      rwa [← Nat.xor_assoc, Nat.xor_self, Nat.zero_xor] at this
    rw [show 8 * w.length = at_ + (8 * w.length - at_) by omega, crcSteps_add, crcSteps_pow] at h0
    have hm0 := crcSteps_zero _ hm h0
    refine num_inj hl ?_
    rw [hx, hm0, Nat.mul_zero, Nat.xor_zero]
  · rintro rfl; exact hw
end Go.Proofs.Ytanbifhhoeaofaa

