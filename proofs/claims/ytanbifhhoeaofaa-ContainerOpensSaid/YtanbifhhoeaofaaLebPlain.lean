/- Plain laws on numbers in groups of seven bits: no program. No conditions. -/
namespace Go.Proofs.Ytanbifhhoeaofaa
set_option linter.unusedVariables false

/-- n to the base 128, the lowest digit first; all but the last have 128 more. -/
def digs (n : Nat) : List Nat := if n < 128 then [n] else (128 + n % 128) :: digs (n / 128)
termination_by n
decreasing_by omega
theorem digs_lt {n : Nat} (h : n < 128) : digs n = [n] := by rw [digs, if_pos h]
theorem digs_ge {n : Nat} (h : ¬ n < 128) : digs n = (128 + n % 128) :: digs (n / 128) := by rw [digs, if_neg h]
theorem digs_ne (n : Nat) : digs n ≠ [] := by
  by_cases h : n < 128
  · rw [digs_lt h]; simp
  · rw [digs_ge h]; simp
theorem digs_byte (n : Nat) : ∀ x ∈ digs n, x < 256 := by
  induction n using Nat.strongRecOn with
  | _ n ih =>
    by_cases h : n < 128
    · rw [digs_lt h]; simp; omega
    · rw [digs_ge h]
      intro x hx
      rcases List.mem_cons.1 hx with rfl | hx
      · omega
      · exact ih _ (by omega) x hx
theorem digs_len_pos (n : Nat) : 1 ≤ (digs n).length := by
  have := digs_ne n
  cases h : digs n with
  | nil => exact absurd h this
  | cons => simp
/-- how many digits: at most k where n < 128^k -/
theorem digs_len_le (k : Nat) : ∀ n, 0 < k → n < 128 ^ k → (digs n).length ≤ k := by
  induction k with
  | zero => intro n h; omega
  | succ k ih =>
    intro n _ hn
    by_cases h : n < 128
    · rw [digs_lt h]; simp
    · rw [digs_ge h]
      have hk : 0 < k := by
        rcases Nat.eq_zero_or_pos k with rfl | h'
        · simp at hn; omega
        · exact h'
      have := ih (n / 128) hk (by rw [Nat.pow_succ] at hn; omega)
      simp only [List.length_cons]; omega
theorem digs_len_10 {n : Nat} (h : n < 18446744073709551616) : (digs n).length ≤ 10 := digs_len_le 10 n (by omega) (by omega)
/-- a number of 64 bits -/
def U64 (n : Nat) : Prop := n < 18446744073709551616
theorem U64.div {n : Nat} (h : U64 n) (k : Nat) : U64 (n / k) := Nat.lt_of_le_of_lt (Nat.div_le_self n k) h
theorem digs_len_mono {m n : Nat} (h : m ≤ n) : (digs m).length ≤ (digs n).length := by
  induction n using Nat.strongRecOn generalizing m with
  | _ n ih =>
    by_cases hm : m < 128
    · rw [digs_lt hm]; exact digs_len_pos n
    · rw [digs_ge hm, digs_ge (by omega : ¬ n < 128)]
      simp only [List.length_cons]
      have := ih (n / 128) (by omega) (Nat.div_le_div_right h)
      omega
/-- no number's digits begin with another one's -/
theorem digs_prefix {m : Nat} : ∀ {n : Nat}, digs m <+: digs n → m = n := by
  induction m using Nat.strongRecOn with
  | _ m ih =>
    intro n hp
    by_cases hm : m < 128
    · rw [digs_lt hm] at hp
      by_cases hn : n < 128
      · rw [digs_lt hn] at hp
        simpa using hp
      · rw [digs_ge hn, List.cons_prefix_cons] at hp
        omega
    · rw [digs_ge hm] at hp
      by_cases hn : n < 128
      · rw [digs_lt hn, List.cons_prefix_cons] at hp
        omega
      · rw [digs_ge hn, List.cons_prefix_cons] at hp
        have := ih (m / 128) (by omega) hp.2
        omega
theorem digs_inj {m n : Nat} (h : digs m = digs n) : m = n := digs_prefix (by rw [h]; exact List.prefix_refl _)
end Go.Proofs.Ytanbifhhoeaofaa

