/- Plain laws: what is written in groups of seven bits is read back, and what is read was written so. No program. No conditions. -/
import Derived.Test.YtanbifhhoeaofaaLebGetPlain
namespace Go.Proofs.Ytanbifhhoeaofaa
set_option linter.unusedVariables false

theorem val_digs (n : Nat) : val (digs n) = n := by
  induction n using Nat.strongRecOn with
  | _ n ih =>
    by_cases h : n < 128
    · rw [digs_lt h]; simp [val]; omega
    · rw [digs_ge h, val, ih _ (by omega)]; omega
theorem endAt_digs (f : Nat) : ∀ (n : Nat) (r : List Nat), (digs n).length ≤ f → endAt f (digs n ++ r) = (digs n).length := by
  induction f with
  | zero => intro n r h; have := digs_len_pos n; omega
  | succ f ih =>
    intro n r h
    by_cases hn : n < 128
    · rw [digs_lt hn]; simp [endAt, hn]
    · rw [digs_ge hn] at h ⊢
      simp only [List.length_cons] at h
      rw [List.cons_append, endAt, if_neg (by omega), ih _ _ (by omega), List.length_cons]
      rw [if_neg (by have := digs_len_pos (n / 128); omega)]
/-- the last digit -/
theorem digs_last (n : Nat) : ∀ r : List Nat, (digs n ++ r).getD ((digs n).length - 1) 0 = n / 128 ^ ((digs n).length - 1) ∧ (1 < (digs n).length → 128 ^ ((digs n).length - 1) ≤ n) := by
  induction n using Nat.strongRecOn with
  | _ n ih =>
    intro r
    by_cases h : n < 128
    · rw [digs_lt h]; simp
    · have hh := ih (n / 128) (by omega) r
      have hl := digs_len_pos (n / 128)
      rw [digs_ge h]
      obtain ⟨k, hk⟩ : ∃ k, (digs (n / 128)).length = k + 1 := ⟨(digs (n / 128)).length - 1, by omega⟩
      rw [hk] at hh
      simp only [List.length_cons, hk, List.cons_append, Nat.add_sub_cancel] at hh ⊢
      refine ⟨?_, fun _ => ?_⟩
      · rw [List.getD_cons_succ, hh.1, Nat.pow_succ, Nat.mul_comm, ← Nat.div_div_eq_div_mul]
      · rw [Nat.pow_succ]
        by_cases h0 : k = 0
        · subst h0; omega
        · have := hh.2 (by omega)
          have h2 := Nat.mul_le_mul_right 128 this
          omega
theorem getF_digs {n : Nat} (hn : U64 n) (r : List Nat) : getF (digs n ++ r) = (n, (digs n).length, 0) := by
  have h10 := digs_len_10 hn
  have hp := digs_len_pos n
  have he := endAt_digs 10 n r h10
  have hl := digs_last n r
  unfold getF
  rw [he, if_neg (by omega), if_neg, List.take_left', val_digs]
  · rfl
  · rw [hl.1]
    rintro (⟨h1, h2⟩ | ⟨h1, h2⟩)
    · have := hl.2 h1
      have h3 := Nat.div_pos this (Nat.pow_pos (by omega))
      omega
    · rw [h1] at h2
      have h4 := Nat.lt_of_lt_of_le (Nat.lt_succ_self 1) h2
      have h5 := (Nat.le_div_iff_mul_le (show 0 < 128 ^ (10 - 1) by omega)).1 h4
      unfold U64 at hn
      omega

/-- what is read was written just so -/
theorem digs_val (f : Nat) : ∀ l : List Nat, endAt f l ≠ 0 → (endAt f l = 1 ∨ l.getD (endAt f l - 1) 0 ≠ 0) → (∀ x ∈ l, x < 256) → digs (val (l.take (endAt f l))) = l.take (endAt f l) ∧ endAt f l ≤ l.length := by
  induction f with
  | zero => intro l h; simp [endAt] at h
  | succ f ih =>
    intro l h hlast hb
    cases l with
    | nil => simp [endAt] at h
    | cons b r =>
      have hb0 := hb b (List.mem_cons_self ..)
      by_cases hlt : b < 128
      · simp only [endAt, if_pos hlt]
        simp only [List.take_succ_cons, List.take_zero, val]
        rw [show b % 128 + 128 * 0 = b by omega, digs_lt hlt]
        simp
      · have h0 : endAt f r ≠ 0 := by
          intro h0; apply h; rw [endAt, if_neg hlt, if_pos h0]
        have hk : endAt (f + 1) (b :: r) = endAt f r + 1 := by rw [endAt, if_neg hlt, if_neg h0]
        rw [hk] at hlast ⊢
        have hlast' : endAt f r = 1 ∨ r.getD (endAt f r - 1) 0 ≠ 0 := by
          obtain ⟨m, hm⟩ : ∃ m, endAt f r = m + 1 := ⟨endAt f r - 1, by omega⟩
          rw [hm] at hlast ⊢
          rcases hlast with h1 | h1
          · omega
          · right
            simpa using h1
        have hnz : r.getD (endAt f r - 1) 0 ≠ 0 := by
          obtain ⟨m, hm⟩ : ∃ m, endAt f r = m + 1 := ⟨endAt f r - 1, by omega⟩
          rw [hm] at hlast ⊢
          rcases hlast with h1 | h1
          · omega
          · simpa using h1
        obtain ⟨hi, hle⟩ := ih r h0 hlast' (fun x hx => hb x (List.mem_cons_of_mem _ hx))
        rw [List.take_succ_cons, val]
        have hv : val (r.take (endAt f r)) ≠ 0 := by
          intro hv
          rw [hv, digs_lt (by omega)] at hi
          have hlen : (r.take (endAt f r)).length = 1 := by rw [← hi]; rfl
          rw [List.length_take_of_le hle] at hlen
          rw [hlen] at hi hnz
          apply hnz
          cases r with
          | nil => simp at hi
          | cons y r => simp only [List.take_succ_cons, List.take_zero, List.cons.injEq, and_true] at hi; rw [← hi]; rfl
        refine ⟨?_, by simp only [List.length_cons]; omega⟩
        rw [digs_ge (by omega)]
        rw [show (b % 128 + 128 * val (r.take (endAt f r))) / 128 = val (r.take (endAt f r)) by omega, hi]
        congr 1
        omega
/-- what comes of a good reading has 64 bits -/
theorem val_u64 {l : List Nat} {k : Nat} (he : endAt 10 l = k) (hk : k ≤ 10) (hl : k ≤ l.length) (h10 : k = 10 → l.getD 9 0 ≤ 1) : U64 (val (l.take k)) := by
  unfold U64
  by_cases h : k = 10
  · subst h
    have hlast := h10 rfl
    have hs : l.take 10 = l.take 9 ++ [l.getD 9 0] := take_snoc' (by omega)
    rw [hs, val_snoc, List.length_take_of_le (by omega)]
    have h1 := val_lt (l.take 9)
    rw [List.length_take_of_le (by omega)] at h1
    have h2 : 128 ^ 9 * (l.getD 9 0 % 128) ≤ 128 ^ 9 * 1 := Nat.mul_le_mul_left _ (by omega)
    omega
  · have h1 := val_lt (l.take k)
    have h2 : 128 ^ (l.take k).length ≤ 128 ^ 9 := Nat.pow_le_pow_right (by omega) (by rw [List.length_take]; omega)
    omega
theorem endAt_le (f : Nat) : ∀ l, endAt f l ≤ f := by
  induction f with
  | zero => intro l; simp [endAt]
  | succ f ih =>
    intro l
    cases l with
    | nil => simp [endAt]
    | cons b r =>
      have := ih r
      rw [endAt]
      split
      · omega
      · split <;> omega
theorem getF_only {l : List Nat} {n k : Nat} (hb : ∀ x ∈ l, x < 256) (h : getF l = (n, k, 0)) : 0 < k ∧ k ≤ l.length ∧ digs n = l.take k ∧ U64 n := by
  unfold getF at h
  by_cases h0 : endAt 10 l = 0
  · rw [if_pos h0] at h
    by_cases hl : l.length < 10 <;> simp [hl] at h
  · rw [if_neg h0] at h
    by_cases hbad : (1 < endAt 10 l ∧ l.getD (endAt 10 l - 1) 0 = 0) ∨ (endAt 10 l = 10 ∧ 1 < l.getD (endAt 10 l - 1) 0)
    · rw [if_pos hbad] at h; simp at h
    · rw [if_neg hbad] at h
      simp only [Prod.mk.injEq, and_true] at h
      obtain ⟨rfl, rfl⟩ := h
      have hl1 : endAt 10 l = 1 ∨ l.getD (endAt 10 l - 1) 0 ≠ 0 := by
        by_cases h1 : endAt 10 l = 1
        · exact .inl h1
        · right; intro hz; exact hbad (.inl ⟨by omega, hz⟩)
      obtain ⟨hd, hle⟩ := digs_val 10 l h0 hl1 hb
      refine ⟨by omega, hle, hd, val_u64 rfl (endAt_le 10 l) hle (fun h10 => ?_)⟩
      have : ¬ (1 < l.getD (endAt 10 l - 1) 0) := fun hc => hbad (.inr ⟨h10, hc⟩)
      rw [h10] at this
      simpa using this
/-- beside an error nothing is told -/
theorem getF_err {l : List Nat} (h : (getF l).2.2 ≠ 0) : (getF l).1 = 0 ∧ (getF l).2.1 = 0 := by
  unfold getF at h ⊢
  split
  · exact ⟨rfl, rfl⟩
  · split
    · exact ⟨rfl, rfl⟩
    · rename_i h1 h2; rw [if_neg h1, if_neg h2] at h; exact absurd rfl h
end Go.Proofs.Ytanbifhhoeaofaa

