/- Plain laws on reading a number in groups of seven bits: no program. No conditions. -/
import Derived.Test.YtanbifhhoeaofaaLebPlain
namespace Go.Proofs.Ytanbifhhoeaofaa
set_option linter.unusedVariables false

/-- what bytes come to -/
def val : List Nat → Nat
  | [] => 0
  | b :: r => b % 128 + 128 * val r
theorem val_snoc (p : List Nat) (b : Nat) : val (p ++ [b]) = val p + 128 ^ p.length * (b % 128) := by
  induction p with
  | nil => simp [val]
  | cons x p ih =>
    simp only [List.cons_append, val, ih, List.length_cons, Nat.pow_succ]
    rw [Nat.mul_add, ← Nat.mul_assoc, Nat.mul_comm 128 (128 ^ p.length)]
    omega
theorem val_lt (p : List Nat) : val p < 128 ^ p.length := by
  induction p with
  | nil => simp [val]
  | cons x p ih =>
    simp only [val, List.length_cons, Nat.pow_succ]
    omega

/-- how many bytes belong to the number that stands ahead, f at most; 0: it has no last one -/
def endAt : Nat → List Nat → Nat
  | 0, _ => 0
  | _ + 1, [] => 0
  | f + 1, b :: r => if b < 128 then 1 else if endAt f r = 0 then 0 else endAt f r + 1
theorem endAt_skip (k : Nat) : ∀ (f : Nat) (l : List Nat), (∀ j, j < k → j < l.length ∧ 128 ≤ l.getD j 0) → endAt (f + k) l = if endAt f (l.drop k) = 0 then 0 else endAt f (l.drop k) + k := by
  induction k with
  | zero => intro f l _; simp
  | succ k ih =>
    intro f l h
    cases l with
    | nil => have := (h 0 (by omega)).1; simp at this
    | cons b r =>
      have hb := (h 0 (by omega)).2
      simp only [List.getD_cons_zero] at hb
      have hr := ih f r (fun j hj => by have := h (j + 1) (by omega); simpa using this)
      rw [show f + (k + 1) = (f + k) + 1 by omega, endAt, if_neg (by omega), hr, List.drop_succ_cons]
      by_cases h0 : endAt f (r.drop k) = 0
      · simp [h0]
      · simp only [h0, if_false]
        rw [if_neg (by omega)]; omega
theorem endAt_none10 {l : List Nat} (h : ∀ j, j < 10 → j < l.length ∧ 128 ≤ l.getD j 0) : endAt 10 l = 0 ∧ 10 ≤ l.length := by
  refine ⟨?_, by have := (h 9 (by omega)).1; omega⟩
  have := endAt_skip 10 0 l h
  simpa [endAt] using this
theorem endAt_short {l : List Nat} {k : Nat} (hk : l.length = k) (h10 : k < 10) (h : ∀ j, j < k → 128 ≤ l.getD j 0) : endAt 10 l = 0 := by
  have := endAt_skip k (10 - k) l (fun j hj => ⟨by omega, h j hj⟩)
  rw [show 10 - k + k = 10 by omega, List.drop_of_length_le (by omega)] at this
  rw [this]
  obtain ⟨f, hf⟩ : ∃ f, 10 - k = f + 1 := ⟨9 - k, by omega⟩
  rw [hf]; simp [endAt]
theorem endAt_at {l : List Nat} {k : Nat} (hk : k < l.length) (h10 : k < 10) (h : ∀ j, j < k → 128 ≤ l.getD j 0) (hb : l.getD k 0 < 128) : endAt 10 l = k + 1 := by
  have := endAt_skip k (10 - k) l (fun j hj => ⟨by omega, h j hj⟩)
  rw [show 10 - k + k = 10 by omega] at this
  obtain ⟨f, hf⟩ : ∃ f, 10 - k = f + 1 := ⟨9 - k, by omega⟩
  have hd : l.drop k = l.getD k 0 :: l.drop (k + 1) := by
    rw [List.drop_eq_getElem_cons hk]; congr 1; simp [hk]
  rw [this, hf, hd, endAt, if_pos hb]; simp; omega

/-- the number ahead, how many bytes it has, what is wrong (0: nothing) -/
def getF (l : List Nat) : Nat × Nat × Nat :=
  if endAt 10 l = 0 then (0, 0, if l.length < 10 then 2 else 3)
  else if (1 < endAt 10 l ∧ l.getD (endAt 10 l - 1) 0 = 0) ∨ (endAt 10 l = 10 ∧ 1 < l.getD (endAt 10 l - 1) 0) then (0, 0, 3)
  else (val (l.take (endAt 10 l)), endAt 10 l, 0)
/-- a text's bytes, as numbers, from a place on -/
def bytesFrom (s : ByteArray) (k : Nat) : List Nat := (s.data.toList.drop k).map UInt8.toNat
/-- the number that stands at a place, the place behind it, and what is wrong -/
def lebGet (s : ByteArray) (at' : Int) : Nat × Int × Nat :=
  if at' < 0 ∨ (s.size : Int) < at' then (0, at', 1) else ((getF (bytesFrom s at'.toNat)).1, at' + ((getF (bytesFrom s at'.toNat)).2.1 : Nat), (getF (bytesFrom s at'.toNat)).2.2)

theorem bytesFrom_length (s : ByteArray) (k : Nat) : (bytesFrom s k).length = s.size - k := by
  unfold bytesFrom; rw [List.length_map, List.length_drop]; rfl
theorem bytesFrom_getD (s : ByteArray) (k j : Nat) (h : k + j < s.size) : (bytesFrom s k).getD j 0 = s[k + j].toNat := by
  have hj : j < (bytesFrom s k).length := by rw [bytesFrom_length]; omega
  rw [List.getD_eq_getElem?_getD, List.getElem?_eq_getElem hj]
  simp only [bytesFrom, List.getElem_map, List.getElem_drop, Option.getD_some]
  rfl
theorem take_snoc' {l : List Nat} {k : Nat} (h : k < l.length) : l.take (k + 1) = l.take k ++ [l.getD k 0] := by
  rw [List.take_succ_eq_append_getElem h]; congr 2; simp [h]
end Go.Proofs.Ytanbifhhoeaofaa

