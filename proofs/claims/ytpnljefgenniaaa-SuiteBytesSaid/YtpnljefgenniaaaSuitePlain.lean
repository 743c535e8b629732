/- Tests as bytes: plain laws. No conditions. -/
import Derived.Test.YtpnljefgenniaaaSuite3
import Derived.Test.YtpnljefgenniaaaWriter
namespace Go.Proofs.Ytpnljefgenniaaa
set_option linter.unusedVariables false
open Go Go.RowKit

def zigsL : List Int → List UInt8
  | [] => []
  | x :: l => lebL (zigF x) ++ zigsL l
theorem zigsL_app (a b : List Int) : zigsL (a ++ b) = zigsL a ++ zigsL b := by
  induction a with
  | nil => rfl
  | cons x a ih => rw [List.cons_append, zigsL, ih, zigsL, List.append_assoc]
theorem zigsL_snoc (a : List Int) (x : Int) : zigsL (a ++ [x]) = zigsL a ++ lebL (zigF x) := by rw [zigsL_app, zigsL, zigsL, List.append_nil]
theorem zigsL_len (l : List Int) (h : ∀ x ∈ l, I64 x) : (zigsL l).length ≤ 10 * l.length := by
  induction l with
  | nil => exact Nat.le_refl _
  | cons x l ih =>
    rw [zigsL, List.length_append, List.length_cons]
    have h1 := ih fun y hy => h y (List.mem_cons_of_mem _ hy)
    have h2 := lebL_len (zigF_u64 (h x (List.mem_cons_self ..)))
    omega
def headL (L : List (List Int)) : List Int := L.headD []
def sHead (L : List (List Int)) (f : Int) : List UInt8 := [] ++ lebL f.toNat ++ lebL L.length ++ lebL (headL L).length
def sBytes (L : List (List Int)) (f : Int) : List UInt8 := sHead L f ++ zigsL L.flatten
def tE (L : List (List Int)) (f : Int) : Nat := if L = [] ∨ 12 < (headL L).length then 18 else chkF (headL L).length L f
def tStr (L : List (List Int)) (f : Int) : ByteArray := if tE L f = 0 then bStr (sBytes L f) else ⟨#[]⟩
theorem chkF_ok {p : Int} {L : List (List Int)} {f : Int} (h : chkF p L f = 0) : 1 ≤ L.length ∧ L.length ≤ 20 ∧ (∀ l ∈ L, (l.length : Int) = p) ∧ 1 ≤ f ∧ f ≤ 10000 := by
  unfold chkF at h
  split at h
  · cases h
  · split at h
    · cases h
    · split at h
      · cases h
      · rename_i h1 h2 h3
        refine ⟨by omega, by omega, fun l hl => ?_, by omega, by omega⟩
        have h4 : allB L p = true := by cases hb : allB L p; exact absurd hb h2; rfl
        unfold allB at h4
        rw [List.all_eq_true] at h4
        exact of_decide_eq_true (h4 l hl)
theorem tE_ok {L : List (List Int)} {f : Int} (h : tE L f = 0) : L ≠ [] ∧ (headL L).length ≤ 12 ∧ L.length ≤ 20 ∧ (∀ l ∈ L, l.length = (headL L).length) ∧ 1 ≤ f ∧ f ≤ 10000 := by
  unfold tE at h
  split at h
  · cases h
  · rename_i h1
    obtain ⟨a, b, c, d, e⟩ := chkF_ok h
    exact ⟨fun h => h1 (.inl h), by have := fun h => h1 (.inr h); omega, b, fun l hl => by have := c l hl; omega, d, e⟩
theorem flatten_len (L : List (List Int)) (m : Nat) (h : ∀ l ∈ L, l.length ≤ m) : L.flatten.length ≤ L.length * m := by
  induction L with
  | nil => simp
  | cons l L ih =>
    rw [List.flatten_cons, List.length_append, List.length_cons]
    have h1 := ih fun x hx => h x (List.mem_cons_of_mem _ hx)
    have h2 := h l (List.mem_cons_self ..)
    rw [Nat.add_mul]; omega
end Go.Proofs.Ytpnljefgenniaaa

