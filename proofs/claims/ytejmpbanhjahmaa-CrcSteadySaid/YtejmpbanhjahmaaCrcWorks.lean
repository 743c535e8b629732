/- The document's examples of crc. No conditions. -/
import Derived.Test.YtejmpbanhjahmaaCrcGood
namespace Go.Proofs.Ytejmpbanhjahmaa
set_option linter.unusedVariables false
open Go Go.RowKit

theorem Tab.drew {w : World} {b : Nat} (h : Tab w b) : Tab w.drew b := h.at rfl
theorem sum_check : crcSum [49, 50, 51, 52, 53, 54, 55, 56, 57] = 3421780262 := by decide +kernel
theorem sum_none : crcSum [] = 0 := by decide +kernel
theorem sumA (w : World) : Calls Try.prog 12 #[.string ⟨#[49, 50, 51, 52, 53, 54, 55, 56, 57]⟩] w fun e w' => e = .returned (.int .u32 3421780262) ∧ Below w.heap.size w w' := by
  have := sum_any ⟨#[49, 50, 51, 52, 53, 54, 55, 56, 57]⟩ w (by decide)
  rw [sum_check] at this; exact this
theorem tsumA (b : Nat) (w : World) (hT : Tab w b) : Calls Try.prog 13 #[.pointer (some ⟨b, 0, none⟩), .string ⟨#[49, 50, 51, 52, 53, 54, 55, 56, 57]⟩] w fun e w' => e = .returned (.int .u32 3421780262) ∧ Tab w' b ∧ Only b w w' := by
  have := tsum_any b ⟨#[49, 50, 51, 52, 53, 54, 55, 56, 57]⟩ w hT (by decide)
  rw [sum_check] at this; exact this
theorem sumB (w : World) : Calls Try.prog 12 #[.string ⟨#[]⟩] w fun e w' => e = .returned (.int .u32 0) ∧ Below w.heap.size w w' := by
  have := sum_any ⟨#[]⟩ w (by decide)
  rw [sum_none] at this; exact this
theorem tailB (w : World) : Calls Try.prog 16 #[.string ⟨#[]⟩] w fun e w' => e = .returned (.string ⟨#[0, 0, 0, 0]⟩) ∧ Below w.heap.size w w' := by
  have h : strOf (crcTail (⟨#[]⟩ : ByteArray).data.toList) = ⟨#[0, 0, 0, 0]⟩ := by decide +kernel
  have := tail_any ⟨#[]⟩ w (by decide)
  rw [h] at this; exact this
theorem goodA (w : World) : Calls Try.prog 18 #[.string ⟨#[0, 0, 0, 0]⟩] w fun e w' => e = .returned (.bool true) ∧ Below w.heap.size w w' := by
  have h : crcGood (⟨#[0, 0, 0, 0]⟩ : ByteArray).data.toList = true := by decide +kernel
  have := good_any ⟨#[0, 0, 0, 0]⟩ w (by decide)
  rw [h] at this; exact this
theorem goodB (w : World) : Calls Try.prog 18 #[.string ⟨#[]⟩] w fun e w' => e = .returned (.bool false) ∧ Below w.heap.size w w' := by
  have h : crcGood (⟨#[]⟩ : ByteArray).data.toList = false := by decide +kernel
  have := good_any ⟨#[]⟩ w (by decide)
  rw [h] at this; exact this
theorem nextA (b : Nat) (w : World) (hT : Tab w b) : Calls Try.prog 14 #[.pointer (some ⟨b, 0, none⟩), .int .u32 0, .int .u8 1] w fun e w' => e = .returned (.int .u32 1996959894) ∧ Tab w' b ∧ Only b w w' := by
  have h : crcNext 0 1 = 1996959894 := by decide +kernel
  have := next_any b 0 1 w hT (by decide) (by decide)
  rw [h] at this; exact this

/-- below n, and the table at b -/
def Keeps (n b : Nat) (w w' : World) : Prop := Below n w w' ∧ n ≤ w'.heap.size ∧ Tab w' b
theorem Keeps.tab {n b : Nat} {w w' : World} (h : Keeps n b w w') : Tab w' b := h.2.2
theorem Keeps.under {n b : Nat} {w w' : World} (h : Keeps n b w w') : Below n w w' := h.1
theorem Keeps.drew {n b : Nat} {w w' : World} (h : Keeps n b w w') : Keeps n b w w'.drew := ⟨h.1.drew, h.2.1, h.2.2.drew⟩
theorem Keeps.alloc {n b : Nat} {w w' : World} (h : Keeps n b w w') (o : Obj) : Keeps n b w (w'.alloc o) := ⟨h.1.alloc h.2.1 o, by simp; exact Nat.le_succ_of_le h.2.1, h.2.2.later ((Below.refl _ _).alloc (Nat.le_refl _) o)⟩
theorem Keeps.below {n b : Nat} {w w' w2 : World} (h : Keeps n b w w') (hb : Below w'.heap.size w' w2) : Keeps n b w w2 := ⟨h.1.trans (hb.mono h.2.1), Nat.le_trans h.2.1 hb.size, h.2.2.later hb⟩
theorem Keeps.only {n b : Nat} {w w' w2 : World} (hn : n ≤ b) (h : Keeps n b w w') (hT : Tab w2 b) (ho : Only b w' w2) : Keeps n b w w2 := ⟨h.1.trans (ho.below hn h.2.1), Nat.le_trans h.2.1 ho.size, hT⟩

set_option maxRecDepth 100000 in
set_option maxHeartbeats 4000000 in
theorem crcworks_any (w : World) :
    Calls Try.prog 9 #[] w fun e w' => e = .returned (.bool true) ∧ Below w.heap.size w w' := by
  go_enter Try.func9, Try.ntmps9
  go_wp2_with fail
  refine (new_any _).mono ?_
  rintro e w1 ⟨rfl, hT1, hb1, hz1⟩
  have hK : Keeps w.heap.size w.heap.size w w1 := ⟨hb1, hb1.size, hT1⟩
  clear hT1 hb1 hz1
  go_wp2_with (first
      | (go_at_call 12; first | ((with_reducible refine (sumA _).mono ?_); rintro e w2 ⟨rfl, hb2⟩; have hK2 := Keeps.below (by assumption) hb2; clear hb2) | ((with_reducible refine (sumB _).mono ?_); rintro e w2 ⟨rfl, hb2⟩; have hK2 := Keeps.below (by assumption) hb2; clear hb2))
      | (go_at_call 13; refine (tsumA _ _ (Keeps.tab (by assumption))).mono ?_; rintro e w2 ⟨rfl, hT2, ho2⟩; have hK2 := Keeps.only (Nat.le_refl _) (by assumption) hT2 ho2; clear hT2 ho2)
      | (go_at_call 14; refine (nextA _ _ (Keeps.tab (by assumption))).mono ?_; rintro e w2 ⟨rfl, hT2, ho2⟩; have hK2 := Keeps.only (Nat.le_refl _) (by assumption) hT2 ho2; clear hT2 ho2)
      | (go_at_call 16; refine (tailB _).mono ?_; rintro e w2 ⟨rfl, hb2⟩; have hK2 := Keeps.below (by assumption) hb2; clear hb2)
      | (go_at_call 18; first | ((with_reducible refine (goodA _).mono ?_); rintro e w2 ⟨rfl, hb2⟩; have hK2 := Keeps.below (by assumption) hb2; clear hb2) | ((with_reducible refine (goodB _).mono ?_); rintro e w2 ⟨rfl, hb2⟩; have hK2 := Keeps.below (by assumption) hb2; clear hb2)))
  all_goals trace_state
  all_goals go_ret
  all_goals exact ⟨rfl, Keeps.under (by assumption)⟩
end Go.Proofs.Ytejmpbanhjahmaa
