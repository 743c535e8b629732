/- What End answers, by a contract that says that it reads alone. No conditions. -/
import Derived.Test.YtanbifhhoeaofaaReader
namespace Go.Proofs.Ytanbifhhoeaofaa
set_option linter.unusedVariables false
open Go Go.RowKit

theorem rendq_any (r : Nat) (s : ByteArray) (a er : Nat) (w : World) (h : RdAt w r s a er) : Calls Try.prog 64 #[.pointer (some ⟨r, 0, none⟩)] w fun e w' => e = .returned (.int .i64 (endF s a er : Nat)) ∧ ∃ m, w' = w.drewN m := by
  have c0 := h.c0
  have c1 := h.c1
  have c2 := h.c2
  clear h
  by_cases h0 : er = 0
  · subst h0
    by_cases h1 : a < s.size
    · have he := Lib.hid (show endF s a 0 = 5 by unfold endF; rw [if_pos ⟨rfl, h1⟩])
      have hd : decide ((a : Int) < s.size) = true := by simp; omega
      have hd2 : decide (a < s.size) = true := by simp; omega
      go_enter Try.func64, Try.ntmps64
      go_wp2
      go_quiet (fail)
      go_wp2
      go_ret
      exact ⟨by rw [he.out]; rfl, _, rfl⟩
    · have he := Lib.hid (show endF s a 0 = 0 by unfold endF; rw [if_neg (by omega)])
      have hd : decide ((a : Int) < s.size) = false := by simp; omega
      have hd2 : decide (a < s.size) = false := by simp; omega
      go_enter Try.func64, Try.ntmps64
      go_wp2
      go_quiet (fail)
      go_wp2
      go_ret
      exact ⟨by rw [he.out]; rfl, _, rfl⟩
  · have he := Lib.hid (show endF s a er = er by unfold endF; rw [if_neg (by omega)])
    have hd : ((er : Int) == 0) = false := by simp; omega
    go_enter Try.func64, Try.ntmps64
    go_wp2
    go_quiet (fail)
    go_wp2
    go_ret
    exact ⟨by rw [he.out]; rfl, _, rfl⟩
theorem ratq_any (r : Nat) (s : ByteArray) (a er : Nat) (w : World) (h : RdAt w r s a er) : Calls Try.prog 54 #[.pointer (some ⟨r, 0, none⟩)] w fun e w' => e = .returned (.int .i64 a) ∧ w' = w :=
  (rat_any r s a er w h).mono fun _ _ ⟨h1, h2⟩ => ⟨h1, h2.symm⟩
end Go.Proofs.Ytanbifhhoeaofaa

