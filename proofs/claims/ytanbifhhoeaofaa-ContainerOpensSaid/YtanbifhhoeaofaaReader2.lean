/- wire's Reader: Num, Int, Count, Text, Raw, Byte. No conditions. -/
import Derived.Test.YtanbifhhoeaofaaReader
namespace Go.Proofs.Ytanbifhhoeaofaa
set_option linter.unusedVariables false
open Go Go.RowKit

theorem leb_nat (s : ByteArray) (a : Nat) (ha : a ≤ s.size) : ∃ n to er : Nat, lebGet s a = (n, (to : Int), er) ∧ a ≤ to ∧ to ≤ s.size ∧ U64 n ∧ (er ≠ 0 → n = 0 ∧ to = a) := by
  obtain ⟨⟨n, to, er⟩, hr⟩ : ∃ r, lebGet s a = r := ⟨_, rfl⟩
  by_cases h : er = 0
  · subst h
    obtain ⟨a', t, e1, e2, h1, h2, h3, _⟩ := lebGet_only hr
    have : a' = a := by omega
    subst this
    exact ⟨n, t, 0, by rw [hr, e2], by omega, h2, h3, fun h => absurd rfl h⟩
  · have he := lebGet_err (s := s) (at' := a) (by rw [hr]; exact h)
    rw [hr] at he
    simp only at he
    obtain ⟨h1, h2⟩ := he
    subst h1
    exact ⟨0, a, er, by rw [hr, h2], Nat.le_refl _, ha, by unfold U64; omega, fun _ => ⟨rfl, rfl⟩⟩
/-- the number at a place: itself, where it ends, what is wrong -/
def gN (s : ByteArray) (a : Nat) : Nat := (lebGet s a).1
def gT (s : ByteArray) (a : Nat) : Nat := (lebGet s a).2.1.toNat
def gE (s : ByteArray) (a : Nat) : Nat := (lebGet s a).2.2
theorem leb_g (s : ByteArray) (a : Nat) (ha : a ≤ s.size) : lebGet s a = (gN s a, (gT s a : Int), gE s a) ∧ a ≤ gT s a ∧ gT s a ≤ s.size ∧ U64 (gN s a) ∧ (gE s a ≠ 0 → gN s a = 0 ∧ gT s a = a) := by
  obtain ⟨n, to, er, h, h1, h2, h3, h4⟩ := leb_nat s a ha
  unfold gN gT gE
  rw [h]
  simp only [Int.toNat_natCast]
  exact ⟨trivial, h1, h2, h3, h4⟩
theorem Only.drewN {b : Nat} {w w' : World} {k : Nat} (h : Only b (w.drewN k) w') : Only b w w' := ⟨h.os, h.tape, h.output, h.size, h.block⟩
theorem RdAt.drewN {w : World} {r : Nat} {s : ByteArray} {a er : Nat} (h : RdAt w r s a er) (k : Nat) : RdAt (w.drewN k) r s a er := h.at rfl
theorem got_g (s : ByteArray) (a : Nat) (w : World) (hs : s.size ≤ maxLen) (ha : a ≤ s.size) : Calls Try.prog 53 #[.string s, .int .i64 a] w fun e w' => e = .returned (.tuple #[.int .u64 (gN s a : Nat), .int .i64 (gT s a : Nat), .int .i64 (gE s a : Nat)]) ∧ w' = w := by
  have h := get_any s a w hs
  rw [(leb_g s a ha).1] at h
  exact h.mono fun e w' ⟨h1, h2⟩ => ⟨h1, h2.symm⟩
/-- a number with a sign at a place -/
def zN (s : ByteArray) (a : Nat) : Int := if gE s a = 0 then zagF (gN s a) else 0
/-- a number that is no more than another one: what is wrong -/
def cE (s : ByteArray) (a : Nat) (most : Int) : Nat := if gE s a = 0 ∧ (most < 0 ∨ most < (gN s a : Int)) then 4 else gE s a
theorem cret3 {a a' b b' c c' : Int} (h1 : a = a') (h2 : b = b') (h3 : c = c') : Ending.returned (.tuple #[.int .i64 a, .int .i64 b, .int .i64 c]) = .returned (.tuple #[.int .i64 a', .int .i64 b', .int .i64 c']) := by rw [h1, h2, h3]
set_option maxRecDepth 100000 in
set_option maxHeartbeats 1600000 in
theorem rcnt_any (r : Nat) (s : ByteArray) (a er : Nat) (most : Int) (w : World) (h : RdAt w r s a er) (hs : s.size ≤ maxLen) (ha : a ≤ s.size) (hm : -9223372036854775808 ≤ most ∧ most ≤ 9223372036854775807) :
    Calls Try.prog 65 #[.pointer (some ⟨r, 0, none⟩), .int .i64 most] w fun e w' => e = .returned (.tuple #[.int .i64 (wrap64 (gN s a : Nat)), .int .i64 (gT s a : Nat), .int .i64 (cE s a most : Nat)]) ∧ ∃ k, w' = w.drewN k := by
  have c0 := h.c0
  have c1 := h.c1
  have HG := Lib.hid (fun W => got_g s a W hs ha)
  have hu := (leb_g s a ha).2.2.2.1
  clear h
  unfold cE
  generalize gN s a = n at HG hu ⊢
  generalize gT s a = t at HG ⊢
  generalize gE s a = g at HG ⊢
  unfold U64 at hu
  obtain ⟨hm1, hm2⟩ := hm
  by_cases hg : g = 0
  · subst hg
    by_cases hneg : most < 0
    · have hc := Lib.hid (show (if (0 : Nat) = 0 ∧ (most < 0 ∨ most < (n : Int)) then 4 else 0) = 4 by rw [if_pos ⟨rfl, .inl hneg⟩])
      rw [hc.out]
      have hd : decide (most < 0) = true := by simp; omega
      go_enter Try.func65, Try.ntmps65
      go_wp2
      go_quiet ((go_at_call 53; exact Calls.quiet_of_same (HG.out _)))
      go_wp2
      go_ret3
      exact ⟨rfl, _, rfl⟩
    · obtain ⟨m, rfl⟩ := Int.eq_ofNat_of_zero_le (show 0 ≤ most by omega)
      by_cases hgt : m < n
      · have hc := Lib.hid (show (if (0 : Nat) = 0 ∧ ((m : Int) < 0 ∨ (m : Int) < (n : Int)) then 4 else 0) = 4 by rw [if_pos ⟨rfl, .inr (by omega)⟩])
        rw [hc.out]
        have hd : decide ((m : Int) < n) = true := by simp; omega
        have hd2 : decide (m < n) = true := by simp; omega
        clear hgt
        go_enter Try.func65, Try.ntmps65
        go_wp2
        go_quiet ((go_at_call 53; exact Calls.quiet_of_same (HG.out _)))
        go_wp2
        go_ret3
        exact ⟨rfl, _, rfl⟩
      · have hc := Lib.hid (show (if (0 : Nat) = 0 ∧ ((m : Int) < 0 ∨ (m : Int) < (n : Int)) then 4 else 0) = 0 by rw [if_neg (by omega)])
        rw [hc.out]
        have hd : decide ((m : Int) < n) = false := by simp; omega
        have hd2 : decide (m < n) = false := by simp; omega
        clear hgt
        go_enter Try.func65, Try.ntmps65
        go_wp2
        go_quiet ((go_at_call 53; exact Calls.quiet_of_same (HG.out _)))
        go_wp2
        go_ret3
        exact ⟨rfl, _, rfl⟩
  · have hc := Lib.hid (show (if g = 0 ∧ (most < 0 ∨ most < (n : Int)) then 4 else g) = g by rw [if_neg (by omega)])
    rw [hc.out]
    have hd : ((g : Int) == 0) = false := by simp; omega
    clear hg
    go_enter Try.func65, Try.ntmps65
    go_wp2
    go_quiet ((go_at_call 53; exact Calls.quiet_of_same (HG.out _)))
    go_wp2
    go_ret3
    exact ⟨rfl, _, rfl⟩
end Go.Proofs.Ytanbifhhoeaofaa

