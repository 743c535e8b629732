/- The document's example of tests as bytes works. No conditions. -/
import Derived.Test.YtpnljefgenniaaaSuiteBackPlain
namespace Go.Proofs.Ytpnljefgenniaaa
set_option linter.unusedVariables false
open Go Go.RowKit

def exL : List (List Int) := [[3, -1]]
def exS : ByteArray := ⟨#[5, 1, 2, 6, 1]⟩
theorem exL_i64 : ∀ l ∈ exL, ∀ x ∈ l, I64 x := by
  intro l hl x hx
  unfold exL at hl
  simp at hl
  subst hl
  simp at hx
  unfold I64
  omega
theorem ex_e : tE exL 5 = 0 := by decide
theorem ex_s : tStr exL 5 = exS := by
  unfold tStr
  rw [if_pos ex_e]
  unfold sBytes sHead exL headL
  show bStr ([] ++ lebL 5 ++ lebL 1 ++ lebL 2 ++ (lebL 6 ++ (lebL 1 ++ []))) = exS
  unfold lebL
  rw [digs_lt (by decide), digs_lt (by decide), digs_lt (by decide), digs_lt (by decide)]
  rfl
theorem exput (a : Addr) (c : Nat) (W : World) (h : RowsAt W (some a) exL) : Calls Try.prog 35 #[.slice (some a) 1 c, .int .i64 5] W fun e w' => e = .returned (.tuple #[.string exS, .int .i64 0]) ∧ Below W.heap.size W w' := by
  have h1 := sput_any (some a) c exL 5 W h (by decide) (by decide) exL_i64
  rw [ex_s, ex_e] at h1
  exact h1
theorem exnil (W : World) : Calls Try.prog 35 #[.slice none 0 0, .int .i64 5] W fun e w' => e = .returned (.tuple #[.string ⟨#[]⟩, .int .i64 18]) ∧ Below W.heap.size W w' :=
  sput_any none 0 [] 5 W (.inl rfl) (by decide) (by intro l hl; cases hl) (by intro l hl; cases hl)
theorem exget (W : World) : Calls Try.prog 37 #[.string exS] W fun e w' => ∃ pa c, e = .returned (.tuple #[.slice pa 1 c, .int .i64 5, .int .i64 0]) ∧ RowsAt w' pa exL ∧ Below W.heap.size W w' := by
  refine (sget_any exS W (by decide)).mono ?_
  rintro e w' ⟨h, hb⟩
  rcases h with ⟨L, f, pa, c, rfl, hr, hI, hE, hT⟩ | ⟨rfl, h⟩
  · obtain ⟨rfl, rfl⟩ := put_one (L := L) (M := exL) (f := f) (g := 5) hI exL_i64 hE ex_e (hT.trans ex_s.symm)
    exact ⟨pa, c, rfl, hr, hb⟩
  · exact absurd ex_s (h exL 5 exL_i64 ex_e)
theorem excheck (p f : Int) (k : Nat) (hk : chkF p exL f = k) (a : Addr) (c : Nat) (W : World) (h : RowsAt W (some a) exL) : Calls Try.prog 32 #[.int .i64 p, .slice (some a) 1 c, .int .i64 f] W fun e w' => e = .returned (.int .i64 (k : Int)) ∧ Below W.heap.size W w' := by
  subst hk
  exact check_any p (some a) c exL f W h (by decide)
theorem exsame (a : Addr) (pb : Option Addr) (ca cb n : Nat) (M : List (List Int)) (r : Bool) (hn : M.length = n) (hr : decide (exL = M) = r) (W : World) (h : RowsAt W (some a) exL) (k : RowsAt W pb M) : Calls Try.prog 34 #[.slice (some a) 1 ca, .slice pb n cb] W fun e w' => e = .returned (.bool r) ∧ ∃ m, w' = W.drewN m := by
  subst hn hr
  exact same_any (some a) pb ca cb exL M W h k (by decide) (by decide)
theorem exrsame (a : Addr) (pb : Option Addr) (ca cb : Nat) (W : World) (h : RowsAt W (some a) exL) (k : RowsAt W pb exL) : Calls Try.prog 31 #[.slice (some a) 1 ca, .slice pb 1 cb] W fun e w' => e = .returned (.bool true) ∧ Below W.heap.size W w' := by
  have h1 := rsame_any (some a) pb ca cb exL exL W h k (by decide) (by decide)
  rw [decide_eq_true (rfl : exL = exL)] at h1
  exact h1
theorem exrows (w : World) (c : Nat) : RowsAt ((w.alloc (.cells #[.int .i64 3, .int .i64 (-1)] 3)).alloc (.cells #[.slice (some ⟨w.heap.size, 0, none⟩) 2 c] 68)) (some ⟨w.heap.size + 1, 0, none⟩) exL := by
  refine .inr ⟨w.heap.size + 1, 0, rfl, by simp, fun i l hi => ?_⟩
  have h0 : i = 0 := by
    have := (List.getElem?_eq_some_iff.1 hi).1
    unfold exL at this; simp at this; omega
  subst h0
  have hl : l = [3, -1] := by unfold exL at hi; simpa using hi.symm
  subst hl
  refine ⟨some ⟨w.heap.size, 0, none⟩, c, by simp, .inr ⟨w.heap.size, 0, rfl, by simp; omega, fun j x hj => ?_⟩⟩
  have hj2 := (List.getElem?_eq_some_iff.1 hj).1
  simp at hj2
  rcases (show j = 0 ∨ j = 1 by omega) with rfl | rfl
  · simp at hj; subst hj; simp
  · simp at hj; subst hj; simp
set_option maxRecDepth 100000 in
set_option maxHeartbeats 4000000 in
theorem sworks_any (w : World) : Calls Try.prog 29 #[] w fun e w' => e = .returned (.bool true) ∧ Below w.heap.size w w' := by
  have k1 : (exS.toList == [5, 1, 2, 6, 1]) = true := by unfold exS; simp
  have hr0 := Lib.hid (exrows w 2)
  have hb0 : Below w.heap.size w ((w.alloc (.cells #[.int .i64 3, .int .i64 (-1)] 3)).alloc (.cells #[.slice (some ⟨w.heap.size, 0, none⟩) 2 2] 68)) := ((Below.refl _ _).alloc (Nat.le_refl _) _).alloc (by simp) _
  have X1 := Lib.hid (excheck 2 5 0 (by decide))
  have X2 := Lib.hid (excheck 1 0 18 (by decide))
  have X3 := Lib.hid (excheck 2 0 19 (by decide))
  go_enter Try.func29, Try.ntmps29
  go_wp2_with fail
  generalize (w.alloc (.cells #[.int .i64 3, .int .i64 (-1)] 3)).alloc (.cells #[.slice (some ⟨w.heap.size, 0, none⟩) 2 2] 68) = V at hr0 hb0 ⊢
  generalize hq : (⟨w.heap.size + 1, 0, none⟩ : Addr) = q at hr0 ⊢
  clear hq
  have hs0 := hb0.size
  refine (exput q _ V hr0.out).mono ?_
  rintro e w1 ⟨rfl, hb⟩
  have B1 := Lib.hid (hb0.trans (hb.mono hs0))
  have R1 := Lib.hid (hr0.out.later hb)
  clear hb hr0 hb0 hs0
  go_wp2_with fail
  refine (exget w1).mono ?_
  rintro e w2 ⟨pa, c, rfl, hr, hb⟩
  have B2 := Lib.hid (B1.out.trans (hb.mono B1.out.size))
  have R2 := Lib.hid (R1.out.later hb)
  have P2 := Lib.hid hr
  clear hb hr R1 B1
  go_wp2_with fail
  refine (exnil w2).mono ?_
  rintro e w3 ⟨rfl, hb⟩
  have B3 := Lib.hid (B2.out.trans (hb.mono B2.out.size))
  have R3 := Lib.hid (R2.out.later hb)
  have P3 := Lib.hid (P2.out.later hb)
  clear hb B2 R2 P2
  go_wp2_with fail
  refine (exrsame q pa _ c w3 R3.out P3.out).mono ?_
  rintro e w4 ⟨rfl, hb⟩
  have B4 := Lib.hid (B3.out.trans (hb.mono B3.out.size))
  have R4 := Lib.hid (R3.out.later hb)
  have P4 := Lib.hid (P3.out.later hb)
  clear hb B3 R3 P3
  go_wp2_with fail
  refine (X1.out q _ w4 R4.out).mono ?_
  rintro e w5 ⟨rfl, hb⟩
  have B5 := Lib.hid (B4.out.trans (hb.mono B4.out.size))
  have R5 := Lib.hid (R4.out.later hb)
  have P5 := Lib.hid (P4.out.later hb)
  clear hb B4 R4 P4
  go_wp2_with fail
  refine (X2.out q _ w5 R5.out).mono ?_
  rintro e w6 ⟨rfl, hb⟩
  have B6 := Lib.hid (B5.out.trans (hb.mono B5.out.size))
  have R6 := Lib.hid (R5.out.later hb)
  have P6 := Lib.hid (P5.out.later hb)
  clear hb B5 R5 P5
  go_wp2_with fail
  refine (X3.out q _ w6 R6.out).mono ?_
  rintro e w7 ⟨rfl, hb⟩
  have B7 := Lib.hid (B6.out.trans (hb.mono B6.out.size))
  have R7 := Lib.hid (R6.out.later hb)
  have P7 := Lib.hid (P6.out.later hb)
  clear hb B6 R6 P6
  go_wp2_with fail
  refine (exsame q pa _ c 1 exL true rfl (decide_eq_true rfl) w7 R7.out P7.out).mono ?_
  rintro e w8 ⟨rfl, m, rfl⟩
  go_wp2_with fail
  refine (exsame q none _ 0 0 [] false rfl (by decide) _ (R7.out.later (below_drewN w7 m)) (.inl rfl)).mono ?_
  rintro e w9 ⟨rfl, m2, rfl⟩
  go_wp2_with fail
  go_ret
  exact ⟨rfl, B7.out.trans ((below_drewN w7 _).mono B7.out.size)⟩
end Go.Proofs.Ytpnljefgenniaaa

