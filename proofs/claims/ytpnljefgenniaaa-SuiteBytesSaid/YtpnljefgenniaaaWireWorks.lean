/- The document's examples of wire. No conditions. -/
import Derived.Test.YtpnljefgenniaaaWriter
import Derived.Test.YtpnljefgenniaaaReader3
namespace Go.Proofs.Ytpnljefgenniaaa
set_option linter.unusedVariables false
open Go Go.RowKit

def wx : ByteArray := ⟨#[172, 2, 2, 97, 98]⟩
def wy : ByteArray := ⟨#[2, 97, 98]⟩
theorem wx_list : [] ++ lebL 300 ++ lebL (⟨#[97, 98]⟩ : ByteArray).size ++ (⟨#[97, 98]⟩ : ByteArray).data.toList = [172, 2, 2, 97, 98] := by
  have h1 : lebL 300 = [172, 2] := by rw [lebL, digs300]; rfl
  have h2 : lebL (⟨#[97, 98]⟩ : ByteArray).size = [2] := by rw [lebL, show (⟨#[97, 98]⟩ : ByteArray).size = 2 by rfl, digs_lt (by decide)]; rfl
  rw [h1, h2]; rfl
theorem leb_at (p : ByteArray) (n : Nat) (q : ByteArray) (hn : U64 n) : gN (p ++ lebStr n ++ q) p.size = n ∧ gT (p ++ lebStr n ++ q) p.size = p.size + (lebStr n).size ∧ gE (p ++ lebStr n ++ q) p.size = 0 := by
  have h := lebGet_back p hn q
  unfold gN gT gE
  rw [h]
  exact ⟨rfl, by simp only; omega, rfl⟩
theorem wx1 : gN wx 0 = 300 ∧ gT wx 0 = 2 ∧ gE wx 0 = 0 := by
  have h := leb_at ⟨#[]⟩ 300 ⟨#[2, 97, 98]⟩ (by unfold U64; decide)
  rw [str300] at h
  exact h
theorem wx2 : gN wx 2 = 2 ∧ gT wx 2 = 3 ∧ gE wx 2 = 0 := by
  have h := leb_at ⟨#[172, 2]⟩ 2 ⟨#[97, 98]⟩ (by unfold U64; decide)
  rw [show lebStr 2 = ⟨#[2]⟩ by rw [lebStr, digs_lt (by decide)]; rfl] at h
  exact h
theorem wy0 : gN wy 0 = 2 ∧ gT wy 0 = 1 ∧ gE wy 0 = 0 := by
  have h := leb_at ⟨#[]⟩ 2 ⟨#[97, 98]⟩ (by unfold U64; decide)
  rw [show lebStr 2 = ⟨#[2]⟩ by rw [lebStr, digs_lt (by decide)]; rfl] at h
  exact h
theorem num1 (r : Nat) (w : World) (h : RdAt w r wx 0 0) : Calls Try.prog 25 #[.pointer (some ⟨r, 0, none⟩)] w fun e w' => e = .returned (.int .u64 300) ∧ RdAt w' r wx 2 0 ∧ Only r w w' := by
  have := rnum_any r wx 0 0 w h (by decide) (by decide)
  rw [wx1.1, wx1.2.1, wx1.2.2] at this
  exact this
theorem text1 (r : Nat) (w : World) (h : RdAt w r wx 2 0) : Calls Try.prog 27 #[.pointer (some ⟨r, 0, none⟩), .int .i64 2] w fun e w' => e = .returned (.string ⟨#[97, 98]⟩) ∧ RdAt w' r wx 5 0 ∧ Only r w w' := by
  have := rtext_any r wx 2 0 2 w h (by decide) (by decide) (by decide)
  have e1 : cE wx 2 2 = 0 := by unfold cE; rw [wx2.1, wx2.2.2]; rfl
  have e2 : xS wx 2 2 = ⟨#[97, 98]⟩ := by unfold xS; rw [if_pos e1, wx2.1, wx2.2.1]; decide +kernel
  have e3 : xT wx 2 2 = 5 := by unfold xT; rw [if_pos e1, wx2.1, wx2.2.1]; decide +kernel
  have e4 : xE wx 2 2 = 0 := by unfold xE; rw [if_pos e1, wx2.1, wx2.2.1]; decide +kernel
  rw [e2, e3, e4] at this
  exact this
theorem text2 (r : Nat) (w : World) (h : RdAt w r wy 0 0) : Calls Try.prog 27 #[.pointer (some ⟨r, 0, none⟩), .int .i64 1] w fun e w' => e = .returned (.string ⟨#[]⟩) ∧ RdAt w' r wy 0 4 ∧ Only r w w' := by
  have := rtext_any r wy 0 0 1 w h (by decide) (by decide) (by decide)
  have e1 : cE wy 0 1 = 4 := by unfold cE; rw [wy0.1, wy0.2.2]; rfl
  have e4 : xE wy 0 1 = 4 := by unfold xE; rw [if_neg (by rw [e1]; decide), e1]
  rw [e4] at this
  exact this
theorem end1 (r : Nat) (w : World) (h : RdAt w r wx 5 0) : Calls Try.prog 23 #[.pointer (some ⟨r, 0, none⟩)] w fun e w' => e = .returned (.int .i64 0) ∧ Below w.heap.size w w' := rend_any r wx 5 0 w h
theorem end2 (r : Nat) (w : World) (h : RdAt w r wy 0 4) : Calls Try.prog 23 #[.pointer (some ⟨r, 0, none⟩)] w fun e w' => e = .returned (.int .i64 4) ∧ Below w.heap.size w w' := rend_any r wy 0 4 w h
theorem end3 (r : Nat) (w : World) (h : RdAt w r ⟨#[120]⟩ 0 0) : Calls Try.prog 23 #[.pointer (some ⟨r, 0, none⟩)] w fun e w' => e = .returned (.int .i64 5) ∧ Below w.heap.size w w' := rend_any r ⟨#[120]⟩ 0 0 w h
theorem RdAt.only {w w' : World} {r q : Nat} {s : ByteArray} {a er : Nat} (h : RdAt w r s a er) (hb : Only q w w') (hne : r ≠ q) : RdAt w' r s a er := h.at (hb.block r h.lt hne)

set_option maxRecDepth 100000 in
set_option maxHeartbeats 4000000 in
theorem wireworks_any (w : World) :
    Calls Try.prog 12 #[] w fun e w' => e = .returned (.bool true) ∧ Below w.heap.size w w' := by
  go_enter Try.func12, Try.ntmps12
  go_wp2_with fail
  refine (wnew_any _).mono ?_
  rintro e w1 ⟨rfl, hw1⟩
  have h0 := WrAt.new w w.heap.size (Nat.le_refl _)
  have hb1 : Below w.heap.size w w1 := by rw [← hw1]; exact (Below.refl _ _).alloc (Nat.le_refl _) _
  rw [hw1] at h0
  have H0 := Lib.hid h0
  clear hw1 h0
  go_wp2_with fail
  refine (wnum_any w.heap.size w.heap.size _ [] 300 _ H0.out (by unfold U64; decide) (by decide)).mono ?_
  rintro e w2 ⟨rfl, v2, h2, hO2, hF2⟩
  have hb2 := hb1.trans (hO2.below H0.out)
  have H2 := Lib.hid h2
  clear h2 hO2 hF2 hb1 H0
  go_wp2_with fail
  refine (wtext_any w.heap.size w.heap.size v2 _ ⟨#[97, 98]⟩ _ H2.out (by rw [lebL, digs300]; decide)).mono ?_
  rintro e w3 ⟨rfl, v3, h3, hO3, hF3⟩
  have hb3 := hb2.trans (hO3.below H2.out)
  rw [wx_list] at h3
  have H3 := Lib.hid h3
  clear h3 hO3 hF3 hb2 H2
  go_wp2_with fail
  refine (wbytes_any w.heap.size w.heap.size v3 _ _ H3.out).mono ?_
  rintro e w4 ⟨rfl, rfl⟩
  clear H3
  rw [show bStr [172, 2, 2, 97, 98] = wx by rfl]
  have hwx : (wx.toList == [172, 2, 2, 97, 98]) = true := by rw [ByteArray.toList_eq]; rfl
  go_wp2_with fail
  refine (rof_any wx _).mono ?_
  rintro e w5 ⟨rfl, hw5⟩
  have r5 : RdAt w5 w3.heap.size wx 0 0 := by rw [← hw5]; exact RdAt.new w3 wx
  have hb5 : Below w.heap.size w w5 := by rw [← hw5]; exact hb3.alloc hb3.size _
  have hz5 : w3.heap.size < w5.heap.size := r5.lt
  have hn5 : w.heap.size ≤ w3.heap.size := hb3.size
  have R5 := Lib.hid r5
  clear hw5 r5
  go_wp2_with fail
  refine (rof_any ⟨#[2, 97, 98]⟩ _).mono ?_
  rintro e w6 ⟨rfl, hw6⟩
  have q6 : RdAt w6 w5.heap.size wy 0 0 := by rw [← hw6]; exact RdAt.new w5 wy
  have r6 : RdAt w6 w3.heap.size wx 0 0 := by rw [← hw6]; exact R5.out.later ((Below.refl _ _).alloc (Nat.le_refl _) _)
  have hb6 : Below w.heap.size w w6 := by rw [← hw6]; exact hb5.alloc hb5.size _
  have Q6 := Lib.hid q6
  have R6 := Lib.hid r6
  clear hw6 q6 r6 R5
  go_wp2_with fail
  refine (num1 w3.heap.size _ R6.out).mono ?_
  rintro e w7 ⟨rfl, r7, o7⟩
  have Q7 := Lib.hid (Q6.out.only o7 (by omega))
  have hb7 := hb6.trans (o7.below hn5 hb6.size)
  have R7 := Lib.hid r7
  clear r7 o7 Q6 R6
  go_wp2_with fail
  refine (text1 w3.heap.size _ R7.out).mono ?_
  rintro e w8 ⟨rfl, r8, o8⟩
  have Q8 := Lib.hid (Q7.out.only o8 (by omega))
  have hb8 := hb7.trans (o8.below hn5 hb7.size)
  have R8 := Lib.hid r8
  clear r8 o8 Q7 R7
  go_wp2_with fail
  refine (text2 w5.heap.size _ Q8.out).mono ?_
  rintro e w9 ⟨rfl, q9, o9⟩
  have R9 := Lib.hid (R8.out.only o9 (by omega))
  have hb9 := hb8.trans (o9.below (by omega) hb8.size)
  have Q9 := Lib.hid q9
  clear q9 o9 Q8 R8
  go_wp2_with fail
  refine (rat_any w3.heap.size wx 5 0 _ R9.out).mono ?_
  rintro e w10 ⟨rfl, rfl⟩
  go_wp2_with fail
  refine (end1 w3.heap.size _ R9.out).mono ?_
  rintro e w11 ⟨rfl, hb11⟩
  have Q11 := Lib.hid (Q9.out.later hb11)
  have hc11 := hb9.trans (hb11.mono hb9.size)
  clear hb11 Q9 R9
  go_wp2_with fail
  refine (rat_any w5.heap.size wy 0 4 _ Q11.out).mono ?_
  rintro e w12 ⟨rfl, rfl⟩
  go_wp2_with fail
  refine (end2 w5.heap.size _ Q11.out).mono ?_
  rintro e w13 ⟨rfl, hb13⟩
  have hc13 := hc11.trans (hb13.mono hc11.size)
  clear hb13 Q11
  go_wp2_with fail
  refine (rof_any ⟨#[120]⟩ _).mono ?_
  rintro e w14 ⟨rfl, hw14⟩
  have r14 : RdAt w14 w13.heap.size ⟨#[120]⟩ 0 0 := by rw [← hw14]; exact RdAt.new w13 _
  have hb14 : Below w.heap.size w w14 := by rw [← hw14]; exact hc13.alloc hc13.size _
  have R14 := Lib.hid r14
  clear hw14 r14
  go_wp2_with fail
  refine (end3 w13.heap.size _ R14.out).mono ?_
  rintro e w15 ⟨rfl, hb15⟩
  have hc15 := hb14.trans (hb15.mono hb14.size)
  go_wp2_with fail
  go_ret
  exact ⟨rfl, hc15⟩
end Go.Proofs.Ytpnljefgenniaaa

