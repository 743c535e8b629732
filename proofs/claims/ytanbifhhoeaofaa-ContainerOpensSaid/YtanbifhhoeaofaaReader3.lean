/- wire's Reader: Count, part, Text, Raw, Byte. No conditions. -/
import Derived.Test.YtanbifhhoeaofaaReader2
namespace Go.Proofs.Ytanbifhhoeaofaa
set_option linter.unusedVariables false
open Go Go.RowKit

set_option maxRecDepth 100000 in
set_option maxHeartbeats 1600000 in
theorem rcount_any (r : Nat) (s : ByteArray) (a er : Nat) (most : Int) (w : World) (h : RdAt w r s a er) (hs : s.size ≤ maxLen) (ha : a ≤ s.size) (hm : -9223372036854775808 ≤ most ∧ most ≤ 9223372036854775807) :
    Calls Try.prog 55 #[.pointer (some ⟨r, 0, none⟩), .int .i64 most] w fun e w' => e = .returned (.int .i64 (tk er (cE s a most) (wrap64 (gN s a : Nat)) 0)) ∧ RdAt w' r s (mvA a er (gT s a) (cE s a most)) (mvE er (cE s a most)) ∧ Only r w w' := by
  have hmf : ∀ (fn : Fn) (first cap : Array Value) (w : World), (Instr.makeFunc fn first cap).run Try.prog w = .ok (.func fn first cap) w := fun _ _ _ _ => rfl
  have H := Lib.hid h
  have HG := Lib.hid (rcnt_any r s a er most w h hs ha hm)
  clear h hm
  generalize wrap64 (gN s a : Nat) = n at HG ⊢
  generalize gT s a = t at HG ⊢
  generalize cE s a most = g at HG ⊢
  go_enter Try.func55, Try.ntmps55
  go_wp2_with fail
  refine HG.out.mono ?_
  rintro e w1 ⟨rfl, k, rfl⟩
  go_wp2_with fail
  refine (tookI_any r s a er t g n _ (H.out.drewN _)).mono ?_
  rintro e W ⟨rfl, hR, hO⟩
  go_wp2_with fail
  go_ret
  exact ⟨rfl, hR, hO.drewN⟩
/-- bytes from a place on: themselves, where they end, what is wrong -/
def pS (s : ByteArray) (a n : Nat) : ByteArray := if a + n ≤ s.size then s.extract a (a + n) else ⟨#[]⟩
def pT (s : ByteArray) (a n : Nat) : Nat := if a + n ≤ s.size then a + n else a
def pE (s : ByteArray) (a n : Nat) : Nat := if a + n ≤ s.size then 0 else 2
theorem cretP {s s' : ByteArray} {b b' c c' : Int} (h1 : s = s') (h2 : b = b') (h3 : c = c') : Ending.returned (.tuple #[.string s, .int .i64 b, .int .i64 c]) = .returned (.tuple #[.string s', .int .i64 b', .int .i64 c']) := by rw [h1, h2, h3]
set_option maxRecDepth 100000 in
set_option maxHeartbeats 1600000 in
theorem rpart_any (r : Nat) (s : ByteArray) (a er q n : Nat) (w : World) (h : RdAt w r s a er) (hs : s.size ≤ maxLen) (hq : q ≤ s.size) (hn : n ≤ 9223372036854775807) :
    Calls Try.prog 69 #[.pointer (some ⟨r, 0, none⟩), .int .i64 q, .int .i64 n] w fun e w' => e = .returned (.tuple #[.string (pS s q n), .int .i64 (pT s q n : Nat), .int .i64 (pE s q n : Nat)]) ∧ w = w' := by
  have c0 := h.c0
  clear h
  unfold maxLen at hs
  have hz0 : (0 : Int) ≤ (s.size : Int) - q := by omega
  by_cases hlt : q + n ≤ s.size
  · have e1 := Lib.hid (show pS s q n = s.extract q (q + n) by unfold pS; rw [if_pos hlt])
    have e2 := Lib.hid (show pT s q n = q + n by unfold pT; rw [if_pos hlt])
    have e3 := Lib.hid (show pE s q n = 0 by unfold pE; rw [if_pos hlt])
    have hd : decide ((s.size : Int) - q < n) = false := by simp; omega
    have hq2 : q ≤ q + n := by omega
    go_enter Try.func69, Try.ntmps69
    go_wp2
    go_ret3
    exact ⟨cretP e1.out.symm (by rw [e2.out]; omega) (by rw [e3.out]; rfl), rfl⟩
  · have e1 := Lib.hid (show pS s q n = ⟨#[]⟩ by unfold pS; rw [if_neg hlt])
    have e2 := Lib.hid (show pT s q n = q by unfold pT; rw [if_neg hlt])
    have e3 := Lib.hid (show pE s q n = 2 by unfold pE; rw [if_neg hlt])
    have hd : decide ((s.size : Int) - q < n) = true := by simp; omega
    clear hlt
    go_enter Try.func69, Try.ntmps69
    go_wp2
    go_ret3
    exact ⟨cretP e1.out.symm (by rw [e2.out]) (by rw [e3.out]; rfl), rfl⟩
theorem pT_le {s : ByteArray} {a n : Nat} (h : a ≤ s.size) : a ≤ pT s a n ∧ pT s a n ≤ s.size := by unfold pT; split <;> omega
/-- Text: what is read, where it ends, what is wrong -/
def xS (s : ByteArray) (a : Nat) (most : Int) : ByteArray := if cE s a most = 0 then pS s (gT s a) (gN s a) else ⟨#[]⟩
def xT (s : ByteArray) (a : Nat) (most : Int) : Nat := if cE s a most = 0 then pT s (gT s a) (gN s a) else gT s a
def xE (s : ByteArray) (a : Nat) (most : Int) : Nat := if cE s a most = 0 then pE s (gT s a) (gN s a) else cE s a most
theorem cE_ok {s : ByteArray} {a : Nat} {most : Int} (h : cE s a most = 0) : gE s a = 0 ∧ 0 ≤ most ∧ (gN s a : Int) ≤ most := by
  unfold cE at h
  by_cases hc : gE s a = 0 ∧ (most < 0 ∨ most < (gN s a : Int))
  · rw [if_pos hc] at h; omega
  · rw [if_neg hc] at h; exact ⟨h, by omega, by omega⟩
/-- Raw -/
def wS (s : ByteArray) (a : Nat) (n : Int) : ByteArray := if n < 0 then ⟨#[]⟩ else pS s a n.toNat
def wT (s : ByteArray) (a : Nat) (n : Int) : Nat := if n < 0 then a else pT s a n.toNat
def wE (s : ByteArray) (a : Nat) (n : Int) : Nat := if n < 0 then 1 else pE s a n.toNat
set_option maxRecDepth 100000 in
set_option maxHeartbeats 1600000 in
theorem rraw_any (r : Nat) (s : ByteArray) (a er : Nat) (n : Int) (w : World) (h : RdAt w r s a er) (hs : s.size ≤ maxLen) (ha : a ≤ s.size) (hm : n ≤ 9223372036854775807) :
    Calls Try.prog 57 #[.pointer (some ⟨r, 0, none⟩), .int .i64 n] w fun e w' => e = .returned (.string (tk er (wE s a n) (wS s a n) ⟨#[]⟩)) ∧ RdAt w' r s (mvA a er (wT s a n) (wE s a n)) (mvE er (wE s a n)) ∧ Only r w w' := by
  have hmf : ∀ (fn : Fn) (first cap : Array Value) (w : World), (Instr.makeFunc fn first cap).run Try.prog w = .ok (.func fn first cap) w := fun _ _ _ _ => rfl
  have c0 := h.c0
  have c1 := h.c1
  have H := Lib.hid h
  unfold wS wT wE
  by_cases hn : n < 0
  · rw [if_pos hn, if_pos hn, if_pos hn]
    have hd : decide (n < 0) = true := by simp; omega
    clear h
    go_enter Try.func57, Try.ntmps57
    go_wp2
    go_region_with (go_at_call 68; refine (tookS_any r s a er a 1 ⟨#[]⟩ _ (H.out.drewN 1)).mono ?_; rintro e W ⟨rfl, hR, hO⟩)
    all_goals go_wp2_with fail
    all_goals go_ret
    all_goals exact ⟨rfl, hR, hO.drewN⟩
  · rw [if_neg hn, if_neg hn, if_neg hn]
    obtain ⟨m, rfl⟩ := Int.eq_ofNat_of_zero_le (show 0 ≤ n by omega)
    simp only [Int.toNat_natCast]
    have HP := Lib.hid (fun W hR => rpart_any r s a er a m W hR hs ha (by omega))
    clear hn h
    generalize pS s a m = x at HP ⊢
    generalize pT s a m = y at HP ⊢
    generalize pE s a m = z at HP ⊢
    go_enter Try.func57, Try.ntmps57
    go_wp2_with fail
    refine (HP.out _ H.out).mono ?_
    rintro e w2 ⟨rfl, rfl⟩
    go_wp2_with fail
    refine (tookS_any r s a er y z x _ H.out).mono ?_
    rintro e W ⟨rfl, hR, hO⟩
    go_wp2_with fail
    go_ret
    exact ⟨rfl, hR, hO⟩
/-- Byte -/
def byteAt (s : ByteArray) (a : Nat) : Nat := (s.data.toList.getD a 0).toNat
def bV (s : ByteArray) (a er : Nat) : Nat := tk er (wE s a 1) (byteAt s a) 0
theorem wE_one (s : ByteArray) (a : Nat) : wE s a 1 = if a + 1 ≤ s.size then 0 else 2 := by unfold wE pE; rw [if_neg (by decide)]; rfl
set_option maxRecDepth 100000 in
set_option maxHeartbeats 1600000 in
theorem rbyte_any (r : Nat) (s : ByteArray) (a er : Nat) (w : World) (h : RdAt w r s a er) (hs : s.size ≤ maxLen) (ha : a ≤ s.size) :
    Calls Try.prog 50 #[.pointer (some ⟨r, 0, none⟩)] w fun e w' => e = .returned (.int .u8 (bV s a er : Nat)) ∧ RdAt w' r s (mvA a er (wT s a 1) (wE s a 1)) (mvE er (wE s a 1)) ∧ Only r w w' := by
  have HR := Lib.hid (rraw_any r s a er 1 w h hs ha (by decide))
  clear h
  by_cases hc : er = 0 ∧ a + 1 ≤ s.size
  · obtain ⟨x, hx⟩ : ∃ x, tk er (wE s a 1) (wS s a 1) ⟨#[]⟩ = x := ⟨_, rfl⟩
    have hx2 : x = s.extract a (a + 1) := by
      rw [← hx]; unfold tk; rw [if_pos ⟨hc.1, by rw [wE_one, if_pos hc.2]⟩]
      unfold wS pS; rw [if_neg (by decide), if_pos (by simpa using hc.2)]; rfl
    have hxs : x.size = 1 := by rw [hx2, ByteArray.size_extract]; omega
    have hx0 : (0 : Nat) < x.size := by omega
    have hb : (x[0]'hx0).toNat = bV s a er := by
      unfold bV tk; rw [if_pos ⟨hc.1, by rw [wE_one, if_pos hc.2]⟩]
      unfold byteAt
      subst hx2
      rw [ByteArray.getElem_extract, List.getD_eq_getElem?_getD, List.getElem?_eq_getElem (show a < s.data.toList.length by have := hc.2; simp; omega)]
      rfl
    have hb2 : Hid (((x[0]'hx0).toNat : Int) = (bV s a er : Nat)) := Lib.hid (by rw [hb])
    have e1 : x.toList.isEmpty = false := by
      rw [ByteArray.toList_eq]
      cases hl : x.data.toList with
      | nil =>
        have h1 : x.data.toList.length = 1 := by simpa using hxs
        rw [hl] at h1; cases h1
      | cons => rfl
    have e2 : (x.toList == []) = false := by
      cases hl : x.toList with
      | nil => rw [hl] at e1; simp at e1
      | cons => rfl
    rw [hx] at HR
    have hx1 : (0 : Int) < (x.size : Int) := by omega
    clear hc hx hx2 hb hxs
    generalize mvA a er (wT s a 1) (wE s a 1) = y at HR ⊢
    generalize mvE er (wE s a 1) = z at HR ⊢
    go_enter Try.func50, Try.ntmps50
    go_wp2_with fail
    refine HR.out.mono ?_
    rintro e W ⟨rfl, hR, hO⟩
    go_wp2_with fail
    go_ret
    exact ⟨by rw [← hb2.out]; rfl, hR, hO⟩
  · have hne : ¬ (er = 0 ∧ wE s a 1 = 0) := by rw [wE_one]; split <;> omega
    have hx : tk er (wE s a 1) (wS s a 1) (⟨#[]⟩ : ByteArray) = ⟨#[]⟩ := by unfold tk; rw [if_neg hne]
    have hb := Lib.hid (show bV s a er = 0 by unfold bV tk; rw [if_neg hne])
    rw [hx] at HR
    clear hc hx hne
    rw [hb.out]
    generalize mvA a er (wT s a 1) (wE s a 1) = y at HR ⊢
    generalize mvE er (wE s a 1) = z at HR ⊢
    go_enter Try.func50, Try.ntmps50
    go_wp2_with fail
    refine HR.out.mono ?_
    rintro e W ⟨rfl, hR, hO⟩
    go_wp2_with fail
    go_ret
    exact ⟨rfl, hR, hO⟩
theorem wT_le {s : ByteArray} {a : Nat} {n : Int} (h : a ≤ s.size) : a ≤ wT s a n ∧ wT s a n ≤ s.size := by
  unfold wT; split
  · exact ⟨Nat.le_refl _, h⟩
  · exact pT_le h
theorem xT_le {s : ByteArray} {a : Nat} {n : Int} (h : a ≤ s.size) : a ≤ xT s a n ∧ xT s a n ≤ s.size := by
  obtain ⟨_, h1, h2, _⟩ := leb_g s a h
  unfold xT; split
  · have := pT_le (n := gN s a) h2; omega
  · exact ⟨h1, h2⟩
theorem mvA_le {s : ByteArray} {a er to er' : Nat} (h : a ≤ s.size) (ht : a ≤ to ∧ to ≤ s.size) : a ≤ mvA a er to er' ∧ mvA a er to er' ≤ s.size := by unfold mvA; split <;> omega
end Go.Proofs.Ytanbifhhoeaofaa

