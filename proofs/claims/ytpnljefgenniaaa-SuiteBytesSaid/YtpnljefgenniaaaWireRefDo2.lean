/- The document's Do at every operation. No conditions. -/
import Derived.Test.YtpnljefgenniaaaWireRefDo
import Derived.Test.YtpnljefgenniaaaWireWrong
namespace Go.Proofs.Ytpnljefgenniaaa
set_option linter.unusedVariables false
open Go Go.RowKit

theorem cv {s : ByteArray} {A A' R R' x x' : Nat} {y y' : Int} {t t' : ByteArray} {e : Ending} (h1 : A' = A) (h2 : R' = R) (h3 : x' = x) (h4 : y' = y) (h5 : t' = t) (h : e = .returned (.tuple #[rdV s A R, gtV x y t])) : e = .returned (.tuple #[rdV s A' R', gtV x' y' t']) := by rw [h1, h2, h3, h4, h5]; exact h
theorem tk_no {α : Type} {e : Nat} (x z : α) (h : e ≠ 0) : tk 0 e x z = z := by unfold tk; rw [if_neg (by omega)]
theorem tk_ok {α : Type} (x z : α) : tk 0 0 x z = x := by unfold tk; rw [if_pos ⟨rfl, rfl⟩]
theorem mvA_no {a to e : Nat} (h : e ≠ 0) : mvA a 0 to e = a := by unfold mvA; rw [if_neg (by omega)]
theorem mvA_ok {a to : Nat} : mvA a 0 to 0 = to := by unfold mvA; rw [if_pos ⟨rfl, rfl⟩]
theorem mvE_0 {e : Nat} : mvE 0 e = e := by unfold mvE; rw [if_pos rfl]
set_option maxHeartbeats 1000000 in
theorem ddo_any (s : ByteArray) (a er : Nat) (k n : Int) (w : World) (hs : s.size ≤ maxLen) (ha : a ≤ s.size) (hn : I64 n) :
    Calls Try.prog 45 #[rdV s a er, .agg #[.int .i64 k, .int .i64 n]] w fun e w' => e = .returned (.tuple #[rdV s (oA s a er k n) (oR s a er k n), gtV (oNum s a er k n) (oInt s a er k n) (oText s a er k n)]) ∧ Below w.heap.size w w' := by
  by_cases he : er = 0
  · subst he
    by_cases h0 : k = 0
    · subst h0
      have e1 : oA s a 0 0 n = mvA a 0 (wT s a 1) (wE s a 1) := rfl
      have e2 : oR s a 0 0 n = mvE 0 (wE s a 1) := rfl
      have e3 : oNum s a 0 0 n = bV s a 0 := rfl
      have e4 : oInt s a 0 0 n = 0 := rfl
      have e5 : oText s a 0 0 n = ⟨#[]⟩ := rfl
      rw [e1, e2, e3, e4, e5]
      by_cases hlt : a < s.size
      · have w1 : wE s a 1 = 0 := by rw [wE_one, if_pos (by omega)]
        have w2 : wT s a 1 = a + 1 := by unfold wT pT; rw [if_neg (by decide), if_pos (show a + Int.toNat 1 ≤ s.size from by show a + 1 ≤ _; omega)]; rfl
        refine (do_byte s a (a + 1) (byteAt s a) n w hs hlt rfl rfl).mono fun e w' ⟨h1, h2⟩ => ⟨cv ?_ ?_ ?_ rfl rfl h1, h2⟩
        · rw [w1, w2, mvA_ok]
        · rw [w1, mvE_0]
        · unfold bV; rw [w1, tk_ok]
      · have w1 : wE s a 1 = 2 := by rw [wE_one, if_neg (by omega)]
        refine (do_byte_end s a n w (by omega)).mono fun e w' ⟨h1, h2⟩ => ⟨cv ?_ ?_ ?_ rfl rfl h1, h2⟩
        · rw [w1, mvA_no (by decide)]
        · rw [w1, mvE_0]
        · unfold bV; rw [w1, tk_no _ _ (by decide)]
    by_cases h5 : k = 5
    · subst h5
      have e1 : oA s a 0 5 n = mvA a 0 (wT s a n) (wE s a n) := rfl
      have e2 : oR s a 0 5 n = mvE 0 (wE s a n) := rfl
      have e3 : oNum s a 0 5 n = 0 := rfl
      have e4 : oInt s a 0 5 n = 0 := rfl
      have e5 : oText s a 0 5 n = tk 0 (wE s a n) (wS s a n) ⟨#[]⟩ := rfl
      rw [e1, e2, e3, e4, e5]
      by_cases hneg : n < 0
      · have w1 : wE s a n = 1 := by unfold wE; rw [if_pos hneg]
        refine (do_raw_neg s a n w hneg).mono fun e w' ⟨h1, h2⟩ => ⟨cv ?_ ?_ rfl rfl ?_ h1, h2⟩
        · rw [w1, mvA_no (by decide)]
        · rw [w1, mvE_0]
        · rw [w1, tk_no _ _ (by decide)]
      · obtain ⟨m, rfl⟩ := Int.eq_ofNat_of_zero_le (show 0 ≤ n by omega)
        have w1 : wE s a m = if a + m ≤ s.size then 0 else 2 := by unfold wE pE; rw [if_neg (by omega), Int.toNat_natCast]
        have w2 : wT s a m = if a + m ≤ s.size then a + m else a := by unfold wT pT; rw [if_neg (by omega), Int.toNat_natCast]
        have w3 : wS s a m = pS s a m := by unfold wS; rw [if_neg (by omega), Int.toNat_natCast]
        refine (do_raw s a m w hs ha (by unfold I64 at hn; omega)).mono fun e w' ⟨h1, h2⟩ => ⟨cv ?_ ?_ rfl rfl ?_ h1, h2⟩
        · rw [w1, w2]
          by_cases hc : a + m ≤ s.size
          · simp only [if_pos hc]; exact mvA_ok
          · simp only [if_neg hc]; exact mvA_no (by decide)
        · rw [w1, mvE_0]
        · rw [w1, w3]
          by_cases hc : a + m ≤ s.size
          · rw [if_pos hc, tk_ok]
          · rw [if_neg hc, tk_no _ _ (by decide)]; unfold pS; rw [if_neg hc]
    have k0 : (k == 0) = false := by simp; exact h0
    have k5 : (k == 5) = false := by simp; exact h5
    have HG := fun W => rgot_g s a W hs ha
    obtain ⟨_, b1, b2, b3, b4⟩ := leb_g s a ha
    by_cases hE : gE s a = 0
    · by_cases h2 : k = 2
      · subst h2
        have e1 : oA s a 0 2 n = mvA a 0 (gT s a) (cE s a n) := rfl
        have e2 : oR s a 0 2 n = mvE 0 (cE s a n) := rfl
        have e3 : oNum s a 0 2 n = tk 0 (cE s a n) (gN s a) 0 := rfl
        have e4 : oInt s a 0 2 n = 0 := rfl
        have e5 : oText s a 0 2 n = ⟨#[]⟩ := rfl
        rw [e1, e2, e3, e4, e5]
        by_cases hc : n < 0 ∨ n < (gN s a : Int)
        · have c1 : cE s a n = 4 := by unfold cE; rw [if_pos ⟨hE, hc⟩]
          refine (do_large2 s a _ _ _ n w HG hE (by unfold I64 at hn; omega)).mono fun e w' ⟨h1, h2⟩ => ⟨cv ?_ ?_ ?_ rfl rfl h1, h2⟩
          · rw [c1, mvA_no (by decide)]
          · rw [c1, mvE_0]
          · rw [c1, tk_no _ _ (by decide)]
        · have c1 : cE s a n = 0 := by unfold cE; rw [if_neg (by omega)]; exact hE
          refine (do_count s a _ _ _ n w HG hE (by omega) (by omega) (by unfold I64 at hn; omega)).mono fun e w' ⟨h1, h2⟩ => ⟨cv ?_ ?_ ?_ rfl rfl h1, h2⟩
          · rw [c1, mvA_ok]
          · rw [c1, mvE_0]
          · rw [c1, tk_ok]
      by_cases h3 : k = 3
      · subst h3
        have e1 : oA s a 0 3 n = mvA a 0 (gT s a) (gE s a) := rfl
        have e2 : oR s a 0 3 n = mvE 0 (gE s a) := rfl
        have e3 : oNum s a 0 3 n = 0 := rfl
        have e4 : oInt s a 0 3 n = tk 0 (gE s a) (zN s a) 0 := rfl
        have e5 : oText s a 0 3 n = ⟨#[]⟩ := rfl
        rw [e1, e2, e3, e4, e5]
        refine (do_int s a _ _ _ n w HG hE b3).mono fun e w' ⟨h1, h2⟩ => ⟨cv ?_ ?_ rfl ?_ rfl h1, h2⟩
        · rw [hE, mvA_ok]
        · rw [hE, mvE_0]
        · unfold zN; rw [if_pos hE, hE, tk_ok]
      by_cases h4 : k = 4
      · subst h4
        have e1 : oA s a 0 4 n = mvA a 0 (xT s a n) (xE s a n) := rfl
        have e2 : oR s a 0 4 n = mvE 0 (xE s a n) := rfl
        have e3 : oNum s a 0 4 n = 0 := rfl
        have e4 : oInt s a 0 4 n = 0 := rfl
        have e5 : oText s a 0 4 n = tk 0 (xE s a n) (xS s a n) ⟨#[]⟩ := rfl
        rw [e1, e2, e3, e4, e5]
        by_cases hc : n < 0 ∨ n < (gN s a : Int)
        · have c1 : cE s a n = 4 := by unfold cE; rw [if_pos ⟨hE, hc⟩]
          have c2 : xE s a n = 4 := by unfold xE; rw [c1, if_neg (by decide)]
          refine (do_large4 s a _ _ _ n w HG hE (by unfold I64 at hn; omega)).mono fun e w' ⟨h1, h2⟩ => ⟨cv ?_ ?_ rfl rfl ?_ h1, h2⟩
          · rw [c2, mvA_no (by decide)]
          · rw [c2, mvE_0]
          · rw [c2, tk_no _ _ (by decide)]
        · have c1 : cE s a n = 0 := by unfold cE; rw [if_neg (by omega)]; exact hE
          have c2 : xE s a n = pE s (gT s a) (gN s a) := by unfold xE; rw [if_pos c1]
          have c3 : xT s a n = pT s (gT s a) (gN s a) := by unfold xT; rw [if_pos c1]
          have c4 : xS s a n = pS s (gT s a) (gN s a) := by unfold xS; rw [if_pos c1]
          refine (do_text_ok s a _ _ _ n w HG hs b2 hE (by omega) (by omega) (by unfold I64 at hn; omega)).mono fun e w' ⟨h1, h2⟩ => ⟨cv ?_ ?_ rfl rfl ?_ h1, h2⟩
          · rw [c2, c3]
            unfold pE pT
            by_cases hd : gT s a + gN s a ≤ s.size
            · simp only [if_pos hd]; exact mvA_ok
            · simp only [if_neg hd]; exact mvA_no (by decide)
          · rw [c2, mvE_0]; rfl
          · rw [c2, c4]
            by_cases hd : gT s a + gN s a ≤ s.size
            · have : pE s (gT s a) (gN s a) = 0 := by unfold pE; rw [if_pos hd]
              rw [this, tk_ok]
            · have : pE s (gT s a) (gN s a) = 2 := by unfold pE; rw [if_neg hd]
              rw [this, tk_no _ _ (by decide)]; unfold pS; rw [if_neg hd]
      have k2 : (k == 2) = false := by simp; exact h2
      have k3 : (k == 3) = false := by simp; exact h3
      have k4 : (k == 4) = false := by simp; exact h4
      have e1 : oA s a 0 k n = mvA a 0 (gT s a) (gE s a) := by unfold oA oT oE; simp only [if_neg h0, if_neg h2, if_neg h3, if_neg h4, if_neg h5]
      have e2 : oR s a 0 k n = mvE 0 (gE s a) := by unfold oR oE; simp only [if_neg h0, if_neg h2, if_neg h3, if_neg h4, if_neg h5]
      have e3 : oNum s a 0 k n = tk 0 (gE s a) (gN s a) 0 := by unfold oNum; simp only [if_neg h0, if_neg h2, if_neg h3, if_neg h4, if_neg h5]
      have e4 : oInt s a 0 k n = 0 := by unfold oInt; rw [if_neg h3]
      have e5 : oText s a 0 k n = ⟨#[]⟩ := by unfold oText; rw [if_neg h4, if_neg h5]
      rw [e1, e2, e3, e4, e5]
      refine (do_num s a _ _ _ k n w HG k0 k5 k2 k3 k4 hE).mono fun e w' ⟨h1, h2⟩ => ⟨cv ?_ ?_ ?_ rfl rfl h1, h2⟩
      · rw [hE, mvA_ok]
      · rw [hE, mvE_0]
      · rw [hE, tk_ok]
    · refine (do_get_err s a _ _ _ k n w HG k0 k5 hE).mono fun e w' ⟨h1, h2⟩ => ⟨cv ?_ ?_ ?_ ?_ ?_ h1, h2⟩
      all_goals have c1 : cE s a n = gE s a := by unfold cE; rw [if_neg (fun h => hE h.1)]
      all_goals have c2 : xE s a n = gE s a := by unfold xE; rw [c1, if_neg hE]
      · unfold oA oE
        rw [mvA_no]
        rw [if_neg h0, if_neg h5, c1, c2]
        repeat' split
        all_goals exact hE
      · unfold oR oE
        rw [if_neg h0, if_neg h5, c1, c2]
        repeat' split
        all_goals rw [mvE_0]
      · unfold oNum
        rw [if_neg h0, c1]
        repeat' split
        all_goals first | rfl | exact tk_no _ _ hE
      · unfold oInt
        split
        · exact tk_no _ _ hE
        · rfl
      · unfold oText
        rw [if_neg h5, c2]
        split
        · exact tk_no _ _ hE
        · rfl
  · have hg := oGot_err (s := s) (a := a) (k := k) (n := n) he
    obtain ⟨g1, g2, g3⟩ := hg
    unfold oGot at g1
    simp only [GotV.mk.injEq] at g1
    exact (do_erred s a er k n w he).mono fun e w' ⟨h1, h2⟩ => ⟨cv g2 g3 g1.1 g1.2.1 g1.2.2.1 h1, h2⟩
end Go.Proofs.Ytpnljefgenniaaa

