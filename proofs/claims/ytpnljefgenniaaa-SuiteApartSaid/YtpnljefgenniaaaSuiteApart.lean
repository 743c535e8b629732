/- Unlike tests, or fuel, have unlike bytes: the walk. No conditions. -/
import Derived.Test.YtpnljefgenniaaaSuiteOpen
namespace Go.Proofs.Ytpnljefgenniaaa
set_option linter.unusedVariables false
open Go Go.RowKit

theorem sapart_cases {A B : List (List Int)} {n m : Int} (hA : ∀ l ∈ A, ∀ x ∈ l, I64 x) (hB : ∀ l ∈ B, ∀ x ∈ l, I64 x) (hE : tE A n = 0) (hF : tE B m = 0) :
    (decide (A = B) = true ∧ n = m ∧ tStr A n = tStr B m) ∨ (tStr A n ≠ tStr B m ∧ (decide (A = B) = false ∨ decide (A = B) = true ∧ n ≠ m)) := by
  by_cases h : A = B ∧ n = m
  · obtain ⟨rfl, rfl⟩ := h
    exact .inl ⟨decide_eq_true rfl, rfl, rfl⟩
  · right
    constructor
    · intro hs
      obtain ⟨_, _, _, _, e1, e2⟩ := tE_ok hE
      obtain ⟨_, _, _, _, e3, e4⟩ := tE_ok hF
      obtain ⟨n', rfl⟩ := Int.eq_ofNat_of_zero_le (show 0 ≤ n by omega)
      obtain ⟨m', rfl⟩ := Int.eq_ofNat_of_zero_le (show 0 ≤ m by omega)
      obtain ⟨rfl, rfl⟩ := put_one hA hB hE hF hs
      exact h ⟨rfl, rfl⟩
    · by_cases hab : A = B
      · exact .inr ⟨decide_eq_true hab, fun hn => h ⟨hab, hn⟩⟩
      · exact .inl (decide_eq_false hab)
set_option maxRecDepth 100000 in
set_option maxHeartbeats 4000000 in
theorem walk_sapart (pa : Option Addr) (ca : Nat) (A : List (List Int)) (pb : Option Addr) (cb : Nat) (B : List (List Int)) (n m : Int) (w : World) (hA : RowsAt w pa A ∧ A.length ≤ maxLen ∧ (∀ l ∈ A, l.length ≤ maxLen) ∧ ∀ l ∈ A, ∀ x ∈ l, I64 x) (hB : RowsAt w pb B ∧ B.length ≤ maxLen ∧ (∀ l ∈ B, l.length ≤ maxLen) ∧ ∀ l ∈ B, ∀ x ∈ l, I64 x) (hn : (Lit.int .i64 n).wf = true) (hm : (Lit.int .i64 m).wf = true) :
    Calls Try.prog 11 #[.slice pa A.length ca, .slice pb B.length cb, .int .i64 n, .int .i64 m] w fun e w' => e = .returned (.bool true) ∧ Below w.heap.size w w' := by
  obtain ⟨a1, a2, a3, a4⟩ := hA
  obtain ⟨b1, b2, b3, b4⟩ := hB
  have RA := Lib.hid a1
  have RB := Lib.hid b1
  have FA := Lib.hid (fun W h => fewT_any pa ca A W h a2)
  have FB := Lib.hid (fun W h => fewT_any pb cb B W h b2)
  have CT := Lib.hid (fun W h k => same_any pa pb ca cb A B W h k a2 a3)
  have PA := Lib.hid (fun W h => sput_any pa ca A n W h a2 a3 a4)
  have PB := Lib.hid (fun W h => sput_any pb cb B m W h b2 b3 b4)
  have HC := Lib.hid (sapart_cases (n := n) (m := m) a4 b4)
  clear a1 a2 a3 a4 b1 b2 b3 b4 hn hm
  generalize fewT A = fa at FA
  generalize fewT B = fb at FB
  generalize decide (A = B) = r at CT HC
  generalize tE A n = E at PA HC
  generalize tE B m = F at PB HC
  generalize tStr A n = S at PA HC
  generalize tStr B m = T at PB HC
  generalize A.length = na at FA CT PA ⊢
  generalize B.length = nb at FB CT PB ⊢
  go_enter Try.func11, Try.ntmps11
  go_wp2_with fail
  refine (sworks_any w).mono ?_
  rintro e w1 ⟨rfl, hb⟩
  have B1 := Lib.hid hb
  have A1 := Lib.hid (RA.out.later hb)
  have C1 := Lib.hid (RB.out.later hb)
  clear hb RA RB
  go_wp2_with fail
  refine (FA.out w1 A1.out).mono ?_
  rintro e w2 ⟨rfl, rfl⟩
  cases fa with
  | false =>
    go_wp2_with fail
    go_ret
    exact ⟨rfl, B1.out⟩
  | true =>
    go_wp2_with fail
    refine (FB.out w1 C1.out).mono ?_
    rintro e w2 ⟨rfl, rfl⟩
    cases fb with
    | false =>
      go_wp2_with fail
      go_ret
      exact ⟨rfl, B1.out⟩
    | true =>
      go_wp2_with fail
      refine (PA.out w1 A1.out).mono ?_
      rintro e w3 ⟨rfl, hb⟩
      have B3 := Lib.hid (B1.out.trans (hb.mono B1.out.size))
      have A3 := Lib.hid (A1.out.later hb)
      have C3 := Lib.hid (C1.out.later hb)
      clear hb B1 A1 C1
      go_wp2_with fail
      refine (PB.out w3 C3.out).mono ?_
      rintro e w4 ⟨rfl, hb⟩
      have B4 := Lib.hid (B3.out.trans (hb.mono B3.out.size))
      have A4 := Lib.hid (A3.out.later hb)
      have C4 := Lib.hid (C3.out.later hb)
      clear hb B3 A3 C3
      by_cases hE : E = 0
      · subst hE
        by_cases hF : F = 0
        · subst hF
          rcases HC.out rfl rfl with ⟨rfl, rfl, rfl⟩ | ⟨hst, h⟩
          · go_wp2_with fail
            refine (CT.out w4 A4.out C4.out).mono ?_
            rintro e w6 ⟨rfl, q, rfl⟩
            go_wp2_with fail
            go_ret
            exact ⟨rfl, B4.out.trans ((below_drewN w4 _).mono B4.out.size)⟩
          · have hbe := str_ne hst
            clear hst HC
            rcases h with rfl | ⟨rfl, hnm⟩
            · go_wp2_with fail
              refine (CT.out w4 A4.out C4.out).mono ?_
              rintro e w6 ⟨rfl, q, rfl⟩
              go_wp2_with fail
              go_ret
              exact ⟨rfl, B4.out.trans ((below_drewN w4 _).mono B4.out.size)⟩
            · have hnb : (n == m) = false := by simpa using hnm
              clear hnm
              go_wp2_with fail
              refine (CT.out w4 A4.out C4.out).mono ?_
              rintro e w6 ⟨rfl, q, rfl⟩
              go_wp2_with fail
              go_ret
              exact ⟨rfl, B4.out.trans ((below_drewN w4 _).mono B4.out.size)⟩
        · have hbe : ((F : Int) == 0) = false := by simp; omega
          clear hF HC
          go_wp2_with fail
          go_ret
          exact ⟨rfl, B4.out⟩
      · have hbe : ((E : Int) == 0) = false := by simp; omega
        clear hE HC
        go_wp2_with fail
        go_ret
        exact ⟨rfl, B4.out⟩
end Go.Proofs.Ytpnljefgenniaaa

