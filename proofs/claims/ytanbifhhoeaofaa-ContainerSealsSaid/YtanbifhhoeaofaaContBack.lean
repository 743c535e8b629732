/- What is sealed is opened; what is opened was sealed just so; unlike sections have unlike containers: the walks. No conditions. -/
import Derived.Test.YtanbifhhoeaofaaContWorks
namespace Go.Proofs.Ytanbifhhoeaofaa
set_option linter.unusedVariables false
open Go Go.RowKit

theorem fewC_ok {L : List Sec} (h : fewC L = true) : L.length ≤ 41 ∧ dSum L ≤ 3000 := by
  simpa only [fewC, Bool.and_eq_true, decide_eq_true_eq] using h
set_option maxRecDepth 100000 in
set_option maxHeartbeats 4000000 in
theorem walk_cback (pa : Option Addr) (ca : Nat) (L : List Sec) (w : World) (hL : SecsAt w pa L ∧ L.length ≤ maxLen ∧ ∀ x ∈ L, x.2.size ≤ reachBytes) :
    Calls Try.prog 5 #[.slice pa L.length ca] w fun e w' => e = .returned (.bool true) ∧ Below w.heap.size w w' := by
  obtain ⟨a1, a2, a3⟩ := hL
  have RA := Lib.hid a1
  have FA := Lib.hid (fun W h => fewC_any pa ca L W h a2 a3)
  have SG := Lib.hid (fun W h (ho : cOrd L = true) (hb : (cBytes L).length ≤ 1048576) => cseal_ok pa ca L W h ho hb)
  have SB := Lib.hid (fun W h (ho : cOrd L = false) => cseal_bad pa ca L W h a2 ho)
  have CS := Lib.hid (fun pb cb W h k => rsameC_any pa pb ca cb L L W h k a2)
  rw [decide_eq_true (rfl : L = L)] at CS
  clear a1 a2 a3
  cases hf : fewC L with
  | false =>
    rw [hf] at FA
    clear hf SG SB CS
    generalize L.length = n at FA ⊢
    go_enter Try.func5, Try.ntmps5
    go_wp2_with fail
    refine (cworks_any w).mono ?_
    rintro e w1 ⟨rfl, hb⟩
    have B1 := Lib.hid hb
    have A1 := Lib.hid (RA.out.later hb)
    clear hb RA
    go_wp2_with fail
    refine (FA.out w1 A1.out).mono ?_
    rintro e w2 ⟨rfl, rfl⟩
    go_wp2_with fail
    go_ret
    exact ⟨rfl, B1.out⟩
  | true =>
    obtain ⟨f1, f2⟩ := fewC_ok hf
    rw [hf] at FA
    by_cases ho : cOrd L = true
    · have SG1 := Lib.hid (fun W h => SG.out W h ho (by have := (cSmall ho f2).2; omega))
      have OP := Lib.hid (fun W => copen_as (cOpen_back ho (by omega)) (by rw [bStr_size]; have := (cSmall ho f2).2; omega) W)
      generalize bStr (cBytes L) = S at SG1 OP
      generalize L.length = n at FA SG1 OP CS ⊢
      clear hf SG SB ho f1 f2
      go_enter Try.func5, Try.ntmps5
      go_wp2_with fail
      refine (cworks_any w).mono ?_
      rintro e w1 ⟨rfl, hb⟩
      have B1 := Lib.hid hb
      have A1 := Lib.hid (RA.out.later hb)
      clear hb RA
      go_wp2_with fail
      refine (FA.out w1 A1.out).mono ?_
      rintro e w2 ⟨rfl, rfl⟩
      go_wp2_with fail
      refine (SG1.out w1 A1.out).mono ?_
      rintro e w3 ⟨rfl, hb⟩
      have B3 := Lib.hid (B1.out.trans (hb.mono B1.out.size))
      have A3 := Lib.hid (A1.out.later hb)
      clear hb B1 A1
      go_wp2_with fail
      refine (OP.out w3).mono ?_
      rintro e w4 ⟨pb, cb, rfl, hse, hb⟩
      have B4 := Lib.hid (B3.out.trans (hb.mono B3.out.size))
      have A4 := Lib.hid (A3.out.later hb)
      have M4 := Lib.hid hse
      clear hb hse B3 A3
      go_wp2_with fail
      refine (CS.out pb cb w4 A4.out M4.out).mono ?_
      rintro e w5 ⟨rfl, hb⟩
      have B5 := Lib.hid (B4.out.trans (hb.mono B4.out.size))
      clear hb
      go_wp2_with fail
      go_ret
      exact ⟨rfl, B5.out⟩
    · have SB1 := Lib.hid (fun W h => SB.out W h (by simpa using ho))
      generalize L.length = n at FA SB1 ⊢
      clear hf SG SB ho f1 f2 CS
      go_enter Try.func5, Try.ntmps5
      go_wp2_with fail
      refine (cworks_any w).mono ?_
      rintro e w1 ⟨rfl, hb⟩
      have B1 := Lib.hid hb
      have A1 := Lib.hid (RA.out.later hb)
      clear hb RA
      go_wp2_with fail
      refine (FA.out w1 A1.out).mono ?_
      rintro e w2 ⟨rfl, rfl⟩
      go_wp2_with fail
      refine (SB1.out w1 A1.out).mono ?_
      rintro e w3 ⟨rfl, hb⟩
      have B3 := Lib.hid (B1.out.trans (hb.mono B1.out.size))
      clear hb
      go_wp2_with fail
      go_ret
      exact ⟨rfl, B3.out⟩
set_option maxRecDepth 100000 in
set_option maxHeartbeats 4000000 in
theorem walk_conly (s : ByteArray) (w : World) (hs : s.size ≤ maxLen) :
    Calls Try.prog 6 #[.string s] w fun e w' => e = .returned (.bool true) ∧ Below w.heap.size w w' := by
  by_cases h3 : 3000 < s.size
  · have d3 : decide ((s.size : Int) > 3000) = true := by simp; omega
    clear h3 hs
    go_enter Try.func6, Try.ntmps6
    go_wp2_with fail
    refine (cworks_any w).mono ?_
    rintro e w1 ⟨rfl, hb⟩
    have B1 := Lib.hid hb
    clear hb
    go_wp2_with fail
    go_ret
    exact ⟨rfl, B1.out⟩
  · have d3 : decide ((s.size : Int) > 3000) = false := by simp; omega
    obtain ⟨M, k, hO⟩ : ∃ M k, cOpen s = (M, k) := ⟨_, _, rfl⟩
    have OP := Lib.hid (fun W => copen_as hO (by omega) W)
    by_cases hk : k = 0
    · subst hk
      obtain ⟨o1, o2, o3⟩ := cOpen_only hO
      have hbl : (cBytes M).length = s.size := by rw [← o2, bStr_size]
      have SG := Lib.hid (fun a c W h => cseal_ok a c M W h o1 (by omega))
      rw [o2] at SG
      generalize M.length = n at SG OP
      clear h3 hs hO o1 o2 o3 hbl
      go_enter Try.func6, Try.ntmps6
      go_wp2_with fail
      refine (cworks_any w).mono ?_
      rintro e w1 ⟨rfl, hb⟩
      have B1 := Lib.hid hb
      clear hb
      go_wp2_with fail
      refine (OP.out w1).mono ?_
      rintro e w4 ⟨pb, cb, rfl, hse, hb⟩
      have B4 := Lib.hid (B1.out.trans (hb.mono B1.out.size))
      have M4 := Lib.hid hse
      clear hb hse B1
      go_wp2_with fail
      refine (SG.out pb cb w4 M4.out).mono ?_
      rintro e w5 ⟨rfl, hb⟩
      have B5 := Lib.hid (B4.out.trans (hb.mono B4.out.size))
      clear hb
      go_wp2_with fail
      go_ret
      exact ⟨rfl, B5.out⟩
    · have hM : M = [] := by have := cOpen_err (s := s) (by rw [hO]; exact hk); rw [hO] at this; exact this
      subst hM
      have hne : ((k : Int) == 0) = false := by simp; omega
      have OP1 := Lib.hid (show ∀ W, _ from OP.out)
      rw [show ([] : List Sec).length = 0 from rfl] at OP
      clear h3 hs hO hk OP1
      go_enter Try.func6, Try.ntmps6
      go_wp2_with fail
      refine (cworks_any w).mono ?_
      rintro e w1 ⟨rfl, hb⟩
      have B1 := Lib.hid hb
      clear hb
      go_wp2_with fail
      refine (OP.out w1).mono ?_
      rintro e w4 ⟨pb, cb, rfl, hse, hb⟩
      have B4 := Lib.hid (B1.out.trans (hb.mono B1.out.size))
      clear hb hse B1
      go_wp2_with fail
      go_ret
      exact ⟨rfl, B4.out⟩
theorem apart_bool {L M : List Sec} (ho : cOrd L = true) (hs : dSum L ≤ 3000) (ko : cOrd M = true) (ks : dSum M ≤ 3000) : ((bStr (cBytes L)).toList == (bStr (cBytes M)).toList) = decide (L = M) := by
  by_cases h : L = M
  · subst h; simp
  · rw [decide_eq_false h]
    exact str_neq fun e => h (cBytes_one ho (by omega) ko (by omega) e)
set_option maxRecDepth 100000 in
set_option maxHeartbeats 4000000 in
theorem walk_capart (pa : Option Addr) (ca : Nat) (L : List Sec) (pb : Option Addr) (cb : Nat) (M : List Sec) (w : World) (hL : SecsAt w pa L ∧ L.length ≤ maxLen ∧ ∀ x ∈ L, x.2.size ≤ reachBytes) (hM : SecsAt w pb M ∧ M.length ≤ maxLen ∧ ∀ x ∈ M, x.2.size ≤ reachBytes) :
    Calls Try.prog 9 #[.slice pa L.length ca, .slice pb M.length cb] w fun e w' => e = .returned (.bool true) ∧ Below w.heap.size w w' := by
  obtain ⟨a1, a2, a3⟩ := hL
  obtain ⟨b1, b2, b3⟩ := hM
  have RA := Lib.hid a1
  have RB := Lib.hid b1
  have FA := Lib.hid (fun W h => fewC_any pa ca L W h a2 a3)
  have FB := Lib.hid (fun W h => fewC_any pb cb M W h b2 b3)
  have SA := Lib.hid (fun W h hb => cseal_any pa ca L W h a2 hb)
  have SB := Lib.hid (fun W h hb => cseal_any pb cb M W h b2 hb)
  have CS := Lib.hid (fun W h k => rsameC_any pa pb ca cb L M W h k a2)
  clear a1 a2 a3 b1 b2 b3
  cases hf : fewC L with
  | false =>
    rw [hf] at FA
    clear hf SA SB CS FB RB
    generalize L.length = n at FA ⊢
    generalize M.length = m at ⊢
    go_enter Try.func9, Try.ntmps9
    go_wp2_with fail
    refine (cworks_any w).mono ?_
    rintro e w1 ⟨rfl, hb⟩
    have B1 := Lib.hid hb
    have A1 := Lib.hid (RA.out.later hb)
    clear hb RA
    go_wp2_with fail
    refine (FA.out w1 A1.out).mono ?_
    rintro e w2 ⟨rfl, rfl⟩
    go_wp2_with fail
    go_ret
    exact ⟨rfl, B1.out⟩
  | true =>
    obtain ⟨f1, f2⟩ := fewC_ok hf
    rw [hf] at FA
    cases hg : fewC M with
    | false =>
      rw [hg] at FB
      clear hf hg SA SB CS
      generalize L.length = n at FA ⊢
      generalize M.length = m at FB ⊢
      go_enter Try.func9, Try.ntmps9
      go_wp2_with fail
      refine (cworks_any w).mono ?_
      rintro e w1 ⟨rfl, hb⟩
      have B1 := Lib.hid hb
      have A1 := Lib.hid (RA.out.later hb)
      have C1 := Lib.hid (RB.out.later hb)
      clear hb RA RB
      go_wp2_with fail
      refine (FA.out w1 A1.out).mono ?_
      rintro e w2 ⟨rfl, rfl⟩
      go_wp2_with fail
      refine (FB.out w1 C1.out).mono ?_
      rintro e w2 ⟨rfl, rfl⟩
      go_wp2_with fail
      go_ret
      exact ⟨rfl, B1.out⟩
    | true =>
      obtain ⟨g1, g2⟩ := fewC_ok hg
      rw [hg] at FB
      have SA1 := Lib.hid (fun W h => SA.out W h (fun ho => by have := (cSmall ho f2).2; omega))
      have SB1 := Lib.hid (fun W h => SB.out W h (fun ho => by have := (cSmall ho g2).2; omega))
      have HE : Hid (ctE L ≠ 0 ∨ ctE M ≠ 0 ∨ (ctE L = 0 ∧ ctE M = 0 ∧ ((ctS L).toList == (ctS M).toList) = decide (L = M))) := Lib.hid (by
        unfold ctE ctS
        by_cases ho : cOrd L = true
        · by_cases ko : cOrd M = true
          · right; right
            rw [if_pos ho, if_pos ko, if_pos ho, if_pos ko]
            exact ⟨rfl, rfl, apart_bool ho f2 ko g2⟩
          · right; left; rw [if_neg ko]; decide
        · left; rw [if_neg ho]; decide)
      generalize ctE L = e1 at SA1 HE
      generalize ctE M = e2 at SB1 HE
      generalize ctS L = s1 at SA1 HE
      generalize ctS M = s2 at SB1 HE
      generalize decide (L = M) = r at CS HE
      generalize L.length = n at FA SA1 CS ⊢
      generalize M.length = m at FB SB1 CS ⊢
      clear hf hg SA SB f1 f2 g1 g2
      go_enter Try.func9, Try.ntmps9
      go_wp2_with fail
      refine (cworks_any w).mono ?_
      rintro e w1 ⟨rfl, hb⟩
      have B1 := Lib.hid hb
      have A1 := Lib.hid (RA.out.later hb)
      have C1 := Lib.hid (RB.out.later hb)
      clear hb RA RB
      go_wp2_with fail
      refine (FA.out w1 A1.out).mono ?_
      rintro e w2 ⟨rfl, rfl⟩
      go_wp2_with fail
      refine (FB.out w1 C1.out).mono ?_
      rintro e w2 ⟨rfl, rfl⟩
      go_wp2_with fail
      refine (SA1.out w1 A1.out).mono ?_
      rintro e w3 ⟨rfl, hb⟩
      have B3 := Lib.hid (B1.out.trans (hb.mono B1.out.size))
      have A3 := Lib.hid (A1.out.later hb)
      have C3 := Lib.hid (C1.out.later hb)
      clear hb B1 A1 C1
      go_wp2_with fail
      refine (SB1.out w3 C3.out).mono ?_
      rintro e w4 ⟨rfl, hb⟩
      have B4 := Lib.hid (B3.out.trans (hb.mono B3.out.size))
      have A4 := Lib.hid (A3.out.later hb)
      have C4 := Lib.hid (C3.out.later hb)
      clear hb B3 A3 C3
      by_cases h1 : e1 = 0
      · by_cases h2 : e2 = 0
        · subst h1 h2
          have hq : (s1.toList == s2.toList) = r := by
            rcases HE.out with h | h | h
            · exact absurd rfl h
            · exact absurd rfl h
            · exact h.2.2
          go_wp2_with fail
          refine (CS.out w4 A4.out C4.out).mono ?_
          rintro e w5 ⟨rfl, hb⟩
          have B5 := Lib.hid (B4.out.trans (hb.mono B4.out.size))
          clear hb
          go_wp2_with fail
          go_ret
          exact ⟨rfl, B5.out⟩
        · have hn1 : ((e1 : Int) == 0) = true := by simp; omega
          have hn2 : ((e2 : Int) == 0) = false := by simp; omega
          go_wp2_with fail
          go_ret
          exact ⟨rfl, B4.out⟩
      · have hn1 : ((e1 : Int) == 0) = false := by simp; omega
        go_wp2_with fail
        go_ret
        exact ⟨rfl, B4.out⟩
end Go.Proofs.Ytanbifhhoeaofaa

