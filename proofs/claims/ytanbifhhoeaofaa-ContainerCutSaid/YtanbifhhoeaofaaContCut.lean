/- A container that is cut, or has something ahead, is none, or another one's own form: the walk. No conditions. -/
import Derived.Test.YtanbifhhoeaofaaContBack
namespace Go.Proofs.Ytanbifhhoeaofaa
set_option linter.unusedVariables false
open Go Go.RowKit

/-- what Open answers, and Seal of that -/
theorem copen_two {s : ByteArray} (hs : s.size ≤ 1048576) : ∃ (M : List Sec) (k : Nat), (∀ W, Calls Try.prog 16 #[.string s] W fun e w' => ∃ pa c, e = .returned (.tuple #[.slice pa M.length c, .int .i64 k]) ∧ SecsAt w' pa M ∧ Below W.heap.size W w') ∧
    ((k = 0 ∧ ∀ pa c W, SecsAt W pa M → Calls Try.prog 12 #[.slice pa M.length c] W fun e w' => e = .returned (.tuple #[.string s, .int .i64 0]) ∧ Below W.heap.size W w') ∨
     (k ≠ 0 ∧ M = [] ∧ ∀ pa c W, Calls Try.prog 12 #[.slice pa 0 c] W fun e w' => e = .returned (.tuple #[.string ⟨#[]⟩, .int .i64 20]) ∧ Below W.heap.size W w')) := by
  obtain ⟨M, k, hO⟩ : ∃ M k, cOpen s = (M, k) := ⟨_, _, rfl⟩
  refine ⟨M, k, fun W => copen_as hO hs W, ?_⟩
  by_cases hk : k = 0
  · subst hk
    left
    obtain ⟨o1, o2, o3⟩ := cOpen_only hO
    refine ⟨rfl, fun pa c W h => ?_⟩
    have h1 := cseal_ok pa c M W h o1 (by have := congrArg ByteArray.size o2; rw [bStr_size] at this; omega)
    rw [o2] at h1
    exact h1
  · right
    have hM : M = [] := by have := cOpen_err (s := s) (by rw [hO]; exact hk); rw [hO] at this; exact this
    exact ⟨hk, hM, fun pa c W => cseal_bad pa c [] W (.inl rfl) (by decide) (by decide)⟩
set_option maxRecDepth 100000 in
set_option maxHeartbeats 8000000 in
theorem walk_ccut (pa : Option Addr) (ca : Nat) (L : List Sec) (n : Int) (more : ByteArray) (w : World) (hL : SecsAt w pa L ∧ L.length ≤ maxLen ∧ ∀ x ∈ L, x.2.size ≤ reachBytes) (hn : (Lit.int .i64 n).wf = true) (hs : more.size ≤ maxLen) :
    Calls Try.prog 8 #[.slice pa L.length ca, .int .i64 n, .string more] w fun e w' => e = .returned (.bool true) ∧ Below w.heap.size w w' := by
  obtain ⟨a1, a2, a3⟩ := hL
  have RA := Lib.hid a1
  have FA := Lib.hid (fun W h => fewC_any pa ca L W h a2 a3)
  have SA := Lib.hid (fun W h hb => cseal_any pa ca L W h a2 hb)
  clear a1 a2 a3 hn
  cases hf : fewC L with
  | false =>
    rw [hf] at FA
    clear hf SA hs
    generalize L.length = m at FA ⊢
    go_enter Try.func8, Try.ntmps8
    go_wp2_with fail
    refine (cworks_any w).mono ?_
    rintro e w1 ⟨rfl, hb⟩
    have B1 := Lib.hid hb
    have A1 := Lib.hid (RA.out.later hb)
    clear hb RA
    go_wp2_with fail
    refine (FA.out w1 A1.out).mono ?_
    rintro e w2 ⟨rfl, rfl⟩
    go_wp2_with fail
    go_ret
    exact ⟨rfl, B1.out⟩
  | true =>
    obtain ⟨f1, f2⟩ := fewC_ok hf
    rw [hf] at FA
    by_cases hms : more.size ≤ 3000 ∧ more.size ≠ 0
    · obtain ⟨m1, m2⟩ := hms
      have d1 : decide ((more.size : Int) > 3000) = false := by simp; omega
      have d2 : ((more.size : Int) == 0) = false := by rw [beq_eq_false_iff_ne]; omega
      have SA1 := Lib.hid (fun W h => SA.out W h (fun ho => by have := (cSmall ho f2).2; omega))
      have HZ : Hid (ctE L = 0 → (ctS L).size ≤ 4000) := Lib.hid (fun h => by
        unfold ctE at h
        by_cases ho : cOrd L = true
        · unfold ctS; rw [if_pos ho, bStr_size]; exact (cSmall ho f2).2
        · rw [if_neg ho] at h; cases h)
      generalize ctE L = e1 at SA1 HZ
      generalize ctS L = S at SA1 HZ
      generalize L.length = m at FA SA1 ⊢
      clear hf SA f1 f2 hs
      by_cases h1 : e1 = 0
      · subst h1
        have hz := HZ.out rfl
        clear HZ
        by_cases hnn : 0 ≤ n ∧ n < (S.size : Int)
        · obtain ⟨n0, n1⟩ := hnn
          obtain ⟨k, rfl⟩ := Int.eq_ofNat_of_zero_le n0
          have d3 : decide ((k : Int) < 0) = false := by simp
          have d4 : decide ((k : Int) ≥ (S.size : Int)) = false := by simp; omega
          have hks : k ≤ S.size := by omega
          have hkl : k < S.size := by omega
          have d5 : decide (S.size ≤ k) = false := by simp; omega
          have hadd : more.size + S.size ≤ 9223372036854775807 := by omega
          obtain ⟨A, ka, OA, hA⟩ := copen_two (s := S.extract 0 k) (by rw [ByteArray.size_extract]; omega)
          obtain ⟨B, kb, OB, hB⟩ := copen_two (s := more ++ S) (by rw [ByteArray.size_append]; omega)
          have HOA := Lib.hid OA
          have HOB := Lib.hid OB
          have HA := Lib.hid hA
          have HBB := Lib.hid hB
          clear OA OB hA hB n0 n1
          rcases HA.out with hA | hA
          · rcases HBB.out with hB | hB
            · clear HA HBB
              obtain ⟨rfl, SEA⟩ := hA
              obtain ⟨rfl, SEB⟩ := hB
              have XA := Lib.hid SEA
              have XB := Lib.hid SEB
              clear SEA SEB
              generalize A.length = la at HOA XA
              generalize B.length = lb at HOB XB
              go_enter Try.func8, Try.ntmps8
              go_wp2_with fail
              refine (cworks_any w).mono ?_
              rintro e w1 ⟨rfl, hb⟩
              have B1 := Lib.hid hb
              have A1 := Lib.hid (RA.out.later hb)
              clear hb RA
              go_wp2_with fail
              refine (FA.out w1 A1.out).mono ?_
              rintro e w2 ⟨rfl, rfl⟩
              go_wp2_with fail
              refine (SA1.out w1 A1.out).mono ?_
              rintro e w3 ⟨rfl, hb⟩
              have B3 := Lib.hid (B1.out.trans (hb.mono B1.out.size))
              clear hb B1 A1 SA1
              go_wp2_with fail
              refine (HOA.out w3).mono ?_
              rintro e w4 ⟨qa, cqa, rfl, hse, hb⟩
              have B4 := Lib.hid (B3.out.trans (hb.mono B3.out.size))
              have Q4 := Lib.hid hse
              clear hb hse B3
              go_wp2_with fail
              refine (HOB.out w4).mono ?_
              rintro e w5 ⟨qb, cqb, rfl, hse, hb⟩
              have B5 := Lib.hid (B4.out.trans (hb.mono B4.out.size))
              have Q5 := Lib.hid (Q4.out.later hb)
              have T5 := Lib.hid hse
              clear hb hse B4 Q4
              go_wp2_with fail
              all_goals (refine (XB.out qb cqb w5 T5.out).mono ?_; rintro e w6 ⟨rfl, hb⟩; have B6 := Lib.hid (B5.out.trans (hb.mono B5.out.size)); clear hb; go_wp2_with fail; go_ret; exact ⟨rfl, B6.out⟩)
            · clear HA HBB
              obtain ⟨rfl, SEA⟩ := hA
              obtain ⟨nb, rfl, SEB⟩ := hB
              have db : ((kb : Int) == 0) = false := by simp; omega
              have XA := Lib.hid SEA
              have XB := Lib.hid SEB
              rw [show ([] : List Sec).length = 0 from rfl] at HOB
              clear SEA SEB
              generalize A.length = la at HOA XA
              go_enter Try.func8, Try.ntmps8
              go_wp2_with fail
              refine (cworks_any w).mono ?_
              rintro e w1 ⟨rfl, hb⟩
              have B1 := Lib.hid hb
              have A1 := Lib.hid (RA.out.later hb)
              clear hb RA
              go_wp2_with fail
              refine (FA.out w1 A1.out).mono ?_
              rintro e w2 ⟨rfl, rfl⟩
              go_wp2_with fail
              refine (SA1.out w1 A1.out).mono ?_
              rintro e w3 ⟨rfl, hb⟩
              have B3 := Lib.hid (B1.out.trans (hb.mono B1.out.size))
              clear hb B1 A1 SA1
              go_wp2_with fail
              refine (HOA.out w3).mono ?_
              rintro e w4 ⟨qa, cqa, rfl, hse, hb⟩
              have B4 := Lib.hid (B3.out.trans (hb.mono B3.out.size))
              have Q4 := Lib.hid hse
              clear hb hse B3
              go_wp2_with fail
              refine (HOB.out w4).mono ?_
              rintro e w5 ⟨qb, cqb, rfl, hse, hb⟩
              have B5 := Lib.hid (B4.out.trans (hb.mono B4.out.size))
              have Q5 := Lib.hid (Q4.out.later hb)
              have T5 := Lib.hid hse
              clear hb hse B4 Q4
              go_wp2_with fail
              all_goals (refine (XA.out qa cqa w5 Q5.out).mono ?_; rintro e w6 ⟨rfl, hb⟩; have B6 := Lib.hid (B5.out.trans (hb.mono B5.out.size)); clear hb; go_wp2_with fail; go_ret; exact ⟨rfl, B6.out⟩)
          · rcases HBB.out with hB | hB
            · clear HA HBB
              obtain ⟨na, rfl, SEA⟩ := hA
              have da : ((ka : Int) == 0) = false := by simp; omega
              obtain ⟨rfl, SEB⟩ := hB
              have XA := Lib.hid SEA
              have XB := Lib.hid SEB
              rw [show ([] : List Sec).length = 0 from rfl] at HOA
              clear SEA SEB
              generalize B.length = lb at HOB XB
              go_enter Try.func8, Try.ntmps8
              go_wp2_with fail
              refine (cworks_any w).mono ?_
              rintro e w1 ⟨rfl, hb⟩
              have B1 := Lib.hid hb
              have A1 := Lib.hid (RA.out.later hb)
              clear hb RA
              go_wp2_with fail
              refine (FA.out w1 A1.out).mono ?_
              rintro e w2 ⟨rfl, rfl⟩
              go_wp2_with fail
              refine (SA1.out w1 A1.out).mono ?_
              rintro e w3 ⟨rfl, hb⟩
              have B3 := Lib.hid (B1.out.trans (hb.mono B1.out.size))
              clear hb B1 A1 SA1
              go_wp2_with fail
              refine (HOA.out w3).mono ?_
              rintro e w4 ⟨qa, cqa, rfl, hse, hb⟩
              have B4 := Lib.hid (B3.out.trans (hb.mono B3.out.size))
              have Q4 := Lib.hid hse
              clear hb hse B3
              go_wp2_with fail
              refine (HOB.out w4).mono ?_
              rintro e w5 ⟨qb, cqb, rfl, hse, hb⟩
              have B5 := Lib.hid (B4.out.trans (hb.mono B4.out.size))
              have Q5 := Lib.hid (Q4.out.later hb)
              have T5 := Lib.hid hse
              clear hb hse B4 Q4
              go_wp2_with fail
              all_goals (refine (XB.out qb cqb w5 T5.out).mono ?_; rintro e w6 ⟨rfl, hb⟩; have B6 := Lib.hid (B5.out.trans (hb.mono B5.out.size)); clear hb; go_wp2_with fail; go_ret; exact ⟨rfl, B6.out⟩)
            · clear HA HBB
              obtain ⟨na, rfl, SEA⟩ := hA
              have da : ((ka : Int) == 0) = false := by simp; omega
              obtain ⟨nb, rfl, SEB⟩ := hB
              have db : ((kb : Int) == 0) = false := by simp; omega
              have XA := Lib.hid SEA
              have XB := Lib.hid SEB
              rw [show ([] : List Sec).length = 0 from rfl] at HOA HOB
              clear SEA SEB
              go_enter Try.func8, Try.ntmps8
              go_wp2_with fail
              refine (cworks_any w).mono ?_
              rintro e w1 ⟨rfl, hb⟩
              have B1 := Lib.hid hb
              have A1 := Lib.hid (RA.out.later hb)
              clear hb RA
              go_wp2_with fail
              refine (FA.out w1 A1.out).mono ?_
              rintro e w2 ⟨rfl, rfl⟩
              go_wp2_with fail
              refine (SA1.out w1 A1.out).mono ?_
              rintro e w3 ⟨rfl, hb⟩
              have B3 := Lib.hid (B1.out.trans (hb.mono B1.out.size))
              clear hb B1 A1 SA1
              go_wp2_with fail
              refine (HOA.out w3).mono ?_
              rintro e w4 ⟨qa, cqa, rfl, hse, hb⟩
              have B4 := Lib.hid (B3.out.trans (hb.mono B3.out.size))
              have Q4 := Lib.hid hse
              clear hb hse B3
              go_wp2_with fail
              refine (HOB.out w4).mono ?_
              rintro e w5 ⟨qb, cqb, rfl, hse, hb⟩
              have B5 := Lib.hid (B4.out.trans (hb.mono B4.out.size))
              have Q5 := Lib.hid (Q4.out.later hb)
              have T5 := Lib.hid hse
              clear hb hse B4 Q4
              go_wp2_with fail
              all_goals (refine (XA.out qa cqa w5).mono ?_; rintro e w6 ⟨rfl, hb⟩; have B6 := Lib.hid (B5.out.trans (hb.mono B5.out.size)); clear hb; go_wp2_with fail; go_ret; exact ⟨rfl, B6.out⟩)
        · have d34 : (n < 0) ∨ (0 ≤ n ∧ (S.size : Int) ≤ n) := by omega
          rcases d34 with h | ⟨h, h'⟩
          · have d3 : decide (n < 0) = true := by simp; omega
            go_enter Try.func8, Try.ntmps8
            go_wp2_with fail
            refine (cworks_any w).mono ?_
            rintro e w1 ⟨rfl, hb⟩
            have B1 := Lib.hid hb
            have A1 := Lib.hid (RA.out.later hb)
            clear hb RA
            go_wp2_with fail
            refine (FA.out w1 A1.out).mono ?_
            rintro e w2 ⟨rfl, rfl⟩
            go_wp2_with fail
            refine (SA1.out w1 A1.out).mono ?_
            rintro e w3 ⟨rfl, hb⟩
            have B3 := Lib.hid (B1.out.trans (hb.mono B1.out.size))
            clear hb B1 A1 SA1
            go_wp2_with fail
            go_ret
            exact ⟨rfl, B3.out⟩
          · have d3 : decide (n < 0) = false := by simp; omega
            have d4 : decide (n ≥ (S.size : Int)) = true := by simp; omega
            go_enter Try.func8, Try.ntmps8
            go_wp2_with fail
            refine (cworks_any w).mono ?_
            rintro e w1 ⟨rfl, hb⟩
            have B1 := Lib.hid hb
            have A1 := Lib.hid (RA.out.later hb)
            clear hb RA
            go_wp2_with fail
            refine (FA.out w1 A1.out).mono ?_
            rintro e w2 ⟨rfl, rfl⟩
            go_wp2_with fail
            refine (SA1.out w1 A1.out).mono ?_
            rintro e w3 ⟨rfl, hb⟩
            have B3 := Lib.hid (B1.out.trans (hb.mono B1.out.size))
            clear hb B1 A1 SA1
            go_wp2_with fail
            go_ret
            exact ⟨rfl, B3.out⟩
      · have hne : ((e1 : Int) == 0) = false := by simp; omega
        go_enter Try.func8, Try.ntmps8
        go_wp2_with fail
        refine (cworks_any w).mono ?_
        rintro e w1 ⟨rfl, hb⟩
        have B1 := Lib.hid hb
        have A1 := Lib.hid (RA.out.later hb)
        clear hb RA
        go_wp2_with fail
        refine (FA.out w1 A1.out).mono ?_
        rintro e w2 ⟨rfl, rfl⟩
        go_wp2_with fail
        refine (SA1.out w1 A1.out).mono ?_
        rintro e w3 ⟨rfl, hb⟩
        have B3 := Lib.hid (B1.out.trans (hb.mono B1.out.size))
        clear hb B1 A1 SA1
        go_wp2_with fail
        go_ret
        exact ⟨rfl, B3.out⟩
    · generalize L.length = m at FA ⊢
      clear SA hf f1 f2
      have h2 : (3000 < more.size) ∨ (more.size ≤ 3000 ∧ more.size = 0) := by omega
      rcases h2 with h | ⟨h, h'⟩
      · have d1 : decide ((more.size : Int) > 3000) = true := by simp; omega
        clear hms h hs
        go_enter Try.func8, Try.ntmps8
        go_wp2_with fail
        refine (cworks_any w).mono ?_
        rintro e w1 ⟨rfl, hb⟩
        have B1 := Lib.hid hb
        have A1 := Lib.hid (RA.out.later hb)
        clear hb RA
        go_wp2_with fail
        refine (FA.out w1 A1.out).mono ?_
        rintro e w2 ⟨rfl, rfl⟩
        go_wp2_with fail
        go_ret
        exact ⟨rfl, B1.out⟩
      · have d1 : decide ((more.size : Int) > 3000) = false := by simp; omega
        have d2 : ((more.size : Int) == 0) = true := by rw [beq_iff_eq]; omega
        clear hms h h' hs
        go_enter Try.func8, Try.ntmps8
        go_wp2_with fail
        refine (cworks_any w).mono ?_
        rintro e w1 ⟨rfl, hb⟩
        have B1 := Lib.hid hb
        have A1 := Lib.hid (RA.out.later hb)
        clear hb RA
        go_wp2_with fail
        refine (FA.out w1 A1.out).mono ?_
        rintro e w2 ⟨rfl, rfl⟩
        go_wp2_with fail
        go_ret
        exact ⟨rfl, B1.out⟩
end Go.Proofs.Ytanbifhhoeaofaa

