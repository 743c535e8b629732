/- Whether tests may be, and whether two lists are alike, is just what the document says: the walk. No conditions. -/
import Derived.Test.YtpnljefgenniaaaSuiteOpen
namespace Go.Proofs.Ytpnljefgenniaaa
set_option linter.unusedVariables false
open Go Go.RowKit

set_option maxRecDepth 100000 in
set_option maxHeartbeats 4000000 in
theorem walk_schecks (p : Int) (pa : Option Addr) (ca : Nat) (A : List (List Int)) (pb : Option Addr) (cb : Nat) (B : List (List Int)) (f : Int) (w : World) (hp : (Lit.int .i64 p).wf = true) (hA : RowsAt w pa A ∧ A.length ≤ maxLen ∧ (∀ l ∈ A, l.length ≤ maxLen) ∧ ∀ l ∈ A, ∀ x ∈ l, I64 x) (hB : RowsAt w pb B ∧ B.length ≤ maxLen ∧ (∀ l ∈ B, l.length ≤ maxLen) ∧ ∀ l ∈ B, ∀ x ∈ l, I64 x) (hf : (Lit.int .i64 f).wf = true) :
    Calls Try.prog 8 #[.int .i64 p, .slice pa A.length ca, .slice pb B.length cb, .int .i64 f] w fun e w' => e = .returned (.bool true) ∧ Below w.heap.size w w' := by
  obtain ⟨a1, a2, a3, _⟩ := hA
  obtain ⟨b1, b2, b3, _⟩ := hB
  have RA := Lib.hid a1
  have RB := Lib.hid b1
  have FA := Lib.hid (fun W h => fewT_any pa ca A W h a2)
  have FB := Lib.hid (fun W h => fewT_any pb cb B W h b2)
  have CS := Lib.hid (fun W h k => rsame_any pa pb ca cb A B W h k a2 a3)
  have CT := Lib.hid (fun W h k => same_any pa pb ca cb A B W h k a2 a3)
  have CK := Lib.hid (fun W h => check_any p pa ca A f W h a2)
  have CR := Lib.hid (fun W h => rcheck_any p pa ca A f W h a2)
  clear a1 a2 a3 b1 b2 b3 hp hf
  generalize fewT A = fa at FA
  generalize fewT B = fb at FB
  generalize decide (A = B) = r at CS CT
  generalize chkF p A f = k at CK CR
  generalize A.length = n at FA CS CT CK CR ⊢
  generalize B.length = m at FB CS CT ⊢
  go_enter Try.func8, Try.ntmps8
  go_wp2_with fail
  refine (sworks_any w).mono ?_
  rintro e w1 ⟨rfl, hb⟩
  have B1 := Lib.hid hb
  have A1 := Lib.hid (RA.out.later hb)
  have C1 := Lib.hid (RB.out.later hb)
  clear hb RA RB
  go_wp2_with fail
  refine (FA.out w1 A1.out).mono ?_
  rintro e w2 ⟨rfl, rfl⟩
  cases fa with
  | false =>
    go_wp2_with fail
    go_ret
    exact ⟨rfl, B1.out⟩
  | true =>
    go_wp2_with fail
    refine (FB.out w1 C1.out).mono ?_
    rintro e w2 ⟨rfl, rfl⟩
    cases fb with
    | false =>
      go_wp2_with fail
      go_ret
      exact ⟨rfl, B1.out⟩
    | true =>
      go_wp2_with fail
      refine (CS.out w1 A1.out C1.out).mono ?_
      rintro e w3 ⟨rfl, hb⟩
      have B3 := Lib.hid (B1.out.trans (hb.mono B1.out.size))
      have A3 := Lib.hid (A1.out.later hb)
      have C3 := Lib.hid (C1.out.later hb)
      clear hb B1 A1 C1
      go_wp2_with fail
      refine (CK.out w3 A3.out).mono ?_
      rintro e w4 ⟨rfl, hb⟩
      have B4 := Lib.hid (B3.out.trans (hb.mono B3.out.size))
      have A4 := Lib.hid (A3.out.later hb)
      have C4 := Lib.hid (C3.out.later hb)
      clear hb B3 A3 C3
      go_wp2_with fail
      refine (CR.out w4 A4.out).mono ?_
      rintro e w5 ⟨rfl, rfl⟩
      go_wp2_with fail
      refine (CT.out w4 A4.out C4.out).mono ?_
      rintro e w6 ⟨rfl, q, rfl⟩
      go_wp2_with fail
      go_ret
      exact ⟨rfl, B4.out.trans ((below_drewN w4 _).mono B4.out.size)⟩
end Go.Proofs.Ytpnljefgenniaaa

