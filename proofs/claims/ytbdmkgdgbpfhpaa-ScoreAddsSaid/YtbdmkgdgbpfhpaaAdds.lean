/- The law ScoreAdds of the given statements, proved for every input: the walk of its Go text, lifted to the given statement. No conditions. -/
import Derived.Test.YtbdmkgdgbpfhpaaW5
import Derived.ProofKit
import Derived.OpenShut
import Derived.ShutString
import Derived.ChangeOld
import Derived.Below
import Derived.Lib.SmallJoins
namespace Go.Proofs.Ytbdmkgdgbpfhpaa.lawScoreAdds
open Go.ChangeShapes Go.WideShapes Go.ChangeAt Go.RowKit Go.Joins
open Go.ChangeMaps (open_string shut_string)
set_option linter.unusedVariables false

theorem own : ownKnob Try.prog.godebug = none := by kernel_rfl
theorem laidOut : laidOutB Try.prog = true := by kernel_rfl

set_option maxRecDepth 100000 in
theorem lifted (os : Os) (started : os.Started) (H : Type) (enc : TypeId × Value → H) :
    ReturnsInHanded {} Try.checked os 5 .any (Rows.scoreAddsSpec.pre6 enc Try.prog Try.f5 Rows.scoreAddsRow.domain false) (Rows.scoreAddsSpec.post enc Try.prog Try.f5 false true false false) := by
  refine returnsInHanded_of_change (C := Try.checked) own started (by kernel_rfl) Try.func5
    (ChangeSpec.witness6 (enc := enc) (C := Try.checked) false ⟨#[], #[.agg #[.int .i64 0, .int .i64 0, .int .i64 0], .agg #[.int .i64 0, .int .i64 0, .int .i64 0], .agg #[.int .i64 0, .int .i64 0, .int .i64 0]], []⟩ 8 (by kernel_rfl) (by kernel_rfl) (by kernel_rfl) (by kernel_rfl)) ?_
  intro W base args ds gs before hval0 hW hcnd _
  have hval : ∀ (j : Nat) t v, Try.f5.params[j]? = some t → args[j]? = some v → Value.okWide Try.prog W .any base t v := hval0
  have hW' := hW
  obtain ⟨p, q, hA0, hV, rfl, hfz, hnd⟩ := hW
  have hA : DataW.TrodAll enc Try.prog W 0 (fun _ => true) true Try.f5.params.toList args.toList ds p := hA0
  rw [Try.params5] at hA hval
  obtain ⟨v0, vs0, d0, ds0, p0, q0, hargs, rfl, rfl, h0, r0⟩ := trodAll_cons hA
  obtain ⟨v1, vs1, d1, ds1, p1, q1, rfl, rfl, rfl, h1, r1⟩ := trodAll_cons r0
  obtain ⟨v2, vs2, d2, ds2, p2, q2, rfl, rfl, rfl, h2, r2⟩ := trodAll_cons r1
  obtain ⟨rfl, rfl, rfl⟩ := trodAll_nil r2
  obtain rfl : args = #[v0, v1, v2] := by cases args; simp_all
  obtain ⟨rfl, rfl⟩ := trodVars_none hV
  have k0 := h0
  have lt0 : ∀ x ∈ p0, x.block < W.heap.size := by obtain ⟨m, hm⟩ := k0; exact DataW.trod_lt m _ _ _ hm
  have k1 := h1
  have lt1 : ∀ x ∈ p1, x.block < W.heap.size := by obtain ⟨m, hm⟩ := k1; exact DataW.trod_lt m _ _ _ hm
  have k2 := h2
  have lt2 : ∀ x ∈ p2, x.block < W.heap.size := by obtain ⟨m, hm⟩ := k2; exact DataW.trod_lt m _ _ _ hm
  obtain ⟨c00, c01, c02, y00, y01, y02, m0, rfl, hd0, hp0, u00, u01, u02⟩ := open_agg3 Try.underlying24 (by kernel_rfl) (show Try.prog.cellsOf 24 = 3 by kernel_rfl) (hval 0 24 v0 rfl rfl) h0
  obtain ⟨x00, ex00, _, w00⟩ := DataW.trod_int Try.underlying3 u00
  simp only [List.cons.injEq, and_true] at ex00
  subst ex00
  obtain ⟨x01, ex01, _, w01⟩ := DataW.trod_int Try.underlying3 u01
  simp only [List.cons.injEq, and_true] at ex01
  subst ex01
  obtain ⟨x02, ex02, _, w02⟩ := DataW.trod_int Try.underlying3 u02
  simp only [List.cons.injEq, and_true] at ex02
  subst ex02
  obtain ⟨c10, c11, c12, y10, y11, y12, m1, rfl, hd1, hp1, u10, u11, u12⟩ := open_agg3 Try.underlying24 (by kernel_rfl) (show Try.prog.cellsOf 24 = 3 by kernel_rfl) (hval 1 24 v1 rfl rfl) h1
  obtain ⟨x10, ex10, _, w10⟩ := DataW.trod_int Try.underlying3 u10
  simp only [List.cons.injEq, and_true] at ex10
  subst ex10
  obtain ⟨x11, ex11, _, w11⟩ := DataW.trod_int Try.underlying3 u11
  simp only [List.cons.injEq, and_true] at ex11
  subst ex11
  obtain ⟨x12, ex12, _, w12⟩ := DataW.trod_int Try.underlying3 u12
  simp only [List.cons.injEq, and_true] at ex12
  subst ex12
  obtain ⟨c20, c21, c22, y20, y21, y22, m2, rfl, hd2, hp2, u20, u21, u22⟩ := open_agg3 Try.underlying24 (by kernel_rfl) (show Try.prog.cellsOf 24 = 3 by kernel_rfl) (hval 2 24 v2 rfl rfl) h2
  obtain ⟨x20, ex20, _, w20⟩ := DataW.trod_int Try.underlying3 u20
  simp only [List.cons.injEq, and_true] at ex20
  subst ex20
  obtain ⟨x21, ex21, _, w21⟩ := DataW.trod_int Try.underlying3 u21
  simp only [List.cons.injEq, and_true] at ex21
  subst ex21
  obtain ⟨x22, ex22, _, w22⟩ := DataW.trod_int Try.underlying3 u22
  simp only [List.cons.injEq, and_true] at ex22
  subst ex22
  clear hA0 hval0
  refine (walk_adds x00 x01 x02 x10 x11 x12 x20 x21 x22 W w00 w01 w02 w10 w11 w12 w20 w21 w22).mono fun e W' ⟨he, bel⟩ => ?_
  subst he
  exact ⟨_, rfl, _, _, _, [], _, [], hW', trodAll_mk1 (shut_bool Try.underlying4 _), (trodAll_cons_mk (Below.trod laidOut (by kernel_rfl) (of_decide_eq_true (by kernel_rfl)) k0 bel lt0) (trodAll_cons_mk (Below.trod laidOut (by kernel_rfl) (of_decide_eq_true (by kernel_rfl)) k1 bel lt1) (trodAll_cons_mk (Below.trod laidOut (by kernel_rfl) (of_decide_eq_true (by kernel_rfl)) k2 bel lt2) trodAll_mk0))), rfl, bel.frame _, fun h => by cases h⟩

theorem over : Rows.scoreAddsRow.holds Try.pinned (OpenSpec.ofChange Rows.scoreAddsSpec) :=
  OpenClaim.holds_of_wide 5 Try.f5 rfl rfl rfl rfl rfl rfl rfl ⟨rfl, rfl, rfl, rfl, rfl⟩ rfl rfl rfl rfl rfl (by kernel_rfl) Try.func5 (by kernel_rfl)
    (of_decide_eq_true (by kernel_rfl)) (by unfold Func.isWrapper; first | (rw [if_pos (by decide +kernel)]; kernel_rfl) | (rw [if_neg (by decide +kernel)]; exact ⟨rfl, rfl⟩))
    (fun os started H enc _ => lifted os started H enc)

theorem proved : Rows.ScoreAddsSaid := over
#print axioms proved
end Go.Proofs.Ytbdmkgdgbpfhpaa.lawScoreAdds
