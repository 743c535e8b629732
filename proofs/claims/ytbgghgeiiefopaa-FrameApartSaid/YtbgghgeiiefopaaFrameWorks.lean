/- The laws' works of layer 6; a section as a parameter. No conditions. -/
import Derived.Test.YtbgghgeiiefopaaFrameGet
import Derived.Test.YtbgghgeiiefopaaFrameRef
import Derived.Deep.Slices
import Derived.ProofKit
import Derived.OpenShut
import Derived.ShutString
import Derived.Lib.SmallJoins
namespace Go.Proofs.Ytbgghgeiiefopaa
set_option linter.unusedVariables false
open Go Go.RowKit Go.ChangeShapes Go.WideShapes Go.Deep Go.Joins
open Go.ChangeMaps (open_string shut_string)

theorem digs0 : digs 0 = [0] := digs_lt (by decide)
theorem tail10 : crcTail [1, 0] = [190, 35, 194, 88] := by decide +kernel
theorem fS1 : fS 1 ⟨#[]⟩ = ⟨#[1, 0, 190, 35, 194, 88]⟩ := by
  have hh : fHead 1 ⟨#[]⟩ = [1, 0] := by unfold fHead lebL; show _ :: (digs 0).map _ = _; rw [digs0]; rfl
  unfold fS
  rw [if_pos (by decide)]
  unfold fFrame
  rw [hh]
  show bStr ([1, 0] ++ [] ++ crcTail ([1, 0] ++ [])) = _
  rw [List.append_nil, tail10]
  rfl
theorem put1 (w : World) : Calls Try.prog 10 #[.agg #[.int .i64 1, .string ⟨#[]⟩]] w fun e w' => e = .returned (.tuple #[.string ⟨#[1, 0, 190, 35, 194, 88]⟩, .int .i64 0]) ∧ Below w.heap.size w w' := by
  have h := fput_any 1 ⟨#[]⟩ w (by decide)
  rw [fS1, show fE 1 ⟨#[]⟩ = 0 by decide] at h
  exact h
theorem put2 (w : World) : Calls Try.prog 10 #[.agg #[.int .i64 256, .string ⟨#[]⟩]] w fun e w' => e = .returned (.tuple #[.string ⟨#[]⟩, .int .i64 1]) ∧ Below w.heap.size w w' := by
  have h := fput_any 256 ⟨#[]⟩ w (by decide)
  rw [show fS 256 ⟨#[]⟩ = ⟨#[]⟩ by unfold fS; rw [if_neg (by decide)], show fE 256 ⟨#[]⟩ = 1 by decide] at h
  exact h
theorem head1 (w : World) : Calls Try.prog 12 #[.agg #[.int .i64 1, .string ⟨#[]⟩]] w fun e w' => e = .returned (.string ⟨#[1, 0]⟩) ∧ Below w.heap.size w w' := by
  have h := head_any 1 ⟨#[]⟩ w (by decide)
  have hh : fHead 1 ⟨#[]⟩ = [1, 0] := by unfold fHead lebL; show _ :: (digs 0).map _ = _; rw [digs0]; rfl
  rw [hh] at h
  exact h
theorem fg1 : fGet ⟨#[63, 1, 0, 190, 35, 194, 88]⟩ 1 = ((1, ⟨#[]⟩), 7, 0) := by decide +kernel
theorem fg2 : fGet ⟨#[1, 0, 97, 98, 99, 100]⟩ 0 = ((0, ⟨#[]⟩), 0, 6) := by decide +kernel
theorem fgets1 (w : World) : Calls Try.prog 14 #[.string ⟨#[63, 1, 0, 190, 35, 194, 88]⟩, .int .i64 1] w fun e w' => e = .returned (.tuple #[.agg #[.int .i64 1, .string ⟨#[]⟩], .int .i64 7, .int .i64 0]) ∧ Below w.heap.size w w' := by
  have h := fget_any ⟨#[63, 1, 0, 190, 35, 194, 88]⟩ 1 w (by unfold maxLen; decide)
  rw [fg1] at h
  exact h
theorem fgets2 (w : World) : Calls Try.prog 14 #[.string ⟨#[1, 0, 97, 98, 99, 100]⟩, .int .i64 0] w fun e w' => e = .returned (.tuple #[.agg #[.int .i64 0, .string ⟨#[]⟩], .int .i64 0, .int .i64 6]) ∧ Below w.heap.size w w' := by
  have h := fget_any ⟨#[1, 0, 97, 98, 99, 100]⟩ 0 w (by unfold maxLen; decide)
  rw [fg2] at h
  exact h
set_option maxRecDepth 100000 in
set_option maxHeartbeats 8000000 in
theorem fworks_any (w : World) : Calls Try.prog 9 #[] w fun e w' => e = .returned (.bool true) ∧ Below w.heap.size w w' := by
  have hext : ((⟨#[1, 0, 190, 35, 194, 88]⟩ : ByteArray).extract 0 2).toList = [1, 0] := by rw [ByteArray.toList_eq]; decide +kernel
  go_enter Try.func9, Try.ntmps9
  go_wp2_with fail
  refine (put1 _).mono ?_
  rintro e w1 ⟨rfl, hb1⟩
  go_wp2_with fail
  refine (fgets1 _).mono ?_
  rintro e w2 ⟨rfl, hb2⟩
  go_wp2_with fail
  have hX : two (w2.alloc (.cells #[.int .i64 1, .string ⟨#[]⟩] 23)) w2.heap.size 1 ⟨#[]⟩ := heap_alloc_new w2 _
  have hB3 : Below w.heap.size w (w2.alloc (.cells #[.int .i64 1, .string ⟨#[]⟩] 23)) := (later hb1 hb2).alloc (later hb1 hb2).size _
  generalize w2.alloc (.cells #[.int .i64 1, .string ⟨#[]⟩] 23) = W3 at hX hB3 ⊢
  refine (fgets2 _).mono ?_
  rintro e w4 ⟨rfl, hb4⟩
  have hX4 := Lib.hid ((hX.later hb4).later ((Below.refl _ w4).alloc (Nat.le_refl _) (.cells #[.int .i64 0, .string ⟨#[]⟩] 23)))
  have HB4 := Lib.hid ((later hB3 hb4).alloc (later hB3 hb4).size (.cells #[.int .i64 0, .string ⟨#[]⟩] 23))
  clear hX hB3 hb4 hb1 hb2
  go_wp2_with fail
  generalize w4.alloc (.cells #[.int .i64 0, .string ⟨#[]⟩] 23) = W5 at hX4 HB4 ⊢
  refine (put2 _).mono ?_
  rintro e w6 ⟨rfl, hb6⟩
  obtain ⟨x0, x1, _, _⟩ := (hX4.out.later hb6).cells
  have HB6 := Lib.hid (later HB4.out hb6)
  clear hb6
  go_wp2_with fail
  refine (head1 _).mono ?_
  rintro e w7 ⟨rfl, hb7⟩
  go_wp2_with fail
  go_ret
  exact ⟨rfl, later HB6.out hb7⟩
section
variable {H : Type} {enc : TypeId × Value → H}
set_option maxRecDepth 100000 in
theorem open_section {W : World} {v : Value} {d : DataW H} {p : List MemPlace} {b0 : Nat} {r : Reach} (hv : Value.okWide Try.prog W r b0 23 v) (h : DataW.Trod enc Try.prog W 0 (fun _ => true) true 23 v d p) :
    ∃ (ty : Int) (s : ByteArray), v = .agg #[.int .i64 ty, .string s] ∧ (I64 ty ∧ s.size ≤ maxLen) := by
  obtain ⟨c0, c1, y0, y1, m, rfl, k0, k1, u0, u1⟩ := open_agg2 Try.underlying23 (by kernel_rfl) (show Try.prog.cellsOf 23 = 2 by kernel_rfl) hv h
  obtain ⟨ty, e0, _, w0⟩ := DataW.trod_int Try.underlying3 u0
  obtain ⟨s, e1, _, w1⟩ := DataW.trod_string Try.underlying9 u1
  simp only [List.cons.injEq, and_true] at e0 e1
  subst e0 e1
  exact ⟨ty, s, rfl, i64_of w0, w1⟩
end
end Go.Proofs.Ytbgghgeiiefopaa

