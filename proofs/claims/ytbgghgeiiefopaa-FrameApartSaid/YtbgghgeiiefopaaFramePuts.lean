/- The walks of the laws FramePuts and FrameGets. No conditions. -/
import Derived.Test.YtbgghgeiiefopaaFrameWorks
import Derived.Test.YtbgghgeiiefopaaFrameRefGet
namespace Go.Proofs.Ytbgghgeiiefopaa
set_option linter.unusedVariables false
open Go Go.RowKit

theorem box_section (w : World) (ty : Int) (d : ByteArray) : (∀ w', Below (w.heap.size + 1) (w.alloc (.cells #[.int .i64 ty, .string d] 23)) w' → w'.cell? ⟨w.heap.size, 0, none⟩ = some (.int .i64 ty)) ∧ (∀ w', Below (w.heap.size + 1) (w.alloc (.cells #[.int .i64 ty, .string d] 23)) w' → w'.cell? ⟨w.heap.size, 1, none⟩ = some (.string d)) ∧ (w.alloc (.cells #[.int .i64 ty, .string d] 23)).heap.size = w.heap.size + 1 ∧ Below w.heap.size w (w.alloc (.cells #[.int .i64 ty, .string d] 23)) :=
  ⟨fun w' h => (h.cell (p := ⟨w.heap.size, 0, none⟩) (by simp)).trans (by simp), fun w' h => (h.cell (p := ⟨w.heap.size, 1, none⟩) (by simp)).trans (by simp), by simp, (Below.refl _ w).alloc (Nat.le_refl _) _⟩
/-- a world behind the box: what the box holds -/
structure Held (N x : Nat) (V : World) (ty : Int) (d : ByteArray) (w : World) : Prop where
  below : Below x V w
  size : x ≤ w.heap.size
theorem Held.next {N x : Nat} {V : World} {ty : Int} {d : ByteArray} {w w' : World} (h : Held N x V ty d w) (hb : Below w.heap.size w w') : Held N x V ty d w' := ⟨h.below.trans (hb.mono h.size), Nat.le_trans h.size hb.size⟩
theorem fE_short {ty : Int} {d : ByteArray} : fE ty d = 0 ∨ fE ty d = 1 ∨ fE ty d = 4 := by unfold fE; split <;> (try split) <;> simp
set_option maxRecDepth 100000 in
set_option maxHeartbeats 8000000 in
theorem walk_fputs (ty : Int) (d : ByteArray) (w : World) (hs : I64 ty ∧ d.size ≤ maxLen) :
    Calls Try.prog 3 #[.agg #[.int .i64 ty, .string d]] w fun e w' => e = .returned (.bool true) ∧ Below w.heap.size w w' := by
  obtain ⟨_, hd⟩ := hs
  unfold maxLen at hd
  obtain ⟨h0, h1, hz, hfr⟩ := box_section w ty d
  by_cases hb : d.size ≤ 1000
  · have d1 : decide ((1000 : Int) < d.size) = false := by simp; omega
    have CP := Lib.hid (fun W => fput_any ty d W (by omega))
    have CR := Lib.hid (fun W => rfput_any ty d W (by omega))
    have CH := Lib.hid (fun W => head_any ty d W (by omega))
    have CK := Lib.hid (fun W => rhead_any ty d W (by omega))
    generalize fS ty d = s at CP CR
    generalize fE ty d = er at CP CR
    generalize bStr (fHead ty d) = hq at CH CK
    have HFR := Lib.hid hfr
    clear hd hb hfr
    go_enter Try.func3, Try.ntmps3
    go_wp2_with fail
    generalize w.alloc (.cells #[.int .i64 ty, .string d] 23) = V at h0 h1 hz HFR ⊢
    refine (fworks_any _).mono ?_
    rintro e w1 ⟨rfl, hb1⟩
    have q1 : Below (w.heap.size + 1) V w1 := by rw [← hz]; exact hb1
    have s1 : w.heap.size + 1 ≤ w1.heap.size := by rw [← hz]; exact hb1.size
    go_wp2_with fail
    refine (CP.out _).mono ?_
    rintro e w2 ⟨rfl, hb2⟩
    obtain ⟨q2, s2⟩ := belowS ⟨q1, s1⟩ hb2
    go_wp2_with fail
    refine (CR.out _).mono ?_
    rintro e w3 ⟨rfl, hb3⟩
    obtain ⟨q3, s3⟩ := belowS ⟨q2, s2⟩ hb3
    clear q1 s1 q2 s2 hb1 hb2 hb3
    go_wp2_with fail
    go_region_held3 (fun w' => Below (w.heap.size + 1) V w') (first | assumption | exact Below.drew (by assumption))
      (first | (go_at_call 12; refine (CH.out _).mono ?_; rintro e w4 ⟨rfl, hb4⟩; obtain ⟨q4, s4⟩ := belowS ⟨(by first | assumption | exact Below.drew (by assumption)), (by first | assumption | exact s3)⟩ hb4; clear hb4) | (go_at_call 13; refine (CK.out _).mono ?_; rintro e w5 ⟨rfl, hb5⟩; obtain ⟨q5, s5⟩ := belowS ⟨(by first | assumption | exact Below.drew (by assumption)), (by first | assumption | exact s4)⟩ hb5; clear hb5))
    all_goals go_wp2_with fail
    all_goals go_ret
    all_goals exact ⟨ret_bool (by simp), HFR.out.trans (Below.mono (B := w.heap.size + 1) (by first | assumption | exact Below.drew (by assumption)) (Nat.le_succ _))⟩
  · have d1 : decide ((1000 : Int) < d.size) = true := by simp; omega
    have HFR := Lib.hid hfr
    clear hb hfr
    go_enter Try.func3, Try.ntmps3
    go_wp2_with fail
    generalize w.alloc (.cells #[.int .i64 ty, .string d] 23) = V at h0 h1 hz HFR ⊢
    refine (fworks_any _).mono ?_
    rintro e w1 ⟨rfl, hb1⟩
    have q1 : Below (w.heap.size + 1) V w1 := by rw [← hz]; exact hb1
    go_wp2_with fail
    go_ret
    exact ⟨rfl, HFR.out.trans (q1.mono (Nat.le_succ _))⟩
set_option maxRecDepth 100000 in
set_option maxHeartbeats 8000000 in
theorem walk_fgets (s : ByteArray) (a : Int) (w : World) (hs : s.size ≤ maxLen) (ha : (Lit.int .i64 a).wf = true) :
    Calls Try.prog 4 #[.string s, .int .i64 a] w fun e w' => e = .returned (.bool true) ∧ Below w.heap.size w w' := by
  have HS := Lib.hid hs
  unfold maxLen at hs
  by_cases hb : s.size ≤ 1000
  · have d1 : decide ((1000 : Int) < s.size) = false := by simp; omega
    have CG := Lib.hid (fun W => fget_any s a W HS.out)
    have CR := Lib.hid (fun W => rfget_any s a W HS.out)
    obtain ⟨⟨⟨ty, d⟩, tt, er⟩, hr⟩ : ∃ r, fGet s a = r := ⟨_, rfl⟩
    rw [hr] at CG CR
    unfold FV at CG CR
    simp only at CG CR
    clear hr hs hb
    go_enter Try.func4, Try.ntmps4
    go_wp2_with fail
    refine (fworks_any _).mono ?_
    rintro e w1 ⟨rfl, hb1⟩
    go_wp2_with fail
    refine (CG.out _).mono ?_
    rintro e w2 ⟨rfl, hb2⟩
    have hX := heap_alloc_new w2 (.cells #[.int .i64 ty, .string d] 23)
    have hX2 := Lib.hid (show two (w2.alloc (.cells #[.int .i64 ty, .string d] 23)) w2.heap.size ty d from hX)
    have HB3 := Lib.hid ((later hb1 hb2).alloc (later hb1 hb2).size (.cells #[.int .i64 ty, .string d] 23))
    clear hX hb1 hb2
    go_wp2_with fail
    generalize w2.alloc (.cells #[.int .i64 ty, .string d] 23) = W3 at hX2 HB3 ⊢
    refine (CR.out _).mono ?_
    rintro e w4 ⟨rfl, hb4⟩
    have HB5 := Lib.hid ((later HB3.out hb4).alloc (later HB3.out hb4).size (.cells #[.int .i64 ty, .string d] 23))
    obtain ⟨x0, x1, _, _⟩ := ((hX2.out.later hb4).later ((Below.refl _ w4).alloc (Nat.le_refl _) (.cells #[.int .i64 ty, .string d] 23))).cells
    clear hb4
    go_wp2_with fail
    go_ret
    exact ⟨ret_bool (by simp), HB5.out⟩
  · have d1 : decide ((1000 : Int) < s.size) = true := by simp; omega
    clear hb
    go_enter Try.func4, Try.ntmps4
    go_wp2_with fail
    refine (fworks_any _).mono ?_
    rintro e w1 ⟨rfl, hb1⟩
    go_wp2_with fail
    go_ret
    exact ⟨rfl, hb1⟩
end Go.Proofs.Ytbgghgeiiefopaa

