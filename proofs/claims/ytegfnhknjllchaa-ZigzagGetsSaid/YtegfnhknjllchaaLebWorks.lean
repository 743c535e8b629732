/- The walk of the fixed examples of layer 1. No conditions. -/
import Derived.Test.YtegfnhknjllchaaLebPut
import Derived.Test.YtegfnhknjllchaaLebGet
namespace Go.Proofs.Ytegfnhknjllchaa
set_option linter.unusedVariables false
open Go Go.RowKit
theorem digs300 : digs 300 = [172, 2] := by rw [digs_ge (by decide), digs_lt (by decide)]
theorem str300 : lebStr 300 = ⟨#[172, 2]⟩ := by rw [lebStr, digs300]; rfl
theorem str0 : lebStr 0 = ⟨#[0]⟩ := by rw [lebStr, digs_lt (by decide)]; rfl
theorem get1 : Got (lebGet ⟨#[172, 2, 7]⟩ 0) = .returned (.tuple #[.int .u64 300, .int .i64 2, .int .i64 0]) := by
  rw [show lebGet ⟨#[172, 2, 7]⟩ 0 = (300, 2, 0) by decide]; rfl
theorem get2 : Got (lebGet ⟨#[128, 0]⟩ 0) = .returned (.tuple #[.int .u64 0, .int .i64 0, .int .i64 3]) := by
  rw [show lebGet ⟨#[128, 0]⟩ 0 = (0, 0, 3) by decide]; rfl
theorem get3 : Got (lebGet ⟨#[128]⟩ 0) = .returned (.tuple #[.int .u64 0, .int .i64 0, .int .i64 2]) := by
  rw [show lebGet ⟨#[128]⟩ 0 = (0, 0, 2) by decide]; rfl
theorem get4 : Got (lebGet ⟨#[]⟩ 1) = .returned (.tuple #[.int .u64 0, .int .i64 1, .int .i64 1]) := by
  rw [show lebGet ⟨#[]⟩ 1 = (0, 1, 1) by decide]; rfl
theorem get_ex {s : ByteArray} {a : Int} {e0 : Ending} (h : Got (lebGet s a) = e0) (hs : s.size ≤ maxLen) (w : World) :
    Calls Try.prog 19 #[.string s, .int .i64 a] w fun e w' => e = e0 ∧ w = w' :=
  (get_any s a w hs).mono fun _ _ ⟨he, hw⟩ => ⟨he.trans h, hw⟩
theorem put_ex {m : Nat} {s : ByteArray} (h : lebStr m = s) (hm : U64 m) (w : World) :
    Calls Try.prog 17 #[.int .u64 m] w fun e w' => e = .returned (.string s) ∧ Below w.heap.size w w' :=
  (put_any m hm w).mono fun _ _ ⟨he, hw⟩ => ⟨he.trans (by rw [h]), hw⟩
theorem size300 (w : World) :
    Calls Try.prog 18 #[.int .u64 300] w fun e w' => e = .returned (.int .i64 2) ∧ Below w.heap.size w w' :=
  (size_any 300 (by unfold U64; omega) w).mono fun _ _ ⟨he, hw⟩ => ⟨he.trans (by rw [digs300]; rfl), hw⟩
theorem later {W w1 w2 : World} (h : Below W.heap.size W w1) (hb : Below w1.heap.size w1 w2) : Below W.heap.size W w2 := h.trans (hb.mono h.size)

set_option maxRecDepth 100000 in
set_option maxHeartbeats 2000000 in
theorem lebworks_any (w : World) :
    Calls Try.prog 15 #[] w fun e w' => e = .returned (.bool true) ∧ Below w.heap.size w w' := by
  go_enter Try.func15, Try.ntmps15
  go_wp2_with fail
  refine (get_ex get1 (by decide) _).mono ?_
  rintro e w1 ⟨rfl, rfl⟩
  go_wp2_with fail
  refine (get_ex get2 (by decide) _).mono ?_
  rintro e w1 ⟨rfl, rfl⟩
  go_wp2_with fail
  refine (get_ex get3 (by decide) _).mono ?_
  rintro e w1 ⟨rfl, rfl⟩
  go_wp2_with fail
  refine (get_ex get4 (by decide) _).mono ?_
  rintro e w1 ⟨rfl, rfl⟩
  go_wp2_with fail
  refine (put_ex (m := 300) str300 (by unfold U64; omega) _).mono ?_
  rintro e w1 ⟨rfl, hb1⟩
  go_wp2_with fail
  refine (size300 _).mono ?_
  rintro e w2 ⟨rfl, hb2⟩
  go_wp2_with fail
  refine (put_ex (m := 0) str0 (by unfold U64; omega) _).mono ?_
  rintro e w3 ⟨rfl, hb3⟩
  go_wp2_with fail
  go_ret
  exact ⟨rfl, later (later hb1 hb2) hb3⟩
end Go.Proofs.Ytegfnhknjllchaa
