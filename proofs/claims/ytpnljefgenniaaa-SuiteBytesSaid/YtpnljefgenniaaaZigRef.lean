/- The walks of the references of layer 2, and of the laws ZigzagTells and ZigzagGets. No conditions. -/
import Derived.Test.YtpnljefgenniaaaZigLaws
import Derived.Test.YtpnljefgenniaaaLebRefGet
namespace Go.Proofs.Ytpnljefgenniaaa
set_option linter.unusedVariables false
open Go Go.RowKit
set_option maxRecDepth 100000 in
set_option maxHeartbeats 400000 in
theorem rzig_any (n : Int) (h : I64 n) (w : World) :
    Calls Try.prog 72 #[.int .i64 n] w fun e w' => e = .returned (.int .u64 (zigF n : Nat)) ∧ w = w' := by
  unfold I64 at h
  by_cases h0 : 0 ≤ n
  · obtain ⟨m, rfl⟩ := Int.eq_ofNat_of_zero_le h0
    have e1 : IntKind.u64.wrap (m : Int) = (m : Int) := by rw [IntKind.wrap_u64]; omega
    have e2 := Lib.hid (show IntKind.u64.wrap (2 * (m : Int)) = (zigF m : Int) by rw [IntKind.wrap_u64, zigF, if_pos h0]; omega)
    clear h h0
    go_enter Try.func72, Try.ntmps72
    go_wp2_with fail
    go_ret
    exact ⟨congrArg (fun x => Ending.returned (.int .u64 x)) e2.out, rfl⟩
  · have b0 : n ≤ -1 := by omega
    have b1 : -9223372036854775808 ≤ n := by omega
    have e2 := Lib.hid (show 2 * -(n + 1) + 1 = (zigF n : Int) by
      rw [zigF, if_neg h0]; omega)
    clear h h0
    go_enter Try.func72, Try.ntmps72
    go_wp2_with fail
    go_ret
    exact ⟨congrArg (fun x => Ending.returned (.int .u64 x)) e2.out, rfl⟩
set_option maxRecDepth 100000 in
set_option maxHeartbeats 400000 in
theorem rzag_any (u : Nat) (h : U64 u) (w : World) :
    Calls Try.prog 76 #[.int .u64 u] w fun e w' => e = .returned (.int .i64 (zagF u)) ∧ w = w' := by
  by_cases h0 : u % 2 = 0
  · have z0 : ((u : Int) % 2 == 0) = true := by simp; omega
    have e1 := Lib.hid (show wrap64 (IntKind.u64.wrap ((u : Int) / 2)) = zagF u by unfold U64 at h; rw [zagF, if_pos h0, IntKind.wrap_u64]; unfold wrap64; omega)
    clear h h0
    go_enter Try.func76, Try.ntmps76
    go_wp2_with fail
    go_ret
    exact ⟨congrArg (fun x => Ending.returned (.int .i64 x)) e1.out, rfl⟩
  · have z0 : ((u : Int) % 2 == 0) = false := by simp; omega
    have e1 := Lib.hid (show wrap64 (wrap64 (-wrap64 (IntKind.u64.wrap ((u : Int) / 2))) - 1) = zagF u by unfold U64 at h; rw [zagF, if_neg h0, IntKind.wrap_u64]; unfold wrap64; omega)
    clear h h0
    go_enter Try.func76, Try.ntmps76
    go_wp2_with fail
    go_ret
    exact ⟨congrArg (fun x => Ending.returned (.int .i64 x)) e1.out, rfl⟩

set_option maxRecDepth 100000 in
set_option maxHeartbeats 400000 in
theorem rzput_any (n : Int) (h : I64 n) (w : World) :
    Calls Try.prog 44 #[.int .i64 n] w fun e w' => e = .returned (.string (lebStr (zigF n))) ∧ Below w.heap.size w w' := by
  have hu := zigF_u64 h
  have Z := Lib.hid (rzig_any n h)
  generalize zigF n = u at hu Z ⊢
  clear h
  go_enter Try.func44, Try.ntmps44
  go_wp2_with fail
  refine (Z.out _).mono ?_
  rintro e w1 ⟨rfl, rfl⟩
  go_wp2_with fail
  refine (rput_any _ hu _).mono ?_
  rintro e w2 ⟨rfl, hb2⟩
  go_wp2_with fail
  go_ret
  exact ⟨rfl, hb2⟩
end Go.Proofs.Ytpnljefgenniaaa

