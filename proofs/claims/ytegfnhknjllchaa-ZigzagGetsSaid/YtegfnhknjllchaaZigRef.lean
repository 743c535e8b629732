/- The walks of the references of layer 2, and of the laws ZigzagTells and ZigzagGets. No conditions. -/
import Derived.Test.YtegfnhknjllchaaZigLaws
import Derived.Test.YtegfnhknjllchaaLebRefGet
namespace Go.Proofs.Ytegfnhknjllchaa
set_option linter.unusedVariables false
open Go Go.RowKit
set_option maxRecDepth 100000 in
set_option maxHeartbeats 400000 in
theorem rzig_any (n : Int) (h : I64 n) (w : World) :
    Calls Try.prog 23 #[.int .i64 n] w fun e w' => e = .returned (.int .u64 (zigF n : Nat)) ∧ w = w' := by
  unfold I64 at h
  by_cases h0 : 0 ≤ n
  · obtain ⟨m, rfl⟩ := Int.eq_ofNat_of_zero_le h0
    have e1 : IntKind.u64.wrap (m : Int) = (m : Int) := by rw [IntKind.wrap_u64]; omega
    have e2 := Lib.hid (show IntKind.u64.wrap (2 * (m : Int)) = (zigF m : Int) by rw [IntKind.wrap_u64, zigF, if_pos h0]; omega)
    clear h h0
    go_enter Try.func23, Try.ntmps23
    go_wp2_with fail
    go_ret
    exact ⟨congrArg (fun x => Ending.returned (.int .u64 x)) e2.out, rfl⟩
  · have b0 : n ≤ -1 := by omega
    have b1 : -9223372036854775808 ≤ n := by omega
    have e2 := Lib.hid (show 2 * -(n + 1) + 1 = (zigF n : Int) by
      rw [zigF, if_neg h0]; omega)
    clear h h0
    go_enter Try.func23, Try.ntmps23
    go_wp2_with fail
    go_ret
    exact ⟨congrArg (fun x => Ending.returned (.int .u64 x)) e2.out, rfl⟩
set_option maxRecDepth 100000 in
set_option maxHeartbeats 400000 in
theorem rzag_any (u : Nat) (h : U64 u) (w : World) :
    Calls Try.prog 25 #[.int .u64 u] w fun e w' => e = .returned (.int .i64 (zagF u)) ∧ w = w' := by
  by_cases h0 : u % 2 = 0
  · have z0 : ((u : Int) % 2 == 0) = true := by simp; omega
    have e1 := Lib.hid (show wrap64 (IntKind.u64.wrap ((u : Int) / 2)) = zagF u by unfold U64 at h; rw [zagF, if_pos h0, IntKind.wrap_u64]; unfold wrap64; omega)
    clear h h0
    go_enter Try.func25, Try.ntmps25
    go_wp2_with fail
    go_ret
    exact ⟨congrArg (fun x => Ending.returned (.int .i64 x)) e1.out, rfl⟩
  · have z0 : ((u : Int) % 2 == 0) = false := by simp; omega
    have e1 := Lib.hid (show wrap64 (wrap64 (-wrap64 (IntKind.u64.wrap ((u : Int) / 2))) - 1) = zagF u by unfold U64 at h; rw [zagF, if_neg h0, IntKind.wrap_u64]; unfold wrap64; omega)
    clear h h0
    go_enter Try.func25, Try.ntmps25
    go_wp2_with fail
    go_ret
    exact ⟨congrArg (fun x => Ending.returned (.int .i64 x)) e1.out, rfl⟩

set_option maxRecDepth 100000 in
set_option maxHeartbeats 400000 in
theorem rzput_any (n : Int) (h : I64 n) (w : World) :
    Calls Try.prog 27 #[.int .i64 n] w fun e w' => e = .returned (.string (lebStr (zigF n))) ∧ Below w.heap.size w w' := by
  have hu := zigF_u64 h
  have Z := Lib.hid (rzig_any n h)
  generalize zigF n = u at hu Z ⊢
  clear h
  go_enter Try.func27, Try.ntmps27
  go_wp2_with fail
  refine (Z.out _).mono ?_
  rintro e w1 ⟨rfl, rfl⟩
  go_wp2_with fail
  refine (rput_any _ hu _).mono ?_
  rintro e w2 ⟨rfl, hb2⟩
  go_wp2_with fail
  go_ret
  exact ⟨rfl, hb2⟩
set_option maxRecDepth 100000 in
set_option maxHeartbeats 400000 in
theorem rzget_any (s : ByteArray) (a : Int) (w : World) (hs : s.size ≤ maxLen) :
    Calls Try.prog 29 #[.string s, .int .i64 a] w fun e w' => e = ZGot (zigGet s a) ∧ Below w.heap.size w w' := by
  obtain ⟨⟨n, to, er⟩, hr⟩ : ∃ r, lebGet s a = r := ⟨_, rfl⟩
  have G := Lib.hid (fun w => (rget_any s a w hs).mono (R' := fun e w' => e = .returned (.tuple #[.int .u64 n, .int .i64 to, .int .i64 (er : Nat)]) ∧ Below w.heap.size w w') fun e w' ⟨h1, h2⟩ => ⟨h1.trans (by rw [hr]; rfl), h2⟩)
  by_cases he : er = 0
  · subst he
    have hu : U64 n := by obtain ⟨_, _, _, _, _, _, hu, _⟩ := lebGet_only hr; exact hu
    have HZ := Lib.hid (show zigGet s a = (zagF n, to, 0) by rw [zigGet, hr, if_pos rfl])
    clear hr hs
    go_enter Try.func29, Try.ntmps29
    go_wp2_with fail
    refine (G.out _).mono ?_
    rintro e w1 ⟨rfl, hb1⟩
    go_wp2_with fail
    refine (rzag_any n hu _).mono ?_
    rintro e w2 ⟨rfl, rfl⟩
    go_wp2_with fail
    go_ret3
    exact ⟨by rw [HZ.out]; rfl, hb1⟩
  · have HZ := Lib.hid (show zigGet s a = (0, a, er) by rw [zigGet, hr, if_neg he])
    have z1 : ((er : Int) == 0) = false := by simp; omega
    have z2 : ((er : Int) != 0) = true := by simp; omega
    clear hr hs he
    go_enter Try.func29, Try.ntmps29
    go_wp2_with fail
    refine (G.out _).mono ?_
    rintro e w1 ⟨rfl, hb1⟩
    go_wp2_with fail
    go_ret3
    exact ⟨by rw [HZ.out]; rfl, hb1⟩

set_option maxRecDepth 100000 in
set_option maxHeartbeats 2000000 in
theorem walk_ztells (n u : Int) (w : World) (hn : (Lit.int .i64 n).wf = true) (hu : (Lit.int .u64 u).wf = true) :
    Calls Try.prog 9 #[.int .i64 n, .int .u64 u] w fun e w' => e = .returned (.bool true) ∧ Below w.heap.size w w' := by
  obtain ⟨u, rfl, hu64⟩ := u64_of hu
  have hi := i64_of hn
  clear hu hn
  have A := Lib.hid (zig_any n hi)
  have B := Lib.hid (rzig_any n hi)
  have C := Lib.hid (zag_any u hu64)
  have D := Lib.hid (rzag_any u hu64)
  have E := Lib.hid (zput_any n hi)
  have F := Lib.hid (rzput_any n hi)
  generalize lebStr (zigF n) = t at E F
  generalize zigF n = z at A B
  generalize zagF u = y at C D
  clear hi hu64
  go_enter Try.func9, Try.ntmps9
  go_wp2_with fail
  refine (zigworks_any _).mono ?_
  rintro e w1 ⟨rfl, hb1⟩
  go_wp2_with fail
  refine (A.out _).mono ?_
  rintro e w2 ⟨rfl, hb2⟩
  go_wp2_with fail
  refine (B.out _).mono ?_
  rintro e w3 ⟨rfl, rfl⟩
  go_wp2_with fail
  refine (C.out _).mono ?_
  rintro e w4 ⟨rfl, rfl⟩
  go_wp2_with fail
  refine (D.out _).mono ?_
  rintro e w5 ⟨rfl, rfl⟩
  go_wp2_with fail
  refine (E.out _).mono ?_
  rintro e w6 ⟨rfl, hb6⟩
  go_wp2_with fail
  refine (F.out _).mono ?_
  rintro e w7 ⟨rfl, hb7⟩
  go_wp2_with fail
  go_ret
  exact ⟨ret_bool (by simp), later (later (later hb1 hb2) hb6) hb7⟩

set_option maxRecDepth 100000 in
set_option maxHeartbeats 2000000 in
theorem walk_zgets (s : ByteArray) (a : Int) (w : World) (hs : s.size ≤ maxLen) (ha : (Lit.int .i64 a).wf = true) :
    Calls Try.prog 10 #[.string s, .int .i64 a] w fun e w' => e = .returned (.bool true) ∧ Below w.heap.size w w' := by
  obtain ⟨⟨n, to, er⟩, hr⟩ : ∃ r, zigGet s a = r := ⟨_, rfl⟩
  have G := Lib.hid (zget_ex (show ZGot (zigGet s a) = .returned (.tuple #[.int .i64 n, .int .i64 to, .int .i64 (er : Nat)]) by rw [hr]; rfl) hs)
  have R := Lib.hid (fun w => (rzget_any s a w hs).mono (R' := fun e w' => e = .returned (.tuple #[.int .i64 n, .int .i64 to, .int .i64 (er : Nat)]) ∧ Below w.heap.size w w') fun e w' ⟨h1, h2⟩ => ⟨h1.trans (by rw [hr]; rfl), h2⟩)
  have hs' : s.size ≤ 9223372036854775807 := by unfold maxLen at hs; omega
  clear hr hs
  by_cases h : s.size ≤ 2000
  · go_enter Try.func10, Try.ntmps10
    go_wp2_with fail
    refine (zigworks_any _).mono ?_
    rintro e w1 ⟨rfl, hb1⟩
    go_wp2_with fail
    refine (G.out _).mono ?_
    rintro e w3 ⟨rfl, rfl⟩
    go_wp2_with fail
    refine (R.out _).mono ?_
    rintro e w4 ⟨rfl, hb4⟩
    go_wp2_with fail
    go_ret
    exact ⟨ret_bool (by simp), later hb1 hb4⟩
  · go_enter Try.func10, Try.ntmps10
    go_wp2_with fail
    refine (zigworks_any _).mono ?_
    rintro e w1 ⟨rfl, hb1⟩
    go_wp2_with fail
    go_ret
    exact ⟨rfl, hb1⟩
end Go.Proofs.Ytegfnhknjllchaa
