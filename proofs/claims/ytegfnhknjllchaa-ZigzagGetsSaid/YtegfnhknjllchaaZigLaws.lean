/- The walks of the fixed examples of layer 2 and of four of its laws. No conditions. -/
import Derived.Test.YtegfnhknjllchaaZig
namespace Go.Proofs.Ytegfnhknjllchaa
set_option linter.unusedVariables false
open Go Go.RowKit
theorem zig_ex {n : Int} {u : Nat} (h : zigF n = u) (hn : I64 n) (w : World) :
    Calls Try.prog 22 #[.int .i64 n] w fun e w' => e = .returned (.int .u64 (u : Nat)) ∧ Below w.heap.size w w' :=
  (zig_any n hn w).mono fun _ _ ⟨he, hw⟩ => ⟨he.trans (by rw [h]), hw⟩
theorem zag_ex {n : Int} {u : Nat} (h : zagF u = n) (hn : U64 u) (w : World) :
    Calls Try.prog 24 #[.int .u64 (u : Nat)] w fun e w' => e = .returned (.int .i64 n) ∧ w = w' :=
  (zag_any u hn w).mono fun _ _ ⟨he, hw⟩ => ⟨he.trans (by rw [h]), hw⟩
theorem zput_ex {n : Int} {s : ByteArray} (h : lebStr (zigF n) = s) (hn : I64 n) (w : World) :
    Calls Try.prog 26 #[.int .i64 n] w fun e w' => e = .returned (.string s) ∧ Below w.heap.size w w' :=
  (zput_any n hn w).mono fun _ _ ⟨he, hw⟩ => ⟨he.trans (by rw [h]), hw⟩
theorem zget_ex {s : ByteArray} {a : Int} {e0 : Ending} (h : ZGot (zigGet s a) = e0) (hs : s.size ≤ maxLen) (w : World) :
    Calls Try.prog 28 #[.string s, .int .i64 a] w fun e w' => e = e0 ∧ w = w' :=
  (zget_any s a w hs).mono fun _ _ ⟨he, hw⟩ => ⟨he.trans h, hw⟩
theorem zget1 : ZGot (zigGet ⟨#[3]⟩ 0) = .returned (.tuple #[.int .i64 (-2), .int .i64 1, .int .i64 0]) := by
  rw [show zigGet ⟨#[3]⟩ 0 = (-2, 1, 0) by decide]; rfl
theorem str3 : lebStr (zigF (-2)) = ⟨#[3]⟩ := by rw [show zigF (-2) = 3 by decide, lebStr, digs_lt (by decide)]; rfl
theorem zagmax : zagF 18446744073709551615 = -9223372036854775808 := by rw [zagF, if_neg (by omega)]; rfl

set_option maxRecDepth 100000 in
set_option maxHeartbeats 2000000 in
theorem zigworks_any (w : World) :
    Calls Try.prog 21 #[] w fun e w' => e = .returned (.bool true) ∧ Below w.heap.size w w' := by
  go_enter Try.func21, Try.ntmps21
  go_wp2_with fail
  refine (zget_ex zget1 (by decide) _).mono ?_
  rintro e w1 ⟨rfl, rfl⟩
  go_wp2_with fail
  refine (zig_ex (n := 0) (u := 0) (by decide) (by unfold I64; omega) _).mono ?_
  rintro e w1 ⟨rfl, hb1⟩
  go_wp2_with fail
  refine (zig_ex (n := -1) (u := 1) (by decide) (by unfold I64; omega) _).mono ?_
  rintro e w2 ⟨rfl, hb2⟩
  replace hb1 := later hb1 hb2
  clear hb2
  go_wp2_with fail
  refine (zig_ex (n := 1) (u := 2) (by decide) (by unfold I64; omega) _).mono ?_
  rintro e w3 ⟨rfl, hb2⟩
  replace hb1 := later hb1 hb2
  clear hb2
  go_wp2_with fail
  refine (zig_ex (n := -2) (u := 3) (by decide) (by unfold I64; omega) _).mono ?_
  rintro e w4 ⟨rfl, hb2⟩
  replace hb1 := later hb1 hb2
  clear hb2
  go_wp2_with fail
  refine (zag_ex (u := 18446744073709551615) zagmax (by unfold U64; omega) _).mono ?_
  rintro e w5 ⟨rfl, rfl⟩
  go_wp2_with fail
  refine (zput_ex str3 (by unfold I64; omega) _).mono ?_
  rintro e w6 ⟨rfl, hb2⟩
  replace hb1 := later hb1 hb2
  clear hb2
  go_wp2_with fail
  go_ret
  exact ⟨rfl, hb1⟩

theorem i64_of {a : Int} (h : (Lit.int .i64 a).wf = true) : I64 a := by
  simpa [I64, Lit.wf, IntKind.min, IntKind.max, IntKind.signed, IntKind.bits] using h
theorem zigF_odd (n : Int) : (zigF n % 2 = 1) ↔ n < 0 := by unfold zigF; split <;> omega

set_option maxRecDepth 100000 in
set_option maxHeartbeats 2000000 in
theorem walk_zeach (n u : Int) (w : World) (hn : (Lit.int .i64 n).wf = true) (hu : (Lit.int .u64 u).wf = true) :
    Calls Try.prog 11 #[.int .i64 n, .int .u64 u] w fun e w' => e = .returned (.bool true) ∧ Below w.heap.size w w' := by
  obtain ⟨u, rfl, hu64⟩ := u64_of hu
  have hi := i64_of hn
  clear hu hn
  obtain ⟨z, hz⟩ : ∃ z, zigF n = z := ⟨_, rfl⟩
  obtain ⟨y, hy⟩ : ∃ y, zagF u = y := ⟨_, rfl⟩
  have Z := Lib.hid (zig_ex hz hi)
  have Y := Lib.hid (zag_ex hy hu64)
  have Z2 := Lib.hid (zag_ex (u := z) (n := n) (by rw [← hz]; exact zagF_zigF n) (by rw [← hz]; exact zigF_u64 hi))
  have Y2 := Lib.hid (zig_ex (n := y) (u := u) (by rw [← hy]; exact zigF_zagF u) (by rw [← hy]; exact zagF_i64 hu64))
  have hodd := zigF_odd n
  rw [hz] at hodd
  have hlast : ((((z : Int) % 2 == 1) == decide (n < 0)) = true) := by
    by_cases h : n < 0
    · have := hodd.2 h; simp [h]; omega
    · have : ¬ z % 2 = 1 := fun h2 => h (hodd.1 h2)
      simp [h]; omega
  clear hz hy hi hu64 hodd
  go_enter Try.func11, Try.ntmps11
  go_wp2_with fail
  refine (zigworks_any _).mono ?_
  rintro e w1 ⟨rfl, hb1⟩
  go_wp2_with fail
  refine (Z.out _).mono ?_
  rintro e w2 ⟨rfl, hb2⟩
  replace hb1 := later hb1 hb2
  clear hb2
  go_wp2_with fail
  refine (Z2.out _).mono ?_
  rintro e w3 ⟨rfl, rfl⟩
  go_wp2_with fail
  refine (Y.out _).mono ?_
  rintro e w4 ⟨rfl, rfl⟩
  go_wp2_with fail
  refine (Y2.out _).mono ?_
  rintro e w5 ⟨rfl, hb2⟩
  replace hb1 := later hb1 hb2
  clear hb2
  go_wp2_with fail
  refine (Z.out _).mono ?_
  rintro e w6 ⟨rfl, hb2⟩
  replace hb1 := later hb1 hb2
  clear hb2
  go_wp2_with fail
  go_ret
  exact ⟨rfl, hb1⟩

theorem zgot_back (a : ByteArray) {n : Int} (hn : I64 n) (b : ByteArray) : ZGot (zigGet (a ++ lebStr (zigF n) ++ b) a.size) = .returned (.tuple #[.int .i64 n, .int .i64 ((a.size : Int) + ((lebStr (zigF n)).size : Nat)), .int .i64 0]) := by
  rw [zigGet, lebGet_back a (zigF_u64 hn) b, if_pos rfl, zagF_zigF]; rfl
set_option maxRecDepth 100000 in
set_option maxHeartbeats 2000000 in
theorem walk_zback (n : Int) (a b : ByteArray) (w : World) (hn : (Lit.int .i64 n).wf = true) (ha : a.size ≤ maxLen) (hb : b.size ≤ maxLen) :
    Calls Try.prog 12 #[.int .i64 n, .string a, .string b] w fun e w' => e = .returned (.bool true) ∧ Below w.heap.size w w' := by
  have hi := i64_of hn
  clear hn
  have hls : (lebStr (zigF n)).size ≤ 10 := by rw [lebStr_size]; exact digs_len_10 (zigF_u64 hi)
  obtain ⟨t, ht⟩ : ∃ t, lebStr (zigF n) = t := ⟨_, rfl⟩
  have P := Lib.hid (zput_ex ht hi)
  have hg := zgot_back a hi b
  rw [ht] at hg hls
  unfold maxLen at ha hb
  clear ht
  by_cases h : a.size ≤ 2000 ∧ b.size ≤ 2000
  · obtain ⟨h1, h2⟩ := h
    have G := Lib.hid (zget_ex hg (by simp [maxLen]; omega))
    clear hg hi
    go_enter Try.func12, Try.ntmps12
    go_wp2_with fail
    refine (zigworks_any _).mono ?_
    rintro e w1 ⟨rfl, hb1⟩
    go_wp2_with fail
    refine (P.out _).mono ?_
    rintro e w2 ⟨rfl, hb2⟩
    go_wp2_with fail
    refine (G.out _).mono ?_
    rintro e w3 ⟨rfl, rfl⟩
    go_wp2_with fail
    go_ret
    exact ⟨ret_bool (by simp), later hb1 hb2⟩
  · clear hg hi
    go_enter Try.func12, Try.ntmps12
    go_wp2_with fail
    refine (zigworks_any _).mono ?_
    rintro e w1 ⟨rfl, hb1⟩
    go_wp2_with fail
    all_goals first | (go_ret; exact ⟨rfl, hb1⟩) | (exfalso; omega)
end Go.Proofs.Ytegfnhknjllchaa
