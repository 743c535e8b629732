/- The walks of the laws ZigzagOnly and ZigzagNear. No conditions. -/
import Derived.Test.YtegfnhknjllchaaZigLaws
namespace Go.Proofs.Ytegfnhknjllchaa
set_option linter.unusedVariables false
open Go Go.RowKit
theorem zigGet_only {s : ByteArray} {at' to n : Int} (h : zigGet s at' = (n, to, 0)) : ∃ a t : Nat, at' = a ∧ to = t ∧ a < t ∧ t ≤ s.size ∧ I64 n ∧ lebStr (zigF n) = s.extract a t := by
  obtain ⟨⟨u, to', er⟩, hr⟩ : ∃ r, lebGet s at' = r := ⟨_, rfl⟩
  rw [zigGet, hr] at h
  by_cases he : er = 0
  · subst he
    simp only [if_true, Prod.mk.injEq, and_true] at h
    obtain ⟨rfl, rfl⟩ := h
    obtain ⟨a, t, h1, h2, h3, h4, hu, h5⟩ := lebGet_only hr
    exact ⟨a, t, h1, h2, h3, h4, zagF_i64 hu, by rw [zigF_zagF]; exact h5⟩
  · simp [he] at h
theorem zigGet_err {s : ByteArray} {at' : Int} (h : (zigGet s at').2.2 ≠ 0) : (zigGet s at').1 = 0 ∧ (zigGet s at').2.1 = at' := by
  unfold zigGet at h ⊢
  split
  · rename_i h0; rw [if_pos h0] at h; exact absurd rfl h
  · exact ⟨rfl, rfl⟩

set_option maxRecDepth 100000 in
set_option maxHeartbeats 2000000 in
theorem walk_zonly (s : ByteArray) (at' : Int) (w : World) (hs : s.size ≤ maxLen) (ha : (Lit.int .i64 at').wf = true) :
    Calls Try.prog 13 #[.string s, .int .i64 at'] w fun e w' => e = .returned (.bool true) ∧ Below w.heap.size w w' := by
  have hs' : s.size ≤ 9223372036854775807 := by unfold maxLen at hs; omega
  by_cases h : s.size ≤ 2000
  · obtain ⟨⟨n, to, e⟩, hr⟩ : ∃ r, zigGet s at' = r := ⟨_, rfl⟩
    by_cases he : e = 0
    · subst he
      obtain ⟨a, t, rfl, rfl, hat, hts, hu, hstr⟩ := zigGet_only hr
      have G := Lib.hid (zget_ex (show ZGot (zigGet s (a : Int)) = .returned (.tuple #[.int .i64 n, .int .i64 (t : Int), .int .i64 0]) by rw [hr]; rfl) hs)
      have P := Lib.hid (zput_ex hstr hu)
      have f0 : (0 : Int) ≤ (a : Int) := by omega
      have f1 : (a : Int) ≤ (t : Int) := by omega
      have f2 : (t : Int) ≤ (s.size : Int) := by omega
      have f3 : a ≤ t := by omega
      clear hr hstr hs hu
      go_enter Try.func13, Try.ntmps13
      go_wp2_with fail
      refine (zigworks_any _).mono ?_
      rintro e w1 ⟨rfl, hb1⟩
      go_wp2_with fail
      refine (G.out _).mono ?_
      rintro e w3 ⟨rfl, rfl⟩
      go_wp2_with fail
      go_region_held3 (fun w' => Below w1.heap.size w1 w') (first | assumption | go_grown)
        (first | (go_at_call 26; refine (P.out _).mono ?_; rintro e w2 ⟨rfl, hb3⟩; have hbl := later (by first | assumption | go_grown) hb3; clear hb3))
      all_goals go_wp2_with fail
      all_goals go_ret
      all_goals exact ⟨ret_bool (by simp), later hb1 (by first | assumption | go_grown)⟩
    · have hr2 := zigGet_err (s := s) (at' := at') (by rw [hr]; exact he)
      rw [hr] at hr2
      obtain ⟨rfl, rfl⟩ := hr2
      simp only at hr ha
      have G := Lib.hid (zget_ex (show ZGot (zigGet s to) = .returned (.tuple #[.int .i64 0, .int .i64 to, .int .i64 (e : Nat)]) by rw [hr]; rfl) hs)
      have z1 : ((e : Int) == 0) = false := by simp; omega
      have z2 : ((e : Int) != 0) = true := by simp; omega
      clear hr hs he
      go_enter Try.func13, Try.ntmps13
      go_wp2_with fail
      refine (zigworks_any _).mono ?_
      rintro e w1 ⟨rfl, hb1⟩
      go_wp2_with fail
      refine (G.out _).mono ?_
      rintro e w3 ⟨rfl, rfl⟩
      go_wp2_with fail
      go_ret
      exact ⟨ret_bool (by simp), hb1⟩
  · go_enter Try.func13, Try.ntmps13
    go_wp2_with fail
    refine (zigworks_any _).mono ?_
    rintro e w1 ⟨rfl, hb1⟩
    go_wp2_with fail
    go_ret
    exact ⟨rfl, hb1⟩

set_option maxRecDepth 100000 in
set_option maxHeartbeats 2000000 in
theorem walk_znear (n m : Int) (w : World) (hn : (Lit.int .i64 n).wf = true) (hm : (Lit.int .i64 m).wf = true) :
    Calls Try.prog 14 #[.int .i64 n, .int .i64 m] w fun e w' => e = .returned (.bool true) ∧ Below w.heap.size w w' := by
  have hin := i64_of hn
  have him := i64_of hm
  clear hn hm
  by_cases hneg : n < 0 ∨ m < 0
  · clear hin him
    rcases hneg with h | h
    · go_enter Try.func14, Try.ntmps14
      go_wp2_with fail
      refine (zigworks_any _).mono ?_
      rintro e w1 ⟨rfl, hb1⟩
      go_wp2_with fail
      all_goals go_ret
      all_goals exact ⟨rfl, hb1⟩
    · go_enter Try.func14, Try.ntmps14
      go_wp2_with fail
      refine (zigworks_any _).mono ?_
      rintro e w1 ⟨rfl, hb1⟩
      go_wp2_with fail
      all_goals go_ret
      all_goals exact ⟨rfl, hb1⟩
  · obtain ⟨n, rfl⟩ := Int.eq_ofNat_of_zero_le (show 0 ≤ n by omega)
    obtain ⟨m, rfl⟩ := Int.eq_ofNat_of_zero_le (show 0 ≤ m by omega)
    have hx : zigF (n : Int) = 2 * n := by unfold zigF; split <;> omega
    have hy : zigF (-1 - (m : Int)) = 2 * m + 1 := by unfold zigF; split <;> omega
    have hux : U64 (2 * n) := by rw [← hx]; exact zigF_u64 hin
    have huy : U64 (2 * m + 1) := by unfold I64 at him; unfold U64; omega
    have hlen : n ≤ m → (digs (2 * n)).length ≤ (digs (2 * m + 1)).length := fun h => digs_len_mono (by omega)
    obtain ⟨x, hxx⟩ : ∃ x, 2 * n = x := ⟨_, rfl⟩
    obtain ⟨y, hyy⟩ : ∃ y, 2 * m + 1 = y := ⟨_, rfl⟩
    rw [hxx] at hx hux hlen
    rw [hyy] at hy huy hlen
    have X := Lib.hid (zig_ex hx hin)
    have Y := Lib.hid (zig_ex hy (by unfold I64 at him ⊢; omega))
    have SX := Lib.hid (size_any x hux)
    have SY := Lib.hid (size_any y huy)
    have e1 : IntKind.i64.wrap (-1 - (m : Int)) = -1 - (m : Int) := by unfold I64 at him; rw [IntWalk.i64_in _ (by omega)]
    have b1 : (m : Int) ≤ 9223372036854775807 := by unfold I64 at him; omega
    have lx : (digs x).length ≤ 10 := digs_len_10 hux
    have ly : (digs y).length ≤ 10 := digs_len_10 huy
    clear hneg hin him hx hy hux huy
    by_cases hnm : n ≤ m
    · have hxy : x < y := by omega
      have hl := hlen hnm
      clear hxx hyy hlen
      go_enter Try.func14, Try.ntmps14
      go_wp2_with fail
      refine (zigworks_any _).mono ?_
      rintro e w1 ⟨rfl, hb1⟩
      go_wp2_with fail
      refine (X.out _).mono ?_
      rintro e w2 ⟨rfl, hb2⟩
      go_wp2_with fail
      refine (Y.out _).mono ?_
      rintro e w3 ⟨rfl, hb3⟩
      go_wp2_with fail
      refine (SX.out _).mono ?_
      rintro e w4 ⟨rfl, hb4⟩
      go_wp2_with fail
      refine (SY.out _).mono ?_
      rintro e w5 ⟨rfl, hb5⟩
      go_wp2_with fail
      go_ret
      exact ⟨ret_bool (by simp), later (later (later (later hb1 hb2) hb3) hb4) hb5⟩
    · have hxy : y < x := by omega
      clear hxx hyy hlen
      go_enter Try.func14, Try.ntmps14
      go_wp2_with fail
      refine (zigworks_any _).mono ?_
      rintro e w1 ⟨rfl, hb1⟩
      go_wp2_with fail
      refine (X.out _).mono ?_
      rintro e w2 ⟨rfl, hb2⟩
      go_wp2_with fail
      refine (Y.out _).mono ?_
      rintro e w3 ⟨rfl, hb3⟩
      go_wp2_with fail
      go_ret
      exact ⟨ret_bool (by simp), later (later hb1 hb2) hb3⟩
end Go.Proofs.Ytegfnhknjllchaa
