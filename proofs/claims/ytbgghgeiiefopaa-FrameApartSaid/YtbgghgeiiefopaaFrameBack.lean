/- The walks of the laws FrameBack and FrameOnly. No conditions. -/
import Derived.Test.YtbgghgeiiefopaaFramePuts
namespace Go.Proofs.Ytbgghgeiiefopaa
set_option linter.unusedVariables false
open Go Go.RowKit

theorem fS_bad {ty : Int} {d : ByteArray} (h : fE ty d ≠ 0) : fS ty d = ⟨#[]⟩ := by unfold fS; rw [if_neg h]
theorem fS_good {ty : Int} {d : ByteArray} (h : fE ty d = 0) : fS ty d = bStr (fFrame ty d) := by unfold fS; rw [if_pos h]
theorem fFrame_short {ty : Int} {d : ByteArray} (h : d.size ≤ 1048576) : (fFrame ty d).length ≤ d.size + 15 := by
  have h1 := fHead_len ty d
  have h2 : (lebStr d.size).size ≤ 10 := by rw [lebStr_size]; exact digs_len_10 (by omega)
  rw [fFrame_len]; omega
set_option maxRecDepth 100000 in
set_option maxHeartbeats 8000000 in
theorem fback_in (ty : Int) (d a b : ByteArray) (w : World) (hd : d.size ≤ 1000) (ha : a.size ≤ 1000) (hb : b.size ≤ 1000) :
    Calls Try.prog 5 #[.agg #[.int .i64 ty, .string d], .string a, .string b] w fun e w' => e = .returned (.bool true) ∧ Below w.heap.size w w' := by
  obtain ⟨h0, h1, hz, hfr⟩ := box_section w ty d
  have d1 : decide ((1000 : Int) < d.size) = false := by simp; omega
  have d2 : decide ((1000 : Int) < a.size) = false := by simp; omega
  have d3 : decide ((1000 : Int) < b.size) = false := by simp; omega
  have CP := Lib.hid (fun W => fput_any ty d W (by omega))
  have HFR := Lib.hid hfr
  clear hfr
  by_cases he : fE ty d = 0
  · have hty : ((ty.toNat : Nat) : Int) = ty := by have := fE_ok he; omega
    have hsz : (fS ty d).size ≤ d.size + 15 := by rw [fS_good he, bStr_size]; exact fFrame_short (by omega)
    have hG : fGet (a ++ fS ty d ++ b) a.size = ((ty.toNat, d), ((a.size + (fS ty d).size : Nat) : Int), 0) := by
      rw [fS_good he, bStr_size]; exact fGet_back he a b
    have CG := Lib.hid (fun W => fget_any (a ++ fS ty d ++ b) a.size W (by rw [ByteArray.size_append, ByteArray.size_append]; unfold maxLen; omega))
    rw [hG] at CG
    unfold FV at CG
    simp only [hty] at CG
    rw [he] at CP
    have hw : IntKind.i64.wrap ((a.size : Int) + ((fS ty d).size : Int)) = (a.size : Int) + ((fS ty d).size : Int) := IntWalk.i64_in _ (by omega)
    have r1 := fun W => run_string_add_sum (P := Try.prog) W a (fS ty d) (by omega)
    have r2 := fun W => run_string_add_sum (P := Try.prog) W (a ++ fS ty d) b (by rw [ByteArray.size_append]; omega)
    clear hG he hty
    generalize fS ty d = s at CP CG hw r1 r2 hsz
    have HW := Lib.hid hw
    clear hd ha hb hsz hw
    go_enter Try.func5, Try.ntmps5
    go_wp2_with fail
    generalize w.alloc (.cells #[.int .i64 ty, .string d] 23) = V at h0 h1 hz HFR ⊢
    refine (fworks_any _).mono ?_
    rintro e w1 ⟨rfl, hb1⟩
    have q1 : Below (w.heap.size + 1) V w1 := by rw [← hz]; exact hb1
    have s1 : w.heap.size + 1 ≤ w1.heap.size := by rw [← hz]; exact hb1.size
    go_wp2_with fail
    refine (CP.out _).mono ?_
    rintro e w2 ⟨rfl, hb2⟩
    obtain ⟨q2, s2⟩ := belowS ⟨q1, s1⟩ hb2
    go_wp2_with fail
    refine (CG.out _).mono ?_
    rintro e w3 ⟨rfl, hb3⟩
    obtain ⟨q3, s3⟩ := belowS ⟨q2, s2⟩ hb3
    clear q1 s1 q2 s2 hb1 hb2 hb3
    have q4 : Below (w.heap.size + 1) V (w3.alloc (.cells #[.int .i64 ty, .string d] 23)) := q3.alloc s3 _
    have hw := HW.out
    go_wp2_with fail
    go_ret
    exact ⟨ret_bool (by simp), HFR.out.trans (q4.mono (Nat.le_succ _))⟩
  · have hne : ((fE ty d : Int) == 0) = false := by simp; omega
    rw [fS_bad he] at CP
    clear he hd ha hb
    generalize fE ty d = er at CP hne
    go_enter Try.func5, Try.ntmps5
    go_wp2_with fail
    generalize w.alloc (.cells #[.int .i64 ty, .string d] 23) = V at h0 h1 hz HFR ⊢
    refine (fworks_any _).mono ?_
    rintro e w1 ⟨rfl, hb1⟩
    have q1 : Below (w.heap.size + 1) V w1 := by rw [← hz]; exact hb1
    have s1 : w.heap.size + 1 ≤ w1.heap.size := by rw [← hz]; exact hb1.size
    go_wp2_with fail
    refine (CP.out _).mono ?_
    rintro e w2 ⟨rfl, hb2⟩
    obtain ⟨q2, s2⟩ := belowS ⟨q1, s1⟩ hb2
    go_wp2_with fail
    go_ret
    exact ⟨ret_bool (by simp), HFR.out.trans (q2.mono (Nat.le_succ _))⟩
set_option maxRecDepth 100000 in
set_option maxHeartbeats 8000000 in
theorem walk_fback (ty : Int) (d a b : ByteArray) (w : World) (hs : I64 ty ∧ d.size ≤ maxLen) (ha : a.size ≤ maxLen) (hb : b.size ≤ maxLen) :
    Calls Try.prog 5 #[.agg #[.int .i64 ty, .string d], .string a, .string b] w fun e w' => e = .returned (.bool true) ∧ Below w.heap.size w w' := by
  obtain ⟨_, hd⟩ := hs
  unfold maxLen at hd ha hb
  by_cases h : d.size ≤ 1000 ∧ a.size ≤ 1000 ∧ b.size ≤ 1000
  · exact fback_in ty d a b w h.1 h.2.1 h.2.2
  · obtain ⟨h0, h1, hz, hfr⟩ := box_section w ty d
    have HFR := Lib.hid hfr
    have HH := Lib.hid h
    clear hfr h
    go_enter Try.func5, Try.ntmps5
    go_wp2_with fail
    generalize w.alloc (.cells #[.int .i64 ty, .string d] 23) = V at h0 h1 hz HFR ⊢
    refine (fworks_any _).mono ?_
    rintro e w1 ⟨rfl, hb1⟩
    have q1 : Below (w.heap.size + 1) V w1 := by rw [← hz]; exact hb1
    go_wp2_with fail
    all_goals first | (go_ret; exact ⟨rfl, HFR.out.trans (q1.mono (Nat.le_succ _))⟩) | (exfalso; exact HH.out (by omega))
set_option maxRecDepth 100000 in
set_option maxHeartbeats 8000000 in
theorem walk_fonly (s : ByteArray) (a : Int) (w : World) (hs : s.size ≤ maxLen) (ha : (Lit.int .i64 a).wf = true) :
    Calls Try.prog 6 #[.string s, .int .i64 a] w fun e w' => e = .returned (.bool true) ∧ Below w.heap.size w w' := by
  have HS := Lib.hid hs
  unfold maxLen at hs
  by_cases hb : s.size ≤ 1000
  · have d1 : decide ((1000 : Int) < s.size) = false := by simp; omega
    have CG := Lib.hid (fun W => fget_any s a W HS.out)
    by_cases he : (fGet s a).2.2 = 0
    · obtain ⟨⟨⟨ty, d⟩, tt, er⟩, hr⟩ : ∃ r, fGet s a = r := ⟨_, rfl⟩
      rw [hr] at he
      simp only at he
      subst he
      obtain ⟨x, t, rfl, rfl, hxt, hts, hE, hext⟩ := fGet_only hr
      rw [hr] at CG
      unfold FV at CG
      simp only at CG
      have hd := (fE_ok hE).2.2
      have CP := Lib.hid (fun W => fput_any ty d W (by omega))
      rw [fS_good hE, hE, ← hext] at CP
      have e0 : decide ((x : Int) < 0) = false := by simp
      have e1 : decide ((t : Int) ≤ x) = false := by simp; omega
      have e2 : decide ((s.size : Int) < t) = false := by simp; omega
      have e2' : decide (s.size < t) = false := by simp; omega
      have e1' : decide (t ≤ x) = false := by simp; omega
      have f1 : x ≤ t := by omega
      have f2 : (x : Int) ≤ (t : Int) := by omega
      have f3 : (t : Int) ≤ (s.size : Int) := by omega
      clear hr hext hE hd hb
      go_enter Try.func6, Try.ntmps6
      go_wp2_with fail
      refine (fworks_any _).mono ?_
      rintro e w1 ⟨rfl, hb1⟩
      go_wp2_with fail
      refine (CG.out _).mono ?_
      rintro e w2 ⟨rfl, hb2⟩
      have hX2 := (show two (w2.alloc (.cells #[.int .i64 ty, .string d] 23)) w2.heap.size ty d from heap_alloc_new w2 _)
      have HB3 := Lib.hid ((later hb1 hb2).alloc (later hb1 hb2).size (.cells #[.int .i64 ty, .string d] 23))
      clear hb1 hb2
      go_wp2_with fail
      generalize w2.alloc (.cells #[.int .i64 ty, .string d] 23) = W3 at hX2 HB3 ⊢
      refine (CP.out _).mono ?_
      rintro e w4 ⟨rfl, hb4⟩
      have HB5 := Lib.hid (later HB3.out hb4)
      clear hb4
      go_wp2_with fail
      go_ret
      exact ⟨ret_bool (by simp), HB5.out⟩
    · have hne : (((fGet s a).2.2 : Int) == 0) = false := by simp; omega
      rw [fGet_err he] at CG
      unfold FV fNo at CG
      simp only at CG
      generalize (fGet s a).2.2 = er at CG hne
      clear he hb hs
      go_enter Try.func6, Try.ntmps6
      go_wp2_with fail
      refine (fworks_any _).mono ?_
      rintro e w1 ⟨rfl, hb1⟩
      go_wp2_with fail
      refine (CG.out _).mono ?_
      rintro e w2 ⟨rfl, hb2⟩
      have HB3 := Lib.hid ((later hb1 hb2).alloc (later hb1 hb2).size (.cells #[.int .i64 0, .string ⟨#[]⟩] 23))
      clear hb1 hb2
      go_wp2_with fail
      go_ret
      exact ⟨ret_bool (by simp), HB3.out⟩
  · have d1 : decide ((1000 : Int) < s.size) = true := by simp; omega
    clear hb
    go_enter Try.func6, Try.ntmps6
    go_wp2_with fail
    refine (fworks_any _).mono ?_
    rintro e w1 ⟨rfl, hb1⟩
    go_wp2_with fail
    go_ret
    exact ⟨rfl, hb1⟩
end Go.Proofs.Ytbgghgeiiefopaa

