/- The walks of the laws CrcBursts and CrcSteps. No conditions. -/
import Derived.Test.YtejmpbanhjahmaaCrcSums
import Derived.Test.YtejmpbanhjahmaaCrcTurnWalk
namespace Go.Proofs.Ytejmpbanhjahmaa
set_option linter.unusedVariables false
open Go Go.RowKit

set_option maxRecDepth 100000 in
set_option maxHeartbeats 4000000 in
theorem bursts_in (s : ByteArray) (a m : Nat) (w : World) (hs : s.size ≤ 2000) (ha : a ≤ 9223372036854775807) (hm : m < 4294967296) :
    Calls Try.prog 5 #[.string s, .int .i64 a, .int .u32 m] w fun e w' => e = .returned (.bool true) ∧ Below w.heap.size w w' := by
  obtain ⟨t, ht⟩ : ∃ t, strOf (crcTail s.data.toList) = t := ⟨_, rfl⟩
  have htl : t.data.toList = crcTail s.data.toList := by rw [← ht]; rfl
  have htz : t.size = 4 := by rw [← ht]; rfl
  have HT := Lib.hid ht
  have HTL := Lib.hid htl
  have HTZ := Lib.hid htz
  have tz : t.size ≤ 4 := by omega
  have tz2 : s.size + t.size ≤ 9223372036854775807 := by omega
  clear ht htl htz
  have hss : s.size ≤ 9223372036854775807 := by omega
  have d1 : decide ((2000 : Int) < s.size) = false := by simp; omega
  have d2 : decide ((a : Int) < 0) = false := by simp
  go_enter Try.func5, Try.ntmps5
  go_wp2_with fail
  refine (crcworks_any _).mono ?_
  rintro e w1 ⟨rfl, hb1⟩
  go_wp2_with fail
  refine (tail_any _ _ hss).mono ?_
  rintro e w2 ⟨rfl, hb2⟩
  rw [HT.out]
  go_wp2_with fail
  refine (turn_any _ a m _ (by rw [ByteArray.size_append, HTZ.out]; omega) ha hm).mono ?_
  rintro e w3 ⟨⟨l, hl, rfl⟩, hb3⟩
  obtain ⟨x, hx⟩ : ∃ x, bStr l = x := ⟨_, rfl⟩
  have hxl : x.data.toList = l := by rw [← hx]; rfl
  have hsl : (s ++ t).data.toList = s.data.toList ++ crcTail s.data.toList := by rw [← HTL.out]; simp
  have hxz : x.size ≤ 9223372036854775807 := by
    have h1 : x.size = l.length := by rw [← hx]; rfl
    have h2 := hl.1
    rw [hsl] at h2
    rw [h1, h2, List.length_append, crcTail_len]; simp; omega
  have hgood : crcGood l = (x.toList == (s ++ t).toList) := by
    rw [beq_str, hxl, hsl]
    rw [hsl] at hl
    have := turned_good (by rw [List.length_append, crcTail_len]; omega) (crcGood_tail _) hm hl
    rw [Bool.eq_iff_iff, this, decide_eq_true_eq]
  rw [hx]
  have CG := fun W => good_any x W hxz
  rw [hxl, hgood] at CG
  have HCG := Lib.hid CG
  clear CG hgood hxl hsl hl hx
  go_wp2_with fail
  refine (HCG.out _).mono ?_
  rintro e w4 ⟨rfl, hb4⟩
  go_wp2_with fail
  all_goals go_ret
  all_goals exact ⟨cret (by first | rfl | simp), cthen (cthen (cthen hb1 hb2) hb3) hb4⟩
set_option maxRecDepth 100000 in
set_option maxHeartbeats 4000000 in
theorem walk_cbursts (s : ByteArray) (a m : Int) (w : World) (hs : s.size ≤ maxLen) (ha : (Lit.int .i64 a).wf = true) (hm : (Lit.int .u32 m).wf = true) :
    Calls Try.prog 5 #[.string s, .int .i64 a, .int .u32 m] w fun e w' => e = .returned (.bool true) ∧ Below w.heap.size w w' := by
  unfold maxLen at hs
  obtain ⟨m, rfl, hml⟩ := wfU32 hm
  have ha2 := wfI64 ha
  clear hm ha
  by_cases h1 : s.size ≤ 2000
  · by_cases h2 : 0 ≤ a
    · obtain ⟨n, rfl⟩ := Int.eq_ofNat_of_zero_le h2
      exact bursts_in s n m w h1 (by omega) hml
    · have d1 : decide ((2000 : Int) < s.size) = false := by simp; omega
      have d2 : decide (a < 0) = true := by simp; omega
      clear ha2 h1
      go_enter Try.func5, Try.ntmps5
      go_wp2_with fail
      refine (crcworks_any _).mono ?_
      rintro e w1 ⟨rfl, hb1⟩
      go_wp2_with fail
      go_ret
      exact ⟨rfl, hb1⟩
  · have d1 : decide ((2000 : Int) < s.size) = true := by simp; omega
    clear ha2
    go_enter Try.func5, Try.ntmps5
    go_wp2_with fail
    refine (crcworks_any _).mono ?_
    rintro e w1 ⟨rfl, hb1⟩
    go_wp2_with fail
    go_ret
    exact ⟨rfl, hb1⟩
end Go.Proofs.Ytejmpbanhjahmaa
