/- The walks of the laws CrcSums and CrcNext. No conditions. -/
import Derived.Test.YtejmpbanhjahmaaCrcWorks
import Derived.Test.YtejmpbanhjahmaaCrcRef
namespace Go.Proofs.Ytejmpbanhjahmaa
set_option linter.unusedVariables false
open Go Go.RowKit

theorem cret {b : Bool} (h : b = true) : Ending.returned (.bool b) = .returned (.bool true) := by rw [h]
theorem wfU32 {c : Int} (h : (Lit.int .u32 c).wf = true) : ∃ n : Nat, c = n ∧ n < 4294967296 := by
  have : 0 ≤ c ∧ c ≤ 4294967295 := by simpa [Lit.wf, IntKind.min, IntKind.max, IntKind.signed, IntKind.bits] using h
  exact ⟨c.toNat, by omega, by omega⟩
theorem wfU8 {c : Int} (h : (Lit.int .u8 c).wf = true) : ∃ n : Nat, c = n ∧ n < 256 := by
  have : 0 ≤ c ∧ c ≤ 255 := by simpa [Lit.wf, IntKind.min, IntKind.max, IntKind.signed, IntKind.bits] using h
  exact ⟨c.toNat, by omega, by omega⟩
theorem wfI64 {c : Int} (h : (Lit.int .i64 c).wf = true) : -9223372036854775808 ≤ c ∧ c ≤ 9223372036854775807 := by
  simpa [Lit.wf, IntKind.min, IntKind.max, IntKind.signed, IntKind.bits] using h

set_option maxRecDepth 100000 in
set_option maxHeartbeats 4000000 in
theorem walk_csums (s : ByteArray) (c x : Int) (w : World) (hs : s.size ≤ maxLen) (hc : (Lit.int .u32 c).wf = true) (hx : (Lit.int .u8 x).wf = true) :
    Calls Try.prog 3 #[.string s, .int .u32 c, .int .u8 x] w fun e w' => e = .returned (.bool true) ∧ Below w.heap.size w w' := by
  unfold maxLen at hs
  obtain ⟨c, rfl, hcl⟩ := wfU32 hc
  obtain ⟨x, rfl, hxl⟩ := wfU8 hx
  clear hc hx
  by_cases hb : s.size ≤ 2000
  · go_enter Try.func3, Try.ntmps3
    go_wp2_with fail
    refine (crcworks_any _).mono ?_
    rintro e w1 ⟨rfl, hb1⟩
    go_wp2_with fail
    refine (new_any _).mono ?_
    rintro e w2 ⟨rfl, hT2, hb2, hz2⟩
    have hK : Keeps w1.heap.size w1.heap.size w1 w2 := ⟨hb2, hb2.size, hT2⟩
    clear hT2 hb2 hz2
    go_wp2_with (first
      | (go_at_call 11; refine (rsum_any _ _ (by assumption)).mono ?_; rintro e w3 ⟨rfl, rfl⟩)
      | (go_at_call 15; refine (rnext_any _ _ _ (by assumption) (by assumption)).mono ?_; rintro e w3 ⟨rfl, rfl⟩)
      | (go_at_call 17; refine (rtail_any _ _ (by assumption)).mono ?_; rintro e w3 ⟨rfl, hb3⟩; have hK3 := Keeps.below (by assumption) hb3; clear hb3)
      | (go_at_call 19; refine (rgood_any _ _ (by assumption)).mono ?_; rintro e w3 ⟨rfl, hb3⟩; have hK3 := Keeps.below (by assumption) hb3; clear hb3)
      | (go_at_call 12; refine (sum_any _ _ (by assumption)).mono ?_; rintro e w3 ⟨rfl, hb3⟩; have hK3 := Keeps.below (by assumption) hb3; clear hb3)
      | (go_at_call 16; refine (tail_any _ _ (by assumption)).mono ?_; rintro e w3 ⟨rfl, hb3⟩; have hK3 := Keeps.below (by assumption) hb3; clear hb3)
      | (go_at_call 18; refine (good_any _ _ (by assumption)).mono ?_; rintro e w3 ⟨rfl, hb3⟩; have hK3 := Keeps.below (by assumption) hb3; clear hb3)
      | (go_at_call 13; refine (tsum_any _ _ _ (Keeps.tab (by assumption)) (by assumption)).mono ?_; rintro e w3 ⟨rfl, hT3, ho3⟩; have hK3 := Keeps.only (Nat.le_refl _) (by assumption) hT3 ho3; clear hT3 ho3)
      | (go_at_call 14; refine (next_any _ _ _ _ (Keeps.tab (by assumption)) (by assumption) (by assumption)).mono ?_; rintro e w3 ⟨rfl, hT3, ho3⟩; have hK3 := Keeps.only (Nat.le_refl _) (by assumption) hT3 ho3; clear hT3 ho3))
    all_goals go_ret
    all_goals exact ⟨cret (by simp), cthen hb1 (Keeps.under (by assumption))⟩
  · go_enter Try.func3, Try.ntmps3
    go_wp2_with fail
    refine (crcworks_any _).mono ?_
    rintro e w1 ⟨rfl, hb1⟩
    go_wp2_with fail
    go_ret
    exact ⟨rfl, hb1⟩

theorem bb_xor {a b : Nat} (ha : a < 4294967296) (hb : b < 4294967296) : bits BinOp.xor IntKind.u32 (a : Int) (b : Int) = ((a ^^^ b : Nat) : Int) := u32_xor_nat a b ha hb
set_option maxRecDepth 100000 in
set_option maxHeartbeats 4000000 in
theorem walk_cnext (c d x : Int) (w : World) (hc : (Lit.int .u32 c).wf = true) (hd : (Lit.int .u32 d).wf = true) (hx : (Lit.int .u8 x).wf = true) :
    Calls Try.prog 7 #[.int .u32 c, .int .u32 d, .int .u8 x] w fun e w' => e = .returned (.bool true) ∧ Below w.heap.size w w' := by
  obtain ⟨c, rfl, hcl⟩ := wfU32 hc
  obtain ⟨d, rfl, hdl⟩ := wfU32 hd
  obtain ⟨x, rfl, hxl⟩ := wfU8 hx
  clear hc hd hx
  obtain ⟨p, hp⟩ : ∃ p, crcNext c x = p := ⟨_, rfl⟩
  obtain ⟨q, hq⟩ : ∃ q, crcNext d x = q := ⟨_, rfl⟩
  obtain ⟨z, hz⟩ : ∃ z, crcNext 0 x = z := ⟨_, rfl⟩
  obtain ⟨m, hm⟩ : ∃ m, c ^^^ d = m := ⟨_, rfl⟩
  have hpl : p < 4294967296 := by rw [← hp]; exact crcNext_lt hcl hxl
  have hql : q < 4294967296 := by rw [← hq]; exact crcNext_lt hdl hxl
  have hzl : z < 4294967296 := by rw [← hz]; exact crcNext_lt (by omega) hxl
  have hml : m < 4294967296 := by rw [← hm]; exact Nat.xor_lt_two_pow (n := 32) hcl hdl
  have x1 := bb_xor hcl hdl
  rw [hm] at x1
  obtain ⟨pq, hpq⟩ : ∃ pq, p ^^^ q = pq := ⟨_, rfl⟩
  have hpql : pq < 4294967296 := by rw [← hpq]; exact Nat.xor_lt_two_pow (n := 32) hpl hql
  have x2 := bb_xor hpl hql
  rw [hpq] at x2
  have x3 := bb_xor hpql hzl
  have hfin : crcNext m x = pq ^^^ z := by rw [← hm, crcNext_both, hp, hq, hz, hpq]
  rw [← hfin] at x3
  have hiff : ((p : Int) == (q : Int)) = ((c : Int) == (d : Int)) := by
    have := crcNext_inj hcl hdl hxl
    rw [hp, hq] at this
    rw [Bool.eq_iff_iff]; simp only [beq_iff_eq]; omega
  have hself : (((c : Int) == (d : Int)) == ((c : Int) == (d : Int))) = true := by simp
  have HP := Lib.hid hp
  have HQ := Lib.hid hq
  have HZ := Lib.hid hz
  clear hp hq hz hm hpq hfin
  go_enter Try.func7, Try.ntmps7
  go_wp2_with fail
  refine (crcworks_any _).mono ?_
  rintro e w1 ⟨rfl, hb1⟩
  go_wp2_with fail
  refine (new_any _).mono ?_
  rintro e w2 ⟨rfl, hT2, hb2, hz2⟩
  have hK : Keeps w1.heap.size w1.heap.size w1 w2 := ⟨hb2, hb2.size, hT2⟩
  clear hT2 hb2 hz2
  go_wp2_with fail
  refine (next_any _ c x _ (Keeps.tab (by assumption)) (by assumption) (by assumption)).mono ?_
  rintro e w3 ⟨rfl, hT3, ho3⟩
  have hK3 := Keeps.only (Nat.le_refl _) hK hT3 ho3
  clear hT3 ho3 hK
  rw [HP.out]
  go_wp2_with fail
  refine (next_any _ d x _ (Keeps.tab (by assumption)) (by assumption) (by assumption)).mono ?_
  rintro e w4 ⟨rfl, hT4, ho4⟩
  have hK4 := Keeps.only (Nat.le_refl _) hK3 hT4 ho4
  clear hT4 ho4 hK3
  rw [HQ.out]
  go_wp2_with fail
  refine (next_any _ m x _ (Keeps.tab (by assumption)) (by assumption) (by assumption)).mono ?_
  rintro e w5 ⟨rfl, hT5, ho5⟩
  have hK5 := Keeps.only (Nat.le_refl _) hK4 hT5 ho5
  clear hT5 ho5 hK4
  go_wp2_with fail
  refine (next_any _ 0 x _ (Keeps.tab (by assumption)) (by decide) (by assumption)).mono ?_
  rintro e w6 ⟨rfl, hT6, ho6⟩
  have hK6 := Keeps.only (Nat.le_refl _) hK5 hT6 ho6
  clear hT6 ho6 hK5
  rw [HZ.out]
  go_wp2_with fail
  go_ret
  exact ⟨cret (by first | rfl | simp), cthen hb1 hK6.under⟩
end Go.Proofs.Ytejmpbanhjahmaa
