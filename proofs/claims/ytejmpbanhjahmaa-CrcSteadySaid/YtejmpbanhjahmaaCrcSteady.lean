/- The walk of the law CrcSteady. No conditions. -/
import Derived.Test.YtejmpbanhjahmaaCrcSums
import Derived.Deep.RegionHeld3
namespace Go.Proofs.Ytejmpbanhjahmaa
set_option linter.unusedVariables false
open Go Go.RowKit

def zip3 (a b c : List UInt8) : List UInt8 := (a.zipWith (· ^^^ ·) b).zipWith (· ^^^ ·) c
theorem zip3_snoc (a b c : ByteArray) (k : Nat) (h1 : k < a.size) (h2 : k < b.size) (h3 : k < c.size) : zip3 (a.data.toList.take (k + 1)) (b.data.toList.take (k + 1)) (c.data.toList.take (k + 1)) = zip3 (a.data.toList.take k) (b.data.toList.take k) (c.data.toList.take k) ++ [a[k] ^^^ b[k] ^^^ c[k]] := by
  have la : (a.data.toList.take k).length = k := List.length_take_of_le (by simpa using Nat.le_of_lt h1)
  have lb : (b.data.toList.take k).length = k := List.length_take_of_le (by simpa using Nat.le_of_lt h2)
  have lc : (c.data.toList.take k).length = k := List.length_take_of_le (by simpa using Nat.le_of_lt h3)
  rw [List.take_succ_eq_append_getElem (by simpa using h1), List.take_succ_eq_append_getElem (by simpa using h2), List.take_succ_eq_append_getElem (by simpa using h3)]
  unfold zip3
  rw [List.zipWith_append (by rw [la, lb]), List.zipWith_append (by rw [List.length_zipWith, la, lb, lc]; omega)]
  rfl
theorem zip3_len (a b c : ByteArray) (k : Nat) (h1 : k ≤ a.size) (h2 : k ≤ b.size) (h3 : k ≤ c.size) : (zip3 (a.data.toList.take k) (b.data.toList.take k) (c.data.toList.take k)).length = k := by
  have la : (a.data.toList.take k).length = k := List.length_take_of_le (by simpa using h1)
  have lb : (b.data.toList.take k).length = k := List.length_take_of_le (by simpa using h2)
  have lc : (c.data.toList.take k).length = k := List.length_take_of_le (by simpa using h3)
  unfold zip3; rw [List.length_zipWith, List.length_zipWith, la, lb, lc]; omega
theorem u8_xor2 (x y : UInt8) : bits BinOp.xor IntKind.u8 (x.toNat : Int) (y.toNat : Int) = ((x ^^^ y).toNat : Int) := by
  rw [u8_xor_nat _ _ (u8lt x) (u8lt y), UInt8.toNat_xor]

set_option maxRecDepth 100000 in
set_option maxHeartbeats 8000000 in
theorem steady_in (a b c : ByteArray) (w : World) (n : Nat) (ha : n ≤ 2000) (za : a.size = n) (zb : b.size = n) (zc : c.size = n) :
    Calls Try.prog 6 #[.string a, .string b, .string c] w fun e w' => e = .returned (.bool true) ∧ Below w.heap.size w w' := by
  have d1 : decide ((2000 : Int) < a.size) = false := by simp; omega
  have d2 : (!((a.size : Int) == b.size)) = false := by rw [za, zb]; simp
  have d2' : ((a.size : Int) != b.size) = false := by rw [za, zb]; simp
  have d3 : (!((a.size : Int) == c.size)) = false := by rw [za, zc]; simp
  have d3' : ((a.size : Int) != c.size) = false := by rw [za, zc]; simp
  have sa := fun W => sum_any a W (by omega)
  have sb := fun W => sum_any b W (by omega)
  have sc := fun W => sum_any c W (by omega)
  have hx := crcSum_xor3 a.data.toList b.data.toList c.data.toList (by simp; omega) (by simp; omega)
  obtain ⟨p, hp⟩ : ∃ p, crcSum a.data.toList = p := ⟨_, rfl⟩
  obtain ⟨q, hq⟩ : ∃ q, crcSum b.data.toList = q := ⟨_, rfl⟩
  obtain ⟨r, hr⟩ : ∃ r, crcSum c.data.toList = r := ⟨_, rfl⟩
  have hpl : p < 4294967296 := by rw [← hp]; exact crcSum_lt _
  have hql : q < 4294967296 := by rw [← hq]; exact crcSum_lt _
  have hrl : r < 4294967296 := by rw [← hr]; exact crcSum_lt _
  obtain ⟨pq, hpq⟩ : ∃ pq, p ^^^ q = pq := ⟨_, rfl⟩
  have hpql : pq < 4294967296 := by rw [← hpq]; exact Nat.xor_lt_two_pow (n := 32) hpl hql
  have x1 := bb_xor hpl hql
  rw [hpq] at x1
  have x2 := bb_xor hpql hrl
  rw [hp] at sa
  rw [hq] at sb
  rw [hr] at sc
  rw [hp, hq, hr, hpq] at hx
  rw [← hx] at x2
  have SA := Lib.hid sa
  have SB := Lib.hid sb
  have SC := Lib.hid sc
  have ZA := Lib.hid za
  have ZB := Lib.hid zb
  have ZC := Lib.hid zc
  have X2 := Lib.hid x2
  have la : a.size ≤ 2000 := by omega
  have lb : b.size ≤ 2000 := by omega
  have lc : c.size ≤ 2000 := by omega
  clear sa sb sc hp hq hr hpq hx x2 za zb zc
  go_enter Try.func6, Try.ntmps6
  go_wp2_with fail
  refine (crcworks_any _).mono ?_
  rintro e w1 ⟨rfl, hb1⟩
  go_wp2_with fail
  go_loopw [8, 9] (fun v i wr => ∃ k : Nat, k ≤ n ∧ i = .int .i64 k ∧ BRow wr w1.heap.size v (zip3 (a.data.toList.take k) (b.data.toList.take k) (c.data.toList.take k)) ∧ Below w1.heap.size w1 wr) (fun _ i _ => n - (intOf i).toNat)
  case atStart => exact ⟨0, by omega, rfl, BRow.nil _ _, Below.refl _ _⟩
  case round =>
    obtain ⟨k, hk, rfl, hrow, hbr⟩ := hrel
    have HB := Lib.hid hbr
    clear hbr
    by_cases hlt : k < n
    · have ka : k < a.size := by have := ZA.out; omega
      have kb : k < b.size := by have := ZB.out; omega
      have kc : k < c.size := by have := ZC.out; omega
      have kai : (k : Int) < a.size := by omega
      have kbi : (k : Int) < b.size := by omega
      have kci : (k : Int) < c.size := by omega
      have k0 : (0 : Int) ≤ k := by omega
      have HS := Lib.hid (zip3_snoc a b c k ka kb kc)
      have HL := Lib.hid (zip3_len a b c k (by omega) (by omega) (by omega))
      have y1 := u8_xor_nat a[k].toNat b[k].toNat (u8lt _) (u8lt _)
      have y2 := u8_xor_nat (a[k].toNat ^^^ b[k].toNat) c[k].toNat (Nat.xor_lt_two_pow (n := 8) (u8lt _) (u8lt _)) (u8lt _)
      generalize hLL : zip3 (a.data.toList.take k) (b.data.toList.take k) (c.data.toList.take k) = L at hrow HS HL
      have HROW := Lib.hid hrow
      clear hLL hrow
      go_wp2_with fail
      have hb0 := HB.out
      go_region_held3 (fun w' => Below w1.heap.size w1 w') (first | assumption | exact HB.out.drew | exact (HB.out.alloc HB.out.size _).drew | exact HB.out.alloc HB.out.size _)
        ((refine step_append_byte (by rfl) (.tmp 37) (.tmp 49) (by rfl) w1.heap.size _ L (by rfl) ((HROW.out.alloc _).drew) (a[k] ^^^ b[k] ^^^ c[k]) ((a[k].toNat ^^^ b[k].toNat ^^^ c[k].toNat : Nat) : Int) (by simp [UInt8.toNat_xor]) wr.heap.size (by rfl) (by simp) (by have := HB.out.size; simp; omega) (by rw [HL.out]; omega) ?_; intro v' w' hown hg hbn; have hbn2 := ((HB.out.alloc HB.out.size _).drew).trans hbn; clear hg hbn))
      all_goals go_wp2_with fail
      all_goals go_roundw
      all_goals first | (simp [intOf]; omega) | exact ⟨k + 1, by omega, by go_num, by rw [HS.out]; exact hown, hbn2⟩
    · obtain rfl : k = n := by omega
      have kd : decide ((k : Int) < a.size) = false := by have := ZA.out; simp; omega
      have kd2 : decide (k < a.size) = false := by have := ZA.out; simp; omega
      rw [List.take_of_length_le (by have := ZA.out; simp; omega), List.take_of_length_le (by have := ZB.out; simp; omega), List.take_of_length_le (by have := ZC.out; simp; omega)] at hrow
      have hcv := hrow.conv
      obtain ⟨x, hx⟩ : ∃ x, bStr (zip3 a.data.toList b.data.toList c.data.toList) = x := ⟨_, rfl⟩
      have hxl : x.data.toList = zip3 a.data.toList b.data.toList c.data.toList := by rw [← hx]; rfl
      have hxz : x.size ≤ 9223372036854775807 := by
        have h1 : x.size = x.data.toList.length := by simp
        have h2 := zip3_len a b c k (by have := ZA.out; omega) (by have := ZB.out; omega) (by have := ZC.out; omega)
        rw [List.take_of_length_le (by have := ZA.out; simp; omega), List.take_of_length_le (by have := ZB.out; simp; omega), List.take_of_length_le (by have := ZC.out; simp; omega)] at h2
        rw [h1, hxl, h2]; omega
      rw [hx] at hcv
      have CX := fun W => sum_any x W hxz
      rw [hxl] at CX
      obtain ⟨f, hf⟩ : ∃ f, crcSum (zip3 a.data.toList b.data.toList c.data.toList) = f := ⟨_, rfl⟩
      rw [hf] at CX
      have x3 : bits BinOp.xor IntKind.u32 (pq : Int) (r : Int) = (f : Int) := by rw [← hf]; exact X2.out
      have SX := Lib.hid CX
      clear CX hf hxl hx hrow
      go_wp2_with fail
      refine (SX.out _).mono ?_
      rintro e w3 ⟨rfl, hb3⟩
      go_wp2_with fail
      refine (SA.out _).mono ?_
      rintro e w4 ⟨rfl, hb4⟩
      go_wp2_with fail
      refine (SB.out _).mono ?_
      rintro e w5 ⟨rfl, hb5⟩
      go_wp2_with fail
      refine (SC.out _).mono ?_
      rintro e w6 ⟨rfl, hb6⟩
      go_wp2_with fail
      all_goals go_ret
      all_goals exact ⟨cret (by first | rfl | simp), cthen hb1 (cthen (cthen (cthen (cthen HB.out hb3) hb4) hb5) hb6)⟩

set_option maxRecDepth 100000 in
set_option maxHeartbeats 4000000 in
theorem walk_csteady (a b c : ByteArray) (w : World) (ha : a.size ≤ maxLen) (hb : b.size ≤ maxLen) (hc : c.size ≤ maxLen) :
    Calls Try.prog 6 #[.string a, .string b, .string c] w fun e w' => e = .returned (.bool true) ∧ Below w.heap.size w w' := by
  unfold maxLen at ha hb hc
  by_cases h1 : a.size ≤ 2000
  · have d1 : decide ((2000 : Int) < a.size) = false := by simp; omega
    by_cases h2 : a.size = b.size
    · by_cases h3 : a.size = c.size
      · exact steady_in a b c w a.size h1 rfl h2.symm h3.symm
      · have d2 : (!((a.size : Int) == b.size)) = false := by rw [h2]; simp
        have d2' : ((a.size : Int) != b.size) = false := by rw [h2]; simp
        have d3 : (!((a.size : Int) == c.size)) = true := by simp; omega
        have d3' : ((a.size : Int) != c.size) = true := by simp; omega
        clear h2 h3
        go_enter Try.func6, Try.ntmps6
        go_wp2_with fail
        refine (crcworks_any _).mono ?_
        rintro e w1 ⟨rfl, hb1⟩
        go_wp2_with fail
        go_ret
        exact ⟨rfl, hb1⟩
    · have d2 : (!((a.size : Int) == b.size)) = true := by simp; omega
      have d2' : ((a.size : Int) != b.size) = true := by simp; omega
      clear h2
      go_enter Try.func6, Try.ntmps6
      go_wp2_with fail
      refine (crcworks_any _).mono ?_
      rintro e w1 ⟨rfl, hb1⟩
      go_wp2_with fail
      go_ret
      exact ⟨rfl, hb1⟩
  · have d1 : decide ((2000 : Int) < a.size) = true := by simp; omega
    go_enter Try.func6, Try.ntmps6
    go_wp2_with fail
    refine (crcworks_any _).mono ?_
    rintro e w1 ⟨rfl, hb1⟩
    go_wp2_with fail
    go_ret
    exact ⟨rfl, hb1⟩
end Go.Proofs.Ytejmpbanhjahmaa

