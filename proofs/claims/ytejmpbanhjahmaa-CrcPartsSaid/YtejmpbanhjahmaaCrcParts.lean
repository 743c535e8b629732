/- The walk of the law CrcParts. No conditions. -/
import Derived.Test.YtejmpbanhjahmaaCrcSums
namespace Go.Proofs.Ytejmpbanhjahmaa
set_option linter.unusedVariables false
open Go Go.RowKit

/-- below n, and the tables at b and c -/
def Keeps2 (n b c : Nat) (w w' : World) : Prop := Below n w w' ∧ n ≤ w'.heap.size ∧ Tab w' b ∧ Tab w' c
theorem Keeps2.fst {n b c : Nat} {w w' : World} (h : Keeps2 n b c w w') : Tab w' b := h.2.2.1
theorem Keeps2.snd {n b c : Nat} {w w' : World} (h : Keeps2 n b c w w') : Tab w' c := h.2.2.2
theorem Keeps2.under {n b c : Nat} {w w' : World} (h : Keeps2 n b c w w') : Below n w w' := h.1
theorem Keeps2.below {n b c : Nat} {w w' w2 : World} (h : Keeps2 n b c w w') (hb : Below w'.heap.size w' w2) : Keeps2 n b c w w2 := ⟨h.1.trans (hb.mono h.2.1), Nat.le_trans h.2.1 hb.size, h.2.2.1.later hb, h.2.2.2.later hb⟩
theorem Keeps2.onlyL {n b c : Nat} {w w' w2 : World} (hn : n ≤ b) (hne : b < c) (h : Keeps2 n b c w w') (hT : Tab w2 b) (ho : Only b w' w2) : Keeps2 n b c w w2 := ⟨h.1.trans (ho.below hn h.2.1), Nat.le_trans h.2.1 ho.size, hT, h.2.2.2.only ho (by omega)⟩
theorem Keeps2.onlyR {n b c : Nat} {w w' w2 : World} (hn : n ≤ b) (hne : b < c) (h : Keeps2 n b c w w') (hT : Tab w2 c) (ho : Only c w' w2) : Keeps2 n b c w w2 := ⟨h.1.trans (ho.below (by omega) h.2.1), Nat.le_trans h.2.1 ho.size, h.2.2.1.only ho (by omega), hT⟩

set_option maxRecDepth 100000 in
set_option maxHeartbeats 8000000 in
theorem parts_in (a b tl : ByteArray) (w : World) (ha : a.size ≤ 2000) (hb : b.size ≤ 2000) (ht : tl.size ≤ 2000) :
    Calls Try.prog 8 #[.string a, .string b, .string tl] w fun e w' => e = .returned (.bool true) ∧ Below w.heap.size w w' := by
  have d1 : decide ((2000 : Int) < a.size) = false := by simp; omega
  have d2 : decide ((2000 : Int) < b.size) = false := by simp; omega
  have d3 : decide ((2000 : Int) < tl.size) = false := by simp; omega
  have za : a.size ≤ 9223372036854775807 := by omega
  have zb : b.size ≤ 9223372036854775807 := by omega
  have zab : a.size + b.size ≤ 9223372036854775807 := by omega
  have zat : a.size + tl.size ≤ 9223372036854775807 := by omega
  obtain ⟨t, htt⟩ : ∃ t, strOf (crcTail a.data.toList) = t := ⟨_, rfl⟩
  have htl : t.data.toList = crcTail a.data.toList := by rw [← htt]; rfl
  obtain ⟨c, hc⟩ : ∃ c, crcSum a.data.toList = c := ⟨_, rfl⟩
  have hcl : c < 4294967296 := by rw [← hc]; exact crcSum_lt _
  obtain ⟨f, hf⟩ : ∃ f, crcSum (a ++ b).data.toList = f := ⟨_, rfl⟩
  have hab : (a ++ b).data.toList = a.data.toList ++ b.data.toList := by simp
  have hf2 : crcRun (c ^^^ 4294967295) b.data.toList ^^^ 4294967295 = f := by
    rw [← hf, hab]; unfold crcSum; rw [crcRun_append, ← hc]; unfold crcSum; rw [Nat.xor_assoc, Nat.xor_self, Nat.xor_zero]
  obtain ⟨g, hg⟩ : ∃ g, c ^^^ 4294967295 = g := ⟨_, rfl⟩
  have hgl : g < 4294967296 := by rw [← hg]; exact Nat.xor_lt_two_pow (n := 32) hcl (by decide)
  have n1 := not32 c hcl
  rw [hg] at n1 hf2
  have CS := fun bt W hT => tsum_any bt a W hT za
  rw [hc] at CS
  have CF := fun W => sum_any (a ++ b) W (by rw [ByteArray.size_append]; omega)
  rw [hf] at CF
  have CT := fun W => tail_any a W za
  rw [htt] at CT
  have CG := fun W => good_any (a ++ tl) W (by rw [ByteArray.size_append]; omega)
  have hat : (a ++ tl).data.toList = a.data.toList ++ tl.data.toList := by simp
  have hgood : tl.size = 4 → crcGood (a ++ tl).data.toList = (tl.toList == t.toList) := fun h4 => by
    rw [hat, crcGood_append _ _ (by simpa using h4), beq_str, htl, Bool.eq_iff_iff, decide_eq_true_eq, decide_eq_true_eq]
    exact ⟨fun h => h.symm, fun h => h.symm⟩
  have HCS := Lib.hid CS
  have HCF := Lib.hid CF
  have HCT := Lib.hid CT
  have HCG := Lib.hid CG
  have HGD := Lib.hid hgood
  have HF2 := Lib.hid hf2
  clear CS CF CT CG hgood hf2 hg hf hc htt htl hab hat za
  go_enter Try.func8, Try.ntmps8
  go_wp2_with fail
  refine (crcworks_any _).mono ?_
  rintro e w1 ⟨rfl, hb1⟩
  go_wp2_with fail
  refine (new_any _).mono ?_
  rintro e w2 ⟨rfl, hT2, hb2, hz2⟩
  have hz2' := Lib.hid hz2
  clear hz2
  go_wp2_with fail
  refine (new_any _).mono ?_
  rintro e w3 ⟨rfl, hT3, hb3, hz3⟩
  have hlt : w1.heap.size < w2.heap.size := by have := hz2'.out; omega
  have hK : Keeps2 w1.heap.size w1.heap.size w2.heap.size w1 w3 := ⟨hb2.trans (hb3.mono hb2.size), by have := hz3; omega, hT2.later hb3, hT3⟩
  clear hT2 hT3 hb2 hb3 hz3
  go_wp2_with fail
  refine (HCS.out _ _ hK.fst).mono ?_
  rintro e w4 ⟨rfl, hT4, ho4⟩
  have hK4 := Keeps2.onlyL (Nat.le_refl _) hlt hK hT4 ho4
  clear hT4 ho4 hK
  go_wp2_with fail
  go_loopw [10, 11] (fun y i wr => ∃ k : Nat, k ≤ b.size ∧ i = .int .i64 k ∧ y = .int .u32 (crcRun g (b.data.toList.take k) : Nat) ∧ Keeps2 w1.heap.size w1.heap.size w2.heap.size w1 wr) (fun _ i _ => b.size - (intOf i).toNat)
  case atStart => exact ⟨0, by omega, rfl, rfl, hK4⟩
  case round =>
    obtain ⟨k, hk, rfl, rfl, hKr⟩ := hrel
    obtain ⟨m, hm⟩ : ∃ m, crcRun g (b.data.toList.take k) = m := ⟨_, rfl⟩
    have hml : m < 4294967296 := by rw [← hm]; exact crcRun_lt hgl _
    clear hK4
    by_cases hltk : k < b.size
    · have hsn := crcRun_take g b k hltk
      rw [hm] at hsn ⊢
      have HN := Lib.hid hsn
      clear hsn hm
      by_cases hpar : k % 2 = 0
      · have hp1 : ((k : Int) % 2 == 0) = true := by simp; omega
        have hp2 : ((k : Int).tmod 2 == 0) = true := by rw [Int.tmod_eq_emod_of_nonneg (by omega)]; exact hp1
        clear hpar
        go_wp2_with (go_at_call 14; refine (next_any _ m _ _ hKr.fst hml (u8lt _)).mono ?_; rintro e W ⟨rfl, hT5, ho5⟩)
        go_roundw
        case rel => exact ⟨k + 1, by omega, by go_num, by rw [HN.out], Keeps2.onlyL (Nat.le_refl _) hlt hKr hT5 ho5⟩
        case measure => simp [intOf]; omega
      · have hp1 : ((k : Int) % 2 == 0) = false := by simp; omega
        have hp2 : ((k : Int).tmod 2 == 0) = false := by rw [Int.tmod_eq_emod_of_nonneg (by omega)]; exact hp1
        clear hpar
        go_wp2_with (go_at_call 14; refine (next_any _ m _ _ hKr.snd hml (u8lt _)).mono ?_; rintro e W ⟨rfl, hT5, ho5⟩)
        go_roundw
        case rel => exact ⟨k + 1, by omega, by go_num, by rw [HN.out], Keeps2.onlyR (Nat.le_refl _) hlt hKr hT5 ho5⟩
        case measure => simp [intOf]; omega
    · obtain rfl : k = b.size := by omega
      rw [hm]
      rw [List.take_of_length_le (by simp)] at hm
      have n2 := not32 m hml
      rw [show m ^^^ 4294967295 = f by rw [← hm]; exact HF2.out] at n2
      clear hm
      by_cases h4 : tl.size = 4
      · have h41 : (!((tl.size : Int) == 4)) = false := by rw [h4]; rfl
        have h42 : ((tl.size : Int) != 4) = false := by rw [h4]; rfl
        have hgd := HGD.out h4
        have CG2 := HCG.out
        rw [hgd] at CG2
        have HCG2 := Lib.hid CG2
        clear CG2 hgd h4
        go_wp2_with fail
        refine (HCF.out _).mono ?_
        rintro e w5 ⟨rfl, hb5⟩
        have hK5 := hKr.below hb5
        clear hb5 hKr
        go_wp2_with fail
        refine (HCG2.out _).mono ?_
        rintro e w6 ⟨rfl, hb6⟩
        have hK6 := hK5.below hb6
        clear hb6 hK5
        go_wp2_with fail
        refine (HCT.out _).mono ?_
        rintro e w7 ⟨rfl, hb7⟩
        have hK7 := hK6.below hb7
        clear hb7 hK6
        go_wp2_with fail
        all_goals go_ret
        all_goals exact ⟨cret (by first | rfl | simp), cthen hb1 hK7.under⟩
      · have h41 : (!((tl.size : Int) == 4)) = true := by simp; omega
        have h42 : ((tl.size : Int) != 4) = true := by simp; omega
        clear h4
        go_wp2_with fail
        refine (HCF.out _).mono ?_
        rintro e w5 ⟨rfl, hb5⟩
        have hK5 := hKr.below hb5
        clear hb5 hKr
        go_wp2_with fail
        all_goals go_ret
        all_goals exact ⟨cret (by first | rfl | simp), cthen hb1 hK5.under⟩

set_option maxRecDepth 100000 in
set_option maxHeartbeats 4000000 in
theorem walk_cparts (a b tl : ByteArray) (w : World) (ha : a.size ≤ maxLen) (hb : b.size ≤ maxLen) (ht : tl.size ≤ maxLen) :
    Calls Try.prog 8 #[.string a, .string b, .string tl] w fun e w' => e = .returned (.bool true) ∧ Below w.heap.size w w' := by
  unfold maxLen at ha hb ht
  by_cases h1 : a.size ≤ 2000
  · have d1 : decide ((2000 : Int) < a.size) = false := by simp; omega
    by_cases h2 : b.size ≤ 2000
    · have d2 : decide ((2000 : Int) < b.size) = false := by simp; omega
      by_cases h3 : tl.size ≤ 2000
      · exact parts_in a b tl w h1 h2 h3
      · have d3 : decide ((2000 : Int) < tl.size) = true := by simp; omega
        go_enter Try.func8, Try.ntmps8
        go_wp2_with fail
        refine (crcworks_any _).mono ?_
        rintro e w1 ⟨rfl, hb1⟩
        go_wp2_with fail
        go_ret
        exact ⟨rfl, hb1⟩
    · have d2 : decide ((2000 : Int) < b.size) = true := by simp; omega
      go_enter Try.func8, Try.ntmps8
      go_wp2_with fail
      refine (crcworks_any _).mono ?_
      rintro e w1 ⟨rfl, hb1⟩
      go_wp2_with fail
      go_ret
      exact ⟨rfl, hb1⟩
  · have d1 : decide ((2000 : Int) < a.size) = true := by simp; omega
    go_enter Try.func8, Try.ntmps8
    go_wp2_with fail
    refine (crcworks_any _).mono ?_
    rintro e w1 ⟨rfl, hb1⟩
    go_wp2_with fail
    go_ret
    exact ⟨rfl, hb1⟩
end Go.Proofs.Ytejmpbanhjahmaa
