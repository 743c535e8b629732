/- The walk of the law CrcSteps. No conditions. -/
import Derived.Test.YtejmpbanhjahmaaCrcSums
namespace Go.Proofs.Ytejmpbanhjahmaa
set_option linter.unusedVariables false
open Go Go.RowKit

theorem bcellC {W w1 : World} (hb : Below W.heap.size W w1) : (∀ b o, b < W.heap.size → w1.cell? ⟨b, o, none⟩ = W.cell? ⟨b, o, none⟩) ∧ (∀ b o, b < W.heap.size → w1.frozen? ⟨b, o, none⟩ = W.frozen? ⟨b, o, none⟩) :=
  ⟨fun b o h => hb.cell (p := ⟨b, o, none⟩) h, fun b o h => hb.frozen (p := ⟨b, o, none⟩) h⟩
theorem ocellC {c : Nat} {W w1 : World} (hb : Only c W w1) : ∀ b o, c < b → b < W.heap.size → w1.cell? ⟨b, o, none⟩ = W.cell? ⟨b, o, none⟩ :=
  fun b o h h2 => World.cell?_of_block (w := W) (a := ⟨b, o, none⟩) (hb.block b h2 (by omega))
theorem conv1c (x : Nat) (hx : x < 256) (B : Nat) (W : World) (h : W.cell? ⟨B, 0, none⟩ = some (.int .u8 x)) :
    (convert 31 9 (.slice (some ⟨B, 0, none⟩) 1 1)).run Try.prog W = .ok (.string (strOf [UInt8.ofNat x])) W := by
  have hc := run_convert_bytes_back (P := Try.prog) W 31 9 5 ⟨B, 0, none⟩ 1 [UInt8.ofNat x] Try.underlying31 Try.underlying5 Try.underlying9 (fun j hj => by
    simp only [List.length_cons, List.length_nil, Nat.zero_add, Nat.lt_one_iff] at hj
    subst hj
    rw [show ((⟨B, 0, none⟩ : Addr).add 0) = ⟨B, 0, none⟩ by rfl, h, List.getElem_cons_zero, ofNat_lt hx])
  exact hc
set_option maxRecDepth 100000 in
set_option maxHeartbeats 8000000 in
theorem steps_in (s : ByteArray) (b : Nat) (w : World) (hs : s.size ≤ 2000) (hb : b < 256) :
    Calls Try.prog 4 #[.string s, .int .u8 b] w fun e w' => e = .returned (.bool true) ∧ Below w.heap.size w w' := by
  obtain ⟨t, ht⟩ : ∃ t, strOf (crcTail s.data.toList) = t := ⟨_, rfl⟩
  have htl : t.data.toList = crcTail s.data.toList := by rw [← ht]; rfl
  have htz : t.size = 4 := by rw [← ht]; rfl
  obtain ⟨c, hc⟩ : ∃ c, crcSum s.data.toList = c := ⟨_, rfl⟩
  have hcl : c < 4294967296 := by rw [← hc]; exact crcSum_lt _
  obtain ⟨u, hu⟩ : ∃ u, strOf [UInt8.ofNat b] = u := ⟨_, rfl⟩
  have huz : u.size = 1 := by rw [← hu]; rfl
  have hul : u.data.toList = [UInt8.ofNat b] := by rw [← hu]; rfl
  have hsn := crcSum_snoc s.data.toList (UInt8.ofNat b)
  rw [ofNat_lt hb, hc] at hsn
  obtain ⟨d, hd⟩ : ∃ d, c ^^^ 4294967295 = d := ⟨_, rfl⟩
  have hdl : d < 4294967296 := by rw [← hd]; exact Nat.xor_lt_two_pow (n := 32) hcl (by decide)
  obtain ⟨p, hp⟩ : ∃ p, crcNext d b = p := ⟨_, rfl⟩
  have hpl : p < 4294967296 := by rw [← hp]; exact crcNext_lt hdl hb
  obtain ⟨q, hq⟩ : ∃ q, p ^^^ 4294967295 = q := ⟨_, rfl⟩
  rw [hd, hp, hq] at hsn
  have n1 := not32 c hcl
  have n2 := not32 p hpl
  rw [hd] at n1
  rw [hq] at n2
  have n3 : bits BinOp.xor IntKind.u32 (if IntKind.u32.signed = true then -1 else IntKind.u32.max) (c : Int) = (d : Int) := n1
  have n4 : bits BinOp.xor IntKind.u32 (if IntKind.u32.signed = true then -1 else IntKind.u32.max) (p : Int) = (q : Int) := n2
  have hss : s.size ≤ 9223372036854775807 := by omega
  have tz : t.size ≤ 4 := by omega
  have tz2 : s.size + t.size ≤ 9223372036854775807 := by omega
  have uz2 : s.size + u.size ≤ 9223372036854775807 := by omega
  have tz3 : ((t.size : Int) == 4) = true := by rw [htz]; rfl
  have CS := fun W => sum_any s W hss
  rw [hc] at CS
  have CU := fun W => sum_any (s ++ u) W (by rw [ByteArray.size_append]; omega)
  have hsu : (s ++ u).data.toList = s.data.toList ++ [UInt8.ofNat b] := by rw [← hul]; simp
  rw [hsu, ← hsn] at CU
  have CT := fun W => tail_any s W hss
  rw [ht] at CT
  have CG := fun W => good_any (s ++ t) W (by rw [ByteArray.size_append]; omega)
  have hst : (s ++ t).data.toList = s.data.toList ++ crcTail s.data.toList := by rw [← htl]; simp
  rw [hst, crcGood_tail] at CG
  have CN := fun bt W hT => next_any bt d b W hT hdl hb
  rw [hp] at CN
  have hcv := conv1c b hb
  rw [hu] at hcv
  have HCS := Lib.hid CS
  have HCU := Lib.hid CU
  have HCT := Lib.hid CT
  have HCG := Lib.hid CG
  have HCN := Lib.hid CN
  clear CS CU CT CG CN hsu hst hsn hul huz htl htz ht hu hc hd hp hq hss
  have d1 : decide ((2000 : Int) < s.size) = false := by simp; omega
  go_enter Try.func4, Try.ntmps4
  go_wp2_with fail
  refine (crcworks_any _).mono ?_
  rintro e w1 ⟨rfl, hb1⟩
  go_wp2_with fail
  refine (new_any _).mono ?_
  rintro e w2 ⟨rfl, hT2, hb2, hz2⟩
  have hK : Keeps w1.heap.size w1.heap.size w1 w2 := ⟨hb2, hb2.size, hT2⟩
  clear hT2 hb2 hz2
  go_wp2_with fail
  have hz0 := hK.2.2.1.lt
  go_region_with (first
      | (go_at_call 12; first | ((with_reducible refine (HCS.out _).mono ?_); rintro e w3 ⟨rfl, hb3⟩; have hK3 := Keeps.below (by repeat (first | assumption | (with_reducible apply Keeps.drew) | (with_reducible apply Keeps.alloc))) hb3; have hz3 := hb3.size; (try rw [World.size_drew] at hz3); (try rw [World.size_alloc] at hz3); (try have hzl := Nat.lt_of_succ_le hz3); have hl3 := hK3.2.2.1.lt; obtain ⟨hcc, hff⟩ := bcellC hb3; clear hb3) | ((with_reducible refine (HCU.out _).mono ?_); rintro e w3 ⟨rfl, hb3⟩; have hK3 := Keeps.below (by repeat (first | assumption | (with_reducible apply Keeps.drew) | (with_reducible apply Keeps.alloc))) hb3; have hz3 := hb3.size; (try rw [World.size_drew] at hz3); (try rw [World.size_alloc] at hz3); (try have hzl := Nat.lt_of_succ_le hz3); have hl3 := hK3.2.2.1.lt; obtain ⟨hcc, hff⟩ := bcellC hb3; clear hb3))
      | (go_at_call 16; (with_reducible refine (HCT.out _).mono ?_); rintro e w3 ⟨rfl, hb3⟩; have hK3 := Keeps.below (by repeat (first | assumption | (with_reducible apply Keeps.drew) | (with_reducible apply Keeps.alloc))) hb3; have hz3 := hb3.size; (try rw [World.size_drew] at hz3); (try rw [World.size_alloc] at hz3); (try have hzl := Nat.lt_of_succ_le hz3); have hl3 := hK3.2.2.1.lt; obtain ⟨hcc, hff⟩ := bcellC hb3; clear hb3)
      | (go_at_call 18; (with_reducible refine (HCG.out _).mono ?_); rintro e w3 ⟨rfl, hb3⟩; have hK3 := Keeps.below (by repeat (first | assumption | (with_reducible apply Keeps.drew) | (with_reducible apply Keeps.alloc))) hb3; have hz3 := hb3.size; (try rw [World.size_drew] at hz3); (try rw [World.size_alloc] at hz3); (try have hzl := Nat.lt_of_succ_le hz3); have hl3 := hK3.2.2.1.lt; obtain ⟨hcc, hff⟩ := bcellC hb3; clear hb3)
      | (go_at_call 14; (with_reducible refine (HCN.out _ _ (Keeps.tab (by repeat (first | assumption | (with_reducible apply Keeps.drew) | (with_reducible apply Keeps.alloc))))).mono ?_); rintro e w3 ⟨rfl, hT3, ho3⟩; have hK3 := Keeps.only (Nat.le_refl _) (by repeat (first | assumption | (with_reducible apply Keeps.drew) | (with_reducible apply Keeps.alloc))) hT3 ho3; have hz3 := ho3.size; (try rw [World.size_drew] at hz3); (try rw [World.size_alloc] at hz3); (try have hzl := Nat.lt_of_succ_le hz3); have hl3 := hK3.2.2.1.lt; have hcc := ocellC ho3; clear hT3 ho3))
  all_goals go_wp2_with fail
  all_goals go_ret
  all_goals exact ⟨cret (by first | rfl | simp), cthen hb1 (Keeps.under (by repeat (first | assumption | (with_reducible apply Keeps.drew) | (with_reducible apply Keeps.alloc))))⟩
set_option maxRecDepth 100000 in
set_option maxHeartbeats 4000000 in
theorem walk_csteps (s : ByteArray) (b : Int) (w : World) (hs : s.size ≤ maxLen) (hb : (Lit.int .u8 b).wf = true) :
    Calls Try.prog 4 #[.string s, .int .u8 b] w fun e w' => e = .returned (.bool true) ∧ Below w.heap.size w w' := by
  unfold maxLen at hs
  obtain ⟨b, rfl, hbl⟩ := wfU8 hb
  clear hb
  by_cases h1 : s.size ≤ 2000
  · exact steps_in s b w h1 hbl
  · have d1 : decide ((2000 : Int) < s.size) = true := by simp; omega
    go_enter Try.func4, Try.ntmps4
    go_wp2_with fail
    refine (crcworks_any _).mono ?_
    rintro e w1 ⟨rfl, hb1⟩
    go_wp2_with fail
    go_ret
    exact ⟨rfl, hb1⟩
end Go.Proofs.Ytejmpbanhjahmaa
