/- The document's Seal; sections in one are just what the document says: the walks. No conditions. -/
import Derived.Test.YtanbifhhoeaofaaContRefIndex
import Derived.Test.YtanbifhhoeaofaaContBack
namespace Go.Proofs.Ytanbifhhoeaofaa
set_option linter.unusedVariables false
open Go Go.RowKit

set_option maxRecDepth 100000 in
set_option maxHeartbeats 8000000 in
theorem rseal_ok (pa : Option Addr) (c : Nat) (L : List Sec) (w : World) (hL : SecsAt w pa L) (ho : cOrd L = true) (hb : (cBytes L).length ≤ 1048576) :
    Calls Try.prog 13 #[.slice pa L.length c] w fun e w' => e = .returned (.tuple #[.string (bStr (cBytes L)), .int .i64 0]) ∧ Below w.heap.size w w' := by
  have hlen := cBytes_len L
  have hdat := data_le_cSum L
  have hcs : cSum L ≤ 1100000 := by omega
  have hm : L.length ≤ 16 := (cOrd_ok ho).2.2
  have hfe := cOrd_fE ho (by omega)
  have SE := Lib.hid (fun W (h : Below w.heap.size w W) => hL.below h (Nat.le_refl _))
  have OA := Lib.hid (fun W h => rordered_any pa c L W h (by unfold maxLen; omega))
  rw [ho] at OA
  have IX := Lib.hid (fun W h => rindex_any pa c L W h hcs)
  have HT := Lib.hid (fun k x h => cSum_snoc (L := L) (k := k) (x := x) h)
  have HU := Lib.hid (cSum_take_le L)
  have HF := Lib.hid (fun k x h => framesL_snoc (L := L) (k := k) (x := x) h)
  have HFL := Lib.hid (framesL_take_le L)
  have HZ := Lib.hid (fun (k : Nat) (x : Sec) (h : L[k]? = some x) => show x.2.size ≤ 1000000000 by have := dSum_mem (List.mem_of_getElem? h); omega)
  have HFE := Lib.hid (fun (k : Nat) (x : Sec) (h : L[k]? = some x) => hfe x (List.mem_of_getElem? h))
  have HAT := Lib.hid (fun k (h : k < L.length) => sec_at (A := L) h)
  have HE := Lib.hid (show cSum (L.take L.length) = cSum L by rw [List.take_length])
  have HR : Hid (bStr (magicL ++ framesL (L.take L.length)) ++ bStr (cIndex L) ++ strOf (crcTail (bStr (cIndex L)).data.toList) ++ bStr (bytes4 (7 + cSum L) ++ endL) = bStr (cBytes L)) := Lib.hid (by
    rw [List.take_length]
    apply ba_ext
    simp only [app_l, bStr_l]
    unfold cBytes cBehind
    simp only [List.append_assoc]
    rfl)
  have hxl : (bStr (cIndex L)).size + 7 + cSum L + 12 ≤ 1048576 := by rw [bStr_size]; omega
  generalize L.length = n at OA IX HAT HE HR hm ⊢
  generalize bStr (cIndex L) = x at IX HR hxl
  generalize bStr (cBytes L) = R at HR ⊢
  clear hL ho hb hlen hdat hfe
  go_enter Try.func13, Try.ntmps13
  go_wp2_with fail
  refine (OA.out w (SE.out w (Below.refl _ _))).mono ?_
  rintro e w1 ⟨rfl, hb1⟩
  have B1 := Lib.hid hb1
  clear hb1
  go_wp2_with fail
  go_loopw [4, 5] (fun s i wr => ∃ k : Nat, k ≤ n ∧ i = .int .i64 k ∧ s = .int .i64 (7 + cSum (L.take k) : Nat) ∧ Below w.heap.size w wr) (fun _ i _ => n - (intOf i).toNat)
  case atStart => exact ⟨0, by omega, rfl, rfl, B1.out⟩
  case round =>
    obtain ⟨k, hk, rfl, rfl, hB⟩ := hrel
    have HB := Lib.hid hB
    have hzz := hB.size
    clear hB B1
    by_cases hlt : k < n
    · obtain ⟨y, hy⟩ := HAT.out k hlt
      obtain ⟨b, off, hp, hbl, c0, c1⟩ := (SE.out wr HB.out).at hy
      have HT1 := Lib.hid (HT.out k y hy)
      have hu := HU.out (k + 1)
      rw [HT1.out] at hu
      have hz := HZ.out k y hy
      obtain ⟨ty, d⟩ := y
      simp only at c0 c1 hz
      subst hp
      have CZ := Lib.hid (fun W => rcsize_any (ty, d) W hz)
      generalize cSum (L.take k) = q at *
      generalize cSize (ty, d) = z at *
      unfold secV at CZ
      simp only at CZ
      go_wp2_with fail
      refine (CZ.out wr).mono ?_
      rintro e w4 ⟨rfl, hb4⟩
      have R1 := Lib.hid (HB.out.trans (hb4.mono hzz))
      clear hb4
      go_wp2_with fail
      go_roundw
      case rel => exact ⟨k + 1, by omega, by go_num, by rw [HT1.out]; go_num, R1.out⟩
      case measure => simp [intOf]; omega
    · obtain rfl : k = n := by omega
      rw [HE.out]
      have FT := Lib.hid (fun W => rfoot_any (7 + cSum L) W (by omega))
      generalize cSum L = q at *
      go_wp2_with fail
      refine (IX.out wr (SE.out wr HB.out)).mono ?_
      rintro e w2 ⟨rfl, hb2⟩
      have B2 := Lib.hid (HB.out.trans (hb2.mono hzz))
      clear hb2 HB
      have d1 : decide (7 + (q : Int) + (x.size : Int) + 12 > 1048576) = false := by simp; omega
      go_wp2_with fail
      go_loopw [7, 8] (fun s i wr => ∃ j : Nat, j ≤ k ∧ i = .int .i64 j ∧ s = .string (bStr (magicL ++ framesL (L.take j))) ∧ Below w.heap.size w wr) (fun _ i _ => k - (intOf i).toNat)
      case atStart => exact ⟨0, by omega, rfl, rfl, B2.out⟩
      case round =>
        obtain ⟨j, hj, rfl, rfl, hB⟩ := hrel
        have HB := Lib.hid hB
        have hzz := hB.size
        clear hB B2
        by_cases hlt : j < k
        · obtain ⟨y, hy⟩ := HAT.out j hlt
          obtain ⟨b, off, hp, hbl, c0, c1⟩ := (SE.out wr HB.out).at hy
          have hz := HZ.out j y hy
          have hfe := HFE.out j y hy
          have HF1 := Lib.hid (HF.out j y hy)
          have hfl := HFL.out j
          have hfl2 := HFL.out (j + 1)
          rw [HF1.out, List.length_append] at hfl2
          obtain ⟨ty, d⟩ := y
          simp only at c0 c1 hz hfe hfl2
          subst hp
          have FP := Lib.hid (fun W => rfput_any ty d W (by omega))
          have hfs : fS ty d = bStr (fFrame ty d) := by unfold fS; rw [if_pos hfe]
          rw [hfs, hfe] at FP
          have e1 : (bStr (magicL ++ framesL (L.take j))).size ≤ 7 + q := by rw [bStr_size, List.length_append]; show 7 + _ ≤ _; omega
          have e2 : (bStr (fFrame ty d)).size ≤ q := by rw [bStr_size]; omega
          have e3 : (bStr (magicL ++ framesL (L.take j))).size + (bStr (fFrame ty d)).size ≤ 9223372036854775807 := by omega
          have HN := Lib.hid (show bStr (magicL ++ framesL (L.take j)) ++ bStr (fFrame ty d) = bStr (magicL ++ framesL (L.take (j + 1))) by rw [bs2, HF1.out, List.append_assoc])
          generalize bStr (magicL ++ framesL (L.take j)) = S at *
          generalize bStr (fFrame ty d) = F at *
          clear hfs hfl hfl2 hfe
          go_wp2_with fail
          refine (FP.out wr).mono ?_
          rintro e w4 ⟨rfl, hb4⟩
          have R1 := Lib.hid (HB.out.trans (hb4.mono hzz))
          clear hb4
          go_wp2_with fail
          go_roundw
          case rel => exact ⟨j + 1, by omega, by go_num, by rw [HN.out], R1.out⟩
          case measure => simp [intOf]; omega
        · obtain rfl : j = k := by omega
          have hss : (bStr (magicL ++ framesL (L.take j))).size ≤ 7 + q := by have := HFL.out j; rw [bStr_size, List.length_append]; show 7 + _ ≤ _; omega
          have RT := Lib.hid (fun W => rtail_any x W (by omega))
          have htl : (strOf (crcTail x.data.toList)).size = 4 := rfl
          have hft : (bStr (bytes4 (7 + q) ++ endL)).size = 8 := rfl
          generalize bStr (magicL ++ framesL (L.take j)) = S at *
          generalize strOf (crcTail x.data.toList) = T at *
          generalize bStr (bytes4 (7 + q) ++ endL) = G at *
          have s1 : S.size + x.size ≤ 9223372036854775807 := by omega
          have s2 : (S ++ x).size + T.size ≤ 9223372036854775807 := by rw [ByteArray.size_append]; omega
          have s3 : (S ++ x ++ T).size + G.size ≤ 9223372036854775807 := by rw [ByteArray.size_append, ByteArray.size_append]; omega
          have FT1 := FT.out
          rw [show ((7 + q : Nat) : Int) = 7 + (q : Int) by omega] at FT1
          have FT2 := Lib.hid FT1
          clear FT1 htl hft
          go_wp2_with fail
          refine (RT.out wr).mono ?_
          rintro e w4 ⟨rfl, hb4⟩
          have R1 := Lib.hid (HB.out.trans (hb4.mono hzz))
          clear hb4
          go_wp2_with fail
          refine (FT2.out w4).mono ?_
          rintro e w5 ⟨rfl, hb5⟩
          have R2 := Lib.hid (R1.out.trans (hb5.mono R1.out.size))
          clear hb5
          go_wp2_with fail
          go_ret2
          exact ⟨by rw [← HR.out]; rfl, R2.out⟩
set_option maxRecDepth 100000 in
set_option maxHeartbeats 8000000 in
theorem rseal_bad (pa : Option Addr) (c : Nat) (L : List Sec) (w : World) (hL : SecsAt w pa L) (hm : L.length ≤ maxLen) (ho : cOrd L = false) :
    Calls Try.prog 13 #[.slice pa L.length c] w fun e w' => e = .returned (.tuple #[.string ⟨#[]⟩, .int .i64 20]) ∧ Below w.heap.size w w' := by
  have OA := Lib.hid (rordered_any pa c L w hL hm)
  rw [ho] at OA
  generalize L.length = n at OA ⊢
  clear hL hm ho
  go_enter Try.func13, Try.ntmps13
  go_wp2_with fail
  refine OA.out.mono ?_
  rintro e w1 ⟨rfl, hb1⟩
  go_wp2_with fail
  go_ret2
  exact ⟨rfl, hb1⟩
theorem rseal_any (pa : Option Addr) (c : Nat) (L : List Sec) (w : World) (hL : SecsAt w pa L) (hm : L.length ≤ maxLen) (hb : cOrd L = true → (cBytes L).length ≤ 1048576) :
    Calls Try.prog 13 #[.slice pa L.length c] w fun e w' => e = .returned (.tuple #[.string (ctS L), .int .i64 (ctE L : Nat)]) ∧ Below w.heap.size w w' := by
  unfold ctS ctE
  by_cases ho : cOrd L = true
  · rw [if_pos ho, if_pos ho]
    exact rseal_ok pa c L w hL ho (hb ho)
  · rw [if_neg ho, if_neg ho]
    exact rseal_bad pa c L w hL hm (by simpa using ho)
set_option maxRecDepth 100000 in
set_option maxHeartbeats 4000000 in
theorem walk_cseals (pa : Option Addr) (ca : Nat) (L : List Sec) (w : World) (hL : SecsAt w pa L ∧ L.length ≤ maxLen ∧ ∀ x ∈ L, x.2.size ≤ reachBytes) :
    Calls Try.prog 3 #[.slice pa L.length ca] w fun e w' => e = .returned (.bool true) ∧ Below w.heap.size w w' := by
  obtain ⟨a1, a2, a3⟩ := hL
  have RA := Lib.hid a1
  have FA := Lib.hid (fun W h => fewC_any pa ca L W h a2 a3)
  have SA := Lib.hid (fun W h hb => cseal_any pa ca L W h a2 hb)
  have SB := Lib.hid (fun W h hb => rseal_any pa ca L W h a2 hb)
  have IA := Lib.hid (fun W h hs => cindex_any pa ca L W h hs)
  have IB := Lib.hid (fun W h hs => rindex_any pa ca L W h hs)
  clear a1 a2 a3
  cases hf : fewC L with
  | false =>
    rw [hf] at FA
    clear hf SA SB IA IB
    generalize L.length = n at FA ⊢
    go_enter Try.func3, Try.ntmps3
    go_wp2_with fail
    refine (cworks_any w).mono ?_
    rintro e w1 ⟨rfl, hb⟩
    have B1 := Lib.hid hb
    have A1 := Lib.hid (RA.out.later hb)
    clear hb RA
    go_wp2_with fail
    refine (FA.out w1 A1.out).mono ?_
    rintro e w2 ⟨rfl, rfl⟩
    go_wp2_with fail
    go_ret
    exact ⟨rfl, B1.out⟩
  | true =>
    obtain ⟨f1, f2⟩ := fewC_ok hf
    rw [hf] at FA
    have hcs : cSum L ≤ 1100000 := by
      have := cSum_le (L := L) fun x hx => by have := dSum_mem hx; omega
      omega
    have SA1 := Lib.hid (fun W h => SA.out W h (fun ho => by have := (cSmall ho f2).2; omega))
    have SB1 := Lib.hid (fun W h => SB.out W h (fun ho => by have := (cSmall ho f2).2; omega))
    have IA1 := Lib.hid (fun W h => IA.out W h hcs)
    have IB1 := Lib.hid (fun W h => IB.out W h hcs)
    generalize ctS L = S at SA1 SB1
    generalize ctE L = E at SA1 SB1
    generalize bStr (cIndex L) = X at IA1 IB1
    generalize L.length = n at FA SA1 SB1 IA1 IB1 ⊢
    clear hf SA SB IA IB f1 f2 hcs
    go_enter Try.func3, Try.ntmps3
    go_wp2_with fail
    refine (cworks_any w).mono ?_
    rintro e w1 ⟨rfl, hb⟩
    have B1 := Lib.hid hb
    have A1 := Lib.hid (RA.out.later hb)
    clear hb RA
    go_wp2_with fail
    refine (FA.out w1 A1.out).mono ?_
    rintro e w2 ⟨rfl, rfl⟩
    go_wp2_with fail
    refine (SA1.out w1 A1.out).mono ?_
    rintro e w3 ⟨rfl, hb⟩
    have B3 := Lib.hid (B1.out.trans (hb.mono B1.out.size))
    have A3 := Lib.hid (A1.out.later hb)
    clear hb B1 A1
    go_wp2_with fail
    refine (SB1.out w3 A3.out).mono ?_
    rintro e w4 ⟨rfl, hb⟩
    have B4 := Lib.hid (B3.out.trans (hb.mono B3.out.size))
    have A4 := Lib.hid (A3.out.later hb)
    clear hb B3 A3
    go_wp2_with fail
    refine (IA1.out w4 A4.out).mono ?_
    rintro e w5 ⟨rfl, hb⟩
    have B5 := Lib.hid (B4.out.trans (hb.mono B4.out.size))
    have A5 := Lib.hid (A4.out.later hb)
    clear hb B4 A4
    go_wp2_with fail
    refine (IB1.out w5 A5.out).mono ?_
    rintro e w6 ⟨rfl, hb⟩
    have B6 := Lib.hid (B5.out.trans (hb.mono B5.out.size))
    clear hb
    go_wp2_with fail
    go_ret
    exact ⟨rfl, B6.out⟩
end Go.Proofs.Ytanbifhhoeaofaa

