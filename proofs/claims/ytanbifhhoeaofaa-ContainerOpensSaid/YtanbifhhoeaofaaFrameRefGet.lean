/- The document's Get of a section. No conditions. -/
import Derived.Test.YtanbifhhoeaofaaFrameGet
import Derived.Test.YtanbifhhoeaofaaFrameRef
namespace Go.Proofs.Ytanbifhhoeaofaa
set_option linter.unusedVariables false
open Go Go.RowKit

theorem rgot_g (s : ByteArray) (a : Nat) (w : World) (hs : s.size ≤ maxLen) (ha : a ≤ s.size) : Calls Try.prog 70 #[.string s, .int .i64 a] w fun e w' => e = .returned (.tuple #[.int .u64 (gN s a : Nat), .int .i64 (gT s a : Nat), .int .i64 (gE s a : Nat)]) ∧ Below w.heap.size w w' := by
  refine (rget_any s a w hs).mono fun e w' ⟨h1, h2⟩ => ⟨h1.trans ?_, h2⟩
  rw [(leb_g s a ha).1]; rfl
theorem good_split (s : ByteArray) (a m : Nat) (h : a ≤ m) (hm : m + 4 ≤ s.size) : crcGood (s.extract a (m + 4)).data.toList = ((strOf (crcTail (s.extract a m).data.toList)).toList == (s.extract m (m + 4)).toList) := by
  have e : (s.extract a (m + 4)).data.toList = (s.extract a m).data.toList ++ (s.extract m (m + 4)).data.toList := by
    rw [ext_l, ext_l, ext_l, show m + 4 - a = (m - a) + (m + 4 - m) by omega, List.take_add, List.drop_drop, show a + (m - a) = m by omega]
  rw [e, crcGood_append _ _ (by rw [ba_len, ByteArray.size_extract]; omega), beq_str, strOf_list]
set_option maxRecDepth 100000 in
set_option maxHeartbeats 1600000 in
theorem rfget_out (s : ByteArray) (a : Int) (w : World) (hs : s.size ≤ maxLen) (ha : a < 0 ∨ (s.size : Int) < a) :
    Calls Try.prog 60 #[.string s, .int .i64 a] w fun e w' => e = .returned (FV (fNo a 1)) ∧ Below w.heap.size w w' := by
  unfold maxLen at hs
  have hn := Lib.hid (show two (w.alloc (.cells #[.int .i64 0, .string ⟨#[]⟩] 36)) w.heap.size 0 ⟨#[]⟩ from heap_alloc_new w _)
  have hb4 := Lib.hid ((Below.refl _ w).alloc (Nat.le_refl _) (.cells #[.int .i64 0, .string ⟨#[]⟩] 36))
  by_cases h : a < 0
  · have d0 : decide (a < 0) = true := by simp; omega
    clear ha
    go_enter Try.func60, Try.ntmps60
    go_wp2_with fail
    generalize w.alloc (.cells #[.int .i64 0, .string ⟨#[]⟩] 36) = W4 at hn hb4 ⊢
    obtain ⟨z0, z1, _, _⟩ := hn.out.cells
    exact bodyPost_ret (v := FV (fNo a 1)) (by simp [results, Try.results60, go_sem, FV, fNo, z0, z1]) rfl ⟨rfl, hb4.out⟩
  · have d0 : decide (a < 0) = false := by simp; omega
    have d1 : decide ((s.size : Int) < a) = true := by simp; omega
    clear ha h
    go_enter Try.func60, Try.ntmps60
    go_wp2_with fail
    generalize w.alloc (.cells #[.int .i64 0, .string ⟨#[]⟩] 36) = W4 at hn hb4 ⊢
    obtain ⟨z0, z1, _, _⟩ := hn.out.cells
    exact bodyPost_ret (v := FV (fNo a 1)) (by simp [results, Try.results60, go_sem, FV, fNo, z0, z1]) rfl ⟨rfl, hb4.out⟩
set_option maxRecDepth 100000 in
set_option maxHeartbeats 8000000 in
theorem rfget_in (s : ByteArray) (a : Nat) (w : World) (hs : s.size ≤ maxLen) (ha : a ≤ s.size) :
    Calls Try.prog 60 #[.string s, .int .i64 a] w fun e w' => e = .returned (FV (fGet s a)) ∧ Below w.heap.size w w' := by
  have d0 : decide ((a : Int) < 0) = false := by simp
  have d1 : decide ((s.size : Int) < a) = false := by simp; omega
  have d1' : decide (s.size < a) = false := by simp; omega
  have H0 := Lib.hid (show two (w.alloc (.cells #[.int .i64 0, .string ⟨#[]⟩] 36)) w.heap.size 0 ⟨#[]⟩ from heap_alloc_new w _)
  have HB0 := Lib.hid ((Below.refl _ w).alloc (Nat.le_refl _) (.cells #[.int .i64 0, .string ⟨#[]⟩] 36))
  by_cases h0 : s.size = a
  · have HV : Hid (fGet s a = fNo a 2) := Lib.hid (by unfold fGet; rw [if_neg (show ¬ ((a : Int) < 0 ∨ (s.size : Int) < a) by omega), if_pos (by omega)])
    have e0 : ((a : Int) == (s.size : Int)) = true := by simp; omega
    rw [HV.out]
    clear h0 ha hs
    go_enter Try.func60, Try.ntmps60
    go_wp2_with fail
    generalize w.alloc (.cells #[.int .i64 0, .string ⟨#[]⟩] 36) = W4 at H0 HB0 ⊢
    obtain ⟨z0, z1, _, _⟩ := H0.out.cells
    exact bodyPost_ret (v := FV (fNo a 2)) (by simp [results, Try.results60, go_sem, FV, fNo, z0, z1]) rfl ⟨rfl, HB0.out⟩
  have e0 : ((a : Int) == (s.size : Int)) = false := by simp; omega
  have hR : fGet s a = fGo s a (gN s (a + 1)) (gT s (a + 1)) (gE s (a + 1)) := by
    unfold fGet
    rw [if_neg (show ¬ ((a : Int) < 0 ∨ (s.size : Int) < a) by omega), if_neg (show ¬ (s.size : Int) = a by omega), Int.toNat_natCast]
  have HG := Lib.hid (fun W => rgot_g s (a + 1) W hs (by omega))
  obtain ⟨_, b1, b2, _, _⟩ := leb_g s (a + 1) (by omega)
  unfold maxLen at hs
  have hw1 : IntKind.i64.wrap ((a : Int) + 1) = ((a + 1 : Nat) : Int) := by rw [Int.natCast_add]; exact IntWalk.i64_in _ (by omega)
  rw [hR]
  unfold fGo
  generalize gN s (a + 1) = N at HG
  generalize gT s (a + 1) = T at HG b1 b2
  generalize gE s (a + 1) = E at HG
  clear hR
  by_cases c1 : E = 0
  · subst c1
    rw [if_neg (show ¬ (0 ≠ 0) by decide)]
    by_cases c2 : 1048576 < N
    · rw [if_pos c2]
      have d2 : decide ((1048576 : Int) < N) = true := by simp; omega
      clear c2 hs ha h0 b1 b2
      go_enter Try.func60, Try.ntmps60
      go_wp2_with fail
      generalize w.alloc (.cells #[.int .i64 0, .string ⟨#[]⟩] 36) = W0 at H0 HB0 ⊢
      refine (HG.out _).mono ?_
      rintro e w2 ⟨rfl, hb2⟩
      have h22 := H0.out.later hb2
      have HB2 := Lib.hid (HB0.out.trans (hb2.mono HB0.out.size))
      obtain ⟨c0, c1, q0, q1⟩ := h22.cells
      have h24 : two ((w2.setCell ⟨w.heap.size, 0, none⟩ (.int .i64 0)).setCell ⟨w.heap.size, 1, none⟩ (.string ⟨#[]⟩)) w.heap.size 0 ⟨#[]⟩ := h22.store 0 ⟨#[]⟩
      have H24 := Lib.hid h24
      have hb4 := Lib.hid (set2_below HB2.out (Nat.le_refl _) (.int .i64 0) (.string ⟨#[]⟩))
      clear h22 h24 hb2
      go_wp2_with fail
      generalize (w2.setCell ⟨w.heap.size, 0, none⟩ (.int .i64 0)).setCell ⟨w.heap.size, 1, none⟩ (.string ⟨#[]⟩) = W4 at hb4 H24 ⊢
      obtain ⟨z0, z1, _, _⟩ := H24.out.cells
      exact bodyPost_ret (v := FV (fNo a (4))) (by simp [results, Try.results60, go_sem, FV, fNo, z0, z1]) rfl ⟨rfl, hb4.out⟩
    rw [if_neg c2]
    have d2 : decide ((1048576 : Int) < N) = false := by simp; omega
    have hwN : IntKind.i64.wrap (N : Int) = (N : Int) := IntWalk.i64_in _ (by omega)
    have hwN' : wrap64 (N : Int) = (N : Int) := IntWalk.wrap64_in _ (by omega)
    have hwN4 : IntKind.i64.wrap ((N : Int) + 4) = (N : Int) + 4 := IntWalk.i64_in _ (by omega)
    have hwS : IntKind.i64.wrap ((s.size : Int) - T) = (s.size : Int) - T := IntWalk.i64_in _ (by omega)
    by_cases c3 : s.size < T + N + 4
    · rw [if_pos c3]
      have d3 : decide ((s.size : Int) - T < (N : Int) + 4) = true := by simp; omega
      clear c2 c3 hs ha h0 b1 b2
      go_enter Try.func60, Try.ntmps60
      go_wp2_with fail
      generalize w.alloc (.cells #[.int .i64 0, .string ⟨#[]⟩] 36) = W0 at H0 HB0 ⊢
      refine (HG.out _).mono ?_
      rintro e w2 ⟨rfl, hb2⟩
      have h22 := H0.out.later hb2
      have HB2 := Lib.hid (HB0.out.trans (hb2.mono HB0.out.size))
      obtain ⟨c0, c1, q0, q1⟩ := h22.cells
      have h24 : two ((w2.setCell ⟨w.heap.size, 0, none⟩ (.int .i64 0)).setCell ⟨w.heap.size, 1, none⟩ (.string ⟨#[]⟩)) w.heap.size 0 ⟨#[]⟩ := h22.store 0 ⟨#[]⟩
      have H24 := Lib.hid h24
      have hb4 := Lib.hid (set2_below HB2.out (Nat.le_refl _) (.int .i64 0) (.string ⟨#[]⟩))
      clear h22 h24 hb2
      go_wp2_with fail
      generalize (w2.setCell ⟨w.heap.size, 0, none⟩ (.int .i64 0)).setCell ⟨w.heap.size, 1, none⟩ (.string ⟨#[]⟩) = W4 at hb4 H24 ⊢
      obtain ⟨z0, z1, _, _⟩ := H24.out.cells
      exact bodyPost_ret (v := FV (fNo a (2))) (by simp [results, Try.results60, go_sem, FV, fNo, z0, z1]) rfl ⟨rfl, hb4.out⟩
    rw [if_neg c3]
    have d3 : decide ((s.size : Int) - T < (N : Int) + 4) = false := by simp; omega
    have hgs := good_split s a (T + N) (by omega) (by omega)
    have f1 : (0 : Int) ≤ (a : Int) := by omega
    have f2 : (a : Int) ≤ (T : Int) + N := by omega
    have f3 : (T : Int) + N ≤ (s.size : Int) := by omega
    have f4 : (T : Int) + N ≤ (T : Int) + N + 4 := by omega
    have f5 : (T : Int) + N + 4 ≤ (s.size : Int) := by omega
    have f6 : a < s.size := by omega
    have f7 : a ≤ T + N := by omega
    have f8 : T + N ≤ s.size := by omega
    have f9 : T + N ≤ T + N + 4 := by omega
    have f10 : T + N + 4 ≤ s.size := by omega
    have f11 : (0 : Int) ≤ (T : Int) + N := by omega
    have f12 : (0 : Int) ≤ (T : Int) + N + 4 := by omega
    have g1 : ((T : Int) + N).toNat = T + N := by omega
    have g2 : ((T : Int) + N + 4).toNat = T + N + 4 := by omega
    have w1 : IntKind.i64.wrap ((T : Int) + N) = (T : Int) + N := IntWalk.i64_in _ (by omega)
    have w2' : IntKind.i64.wrap ((T : Int) + N + 4) = (T : Int) + N + 4 := IntWalk.i64_in _ (by omega)
    have HT := Lib.hid (fun W => rtail_any (s.extract a (T + N)) W (by rw [ByteArray.size_extract]; omega))
    generalize strOf (crcTail (s.extract a (T + N)).data.toList) = tl at HT hgs
    cases hg : crcGood (s.extract a (T + N + 4)).data.toList with
    | false =>
      rw [if_neg (show ¬ (false = true) by decide)]
      rw [hg] at hgs
      replace hgs := hgs.symm
      clear hg c2 c3 hs ha h0 b1 b2
      go_enter Try.func60, Try.ntmps60
      go_wp2_with fail
      generalize w.alloc (.cells #[.int .i64 0, .string ⟨#[]⟩] 36) = W0 at H0 HB0 ⊢
      refine (HG.out _).mono ?_
      rintro e w2 ⟨rfl, hb2⟩
      have h22 := H0.out.later hb2
      have HB2 := Lib.hid (HB0.out.trans (hb2.mono HB0.out.size))
      obtain ⟨c0, c1, q0, q1⟩ := h22.cells
      go_wp2_with fail
      have HC2 := Lib.hid h22
      have hbr := Below.refl w2.heap.size w2
      clear c0 c1 q0 q1 h22
      go_region_held3 (fun w' => Below w2.heap.size w2 w') (first | assumption | go_grown)
        (first | (go_at_call 30; refine (HT.out _).mono ?_; rintro e w3 ⟨rfl, hb3⟩; obtain ⟨hbl, hsz⟩ := later' (by first | assumption | go_grown) hb3; have H23 := Lib.hid (HC2.out.later hbl); obtain ⟨c0, c1, q0, q1⟩ := H23.out.cells; clear hb3))
      have hb4 := Lib.hid (set2_below (HB2.out.trans (hbl.mono HB2.out.size)) (Nat.le_refl _) (.int .i64 0) (.string ⟨#[]⟩))
      have H24 : Hid (two ((w3.setCell ⟨w.heap.size, 0, none⟩ (.int .i64 0)).setCell ⟨w.heap.size, 1, none⟩ (.string ⟨#[]⟩)) w.heap.size 0 ⟨#[]⟩) := Lib.hid (H23.out.store 0 ⟨#[]⟩)
      go_wp2_with fail
      generalize (w3.setCell ⟨w.heap.size, 0, none⟩ (.int .i64 0)).setCell ⟨w.heap.size, 1, none⟩ (.string ⟨#[]⟩) = W4 at hb4 H24 ⊢
      obtain ⟨z0, z1, _, _⟩ := H24.out.cells
      exact bodyPost_ret (v := FV (fNo a 6)) (by simp [results, Try.results60, go_sem, FV, fNo, z0, z1]) rfl ⟨rfl, hb4.out⟩
    | true =>
      rw [if_pos rfl]
      rw [hg] at hgs
      replace hgs := hgs.symm
      have hbA : ((s[a]'f6).toNat : Int) = ((byteAt s a : Nat) : Int) := by
        unfold byteAt
        rw [List.getD_eq_getElem?_getD, List.getElem?_eq_getElem (show a < s.data.toList.length from f6)]
        rfl
      have HBA := Lib.hid hbA
      have hx8 : byteAt s a ≤ 255 := by unfold byteAt; have := (s.data.toList.getD a 0).toNat_lt; omega
      have hx1 : IntKind.i64.wrap (byteAt s a : Int) = (byteAt s a : Nat) := IntWalk.i64_in _ (by omega)
      have hx2 : wrap64 (byteAt s a : Int) = (byteAt s a : Nat) := IntWalk.wrap64_in _ (by omega)
      generalize byteAt s a = Y at hbA HBA hx8 hx1 hx2 ⊢
      have hw5 : T ≤ T + N := by omega
      have hw6 : (T : Int) ≤ (T : Int) + N := by omega
      clear hg c2 c3 hs ha h0 b1 b2 hx8
      go_enter Try.func60, Try.ntmps60
      go_wp2_with fail
      generalize w.alloc (.cells #[.int .i64 0, .string ⟨#[]⟩] 36) = W0 at H0 HB0 ⊢
      refine (HG.out _).mono ?_
      rintro e w2 ⟨rfl, hb2⟩
      have h22 := H0.out.later hb2
      have HB2 := Lib.hid (HB0.out.trans (hb2.mono HB0.out.size))
      obtain ⟨c0, c1, q0, q1⟩ := h22.cells
      go_wp2_with fail
      have HC2 := Lib.hid h22
      have hbr := Below.refl w2.heap.size w2
      clear c0 c1 q0 q1 h22
      go_region_held3 (fun w' => Below w2.heap.size w2 w') (first | assumption | go_grown)
        (first | (go_at_call 30; refine (HT.out _).mono ?_; rintro e w3 ⟨rfl, hb3⟩; obtain ⟨hbl, hsz⟩ := later' (by first | assumption | go_grown) hb3; have H23 := Lib.hid (HC2.out.later hbl); obtain ⟨c0, c1, q0, q1⟩ := H23.out.cells; clear hb3))
      have hb4 := Lib.hid (set2_below (HB2.out.trans (hbl.mono HB2.out.size)) (Nat.le_refl _) (.int .i64 Y) (.string (s.extract T (T + N))))
      have H24 := Lib.hid (H23.out.store Y (s.extract T (T + N)))
      go_wp2_with fail
      go_region_held3 (fun w' => 0 ≤ w'.heap.size) (exact Nat.zero_le _) (fail)
      all_goals go_wp2_with fail
      generalize (w3.setCell ⟨w.heap.size, 0, none⟩ (.int .i64 Y)).setCell ⟨w.heap.size, 1, none⟩ (.string (s.extract T (T + N))) = W4 at hb4 H24 ⊢
      obtain ⟨z0, z1, _, _⟩ := H24.out.cells
      exact bodyPost_ret (v := FV ((Y, s.extract T (T + N)), ((T + N + 4 : Nat) : Int), 0)) (by simp [results, Try.results60, go_sem, FV, z0, z1]) rfl ⟨rfl, hb4.out.drew⟩
  · rw [if_pos c1]
    have dE : ((E : Int) == 0) = false := by simp; omega
    clear hs ha h0 b1 b2 c1
    go_enter Try.func60, Try.ntmps60
    go_wp2_with fail
    generalize w.alloc (.cells #[.int .i64 0, .string ⟨#[]⟩] 36) = W0 at H0 HB0 ⊢
    refine (HG.out _).mono ?_
    rintro e w2 ⟨rfl, hb2⟩
    have h22 := H0.out.later hb2
    have HB2 := Lib.hid (HB0.out.trans (hb2.mono HB0.out.size))
    obtain ⟨c0, c1, q0, q1⟩ := h22.cells
    have h24 : two ((w2.setCell ⟨w.heap.size, 0, none⟩ (.int .i64 0)).setCell ⟨w.heap.size, 1, none⟩ (.string ⟨#[]⟩)) w.heap.size 0 ⟨#[]⟩ := h22.store 0 ⟨#[]⟩
    have H24 := Lib.hid h24
    have hb4 := Lib.hid (set2_below HB2.out (Nat.le_refl _) (.int .i64 0) (.string ⟨#[]⟩))
    clear h22 h24 hb2
    go_wp2_with fail
    generalize (w2.setCell ⟨w.heap.size, 0, none⟩ (.int .i64 0)).setCell ⟨w.heap.size, 1, none⟩ (.string ⟨#[]⟩) = W4 at hb4 H24 ⊢
    obtain ⟨z0, z1, _, _⟩ := H24.out.cells
    exact bodyPost_ret (v := FV (fNo a E)) (by simp [results, Try.results60, go_sem, FV, fNo, z0, z1]) rfl ⟨rfl, hb4.out⟩
theorem rfget_any (s : ByteArray) (a : Int) (w : World) (hs : s.size ≤ maxLen) :
    Calls Try.prog 60 #[.string s, .int .i64 a] w fun e w' => e = .returned (FV (fGet s a)) ∧ Below w.heap.size w w' := by
  by_cases h : a < 0 ∨ (s.size : Int) < a
  · have := rfget_out s a w hs h
    have e : fGet s a = fNo a 1 := by unfold fGet; rw [if_pos h]
    rw [e]; exact this
  · obtain ⟨n, rfl⟩ := Int.eq_ofNat_of_zero_le (show 0 ≤ a by omega)
    exact rfget_in s n w hs (by omega)
end Go.Proofs.Ytanbifhhoeaofaa

