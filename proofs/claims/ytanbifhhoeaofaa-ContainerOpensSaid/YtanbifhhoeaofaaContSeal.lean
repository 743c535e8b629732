/- Seal: the walk. No conditions. -/
import Derived.Test.YtanbifhhoeaofaaContBehind
import Derived.Test.YtanbifhhoeaofaaContCatch
import Derived.Test.YtanbifhhoeaofaaFramePut
import Derived.Test.YtanbifhhoeaofaaInv
namespace Go.Proofs.Ytanbifhhoeaofaa
set_option linter.unusedVariables false
open Go Go.RowKit

set_option maxRecDepth 100000 in
set_option maxHeartbeats 4000000 in
theorem cseal_bad (pa : Option Addr) (c : Nat) (L : List Sec) (w : World) (hL : SecsAt w pa L) (hm : L.length ≤ maxLen) (ho : cOrd L = false) :
    Calls Try.prog 12 #[.slice pa L.length c] w fun e w' => e = .returned (.tuple #[.string ⟨#[]⟩, .int .i64 20]) ∧ Below w.heap.size w w' := by
  have hmf : ∀ (fn : Fn) (first cap : Array Value) (w : World), (Instr.makeFunc fn first cap).run Try.prog w = .ok (.func fn first cap) w := fun _ _ _ _ => rfl
  have hbV : Below w.heap.size w ((w.alloc (.cells #[.string ⟨#[]⟩] 9)).alloc (.cells #[.int .i64 0] 25)) := ((Below.refl _ w).alloc (Nat.le_refl _) _).alloc (by simp) _
  have b0 : Boxed ((w.alloc (.cells #[.string ⟨#[]⟩] 9)).alloc (.cells #[.int .i64 0] 25)) w.heap.size 9 (.string ⟨#[]⟩) := (Boxed.new w _ _).alloc _
  have b1 : Boxed ((w.alloc (.cells #[.string ⟨#[]⟩] 9)).alloc (.cells #[.int .i64 0] 25)) (w.heap.size + 1) 25 (.int .i64 0) := by
    have := Boxed.new (w.alloc (.cells #[.string ⟨#[]⟩] 9)) 25 (.int .i64 0)
    rw [World.size_alloc] at this; exact this
  have OA := Lib.hid (ordered_any pa c L ((w.alloc (.cells #[.string ⟨#[]⟩] 9)).alloc (.cells #[.int .i64 0] 25)) (hL.later hbV) hm)
  rw [ho] at OA
  generalize L.length = n at OA ⊢
  clear hL hm ho
  go_enter_defers Try.func12, Try.ntmps12
  generalize hV : (w.alloc (.cells #[.string ⟨#[]⟩] 9)).alloc (.cells #[.int .i64 0] 25) = V at OA b0 b1 hbV
  go_wp2_with fail
  refine OA.out.mono ?_
  rintro e w1 ⟨rfl, hb1⟩
  have B1 := Lib.hid (hbV.trans (hb1.mono hbV.size))
  have k0 : Boxed w1 w.heap.size 9 (.string ⟨#[]⟩) := (hb1.block _ b0.lt).trans b0
  have k1 : Boxed w1 (w.heap.size + 1) 25 (.int .i64 0) := (hb1.block _ b1.lt).trans b1
  clear hb1 b0 b1 hbV hV OA
  go_wp2_with fail
  refine (need_bad 20 _).mono ?_
  rintro e w2 ⟨rfl, rfl⟩
  go_wp2_with fail
  refine leaves_cons (f := 21) (args := #[.pointer (some ⟨w.heap.size, 0, none⟩), .pointer (some ⟨w.heap.size + 1, 0, none⟩)]) (by simp) (by simp [go_sem]) ?_
  have k2 := k0.set (.string ⟨#[]⟩)
  have k3 := k1.other (B' := w.heap.size) (by omega) (.string ⟨#[]⟩)
  refine (sealCatch_panics ⟨w.heap.size, 0, none⟩ ⟨w.heap.size + 1, 0, none⟩ ⟨#[]⟩ 0 20 [] w1 k0.cell k0.frozen k3.cell k3.frozen).mono ?_
  rintro e u' w'' ⟨rfl, rfl, rfl⟩
  have k4 := k3.set (.int .i64 20)
  have k5 := k2.other (B' := w.heap.size + 1) (by omega) (.int .i64 20)
  have c4 := k4.cell
  have c5 := k5.cell
  simp [Leaves, settle, results, Try.results12, go_sem, c4, c5]
  exact (B1.out.setCell (p := ⟨w.heap.size, 0, none⟩) (Nat.le_refl _) _).setCell (p := ⟨w.heap.size + 1, 0, none⟩) (by simp) _
theorem bs2 (A B : List UInt8) : bStr A ++ bStr B = bStr (A ++ B) := ba_ext (by rw [app_l]; rfl)
theorem framesL_snoc {L : List Sec} {k : Nat} {x : Sec} (h : L[k]? = some x) : framesL (L.take (k + 1)) = framesL (L.take k) ++ fFrame x.1 x.2 := by
  rw [take_snoc h, framesL_app]; simp [framesL]
theorem framesL_take_le (L : List Sec) (k : Nat) : (framesL (L.take k)).length ≤ cSum L := by rw [framesL_len]; exact cSum_take_le L k
set_option maxRecDepth 100000 in
set_option maxHeartbeats 4000000 in
theorem cseal_ok (pa : Option Addr) (c : Nat) (L : List Sec) (w : World) (hL : SecsAt w pa L) (ho : cOrd L = true) (hb : (cBytes L).length ≤ 1048576) :
    Calls Try.prog 12 #[.slice pa L.length c] w fun e w' => e = .returned (.tuple #[.string (bStr (cBytes L)), .int .i64 0]) ∧ Below w.heap.size w w' := by
  have hmf : ∀ (fn : Fn) (first cap : Array Value) (w : World), (Instr.makeFunc fn first cap).run Try.prog w = .ok (.func fn first cap) w := fun _ _ _ _ => rfl
  have hlen := cBytes_len L
  have hdat := data_le_cSum L
  have hcs : cSum L ≤ 1100000 := by omega
  have hm : L.length ≤ 16 := (cOrd_ok ho).2.2
  have hfe := cOrd_fE ho (by omega)
  have hbV : Below w.heap.size w ((w.alloc (.cells #[.string ⟨#[]⟩] 9)).alloc (.cells #[.int .i64 0] 25)) := ((Below.refl _ w).alloc (Nat.le_refl _) _).alloc (by simp) _
  have b0 : Boxed ((w.alloc (.cells #[.string ⟨#[]⟩] 9)).alloc (.cells #[.int .i64 0] 25)) w.heap.size 9 (.string ⟨#[]⟩) := (Boxed.new w _ _).alloc _
  have b1 : Boxed ((w.alloc (.cells #[.string ⟨#[]⟩] 9)).alloc (.cells #[.int .i64 0] 25)) (w.heap.size + 1) 25 (.int .i64 0) := by
    have := Boxed.new (w.alloc (.cells #[.string ⟨#[]⟩] 9)) 25 (.int .i64 0)
    rw [World.size_alloc] at this; exact this
  have SE := Lib.hid (fun W (h : Below w.heap.size w W) => hL.below h (Nat.le_refl _))
  have OA := Lib.hid (fun W h => ordered_any pa c L W h (by unfold maxLen; omega))
  rw [ho] at OA
  have BH := Lib.hid (fun W h => cbehind_any pa c L W h hcs)
  have HBL := Lib.hid (show (bStr (cBehind L)).size + 7 + cSum L ≤ 1048576 by rw [bStr_size, cBehind_len]; omega)
  have HT := Lib.hid (fun k x h => cSum_snoc (L := L) (k := k) (x := x) h)
  have HU := Lib.hid (cSum_take_le L)
  have HF := Lib.hid (fun k x h => framesL_snoc (L := L) (k := k) (x := x) h)
  have HFL := Lib.hid (framesL_take_le L)
  have HZ := Lib.hid (fun (k : Nat) (x : Sec) (h : L[k]? = some x) => show x.2.size ≤ 1000000000 by have := dSum_mem (List.mem_of_getElem? h); omega)
  have HFE := Lib.hid (fun (k : Nat) (x : Sec) (h : L[k]? = some x) => hfe x (List.mem_of_getElem? h))
  have HAT := Lib.hid (fun k (h : k < L.length) => sec_at (A := L) h)
  have HE := Lib.hid (show cSum (L.take L.length) = cSum L by rw [List.take_length])
  have HE2 := Lib.hid (show bStr (magicL ++ framesL (L.take L.length)) ++ bStr (cBehind L) = bStr (cBytes L) by rw [List.take_length, bs2]; rfl)
  generalize L.length = n at OA BH HAT HE HE2 hm ⊢
  generalize bStr (cBehind L) = bh at BH HBL HE2
  generalize bStr (cBytes L) = R at HE2 ⊢
  clear hL ho hb hlen hdat hfe
  go_enter_defers Try.func12, Try.ntmps12
  generalize hV : (w.alloc (.cells #[.string ⟨#[]⟩] 9)).alloc (.cells #[.int .i64 0] 25) = V at b0 b1 hbV
  go_wp2_with fail
  refine (OA.out V (SE.out V hbV)).mono ?_
  rintro e w1 ⟨rfl, hb1⟩
  have B1 := hbV.trans (hb1.mono hbV.size)
  have k0 : Boxed w1 w.heap.size 9 (.string ⟨#[]⟩) := (hb1.block _ b0.lt).trans b0
  have k1 : Boxed w1 (w.heap.size + 1) 25 (.int .i64 0) := (hb1.block _ b1.lt).trans b1
  clear hb1 b0 b1 hbV hV OA
  go_wp2_with fail
  refine (need_ok 20 _).mono ?_
  rintro e w2 ⟨rfl, rfl⟩
  go_wp2_with fail
  refine (BH.out w1 (SE.out w1 B1)).mono ?_
  rintro e w2 ⟨rfl, hb2⟩
  have B2 := Lib.hid (B1.trans (hb2.mono B1.size))
  have K0 := Lib.hid (show Boxed w2 w.heap.size 9 (.string ⟨#[]⟩) from (hb2.block _ k0.lt).trans k0)
  have K1 := Lib.hid (show Boxed w2 (w.heap.size + 1) 25 (.int .i64 0) from (hb2.block _ k1.lt).trans k1)
  have hbs : bh.size ≤ 1048576 := by have := HBL.out; omega
  clear hb2 k0 k1 B1 
  go_wp2_with fail
  go_loopw [4, 21] (fun s i wr => ∃ k : Nat, k ≤ n ∧ i = .int .i64 k ∧ s = .int .i64 (7 + bh.size + cSum (L.take k) : Nat) ∧ Below w.heap.size w wr ∧ Boxed wr w.heap.size 9 (.string ⟨#[]⟩) ∧ Boxed wr (w.heap.size + 1) 25 (.int .i64 0)) (fun _ i _ => n - (intOf i).toNat)
  case atStart => exact ⟨0, by omega, rfl, rfl, B2.out, K0.out, K1.out⟩
  case round =>
    obtain ⟨k, hk, rfl, rfl, hB, h0, h1⟩ := hrel
    have HB := Lib.hid hB
    have H0 := Lib.hid h0
    have H1 := Lib.hid h1
    have hzz := hB.size
    clear hB h0 h1
    by_cases hlt : k < n
    · obtain ⟨x, hx⟩ := HAT.out k hlt
      obtain ⟨b, off, hp, hbl, c0, c1⟩ := (SE.out wr HB.out).at hx
      have HT1 := Lib.hid (HT.out k x hx)
      have hu := HU.out (k + 1)
      rw [HT1.out] at hu
      have hz := HZ.out k x hx
      obtain ⟨ty, d⟩ := x
      simp only at c0 c1 hz
      subst hp
      have CZ := Lib.hid (fun W => csize_any (ty, d) W hz)
      generalize cSum (L.take k) = q at *
      generalize cSize (ty, d) = z at *
      unfold secV at CZ
      simp only at CZ
      go_wp2_with fail
      have hbx : Below w.heap.size w (wr.alloc (.cells #[.int .i64 ty, .string d] 36)) := HB.out.alloc hzz _
      have x0 := Lib.hid (H0.out.alloc (.cells #[.int .i64 ty, .string d] 36))
      have x1 := Lib.hid (H1.out.alloc (.cells #[.int .i64 ty, .string d] 36))
      generalize wr.alloc (.cells #[.int .i64 ty, .string d] 36) = wx at hbx x0 x1 ⊢
      refine (CZ.out wx).mono ?_
      rintro e w4 ⟨rfl, hb4⟩
      have R1 := Lib.hid (hbx.trans (hb4.mono hbx.size))
      have R2 := Lib.hid (show Boxed w4 w.heap.size 9 (.string ⟨#[]⟩) from (hb4.block _ x0.out.lt).trans x0.out)
      have R3 := Lib.hid (show Boxed w4 (w.heap.size + 1) 25 (.int .i64 0) from (hb4.block _ x1.out.lt).trans x1.out)
      clear hb4
      go_wp2_with fail
      go_roundw
      case rel => exact ⟨k + 1, by omega, by go_num, by rw [HT1.out]; go_num, R1.out, R2.out, R3.out⟩
      case measure => simp [intOf]; omega
    · obtain rfl : k = n := by omega
      rw [HE.out]
      have hq := HBL.out
      generalize cSum L = q at *
      have d1 : decide (7 + (bh.size : Int) + (q : Int) ≤ 1048576) = true := by simp; omega
      go_wp2_with fail
      refine (need_ok 4 _).mono ?_
      rintro e w5 ⟨rfl, rfl⟩
      have hc0 := H0.out.cell
      have hf0 := H0.out.frozen
      go_wp2_with fail
      have g0 := Lib.hid (H0.out.set (.string (bStr (magicL ++ framesL (L.take 0)))))
      have g1 := Lib.hid (H1.out.other (B' := w.heap.size) (by omega) (.string (bStr (magicL ++ framesL (L.take 0)))))
      have gB := Lib.hid (HB.out.setCell (p := ⟨w.heap.size, 0, none⟩) (Nat.le_refl _) (.string (bStr (magicL ++ framesL (L.take 0)))))
      rw [show bStr (magicL ++ framesL (L.take 0)) = (⟨#[77, 85, 84, 65, 82, 67, 1]⟩ : ByteArray) from rfl] at g0 g1 gB
      clear hc0 hf0 H0 H1 HB
      go_loopw [35] (fun i wr => ∃ j : Nat, j ≤ k ∧ i = .int .i64 j ∧ Below w.heap.size w wr ∧ Boxed wr w.heap.size 9 (.string (bStr (magicL ++ framesL (L.take j)))) ∧ Boxed wr (w.heap.size + 1) 25 (.int .i64 0)) (fun i _ => k - (intOf i).toNat)
      case atStart => exact ⟨0, by omega, rfl, gB.out, g0.out, g1.out⟩
      case round =>
        obtain ⟨j, hj, rfl, hB, h0, h1⟩ := hrel
        have HB := Lib.hid hB
        have H0 := Lib.hid h0
        have H1 := Lib.hid h1
        have hzz := hB.size
        clear hB h0 h1 g0 g1 gB
        by_cases hlt : j < k
        · obtain ⟨x, hx⟩ := HAT.out j hlt
          obtain ⟨b, off, hp, hbl, c0, c1⟩ := (SE.out wr HB.out).at hx
          have hz := HZ.out j x hx
          have hfe := HFE.out j x hx
          have HF1 := Lib.hid (HF.out j x hx)
          have hfl := HFL.out j
          have hfl2 := HFL.out (j + 1)
          rw [HF1.out, List.length_append] at hfl2
          obtain ⟨ty, d⟩ := x
          simp only at c0 c1 hz hfe hfl2
          subst hp
          have FP := Lib.hid (fun W => fput_any ty d W (by omega))
          have hfs : fS ty d = bStr (fFrame ty d) := by unfold fS; rw [if_pos hfe]
          rw [hfs, hfe] at FP
          have e1 : (bStr (magicL ++ framesL (L.take j))).size ≤ 7 + q := by rw [bStr_size, List.length_append]; show 7 + _ ≤ _; omega
          have e2 : (bStr (fFrame ty d)).size ≤ q := by rw [bStr_size]; omega
          have e3 : (bStr (magicL ++ framesL (L.take j))).size + (bStr (fFrame ty d)).size ≤ 9223372036854775807 := by omega
          have HN := Lib.hid (show bStr (magicL ++ framesL (L.take j)) ++ bStr (fFrame ty d) = bStr (magicL ++ framesL (L.take (j + 1))) by rw [bs2, HF1.out, List.append_assoc])
          generalize bStr (magicL ++ framesL (L.take j)) = S at *
          generalize bStr (fFrame ty d) = F at *
          clear hfs hfl hfl2 hfe
          go_wp2_with fail
          have hbx : Below w.heap.size w (wr.alloc (.cells #[.int .i64 ty, .string d] 36)) := HB.out.alloc hzz _
          have x0 := Lib.hid (H0.out.alloc (.cells #[.int .i64 ty, .string d] 36))
          have x1 := Lib.hid (H1.out.alloc (.cells #[.int .i64 ty, .string d] 36))
          generalize wr.alloc (.cells #[.int .i64 ty, .string d] 36) = wx at hbx x0 x1 ⊢
          refine (FP.out wx).mono ?_
          rintro e w4 ⟨rfl, hb4⟩
          have R1 := Lib.hid (hbx.trans (hb4.mono hbx.size))
          have R2 := Lib.hid (show Boxed w4 w.heap.size 9 (.string S) from (hb4.block _ x0.out.lt).trans x0.out)
          have R3 := Lib.hid (show Boxed w4 (w.heap.size + 1) 25 (.int .i64 0) from (hb4.block _ x1.out.lt).trans x1.out)
          clear hb4
          go_wp2_with fail
          refine (need_ok 0 _).mono ?_
          rintro e w5 ⟨rfl, rfl⟩
          have hc0 := R2.out.cell
          have hf0 := R2.out.frozen
          go_wp2_with fail
          go_roundw
          case rel => exact ⟨j + 1, by omega, by go_num, R1.out.setCell (p := ⟨w.heap.size, 0, none⟩) (Nat.le_refl _) _, by rw [← HN.out]; exact R2.out.set _, R3.out.other (by omega) _⟩
          case measure => simp [intOf]; omega
        · obtain rfl : j = k := by omega
          have BH2 := Lib.hid (fun V (h : Below w.heap.size w V) => BH.out V (SE.out V h))
          have hss : (bStr (magicL ++ framesL (L.take j))).size ≤ 7 + q := by have := HFL.out j; rw [bStr_size, List.length_append]; show 7 + _ ≤ _; omega
          generalize bStr (magicL ++ framesL (L.take j)) = S at *
          have hsum : S.size + bh.size ≤ 9223372036854775807 := by omega
          clear HAT HZ HFE HF HFL HT HU SE BH
          go_wp2_with fail
          refine wp_region_st (by kernel_rfl) (fun i => match i with | 0 => .string S | 1 => .slice pa j c | 2 => .string bh | 3 => .string (S ++ bh) | _ => undef)
            (fun D V => Below w.heap.size w V ∧ Boxed V w.heap.size 9 (.string (if D 4 then S ++ bh else S)) ∧ Boxed V (w.heap.size + 1) 25 (.int .i64 0)) rfl ⟨HB.out.drew, H0.out, H1.out⟩ ⟨?o0, ?o1, ?o2, ?o3, ?o4, ?o5, trivial⟩ ?fin
          case o0 =>
            intro D a V hD hdep hcl hav hws
            refine ⟨rfl, ?_⟩
            have d4 := hcl.not (j := 4) hD rfl ⟨0, .phase⟩ (by simp) rfl rfl
            obtain ⟨h1, h2, h3⟩ := hws
            rw [d4] at h2
            have e2 : a.tmps[2]? = some (.pointer (some ⟨w.heap.size, 0, none⟩)) := hav.oldAt 2 rfl
            have hc := h2.cell
            have H2 := Lib.hid h2
            have H3 := Lib.hid h3
            clear h2 h3
            unfold Oper.wp
            simp at hc
            simp [go_sem, updD, e2, hc, d4, h1]
            exact ⟨by simpa using H2.out, H3.out⟩
          case o1 =>
            intro D a V hD hdep hcl hav hws
            refine ⟨rfl, ?_⟩
            have e0 : a.tmps[0]? = some (.slice pa j c) := hav.oldAt 0 rfl
            unfold Oper.wp
            simpa [go_sem, updD, e0] using hws
          case o2 =>
            intro D a V hD hdep hcl hav hws
            refine ⟨rfl, ?_⟩
            have d1 : D 1 = true := hdep ⟨1, .data⟩ (by simp) rfl
            have e53 : a.tmps[53]? = some (.slice pa j c) := hav.val 1 _ 53 rfl rfl d1
            obtain ⟨h1, h2, h3⟩ := hws
            have H2 := Lib.hid h2
            have H3 := Lib.hid h3
            clear h2 h3
            unfold Oper.wp
            simp [go_sem, e53]
            refine (BH2.out V h1).mono ?_
            rintro e V' ⟨rfl, hb⟩
            have k1 := h1.trans (hb.mono h1.size)
            have k2 := (hb.block _ H2.out.lt).trans H2.out
            have k3 := (hb.block _ H3.out.lt).trans H3.out
            exact ⟨rfl, k1, k2, k3⟩
          case o3 =>
            intro D a V hD hdep hcl hav hws
            refine ⟨rfl, ?_⟩
            have d0 : D 0 = true := hdep ⟨0, .data⟩ (by simp) rfl
            have d2 : D 2 = true := hdep ⟨2, .data⟩ (by simp) rfl
            have e52 : a.tmps[52]? = some (.string S) := hav.val 0 _ 52 rfl rfl d0
            have e54 : a.tmps[54]? = some (.string bh) := hav.val 2 _ 54 rfl rfl d2
            have ra := run_string_add_sum (P := Try.prog) V S bh hsum
            unfold Oper.wp
            simpa [go_sem, updD, e52, e54, ra] using hws
          case o4 =>
            intro D a V hD hdep hcl hav hws
            refine ⟨rfl, ?_⟩
            have d3 : D 3 = true := hdep ⟨3, .data⟩ (by simp) rfl
            have e55 : a.tmps[55]? = some (.string (S ++ bh)) := hav.val 3 _ 55 rfl rfl d3
            have e2 : a.tmps[2]? = some (.pointer (some ⟨w.heap.size, 0, none⟩)) := hav.oldAt 2 rfl
            obtain ⟨h1, h2, h3⟩ := hws
            have hc := h2.cell
            have hf := h2.frozen
            have H2 := Lib.hid (h2.set (.string (S ++ bh)))
            have H3 := Lib.hid (h3.other (B' := w.heap.size) (by omega) (.string (S ++ bh)))
            have H1' := Lib.hid (h1.setCell (p := ⟨w.heap.size, 0, none⟩) (Nat.le_refl _) (.string (S ++ bh)))
            clear h1 h2 h3
            unfold Oper.wp
            simp [go_sem, updD, e2, e55, hc, hf]
            exact ⟨H1'.out, H2.out, H3.out⟩
          case o5 =>
            intro D a V hD hdep hcl hav hws
            refine ⟨rfl, ?_⟩
            have e3 : a.tmps[3]? = some (.pointer (some ⟨w.heap.size + 1, 0, none⟩)) := hav.oldAt 3 rfl
            obtain ⟨h1, h2, h3⟩ := hws
            have hc := h3.cell
            have hf := h3.frozen
            have H2 := Lib.hid (h2.other (B' := w.heap.size + 1) (by omega) (.int .i64 0))
            have H3 := Lib.hid (h3.set (.int .i64 0))
            have H1' := Lib.hid (h1.setCell (p := ⟨w.heap.size + 1, 0, none⟩) (by simp) (.int .i64 0))
            clear h1 h2 h3
            unfold Oper.wp
            simp [go_sem, updD, e3, hc, hf]
            exact ⟨H1'.out, by simpa using H2.out, H3.out⟩
          case fin =>
            intro a V hav hws
            simp only [List.length_cons, List.length_nil, Nat.reduceAdd, Nat.reduceLT, decide_true, if_true] at hws
            obtain ⟨h1, h2, h3⟩ := hws
            have e2 : a.tmps[2]? = some (.pointer (some ⟨w.heap.size, 0, none⟩)) := hav.oldAt 2 rfl
            have e3 : a.tmps[3]? = some (.pointer (some ⟨w.heap.size + 1, 0, none⟩)) := hav.oldAt 3 rfl
            have hc0 := h2.cell
            have hc1 := h3.cell
            have hdf := hav.defers
            simp only at hdf
            clear hav
            obtain ⟨tm, df⟩ := a
            simp only at hdf e2 e3
            subst hdf
            have H1' := Lib.hid h1
            have HR := Lib.hid HE2.out
            clear h1 h2 h3
            go_wp2_with fail
            refine leaves_cons (f := 21) (args := #[.pointer (some ⟨w.heap.size, 0, none⟩), .pointer (some ⟨w.heap.size + 1, 0, none⟩)]) (by simp) (by simp [go_sem]) ?_
            refine (sealCatch_idle _ _ V).mono ?_
            rintro e u' w'' ⟨rfl, rfl, rfl⟩
            simp [Leaves, settle, results, Try.results12, go_sem, hc0, hc1, e2, e3]
            exact ⟨HR.out, H1'.out⟩
theorem cseal_any (pa : Option Addr) (c : Nat) (L : List Sec) (w : World) (hL : SecsAt w pa L) (hm : L.length ≤ maxLen) (hb : cOrd L = true → (cBytes L).length ≤ 1048576) :
    Calls Try.prog 12 #[.slice pa L.length c] w fun e w' => e = .returned (.tuple #[.string (ctS L), .int .i64 (ctE L : Nat)]) ∧ Below w.heap.size w w' := by
  unfold ctS ctE
  by_cases ho : cOrd L = true
  · rw [if_pos ho, if_pos ho]
    exact cseal_ok pa c L w hL ho (hb ho)
  · rw [if_neg ho, if_neg ho]
    exact cseal_bad pa c L w hL hm (by simpa using ho)
end Go.Proofs.Ytanbifhhoeaofaa

