/- The walk of the law WireBack. No conditions. -/
import Derived.Test.YtpnljefgenniaaaWireBackPlain
namespace Go.Proofs.Ytpnljefgenniaaa
set_option linter.unusedVariables false
open Go Go.RowKit

set_option maxRecDepth 100000 in
set_option maxHeartbeats 16000000 in
theorem back_in (a : Option Addr) (la ca : Nat) (I : Nat → Itm) (q : ByteArray) (w : World) (hA : Items w a la I) (hI : ∀ i, I64 (I i).n ∧ U64 (I i).u) (hsI : ∀ i, i < la → (I i).s.size ≤ reachBytes) (l1 : la ≤ 60) (z1 : szs I la ≤ 1000) (hq : q.size ≤ 1000) :
    Calls Try.prog 7 #[.slice a la ca, .string q] w fun e w' => e = .returned (.bool true) ∧ Below w.heap.size w w' := by
  have f1 := Lib.hid (show fewB I la = true by unfold fewB; simp; omega)
  have FA := Lib.hid (fun W h => few_any a la ca I W h hsI (by unfold maxLen; omega))
  have HA := Lib.hid hA
  have HI := Lib.hid hI
  have LI := Lib.hid (fun k (h : k ≤ la) => itmsL_len I hI k (by omega) (by have := szs_mono I h; omega))
  have ZI := Lib.hid (fun k (h : k ≤ la) => Nat.le_trans (szs_mono I h) z1)
  have hdq : decide ((1000 : Int) < q.size) = false := by simp; omega
  clear hA hI hsI z1
  go_enter Try.func7, Try.ntmps7
  go_wp2_with fail
  refine (wireworks_any _).mono ?_
  rintro e w1 ⟨rfl, hb1⟩
  go_wp2_with fail
  refine (FA.out _ (HA.out.later hb1)).mono ?_
  rintro e w2 ⟨rfl, rfl⟩
  rw [f1.out]
  go_wp2_with (go_at_call 14; refine (wnew_any _).mono ?_; rintro e w2 ⟨rfl, rfl⟩)
  have HT := Lib.hid (WrAt.new w1 w1.heap.size (Nat.le_refl _))
  go_loopw [6, 7] (fun x i wr => ∃ (k : Nat) (v : Value), k ≤ la ∧ x = .pointer (some ⟨w1.heap.size, 0, none⟩) ∧ i = .int .i64 k ∧ WrAt wr w1.heap.size w1.heap.size v (itmsL I k) ∧ Below w1.heap.size w1 wr) (fun _ i _ => la - (intOf i).toNat)
  case atStart => exact ⟨0, _, by omega, rfl, rfl, HT.out, (Below.refl _ _).alloc (Nat.le_refl _) _⟩
  case round =>
    obtain ⟨k, v, hk, rfl, rfl, hW, hB⟩ := hrel
    have H := Lib.hid hW
    have HB := Lib.hid hB
    clear hW hB
    by_cases hlt : k < la
    · obtain ⟨bb, off, rfl, hbl, hc⟩ := (HA.out.later hb1).cells (by omega)
      have hcell : ∀ j, j < 4 → wr.cell? ⟨bb, off + k * 4 + j, none⟩ = (itmCells (I k))[j]? := fun j hj => (World.cell?_of_block (w := w1) (a := ⟨bb, _, none⟩) (HB.out.block bb hbl)).trans (hc k hlt j hj)
      obtain ⟨⟨xk, xn, xu, xs⟩, hx⟩ : ∃ x, I k = x := ⟨_, rfl⟩
      have hII := HI.out k
      have hsz := szs_at I (show k < k + 1 by omega)
      have hz := ZI.out (k + 1) (by omega)
      have hlen := LI.out k hk
      have hz2 := ZI.out k hk
      have hit : itmsL I (k + 1) = itmsL I k ++ itmL ⟨xk, xn, xu, xs⟩ := by rw [← hx]; rfl
      rw [hx] at hcell hII hsz
      simp only at hsz
      have c0 : wr.cell? ⟨bb, off + k * 4, none⟩ = some (.int .i64 xk) := hcell 0 (by decide)
      have c1 : wr.cell? ⟨bb, off + k * 4 + 1, none⟩ = some (.int .i64 xn) := hcell 1 (by decide)
      have c2 : wr.cell? ⟨bb, off + k * 4 + 2, none⟩ = some (.int .u64 xu) := hcell 2 (by decide)
      have c3 : wr.cell? ⟨bb, off + k * 4 + 3, none⟩ = some (.string xs) := hcell 3 (by decide)
      have HL := Lib.hid (show (itmsL I k).length + xs.size ≤ 10000000 by omega)
      have HIT := Lib.hid hit
      have HII := Lib.hid hII
      clear hit hII hcell hc hx hsz hz hlen hz2
      go_wp2_with fail
      refine (put_it w1.heap.size w1.heap.size v (itmsL I k) xk xn xu xs _ H.out HII.out.1 HII.out.2 HL.out).mono ?_
      rintro e w2 ⟨rfl, v', a1, a2, a3⟩
      rw [← HIT.out] at a1
      have HB2 := Lib.hid (HB.out.trans (a2.below H.out))
      have A1 := Lib.hid a1
      clear c0 c1 c2 c3 a1 a2 a3
      go_wp2_with fail
      go_roundw
      case rel => exact ⟨k + 1, v', by omega, rfl, by go_num, A1.out, HB2.out⟩
      case measure => simp [intOf]; omega
    · obtain rfl : la = k := by omega
      have hlS := LI.out la (Nat.le_refl _)
      have hzS := ZI.out la (Nat.le_refl _)
      obtain ⟨S, hS⟩ : ∃ S, itmsL I la = S := ⟨_, rfl⟩
      rw [hS] at H hlS
      have sS : (bStr S).size ≤ 2000 := by rw [bStr_size]; omega
      have sSq : (bStr S).size + q.size ≤ 9223372036854775807 := by omega
      have LS := Lib.hid (show S.length ≤ 2000 by omega)
      have HS := Lib.hid hS
      clear hlS hzS hS
      go_wp2_with fail
      refine (wbytes_any w1.heap.size w1.heap.size v S _ H.out).mono ?_
      rintro e w2 ⟨rfl, rfl⟩
      go_wp2_with fail
      obtain ⟨T, hT⟩ : ∃ T, bStr S ++ q = T := ⟨_, rfl⟩
      rw [hT]
      refine (rof_any T _).mono ?_
      rintro e w2 ⟨rfl, hw2⟩
      have r2 : RdAt w2 wr.heap.size T 0 0 := by rw [← hw2]; exact RdAt.new wr T
      have hb2 : Below w1.heap.size w1 w2 := by rw [← hw2]; exact HB.out.alloc HB.out.size _
      have hn1 : w1.heap.size ≤ wr.heap.size := HB.out.size
      have hn2 : wr.heap.size < w2.heap.size := r2.lt
      rw [bs_str] at hT
      have HTq := Lib.hid hT
      have R2 := Lib.hid r2
      have HB2 := Lib.hid hb2
      clear hw2 r2 hb2 hT H HB
      obtain ⟨w0, rfl⟩ : ∃ w0 : World, w0 = wr := ⟨_, rfl⟩
      go_wp2_with fail
      go_loopw [10] (fun i wr => ∃ k : Nat, k ≤ la ∧ i = .int .i64 k ∧ RdAt wr w0.heap.size T (itmsL I k).length 0 ∧ Below w1.heap.size w1 wr ∧ w0.heap.size < wr.heap.size) (fun i _ => la - (intOf i).toNat)
      case atStart => exact ⟨0, by omega, rfl, R2.out, HB2.out, hn2⟩
      case round =>
        obtain ⟨k, hk, rfl, hR, hB, hnq⟩ := hrel
        clear R2 HB2 hn2
        by_cases hlt : k < la
        · obtain ⟨bb, off, rfl, hbl, hc⟩ := (HA.out.later hb1).cells (by omega)
          have hcell : ∀ j, j < 4 → wr.cell? ⟨bb, off + k * 4 + j, none⟩ = (itmCells (I k))[j]? := fun j hj => (World.cell?_of_block (w := w1) (a := ⟨bb, _, none⟩) (hB.block bb hbl)).trans (hc k hlt j hj)
          obtain ⟨R, hsp⟩ := itmsL_split I hlt
          obtain ⟨⟨xk, xn, xu, xs⟩, hx⟩ : ∃ x, I k = x := ⟨_, rfl⟩
          obtain ⟨hxn, hxu⟩ := HI.out k
          have hsz := szs_at I (show k < k + 1 by omega)
          have hz := ZI.out (k + 1) (by omega)
          have hit : itmsL I (k + 1) = itmsL I k ++ itmL ⟨xk, xn, xu, xs⟩ := by rw [← hx]; rfl
          rw [hx] at hcell hxn hxu hsz hsp
          simp only at hsz hxn hxu
          have hxs : xs.size ≤ 1000 := by omega
          have hTT : T = bStr (itmsL I k ++ itmL ⟨xk, xn, xu, xs⟩ ++ (R ++ q.data.toList)) := by
            rw [← HTq.out, ← HS.out, hsp]; simp only [List.append_assoc]
          have hTl : (itmsL I k ++ itmL ⟨xk, xn, xu, xs⟩ ++ (R ++ q.data.toList)).length ≤ 100000 := by
            have h1 : T.size = (itmsL I k ++ itmL ⟨xk, xn, xu, xs⟩ ++ (R ++ q.data.toList)).length := by rw [hTT]; rfl
            have h2 : T.size = S.length + q.data.toList.length := by rw [← HTq.out, bStr_size, List.length_append]
            have h3 : q.data.toList.length = q.size := by simp
            have := LS.out
            omega
          have c0 : wr.cell? ⟨bb, off + k * 4, none⟩ = some (.int .i64 xk) := hcell 0 (by decide)
          have c1 : wr.cell? ⟨bb, off + k * 4 + 1, none⟩ = some (.int .i64 xn) := hcell 1 (by decide)
          have c2 : wr.cell? ⟨bb, off + k * 4 + 2, none⟩ = some (.int .u64 xu) := hcell 2 (by decide)
          have c3 : wr.cell? ⟨bb, off + k * 4 + 3, none⟩ = some (.string xs) := hcell 3 (by decide)
          generalize itmsL I k = P at hR hit hTT hTl
          generalize R ++ q.data.toList = Q at hTT hTl
          have HXN := Lib.hid hxn
          have HXU := Lib.hid hxu
          have HIT := Lib.hid hit
          have HTT := Lib.hid hTT
          have HTL := Lib.hid hTl
          have HR := Lib.hid hR
          have HB := Lib.hid hB
          have hbx : bb < wr.heap.size := Nat.lt_of_lt_of_le hbl hB.size
          clear hit hcell hc hx hsz hz hsp hTT hTl hR hB hxn hxu
          by_cases h0 : xk = 0
          · subst h0
            have HI0 := Lib.hid (show itmL ⟨0, xn, xu, xs⟩ = [UInt8.ofNat (xn % 256).toNat] by unfold itmL; rw [if_pos rfl])
            rw [HI0.out] at HTT HTL HIT
            have CB := fun W h => back_byte w0.heap.size P Q (UInt8.ofNat (xn % 256).toNat) W h (by have := HTL.out; omega)
            rw [← HTT.out] at CB
            have HCB := Lib.hid CB
            clear CB
            have hbl : Below w1.heap.size w1 (wr.alloc (.cells #[.int .i64 0, .int .i64 xn, .int .u64 xu, .string xs] 30)) := HB.out.alloc HB.out.size _
            have hk3 : (wr.alloc (.cells #[.int .i64 0, .int .i64 xn, .int .u64 xu, .string xs] 30)).cell? ⟨wr.heap.size, 1, none⟩ = some (.int .i64 xn) := by simp
            have hr3 := HR.out.later ((Below.refl _ wr).alloc (Nat.le_refl _) (.cells #[.int .i64 0, .int .i64 xn, .int .u64 xu, .string xs] 30))
            have hzz : (wr.alloc (.cells #[.int .i64 0, .int .i64 xn, .int .u64 xu, .string xs] 30)).heap.size = wr.heap.size + 1 := by simp
            have HBL := Lib.hid hbl
            have HR3 := Lib.hid hr3
            have HZZ := Lib.hid hzz
            clear hbl hr3 hzz
            go_wp2_with fail
            generalize wr.alloc (.cells #[.int .i64 0, .int .i64 xn, .int .u64 xu, .string xs] 30) = V at hk3 HBL HR3 HZZ ⊢
            have hcm : xn % 256 = ((UInt8.ofNat (xn % 256).toNat).toNat : Int) := by rw [← u8_conv xn, IntKind.wrap_u8]
            obtain ⟨bq, hbq⟩ : ∃ bq, UInt8.ofNat (xn % 256).toNat = bq := ⟨_, rfl⟩
            rw [hbq] at hcm HCB HIT
            have hcw : IntKind.u8.wrap xn = (bq.toNat : Int) := by rw [IntKind.wrap_u8, hcm]
            have heq : ((bq.toNat : Int) == xn % 256) = true := by rw [hcm]; simp
            clear hbq hcm
            go_region_held3 (fun w' => w'.cell? ⟨wr.heap.size, 1, none⟩ = some (.int .i64 xn)) (first | assumption | (simp; assumption))
              ((go_at_call 24; (with_reducible refine (HCB.out _ (HR3.out.at (w' := V.drew) rfl)).mono ?_); rintro e w3 ⟨rfl, hR3, hO3⟩; have hk4 := (World.cell?_of_block (w := V) (a := ⟨wr.heap.size, 1, none⟩) (hO3.block wr.heap.size (by have := HZZ.out; simp; omega) (by omega))).trans hk3))
            all_goals go_wp2_with fail
            all_goals go_roundw
            all_goals first | (simp [intOf]; omega) | exact ⟨k + 1, by omega, by go_num, by rw [HIT.out]; exact hR3, HBL.out.trans (Only.below (w := V) (b := w0.heap.size) ⟨hO3.os, hO3.tape, hO3.output, hO3.size, hO3.block⟩ hn1 HBL.out.size), by have h1 := HZZ.out; have h2 : V.heap.size ≤ w3.heap.size := hO3.size; omega⟩
          by_cases h1 : xk = 1
          · subst h1
            have HI0 := Lib.hid (show itmL ⟨1, xn, xu, xs⟩ = lebL xu by unfold itmL; rw [if_neg (show ¬ ((1 : Int) = 0) by decide)]; rw [if_pos rfl])
            rw [HI0.out] at HTT HTL HIT
            have CB := fun W h => back_num w0.heap.size P Q xu HXU.out W h (by have := HTL.out; omega)
            rw [← HTT.out] at CB
            have HCB := Lib.hid CB
            clear CB h0
            have hbl : Below w1.heap.size w1 (wr.alloc (.cells #[.int .i64 1, .int .i64 xn, .int .u64 xu, .string xs] 30)) := HB.out.alloc HB.out.size _
            have hk3 : (wr.alloc (.cells #[.int .i64 1, .int .i64 xn, .int .u64 xu, .string xs] 30)).cell? ⟨wr.heap.size, 2, none⟩ = some (.int .u64 xu) := by simp
            have hr3 := HR.out.later ((Below.refl _ wr).alloc (Nat.le_refl _) (.cells #[.int .i64 1, .int .i64 xn, .int .u64 xu, .string xs] 30))
            have hzz : (wr.alloc (.cells #[.int .i64 1, .int .i64 xn, .int .u64 xu, .string xs] 30)).heap.size = wr.heap.size + 1 := by simp
            have HBL := Lib.hid hbl
            have HR3 := Lib.hid hr3
            have HZZ := Lib.hid hzz
            clear hbl hr3 hzz
            go_wp2_with fail
            generalize wr.alloc (.cells #[.int .i64 1, .int .i64 xn, .int .u64 xu, .string xs] 30) = V at hk3 HBL HR3 HZZ ⊢
            go_region_held3 (fun w' => w'.cell? ⟨wr.heap.size, 2, none⟩ = some (.int .u64 xu)) (first | assumption | (simp; assumption))
              ((go_at_call 25; (with_reducible refine (HCB.out _ (HR3.out.at (w' := V.drew) rfl)).mono ?_); rintro e w3 ⟨rfl, hR3, hO3⟩; have hk4 := (World.cell?_of_block (w := V) (a := ⟨wr.heap.size, 2, none⟩) (hO3.block wr.heap.size (by have := HZZ.out; simp; omega) (by omega))).trans hk3))
            all_goals go_wp2_with fail
            all_goals go_roundw
            all_goals first | (simp [intOf]; omega) | exact ⟨k + 1, by omega, by go_num, by rw [HIT.out]; exact hR3, HBL.out.trans (Only.below (w := V) (b := w0.heap.size) ⟨hO3.os, hO3.tape, hO3.output, hO3.size, hO3.block⟩ hn1 HBL.out.size), by have h1 := HZZ.out; have h2 : V.heap.size ≤ w3.heap.size := hO3.size; omega⟩
          by_cases h3 : xk = 3
          · subst h3
            have HI0 := Lib.hid (show itmL ⟨3, xn, xu, xs⟩ = lebL (zigF xn) by unfold itmL; rw [if_neg (show ¬ ((3 : Int) = 0) by decide)]; rw [if_neg (show ¬ ((3 : Int) = 1) by decide)]; rw [if_pos rfl])
            rw [HI0.out] at HTT HTL HIT
            have CB := fun W h => back_int w0.heap.size P Q xn HXN.out W h (by have := HTL.out; omega)
            rw [← HTT.out] at CB
            have HCB := Lib.hid CB
            clear CB h0 h1
            have hbl : Below w1.heap.size w1 (wr.alloc (.cells #[.int .i64 3, .int .i64 xn, .int .u64 xu, .string xs] 30)) := HB.out.alloc HB.out.size _
            have hk3 : (wr.alloc (.cells #[.int .i64 3, .int .i64 xn, .int .u64 xu, .string xs] 30)).cell? ⟨wr.heap.size, 1, none⟩ = some (.int .i64 xn) := by simp
            have hr3 := HR.out.later ((Below.refl _ wr).alloc (Nat.le_refl _) (.cells #[.int .i64 3, .int .i64 xn, .int .u64 xu, .string xs] 30))
            have hzz : (wr.alloc (.cells #[.int .i64 3, .int .i64 xn, .int .u64 xu, .string xs] 30)).heap.size = wr.heap.size + 1 := by simp
            have HBL := Lib.hid hbl
            have HR3 := Lib.hid hr3
            have HZZ := Lib.hid hzz
            clear hbl hr3 hzz
            go_wp2_with fail
            generalize wr.alloc (.cells #[.int .i64 3, .int .i64 xn, .int .u64 xu, .string xs] 30) = V at hk3 HBL HR3 HZZ ⊢
            go_region_held3 (fun w' => w'.cell? ⟨wr.heap.size, 1, none⟩ = some (.int .i64 xn)) (first | assumption | (simp; assumption))
              ((go_at_call 26; (with_reducible refine (HCB.out _ (HR3.out.at (w' := V.drew) rfl)).mono ?_); rintro e w3 ⟨rfl, hR3, hO3⟩; have hk4 := (World.cell?_of_block (w := V) (a := ⟨wr.heap.size, 1, none⟩) (hO3.block wr.heap.size (by have := HZZ.out; simp; omega) (by omega))).trans hk3))
            all_goals go_wp2_with fail
            all_goals go_roundw
            all_goals first | (simp [intOf]; omega) | exact ⟨k + 1, by omega, by go_num, by rw [HIT.out]; exact hR3, HBL.out.trans (Only.below (w := V) (b := w0.heap.size) ⟨hO3.os, hO3.tape, hO3.output, hO3.size, hO3.block⟩ hn1 HBL.out.size), by have h1 := HZZ.out; have h2 : V.heap.size ≤ w3.heap.size := hO3.size; omega⟩
          by_cases h4 : xk = 4
          · subst h4
            have HI0 := Lib.hid (show itmL ⟨4, xn, xu, xs⟩ = lebL xs.size ++ xs.data.toList by unfold itmL; rw [if_neg (show ¬ ((4 : Int) = 0) by decide)]; rw [if_neg (show ¬ ((4 : Int) = 1) by decide)]; rw [if_neg (show ¬ ((4 : Int) = 3) by decide)]; rw [if_pos rfl])
            rw [HI0.out] at HTT HTL HIT
            have CB := fun W h => back_text w0.heap.size P Q xs W h HTL.out
            rw [← HTT.out] at CB
            have HCB := Lib.hid CB
            clear CB h0 h1 h3
            have hbl : Below w1.heap.size w1 (wr.alloc (.cells #[.int .i64 4, .int .i64 xn, .int .u64 xu, .string xs] 30)) := HB.out.alloc HB.out.size _
            have hk3 : (wr.alloc (.cells #[.int .i64 4, .int .i64 xn, .int .u64 xu, .string xs] 30)).cell? ⟨wr.heap.size, 3, none⟩ = some (.string xs) := by simp
            have hr3 := HR.out.later ((Below.refl _ wr).alloc (Nat.le_refl _) (.cells #[.int .i64 4, .int .i64 xn, .int .u64 xu, .string xs] 30))
            have hzz : (wr.alloc (.cells #[.int .i64 4, .int .i64 xn, .int .u64 xu, .string xs] 30)).heap.size = wr.heap.size + 1 := by simp
            have HBL := Lib.hid hbl
            have HR3 := Lib.hid hr3
            have HZZ := Lib.hid hzz
            clear hbl hr3 hzz
            go_wp2_with fail
            generalize wr.alloc (.cells #[.int .i64 4, .int .i64 xn, .int .u64 xu, .string xs] 30) = V at hk3 HBL HR3 HZZ ⊢
            go_region_held3 (fun w' => w'.cell? ⟨wr.heap.size, 3, none⟩ = some (.string xs)) (first | assumption | (simp; assumption))
              ((go_at_call 27; (with_reducible refine (HCB.out _ (HR3.out.at (w' := V.drew) rfl)).mono ?_); rintro e w3 ⟨rfl, hR3, hO3⟩; have hk4 := (World.cell?_of_block (w := V) (a := ⟨wr.heap.size, 3, none⟩) (hO3.block wr.heap.size (by have := HZZ.out; simp; omega) (by omega))).trans hk3))
            all_goals go_wp2_with fail
            all_goals go_roundw
            all_goals first | (simp [intOf]; omega) | exact ⟨k + 1, by omega, by go_num, by rw [HIT.out]; exact hR3, HBL.out.trans (Only.below (w := V) (b := w0.heap.size) ⟨hO3.os, hO3.tape, hO3.output, hO3.size, hO3.block⟩ hn1 HBL.out.size), by have h1 := HZZ.out; have h2 : V.heap.size ≤ w3.heap.size := hO3.size; omega⟩
          by_cases h5 : xk = 5
          · subst h5
            have HI0 := Lib.hid (show itmL ⟨5, xn, xu, xs⟩ = xs.data.toList by unfold itmL; rw [if_neg (show ¬ ((5 : Int) = 0) by decide)]; rw [if_neg (show ¬ ((5 : Int) = 1) by decide)]; rw [if_neg (show ¬ ((5 : Int) = 3) by decide)]; rw [if_neg (show ¬ ((5 : Int) = 4) by decide)]; rw [if_pos rfl])
            rw [HI0.out] at HTT HTL HIT
            have CB := fun W h => back_raw w0.heap.size P Q xs W h HTL.out
            rw [← HTT.out] at CB
            have HCB := Lib.hid CB
            clear CB h0 h1 h3 h4
            have hbl : Below w1.heap.size w1 (wr.alloc (.cells #[.int .i64 5, .int .i64 xn, .int .u64 xu, .string xs] 30)) := HB.out.alloc HB.out.size _
            have hk3 : (wr.alloc (.cells #[.int .i64 5, .int .i64 xn, .int .u64 xu, .string xs] 30)).cell? ⟨wr.heap.size, 3, none⟩ = some (.string xs) := by simp
            have hr3 := HR.out.later ((Below.refl _ wr).alloc (Nat.le_refl _) (.cells #[.int .i64 5, .int .i64 xn, .int .u64 xu, .string xs] 30))
            have hzz : (wr.alloc (.cells #[.int .i64 5, .int .i64 xn, .int .u64 xu, .string xs] 30)).heap.size = wr.heap.size + 1 := by simp
            have HBL := Lib.hid hbl
            have HR3 := Lib.hid hr3
            have HZZ := Lib.hid hzz
            clear hbl hr3 hzz
            go_wp2_with fail
            generalize wr.alloc (.cells #[.int .i64 5, .int .i64 xn, .int .u64 xu, .string xs] 30) = V at hk3 HBL HR3 HZZ ⊢
            go_region_held3 (fun w' => w'.cell? ⟨wr.heap.size, 3, none⟩ = some (.string xs)) (first | assumption | (simp; assumption))
              ((go_at_call 28; (with_reducible refine (HCB.out _ (HR3.out.at (w' := V.drew) rfl)).mono ?_); rintro e w3 ⟨rfl, hR3, hO3⟩; have hk4 := (World.cell?_of_block (w := V) (a := ⟨wr.heap.size, 3, none⟩) (hO3.block wr.heap.size (by have := HZZ.out; simp; omega) (by omega))).trans hk3))
            all_goals go_wp2_with fail
            all_goals go_roundw
            all_goals first | (simp [intOf]; omega) | exact ⟨k + 1, by omega, by go_num, by rw [HIT.out]; exact hR3, HBL.out.trans (Only.below (w := V) (b := w0.heap.size) ⟨hO3.os, hO3.tape, hO3.output, hO3.size, hO3.block⟩ hn1 HBL.out.size), by have h1 := HZZ.out; have h2 : V.heap.size ≤ w3.heap.size := hO3.size; omega⟩
          have HI0 := Lib.hid (show itmL ⟨xk, xn, xu, xs⟩ = [] by unfold itmL; simp only; rw [if_neg h0, if_neg h1, if_neg h3, if_neg h4, if_neg h5])
          have b0 : (xk == 0) = false := by simpa using h0
          have b1 : (xk == 1) = false := by simpa using h1
          have b3 : (xk == 3) = false := by simpa using h3
          have b4 : (xk == 4) = false := by simpa using h4
          have b5 : (xk == 5) = false := by simpa using h5
          clear h0 h1 h3 h4 h5
          go_wp2_with fail
          go_roundw
          case rel => exact ⟨k + 1, by omega, by go_num, by rw [HIT.out, HI0.out, List.append_nil]; exact HR.out.later ((Below.refl _ wr).alloc (Nat.le_refl _) _), HB.out.alloc HB.out.size _, by simp; omega⟩
          case measure => simp [intOf]; omega
        · obtain rfl : k = la := by omega
          have hTz : T.size = S.length + q.size := by rw [← HTq.out, bStr_size, List.length_append]; simp
          have hSl : ((S.length : Int) == ((bStr S).size : Int)) = true := by rw [bStr_size]; simp
          rw [HS.out] at hR
          by_cases hq0 : 0 < q.size
          · have he := Lib.hid (show endF T S.length 0 = 5 by unfold endF; rw [if_pos ⟨rfl, by omega⟩])
            have hq1 : decide ((0 : Int) < q.size) = true := by simp; omega
            have hq2 : decide (0 < q.size) = true := by simp; omega
            have HR := Lib.hid hR
            clear hTz hR
            go_wp2_with fail
            refine (rat_any w0.heap.size T _ 0 _ HR.out).mono ?_
            rintro e w3 ⟨rfl, rfl⟩
            go_wp2_with fail
            refine (rend_any w0.heap.size T _ 0 _ HR.out).mono ?_
            rintro e w4 ⟨rfl, hb4⟩
            rw [he.out]
            go_wp2_with fail
            go_ret
            exact ⟨jret (by first | rfl | simp), hb1.trans ((hB.trans (hb4.mono hB.size)).mono hb1.size)⟩
          · have he := Lib.hid (show endF T S.length 0 = 0 by unfold endF; rw [if_neg (by omega)])
            have hq1 : decide ((0 : Int) < q.size) = false := decide_eq_false (by omega)
            have hq2 : decide (0 < q.size) = false := decide_eq_false (by omega)
            have HR := Lib.hid hR
            clear hTz hR hq0
            go_wp2_with fail
            refine (rat_any w0.heap.size T _ 0 _ HR.out).mono ?_
            rintro e w3 ⟨rfl, rfl⟩
            go_wp2_with fail
            refine (rend_any w0.heap.size T _ 0 _ HR.out).mono ?_
            rintro e w4 ⟨rfl, hb4⟩
            rw [he.out]
            go_wp2_with fail
            go_ret
            exact ⟨jret (by first | rfl | simp), hb1.trans ((hB.trans (hb4.mono hB.size)).mono hb1.size)⟩
set_option maxRecDepth 100000 in
set_option maxHeartbeats 4000000 in
theorem walk_wback (a : Option Addr) (la ca : Nat) (I : Nat → Itm) (q : ByteArray) (w : World) (hA : ItemsP w a la ca I) (hq : q.size ≤ maxLen) :
    Calls Try.prog 7 #[.slice a la ca, .string q] w fun e w' => e = .returned (.bool true) ∧ Below w.heap.size w w' := by
  obtain ⟨hA, ha1, ha2, _, hI, hsI⟩ := hA
  unfold maxLen at hq
  by_cases h1 : fewB I la = true
  · by_cases h2 : q.size ≤ 1000
    · unfold fewB at h1
      simp only [Bool.and_eq_true, decide_eq_true_eq] at h1
      exact back_in a la ca I q w hA hI hsI h1.1 h1.2 h2
    · have FA := Lib.hid (fun W h => few_any a la ca I W h hsI (by omega))
      have HA := Lib.hid hA
      have f1 := Lib.hid h1
      have hdq : decide ((1000 : Int) < q.size) = true := by simp; omega
      clear h1 hA hI hsI h2
      go_enter Try.func7, Try.ntmps7
      go_wp2_with fail
      refine (wireworks_any _).mono ?_
      rintro e w1 ⟨rfl, hw1⟩
      go_wp2_with fail
      refine (FA.out _ (HA.out.later hw1)).mono ?_
      rintro e w2 ⟨rfl, rfl⟩
      rw [f1.out]
      go_wp2_with fail
      go_ret
      exact ⟨rfl, hw1⟩
  · have FA := Lib.hid (fun W h => few_any a la ca I W h hsI (by omega))
    have HA := Lib.hid hA
    have f1 := Lib.hid (show fewB I la = false by simpa using h1)
    clear h1 hA hI hsI
    go_enter Try.func7, Try.ntmps7
    go_wp2_with fail
    refine (wireworks_any _).mono ?_
    rintro e w1 ⟨rfl, hw1⟩
    go_wp2_with fail
    refine (FA.out _ (HA.out.later hw1)).mono ?_
    rintro e w2 ⟨rfl, rfl⟩
    rw [f1.out]
    go_wp2_with fail
    go_ret
    exact ⟨rfl, hw1⟩
end Go.Proofs.Ytpnljefgenniaaa

