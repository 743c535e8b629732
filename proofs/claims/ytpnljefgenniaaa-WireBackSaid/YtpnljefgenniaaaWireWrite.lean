/- The reference's Write. No conditions. -/
import Derived.Test.YtpnljefgenniaaaWireJoins
namespace Go.Proofs.Ytpnljefgenniaaa
set_option linter.unusedVariables false
open Go Go.RowKit

theorem bs_add (L M : List UInt8) : bStr L ++ bStr M = bStr (L ++ M) := (bStr_append L M).symm
theorem bs_leb (L : List UInt8) (m : Nat) : bStr L ++ lebStr m = bStr (L ++ lebL m) := by rw [← bStr_leb, bs_add]
theorem bs_str (L : List UInt8) (s : ByteArray) : bStr L ++ s = bStr (L ++ s.data.toList) := by
  rw [← bs_add]; rfl
theorem Items.take {w : World} {a : Option Addr} {len k : Nat} {I : Nat → Itm} (h : Items w a len I) (hk : k ≤ len) : Items w a k I := by
  rcases h with h | ⟨b, off, ha, hb, hc⟩
  · exact .inl (by omega)
  · exact .inr ⟨b, off, ha, hb, fun i hi => hc i (by omega)⟩
set_option maxRecDepth 100000 in
set_option maxHeartbeats 16000000 in
theorem rwrite_in (b off len cap : Nat) (I : Nat → Itm) (w : World) (hb : b < w.heap.size) (hc : ∀ i, i < len → ∀ j, j < 4 → w.cell? ⟨b, off + i * 4 + j, none⟩ = (itmCells (I i))[j]?) (hI : ∀ i, I64 (I i).n ∧ U64 (I i).u) (hl : len ≤ 60) (hs : szs I len ≤ 1000) :
    Calls Try.prog 17 #[.slice (some ⟨b, off, none⟩) len cap] w fun e w' => e = .returned (.string (bStr (itmsL I len))) ∧ Below w.heap.size w w' := by
  have HC := Lib.hid hc
  have HI := Lib.hid hI
  have LI := Lib.hid (fun k (h : k ≤ len) => itmsL_len I hI k (by omega) (by have := szs_mono I h; omega))
  have ZI := Lib.hid (fun k (h : k ≤ len) => Nat.le_trans (szs_mono I h) hs)
  clear hc hI hs
  go_enter Try.func17, Try.ntmps17
  go_wp2
  go_loopw [3, 4] (fun x i wr => ∃ k : Nat, k ≤ len ∧ i = .int .i64 k ∧ x = .string (bStr (itmsL I k)) ∧ Below w.heap.size w wr) (fun _ i _ => len - (intOf i).toNat)
  case atStart => exact ⟨0, by omega, rfl, rfl, Below.refl _ _⟩
  case round =>
    obtain ⟨k, hk, rfl, rfl, hB⟩ := hrel
    by_cases hlt : k < len
    · have hcell : ∀ j, j < 4 → wr.cell? ⟨b, off + k * 4 + j, none⟩ = (itmCells (I k))[j]? := fun j hj => (World.cell?_of_block (w := w) (a := ⟨b, _, none⟩) (hB.block b hb)).trans (HC.out k hlt j hj)
      obtain ⟨⟨xk, xn, xu, xs⟩, hx⟩ : ∃ x, I k = x := ⟨_, rfl⟩
      obtain ⟨hxn, hxu⟩ := HI.out k
      have hsz := szs_at I (show k < k + 1 by omega)
      have hz := ZI.out (k + 1) (by omega)
      have hlen := LI.out k hk
      have hz2 := ZI.out k hk
      have hit : itmsL I (k + 1) = itmsL I k ++ itmL ⟨xk, xn, xu, xs⟩ := by rw [← hx]; rfl
      rw [hx] at hcell hxn hxu hsz
      simp only at hsz hxn hxu
      have c0 : wr.cell? ⟨b, off + k * 4, none⟩ = some (.int .i64 xk) := hcell 0 (by decide)
      have c1 : wr.cell? ⟨b, off + k * 4 + 1, none⟩ = some (.int .i64 xn) := hcell 1 (by decide)
      have c2 : wr.cell? ⟨b, off + k * 4 + 2, none⟩ = some (.int .u64 xu) := hcell 2 (by decide)
      have c3 : wr.cell? ⟨b, off + k * 4 + 3, none⟩ = some (.string xs) := hcell 3 (by decide)
      have hns := Nat.lt_of_lt_of_le hb hB.size
      have l10 := lebL_len hxu
      have l11 := lebL_len (zigF_u64 hxn)
      have l12 := lebL_len (show U64 xs.size by unfold U64; omega)
      have HXN := Lib.hid hxn
      have HXU := Lib.hid hxu
      have hLL : (bStr (itmsL I k)).size ≤ 2000 := by rw [bStr_size]; omega
      have hxs : xs.size ≤ 1000 := by omega
      have s1 : (bStr (itmsL I k)).size + xs.size ≤ 9223372036854775807 := by omega
      generalize hLq : itmsL I k = L at hit hLL s1 ⊢
      have HIT := Lib.hid hit
      have HB := Lib.hid hB
      clear hit hcell hx hsz hz hlen hz2 hB hxn hxu hLq
      by_cases h0 : xk = 0
      · subst h0
        have HI0 := Lib.hid (show itmL ⟨0, xn, xu, xs⟩ = [UInt8.ofNat (xn % 256).toNat] by unfold itmL; rw [if_pos rfl])
        have hcm : xn % 256 = (((xn % 256).toNat : Nat) : Int) := by omega
        obtain ⟨q, hq⟩ : ∃ q, (xn % 256).toNat = q := ⟨_, rfl⟩
        have hql : q < 256 := by omega
        rw [hq] at hcm HI0
        have hcv := conv1 q hql
        have hs0 : (⟨#[UInt8.ofNat q]⟩ : ByteArray).size ≤ 1 := Nat.le_refl _
        have s2 : (bStr L).size + (⟨#[UInt8.ofNat q]⟩ : ByteArray).size ≤ 9223372036854775807 := by omega
        clear hq
        go_wp2
        go_roundw
        case rel => exact ⟨k + 1, by omega, by go_num, by rw [HIT.out, HI0.out, bs_str], by have h := HB.out; have hz := h.size; go_grown⟩
        case measure => simp [intOf]; omega
      by_cases h1 : xk = 1
      · subst h1
        have HI0 := Lib.hid (show itmL ⟨1, xn, xu, xs⟩ = lebL xu by unfold itmL; rw [if_neg (show ¬ ((1 : Int) = 0) by decide), if_pos rfl])
        have s2 : (lebStr xu).size ≤ 10 := by rw [lebStr_size, ← List.length_map (f := UInt8.ofNat)]; exact l10
        have s3 : (bStr L).size + (lebStr xu).size ≤ 9223372036854775807 := by omega
        clear h0
        go_wp2_with fail
        refine (rput_any xu HXU.out _).mono ?_
        rintro e w2 ⟨rfl, hb2⟩
        go_wp2_with fail
        go_roundw
        case rel => exact ⟨k + 1, by omega, by go_num, by rw [HIT.out, HI0.out, ← bs_leb], (HB.out.alloc HB.out.size _).trans (hb2.mono (by have := HB.out.size; simp; omega))⟩
        case measure => simp [intOf]; omega
      by_cases h3 : xk = 3
      · subst h3
        have HI0 := Lib.hid (show itmL ⟨3, xn, xu, xs⟩ = lebL (zigF xn) by unfold itmL; rw [if_neg (show ¬ ((3 : Int) = 0) by decide), if_neg (show ¬ ((3 : Int) = 1) by decide), if_pos rfl])
        have s2 : (lebStr (zigF xn)).size ≤ 10 := by rw [lebStr_size, ← List.length_map (f := UInt8.ofNat)]; exact l11
        have s3 : (bStr L).size + (lebStr (zigF xn)).size ≤ 9223372036854775807 := by omega
        clear h0 h1
        go_wp2_with fail
        refine (rzput_any xn HXN.out _).mono ?_
        rintro e w2 ⟨rfl, hb2⟩
        go_wp2_with fail
        go_roundw
        case rel => exact ⟨k + 1, by omega, by go_num, by rw [HIT.out, HI0.out, ← bs_leb], (HB.out.alloc HB.out.size _).trans (hb2.mono (by have := HB.out.size; simp; omega))⟩
        case measure => simp [intOf]; omega
      by_cases h4 : xk = 4
      · subst h4
        have HI0 := Lib.hid (show itmL ⟨4, xn, xu, xs⟩ = lebL xs.size ++ xs.data.toList by unfold itmL; rw [if_neg (show ¬ ((4 : Int) = 0) by decide), if_neg (show ¬ ((4 : Int) = 1) by decide), if_neg (show ¬ ((4 : Int) = 3) by decide), if_pos rfl])
        have hu4 : U64 xs.size := by unfold U64; omega
        have s2 : (lebStr xs.size).size ≤ 10 := by rw [lebStr_size, ← List.length_map (f := UInt8.ofNat)]; exact l12
        have s3 : (bStr L).size + (lebStr xs.size).size ≤ 9223372036854775807 := by omega
        have s4 : (bStr L ++ lebStr xs.size).size + xs.size ≤ 9223372036854775807 := by rw [ByteArray.size_append]; omega
        have s5 : (bStr L ++ lebStr xs.size).size ≤ 5000 := by rw [ByteArray.size_append]; omega
        have HU4 := Lib.hid hu4
        clear h0 h1 h3 hu4
        go_wp2_with fail
        have hbl : Below w.heap.size w (wr.alloc (.cells #[.int .i64 4, .int .i64 xn, .int .u64 xu, .string xs] 30)) := HB.out.alloc HB.out.size _
        have hk3 : (wr.alloc (.cells #[.int .i64 4, .int .i64 xn, .int .u64 xu, .string xs] 30)).cell? ⟨wr.heap.size, 3, none⟩ = some (.string xs) := by simp
        have hlt2 : wr.heap.size < (wr.alloc (.cells #[.int .i64 4, .int .i64 xn, .int .u64 xu, .string xs] 30)).heap.size := by simp
        generalize wr.alloc (.cells #[.int .i64 4, .int .i64 xn, .int .u64 xu, .string xs] 30) = V at hbl hk3 hlt2 ⊢
        have HBL := Lib.hid hbl
        have HK := Lib.hid (show itmsL I (k + 1) = L ++ lebL xs.size ++ xs.data.toList by rw [HIT.out, HI0.out, List.append_assoc])
        clear hbl HIT HI0
        have hrfl := Below.refl V.heap.size V
        have hwr : IntKind.u64.wrap (xs.size : Int) = (xs.size : Int) := by rw [IntKind.wrap_u64]; omega
        have k3 : ∀ w', Below V.heap.size V w' → w'.cell? ⟨wr.heap.size, 3, none⟩ = some (.string xs) := fun w' h => (h.cell (p := ⟨wr.heap.size, 3, none⟩) hlt2).trans hk3
        have ra1 := fun W => run_string_add_sum (P := Try.prog) W (bStr L) (lebStr xs.size) s3
        have ra2 := fun W => run_string_add_sum (P := Try.prog) W (bStr L ++ lebStr xs.size) xs s4
        clear hk3
        go_region_held3 (fun w' => Below V.heap.size V w') (first | assumption | go_grown) ((go_at_call 43; (with_reducible refine (rput_any xs.size HU4.out _).mono ?_); rintro e w2 ⟨rfl, hb2⟩; obtain ⟨hbl2, hsz2⟩ := later' (by first | assumption | go_grown) hb2; clear hb2))
        all_goals go_wp2_with fail
        all_goals go_roundw
        all_goals first | (simp [intOf]; omega) | exact ⟨k + 1, by omega, by go_num, by rw [HK.out, ← bs_str, ← bs_leb], HBL.out.trans (Below.mono (by assumption) HBL.out.size)⟩
      by_cases h5 : xk = 5
      · subst h5
        have HI0 := Lib.hid (show itmL ⟨5, xn, xu, xs⟩ = xs.data.toList by unfold itmL; rw [if_neg (show ¬ ((5 : Int) = 0) by decide), if_neg (show ¬ ((5 : Int) = 1) by decide), if_neg (show ¬ ((5 : Int) = 3) by decide), if_neg (show ¬ ((5 : Int) = 4) by decide), if_pos rfl])
        clear h0 h1 h3 h4
        go_wp2_with fail
        go_roundw
        case rel => exact ⟨k + 1, by omega, by go_num, by rw [HIT.out, HI0.out, bs_str], HB.out.alloc HB.out.size _⟩
        case measure => simp [intOf]; omega
      have HI0 := Lib.hid (show itmL ⟨xk, xn, xu, xs⟩ = [] by unfold itmL; simp only; rw [if_neg h0, if_neg h1, if_neg h3, if_neg h4, if_neg h5])
      have b0 : (xk == 0) = false := by simpa using h0
      have b1 : (xk == 1) = false := by simpa using h1
      have b3 : (xk == 3) = false := by simpa using h3
      have b4 : (xk == 4) = false := by simpa using h4
      have b5 : (xk == 5) = false := by simpa using h5
      clear h0 h1 h3 h4 h5
      go_wp2_with fail
      go_roundw
      case rel => exact ⟨k + 1, by omega, by go_num, by rw [HIT.out, HI0.out, List.append_nil], HB.out.alloc HB.out.size _⟩
      case measure => simp [intOf]; omega
    · obtain rfl : k = len := by omega
      go_wp2
      go_ret
      exact ⟨rfl, hB⟩
set_option maxRecDepth 100000 in
theorem rwrite_any (a : Option Addr) (len cap : Nat) (I : Nat → Itm) (w : World) (h : Items w a len I) (hI : ∀ i, I64 (I i).n ∧ U64 (I i).u) (hl : len ≤ 60) (hs : szs I len ≤ 1000) :
    Calls Try.prog 17 #[.slice a len cap] w fun e w' => e = .returned (.string (bStr (itmsL I len))) ∧ Below w.heap.size w w' := by
  by_cases h0 : 0 < len
  · obtain ⟨b, off, rfl, hb, hc⟩ := h.cells h0
    exact rwrite_in b off len cap I w hb hc hI hl hs
  · obtain rfl : len = 0 := by omega
    have he := Lib.hid (show bStr (itmsL I 0) = ⟨#[]⟩ by rfl)
    rw [he.out]
    clear h hI hs
    go_enter Try.func17, Try.ntmps17
    go_wp2
    refine wp_loop_rounds 1 ?_
    rw [rounds_succ]; go_wp2
    go_ret
    exact ⟨rfl, Below.refl _ _⟩

set_option maxRecDepth 100000 in
set_option maxHeartbeats 8000000 in
theorem writes_in (a : Option Addr) (la ca : Nat) (I : Nat → Itm) (w : World) (hA : Items w a la I) (hI : ∀ i, I64 (I i).n ∧ U64 (I i).u) (hsI : ∀ i, i < la → (I i).s.size ≤ reachBytes) (l1 : la ≤ 60) (z1 : szs I la ≤ 1000) (lc : la ≤ ca) (lm : ca ≤ 9223372036854775807) :
    Calls Try.prog 3 #[.slice a la ca] w fun e w' => e = .returned (.bool true) ∧ Below w.heap.size w w' := by
  have f1 := Lib.hid (show fewB I la = true by unfold fewB; simp; omega)
  have FA := Lib.hid (fun W h => few_any a la ca I W h hsI (by unfold maxLen; omega))
  have HA := Lib.hid hA
  have HI := Lib.hid hI
  have LI := Lib.hid (fun k (h : k ≤ la) => itmsL_len I hI k (by omega) (by have := szs_mono I h; omega))
  have ZI := Lib.hid (fun k (h : k ≤ la) => Nat.le_trans (szs_mono I h) z1)
  clear hA hI hsI z1
  go_enter Try.func3, Try.ntmps3
  go_wp2_with fail
  refine (wireworks_any _).mono ?_
  rintro e w1 ⟨rfl, hb1⟩
  go_wp2_with fail
  refine (FA.out _ (HA.out.later hb1)).mono ?_
  rintro e w2 ⟨rfl, rfl⟩
  rw [f1.out]
  go_wp2_with (go_at_call 14; refine (wnew_any _).mono ?_; rintro e w2 ⟨rfl, rfl⟩)
  have HT := Lib.hid (WrAt.new w1 w1.heap.size (Nat.le_refl _))
  go_loopw [4, 5] (fun x i wr => ∃ (k : Nat) (v : Value), k ≤ la ∧ x = .pointer (some ⟨w1.heap.size, 0, none⟩) ∧ i = .int .i64 k ∧ WrAt wr w1.heap.size w1.heap.size v (itmsL I k) ∧ Below w1.heap.size w1 wr) (fun _ i _ => la - (intOf i).toNat)
  case atStart => exact ⟨0, _, by omega, rfl, rfl, HT.out, (Below.refl _ _).alloc (Nat.le_refl _) _⟩
  case round =>
    obtain ⟨k, v, hk, rfl, rfl, hW, hB⟩ := hrel
    have H := Lib.hid hW
    have HB := Lib.hid hB
    clear hW hB
    by_cases hlt : k < la
    · have HIT1 := Lib.hid (HA.out.later hb1)
      obtain ⟨bb, off, rfl, hbl, hc⟩ := HIT1.out.cells (by omega)
      have hcell : ∀ j, j < 4 → wr.cell? ⟨bb, off + k * 4 + j, none⟩ = (itmCells (I k))[j]? := fun j hj => (World.cell?_of_block (w := w1) (a := ⟨bb, _, none⟩) (HB.out.block bb hbl)).trans (hc k hlt j hj)
      obtain ⟨⟨xk, xn, xu, xs⟩, hx⟩ : ∃ x, I k = x := ⟨_, rfl⟩
      have hII := HI.out k
      have hsz := szs_at I (show k < k + 1 by omega)
      have hz := ZI.out (k + 1) (by omega)
      have hlen := LI.out k hk
      have hz2 := ZI.out k hk
      have hit : itmsL I (k + 1) = itmsL I k ++ itmL ⟨xk, xn, xu, xs⟩ := by rw [← hx]; rfl
      rw [hx] at hcell hII hsz
      simp only at hsz
      have c0 : wr.cell? ⟨bb, off + k * 4, none⟩ = some (.int .i64 xk) := hcell 0 (by decide)
      have c1 : wr.cell? ⟨bb, off + k * 4 + 1, none⟩ = some (.int .i64 xn) := hcell 1 (by decide)
      have c2 : wr.cell? ⟨bb, off + k * 4 + 2, none⟩ = some (.int .u64 xu) := hcell 2 (by decide)
      have c3 : wr.cell? ⟨bb, off + k * 4 + 3, none⟩ = some (.string xs) := hcell 3 (by decide)
      have HL := Lib.hid (show (itmsL I k).length + xs.size ≤ 10000000 by omega)
      have HIT := Lib.hid hit
      have HII := Lib.hid hII
      have hwk : IntKind.i64.wrap ((k : Int) + 1) = (k : Int) + 1 := IntWalk.i64_in _ (by omega)
      have HWK := Lib.hid hwk
      have hk1 : k + 1 ≤ ca := by omega
      have HS := Lib.hid (fun W h => rwrite_any (some ⟨bb, off, none⟩) (k + 1) ca I W h HI.out (by omega) (ZI.out (k + 1) (by omega)))
      clear hit hII hcell hc hx hsz hz hlen hz2 hwk
      go_wp2_with fail
      refine (put_it w1.heap.size w1.heap.size v (itmsL I k) xk xn xu xs _ H.out HII.out.1 HII.out.2 HL.out).mono ?_
      rintro e w2 ⟨rfl, v', a1, a2, a3⟩
      rw [← HIT.out] at a1
      have hb2 := a2.below H.out
      have HB2 := Lib.hid (HB.out.trans hb2)
      have A1 := Lib.hid a1
      have HTK := Lib.hid ((HIT1.out.below HB2.out (Nat.le_refl _)).take (show k + 1 ≤ la by omega))
      clear c0 c1 c2 c3 a1 a2 a3 hb2
      have hwk := HWK.out
      have ht1 : ((k : Int) + 1).toNat = k + 1 := by omega
      have hp0 : (0 : Int) ≤ (k : Int) + 1 := by omega
      have hp1 : (k : Int) + 1 ≤ (ca : Int) := by omega
      go_wp2_with fail
      go_region_held3 (fun w' => Below w2.heap.size w2 w') (first | assumption | go_grown | exact Below.refl _ _)
        (first
          | (go_at_call 16; (with_reducible refine (wbytes_any w1.heap.size w1.heap.size v' (itmsL I (k + 1)) _ (A1.out.later (by first | assumption | go_grown))).mono ?_); rintro e w3 ⟨rfl, rfl⟩)
          | (go_at_call 17; (with_reducible refine (HS.out _ (HTK.out.later (by first | assumption | go_grown))).mono ?_); rintro e w3 ⟨rfl, hb3⟩; obtain ⟨hbl3, hsz3⟩ := later' (by first | assumption | go_grown) hb3; clear hb3))
      all_goals go_wp2_with fail
      all_goals go_roundw
      all_goals first | (simp [intOf]; omega) | exact ⟨k + 1, v', by omega, rfl, by go_num, A1.out.later (by assumption), HB2.out.trans (Below.mono (by assumption) HB2.out.size)⟩
    · obtain rfl : k = la := by omega
      go_wp2_with fail
      go_ret
      exact ⟨rfl, hb1.trans (HB.out.mono hb1.size)⟩
set_option maxRecDepth 100000 in
set_option maxHeartbeats 4000000 in
theorem walk_wwrites (a : Option Addr) (la ca : Nat) (I : Nat → Itm) (w : World) (hA : ItemsP w a la ca I) :
    Calls Try.prog 3 #[.slice a la ca] w fun e w' => e = .returned (.bool true) ∧ Below w.heap.size w w' := by
  obtain ⟨hA, ha1, ha2, _, hI, hsI⟩ := hA
  by_cases h1 : fewB I la = true
  · unfold fewB at h1
    simp only [Bool.and_eq_true, decide_eq_true_eq] at h1
    exact writes_in a la ca I w hA hI hsI h1.1 h1.2 ha1 (by unfold maxLen at ha2; omega)
  · have FA := Lib.hid (fun W h => few_any a la ca I W h hsI (by omega))
    have HA := Lib.hid hA
    have f1 := Lib.hid (show fewB I la = false by simpa using h1)
    clear h1 hA hI hsI
    go_enter Try.func3, Try.ntmps3
    go_wp2_with fail
    refine (wireworks_any _).mono ?_
    rintro e w1 ⟨rfl, hw1⟩
    go_wp2_with fail
    refine (FA.out _ (HA.out.later hw1)).mono ?_
    rintro e w2 ⟨rfl, rfl⟩
    rw [f1.out]
    go_wp2_with fail
    go_ret
    exact ⟨rfl, hw1⟩
end Go.Proofs.Ytpnljefgenniaaa

