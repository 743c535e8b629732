/- Who turns bits of one section's data and its tail is found out: the walk. No conditions. -/
import Derived.Test.YtanbifhhoeaofaaContBack
import Derived.Test.YtanbifhhoeaofaaCrcTurnWalk
namespace Go.Proofs.Ytanbifhhoeaofaa
set_option linter.unusedVariables false
open Go Go.RowKit

theorem wrapS {n : Int} (h0 : 0 ≤ n) (h : n < 4611686018427387904) : IntKind.i64.wrap n = n := by rw [IntKind.wrap_i64]; omega
/-- the parts of a container around one section's data and tail -/
theorem burst_parts {L : List Sec} {k : Nat} {x : Sec} (hx : L[k]? = some x) : cBytes L = (magicL ++ framesL (L.take k) ++ fHead x.1 x.2) ++ ((x.2.data.toList ++ crcTail (fHead x.1 x.2 ++ x.2.data.toList)) ++ (framesL (L.drop (k + 1)) ++ cBehind L)) := by
  have hsplit : L = L.take k ++ (x :: L.drop (k + 1)) := by
    obtain ⟨hlt, he⟩ := List.getElem?_eq_some_iff.1 hx
    rw [← he, List.getElem_cons_drop, List.take_append_drop]
  have e : framesL L = framesL (L.take k) ++ (fFrame x.1 x.2 ++ framesL (L.drop (k + 1))) := by
    have := congrArg framesL hsplit
    rwa [framesL_app, framesL_cons] at this
  unfold cBytes
  rw [e]
  unfold fFrame
  simp only [List.append_assoc]
/-- what Open answers of a container so turned -/
theorem burst_open {L : List Sec} (ho : cOrd L = true) (hs : dSum L ≤ 3000) {k : Nat} {x : Sec} (hx : L[k]? = some x) {at_ m : Nat} (hm : m < 4294967296) :
    ∃ (A w0 B : List UInt8), bStr (cBytes L) = bStr (A ++ (w0 ++ B)) ∧ A.length = 7 + cSum (L.take k) + (bStr (fHead x.1 x.2)).size ∧ w0.length = x.2.size + 4 ∧ A.length + w0.length + B.length ≤ 4000 ∧
      ∀ l, Turned w0 l at_ m → l.length = w0.length ∧ ((l = w0 ∧ cOpen (bStr (A ++ (l ++ B))) = (L, 0)) ∨ (l ≠ w0 ∧ cOpen (bStr (A ++ (l ++ B))) = ([], 8))) := by
  refine ⟨magicL ++ framesL (L.take k) ++ fHead x.1 x.2, x.2.data.toList ++ crcTail (fHead x.1 x.2 ++ x.2.data.toList), framesL (L.drop (k + 1)) ++ cBehind L, by rw [burst_parts hx], ?_, ?_, ?_, ?_⟩
  · rw [List.length_append, List.length_append, framesL_len]; rfl
  · rw [List.length_append, crcTail_len, ba_len]
  · have h := (cSmall ho hs).2
    rw [burst_parts hx] at h
    simp only [List.length_append] at h ⊢
    omega
  · intro l hl
    refine ⟨hl.1, ?_⟩
    by_cases he : l = x.2.data.toList ++ crcTail (fHead x.1 x.2 ++ x.2.data.toList)
    · left
      refine ⟨he, ?_⟩
      rw [he, ← burst_parts hx]
      exact cOpen_back ho (by omega)
    · right
      refine ⟨he, ?_⟩
      rcases cOpen_burst ho (by omega) hx hm hl with h | h
      · exact absurd h he
      · simp only [List.append_assoc] at h ⊢
        exact h
theorem burst_cat (A l B : List UInt8) : bStr A ++ bStr l ++ bStr B = bStr (A ++ (l ++ B)) := by rw [bs2, bs2, List.append_assoc]
theorem burst_same {A B l w0 : List UInt8} {S : ByteArray} (h : l = w0) (hS : bStr (A ++ (w0 ++ B)) = S) : ((bStr A ++ bStr l ++ bStr B).toList == S.toList) = true := by
  rw [burst_cat, h, hS]; simp
theorem burst_unlike {A B l w0 : List UInt8} {S : ByteArray} (h : l ≠ w0) (hS : bStr (A ++ (w0 ++ B)) = S) : ((bStr A ++ bStr l ++ bStr B).toList == S.toList) = false := by
  rw [burst_cat, ← hS]
  refine str_neq fun e => h ?_
  have := congrArg (fun b : ByteArray => b.data.toList) e
  simp only [bStr_l] at this
  exact List.append_cancel_right (List.append_cancel_left this)
set_option maxRecDepth 100000 in
set_option maxHeartbeats 8000000 in
theorem cbursts_in (pa : Option Addr) (ca : Nat) (L : List Sec) (k a m : Nat) (w : World) (hL : SecsAt w pa L ∧ L.length ≤ maxLen ∧ ∀ x ∈ L, x.2.size ≤ reachBytes) (hf : fewC L = true) (hk : k < L.length) (ha : a ≤ 48000) (hm : m < 4294967296) :
    Calls Try.prog 7 #[.slice pa L.length ca, .int .i64 k, .int .i64 a, .int .u32 m] w fun e w' => e = .returned (.bool true) ∧ Below w.heap.size w w' := by
  obtain ⟨a1, a2, a3⟩ := hL
  have RA := Lib.hid (fun W (h : Below w.heap.size w W) => a1.below h (Nat.le_refl _))
  have FA := Lib.hid (fun W h => fewC_any pa ca L W h a2 a3)
  have SB := Lib.hid (fun W h (ho : cOrd L = false) => cseal_bad pa ca L W h a2 ho)
  have SG := Lib.hid (fun W h (ho : cOrd L = true) (hb : (cBytes L).length ≤ 1048576) => cseal_ok pa ca L W h ho hb)
  rw [hf] at FA
  obtain ⟨f1, f2⟩ := fewC_ok hf
  clear a1 a2 a3 hf
  have d1 : decide ((k : Int) < 0) = false := by simp
  have d2 : decide ((k : Int) ≥ (L.length : Int)) = false := by simp; omega
  have d2' : decide (L.length ≤ k) = false := by simp; omega
  have d3 : decide ((a : Int) < 0) = false := by simp
  have d4 : decide ((a : Int) > 48000) = false := by simp; omega
  by_cases ho : cOrd L = true
  · obtain ⟨x, hx⟩ := sec_at hk
    obtain ⟨A, w0, B, hS, hAl, hwl, hbl, hT⟩ := burst_open ho f2 hx (at_ := a) hm
    have SG1 := Lib.hid (fun W h => SG.out W h ho (by have := (cSmall ho f2).2; omega))
    rw [hS] at SG1
    have HT := Lib.hid hT
    have HTW := Lib.hid (fun W => turn_any (bStr w0) a m W (by rw [bStr_size]; omega) (by omega) hm)
    have HSN := Lib.hid (fun k x h => cSum_snoc (L := L) (k := k) (x := x) h)
    have HSL := Lib.hid (cSum_take_le L)
    have HZ := Lib.hid (fun (k : Nat) (x : Sec) (h : L[k]? = some x) => show x.2.size ≤ 3000 by have := dSum_mem (List.mem_of_getElem? h); omega)
    have HAT := Lib.hid (fun j (h : j < L.length) => sec_at (A := L) h)
    have HX := Lib.hid hx
    have hcs := (cSmall ho f2).1
    have HSZ := Lib.hid (show (bStr (A ++ (w0 ++ B))).size = A.length + (w0.length + B.length) by rw [bStr_size, List.length_append, List.length_append])
    have HE1 := Lib.hid (show (bStr (A ++ (w0 ++ B))).extract 0 A.length = bStr A from ext_mid (p := []) (r := w0 ++ B) rfl rfl (by omega))
    have HE2 := Lib.hid (show (bStr (A ++ (w0 ++ B))).extract A.length (A.length + w0.length) = bStr w0 from ext_mid (p := A) (r := B) (by rw [bStr_l]) rfl rfl)
    have HE3 := Lib.hid (show (bStr (A ++ (w0 ++ B))).extract (A.length + w0.length) (bStr (A ++ (w0 ++ B))).size = bStr B from ext_mid (p := A ++ w0) (r := []) (by rw [bStr_l, List.append_nil, List.append_assoc]) (by rw [List.length_append]) (by rw [HSZ.out]; omega))
    clear hS hT hx SG SB ho
    have HB1 := Lib.hid hbl
    have hAl2 : A.length ≤ 4000 := by omega
    have hto : A.length + w0.length ≤ A.length + (w0.length + B.length) := by omega
    obtain ⟨fr, hfr⟩ : ∃ q, A.length = q := ⟨_, rfl⟩
    obtain ⟨wl, hwl2⟩ : ∃ q, w0.length = q := ⟨_, rfl⟩
    obtain ⟨bl, hbl2⟩ : ∃ q, B.length = q := ⟨_, rfl⟩
    rw [hfr] at HE1
    rw [hfr, hwl2] at HE2 HE3
    rw [hfr, hwl2, hbl2] at HSZ
    rw [hfr] at hAl
    rw [hwl2] at hwl
    rw [hfr, hwl2, hbl2] at hbl
    have HFR := Lib.hid hfr
    have HWL := Lib.hid hwl2
    have HBL := Lib.hid hbl2
    clear hfr hwl2 hbl2 hAl2 hto HB1
    obtain ⟨S, hS⟩ : ∃ S, bStr (A ++ (w0 ++ B)) = S := ⟨_, rfl⟩
    rw [hS] at SG1 HSZ HE1 HE2 HE3
    have HS := Lib.hid hS
    have hsz := HSZ.out
    clear hS
    generalize L.length = n at *
    go_enter Try.func7, Try.ntmps7
    go_wp2_with fail
    refine (cworks_any w).mono ?_
    rintro e w1 ⟨rfl, hb⟩
    have B1 := Lib.hid hb
    clear hb
    go_wp2_with fail
    refine (FA.out w1 (RA.out w1 B1.out)).mono ?_
    rintro e w2 ⟨rfl, rfl⟩
    go_wp2_with fail
    refine (SG1.out w1 (RA.out w1 B1.out)).mono ?_
    rintro e w3 ⟨rfl, hb⟩
    have B3 := Lib.hid (B1.out.trans (hb.mono B1.out.size))
    clear hb B1 FA SG1
    go_wp2_with fail
    go_loopw [13, 14] (fun f i wr => ∃ j : Nat, j ≤ k ∧ i = .int .i64 j ∧ f = .int .i64 (7 + cSum (L.take j) : Nat) ∧ Below w.heap.size w wr) (fun _ i _ => k - (intOf i).toNat)
    case atStart => exact ⟨0, by omega, rfl, rfl, B3.out⟩
    case round =>
      obtain ⟨j, hj, rfl, rfl, hB⟩ := hrel
      have HB := Lib.hid hB
      have hzz := hB.size
      clear hB B3
      by_cases hlt : j < k
      · obtain ⟨y, hy⟩ := HAT.out j (by omega)
        obtain ⟨b, off, hp, hbb, c0, c1⟩ := (RA.out wr HB.out).at hy
        have HS1 := Lib.hid (HSN.out j y hy)
        have hu := HSL.out (j + 1)
        rw [HS1.out] at hu
        have hz := HZ.out j y hy
        obtain ⟨ty, d⟩ := y
        simp only at c0 c1 hz
        subst hp
        have HD := Lib.hid (fun W => head_any ty d W (by omega))
        have hcz : cSize (ty, d) = (bStr (fHead ty d)).size + d.size + 4 := rfl
        generalize cSum (L.take j) = q at *
        generalize bStr (fHead ty d) = H at HD hcz
        rw [hcz] at HS1 hu
        have l0 : ∀ w', Below wr.heap.size wr w' → w'.cell? ⟨b, off + j * 2, none⟩ = some (.int .i64 ty) := fun w' h => (h.cell (p := ⟨b, off + j * 2, none⟩) hbb).trans c0
        have l1 : ∀ w', Below wr.heap.size wr w' → w'.cell? ⟨b, off + j * 2 + 1, none⟩ = some (.string d) := fun w' h => (h.cell (p := ⟨b, off + j * 2 + 1, none⟩) hbb).trans c1
        have hV := Below.refl wr.heap.size wr
        have hwr := Lib.hid (show IntKind.i64.wrap (IntKind.i64.wrap (IntKind.i64.wrap (7 + (q : Int) + (H.size : Int)) + (d.size : Int)) + 4) = ((7 + (q + (H.size + d.size + 4)) : Nat) : Int) by rw [wrapS (n := 7 + (q : Int) + (H.size : Int)) (by omega) (by omega), wrapS (n := 7 + (q : Int) + (H.size : Int) + (d.size : Int)) (by omega) (by omega), wrapS (by omega) (by omega)]; omega)
        have hjn : j < n := by omega
        have hjn' : (j : Int) < n := by omega
        clear hcz hy
        go_wp2_with fail
        go_region_held3 (fun w' => Below wr.heap.size wr w') (first | assumption | go_grown) ((go_at_call 19; refine (HD.out _).mono ?_; rintro e w4 ⟨rfl, hb4⟩; obtain ⟨hbl4, hsz4⟩ := later' (by first | assumption | go_grown) hb4; clear hb4))
        go_wp2_with fail
        go_roundw
        case rel => exact ⟨j + 1, by omega, by go_num, by rw [HS1.out, hwr.out], HB.out.trans (Below.mono (by assumption) hzz)⟩
        case measure => simp [intOf]; omega
      · obtain rfl : j = k := by omega
        obtain ⟨b, off, hp, hbb, c0, c1⟩ := (RA.out wr HB.out).at HX.out
        have hz := HZ.out j x HX.out
        obtain ⟨ty, d⟩ := x
        simp only at c0 c1 hz hAl hwl
        subst hp
        have HD := Lib.hid (fun W => head_any ty d W (by omega))
        generalize cSum (L.take j) = q at *
        generalize bStr (fHead ty d) = H at HD hAl
        have hjn' : (j : Int) < n := by omega
        have hfl : fr ≤ 4000 := by omega
        go_wp2_with fail
        refine (HD.out wr).mono ?_
        rintro e w4 ⟨rfl, hb4⟩
        have B4 := Lib.hid (HB.out.trans (hb4.mono hzz))
        have e1 := (hb4.cell (p := ⟨b, off + j * 2 + 1, none⟩) hbb).trans c1
        clear hb4 c0 c1
        have q1 : (7 : Int) + (q : Int) + (H.size : Int) = ((fr : Nat) : Int) := by omega
        have q2 : (7 : Int) + (q : Int) + (H.size : Int) + (d.size : Int) + 4 = ((fr + wl : Nat) : Int) := by omega
        have Q1 := Lib.hid q1
        have Q2 := Lib.hid q2
        have hle : fr + wl ≤ S.size := by omega
        have d6 : decide (fr + wl > S.size) = false := by simp; omega
        have hwl3 : wl ≤ 3004 := by omega
        have hbl3 : bl ≤ 4000 := by omega
        clear q1 q2
        go_wp2_with fail
        rw [Q2.out, Q1.out]
        have he1 := HE1.out
        have he2 := HE2.out
        have he3 := HE3.out
        have hss : S.size ≤ 8000 := by omega
        have hfrt : fr ≤ fr + wl := by omega
        have hwl4 := HWL.out
        clear hAl hwl e1 hz HD HX HZ HSL HSN hsz HE1 HE2 HE3 HSZ Q1 Q2 d6
        have HLN := Lib.hid (show fr + wl ≤ 7004 by omega)
        generalize fr + wl = tt at he2 he3 hle hfrt HLN ⊢
        go_region_with (go_at_call 20; refine (HTW.out _).mono ?_; rintro e w5 ⟨⟨l, hl, rfl⟩, hb5⟩; have hll := (HT.out l hl).1; have ra1 := fun W => run_string_add_sum (P := Try.prog) W (bStr A) (bStr l) (by rw [bStr_size, bStr_size, hll, HFR.out, HWL.out]; omega); have ra2 := fun W => run_string_add_sum (P := Try.prog) W (bStr A ++ bStr l) (bStr B) (by rw [ByteArray.size_append, bStr_size, bStr_size, bStr_size, hll, HFR.out, HWL.out, HBL.out]; omega))
        all_goals have B5 := Lib.hid (B4.out.drew.trans (hb5.mono B4.out.drew.size))
        all_goals have hteq := burst_cat A l B
        all_goals rcases (HT.out l hl).2 with ⟨hlw, hop⟩ | ⟨hlw, hop⟩
        all_goals have OP := Lib.hid (fun W => copen_as hop (by rw [bStr_size, List.length_append, List.length_append, hll, HFR.out, HWL.out, HBL.out]; omega) W)
        all_goals rw [← hteq] at OP
        all_goals first
          | (have hq := burst_same (A := A) (B := B) hlw HS.out; generalize bStr A ++ bStr l ++ bStr B = T at OP hq ⊢; clear hteq hlw hop hl hll ra1 ra2; go_wp2_with fail; refine (OP.out _).mono ?_; rintro e w6 ⟨pb, cb, rfl, hse, hb⟩; have B6 := Lib.hid (B5.out.trans (hb.mono B5.out.size)); clear hb hse hb5; go_wp2_with fail; go_ret; exact ⟨rfl, B6.out⟩)
          | (have hq := burst_unlike (A := A) (B := B) hlw HS.out; generalize bStr A ++ bStr l ++ bStr B = T at OP hq ⊢; clear hteq hlw hop hl hll ra1 ra2; go_wp2_with fail; refine (OP.out _).mono ?_; rintro e w6 ⟨pb, cb, rfl, hse, hb⟩; have B6 := Lib.hid (B5.out.trans (hb.mono B5.out.size)); clear hb hse hb5; go_wp2_with fail; go_ret; exact ⟨rfl, B6.out⟩)
  · have SB1 := Lib.hid (fun W h => SB.out W h (by simpa using ho))
    generalize L.length = n at *
    clear ho SB SG
    go_enter Try.func7, Try.ntmps7
    go_wp2_with fail
    refine (cworks_any w).mono ?_
    rintro e w1 ⟨rfl, hb⟩
    have B1 := Lib.hid hb
    clear hb
    go_wp2_with fail
    refine (FA.out w1 (RA.out w1 B1.out)).mono ?_
    rintro e w2 ⟨rfl, rfl⟩
    go_wp2_with fail
    refine (SB1.out w1 (RA.out w1 B1.out)).mono ?_
    rintro e w3 ⟨rfl, hb⟩
    have B3 := Lib.hid (B1.out.trans (hb.mono B1.out.size))
    clear hb
    go_wp2_with fail
    go_ret
    exact ⟨rfl, B3.out⟩
set_option maxRecDepth 100000 in
set_option maxHeartbeats 4000000 in
theorem walk_cbursts (pa : Option Addr) (ca : Nat) (L : List Sec) (n a m : Int) (w : World) (hL : SecsAt w pa L ∧ L.length ≤ maxLen ∧ ∀ x ∈ L, x.2.size ≤ reachBytes) (hn : (Lit.int .i64 n).wf = true) (ha : (Lit.int .i64 a).wf = true) (hm : (Lit.int .u32 m).wf = true) :
    Calls Try.prog 7 #[.slice pa L.length ca, .int .i64 n, .int .i64 a, .int .u32 m] w fun e w' => e = .returned (.bool true) ∧ Below w.heap.size w w' := by
  have hm2 : 0 ≤ m ∧ m < 4294967296 := by
    simp [Lit.wf, IntKind.min, IntKind.max, IntKind.signed, IntKind.bits] at hm; omega
  cases hf : fewC L with
  | true =>
    by_cases hk : 0 ≤ n ∧ n < (L.length : Int) ∧ 0 ≤ a ∧ a ≤ 48000
    · obtain ⟨k, rfl⟩ := Int.eq_ofNat_of_zero_le hk.1
      obtain ⟨a', rfl⟩ := Int.eq_ofNat_of_zero_le hk.2.2.1
      obtain ⟨m', rfl⟩ := Int.eq_ofNat_of_zero_le hm2.1
      exact cbursts_in pa ca L k a' m' w hL hf (by omega) (by omega) (by omega)
    · obtain ⟨a1, a2, a3⟩ := hL
      have RA := Lib.hid a1
      have FA := Lib.hid (fun W h => fewC_any pa ca L W h a2 a3)
      rw [hf] at FA
      clear a1 a2 a3 hf hm hn ha
      generalize L.length = q at FA hk ⊢
      have hk4 : n < 0 ∨ (0 ≤ n ∧ (q : Int) ≤ n) ∨ (0 ≤ n ∧ n < (q : Int) ∧ a < 0) ∨ (0 ≤ n ∧ n < (q : Int) ∧ 0 ≤ a ∧ 48000 < a) := by omega
      clear hk
      rcases hk4 with h | ⟨h, h'⟩ | ⟨h, h', h''⟩ | ⟨h, h', h'', h3⟩
      · have d1 : decide (n < 0) = true := by simp; omega
        go_enter Try.func7, Try.ntmps7
        go_wp2_with fail
        refine (cworks_any w).mono ?_
        rintro e w1 ⟨rfl, hb⟩
        have B1 := Lib.hid hb
        have A1 := Lib.hid (RA.out.later hb)
        clear hb RA
        go_wp2_with fail
        refine (FA.out w1 A1.out).mono ?_
        rintro e w2 ⟨rfl, rfl⟩
        go_wp2_with fail
        go_ret
        exact ⟨rfl, B1.out⟩
      · have d1 : decide (n < 0) = false := by simp; omega
        have d2 : decide (n ≥ (q : Int)) = true := by simp; omega
        go_enter Try.func7, Try.ntmps7
        go_wp2_with fail
        refine (cworks_any w).mono ?_
        rintro e w1 ⟨rfl, hb⟩
        have B1 := Lib.hid hb
        have A1 := Lib.hid (RA.out.later hb)
        clear hb RA
        go_wp2_with fail
        refine (FA.out w1 A1.out).mono ?_
        rintro e w2 ⟨rfl, rfl⟩
        go_wp2_with fail
        go_ret
        exact ⟨rfl, B1.out⟩
      · have d1 : decide (n < 0) = false := by simp; omega
        have d2 : decide (n ≥ (q : Int)) = false := by simp; omega
        have d3 : decide (a < 0) = true := by simp; omega
        go_enter Try.func7, Try.ntmps7
        go_wp2_with fail
        refine (cworks_any w).mono ?_
        rintro e w1 ⟨rfl, hb⟩
        have B1 := Lib.hid hb
        have A1 := Lib.hid (RA.out.later hb)
        clear hb RA
        go_wp2_with fail
        refine (FA.out w1 A1.out).mono ?_
        rintro e w2 ⟨rfl, rfl⟩
        go_wp2_with fail
        go_ret
        exact ⟨rfl, B1.out⟩
      · have d1 : decide (n < 0) = false := by simp; omega
        have d2 : decide (n ≥ (q : Int)) = false := by simp; omega
        have d3 : decide (a < 0) = false := by simp; omega
        have d4 : decide (a > 48000) = true := by simp; omega
        go_enter Try.func7, Try.ntmps7
        go_wp2_with fail
        refine (cworks_any w).mono ?_
        rintro e w1 ⟨rfl, hb⟩
        have B1 := Lib.hid hb
        have A1 := Lib.hid (RA.out.later hb)
        clear hb RA
        go_wp2_with fail
        refine (FA.out w1 A1.out).mono ?_
        rintro e w2 ⟨rfl, rfl⟩
        go_wp2_with fail
        go_ret
        exact ⟨rfl, B1.out⟩
  | false =>
    obtain ⟨a1, a2, a3⟩ := hL
    have RA := Lib.hid a1
    have FA := Lib.hid (fun W h => fewC_any pa ca L W h a2 a3)
    rw [hf] at FA
    clear a1 a2 a3 hf hm hn ha
    generalize L.length = q at FA ⊢
    go_enter Try.func7, Try.ntmps7
    go_wp2_with fail
    refine (cworks_any w).mono ?_
    rintro e w1 ⟨rfl, hb⟩
    have B1 := Lib.hid hb
    have A1 := Lib.hid (RA.out.later hb)
    clear hb RA
    go_wp2_with fail
    refine (FA.out w1 A1.out).mono ?_
    rintro e w2 ⟨rfl, rfl⟩
    go_wp2_with fail
    go_ret
    exact ⟨rfl, B1.out⟩
end Go.Proofs.Ytanbifhhoeaofaa

