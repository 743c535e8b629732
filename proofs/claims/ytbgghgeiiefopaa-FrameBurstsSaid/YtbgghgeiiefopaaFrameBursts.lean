/- The walk of the law FrameBursts. No conditions. -/
import Derived.Test.YtbgghgeiiefopaaFrameBack
import Derived.Test.YtbgghgeiiefopaaCrcTurnWalk
namespace Go.Proofs.Ytbgghgeiiefopaa
set_option linter.unusedVariables false
open Go Go.RowKit

theorem u32_of {x : Int} (h : (Lit.int .u32 x).wf = true) : ∃ n : Nat, x = n ∧ n < 4294967296 := by
  have hx : 0 ≤ x ∧ x ≤ 4294967295 := by simpa [Lit.wf, IntKind.min, IntKind.max, IntKind.signed, IntKind.bits] using h
  exact ⟨x.toNat, by omega, by omega⟩
theorem beq_true {a b : ByteArray} (h : a = b) : (a.toList == b.toList) = true := by rw [h]; simp
theorem bStr_app (l m : List UInt8) : bStr l ++ bStr m = bStr (l ++ m) := ba_ext (by rw [app_l]; rfl)
set_option maxRecDepth 100000 in
set_option maxHeartbeats 8000000 in
theorem fbursts_in (ty : Int) (d a b : ByteArray) (k m : Nat) (w : World) (hd : d.size ≤ 1000) (ha : a.size ≤ 1000) (hb : b.size ≤ 1000) (hk : k ≤ 16000) (hm : m < 4294967296) :
    Calls Try.prog 7 #[.agg #[.int .i64 ty, .string d], .string a, .string b, .int .i64 k, .int .u32 m] w fun e w' => e = .returned (.bool true) ∧ Below w.heap.size w w' := by
  obtain ⟨h0, h1, hz, hfr⟩ := box_section w ty d
  have d1 : decide ((1000 : Int) < d.size) = false := by simp; omega
  have d2 : decide ((1000 : Int) < a.size) = false := by simp; omega
  have d3 : decide ((1000 : Int) < b.size) = false := by simp; omega
  have d4 : decide ((k : Int) < 0) = false := by simp
  have d5 : decide ((16000 : Int) < k) = false := by simp; omega
  have CP := Lib.hid (fun W => fput_any ty d W (by omega))
  have HFR := Lib.hid hfr
  clear hfr
  by_cases he : fE ty d = 0
  · have hty : ((ty.toNat : Nat) : Int) = ty := by have := fE_ok he; omega
    obtain ⟨w0, hw0⟩ : ∃ w0, d.data.toList ++ crcTail (fHead ty d ++ d.data.toList) = w0 := ⟨_, rfl⟩
    have hF : fFrame ty d = fHead ty d ++ w0 := by rw [← hw0]; unfold fFrame; rw [List.append_assoc]
    have hw0l : w0.length = d.size + 4 := by rw [← hw0, List.length_append, crcTail_len, ba_len]
    have hhl : (fHead ty d).length ≤ 11 := by
      have h1 := fHead_len ty d
      have h2 : (lebStr d.size).size ≤ 10 := by rw [lebStr_size]; exact digs_len_10 (by omega)
      omega
    have hsl : (fS ty d).data.toList = fHead ty d ++ w0 := by rw [fS_good he, bStr_l, hF]
    have hsz : (fS ty d).size = (fHead ty d).length + w0.length := by rw [← ba_len, hsl, List.length_append]
    have hp : (fS ty d).extract 0 (bStr (fHead ty d)).size = bStr (fHead ty d) := ext_mid (p := []) (r := w0) (by rw [hsl]; rfl) rfl (by rw [bStr_size]; omega)
    have hq : (fS ty d).extract (bStr (fHead ty d)).size (fS ty d).size = bStr w0 := ext_mid (p := fHead ty d) (r := []) (by rw [hsl, List.append_nil]) rfl (by rw [bStr_size]; omega)
    have HS := Lib.hid (show bStr (fHead ty d) ++ bStr w0 = fS ty d by rw [bStr_app]; apply ba_ext; rw [hsl]; rfl)
    have HG : Hid (∀ l, Turned w0 l k m → l.length = w0.length ∧ ((l = w0 ∧ fGet (a ++ (bStr (fHead ty d) ++ bStr l) ++ b) a.size = ((ty.toNat, d), ((a.size + (fFrame ty d).length : Nat) : Int), 0)) ∨ (l ≠ w0 ∧ fGet (a ++ (bStr (fHead ty d) ++ bStr l) ++ b) a.size = fNo a.size 6))) := Lib.hid (fun l hl => by
      refine ⟨hl.1, ?_⟩
      rw [← hw0] at hl ⊢
      rw [bStr_app]
      exact fGet_turn he hm hl a b)
    have HTW := Lib.hid (fun W => turn_any (bStr w0) k m W (by rw [bStr_size]; omega) (by omega) hm)
    have CH := Lib.hid (fun W => head_any ty d W (by omega))
    rw [he] at CP
    have hpz : (bStr (fHead ty d)).size ≤ 11 := hhl
    have hn1 : (bStr (fHead ty d)).size ≤ (fS ty d).size := by rw [hsz, bStr_size]; omega
    have hn2 : (((bStr (fHead ty d)).size : Nat) : Int) ≤ ((fS ty d).size : Nat) := by omega
    have hn3 : decide (((fS ty d).size : Int) < ((bStr (fHead ty d)).size : Nat)) = false := by simp; omega
    have hn3' : decide ((fS ty d).size < (bStr (fHead ty d)).size) = false := by simp; omega
    have HP := Lib.hid hp
    generalize fS ty d = s at CP HS hn1 hn2 hn3 hn3' hp hq HP
    generalize bStr (fHead ty d) = p at CH HS HG hpz hn1 hn2 hn3 hn3' hp hq HP
    generalize (fFrame ty d).length = fl at HG
    clear he hF hw0 hhl hsl hsz
    have HW0 := Lib.hid hw0l
    have bds := Lib.hid (show d.size ≤ 1000 ∧ a.size ≤ 1000 ∧ b.size ≤ 1000 ∧ p.size ≤ 11 from ⟨hd, ha, hb, hpz⟩)
    have HTY := Lib.hid hty
    clear hd ha hb hk hm hw0l hpz hty
    go_enter Try.func7, Try.ntmps7
    go_wp2_with fail
    generalize w.alloc (.cells #[.int .i64 ty, .string d] 23) = V at h0 h1 hz HFR ⊢
    refine (fworks_any _).mono ?_
    rintro e w1 ⟨rfl, hb1⟩
    have q1 : Below (w.heap.size + 1) V w1 := by rw [← hz]; exact hb1
    have s1 : w.heap.size + 1 ≤ w1.heap.size := by rw [← hz]; exact hb1.size
    go_wp2_with fail
    refine (CP.out _).mono ?_
    rintro e w2 ⟨rfl, hb2⟩
    obtain ⟨q2, s2⟩ := belowS ⟨q1, s1⟩ hb2
    clear q1 s1 hb1 hb2
    go_wp2_with fail
    refine (CH.out _).mono ?_
    rintro e w3 ⟨rfl, hb3⟩
    obtain ⟨q3, s3⟩ := belowS ⟨q2, s2⟩ hb3
    clear q2 s2 hb3
    go_wp2_with fail
    go_region_held3 (fun w' => Below (w.heap.size + 1) V w') (first | assumption | exact Below.drew (by assumption))
      (first | (go_at_call 16; refine (HTW.out _).mono ?_; rintro e w4 ⟨⟨l, hl, rfl⟩, hb4⟩; obtain ⟨q4, s4⟩ := belowS ⟨(by first | assumption | exact Below.drew (by assumption)), (by first | assumption | exact s3)⟩ hb4; obtain ⟨hll, hor⟩ := HG.out l hl; have ra := fun W => run_string_add_sum (P := Try.prog) W p (bStr l) (by have h1 := bds.out; have h2 := HW0.out; rw [bStr_size, hll]; omega); clear hb4))
    have hxs : (bStr l).size = d.size + 4 := by rw [bStr_size, hll, HW0.out]
    have hts : (p ++ bStr l).size ≤ 1100 := by have := bds.out; rw [ByteArray.size_append]; omega
    have CG := fun W => fget_any (a ++ (p ++ bStr l) ++ b) a.size W (by have := bds.out; rw [ByteArray.size_append, ByteArray.size_append]; unfold maxLen; omega)
    have r1 := fun W => run_string_add_sum (P := Try.prog) W a (p ++ bStr l) (by have := bds.out; omega)
    have r2 := fun W => run_string_add_sum (P := Try.prog) W (a ++ (p ++ bStr l)) b (by have := bds.out; rw [ByteArray.size_append]; omega)
    rcases hor with ⟨hlw, hg⟩ | ⟨hlw, hg⟩
    · rw [hg] at CG
      unfold FV at CG
      simp only [HTY.out] at CG
      have hps : p ++ bStr l = s := by rw [hlw]; exact HS.out
      rw [hps] at CG ra r1 r2
      have HCG := Lib.hid CG
      have hps2 := hps
      clear CG hlw hl hg hll hts hxs
      generalize bStr l = x at ra hps
      have q4' : Below (w.heap.size + 1) V (w4.alloc (.cells #[.int .i64 ty, .string d] 23)) := q4.alloc s4 _
      rw [hps]
      go_wp2_with fail
      refine (HCG.out _).mono ?_
      rintro e w5 ⟨rfl, hb5⟩
      obtain ⟨q5, s5⟩ := belowS ⟨q4, s4⟩ hb5
      have q5' : Below (w.heap.size + 1) V (w5.alloc (.cells #[.int .i64 ty, .string d] 23)) := q5.alloc s5 _
      clear q4 q4' q3 hb5
      go_wp2_with fail
      go_ret
      exact ⟨ret_bool (by simp), HFR.out.trans (q5'.mono (Nat.le_succ _))⟩
    · rw [hg] at CG
      unfold FV fNo at CG
      simp only at CG
      have HCG := Lib.hid CG
      have hne : ((p ++ bStr l).toList == s.toList) = false := str_ne fun e => hlw (by
        have h1 := HS.out.trans e.symm
        have h2 := congrArg (fun b : ByteArray => b.data.toList) h1
        simp only [app_l, bStr_l] at h2
        exact (List.append_cancel_left h2).symm)
      clear CG hlw hl hg hll hxs
      generalize p ++ bStr l = x at HCG hne r1 r2 ra hts ⊢
      go_wp2_with fail
      refine (HCG.out _).mono ?_
      rintro e w5 ⟨rfl, hb5⟩
      obtain ⟨q5, s5⟩ := belowS ⟨q4, s4⟩ hb5
      have q5' : Below (w.heap.size + 1) V (w5.alloc (.cells #[.int .i64 0, .string ⟨#[]⟩] 23)) := q5.alloc s5 _
      clear q4 q3 hb5
      go_wp2_with fail
      go_ret
      exact ⟨ret_bool (by simp), HFR.out.trans (q5'.mono (Nat.le_succ _))⟩
  · have hne : ((fE ty d : Int) == 0) = false := by simp; omega
    rw [fS_bad he] at CP
    clear he hd ha hb
    generalize fE ty d = er at CP hne
    go_enter Try.func7, Try.ntmps7
    go_wp2_with fail
    generalize w.alloc (.cells #[.int .i64 ty, .string d] 23) = V at h0 h1 hz HFR ⊢
    refine (fworks_any _).mono ?_
    rintro e w1 ⟨rfl, hb1⟩
    have q1 : Below (w.heap.size + 1) V w1 := by rw [← hz]; exact hb1
    have s1 : w.heap.size + 1 ≤ w1.heap.size := by rw [← hz]; exact hb1.size
    go_wp2_with fail
    refine (CP.out _).mono ?_
    rintro e w2 ⟨rfl, hb2⟩
    obtain ⟨q2, s2⟩ := belowS ⟨q1, s1⟩ hb2
    go_wp2_with fail
    go_ret
    exact ⟨rfl, HFR.out.trans (q2.mono (Nat.le_succ _))⟩
set_option maxRecDepth 100000 in
set_option maxHeartbeats 8000000 in
theorem walk_fbursts (ty : Int) (d a b : ByteArray) (k m : Int) (w : World) (hs : I64 ty ∧ d.size ≤ maxLen) (ha : a.size ≤ maxLen) (hb : b.size ≤ maxLen) (hk : (Lit.int .i64 k).wf = true) (hm : (Lit.int .u32 m).wf = true) :
    Calls Try.prog 7 #[.agg #[.int .i64 ty, .string d], .string a, .string b, .int .i64 k, .int .u32 m] w fun e w' => e = .returned (.bool true) ∧ Below w.heap.size w w' := by
  obtain ⟨_, hd⟩ := hs
  unfold maxLen at hd ha hb
  obtain ⟨m, rfl, hm2⟩ := u32_of hm
  by_cases h : d.size ≤ 1000 ∧ a.size ≤ 1000 ∧ b.size ≤ 1000 ∧ 0 ≤ k ∧ k ≤ 16000
  · obtain ⟨n, rfl⟩ := Int.eq_ofNat_of_zero_le h.2.2.2.1
    exact fbursts_in ty d a b n m w h.1 h.2.1 h.2.2.1 (by omega) hm2
  · obtain ⟨h0, h1, hz, hfr⟩ := box_section w ty d
    have HFR := Lib.hid hfr
    have HH := Lib.hid h
    clear hfr h hm2 hm hk
    go_enter Try.func7, Try.ntmps7
    go_wp2_with fail
    generalize w.alloc (.cells #[.int .i64 ty, .string d] 23) = V at h0 h1 hz HFR ⊢
    refine (fworks_any _).mono ?_
    rintro e w1 ⟨rfl, hb1⟩
    have q1 : Below (w.heap.size + 1) V w1 := by rw [← hz]; exact hb1
    go_wp2_with fail
    all_goals first | (go_ret; exact ⟨rfl, HFR.out.trans (q1.mono (Nat.le_succ _))⟩) | (exfalso; exact HH.out (by omega))
end Go.Proofs.Ytbgghgeiiefopaa

