/- frame.Head and frame.Put, and the document's, at every section. No conditions. -/
import Derived.Test.YtanbifhhoeaofaaFramePlain
import Derived.Test.YtanbifhhoeaofaaCrcRef
import Derived.Test.YtanbifhhoeaofaaLebRef
import Derived.Test.YtanbifhhoeaofaaWriter
import Derived.Deep.RegionWith
import Derived.Deep.RegionHeld3
namespace Go.Proofs.Ytanbifhhoeaofaa
set_option linter.unusedVariables false
open Go Go.RowKit

theorem u8_conv' (n : Int) : IntKind.u8.wrap n = ((UInt8.ofNat (n % 256).toNat).toNat : Int) := by
  rw [IntKind.wrap_u8, ofNat_lt (by omega)]; omega
theorem wrote_below {n p : Nat} {v : Value} {l l' : List UInt8} {u w w' : World} {e : Ending} (hb : Below n u w) (hn : n ≤ w.heap.size) (hw : WrAt w n p v l) (h : Wrote n p v l' w e w') : e = .returned (.pointer (some ⟨p, 0, none⟩)) ∧ Below n u w' ∧ n ≤ w'.heap.size ∧ ∃ v', WrAt w' n p v' l' :=
  ⟨h.1, hb.trans (h.2.choose_spec.2.1.below hw), Nat.le_trans hn h.2.choose_spec.2.1.size, _, h.2.choose_spec.1⟩
theorem WrAt.fresh (V : World) (n : Nat) (hz : V.heap.size = n) : WrAt (V.alloc (.cells #[.slice none 0 0] 65)).drew n n (.slice none 0 0) [] ∧ n ≤ (V.alloc (.cells #[.slice none 0 0] 65)).drew.heap.size := by
  subst hz
  exact ⟨WrAt.new V.drew V.heap.size (Nat.le_refl _), by rw [World.size_drew, World.size_alloc]; omega⟩
set_option maxRecDepth 100000 in
set_option maxHeartbeats 8000000 in
theorem head_any (ty : Int) (d : ByteArray) (w : World) (hd : d.size ≤ 1000000000) :
    Calls Try.prog 19 #[.agg #[.int .i64 ty, .string d]] w fun e w' => e = .returned (.string (bStr (fHead ty d))) ∧ Below w.heap.size w w' := by
  have hu : U64 d.size := by unfold U64; omega
  have HU := Lib.hid hu
  have hwu : IntKind.u64.wrap (d.size : Int) = (d.size : Int) := by rw [IntKind.wrap_u64]; omega
  have hw8 := u8_conv' ty
  have hw8' : ty % 256 = ((UInt8.ofNat (ty % 256).toNat).toNat : Int) := by rw [← hw8, IntKind.wrap_u8]
  obtain ⟨q, hq⟩ : ∃ q, UInt8.ofNat (ty % 256).toNat = q := ⟨_, rfl⟩
  have HQ := Lib.hid (show fHead ty d = [] ++ [q] ++ lebL d.size by unfold fHead; rw [hq]; rfl)
  rw [hq] at hw8 hw8'
  have HQ8 := Lib.hid hw8'
  rw [HQ.out]
  clear hq hu hw8'
  go_enter Try.func19, Try.ntmps19
  go_wp2_with fail
  have hz : (w.alloc (.cells #[.int .i64 ty, .string d] 36)).heap.size = w.heap.size + 1 := by simp
  have h0 : ∀ w', Below (w.heap.size + 1) (w.alloc (.cells #[.int .i64 ty, .string d] 36)) w' → w'.cell? ⟨w.heap.size, 0, none⟩ = some (.int .i64 ty) := fun w' h => (h.cell (p := ⟨w.heap.size, 0, none⟩) (by simp)).trans (by simp)
  have h1 : ∀ w', Below (w.heap.size + 1) (w.alloc (.cells #[.int .i64 ty, .string d] 36)) w' → w'.cell? ⟨w.heap.size, 1, none⟩ = some (.string d) := fun w' h => (h.cell (p := ⟨w.heap.size, 1, none⟩) (by simp)).trans (by simp)
  have HF := Lib.hid ((Below.refl _ w).alloc (Nat.le_refl _) (.cells #[.int .i64 ty, .string d] 36))
  generalize w.alloc (.cells #[.int .i64 ty, .string d] 36) = V at hz h0 h1 HF ⊢
  have hbl := Below.refl (w.heap.size + 1) V
  go_region_held3 (fun w' => Below (w.heap.size + 1) V w') (first | assumption | go_grown)
    (first | (go_at_call 32; refine (wnew_any _).mono ?_; rintro e w2 ⟨rfl, rfl⟩; obtain ⟨hWr2, hsz2⟩ := WrAt.fresh V _ hz) | (go_at_call 41; refine (wbyte_any _ _ _ _ q _ hWr2 (by simp)).mono ?_; rintro e w3 hw3; obtain ⟨rfl, hbl3, hsz3, v3, hWr3⟩ := wrote_below (by first | assumption | go_grown) (by assumption) hWr2 hw3) | (go_at_call 33; refine (wnum_any _ _ _ _ d.size _ hWr3 HU.out (by simp)).mono ?_; rintro e w4 hw4; obtain ⟨rfl, hbl4, hsz4, v4, hWr4⟩ := wrote_below (by first | assumption | go_grown) (by assumption) hWr3 hw4) | (go_at_call 35; refine (wbytes_any _ _ _ _ _ hWr4).mono ?_; rintro e w5 ⟨rfl, rfl⟩))
  all_goals go_wp2_with fail
  all_goals go_ret
  all_goals exact ⟨rfl, HF.out.trans (Below.mono (by assumption) (Nat.le_succ _))⟩
theorem belowS {n : Nat} {V w1 w2 : World} (h : Below n V w1 ∧ n ≤ w1.heap.size) (hb : Below w1.heap.size w1 w2) : Below n V w2 ∧ n ≤ w2.heap.size := ⟨h.1.trans (hb.mono h.2), Nat.le_trans h.2 hb.size⟩
theorem fS_ok {ty : Int} {d : ByteArray} (h : fE ty d = 0) : bStr (fHead ty d) ++ d ++ strOf (crcTail (bStr (fHead ty d) ++ d).data.toList) = fS ty d := by
  unfold fS
  rw [if_pos h]
  apply ba_ext
  rw [app_l, app_l, strOf_list, bStr_l]
  rfl
theorem fret {s s' : ByteArray} {b b' : Nat} (h1 : s = s') (h2 : b = b') : Ending.returned (.tuple #[.string s, .int .i64 (b : Int)]) = .returned (.tuple #[.string s', .int .i64 (b' : Int)]) := by rw [h1, h2]
theorem lebL_short {n : Nat} (h : n ≤ 1048576) : (lebL n).length ≤ 10 := lebL_len (show U64 n by unfold U64; omega)
set_option maxRecDepth 100000 in
set_option maxHeartbeats 8000000 in
theorem fput_any (ty : Int) (d : ByteArray) (w : World) (hd : d.size ≤ 9223372036854775807) :
    Calls Try.prog 26 #[.agg #[.int .i64 ty, .string d]] w fun e w' => e = .returned (.tuple #[.string (fS ty d), .int .i64 (fE ty d : Nat)]) ∧ Below w.heap.size w w' := by
  have hfr := Lib.hid ((Below.refl _ w).alloc (Nat.le_refl _) (.cells #[.int .i64 ty, .string d] 36))
  by_cases h1 : ty < 0
  · have e1 : fE ty d = 1 := by unfold fE; rw [if_pos (.inl h1)]
    have e2 : fS ty d = ⟨#[]⟩ := by unfold fS; rw [e1]; rfl
    rw [e1, e2]
    have d0 : decide (ty < 0) = true := by simp; omega
    clear e1 e2
    go_enter Try.func26, Try.ntmps26
    go_wp2_with fail
    go_ret2
    exact ⟨rfl, hfr.out⟩
  have d0 : decide (ty < 0) = false := by simp; omega
  by_cases h2 : 255 < ty
  · have e1 : fE ty d = 1 := by unfold fE; rw [if_pos (.inr h2)]
    have e2 : fS ty d = ⟨#[]⟩ := by unfold fS; rw [e1]; rfl
    rw [e1, e2]
    have d1 : decide (255 < ty) = true := by simp; omega
    clear e1 e2
    go_enter Try.func26, Try.ntmps26
    go_wp2_with fail
    go_ret2
    exact ⟨rfl, hfr.out⟩
  have d1 : decide (255 < ty) = false := by simp; omega
  by_cases h3 : 1048576 < d.size
  · have e1 : fE ty d = 4 := by unfold fE; rw [if_neg (by omega), if_pos h3]
    have e2 : fS ty d = ⟨#[]⟩ := by unfold fS; rw [e1]; rfl
    rw [e1, e2]
    have d2 : decide ((1048576 : Int) < d.size) = true := by simp; omega
    clear e1 e2
    go_enter Try.func26, Try.ntmps26
    go_wp2_with fail
    go_ret2
    exact ⟨rfl, hfr.out⟩
  have d2 : decide ((1048576 : Int) < d.size) = false := by simp; omega
  have e1 : fE ty d = 0 := by unfold fE; rw [if_neg (by omega), if_neg (by omega)]
  have HOK := Lib.hid (fS_ok e1)
  have HH := Lib.hid (fun W => head_any ty d W (by omega))
  have hfl := fHead_len ty d
  have hll : (lebStr d.size).size ≤ 10 := by rw [lebStr_size]; exact digs_len_10 (by omega)
  have hz1 : (bStr (fHead ty d)).size + d.size ≤ 9223372036854775807 := by rw [bStr_size]; omega
  have HT := Lib.hid (fun W => tail_any (bStr (fHead ty d) ++ d) W (by rw [ByteArray.size_append]; exact hz1))
  have ht4 : (strOf (crcTail (bStr (fHead ty d) ++ d).data.toList)).size = 4 := rfl
  have hz2 : (bStr (fHead ty d) ++ d).size + (strOf (crcTail (bStr (fHead ty d) ++ d).data.toList)).size ≤ 9223372036854775807 := by rw [ByteArray.size_append, bStr_size, ht4]; omega
  rw [e1]
  clear h1 h2 h3 hfl hll e1 ht4
  generalize bStr (fHead ty d) = hd at HOK HH hz1 HT hz2
  generalize strOf (crcTail (hd ++ d).data.toList) = tl at HOK HT hz2
  have h0 : ∀ w', Below (w.heap.size + 1) (w.alloc (.cells #[.int .i64 ty, .string d] 36)) w' → w'.cell? ⟨w.heap.size, 0, none⟩ = some (.int .i64 ty) := fun w' h => (h.cell (p := ⟨w.heap.size, 0, none⟩) (by simp)).trans (by simp)
  have h1 : ∀ w', Below (w.heap.size + 1) (w.alloc (.cells #[.int .i64 ty, .string d] 36)) w' → w'.cell? ⟨w.heap.size, 1, none⟩ = some (.string d) := fun w' h => (h.cell (p := ⟨w.heap.size, 1, none⟩) (by simp)).trans (by simp)
  have hz : (w.alloc (.cells #[.int .i64 ty, .string d] 36)).heap.size = w.heap.size + 1 := by simp
  go_enter Try.func26, Try.ntmps26
  go_wp2_with fail
  generalize w.alloc (.cells #[.int .i64 ty, .string d] 36) = V at hz h0 h1 hfr ⊢
  have hbl := Below.refl (w.heap.size + 1) V
  have ra := fun W => run_string_add_sum (P := Try.prog) W hd d hz1
  have rb := fun W => run_string_add_sum (P := Try.prog) W (hd ++ d) tl hz2
  go_region_held3 (fun w' => Below (w.heap.size + 1) V w') (first | assumption | go_grown)
    (first | (go_at_call 19; refine (HH.out _).mono ?_; rintro e w2 ⟨rfl, hb2⟩; obtain ⟨hbl2, hsz2⟩ := belowS ⟨(by first | assumption | go_grown), (by first | assumption | (simp only [World.size_drew]; omega))⟩ hb2; clear hb2))
  all_goals go_wp2_with fail
  all_goals refine (HT.out _).mono ?_
  all_goals rintro e w3 ⟨rfl, hb3⟩
  all_goals go_wp2_with fail
  all_goals go_ret2
  all_goals exact ⟨fret HOK.out rfl, hfr.out.trans (Below.mono (belowS ⟨by assumption, by assumption⟩ hb3).1 (Nat.le_succ _))⟩
end Go.Proofs.Ytanbifhhoeaofaa

