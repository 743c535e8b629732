/- The document's Head and Put of a section. No conditions. -/
import Derived.Test.YtanbifhhoeaofaaFramePut
import Derived.Test.YtanbifhhoeaofaaLebRefGet
namespace Go.Proofs.Ytanbifhhoeaofaa
set_option linter.unusedVariables false
open Go Go.RowKit

theorem rhead_str (ty : Int) (d : ByteArray) : (⟨#[UInt8.ofNat (ty % 256).toNat]⟩ : ByteArray) ++ lebStr d.size = bStr (fHead ty d) := by
  apply ba_ext
  rw [app_l]
  rfl
set_option maxRecDepth 100000 in
set_option maxHeartbeats 8000000 in
theorem rhead_any (ty : Int) (d : ByteArray) (w : World) (hd : d.size ≤ 1000000000) :
    Calls Try.prog 44 #[.agg #[.int .i64 ty, .string d]] w fun e w' => e = .returned (.string (bStr (fHead ty d))) ∧ Below w.heap.size w w' := by
  have hu : U64 d.size := by unfold U64; omega
  have hwu : IntKind.u64.wrap (d.size : Int) = (d.size : Int) := by rw [IntKind.wrap_u64]; omega
  obtain ⟨x, hx⟩ : ∃ x, (ty % 256).toNat = x := ⟨_, rfl⟩
  have hx256 : x < 256 := by omega
  have hw8 : IntKind.u8.wrap ty = (x : Int) := by rw [IntKind.wrap_u8]; omega
  have hw8' : ty % 256 = (x : Int) := by omega
  have hls : (lebStr d.size).size ≤ 10 := by rw [lebStr_size]; exact digs_len_10 hu
  have HS := Lib.hid (rhead_str ty d)
  rw [hx] at HS
  have hc := conv1 x hx256
  have HP := Lib.hid (fun W => rput_any d.size hu W)
  have ra := fun W => run_string_add_sum (P := Try.prog) W ⟨#[UInt8.ofNat x]⟩ (lebStr d.size) (by show 1 + _ ≤ _; omega)
  generalize lebStr d.size = L at HP HS hls ra
  have h0 : (w.alloc (.cells #[.int .i64 ty, .string d] 36)).cell? ⟨w.heap.size, 0, none⟩ = some (.int .i64 ty) := by simp
  have h1 : (w.alloc (.cells #[.int .i64 ty, .string d] 36)).cell? ⟨w.heap.size, 1, none⟩ = some (.string d) := by simp
  have hz : (w.alloc (.cells #[.int .i64 ty, .string d] 36)).heap.size = w.heap.size + 1 := by simp
  have hfr := Lib.hid ((Below.refl _ w).alloc (Nat.le_refl _) (.cells #[.int .i64 ty, .string d] 36))
  clear hx hu hd hls
  go_enter Try.func44, Try.ntmps44
  go_wp2_with fail
  generalize w.alloc (.cells #[.int .i64 ty, .string d] 36) = V at hz h0 h1 hfr ⊢
  go_region_with (go_at_call 36; refine (HP.out _).mono ?_; rintro e w2 ⟨rfl, hb3⟩; have hz2 := hb3.size; (try simp only [World.size_alloc, World.size_drew] at hz2); (try have hz3 := Nat.lt_of_succ_le hz2); obtain ⟨hcc, hff⟩ := bcell hb3; obtain ⟨hbl, hsz⟩ := later' (W := V) (by first | exact Below.refl _ _ | go_grown) hb3)
  all_goals go_wp2_with fail
  all_goals go_ret
  all_goals exact ⟨by rw [← HS.out]; rfl, hfr.out.trans (Below.mono (B := V.heap.size) (by first | exact hbl | exact hbl.alloc hsz _ | exact (hbl.alloc hsz _).drew | go_grown) (by omega))⟩
set_option maxRecDepth 100000 in
set_option maxHeartbeats 8000000 in
theorem rfput_any (ty : Int) (d : ByteArray) (w : World) (hd : d.size ≤ 9223372036854775807) :
    Calls Try.prog 29 #[.agg #[.int .i64 ty, .string d]] w fun e w' => e = .returned (.tuple #[.string (fS ty d), .int .i64 (fE ty d : Nat)]) ∧ Below w.heap.size w w' := by
  have hfr := Lib.hid ((Below.refl _ w).alloc (Nat.le_refl _) (.cells #[.int .i64 ty, .string d] 36))
  by_cases h1 : ty < 0
  · have e1 : fE ty d = 1 := by unfold fE; rw [if_pos (.inl h1)]
    have e2 : fS ty d = ⟨#[]⟩ := by unfold fS; rw [e1]; rfl
    rw [e1, e2]
    have d0 : decide (ty < 0) = true := by simp; omega
    clear e1 e2
    go_enter Try.func29, Try.ntmps29
    go_wp2_with fail
    go_ret2
    exact ⟨rfl, hfr.out⟩
  have d0 : decide (ty < 0) = false := by simp; omega
  by_cases h2 : 255 < ty
  · have e1 : fE ty d = 1 := by unfold fE; rw [if_pos (.inr h2)]
    have e2 : fS ty d = ⟨#[]⟩ := by unfold fS; rw [e1]; rfl
    rw [e1, e2]
    have d1 : decide (255 < ty) = true := by simp; omega
    clear e1 e2
    go_enter Try.func29, Try.ntmps29
    go_wp2_with fail
    go_ret2
    exact ⟨rfl, hfr.out⟩
  have d1 : decide (255 < ty) = false := by simp; omega
  by_cases h3 : 1048576 < d.size
  · have e1 : fE ty d = 4 := by unfold fE; rw [if_neg (by omega), if_pos h3]
    have e2 : fS ty d = ⟨#[]⟩ := by unfold fS; rw [e1]; rfl
    rw [e1, e2]
    have d2 : decide ((1048576 : Int) < d.size) = true := by simp; omega
    clear e1 e2
    go_enter Try.func29, Try.ntmps29
    go_wp2_with fail
    go_ret2
    exact ⟨rfl, hfr.out⟩
  have d2 : decide ((1048576 : Int) < d.size) = false := by simp; omega
  have e1 : fE ty d = 0 := by unfold fE; rw [if_neg (by omega), if_neg (by omega)]
  have HOK := Lib.hid (fS_ok e1)
  have HH := Lib.hid (fun W => rhead_any ty d W (by omega))
  have hfl := fHead_len ty d
  have hll : (lebStr d.size).size ≤ 10 := by rw [lebStr_size]; exact digs_len_10 (by omega)
  have hz1 : (bStr (fHead ty d)).size + d.size ≤ 9223372036854775807 := by rw [bStr_size]; omega
  have HT := Lib.hid (fun W => rtail_any (bStr (fHead ty d) ++ d) W (by rw [ByteArray.size_append]; exact hz1))
  have ht4 : (strOf (crcTail (bStr (fHead ty d) ++ d).data.toList)).size = 4 := rfl
  have hz2 : (bStr (fHead ty d) ++ d).size + (strOf (crcTail (bStr (fHead ty d) ++ d).data.toList)).size ≤ 9223372036854775807 := by rw [ByteArray.size_append, bStr_size, ht4]; omega
  rw [e1]
  clear h1 h2 h3 hfl hll e1 ht4
  generalize bStr (fHead ty d) = hd at HOK HH hz1 HT hz2
  generalize strOf (crcTail (hd ++ d).data.toList) = tl at HOK HT hz2
  have h0 : ∀ w', Below (w.heap.size + 1) (w.alloc (.cells #[.int .i64 ty, .string d] 36)) w' → w'.cell? ⟨w.heap.size, 0, none⟩ = some (.int .i64 ty) := fun w' h => (h.cell (p := ⟨w.heap.size, 0, none⟩) (by simp)).trans (by simp)
  have h1 : ∀ w', Below (w.heap.size + 1) (w.alloc (.cells #[.int .i64 ty, .string d] 36)) w' → w'.cell? ⟨w.heap.size, 1, none⟩ = some (.string d) := fun w' h => (h.cell (p := ⟨w.heap.size, 1, none⟩) (by simp)).trans (by simp)
  have hz : (w.alloc (.cells #[.int .i64 ty, .string d] 36)).heap.size = w.heap.size + 1 := by simp
  go_enter Try.func29, Try.ntmps29
  go_wp2_with fail
  generalize w.alloc (.cells #[.int .i64 ty, .string d] 36) = V at hz h0 h1 hfr ⊢
  have hbl := Below.refl (w.heap.size + 1) V
  have ra := fun W => run_string_add_sum (P := Try.prog) W hd d hz1
  have rb := fun W => run_string_add_sum (P := Try.prog) W (hd ++ d) tl hz2
  go_region_held3 (fun w' => Below (w.heap.size + 1) V w') (first | assumption | go_grown)
    (first | (go_at_call 44; refine (HH.out _).mono ?_; rintro e w2 ⟨rfl, hb2⟩; obtain ⟨hbl2, hsz2⟩ := belowS ⟨(by first | assumption | go_grown), (by first | assumption | (simp only [World.size_drew]; omega))⟩ hb2; clear hb2))
  all_goals go_wp2_with fail
  all_goals refine (HT.out _).mono ?_
  all_goals rintro e w3 ⟨rfl, hb3⟩
  all_goals go_wp2_with fail
  all_goals go_ret2
  all_goals exact ⟨fret HOK.out rfl, hfr.out.trans (Below.mono (belowS ⟨by assumption, by assumption⟩ hb3).1 (Nat.le_succ _))⟩
end Go.Proofs.Ytanbifhhoeaofaa

