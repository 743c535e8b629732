/- The walk of the law ScoreAdds. No conditions. -/
import Derived.Test.YtbdmkgdgbpfhpaaW4
import Derived.Deep.RegionHeld3
import Derived.Deep.DeepCutAuto
namespace Go.Proofs.Ytbdmkgdgbpfhpaa
open Go.RowKit
theorem later {W w1 w2 : World} (h : Below W.heap.size W w1) (hb : Below w1.heap.size w1 w2) : Below W.heap.size W w2 := h.trans (hb.mono h.size)
theorem later' {W w1 w2 : World} (h : Below W.heap.size W w1) (hb : Below w1.heap.size w1 w2) : Below W.heap.size W w2 ∧ W.heap.size ≤ w2.heap.size := ⟨later h hb, (later h hb).size⟩

theorem own3_drew {W : World} {B : Nat} {x y z : Value} (h : own3 W B x y z) : own3 W.drew B x y z := h
theorem wl (x y : Int) : wrap64 (wrap64 x + y) = wrap64 (x + y) := by unfold wrap64; omega
theorem wr' (x y : Int) : wrap64 (x + wrap64 y) = wrap64 (x + y) := by unfold wrap64; omega
theorem add_plain (a b c a' b' c' : Int) (w : World)  :
    Calls Try.prog 13 #[.agg #[.int .i64 a, .int .i64 b, .int .i64 c], .agg #[.int .i64 a', .int .i64 b', .int .i64 c']] w fun e w' => e = .returned (.agg #[.int .i64 (wrap64 (a + a')), .int .i64 (wrap64 (b + b')), .int .i64 (wrap64 (c + c'))]) ∧ Below w.heap.size w w' := by
  have h := add_any a b c a' b' c' w
  rw [wl, wl, wl] at h; exact h
theorem total_plain (a b c : Int) (w : World) :
    Calls Try.prog 14 #[.agg #[.int .i64 a, .int .i64 b, .int .i64 c]] w fun e w' => e = .returned (.int .i64 (wrap64 (a + b + c))) ∧ Below w.heap.size w w' := by
  have h := total_any a b c w
  rw [wl, show wrap64 a + b + c = wrap64 a + (b + c) by omega, wl, show a + (b + c) = a + b + c by omega] at h; exact h
theorem ret_bool {b : Bool} (h : b = true) : Ending.returned (.bool b) = .returned (.bool true) := by rw [h]
/-- a box of the call's own, that holds a score -/
def box3 (W w' : World) (s : Value) (x y z : Value) : Prop := ∃ B, s = .pointer (some ⟨B, 0, none⟩) ∧ own3 w' B x y z ∧ Below W.heap.size W w'

set_option maxHeartbeats 1000000 in
theorem law_adds (a b c a' b' c' p q r : Int) (w : World) (ha : wrap64 a = a) (hb : wrap64 b = b) (hc : wrap64 c = c) :
    Calls Try.prog 5 #[.agg #[.int .i64 a, .int .i64 b, .int .i64 c], .agg #[.int .i64 a', .int .i64 b', .int .i64 c'], .agg #[.int .i64 p, .int .i64 q, .int .i64 r]] w fun e w' => e = .returned (.bool true) ∧ Below w.heap.size w w' := by
  go_enter Try.func5, Try.ntmps5
  go_wp2_with fail
  refine (works_any _).mono ?_
  rintro e w1 ⟨rfl, hb1⟩
  have o0 := own3_below (own3_alloc (own3_alloc (own3_new w (.int .i64 a) (.int .i64 b) (.int .i64 c) 24) (.cells #[.int .i64 a', .int .i64 b', .int .i64 c'] 24)) (.cells #[.int .i64 p, .int .i64 q, .int .i64 r] 24)) hb1 (by simp only [World.size_alloc]; omega)
  have o1 := own3_below (own3_alloc (own3_new (w.alloc (.cells #[.int .i64 a, .int .i64 b, .int .i64 c] 24)) (.int .i64 a') (.int .i64 b') (.int .i64 c') 24) (.cells #[.int .i64 p, .int .i64 q, .int .i64 r] 24)) hb1 (by simp only [World.size_alloc]; omega)
  have o2 := own3_below (own3_new ((w.alloc (.cells #[.int .i64 a, .int .i64 b, .int .i64 c] 24)).alloc (.cells #[.int .i64 a', .int .i64 b', .int .i64 c'] 24)) (.int .i64 p) (.int .i64 q) (.int .i64 r) 24) hb1 (by simp only [World.size_alloc]; omega)
  simp only [World.size_alloc] at o1 o2
  have hb2 : Below w.heap.size w w1 := ((((Below.refl _ _).alloc (Nat.le_refl _) _).alloc (by simp) _).alloc (by simp; omega) _).trans (hb1.mono (by simp; omega))
  clear hb1
  have k0 : ∀ w', Below w1.heap.size w1 w' → w'.cell? ⟨w.heap.size, 0, none⟩ = some (.int .i64 a) := fun w' h => cell_later h o0.2.1
  have k1 : ∀ w', Below w1.heap.size w1 w' → w'.cell? ⟨w.heap.size, 1, none⟩ = some (.int .i64 b) := fun w' h => cell_later h o0.2.2.1
  have k2 : ∀ w', Below w1.heap.size w1 w' → w'.cell? ⟨w.heap.size, 2, none⟩ = some (.int .i64 c) := fun w' h => cell_later h o0.2.2.2.1
  have k3 : ∀ w', Below w1.heap.size w1 w' → w'.cell? ⟨w.heap.size + 1, 0, none⟩ = some (.int .i64 a') := fun w' h => cell_later h o1.2.1
  have k4 : ∀ w', Below w1.heap.size w1 w' → w'.cell? ⟨w.heap.size + 1, 1, none⟩ = some (.int .i64 b') := fun w' h => cell_later h o1.2.2.1
  have k5 : ∀ w', Below w1.heap.size w1 w' → w'.cell? ⟨w.heap.size + 1, 2, none⟩ = some (.int .i64 c') := fun w' h => cell_later h o1.2.2.2.1
  have k6 : ∀ w', Below w1.heap.size w1 w' → w'.cell? ⟨w.heap.size + 1 + 1, 0, none⟩ = some (.int .i64 p) := fun w' h => cell_later h o2.2.1
  have k7 : ∀ w', Below w1.heap.size w1 w' → w'.cell? ⟨w.heap.size + 1 + 1, 1, none⟩ = some (.int .i64 q) := fun w' h => cell_later h o2.2.2.1
  have k8 : ∀ w', Below w1.heap.size w1 w' → w'.cell? ⟨w.heap.size + 1 + 1, 2, none⟩ = some (.int .i64 r) := fun w' h => cell_later h o2.2.2.2.1
  clear o0 o1 o2
  go_upto_region 4 with fail
  go_cut [8] (fun s8 wx => box3 w1 wx s8 (.int .i64 (wrap64 (wrap64 (a + a') + p))) (.int .i64 (wrap64 (wrap64 (b + b') + q))) (.int .i64 (wrap64 (wrap64 (c + c') + r))))
  case first =>
    go_region_held3 (fun w' => Below w1.heap.size w1 w') (first | assumption | go_grown)
      (first | (go_at_call 13; refine (add_plain _ _ _ _ _ _ _).mono ?_; rintro e w2 ⟨rfl, hb3⟩; obtain ⟨hbl, hsz⟩ := later' (by first | assumption | go_grown) hb3; have hz2 := hb3.size; (try simp only [World.size_alloc, World.size_drew] at hz2); (try have hz3 := Nat.lt_of_succ_le hz2); obtain ⟨hcc, hff⟩ := bcell hb3))
    all_goals go_wp2_with fail
    all_goals go_meet
    · exact ⟨_, rfl, own3_new _ _ _ _ _, by go_grown⟩
    · refine ⟨_, rfl, own3_set (own3_below (own3_new _ (.int .i64 0) (.int .i64 0) (.int .i64 0) 24) (by assumption) (by simp only [World.size_alloc]; omega)) _ _ _, by go_grown⟩
    · refine ⟨_, rfl, own3_set (own3_below (own3_below (own3_drew (own3_new _ (.int .i64 0) (.int .i64 0) (.int .i64 0) 24)) (by assumption) (by simp only [World.size_drew, World.size_alloc]; omega)) hb3 (by omega)) _ _ _, by go_grown⟩
  case rest =>
  obtain ⟨wo, rfl⟩ : ∃ wo : World, wo = wc := ⟨_, rfl⟩
  obtain ⟨B8, rfl, ⟨x0, x1, x2, x3, _⟩, hbx⟩ := hcut
  have l0 := fun w' h => k0 w' (later hbx h)
  have l1 := fun w' h => k1 w' (later hbx h)
  have l2 := fun w' h => k2 w' (later hbx h)
  have l3 := fun w' h => k3 w' (later hbx h)
  have l4 := fun w' h => k4 w' (later hbx h)
  have l5 := fun w' h => k5 w' (later hbx h)
  have l6 := fun w' h => k6 w' (later hbx h)
  have l7 := fun w' h => k7 w' (later hbx h)
  have l8 := fun w' h => k8 w' (later hbx h)
  clear k0 k1 k2 k3 k4 k5 k6 k7 k8
  have m0 : ∀ w', Below wo.heap.size wo w' → w'.cell? ⟨B8, 0, none⟩ = _ := fun w' h => cell_later h x1
  have m1 : ∀ w', Below wo.heap.size wo w' → w'.cell? ⟨B8, 1, none⟩ = _ := fun w' h => cell_later h x2
  have m2 : ∀ w', Below wo.heap.size wo w' → w'.cell? ⟨B8, 2, none⟩ = _ := fun w' h => cell_later h x3
  clear x1 x2 x3
  have hb4 := later hb2 hbx
  clear hb2 hbx
  go_upto_region 5 with fail
  go_cut [9] (fun s9 wx => box3 wo wx s9 (.int .i64 (wrap64 (a + wrap64 (a' + p)))) (.int .i64 (wrap64 (b + wrap64 (b' + q)))) (.int .i64 (wrap64 (c + wrap64 (c' + r)))))
  case first =>
    go_region_held3 (fun w' => Below wo.heap.size wo w') (first | assumption | go_grown)
      (first | (go_at_call 13; refine (add_plain _ _ _ _ _ _ _).mono ?_; rintro e w2 ⟨rfl, hb3⟩; obtain ⟨hbl, hsz⟩ := later' (by first | assumption | go_grown) hb3; have hz2 := hb3.size; (try simp only [World.size_alloc, World.size_drew] at hz2); (try have hz3 := Nat.lt_of_succ_le hz2); obtain ⟨hcc, hff⟩ := bcell hb3))
    all_goals go_wp2_with fail
    all_goals go_meet
    · exact ⟨_, rfl, own3_new _ _ _ _ _, by go_grown⟩
    · refine ⟨_, rfl, own3_set (own3_below (own3_new _ (.int .i64 0) (.int .i64 0) (.int .i64 0) 24) (by assumption) (by simp only [World.size_alloc]; omega)) _ _ _, by go_grown⟩
    · refine ⟨_, rfl, own3_set (own3_below (own3_below (own3_drew (own3_new _ (.int .i64 0) (.int .i64 0) (.int .i64 0) 24)) (by assumption) (by simp only [World.size_drew, World.size_alloc]; omega)) hb3 (by omega)) _ _ _, by go_grown⟩
  case rest =>
  obtain ⟨B9, rfl, ⟨x0', x1, x2, x3, _⟩, hbx⟩ := hcut
  replace l0 := fun w' h => l0 w' (later hbx h)
  replace l1 := fun w' h => l1 w' (later hbx h)
  replace l2 := fun w' h => l2 w' (later hbx h)
  replace l3 := fun w' h => l3 w' (later hbx h)
  replace l4 := fun w' h => l4 w' (later hbx h)
  replace l5 := fun w' h => l5 w' (later hbx h)
  replace m0 := fun w' h => m0 w' (later hbx h)
  replace m1 := fun w' h => m1 w' (later hbx h)
  replace m2 := fun w' h => m2 w' (later hbx h)
  clear l6 l7 l8
  have n0 : ∀ w', Below wc.heap.size wc w' → w'.cell? ⟨B9, 0, none⟩ = _ := fun w' h => cell_later h x1
  have n1 : ∀ w', Below wc.heap.size wc w' → w'.cell? ⟨B9, 1, none⟩ = _ := fun w' h => cell_later h x2
  have n2 : ∀ w', Below wc.heap.size wc w' → w'.cell? ⟨B9, 2, none⟩ = _ := fun w' h => cell_later h x3
  replace hb4 := later hb4 hbx
  clear hbx x1 x2 x3 x0 x0'
  have e1 : (wrap64 (wrap64 (a + a') + p) == wrap64 (a + wrap64 (a' + p))) = true := by rw [wl, wr', beq_iff_eq]; congr 1; omega
  have e2 : (wrap64 (wrap64 (b + b') + q) == wrap64 (b + wrap64 (b' + q))) = true := by rw [wl, wr', beq_iff_eq]; congr 1; omega
  have e3 : (wrap64 (wrap64 (c + c') + r) == wrap64 (c + wrap64 (c' + r))) = true := by rw [wl, wr', beq_iff_eq]; congr 1; omega
  have e4 : (wrap64 (a + a') == wrap64 (a' + a)) = true := by rw [beq_iff_eq]; congr 1; omega
  have e5 : (wrap64 (b + b') == wrap64 (b' + b)) = true := by rw [beq_iff_eq]; congr 1; omega
  have e6 : (wrap64 (c + c') == wrap64 (c' + c)) = true := by rw [beq_iff_eq]; congr 1; omega
  have e7 : (wrap64 (wrap64 (a + a') + wrap64 (b + b') + wrap64 (c + c')) == wrap64 (wrap64 (a + b + c) + wrap64 (a' + b' + c'))) = true := by rw [beq_iff_eq]; unfold wrap64; omega
  go_wp2_with fail
  go_region_held3 (fun w' => Below wc.heap.size wc w') (first | assumption | go_grown)
      (first | (go_at_call 13; refine (add_plain _ _ _ _ _ _ _).mono ?_; rintro e w2 ⟨rfl, hb3⟩; obtain ⟨hbl, hsz⟩ := later' (by first | assumption | go_grown) hb3; clear hb3) | (go_at_call 14; refine (total_plain _ _ _ _).mono ?_; rintro e w2 ⟨rfl, hb3⟩; obtain ⟨hbl, hsz⟩ := later' (by first | assumption | go_grown) hb3; clear hb3))
  go_wp2_with fail
  go_ret
  exact ⟨ret_bool (by rw [IntWalk.i64_left]; exact e7), later hb4 (by first | assumption | go_grown)⟩

theorem in64 {a : Int} (h : (Lit.int .i64 a).wf = true) : wrap64 a = a := by
  have hx : -9223372036854775808 ≤ a ∧ a ≤ 9223372036854775807 := by simpa [Lit.wf, IntKind.min, IntKind.max, IntKind.signed, IntKind.bits] using h
  exact IntWalk.wrap64_in a hx
theorem walk_adds (a b c a' b' c' p q r : Int) (w : World) (ha : (Lit.int .i64 a).wf = true) (hb : (Lit.int .i64 b).wf = true) (hc : (Lit.int .i64 c).wf = true) (_ : (Lit.int .i64 a').wf = true) (_ : (Lit.int .i64 b').wf = true) (_ : (Lit.int .i64 c').wf = true) (_ : (Lit.int .i64 p).wf = true) (_ : (Lit.int .i64 q).wf = true) (_ : (Lit.int .i64 r).wf = true) :
    Calls Try.prog 5 #[.agg #[.int .i64 a, .int .i64 b, .int .i64 c], .agg #[.int .i64 a', .int .i64 b', .int .i64 c'], .agg #[.int .i64 p, .int .i64 q, .int .i64 r]] w fun e w' => e = .returned (.bool true) ∧ Below w.heap.size w w' :=
  law_adds a b c a' b' c' p q r w (in64 ha) (in64 hb) (in64 hc)
end Go.Proofs.Ytbdmkgdgbpfhpaa
