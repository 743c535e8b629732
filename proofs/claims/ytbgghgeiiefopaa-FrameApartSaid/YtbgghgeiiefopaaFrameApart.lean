/- The walk of the law FrameApart. No conditions. -/
import Derived.Test.YtbgghgeiiefopaaFrameBack
import Derived.Deep.QuietTactic
import Derived.BigQuiet
namespace Go.Proofs.Ytbgghgeiiefopaa
set_option linter.unusedVariables false
open Go Go.RowKit

theorem box_two (w : World) (x y : Int) (d f : ByteArray) : (∀ w', Below (w.heap.size + 2) ((w.alloc (.cells #[.int .i64 x, .string d] 23)).alloc (.cells #[.int .i64 y, .string f] 23)) w' → w'.cell? ⟨w.heap.size, 0, none⟩ = some (.int .i64 x) ∧ w'.cell? ⟨w.heap.size, 1, none⟩ = some (.string d) ∧ w'.cell? ⟨w.heap.size + 1, 0, none⟩ = some (.int .i64 y) ∧ w'.cell? ⟨w.heap.size + 1, 1, none⟩ = some (.string f)) ∧ ((w.alloc (.cells #[.int .i64 x, .string d] 23)).alloc (.cells #[.int .i64 y, .string f] 23)).heap.size = w.heap.size + 2 ∧ Below w.heap.size w ((w.alloc (.cells #[.int .i64 x, .string d] 23)).alloc (.cells #[.int .i64 y, .string f] 23)) := by
  refine ⟨fun w' h => ?_, by simp, ((Below.refl _ w).alloc (Nat.le_refl _) _).alloc (by simp) _⟩
  have h1 := heap_alloc_new (w.alloc (.cells #[.int .i64 x, .string d] 23)) (.cells #[.int .i64 y, .string f] 23)
  rw [World.size_alloc] at h1
  have h0 : ((w.alloc (.cells #[.int .i64 x, .string d] 23)).alloc (.cells #[.int .i64 y, .string f] 23)).heap[w.heap.size]? = some (.cells #[.int .i64 x, .string d] 23) := (Below.heap_alloc _ _ _ (by simp)).trans (heap_alloc_new w _)
  have k0 := (h.block w.heap.size (by omega)).trans h0
  have k1 := (h.block (w.heap.size + 1) (by omega)).trans h1
  refine ⟨?_, ?_, ?_, ?_⟩ <;> (unfold World.cell?; simp only [k0, k1]; rfl)
theorem apart_beq {x y : Int} {d f : ByteArray} (hx : fE x d = 0) (hy : fE y f = 0) (hle : (fS x d).size ≤ (fS y f).size) (h : ¬ (x = y ∧ d = f)) : (((fS y f).extract 0 (fS x d).size).toList == (fS x d).toList) = false := by
  refine str_ne fun e => h ?_
  have e2 : (fS y f).data.toList = (fS x d).data.toList ++ (fS y f).data.toList.drop (fS x d).size := by
    have := congrArg (fun b : ByteArray => b.data.toList) e
    simp only [ext_l, List.drop_zero, Nat.sub_zero] at this
    rw [← this, List.take_append_drop]
  rw [fS_good hy, fS_good hx] at e2
  exact fFrame_apart hx hy e2
theorem below_drewN {n : Nat} {w w' : World} (h : Below n w w') (k : Nat) : Below n w (w'.drewN k) := ⟨h.os, h.tape, h.output, h.size, h.block⟩
theorem same_beq {s : ByteArray} : ((s.extract 0 s.size).toList == s.toList) = true := by simp
set_option maxRecDepth 100000 in
set_option maxHeartbeats 8000000 in
theorem walk_fapart (x : Int) (d : ByteArray) (y : Int) (f : ByteArray) (w : World) (hx : I64 x ∧ d.size ≤ maxLen) (hy : I64 y ∧ f.size ≤ maxLen) :
    Calls Try.prog 8 #[.agg #[.int .i64 x, .string d], .agg #[.int .i64 y, .string f]] w fun e w' => e = .returned (.bool true) ∧ Below w.heap.size w w' := by
  obtain ⟨_, hd⟩ := hx
  obtain ⟨_, hf⟩ := hy
  unfold maxLen at hd hf
  obtain ⟨hcells, hz, hfr⟩ := box_two w x y d f
  have h0 := fun w' h => (hcells w' h).1
  have h1 := fun w' h => (hcells w' h).2.1
  have h2 := fun w' h => (hcells w' h).2.2.1
  have h3 := fun w' h => (hcells w' h).2.2.2
  have HFR := Lib.hid hfr
  have CP := Lib.hid (fun W => fput_any x d W (by omega))
  have CQ := Lib.hid (fun W => fput_any y f W (by omega))
  clear hcells hfr
  by_cases hb : d.size ≤ 1000 ∧ f.size ≤ 1000
  · obtain ⟨hb1, hb2⟩ := hb
    have d1 : decide ((1000 : Int) < d.size) = false := by simp; omega
    have d2 : decide ((1000 : Int) < f.size) = false := by simp; omega
    have HAP := Lib.hid (fun (hx : fE x d = 0) (hy : fE y f = 0) (hle : (fS x d).size ≤ (fS y f).size) (h : ¬ (x = y ∧ d = f)) => apart_beq hx hy hle h)
    have HSM := Lib.hid (show x = y ∧ d = f → fS y f = fS x d from fun h => by rw [h.1, h.2])
    generalize fS x d = s at CP HAP HSM
    generalize fS y f = t at CQ HAP HSM
    generalize fE x d = ex at CP HAP
    generalize fE y f = ey at CQ HAP
    clear hd hf hb1 hb2
    go_enter Try.func8, Try.ntmps8
    go_wp2_with fail
    generalize (w.alloc (.cells #[.int .i64 x, .string d] 23)).alloc (.cells #[.int .i64 y, .string f] 23) = V at h0 h1 h2 h3 hz HFR ⊢
    refine (fworks_any _).mono ?_
    rintro e w1 ⟨rfl, hb1⟩
    have q1 : Below (w.heap.size + 2) V w1 := by rw [← hz]; exact hb1
    have s1 : w.heap.size + 2 ≤ w1.heap.size := by rw [← hz]; exact hb1.size
    go_wp2_with fail
    refine (CP.out _).mono ?_
    rintro e w2 ⟨rfl, hb2⟩
    obtain ⟨q2, s2⟩ := belowS ⟨q1, s1⟩ hb2
    go_wp2_with fail
    refine (CQ.out _).mono ?_
    rintro e w3 ⟨rfl, hb3⟩
    obtain ⟨q3, s3⟩ := belowS ⟨q2, s2⟩ hb3
    clear q1 s1 q2 s2 hb1 hb2 hb3
    have HEND := Lib.hid (HFR.out.trans (q3.mono (show w.heap.size ≤ w.heap.size + 2 by omega)))
    by_cases c1 : ex = 0
    · subst c1
      by_cases c2 : ey = 0
      · subst c2
        by_cases c3 : s.size ≤ t.size
        · have e3 : decide ((t.size : Int) < s.size) = false := by simp; omega
          have e3' : decide (t.size < s.size) = false := by simp; omega
          have e4 : (s.size : Int) ≤ t.size := by omega
          by_cases c4 : x = y ∧ d = f
          · have e5 := HSM.out c4
            subst e5
            obtain ⟨rfl, rfl⟩ := c4
            have e6 := same_beq (s := t)
            go_wp2_with fail
            go_quiet (fail)
            go_wp2_with fail
            go_ret
            exact ⟨ret_bool (by simp), below_drewN HEND.out nq⟩
          · have e6 := HAP.out rfl rfl c3 c4
            by_cases c5 : x = y
            · have c6 : ¬ d = f := fun h => c4 ⟨c5, h⟩
              subst c5
              have e7 := str_ne c6
              clear c4 c6
              go_wp2_with fail
              go_quiet (fail)
              go_wp2_with fail
              go_ret
              exact ⟨ret_bool (by simp), below_drewN HEND.out nq⟩
            · have e7 : (x == y) = false := by simp; exact c5
              clear c4 c5
              go_wp2_with fail
              go_quiet (fail)
              go_wp2_with fail
              go_ret
              exact ⟨ret_bool (by simp), below_drewN HEND.out nq⟩
        · have e3 : decide ((t.size : Int) < s.size) = true := by simp; omega
          have e3' : decide (t.size < s.size) = true := by simp; omega
          clear c3
          go_wp2_with fail
          go_ret
          exact ⟨rfl, HEND.out⟩
      · have e2 : ((ey : Int) == 0) = false := by simp; omega
        go_wp2_with fail
        go_ret
        exact ⟨rfl, HEND.out⟩
    · have e1 : ((ex : Int) == 0) = false := by simp; omega
      go_wp2_with fail
      go_ret
      exact ⟨rfl, HEND.out⟩
  · have HH := Lib.hid hb
    clear hb
    go_enter Try.func8, Try.ntmps8
    go_wp2_with fail
    generalize (w.alloc (.cells #[.int .i64 x, .string d] 23)).alloc (.cells #[.int .i64 y, .string f] 23) = V at h0 h1 h2 h3 hz HFR ⊢
    refine (fworks_any _).mono ?_
    rintro e w1 ⟨rfl, hb1⟩
    have q1 : Below (w.heap.size + 2) V w1 := by rw [← hz]; exact hb1
    go_wp2_with fail
    all_goals first | (go_ret; exact ⟨rfl, HFR.out.trans (q1.mono (show w.heap.size ≤ w.heap.size + 2 by omega))⟩) | (exfalso; exact HH.out (by omega))
end Go.Proofs.Ytbgghgeiiefopaa

