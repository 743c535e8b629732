/- The second, third and fourth step of frame's Get. No conditions. -/
import Derived.Test.YtanbifhhoeaofaaFrameCut
import Derived.Laws.Rows
namespace Go.Proofs.Ytanbifhhoeaofaa
set_option linter.unusedVariables false
open Go Go.RowKit

theorem gE_le (s : ByteArray) (a : Nat) : gE s a ≤ 3 := by
  unfold gE lebGet getF
  repeat' split
  all_goals first | (simp only; omega) | (simp only; split <;> omega)
theorem IntBox.c0 {w : World} {n : Nat} {x : Int} (h : IntBox w n x) : w.cell? ⟨n, 0, none⟩ = some (.int .i64 x) := by unfold IntBox at h; simp [World.cell?, h]
theorem IntBox.f0 {w : World} {n : Nat} {x : Int} (h : IntBox w n x) : w.frozen? ⟨n, 0, none⟩ = false := by unfold IntBox at h; simp [World.frozen?, h]
theorem IntBox.lt {w : World} {n : Nat} {x : Int} (h : IntBox w n x) : n < w.heap.size := (Array.getElem?_eq_some_iff.1 h).1
theorem IntBox.read {w w' : World} {n r : Nat} {x : Int} (h : IntBox w n x) (hn : n ≠ r) (ho : Only r w w') : IntBox w' n x := (ho.block n h.lt hn).trans h
theorem IntBox.set {w : World} {n : Nat} {x : Int} (h : IntBox w n x) (y : Int) : IntBox (w.setCell ⟨n, 0, none⟩ (.int .i64 y)) n y := set_blk h 0 _
theorem IntBox.past {w : World} {n K o : Nat} {x : Int} {v : Value} (h : IntBox w n x) (hn : n ≠ K) : IntBox (w.setCell ⟨K, o, none⟩ v) n x := (Below.heap_setCell w ⟨K, o, none⟩ v n hn).trans h
set_option maxRecDepth 100000 in
set_option maxHeartbeats 4000000 in
theorem step2_any (r K Bc n : Nat) (s : ByteArray) (a ty : Nat) (x : Int) (d tl : ByteArray) (w : World) (h : CutAt w r K Bc s a 0 ty d tl) (hn : IntBox w n x) (n1 : n ≠ r) (n2 : n ≠ K) (n3 : n ≠ Bc) (hs : s.size ≤ maxLen) (ha : a ≤ s.size) :
    Calls Try.prog 52 #[.pointer (some ⟨Bc, 0, none⟩), .pointer (some ⟨n, 0, none⟩)] w fun e w' => e = .returned (.int .i64 (cE s a 1048576 : Nat)) ∧ (cE s a 1048576 = 0 → CutAt w' r K Bc s (gT s a) 0 ty d tl ∧ IntBox w' n (gN s a : Nat)) ∧ Only3 r K n w w' := by
  have HG := Lib.hid (fun W => got_g s a W hs ha)
  have HC := Lib.hid (fun W h => rcount_any r s a 0 1048576 W h hs ha (by decide))
  have HA := Lib.hid (fun W h => ratq_any r s a 0 W h)
  have hE : cE s a 1048576 = if gE s a = 0 ∧ 1048576 < gN s a then 4 else gE s a := by
    unfold cE
    by_cases h1 : gE s a = 0 ∧ 1048576 < gN s a
    · rw [if_pos h1, if_pos ⟨h1.1, .inr (by omega)⟩]
    · rw [if_neg h1, if_neg (by omega)]
  have hle := gE_le s a
  have H := Lib.hid h
  have HN := Lib.hid hn
  have b0 := h.b0
  have k0 := h.k0
  have k1 := h.k1
  clear h hn
  generalize cE s a 1048576 = E at HC hE ⊢
  generalize gN s a = N at HC HG hE ⊢
  generalize gT s a = T at HC HG ⊢
  generalize gE s a = G at HG hE hle
  by_cases hA : G = 0 ∧ 1048576 < N
  · obtain ⟨rfl, hN⟩ := hA
    rw [if_pos ⟨rfl, hN⟩] at hE
    subst hE
    have d1 : decide ((1048576 : Int) < N) = true := by simp; omega
    clear HC hle hN
    go_enter Try.func52, Try.ntmps52
    go_wp2_with fail
    go_quiet (first | (go_at_call 54; exact Calls.quiet_of_same (HA.out _ (H.out.rd.drewN _))) | (go_at_call 53; exact Calls.quiet_of_same (HG.out _)))
    go_wp2_with fail
    go_ret
    exact ⟨rfl, fun h => by omega, (Only3.refl _ _ _ _).drewN _⟩
  · rw [if_neg hA] at hE
    have HA2 := Lib.hid hA
    have HW : Hid (wrF (mvE 0 E) = E) := Lib.hid (by unfold wrF mvE; rw [if_pos rfl, if_neg (by omega)])
    subst hE
    have HT : Hid (∀ W, RdAt W r s (mvA a 0 T E) (mvE 0 E) → E = 0 → RdAt W r s T 0) := Lib.hid (fun W h h0 => by
      rw [h0] at h; exact h)
    have hV : E = 0 → tk 0 E (wrap64 (N : Int)) 0 = (N : Int) := fun h0 => by
      subst h0
      unfold tk; rw [if_pos ⟨rfl, rfl⟩]; exact IntWalk.wrap64_in (N : Int) (by omega)
    have HV := Lib.hid hV
    clear hA hV
    generalize tk 0 E (wrap64 (N : Int)) 0 = v at HC HV
    by_cases h0 : E = 0
    · have hN : ¬ 1048576 < N := fun h => HA2.out ⟨h0, h⟩
      have d1 : decide ((1048576 : Int) < N) = false := by simp; omega
      subst h0
      clear hN hle
      go_enter Try.func52, Try.ntmps52
      go_wp2_with fail
      go_quiet (first | (go_at_call 54; exact Calls.quiet_of_same (HA.out _ (H.out.rd.drewN _))) | (go_at_call 53; exact Calls.quiet_of_same (HG.out _)))
      go_wp2_with fail
      refine (HC.out _ (H.out.rd.drewN _)).mono ?_
      rintro e w3 ⟨rfl, hR3, hO3⟩
      have hC3 := (H.out.drewN nq).read hR3 hO3
      have hN3 := (show IntBox (w.drewN nq) n x from HN.out).read n1 hO3
      have c3 := hN3.c0
      have f3 := hN3.f0
      have m0 : (w3.setCell ⟨n, 0, none⟩ (.int .i64 v)).cell? ⟨Bc, 0, none⟩ = some (.pointer (some ⟨K, 0, none⟩)) := (hC3.setN (.int .i64 v) n1 n2 n3).b0
      have hC4 := Lib.hid (hC3.setN (.int .i64 v) n1 n2 n3)
      have hN4 := Lib.hid (hN3.set v)
      have O4 := Lib.hid (((hO3.three K n).setN 0 (.int .i64 v)).pre (k := nq))
      clear hC3 hN3 hO3 hR3
      go_wp2_with fail
      generalize w3.setCell ⟨n, 0, none⟩ (.int .i64 v) = W4 at hC4 hN4 O4 m0 ⊢
      refine (wrong_any r K Bc s _ _ ty d tl _ hC4.out).mono ?_
      rintro e w5 ⟨rfl, m, rfl⟩
      rw [HW.out]
      go_wp2_with fail
      go_ret
      exact ⟨rfl, fun h0 => ⟨⟨HT.out _ (hC4.out.rd.drewN m) h0, hC4.out.blk, hC4.out.box, hC4.out.rK, hC4.out.rB, hC4.out.KB⟩, by have := hN4.out; rw [HV.out h0] at this; exact this⟩, O4.out.drewN m⟩
    · have d0 : ((E : Int) == 0) = false := by simp; omega
      go_enter Try.func52, Try.ntmps52
      go_wp2_with fail
      go_quiet (first | (go_at_call 54; exact Calls.quiet_of_same (HA.out _ (H.out.rd.drewN _))) | (go_at_call 53; exact Calls.quiet_of_same (HG.out _)))
      go_wp2_with fail
      refine (HC.out _ (H.out.rd.drewN _)).mono ?_
      rintro e w3 ⟨rfl, hR3, hO3⟩
      have hC3 := (H.out.drewN nq).read hR3 hO3
      have hN3 := (show IntBox (w.drewN nq) n x from HN.out).read n1 hO3
      have c3 := hN3.c0
      have f3 := hN3.f0
      have m0 : (w3.setCell ⟨n, 0, none⟩ (.int .i64 v)).cell? ⟨Bc, 0, none⟩ = some (.pointer (some ⟨K, 0, none⟩)) := (hC3.setN (.int .i64 v) n1 n2 n3).b0
      have hC4 := Lib.hid (hC3.setN (.int .i64 v) n1 n2 n3)
      have O4 := Lib.hid (((hO3.three K n).setN 0 (.int .i64 v)).pre (k := nq))
      clear hC3 hN3 hO3 hR3
      go_wp2_with fail
      generalize w3.setCell ⟨n, 0, none⟩ (.int .i64 v) = W4 at hC4 O4 m0 ⊢
      refine (wrong_any r K Bc s _ _ ty d tl _ hC4.out).mono ?_
      rintro e w5 ⟨rfl, m, rfl⟩
      rw [HW.out]
      go_wp2_with fail
      go_ret
      exact ⟨rfl, fun h => absurd h h0, O4.out.drewN m⟩
end Go.Proofs.Ytanbifhhoeaofaa

