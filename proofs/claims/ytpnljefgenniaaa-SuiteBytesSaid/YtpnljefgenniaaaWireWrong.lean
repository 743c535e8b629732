/- The walk of the law WireWrong. No conditions. -/
import Derived.Test.YtpnljefgenniaaaOps
import Derived.Test.YtpnljefgenniaaaRend
import Derived.Deep.RegionWith
namespace Go.Proofs.Ytpnljefgenniaaa
set_option linter.unusedVariables false
open Go Go.RowKit

theorem wret {b : Bool} (h : b = true) : Ending.returned (.bool b) = .returned (.bool true) := by rw [h]
theorem oGot_err {s : ByteArray} {a er : Nat} {k n : Int} (h : er ≠ 0) : oGot s a er k n = ⟨0, 0, ⟨#[]⟩, a, er⟩ ∧ oA s a er k n = a ∧ oR s a er k n = er := by
  have ht : ∀ {α : Type} (e' : Nat) (x z : α), tk er e' x z = z := fun e' x z => by unfold tk; rw [if_neg (by omega)]
  have h1 : oA s a er k n = a := by unfold oA mvA; rw [if_neg (by omega)]
  have h2 : oR s a er k n = er := by unfold oR mvE; rw [if_neg h]
  refine ⟨?_, h1, h2⟩
  unfold oGot
  rw [h1, h2]
  have e1 : oNum s a er k n = 0 := by unfold oNum bV; simp only [ht]; (repeat' split) <;> rfl
  have e2 : oInt s a er k n = 0 := by unfold oInt; simp only [ht]; split <;> rfl
  have e3 : oText s a er k n = ⟨#[]⟩ := by unfold oText; simp only [ht]; (repeat' split) <;> rfl
  have e4 : endF s a er = er := by unfold endF; rw [if_neg (by omega)]
  rw [e1, e2, e3, e4]
set_option maxRecDepth 100000 in
set_option maxHeartbeats 16000000 in
theorem wrong_in (s : ByteArray) (a : Option Addr) (la ca : Nat) (K N : Nat → Int) (ok on : Int) (w : World) (hA : OpsP w a la ca K N) (ho : I64 on) (hs : s.size ≤ 1000) (hl : la ≤ 60) :
    Calls Try.prog 6 #[.string s, .slice a la ca, .agg #[.int .i64 ok, .int .i64 on]] w fun e w' => e = .returned (.bool true) ∧ Below w.heap.size w w' := by
  obtain ⟨hA, _, _, hKN⟩ := hA
  have hd1 : decide ((1000 : Int) < s.size) = false := by simp; omega
  have hd2 : decide ((60 : Int) < la) = false := by simp; omega
  have hsm : s.size ≤ maxLen := by unfold maxLen; omega
  have hbx : Below w.heap.size w (w.alloc (.cells #[.int .i64 ok, .int .i64 on] 45)) := (Below.refl _ _).alloc (Nat.le_refl _) _
  have HA := Lib.hid (hA.later hbx)
  have HKN := Lib.hid hKN
  have HO := Lib.hid ho
  have HS := Lib.hid hsm
  have hk0 : (w.alloc (.cells #[.int .i64 ok, .int .i64 on] 45)).cell? ⟨w.heap.size, 0, none⟩ = some (.int .i64 ok) := by simp
  have hk1 : (w.alloc (.cells #[.int .i64 ok, .int .i64 on] 45)).cell? ⟨w.heap.size, 1, none⟩ = some (.int .i64 on) := by simp
  have hz1 : (w.alloc (.cells #[.int .i64 ok, .int .i64 on] 45)).heap.size = w.heap.size + 1 := by simp
  have HK0 := Lib.hid hk0
  have HK1 := Lib.hid hk1
  have HZ1 := Lib.hid hz1
  have HBX := Lib.hid hbx
  clear hA hKN ho hsm hk0 hk1 hz1 hbx
  go_enter Try.func6, Try.ntmps6
  go_wp2_with fail
  generalize w.alloc (.cells #[.int .i64 ok, .int .i64 on] 45) = W0 at HK0 HK1 HZ1 HBX HA ⊢
  refine (wireworks_any _).mono ?_
  rintro e w1 ⟨rfl, hb1⟩
  have A1 := Lib.hid (HA.out.later hb1)
  have k0 : w1.cell? ⟨w.heap.size, 0, none⟩ = some (.int .i64 ok) := (hb1.cell (p := ⟨w.heap.size, 0, none⟩) (by have := HZ1.out; simp; omega)).trans HK0.out
  have k1 : w1.cell? ⟨w.heap.size, 1, none⟩ = some (.int .i64 on) := (hb1.cell (p := ⟨w.heap.size, 1, none⟩) (by have := HZ1.out; simp; omega)).trans HK1.out
  have hwz : w.heap.size < w1.heap.size := by have := HZ1.out; have := hb1.size; omega
  have B1 := Lib.hid (HBX.out.trans (hb1.mono HBX.out.size))
  have KK0 := Lib.hid k0
  have KK1 := Lib.hid k1
  clear k0 k1 hb1 HK0 HK1 HZ1 HBX HA
  go_wp2_with fail
  refine (rof_any s _).mono ?_
  rintro e w2 ⟨rfl, hw2⟩
  have r2 : RdAt w2 w1.heap.size s 0 0 := by rw [← hw2]; exact RdAt.new w1 s
  have hb2 : Below w1.heap.size w1 w2 := by rw [← hw2]; exact (Below.refl _ _).alloc (Nat.le_refl _) _
  have R2 := Lib.hid r2
  have B2 := Lib.hid hb2
  clear hw2 r2 hb2
  go_wp2_with fail
  go_loopw [9] (fun i wr => ∃ k aa er : Nat, k ≤ la ∧ i = .int .i64 k ∧ RdAt wr w1.heap.size s aa er ∧ aa ≤ s.size ∧ Below w1.heap.size w1 wr) (fun i _ => la - (intOf i).toNat)
  case atStart => exact ⟨0, 0, 0, by omega, rfl, R2.out, by omega, B2.out⟩
  case round =>
    obtain ⟨k, aa, er, hk, rfl, hR, haa, hB⟩ := hrel
    have HR := Lib.hid hR
    have HB := Lib.hid hB
    clear R2 B2 hR hB
    by_cases hlt : k < la
    · obtain ⟨bb, off, rfl, hbl, hc⟩ := A1.out.cells (by omega)
      have hcc := hc k hlt
      have c0 : wr.cell? ⟨bb, off + k * 2, none⟩ = some (.int .i64 (K k)) := (World.cell?_of_block (w := w1) (a := ⟨bb, _, none⟩) (HB.out.block bb hbl)).trans hcc.1
      have c1 : wr.cell? ⟨bb, off + k * 2 + 1, none⟩ = some (.int .i64 (N k)) := (World.cell?_of_block (w := w1) (a := ⟨bb, _, none⟩) (HB.out.block bb hbl)).trans hcc.2
      have hn := (HKN.out k).2
      have hle := oA_le (er := er) (k := K k) (n := N k) haa
      generalize K k = kk at c0 hle
      generalize N k = nn at c1 hn hle
      have HN := Lib.hid hn
      clear hc hcc hn
      go_wp2_with fail
      refine (do_it w1.heap.size s aa er kk nn _ HR.out HS.out haa HN.out).mono ?_
      rintro e w3 ⟨rfl, hR3, hO3⟩
      have HB3 := Lib.hid (HB.out.trans (hO3.below (Nat.le_refl _) HB.out.size))
      have HR3 := Lib.hid hR3
      clear hR3 hO3
      unfold gotVal
      go_wp2_with fail
      go_roundw
      case rel => exact ⟨k + 1, _, _, by omega, by go_num, HR3.out, hle.2, HB3.out⟩
      case measure => simp [intOf]; omega
    · obtain rfl : k = la := by omega
      have hk0 : wr.cell? ⟨w.heap.size, 0, none⟩ = some (.int .i64 ok) := (HB.out.cell (p := ⟨w.heap.size, 0, none⟩) hwz).trans KK0.out
      have hk1 : wr.cell? ⟨w.heap.size, 1, none⟩ = some (.int .i64 on) := (HB.out.cell (p := ⟨w.heap.size, 1, none⟩) hwz).trans KK1.out
      have hwr : w.heap.size < wr.heap.size := Nat.lt_of_lt_of_le hwz HB.out.size
      have HE := Lib.hid (fun W h => rendq_any w1.heap.size s aa er W h)
      have HAt := Lib.hid (fun W h => ratq_any w1.heap.size s aa er W h)
      have hD := do_it w1.heap.size s aa er ok on
      have hle := oA_le (er := er) (k := ok) (n := on) haa
      have hz : aa ≤ s.size := haa
      have d0 : decide ((aa : Int) < 0) = false := by simp
      have d1 : decide ((s.size : Int) < aa) = false := by simp; omega
      have d1' : decide (s.size < aa) = false := by simp; omega
      have hwr1 : w.heap.size ≤ w1.heap.size := by omega
      by_cases hE5 : er = 0 ∨ er = 5
      · obtain ⟨E, hE⟩ : ∃ E, endF s aa er = E := ⟨_, rfl⟩
        have hE2 : E = 0 ∨ E = 5 := by rw [← hE]; unfold endF; split <;> omega
        rw [hE] at HE
        unfold gotVal oGot at hD
        clear hE hE5
        generalize oNum s aa er ok on = x0 at hD
        generalize oInt s aa er ok on = x1 at hD
        generalize oText s aa er ok on = x2 at hD
        generalize endF s (oA s aa er ok on) (oR s aa er ok on) = x4 at hD
        generalize oA s aa er ok on = y at hD hle
        generalize oR s aa er ok on = z at hD
        have HD := Lib.hid hD
        have dy0 : decide ((aa : Int) ≤ y) = true := by simp; omega
        have dy1 : decide ((y : Int) ≤ s.size) = true := by simp; omega
        have dy0' : decide (aa ≤ y) = true := by simp; omega
        have dy1' : decide (y ≤ s.size) = true := by simp; omega
        have HAA := Lib.hid haa
        clear hD hle haa hz
        rcases hE2 with rfl | rfl
        all_goals
          go_wp2_with fail
          go_quiet (first | (go_at_call 22; exact Calls.quiet_of_same (HAt.out _ (HR.out.drewN _))) | (go_at_call 23; exact Calls.quiet_of (HE.out _ (HR.out.drewN _))))
          go_wp2_with fail
          refine (HD.out _ (HR.out.drewN _) HS.out HAA.out HO.out).mono ?_
          rintro e w4 ⟨rfl, hR4, hO4⟩
          go_wp2_with fail
          go_ret
          have hb4 : Below w.heap.size w w4 := B1.out.trans ((HB.out.trans (hO4.drewN.below (Nat.le_refl _) HB.out.size)).mono hwr1)
          exact ⟨wret (by simp), hb4.alloc hb4.size _⟩
      · have hE : endF s aa er = er := by unfold endF; rw [if_neg (by omega)]
        rw [hE] at HE
        have hne : er ≠ 0 := by omega
        obtain ⟨g1, g2, g3⟩ := oGot_err (s := s) (a := aa) (k := ok) (n := on) hne
        rw [g1] at hD
        unfold gotVal at hD
        simp only at hD
        have HD := Lib.hid hD
        have HAA := Lib.hid haa
        have q0 : ((er : Int) == 0) = false := by simp; omega
        have q5 : ((er : Int) == 5) = false := by simp; omega
        clear hD hle haa hz hE g1 g2 g3 hE5 hne
        go_wp2_with fail
        go_quiet (first | (go_at_call 22; exact Calls.quiet_of_same (HAt.out _ (HR.out.drewN _))) | (go_at_call 23; exact Calls.quiet_of (HE.out _ (HR.out.drewN _))))
        go_wp2_with fail
        refine (HD.out _ (HR.out.drewN _) HS.out HAA.out HO.out).mono ?_
        rintro e w4 ⟨rfl, hR4, hO4⟩
        go_wp2_with fail
        go_ret
        have hb4 : Below w.heap.size w w4 := B1.out.trans ((HB.out.trans (hO4.drewN.below (Nat.le_refl _) HB.out.size)).mono hwr1)
        exact ⟨wret (by simp), hb4.alloc hb4.size _⟩
set_option maxRecDepth 100000 in
set_option maxHeartbeats 4000000 in
theorem walk_wwrong (s : ByteArray) (a : Option Addr) (la ca : Nat) (K N : Nat → Int) (ok on : Int) (w : World) (hs : s.size ≤ maxLen) (hA : OpsP w a la ca K N) (ho : I64 ok ∧ I64 on) :
    Calls Try.prog 6 #[.string s, .slice a la ca, .agg #[.int .i64 ok, .int .i64 on]] w fun e w' => e = .returned (.bool true) ∧ Below w.heap.size w w' := by
  by_cases h1 : s.size ≤ 1000
  · by_cases h2 : la ≤ 60
    · exact wrong_in s a la ca K N ok on w hA ho.2 h1 h2
    · have hl2 := Nat.le_trans hA.2.1 hA.2.2.1
      unfold maxLen at hs hl2
      have hd1 : decide ((1000 : Int) < s.size) = false := by simp; omega
      have hd2 : decide ((60 : Int) < la) = true := by simp; omega
      clear hA ho h2
      go_enter Try.func6, Try.ntmps6
      go_wp2_with fail
      refine (wireworks_any _).mono ?_
      rintro e w1 ⟨rfl, hb1⟩
      go_wp2_with fail
      go_ret
      exact ⟨rfl, ((Below.refl _ w).alloc (Nat.le_refl _) _).trans (hb1.mono (by simp))⟩
  · unfold maxLen at hs
    have hd1 : decide ((1000 : Int) < s.size) = true := by simp; omega
    clear hA ho h1
    go_enter Try.func6, Try.ntmps6
    go_wp2_with fail
    refine (wireworks_any _).mono ?_
    rintro e w1 ⟨rfl, hb1⟩
    go_wp2_with fail
    go_ret
    exact ⟨rfl, ((Below.refl _ w).alloc (Nat.le_refl _) _).trans (hb1.mono (by simp))⟩
end Go.Proofs.Ytpnljefgenniaaa

