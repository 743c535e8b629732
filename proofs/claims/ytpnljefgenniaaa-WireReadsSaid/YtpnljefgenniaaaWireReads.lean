/- The walk of the law WireReads. No conditions. -/
import Derived.Test.YtpnljefgenniaaaWireRun
import Derived.Deep.QuietTactic
import Derived.BigQuiet
namespace Go.Proofs.Ytpnljefgenniaaa
set_option linter.unusedVariables false
open Go Go.RowKit

set_option maxRecDepth 100000 in
set_option maxHeartbeats 16000000 in
theorem reads_in (s : ByteArray) (a : Option Addr) (la ca : Nat) (K N : Nat → Int) (w : World) (hA : OpsP w a la ca K N) (hs : s.size ≤ 1000) (hl : la ≤ 60) :
    Calls Try.prog 5 #[.string s, .slice a la ca] w fun e w' => e = .returned (.bool true) ∧ Below w.heap.size w w' := by
  obtain ⟨hA, _, _, hKN⟩ := hA
  have hd1 : decide ((1000 : Int) < s.size) = false := by simp; omega
  have hd2 : decide ((60 : Int) < la) = false := by simp; omega
  have hsm : s.size ≤ maxLen := by unfold maxLen; omega
  have HA := Lib.hid hA
  have HKN := Lib.hid hKN
  have HS := Lib.hid hsm
  clear hA hKN hsm
  go_enter Try.func5, Try.ntmps5
  go_wp2_with fail
  refine (wireworks_any _).mono ?_
  rintro e w1 ⟨rfl, hb1⟩
  go_wp2_with fail
  refine (rof_any s _).mono ?_
  rintro e w2 ⟨rfl, hw2⟩
  have r2 : RdAt w2 w1.heap.size s 0 0 := by rw [← hw2]; exact RdAt.new w1 s
  have hb2 : Below w1.heap.size w1 w2 := by rw [← hw2]; exact (Below.refl _ _).alloc (Nat.le_refl _) _
  have A2 := (HA.out.later hb1).later hb2
  have B2 := Lib.hid (hb1.trans (hb2.mono hb1.size))
  clear hw2
  go_wp2_with fail
  refine (drun_any s a la ca K N _ HS.out hl A2 (fun i => (HKN.out i).2)).mono ?_
  rintro e w3 ⟨⟨v, rfl, hrow⟩, hb3⟩
  have R3 := Lib.hid (r2.later hb3)
  have A3 := Lib.hid (A2.later hb3)
  have B3 := Lib.hid (B2.out.trans (hb3.mono B2.out.size))
  have hr3 : w1.heap.size < w3.heap.size := (r2.later hb3).lt
  have hn3 : w1.heap.size < w2.heap.size + 1 := by have := r2.lt; omega
  have hw13 : w.heap.size ≤ w1.heap.size := hb1.size
  obtain ⟨a2, c2, rfl, hform⟩ := hrow.form
  have HF := Lib.hid hform
  clear r2 hb2 A2 hb3 hb1 hrow hform
  go_wp2_with fail
  go_loopw [8] (fun i wr => ∃ k : Nat, k ≤ la ∧ i = .int .i64 k ∧ RdAt wr w1.heap.size s (stR s K N k).1 (stR s K N k).2 ∧ Only w1.heap.size w3 wr) (fun i _ => la - (intOf i).toNat)
  case atStart => exact ⟨0, by omega, rfl, R3.out, Only.refl _ _⟩
  case round =>
    obtain ⟨k, hk, rfl, hR, hO⟩ := hrel
    have HR := Lib.hid hR
    have HO := Lib.hid hO
    clear hR hO
    by_cases hlt : k < la
    · obtain ⟨bb, off, rfl, hbl, hc⟩ := HA.out.cells (by omega)
      obtain ⟨g, rfl, hg1, hg2, hcells⟩ := HF.out (by omega)
      have hbn : bb ≠ w1.heap.size := by omega
      have hbl3 : bb < w3.heap.size := by omega
      have hblk : wr.heap[bb]? = w.heap[bb]? := (HO.out.block bb hbl3 hbn).trans (B3.out.block bb hbl)
      have hcc := hc k hlt
      have c0 : wr.cell? ⟨bb, off + k * 2, none⟩ = some (.int .i64 (K k)) := (World.cell?_of_block (w := w) (a := ⟨bb, _, none⟩) hblk).trans hcc.1
      have c1 : wr.cell? ⟨bb, off + k * 2 + 1, none⟩ = some (.int .i64 (N k)) := (World.cell?_of_block (w := w) (a := ⟨bb, _, none⟩) hblk).trans hcc.2
      have CD := Lib.hid (fun W h => do_it w1.heap.size s (stR s K N k).1 (stR s K N k).2 (K k) (N k) W h HS.out (stR_le s K N k) (HKN.out k).2)
      have hst : stR s K N (k + 1) = (oA s (stR s K N k).1 (stR s K N k).2 (K k) (N k), oR s (stR s K N k).1 (stR s K N k).2 (K k) (N k)) := rfl
      have HST := Lib.hid hst
      have hrow : ∀ j, j < 5 → w3.cell? ⟨g, k * 5 + j, none⟩ = (gotCells (oGot s (stR s K N k).1 (stR s K N k).2 (K k) (N k)))[j]? := fun j hj => by
        rw [hcells (k * 5 + j) (by omega), gotRow_get _ _ _ _ hlt hj]; rfl
      have HROW := Lib.hid hrow
      clear hst hc hcc hcells hrow
      generalize oR s (stR s K N k).1 (stR s K N k).2 (K k) (N k) = R2 at CD HST
      generalize oA s (stR s K N k).1 (stR s K N k).2 (K k) (N k) = A2 at CD HST
      generalize oGot s (stR s K N k).1 (stR s K N k).2 (K k) (N k) = gv at CD HROW
      generalize (stR s K N k).1 = aa at CD HR
      generalize (stR s K N k).2 = er at CD HR
      generalize K k = kk at CD c0
      generalize N k = nn at CD c1
      obtain ⟨x1, x2, x3, x4, x5⟩ := gv
      unfold gotVal at CD
      simp only at CD
      go_wp2_with fail
      refine (CD.out _ HR.out).mono ?_
      rintro e w4 ⟨rfl, hR4, hO4⟩
      have o4 := HO.out.trans hO4
      have hal := (Below.refl _ w4).alloc (Nat.le_refl _) (.cells #[.int .u64 x1, .int .i64 x2, .string x3, .int .i64 x4, .int .i64 x5] 42)
      have R5 := Lib.hid (hR4.later hal)
      have O5 := Lib.hid (o4.trans (Below.only hal))
      have q : ∀ j, j < 5 → (w4.alloc (.cells #[.int .u64 x1, .int .i64 x2, .string x3, .int .i64 x4, .int .i64 x5] 42)).cell? ⟨g, k * 5 + j, none⟩ = (gotCells ⟨x1, x2, x3, x4, x5⟩)[j]? := fun j hj => (World.cell?_of_block (w := w3) (a := ⟨g, _, none⟩) (O5.out.block g hg2 (by omega))).trans (HROW.out j hj)
      have q0 := q 0 (by omega)
      have q1 := q 1 (by omega)
      have q2 := q 2 (by omega)
      have q3 := q 3 (by omega)
      have q4 := q 4 (by omega)
      simp only [gotCells, Nat.add_zero, List.getElem?_cons_zero, List.getElem?_cons_succ] at q0 q1 q2 q3 q4
      have h5 : five (w4.alloc (.cells #[.int .u64 x1, .int .i64 x2, .string x3, .int .i64 x4, .int .i64 x5] 42)) w4.heap.size (.int .u64 x1) (.int .i64 x2) (.string x3) (.int .i64 x4) (.int .i64 x5) := heap_alloc_new w4 _
      obtain ⟨z0, z1, z2, z3, z4, _⟩ := h5.cells
      clear q h5 hal o4 hR4 hO4
      go_wp2_with fail
      generalize w4.alloc (.cells #[.int .u64 x1, .int .i64 x2, .string x3, .int .i64 x4, .int .i64 x5] 42) = W5 at R5 O5 q0 q1 q2 q3 q4 z0 z1 z2 z3 z4 ⊢
      go_quiet (fail)
      go_wp2_with fail
      exact ⟨⟨k + 1, by omega, by go_num, by rw [HST.out]; exact R5.out.drewN nq, ⟨O5.out.os, O5.out.tape, O5.out.output, O5.out.size, O5.out.block⟩⟩, by simp [intOf]; omega⟩
    · obtain rfl : k = la := by omega
      have HB' := B3.out.trans ((HO.out.below (Nat.le_refl _) (Nat.le_of_lt hr3)).mono hw13)
      go_wp2_with fail
      go_ret
      exact ⟨rfl, HB'⟩
set_option maxRecDepth 100000 in
set_option maxHeartbeats 4000000 in
theorem walk_wreads (s : ByteArray) (a : Option Addr) (la ca : Nat) (K N : Nat → Int) (w : World) (hs : s.size ≤ maxLen) (hA : OpsP w a la ca K N) :
    Calls Try.prog 5 #[.string s, .slice a la ca] w fun e w' => e = .returned (.bool true) ∧ Below w.heap.size w w' := by
  by_cases h1 : s.size ≤ 1000
  · by_cases h2 : la ≤ 60
    · exact reads_in s a la ca K N w hA h1 h2
    · have hl2 := Nat.le_trans hA.2.1 hA.2.2.1
      unfold maxLen at hs hl2
      have hd1 : decide ((1000 : Int) < s.size) = false := by simp; omega
      have hd2 : decide ((60 : Int) < la) = true := by simp; omega
      clear hA h2
      go_enter Try.func5, Try.ntmps5
      go_wp2_with fail
      refine (wireworks_any _).mono ?_
      rintro e w1 ⟨rfl, hb1⟩
      go_wp2_with fail
      go_ret
      exact ⟨rfl, hb1⟩
  · unfold maxLen at hs
    have hd1 : decide ((1000 : Int) < s.size) = true := by simp; omega
    clear hA h1
    go_enter Try.func5, Try.ntmps5
    go_wp2_with fail
    refine (wireworks_any _).mono ?_
    rintro e w1 ⟨rfl, hb1⟩
    go_wp2_with fail
    go_ret
    exact ⟨rfl, hb1⟩
end Go.Proofs.Ytpnljefgenniaaa

