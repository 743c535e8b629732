/- places: the iterator's contract. No conditions. -/
import Derived.Test.YtanbifhhoeaofaaKeep
import Derived.Test.YtanbifhhoeaofaaCont2
import Derived.Shelf.Abstract
import Derived.WalkSpells
namespace Go.Proofs.Ytanbifhhoeaofaa
set_option linter.unusedVariables false
open Go Go.RowKit Go.Shelf
attribute [local go_sem] Oper.semAt_some

def encP (p : Nat × Sec) : Array Value := #[.int .i64 p.1, secV p.2]
theorem placesL_take (L : List Sec) {k : Nat} {x : Sec} (h : L[k]? = some x) : (placesL 7 L).take (k + 1) = (placesL 7 L).take k ++ [(7 + cSum (L.take k), x)] := take_snoc (placesL_at 7 L k h)
theorem placesL_all (L : List Sec) : (placesL 7 L).take L.length = placesL 7 L := by rw [List.take_of_length_le (by rw [placesL_len]; exact Nat.le_refl _)]
theorem placesL_pre (L : List Sec) {k : Nat} {x : Sec} (h : L[k]? = some x) : (placesL 7 L).take k ++ [(7 + cSum (L.take k), x)] <+: placesL 7 L := by rw [← placesL_take L h]; exact List.take_prefix _ _
set_option maxRecDepth 100000 in
set_option maxHeartbeats 4000000 in
theorem places_seq (n n0 Bn : Nat) (pa : Option Addr) (c : Nat) (L : List Sec) (w0 w : World) (hB : Boxed w Bn 22 (.slice pa L.length c)) (h0 : w0.heap.size = n0) (hb : Below n0 w0 w) (hL : SecsAt w0 pa L) (hs : cSum L ≤ 100000000) :
    SeqKeep n Try.prog 47 n0 Bn #[.pointer (some ⟨Bn, 0, none⟩)] encP (placesL 7 L) w := by
  intro l J W hW hJb hn0 hBn hY hJ0
  refine callsIn_of_wp Try.func47 rfl trivial ?_ rfl
  simp only [Try.ntmps47, List.size_toArray, List.length_cons, List.length_nil, Nat.reduceAdd, Nat.reduceSub, Array.replicate_succ, Array.replicate_zero, List.push_toArray, List.append_toArray, List.nil_append, List.cons_append]
  have hbx : Boxed W Bn 22 (.slice pa L.length c) := hW.2.trans hB
  have hc := hbx.cell
  have HL := Lib.hid (fun V (h : Below n0 W V) => hL.below ((hb.trans hW.1).trans h) (Nat.le_of_eq h0))
  have HT := Lib.hid (fun k x h => placesL_take L (k := k) (x := x) h)
  have HP := Lib.hid (fun k x h => placesL_pre L (k := k) (x := x) h)
  have HA := Lib.hid (placesL_all L)
  have HS := Lib.hid (fun k x h => cSum_snoc (L := L) (k := k) (x := x) h)
  have HU := Lib.hid (cSum_take_le L)
  have HZ := Lib.hid (fun (k : Nat) (x : Sec) (h : L[k]? = some x) => show x.2.size ≤ 1000000000 by
    have := dSum_mem (List.mem_of_getElem? h)
    have := data_le_cSum L
    omega)
  have HAT := Lib.hid (fun k (h : k < L.length) => sec_at (A := L) h)
  have hm : L.length ≤ 100000000 := by have := data_le_cSum L; omega
  have HJB := Lib.hid hJb
  have HY := Lib.hid hY
  have hns : n0 ≤ W.heap.size := hn0
  generalize L.length = m at hc HA HAT hm
  clear hB h0 hb hL hW hJb hY hn0 hbx
  gi_wp2
  gi_loopw [3, 8] (fun at' i wr => ∃ k : Nat, k ≤ m ∧ i = .int .i64 k ∧ at' = .int .i64 (7 + cSum (L.take k) : Nat) ∧ J ((placesL 7 L).take k) wr ∧ Kept n0 Bn W wr ∧ n0 ≤ wr.heap.size ∧ Bn < wr.heap.size) (fun _ i _ => m - (intOf i).toNat)
  case atStart => exact ⟨0, by omega, rfl, rfl, hJ0, Kept.refl _ _ _, hns, hBn⟩
  case round =>
    obtain ⟨k, hk, rfl, rfl, hJ, hK, hn, hbl⟩ := hrel
    have HJ := Lib.hid hJ
    have HK := Lib.hid hK
    clear hJ hK hJ0
    by_cases hlt : k < m
    · obtain ⟨x, hx⟩ := HAT.out k hlt
      obtain ⟨b, off, hp, hbb, c0, c1⟩ := (HL.out wr HK.out.1).at hx
      have HP1 := Lib.hid (HP.out k x hx)
      have HT1 := Lib.hid (HT.out k x hx)
      have HS1 := Lib.hid (HS.out k x hx)
      have hu := HU.out (k + 1)
      rw [HS1.out] at hu
      have hz := HZ.out k x hx
      obtain ⟨ty, d⟩ := x
      simp only at c0 c1 hz
      subst hp
      have hbw : Below wr.heap.size wr (wr.alloc (.cells #[.int .i64 ty, .string d] 36)) := (Below.refl _ wr).alloc (Nat.le_refl _) _
      have hX := HY.out _ _ wr (wr.alloc (.cells #[.int .i64 ty, .string d] 36)) HJ.out hbw HP1.out
      obtain ⟨fn, tmps, assign, body, hy, hR⟩ := hX
      have HX := Lib.hid hx
      have hsz : cSize (ty, d) ≤ 100000000 := by omega
      have hq : 7 + cSum (L.take k) ≤ 100000007 := by omega
      have CZ := Lib.hid (fun W => csize_any (ty, d) W hz)
      generalize cSum (L.take k) = q at *
      generalize cSize (ty, d) = z at *
      unfold encP secV at hy
      simp only at hy
      rw [show ((7 + q : Nat) : Int) = 7 + (q : Int) by omega] at hy
      clear hx hu
      gi_wp2
      refine hR.mono ?_
      rintro e W3 ⟨rfl, hJ3, hK3, hI3⟩
      have hb3 : W3.heap[wr.heap.size]? = some (.cells #[.int .i64 ty, .string d] 36) := (hI3 wr.heap.size (Nat.le_refl _) (by simp)).trans (heap_alloc_new wr _)
      have x0 : W3.cell? ⟨wr.heap.size, 0, none⟩ = some (.int .i64 ty) := by unfold World.cell?; rw [hb3]; rfl
      have x1 : W3.cell? ⟨wr.heap.size, 1, none⟩ = some (.string d) := by unfold World.cell?; rw [hb3]; rfl
      have hlt3 := (Array.getElem?_eq_some_iff.1 hb3).1
      have HJ3 := Lib.hid hJ3
      have HK3 := Lib.hid ((HK.out.trans (Kept.below hbw hn hbl)).trans hK3)
      clear hJ3 hK3 hI3 hb3 hbw hR hy
      gi_wp2_with (refine ⟨trivial, ?_⟩; gi_at_call 25; refine (callsIn_wide.2 (CZ.out W3)).mono ?_; rintro e W4 ⟨rfl, hb4⟩)
      have hs4 := hb4.size
      go_roundw
      case rel => exact ⟨k + 1, by omega, by go_num, by rw [HS1.out]; go_num, by rw [HT1.out]; exact HJB.out _ _ _ HJ3.out hb4, HK3.out.trans (Kept.below hb4 (by omega) (by omega)), by omega, by omega⟩
      case measure => simp [intOf]; omega
    · obtain rfl : k = m := by omega
      have HF := Lib.hid HA.out
      gi_wp2
      go_end0
      exact ⟨⟨_, rfl⟩, by rw [← HF.out]; exact HJ.out⟩
theorem places_in (pa : Option Addr) (m c : Nat) (w : World) (k : Nat) : CallsIn Fence.wide k Try.prog 34 #[.slice pa m c] w fun e w' => e = .returned (.func (.func 47) #[] #[.pointer (some ⟨w.heap.size, 0, none⟩)]) ∧ w.alloc (.cells #[.slice pa m c] 22) = w' := by
  refine callsIn_wide.2 ?_
  go_enter Try.func34, Try.ntmps34
  go_wp2
  go_ret
  exact ⟨rfl, rfl⟩
end Go.Proofs.Ytanbifhhoeaofaa

