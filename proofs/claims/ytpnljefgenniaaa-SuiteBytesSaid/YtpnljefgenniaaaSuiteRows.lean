/- suite.filled at rows: lists of lists that are read. No conditions. -/
import Derived.Test.YtpnljefgenniaaaSuiteFill
namespace Go.Proofs.Ytpnljefgenniaaa
set_option linter.unusedVariables false
open Go Go.RowKit

set_option maxRecDepth 100000 in
set_option maxHeartbeats 4000000 in
theorem getrow_any (Wb Rb r : Nat) (s : ByteArray) (a er wd : Nat) (w : World) (hW : w.cell? ⟨Wb, 0, none⟩ = some (.int .i64 wd)) (hP : w.cell? ⟨Rb, 0, none⟩ = some (.pointer (some ⟨r, 0, none⟩))) (h : RdAt w r s a er) (hs : s.size ≤ maxLen) (ha : a ≤ s.size) (hc : wd ≤ 10000) :
    Calls Try.prog 67 #[.pointer (some ⟨Wb, 0, none⟩), .pointer (some ⟨Rb, 0, none⟩)] w fun e w' => (∃ v, e = .returned v ∧ IRow w' w.heap.size v (listI s a er wd)) ∧ RdAt w' r s (stI s a er wd).1 (stI s a er wd).2 ∧ Only r w w' := by
  have hmf : ∀ (fn : Fn) (first cap : Array Value) (w : World), (Instr.makeFunc fn first cap).run Try.prog w = .ok (.func fn first cap) w := fun _ _ _ _ => rfl
  have CF := Lib.hid (filledI_any r s a er wd w h hs ha hc)
  clear h hs ha hc
  generalize listI s a er wd = l at CF ⊢
  generalize (stI s a er wd).1 = A2 at CF ⊢
  generalize (stI s a er wd).2 = R2 at CF ⊢
  go_enter Try.func67, Try.ntmps67
  go_wp2_with fail
  refine CF.out.mono ?_
  rintro e w2 ⟨⟨v, rfl, hrow⟩, hR, hO⟩
  go_wp2_with fail
  go_ret
  exact ⟨⟨v, rfl, hrow⟩, hR, hO⟩
/-- an inner list: in a block of its own, from N on, which is not v's -/
def Inner (w : World) (N : Nat) (v : Value) (a : Option Addr) (l : List Int) : Prop := l = [] ∨ ∃ b, a = some ⟨b, 0, none⟩ ∧ N ≤ b ∧ b < w.heap.size ∧ some b ≠ v.ownBlock ∧ ∀ j x, l[j]? = some x → w.cell? ⟨b, j, none⟩ = some (.int .i64 x)
def Inners (w : World) (N : Nat) (v : Value) (xs : List Value) (L : List (List Int)) : Prop := xs.length = L.length ∧ ∀ (i : Nat) (l : List Int), L[i]? = some l → ∃ pa c, xs[i]? = some (Value.slice pa l.length c) ∧ Inner w N v pa l
def rowI (s : ByteArray) (a er wd i : Nat) : List Int := listI s (stI s a er (i * wd)).1 (stI s a er (i * wd)).2 wd
def listR (s : ByteArray) (a er wd n : Nat) : List (List Int) := (List.range n).map (rowI s a er wd)
theorem listR_snoc (s : ByteArray) (a er wd n : Nat) : listR s a er wd (n + 1) = listR s a er wd n ++ [rowI s a er wd n] := by unfold listR; rw [List.range_succ, List.map_append]; rfl
theorem listR_len (s : ByteArray) (a er wd n : Nat) : (listR s a er wd n).length = n := by unfold listR; simp
theorem IRow.inner {w : World} {n : Nat} {v : Value} {l : List Int} (h : IRow w n v l) : ∃ a c, v = .slice a l.length c ∧ (l = [] ∨ ∃ b, a = some ⟨b, 0, none⟩ ∧ n ≤ b ∧ b < w.heap.size ∧ ∀ j x, l[j]? = some x → w.cell? ⟨b, j, none⟩ = some (.int .i64 x)) := by
  have h0 := h
  rcases h.2 with ⟨rfl, h1⟩ | ⟨g, cap, cur, rfl, hb, hg, hnc, hcm, hcur, htake⟩
  · have : l = [] := by simpa using h1
    subst this
    exact ⟨none, 0, rfl, .inl rfl⟩
  · refine ⟨some ⟨g, 0, none⟩, cap, by simp, .inr ⟨g, rfl, hb, (Array.getElem?_eq_some_iff.1 hg).1, fun j x hj => ?_⟩⟩
    have hlt := (List.getElem?_eq_some_iff.1 hj).1
    rw [h0.cellAt j (by simp; omega), List.getElem?_map, hj]; rfl
theorem Inners.move {w w' : World} {N : Nat} {v v' : Value} {xs : List Value} {L : List (List Int)} (h : Inners w N v xs L) (hs : w.heap.size ≤ w'.heap.size) (hb : ∀ k, N ≤ k → k < w.heap.size → some k ≠ v.ownBlock → w'.heap[k]? = w.heap[k]? ∧ some k ≠ v'.ownBlock) : Inners w' N v' xs L := by
  refine ⟨h.1, fun i l hi => ?_⟩
  obtain ⟨pa, c, h1, h2⟩ := h.2 i l hi
  refine ⟨pa, c, h1, ?_⟩
  rcases h2 with h2 | ⟨b, rfl, hN, hlt, hne, h2⟩
  · exact .inl h2
  · obtain ⟨e1, e2⟩ := hb b hN hlt hne
    exact .inr ⟨b, rfl, hN, Nat.lt_of_lt_of_le hlt hs, e2, fun j x hj => (World.cell?_of_block (w := w) (a := ⟨b, j, none⟩) e1).trans (h2 j x hj)⟩
theorem Inners.snoc {w : World} {N : Nat} {v : Value} {xs : List Value} {L : List (List Int)} {pa : Option Addr} {c : Nat} {l : List Int} (h : Inners w N v xs L) (hi : Inner w N v pa l) : Inners w N v (xs ++ [.slice pa l.length c]) (L ++ [l]) := by
  refine ⟨by rw [List.length_append, List.length_append, h.1]; rfl, fun i q hq => ?_⟩
  by_cases hlt : i < L.length
  · rw [List.getElem?_append_left hlt] at hq
    obtain ⟨pa', c', h1, h2⟩ := h.2 i q hq
    exact ⟨pa', c', by rw [List.getElem?_append_left (by rw [h.1]; exact hlt)]; exact h1, h2⟩
  · rw [List.getElem?_append_right (by omega)] at hq
    have hi0 : i - L.length = 0 := by
      have := (List.getElem?_eq_some_iff.1 hq).1
      simp at this; omega
    rw [hi0] at hq
    simp at hq
    subst hq
    exact ⟨pa, c, by rw [List.getElem?_append_right (by rw [h.1]; omega), h.1, hi0]; rfl, hi⟩
set_option maxRecDepth 100000 in
set_option maxHeartbeats 8000000 in
theorem filledR_any (Wb Rb r : Nat) (s : ByteArray) (a er wd cnt : Nat) (w : World) (hW : w.cell? ⟨Wb, 0, none⟩ = some (.int .i64 wd)) (hP : w.cell? ⟨Rb, 0, none⟩ = some (.pointer (some ⟨r, 0, none⟩))) (nW : Wb ≠ r) (nR : Rb ≠ r) (h : RdAt w r s a er) (hs : s.size ≤ maxLen) (ha : a ≤ s.size) (hwd : wd ≤ 10000) (hc : cnt ≤ 10000) :
    Calls Try.prog 66 #[.int .i64 cnt, .func (.func 67) #[] #[.pointer (some ⟨Wb, 0, none⟩), .pointer (some ⟨Rb, 0, none⟩)]] w fun e w' => (∃ pa c, e = .returned (.slice pa (listR s a er wd cnt).length c) ∧ RowsAt w' pa (listR s a er wd cnt)) ∧ RdAt w' r s (stI s a er (cnt * wd)).1 (stI s a er (cnt * wd)).2 ∧ Only r w w' := by
  have HR := Lib.hid h
  have hrl := h.lt
  have hWl : Wb < w.heap.size := World.block_lt_of_cell? w _ hW
  have hRl : Rb < w.heap.size := World.block_lt_of_cell? w _ hP
  obtain ⟨i0, z0, hi, hz, k1, k2, k3⟩ := info_of infoS
  have HI := Lib.hid hi
  have HZ := Lib.hid hz
  have K1 := Lib.hid k1
  have K2 := Lib.hid k2
  have K3 := Lib.hid k3
  clear h hi hz k1 k2 k3
  go_enter Try.func66, Try.ntmps66
  go_wp2_with fail
  go_loopw [5, 7] (fun v i wr => ∃ k : Nat, k ≤ cnt ∧ i = .int .i64 k ∧ (∃ xs : List Value, wr.ownsRow w.heap.size 68 1 v xs.length xs ∧ Inners wr w.heap.size v xs (listR s a er wd k)) ∧ RdAt wr r s (stI s a er (k * wd)).1 (stI s a er (k * wd)).2 ∧ Only r w wr) (fun _ i _ => cnt - (intOf i).toNat)
  case atStart => exact ⟨0, by omega, rfl, ⟨[], World.ownsRow_nil _ _ _ _, rfl, fun i l hi => by simp [listR] at hi⟩, by rw [Nat.zero_mul]; exact HR.out, Only.refl _ _⟩
  case round =>
    obtain ⟨k, hk, rfl, ⟨xs, hrow, hin⟩, hR, hO⟩ := hrel
    have HROW := Lib.hid hrow
    have HIN := Lib.hid hin
    have HRk := Lib.hid hR
    have HO := Lib.hid hO
    have hxl : xs.length = k := by rw [hin.1, listR_len]
    clear hrow hin hR hO HR
    by_cases hlt : k < cnt
    · have c1 : wr.cell? ⟨Wb, 0, none⟩ = some (.int .i64 wd) := (World.cell?_of_block (w := w) (a := ⟨Wb, 0, none⟩) (HO.out.block Wb hWl nW)).trans hW
      have c2 : wr.cell? ⟨Rb, 0, none⟩ = some (.pointer (some ⟨r, 0, none⟩)) := (World.cell?_of_block (w := w) (a := ⟨Rb, 0, none⟩) (HO.out.block Rb hRl nR)).trans hP
      have CI := Lib.hid (getrow_any Wb Rb r s (stI s a er (k * wd)).1 (stI s a er (k * wd)).2 wd wr c1 c2 HRk.out hs (stI_le ha _) hwd)
      have HST := Lib.hid (show stI s (stI s a er (k * wd)).1 (stI s a er (k * wd)).2 wd = stI s a er ((k + 1) * wd) by rw [stI_shift, Nat.add_mul, Nat.one_mul])
      rw [HST.out] at CI
      rw [show listI s (stI s a er (k * wd)).1 (stI s a er (k * wd)).2 wd = rowI s a er wd k from rfl] at CI
      clear c1 c2
      go_wp2_with fail
      refine CI.out.mono ?_
      rintro e w2 ⟨⟨v1, rfl, hrow1⟩, hR2, hO2⟩
      obtain ⟨a1, q1, rfl, hin1⟩ := hrow1.inner
      have hown : ∀ q, Value.ownBlock u5 = some q → w.heap.size ≤ q ∧ q < wr.heap.size := World.ownsRow.lt HROW.out
      have row2 := own_at (w' := w2) HROW.out fun q hq => hO2.block q (hown q hq).2 (by have := (hown q hq).1; omega)
      have O2 := HO.out.trans hO2
      have hn1 : wr.heap.size ≤ w2.heap.size := hO2.size
      have in2 : Inners w2 w.heap.size u5 xs (listR s a er wd k) := HIN.out.move hO2.size fun q hN hlt hne => ⟨hO2.block q hlt (by omega), hne⟩
      have wr1 : w.heap.size ≤ wr.heap.size := HO.out.size
      have in1 : Inner w2 w.heap.size u5 a1 (rowI s a er wd k) := by
        rcases hin1 with h | ⟨b, rfl, h1, h2, h3⟩
        · exact .inl h
        · exact .inr ⟨b, rfl, by omega, h2, fun h => by have := (hown b h.symm).2; omega, h3⟩
      have IN := Lib.hid (in2.snoc (c := q1) in1)
      have ROW2 := Lib.hid row2
      have R2' := Lib.hid hR2
      have O2' := Lib.hid O2
      have hw2 : w.heap.size ≤ w2.heap.size := O2.size
      have HW := Lib.hid hown
      clear row2 hR2 hO2 O2 CI hown hrow1 hin1 in1 in2 HIN HROW HO HRk
      go_wp2_with (at_builtin; refine append_one rfl 58 68 i0 z0 24 Try.underlying58 HI.out HZ.out K1.out K2.out K3.out (by decide) (.tmp 9) (.tmp 12) rfl w.heap.size u5 _ rfl ROW2.out (.slice a1 (rowI s a er wd k).length q1) rfl rfl hw2 (by omega) ?_; intro v' w5 hown5 hgr hfr)
      have hz2 : (w2.alloc (.cells #[.slice a1 (rowI s a er wd k).length q1] 68)).heap.size = w2.heap.size + 1 := by simp
      have hr2 : r < w2.heap.size := R2'.out.lt
      have hnr : some r ≠ Value.ownBlock u5 := fun h => by have := (HW.out r h.symm).1; omega
      have R5 := R2'.out.at ((hgr.block r (by rw [hz2]; omega) hnr).trans (Below.heap_alloc _ _ _ hr2))
      have h25 : w2.heap.size ≤ w5.heap.size := by have := hgr.size; rw [hz2] at this; omega
      have O5 : Only r w w5 := ⟨hgr.os.trans O2'.out.os, hgr.tape.trans O2'.out.tape, hgr.output.trans O2'.out.output, Nat.le_trans O2'.out.size h25, fun q hq hne => ((hgr.block q (by rw [hz2]; omega) (fun h => by have := (HW.out q h.symm).1; omega)).trans (Below.heap_alloc _ _ _ (by omega))).trans (O2'.out.block q hq hne)⟩
      have IN5 : Inners w5 w.heap.size v' (xs ++ [.slice a1 (rowI s a er wd k).length q1]) (listR s a er wd (k + 1)) := by
        rw [listR_snoc]
        refine IN.out.move h25 fun q hN hlt hne => ⟨(hgr.block q (by rw [hz2]; omega) hne).trans (Below.heap_alloc _ _ _ hlt), ?_⟩
        rcases hfr with e | ⟨b, e, hb⟩
        · rw [e]; exact hne
        · rw [e]; intro h; cases h; omega
      exact ⟨⟨k + 1, by omega, by go_num, ⟨_, hown5, IN5⟩, R5, O5⟩, by simp [intOf]; omega⟩
    · obtain rfl : k = cnt := by omega
      have HF : Hid (∃ pa c, u5 = .slice pa (listR s a er wd k).length c ∧ RowsAt wr pa (listR s a er wd k)) := Lib.hid (by
        have h0 := HROW.out
        have hin := HIN.out
        rcases h0.2 with ⟨hv, h1⟩ | ⟨g, cap, cur, hv, hb, hg, hnc, hcm, hcur, htake⟩
        · have hk0 : listR s a er wd k = [] := List.eq_nil_of_length_eq_zero (by rw [← hin.1]; exact h1)
          exact ⟨none, 0, by rw [hv, hk0]; rfl, .inl hk0⟩
        · refine ⟨some ⟨g, 0, none⟩, cap, by rw [hv, hin.1], ?_⟩
          by_cases hl : listR s a er wd k = []
          · exact .inl hl
          · refine .inr ⟨g, 0, rfl, (Array.getElem?_eq_some_iff.1 hg).1, fun i l hi => ?_⟩
            obtain ⟨pa, c, h2, h3⟩ := hin.2 i l hi
            have hlt := (List.getElem?_eq_some_iff.1 h2).1
            refine ⟨pa, c, ?_, ?_⟩
            · rw [hv] at h0
              rw [Nat.zero_add, h0.cellAt i (by omega)]; exact h2
            · rcases h3 with h3 | ⟨b, rfl, _, hlt3, _, h3⟩
              · exact .inl h3
              · exact .inr ⟨b, 0, rfl, hlt3, fun j x hj => by rw [Nat.zero_add]; exact h3 j x hj⟩)
      obtain ⟨pa, c, rfl, hrows⟩ := HF.out
      have HROWS := Lib.hid hrows
      clear hrows HF HROW HIN hxl
      go_wp2_with fail
      go_ret
      exact ⟨⟨pa, c, rfl, HROWS.out⟩, HRk.out, HO.out⟩
end Go.Proofs.Ytpnljefgenniaaa

