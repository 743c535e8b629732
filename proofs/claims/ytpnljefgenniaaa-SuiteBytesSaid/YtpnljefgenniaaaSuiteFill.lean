/- suite.filled at a reader's Int: a list of numbers that are read. No conditions. -/
import Derived.Test.YtpnljefgenniaaaSuitePut
import Derived.Test.YtpnljefgenniaaaReader3
namespace Go.Proofs.Ytpnljefgenniaaa
set_option linter.unusedVariables false
open Go Go.RowKit

theorem append_one {W : World} {ops : Array Oper} {rest : List Oper} {o : Oper} {act : Act} {Q : Exit → Act → World → Prop} (hgd : o.guard = none) (S E : TypeId) (i : TypeInfo) (z : Value) (by' : Nat) (hu : Try.prog.underlying S = some (.slice E)) (hi : Try.prog.info? E = some i) (hz : i.zero = some z) (h1 : i.size = 1) (h2 : i.bytes = by') (h3 : z.cells.size = 1) (hby : by' ≤ 48) (s x : Operand)
    (ho : o.op = .call { callee := .builtin .append, args := #[s, x], argTypes := #[S, S] }) (n : Nat) (v : Value) (xs : List Value) (hs : act.eval s = v) (hrow : W.ownsRow n E 1 v xs.length xs)
    (u : Value) (hone : u.oneCell' = true) (hx : act.eval x = .slice (some ⟨W.heap.size, 0, none⟩) 1 1) (hn : n ≤ W.heap.size) (hle : xs.length ≤ 100000)
    (h : ∀ v' w', w'.ownsRow n E 1 v' (xs ++ [u]).length (xs ++ [u]) → (W.alloc (.cells #[u] E)).grownBy w' v.ownBlock → Fresh W.heap.size v v' → wpList Try.prog ops Q rest (act.put o.dst v') w') :
    wpList Try.prog ops Q (o :: rest) act (W.alloc (.cells #[u] E)) := by
  refine wpList_append_lies _ hgd s x S ho n E i z 1 by' hu hi hz h1 h2 h3 (by decide) v xs.length xs hs (World.ownsRow.alloc hrow _) ⟨W.heap.size, 0, none⟩ 1 1 [u] hx rfl (cell_one_new _ _ _) (by intro q hq; simp at hq; subst hq; exact hone) (by decide) (by unfold maxLen; omega) (Nat.le_trans (Nat.mul_le_mul_left _ hby) (by omega)) (by simp; omega) (W.heap.size + 1) (by simp) (fun g cap w' hown hg hloc _ => h _ w' ?_ hg ?_)
  · simpa using hown
  · rcases hloc with h1 | h1
    · exact .inl (by rw [h1]; rfl)
    · exact .inr ⟨g, rfl, by omega⟩
theorem infoI : (Try.prog.info? 3).map (fun i => (i.zero.map (fun z => z.cells.size), i.size, i.bytes)) = some (some 1, 1, 8) := by kernel_rfl
theorem infoS : (Try.prog.info? 68).map (fun i => (i.zero.map (fun z => z.cells.size), i.size, i.bytes)) = some (some 1, 1, 24) := by kernel_rfl
theorem info_of {E : TypeId} {b : Nat} (h : (Try.prog.info? E).map (fun i => (i.zero.map (fun z => z.cells.size), i.size, i.bytes)) = some (some 1, 1, b)) : ∃ (i : TypeInfo) (z : Value), Try.prog.info? E = some i ∧ i.zero = some z ∧ i.size = 1 ∧ i.bytes = b ∧ z.cells.size = 1 := by
  cases h' : Try.prog.info? E with
  | none => rw [h'] at h; simp at h
  | some i =>
    rw [h'] at h
    simp only [Option.map_some, Option.some.injEq, Prod.mk.injEq] at h
    obtain ⟨h1, h2, h3⟩ := h
    cases hz : i.zero with
    | none => rw [hz] at h1; simp at h1
    | some z => rw [hz] at h1; exact ⟨i, z, rfl, hz, h2, h3, by simpa using h1⟩
/-- the states of a reader that reads numbers with a sign -/
def stI (s : ByteArray) (a er : Nat) : Nat → Nat × Nat
  | 0 => (a, er)
  | k + 1 => (mvA (stI s a er k).1 (stI s a er k).2 (gT s (stI s a er k).1) (gE s (stI s a er k).1), mvE (stI s a er k).2 (gE s (stI s a er k).1))
def vI (s : ByteArray) (a er k : Nat) : Int := tk (stI s a er k).2 (gE s (stI s a er k).1) (zN s (stI s a er k).1) 0
def listI (s : ByteArray) (a er n : Nat) : List Int := (List.range n).map (vI s a er)
theorem listI_snoc (s : ByteArray) (a er n : Nat) : listI s a er (n + 1) = listI s a er n ++ [vI s a er n] := by unfold listI; rw [List.range_succ, List.map_append]; rfl
theorem listI_len (s : ByteArray) (a er n : Nat) : (listI s a er n).length = n := by unfold listI; simp
theorem stI_le {s : ByteArray} {a er : Nat} (h : a ≤ s.size) (k : Nat) : (stI s a er k).1 ≤ s.size := by
  induction k with
  | zero => exact h
  | succ k ih =>
    obtain ⟨_, h1, h2, _⟩ := leb_g s _ ih
    exact (mvA_le ih ⟨h1, h2⟩).2
theorem stI_shift (s : ByteArray) (a er m k : Nat) : stI s (stI s a er m).1 (stI s a er m).2 k = stI s a er (m + k) := by
  induction k with
  | zero => rfl
  | succ k ih => rw [stI, ih, ← Nat.add_assoc, stI]
def iVal (x : Int) : Value := .int .i64 x
abbrev IRow (w : World) (n : Nat) (v : Value) (l : List Int) : Prop := w.ownsRow n 3 1 v (l.map iVal).length (l.map iVal)
theorem own_at {w w' : World} {n m : Nat} {E : TypeId} {v : Value} {xs : List Value} (h : w.ownsRow n E 1 v m xs) (hb : ∀ k, v.ownBlock = some k → w'.heap[k]? = w.heap[k]?) : w'.ownsRow n E 1 v m xs := by
  refine ⟨h.1, ?_⟩
  rcases h.2 with hn | ⟨g, cap, cur, rfl, hg, hgg, rest⟩
  · exact .inl hn
  · exact .inr ⟨g, cap, cur, rfl, hg, by rw [hb g rfl]; exact hgg, rest⟩
theorem IRow.ints {w : World} {n : Nat} {v : Value} {l : List Int} (h : IRow w n v l) : ∃ a c, v = .slice a l.length c ∧ IntsAt w a l := by
  have h0 := h
  rcases h.2 with ⟨rfl, h1⟩ | ⟨g, cap, cur, rfl, hb, hg, hnc, hcm, hcur, htake⟩
  · have : l = [] := by simpa using h1
    subst this
    exact ⟨none, 0, rfl, .inl rfl⟩
  · refine ⟨some ⟨g, 0, none⟩, cap, by simp, ?_⟩
    by_cases hl : l = []
    · exact .inl hl
    · refine .inr ⟨g, 0, rfl, (Array.getElem?_eq_some_iff.1 hg).1, fun j x hj => ?_⟩
      have hlt := (List.getElem?_eq_some_iff.1 hj).1
      rw [Nat.zero_add, h0.cellAt j (by simp; omega), List.getElem?_map, hj]; rfl
set_option maxRecDepth 100000 in
set_option maxHeartbeats 8000000 in
theorem filledI_any (r : Nat) (s : ByteArray) (a er cnt : Nat) (w : World) (h : RdAt w r s a er) (hs : s.size ≤ maxLen) (ha : a ≤ s.size) (hc : cnt ≤ 10000) :
    Calls Try.prog 68 #[.int .i64 cnt, .func (.func 26) #[.pointer (some ⟨r, 0, none⟩)] #[]] w fun e w' => (∃ v, e = .returned v ∧ IRow w' w.heap.size v (listI s a er cnt)) ∧ RdAt w' r s (stI s a er cnt).1 (stI s a er cnt).2 ∧ Only r w w' := by
  have HR := Lib.hid h
  have hrl := h.lt
  obtain ⟨i0, z0, hi, hz, k1, k2, k3⟩ := info_of infoI
  have HI := Lib.hid hi
  have HZ := Lib.hid hz
  have K1 := Lib.hid k1
  have K2 := Lib.hid k2
  have K3 := Lib.hid k3
  clear h hi hz k1 k2 k3
  go_enter Try.func68, Try.ntmps68
  go_wp2_with fail
  go_loopw [5, 7] (fun v i wr => ∃ k : Nat, k ≤ cnt ∧ i = .int .i64 k ∧ IRow wr w.heap.size v (listI s a er k) ∧ RdAt wr r s (stI s a er k).1 (stI s a er k).2 ∧ Only r w wr) (fun _ i _ => cnt - (intOf i).toNat)
  case atStart => exact ⟨0, by omega, rfl, World.ownsRow_nil _ _ _ _, HR.out, Only.refl _ _⟩
  case round =>
    obtain ⟨k, hk, rfl, hrow, hR, hO⟩ := hrel
    have HROW := Lib.hid hrow
    have HRk := Lib.hid hR
    have HO := Lib.hid hO
    clear hrow hR hO HR
    by_cases hlt : k < cnt
    · have CI := Lib.hid (fun W h => rint_any r s (stI s a er k).1 (stI s a er k).2 W h hs (stI_le ha k))
      have HST := Lib.hid (show stI s a er (k + 1) = (mvA (stI s a er k).1 (stI s a er k).2 (gT s (stI s a er k).1) (gE s (stI s a er k).1), mvE (stI s a er k).2 (gE s (stI s a er k).1)) from rfl)
      have HVI := Lib.hid (show vI s a er k = tk (stI s a er k).2 (gE s (stI s a er k).1) (zN s (stI s a er k).1) 0 from rfl)
      generalize mvA (stI s a er k).1 (stI s a er k).2 (gT s (stI s a er k).1) (gE s (stI s a er k).1) = A2 at CI HST
      generalize mvE (stI s a er k).2 (gE s (stI s a er k).1) = R2 at CI HST
      generalize tk (stI s a er k).2 (gE s (stI s a er k).1) (zN s (stI s a er k).1) 0 = x at CI HVI
      go_wp2_with fail
      refine (CI.out _ HRk.out).mono ?_
      rintro e w2 ⟨rfl, hR2, hO2⟩
      have hown : ∀ q, Value.ownBlock u5 = some q → w.heap.size ≤ q ∧ q < wr.heap.size := World.ownsRow.lt HROW.out
      have row2 : IRow w2 w.heap.size u5 (listI s a er k) := own_at HROW.out fun q hq => hO2.block q (hown q hq).2 (by have := (hown q hq).1; omega)
      have O2 := HO.out.trans hO2
      have ROW2 := Lib.hid row2
      have R2' := Lib.hid hR2
      have O2' := Lib.hid O2
      have hw2 : w.heap.size ≤ w2.heap.size := O2.size
      have hll : (listI s a er k).length ≤ 10000 := by rw [listI_len]; omega
      have HW := Lib.hid hown
      clear row2 hR2 hO2 O2 CI hown
      go_wp2_with (at_builtin; refine append_one rfl 68 3 i0 z0 8 Try.underlying68 HI.out HZ.out K1.out K2.out K3.out (by decide) (.tmp 9) (.tmp 12) rfl w.heap.size u5 _ rfl ROW2.out (.int .i64 x) rfl rfl hw2 (by rw [List.length_map]; omega) ?_; intro v' w5 hown5 hgr hfr)
      have hz2 : (w2.alloc (.cells #[.int .i64 x] 3)).heap.size = w2.heap.size + 1 := by simp
      have hr2 : r < w2.heap.size := R2'.out.lt
      have hnr : some r ≠ Value.ownBlock u5 := fun h => by have := (HW.out r h.symm).1; omega
      have R5 : RdAt w5 r s A2 R2 := R2'.out.at ((hgr.block r (by rw [hz2]; omega) hnr).trans (Below.heap_alloc _ _ _ hr2))
      have O5 : Only r w w5 := ⟨hgr.os.trans O2'.out.os, hgr.tape.trans O2'.out.tape, hgr.output.trans O2'.out.output, Nat.le_trans O2'.out.size (by have := hgr.size; rw [hz2] at this; omega), fun q hq hne => ((hgr.block q (by rw [hz2]; omega) (fun h => by have := (HW.out q h.symm).1; omega)).trans (Below.heap_alloc _ _ _ (by omega))).trans (O2'.out.block q hq hne)⟩
      exact ⟨⟨k + 1, by omega, by go_num, by rw [listI_snoc, HVI.out]; unfold IRow; rw [List.map_append]; exact hown5, by rw [HST.out]; exact R5, O5⟩, by simp [intOf]; omega⟩
    · obtain rfl : k = cnt := by omega
      go_wp2_with fail
      go_ret
      exact ⟨⟨_, rfl, HROW.out⟩, HRk.out, HO.out⟩
end Go.Proofs.Ytpnljefgenniaaa

