/- A writer among other things: what its methods leave; the iterator's bookkeeping. No conditions. -/
import Derived.Test.YtanbifhhoeaofaaContPlaces
import Derived.Test.YtanbifhhoeaofaaWriter
namespace Go.Proofs.Ytanbifhhoeaofaa
set_option linter.unusedVariables false
open Go Go.RowKit

/-- whatever is cells lies on -/
def CellsOn (W W' : World) : Prop := ∀ (k : Nat) (o : Obj), W.heap[k]? = some o → o.isCells = true → W'.heap[k]? = some o
theorem CellsOn.grown {W W' : World} {row : Option Nat} (h : W.grownBy W' row) (hr : ∀ r, row = some r → ∃ o : Obj, W.heap[r]? = some o ∧ o.isCells = false) : CellsOn W W' := fun k o hk ho =>
  (h.block k (Array.getElem?_eq_some_iff.1 hk).1 (fun e => by obtain ⟨o', h1, h2⟩ := hr k e.symm; rw [hk] at h1; cases h1; rw [ho] at h2; cases h2)).trans hk
theorem CellsOn.only {W W' : World} {r : Nat} (h : Only r W W') (hr : ∃ q, W.heap[r]? = some (.loop q)) : CellsOn W W' := fun k o hk ho =>
  (h.block k (Array.getElem?_eq_some_iff.1 hk).1 (fun e => by obtain ⟨q, h1⟩ := hr; rw [e, h1] at hk; cases hk; cases ho)).trans hk
theorem CellsOn.below {W W' : World} (h : Below W.heap.size W W') : CellsOn W W' := fun k o hk _ => (h.block k (Array.getElem?_eq_some_iff.1 hk).1).trans hk
theorem row_cells {w : World} {n : Nat} {v : Value} {l : List UInt8} (h : BRow w n v l) {k : Nat} (hk : v.ownBlock = some k) : ∃ o, w.heap[k]? = some o ∧ o.isCells = true := by
  rcases h.2 with ⟨rfl, _⟩ | ⟨g, cap, cur, rfl, _, hg, _⟩
  · simp [Value.ownBlock] at hk
  · simp [Value.ownBlock] at hk
    subst hk
    exact ⟨_, hg, rfl⟩
theorem WrAt.on {W W' : World} {n p : Nat} {v : Value} {l : List UInt8} (h : WrAt W n p v l) (hc : CellsOn W W') : WrAt W' n p v l :=
  ⟨h.base, hc p _ h.box rfl, h.row.at fun k hk => by obtain ⟨o, h1, h2⟩ := row_cells h.row hk; exact (hc k o h1 h2).trans h1.symm⟩
/-- a writer at block n, whose value was v2 in W2; nothing else is turned -/
def WrR (W2 : World) (n : Nat) (v2 : Value) (l : List UInt8) (W : World) : Prop := ∃ v, WrAt W n n v l ∧ Ow n v2 W2 W ∧ Fresh W2.heap.size v2 v
theorem WrR.new {W2 : World} {n : Nat} {v2 : Value} {l : List UInt8} (h : WrAt W2 n n v2 l) : WrR W2 n v2 l W2 := ⟨v2, h, Ow.refl _ _ _, Fresh.refl _ _⟩
theorem Below.ow {W W' : World} (n : Nat) (v : Value) (h : Below W.heap.size W W') : Ow n v W W' := ⟨h.os, h.tape, h.output, h.size, fun k hk _ _ => h.block k hk⟩
theorem WrR.later {W2 W W' : World} {n : Nat} {v2 : Value} {l : List UInt8} (h : WrR W2 n v2 l W) (hb : Below W.heap.size W W') : WrR W2 n v2 l W' := by
  obtain ⟨v, h1, h2, h3⟩ := h
  exact ⟨v, h1.later hb, h2.trans h3 (Below.ow n v hb), h3⟩
theorem WrR.drew {W2 W : World} {n : Nat} {v2 : Value} {l : List UInt8} (h : WrR W2 n v2 l W) : WrR W2 n v2 l W.drew := h.later ⟨rfl, rfl, rfl, Nat.le_refl _, fun _ _ => rfl⟩
theorem WrR.wrote {W2 W W' : World} {n : Nat} {v2 v : Value} {l l' : List UInt8} {e : Ending} (h1 : WrAt W n n v l) (h2 : Ow n v2 W2 W) (h3 : Fresh W2.heap.size v2 v) (hw : Wrote n n v l' W e W') : e = .returned (.pointer (some ⟨n, 0, none⟩)) ∧ WrR W2 n v2 l' W' := by
  obtain ⟨he, v', k1, k2, k3⟩ := hw
  exact ⟨he, v', k1, h2.trans h3 k2, h3.trans k3 h2.size⟩
theorem rnumW {W2 W : World} {n : Nat} {v2 : Value} {l : List UInt8} (h : WrR W2 n v2 l W) (m : Nat) (hm : U64 m) (hle : l.length ≤ 10000000) :
    Calls Try.prog 33 #[.pointer (some ⟨n, 0, none⟩), .int .u64 m] W fun e W' => e = .returned (.pointer (some ⟨n, 0, none⟩)) ∧ WrR W2 n v2 (l ++ lebL m) W' := by
  obtain ⟨v, h1, h2, h3⟩ := h
  exact (wnum_any n n v l m W h1 hm hle).mono fun e W' hw => WrR.wrote h1 h2 h3 hw
theorem rrawW {W2 W : World} {n : Nat} {v2 : Value} {l : List UInt8} (h : WrR W2 n v2 l W) (t : ByteArray) (hle : l.length + t.size ≤ 100000000) :
    Calls Try.prog 42 #[.pointer (some ⟨n, 0, none⟩), .string t] W fun e W' => e = .returned (.pointer (some ⟨n, 0, none⟩)) ∧ WrR W2 n v2 (l ++ t.data.toList) W' := by
  obtain ⟨v, h1, h2, h3⟩ := h
  exact (wraw_any n n v l t W h1 hle).mono fun e W' hw => WrR.wrote h1 h2 h3 hw
theorem rbyteW {W2 W : World} {n : Nat} {v2 : Value} {l : List UInt8} (h : WrR W2 n v2 l W) (b : UInt8) (hle : l.length ≤ 10000000) :
    Calls Try.prog 41 #[.pointer (some ⟨n, 0, none⟩), .int .u8 b.toNat] W fun e W' => e = .returned (.pointer (some ⟨n, 0, none⟩)) ∧ WrR W2 n v2 (l ++ [b]) W' := by
  obtain ⟨v, h1, h2, h3⟩ := h
  exact (wbyte_any n n v l b W h1 hle).mono fun e W' hw => WrR.wrote h1 h2 h3 hw
theorem rbytesW {W2 W : World} {n : Nat} {v2 : Value} {l : List UInt8} (h : WrR W2 n v2 l W) :
    Calls Try.prog 35 #[.pointer (some ⟨n, 0, none⟩)] W fun e W' => e = .returned (.string (bStr l)) ∧ W = W' := by
  obtain ⟨v, h1, h2, h3⟩ := h
  exact wbytes_any n n v l W h1
theorem WrR.block {W2 W : World} {n : Nat} {v2 : Value} {l : List UInt8} (h : WrR W2 n v2 l W) {k : Nat} (hk : k < W2.heap.size) (hn : k ≠ n) (hv : some k ≠ v2.ownBlock) : W.heap[k]? = W2.heap[k]? := by
  obtain ⟨v, h1, h2, h3⟩ := h
  exact h2.block k hk hn hv
theorem WrR.size {W2 W : World} {n : Nat} {v2 : Value} {l : List UInt8} (h : WrR W2 n v2 l W) : W2.heap.size ≤ W.heap.size := by
  obtain ⟨v, h1, h2, h3⟩ := h
  exact h2.size
theorem WrR.under {W2 W : World} {n : Nat} {v2 : Value} {l l' : List UInt8} (h : WrR W2 n v2 l W) (hw : WrAt W2 n n v2 l') : Below n W2 W := by
  obtain ⟨v, h1, h2, h3⟩ := h
  exact h2.below hw
theorem WrR.others {W2 W : World} {n : Nat} {v2 : Value} {l l' : List UInt8} (h : WrR W2 n v2 l W) (hw : WrAt W2 n n v2 l') : KeepsOthers W2 W := by
  refine ⟨h.size, fun k o hk ho => (h.block (Array.getElem?_eq_some_iff.1 hk).1 (fun e => ?_) fun e => ?_).trans hk⟩
  · rw [e, show W2.heap[n]? = _ from hw.box] at hk; cases hk; cases ho
  · obtain ⟨o', h1, h2⟩ := row_cells hw.row e.symm
    rw [hk] at h1; cases h1; rw [ho] at h2; cases h2
end Go.Proofs.Ytanbifhhoeaofaa

