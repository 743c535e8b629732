/- Lists of items, as a parameter and in memory. No conditions. -/
import Derived.Test.YtpnljefgenniaaaWireWorks
import Derived.Deep.Slices
import Derived.ProofKit
import Derived.SizedLaws
namespace Go.Proofs.Ytpnljefgenniaaa
set_option linter.unusedVariables false
open Go Go.RowKit Go.ChangeShapes Go.WideShapes Go.Deep

structure Itm where
  k : Int
  n : Int
  u : Nat
  s : ByteArray
def itmCells (x : Itm) : List Value := [.int .i64 x.k, .int .i64 x.n, .int .u64 x.u, .string x.s]
theorem add_mk (b off k : Nat) : (⟨b, off, none⟩ : Addr).add k = ⟨b, off + k, none⟩ := by
  unfold Addr.add; split
  · next h => rw [h]; rfl
  · rfl
/-- a list of items, wherever it lies -/
def Items (w : World) (a : Option Addr) (len : Nat) (I : Nat → Itm) : Prop := len = 0 ∨ ∃ b off, a = some ⟨b, off, none⟩ ∧ b < w.heap.size ∧ ∀ i, i < len → ∀ j, j < 4 → w.cell? ⟨b, off + i * 4 + j, none⟩ = (itmCells (I i))[j]?
theorem Items.at {w w' : World} {a : Option Addr} {len : Nat} {I : Nat → Itm} (h : Items w a len I) (hb : ∀ b off, a = some ⟨b, off, none⟩ → b < w.heap.size → w'.heap[b]? = w.heap[b]?) : Items w' a len I := by
  rcases h with h | ⟨b, off, rfl, hlt, h⟩
  · exact .inl h
  · have e := hb b off rfl hlt
    refine .inr ⟨b, off, rfl, ?_, fun i hi j hj => (World.cell?_of_block (w := w) (a := ⟨b, _, none⟩) e).trans (h i hi j hj)⟩
    rcases Nat.lt_or_ge b w'.heap.size with h2 | h2
    · exact h2
    · rw [Array.getElem?_eq_none h2, Array.getElem?_eq_getElem hlt] at e; cases e
theorem Items.below {w w' : World} {a : Option Addr} {len n : Nat} {I : Nat → Itm} (h : Items w a len I) (hb : Below n w w') (hn : w.heap.size ≤ n) : Items w' a len I := h.at fun b off _ hlt => hb.block b (by omega)
theorem Items.later {w w' : World} {a : Option Addr} {len : Nat} {I : Nat → Itm} (h : Items w a len I) (hb : Below w.heap.size w w') : Items w' a len I := h.below hb (Nat.le_refl _)
section
variable {H : Type} {enc : TypeId × Value → H} {w : World} {base : Nat} {spare : Nat → Bool} {held : Bool}
theorem weights_mem_all {e : TypeId} {d : DataW H} {n : Nat} : ∀ {l : List (DataW H)}, d ∈ l → n ∈ d.weights Try.prog e → n ∈ DataW.weightsAll Try.prog e l
  | x :: l, hd, hn => by
    simp only [DataW.weightsAll, List.mem_append]
    rcases List.mem_cons.1 hd with rfl | hd
    · exact .inl hn
    · exact .inr (weights_mem_all hd hn)
set_option maxRecDepth 100000 in
theorem open_item {fuel : Nat} {cs : List Value} {x : DataW H × List MemPlace} (h : DataW.trod enc Try.prog w base spare held fuel 30 cs = some x) :
    ∃ m : Itm, cs = itmCells m ∧ I64 m.n ∧ U64 m.u ∧ ∀ L, (∀ n ∈ x.1.weights Try.prog 30, n ≤ L) → m.s.size ≤ L := by
  obtain ⟨xs, n, _, rfl, hlen, hxl, hf⟩ := DataW.trod_struct Try.underlying30 h
  have hC : Try.prog.cellsOf 30 = 4 := by kernel_rfl
  rw [hC] at hlen
  match cs, hlen with
  | [c0, c1, c2, c3], _ =>
    match xs, hxl with
    | [x0, x1, x2, x3], _ =>
      have C3 : Try.prog.cellsOf 3 = 1 := by kernel_rfl
      have C28 : Try.prog.cellsOf 28 = 1 := by kernel_rfl
      have C9 : Try.prog.cellsOf 9 = 1 := by kernel_rfl
      have h0 : DataW.trod enc Try.prog w base spare held n 3 (List.take (Try.prog.cellsOf 3) [c0, c1, c2, c3]) = some x0 := hf 0 _ rfl
      have h1 : DataW.trod enc Try.prog w base spare held n 3 (List.take (Try.prog.cellsOf 3) [c1, c2, c3]) = some x1 := hf 1 _ rfl
      have h2 : DataW.trod enc Try.prog w base spare held n 28 (List.take (Try.prog.cellsOf 28) [c2, c3]) = some x2 := hf 2 _ rfl
      have h3 : DataW.trod enc Try.prog w base spare held n 9 (List.take (Try.prog.cellsOf 9) [c3]) = some x3 := hf 3 _ rfl
      rw [C3] at h0 h1
      rw [C28] at h2
      rw [C9] at h3
      obtain ⟨k, e0, _, w0⟩ := DataW.trod_int Try.underlying3 h0
      obtain ⟨m, e1, _, w1⟩ := DataW.trod_int Try.underlying3 h1
      obtain ⟨u, e2, _, w2⟩ := DataW.trod_int Try.underlying28 h2
      obtain ⟨s, e3, f3, _⟩ := DataW.trod_string Try.underlying9 h3
      simp only [List.take_succ_cons, List.take_zero, List.cons.injEq, and_true] at e0 e1 e2 e3
      obtain ⟨v, hv, hu⟩ := u64_of w2
      refine ⟨⟨k, m, v, s⟩, by rw [e0, e1, e2, e3, hv]; rfl, i64_of w1, hu, fun L hL => ?_⟩
      have := hL s.data.toList.length ?_
      · simpa using this
      · simp only [DataW.weights, Try.underlying30]
        refine DataW.weights_mem_each (j := 3) (t := 9) (d := x3.1) rfl rfl _ ?_
        rw [f3]; simp [DataW.weights]
set_option maxRecDepth 100000 in
theorem open_items {W : World} {v : Value} {d : DataW H} {p : List MemPlace} {b0 : Nat} {r : Reach} (hv : Value.okWide Try.prog W r b0 22 v) (h : DataW.Trod enc Try.prog W 0 (fun _ => true) true 22 v d p) (hw : ∀ n ∈ d.weights Try.prog 22, n ≤ reachBytes) :
    ∃ (a : Option Addr) (len cap : Nat) (I : Nat → Itm), v = .slice a len cap ∧ (Items W a len I ∧ len ≤ cap ∧ cap ≤ maxLen ∧ (a = none → len = 0 ∧ cap = 0) ∧ (∀ i, I64 (I i).n ∧ U64 (I i).u) ∧ ∀ i, i < len → (I i).s.size ≤ reachBytes) := by
  obtain ⟨a, len, cap, rfl⟩ := okWide_slice Try.underlying22 hv
  obtain ⟨fuel, hf⟩ := h
  rcases open_slice Try.underlying22 hf with ⟨hcs, _⟩ | ⟨x, len', cap', m, n, D, Pl, hcs, _, hl, hm, hmm, hx, hi⟩
  · simp [Value.cells] at hcs
    obtain ⟨rfl, rfl, rfl⟩ := hcs
    exact ⟨none, 0, 0, fun _ => ⟨0, 0, 0, ByteArray.empty⟩, rfl, .inl rfl, Nat.le_refl _, by unfold maxLen; omega, fun _ => ⟨rfl, rfl⟩, fun _ => ⟨by unfold I64; simp, by unfold U64; simp⟩, fun i hi => by omega⟩
  · simp [Value.cells] at hcs
    obtain ⟨rfl, rfl, rfl⟩ := hcs
    simp only [if_true] at hmm
    have hd : d = (.slice ((List.range len).map D) ((List.range (m - len)).map fun j => D (len + j))) := congrArg Prod.fst hx
    have C30 : Try.prog.cellsOf 30 = 4 := by kernel_rfl
    have hM : ∀ i, ∃ mu : Itm, (I64 mu.n ∧ U64 mu.u) ∧ (i < len → (mu.s.size ≤ reachBytes ∧ ∀ j, j < 4 → W.cell? (x.add (i * 4 + j)) = (itmCells mu)[j]?)) := by
      intro i
      by_cases hlt : i < len
      · obtain ⟨cs', hc, ht⟩ := hi i (by omega)
        rw [C30] at hc
        obtain ⟨mu, rfl, hn, hu, hL⟩ := open_item ht
        obtain ⟨_, _, hat⟩ := World.cells?_some hc
        refine ⟨mu, ⟨hn, hu⟩, fun _ => ⟨hL _ fun n hn => hw n ?_, fun j hj => by rw [← Go.Deep.add_add]; exact hat j hj⟩⟩
        rw [hd]
        simp only [DataW.weights, Try.underlying22]
        exact List.mem_cons_of_mem _ (List.mem_append.2 (.inl (weights_mem_all (List.mem_map.2 ⟨i, List.mem_range.2 hlt, rfl⟩) hn)))
      · exact ⟨⟨0, 0, 0, ByteArray.empty⟩, ⟨by unfold I64; simp, by unfold U64; simp⟩, fun h => absurd h hlt⟩
    obtain ⟨I, hI⟩ := Classical.axiomOfChoice hM
    refine ⟨some x, len, cap, I, rfl, ?_, by omega, by omega, (fun h => by cases h), (fun i => (hI i).1), (fun i h => ((hI i).2 h).1)⟩
    by_cases h0 : len = 0
    · exact .inl h0
    · right
      obtain ⟨b, off, spot⟩ := x
      have h00 := ((hI 0).2 (by omega)).2 0 (by omega)
      have hs : spot = none := World.cell?_spot h00
      subst hs
      refine ⟨b, off, rfl, World.block_lt_of_cell? W _ h00, fun i hi j hj => ?_⟩
      have := ((hI i).2 hi).2 j hj
      rw [add_mk, ← Nat.add_assoc] at this
      exact this
end
end Go.Proofs.Ytpnljefgenniaaa

