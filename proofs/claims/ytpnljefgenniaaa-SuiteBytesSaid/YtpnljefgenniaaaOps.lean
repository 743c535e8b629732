/- Lists of operations, as a parameter and in memory; one operation as a parameter. No conditions. -/
import Derived.Test.YtpnljefgenniaaaWireDo
import Derived.Deep.Slices
import Derived.ProofKit
import Derived.OpenShut
import Derived.Lib.SmallJoins
namespace Go.Proofs.Ytpnljefgenniaaa
set_option linter.unusedVariables false
open Go Go.RowKit Go.ChangeShapes Go.WideShapes Go.Deep Go.Joins

theorem add_mkO (b off k : Nat) : (⟨b, off, none⟩ : Addr).add k = ⟨b, off + k, none⟩ := by
  unfold Addr.add; split
  · next h => rw [h]; rfl
  · rfl
/-- a list of operations, wherever it lies -/
def OpsAt (w : World) (a : Option Addr) (len : Nat) (K N : Nat → Int) : Prop := len = 0 ∨ ∃ b off, a = some ⟨b, off, none⟩ ∧ b < w.heap.size ∧ ∀ i, i < len → w.cell? ⟨b, off + i * 2, none⟩ = some (.int .i64 (K i)) ∧ w.cell? ⟨b, off + i * 2 + 1, none⟩ = some (.int .i64 (N i))
theorem OpsAt.below {w w' : World} {a : Option Addr} {len n : Nat} {K N : Nat → Int} (h : OpsAt w a len K N) (hb : Below n w w') (hn : w.heap.size ≤ n) : OpsAt w' a len K N := by
  rcases h with h | ⟨b, off, rfl, hlt, h⟩
  · exact .inl h
  · have e := hb.block b (by omega)
    exact .inr ⟨b, off, rfl, Nat.lt_of_lt_of_le hlt hb.size, fun i hi => ⟨(World.cell?_of_block (w := w) (a := ⟨b, _, none⟩) e).trans (h i hi).1, (World.cell?_of_block (w := w) (a := ⟨b, _, none⟩) e).trans (h i hi).2⟩⟩
theorem OpsAt.later {w w' : World} {a : Option Addr} {len : Nat} {K N : Nat → Int} (h : OpsAt w a len K N) (hb : Below w.heap.size w w') : OpsAt w' a len K N := h.below hb (Nat.le_refl _)
theorem OpsAt.cells {w : World} {a : Option Addr} {len : Nat} {K N : Nat → Int} (h : OpsAt w a len K N) (h0 : 0 < len) : ∃ b off, a = some ⟨b, off, none⟩ ∧ b < w.heap.size ∧ ∀ i, i < len → w.cell? ⟨b, off + i * 2, none⟩ = some (.int .i64 (K i)) ∧ w.cell? ⟨b, off + i * 2 + 1, none⟩ = some (.int .i64 (N i)) := by
  rcases h with h | h
  · omega
  · exact h
section
variable {H : Type} {enc : TypeId × Value → H} {w : World} {base : Nat} {spare : Nat → Bool} {held : Bool}
set_option maxRecDepth 100000 in
theorem open_op1 {fuel : Nat} {cs : List Value} {x : DataW H × List MemPlace} (h : DataW.trod enc Try.prog w base spare held fuel 45 cs = some x) :
    ∃ k n : Int, cs = [.int .i64 k, .int .i64 n] ∧ I64 k ∧ I64 n := by
  obtain ⟨xs, n, _, rfl, hlen, hxl, hf⟩ := DataW.trod_struct Try.underlying45 h
  have hC : Try.prog.cellsOf 45 = 2 := by kernel_rfl
  rw [hC] at hlen
  match cs, hlen with
  | [c0, c1], _ =>
    match xs, hxl with
    | [x0, x1], _ =>
      have C3 : Try.prog.cellsOf 3 = 1 := by kernel_rfl
      have h0 : DataW.trod enc Try.prog w base spare held n 3 (List.take (Try.prog.cellsOf 3) [c0, c1]) = some x0 := hf 0 _ rfl
      have h1 : DataW.trod enc Try.prog w base spare held n 3 (List.take (Try.prog.cellsOf 3) [c1]) = some x1 := hf 1 _ rfl
      rw [C3] at h0 h1
      obtain ⟨k, e0, _, w0⟩ := DataW.trod_int Try.underlying3 h0
      obtain ⟨m, e1, _, w1⟩ := DataW.trod_int Try.underlying3 h1
      simp only [List.take_succ_cons, List.take_zero, List.cons.injEq, and_true] at e0 e1
      exact ⟨k, m, by rw [e0, e1], i64_of w0, i64_of w1⟩
def OpsP (W : World) (a : Option Addr) (len cap : Nat) (K N : Nat → Int) : Prop := OpsAt W a len K N ∧ len ≤ cap ∧ cap ≤ maxLen ∧ ∀ i, I64 (K i) ∧ I64 (N i)
set_option maxRecDepth 100000 in
theorem open_ops {W : World} {v : Value} {d : DataW H} {p : List MemPlace} {b0 : Nat} {r : Reach} (hv : Value.okWide Try.prog W r b0 35 v) (h : DataW.Trod enc Try.prog W 0 (fun _ => true) true 35 v d p) :
    ∃ (a : Option Addr) (len cap : Nat) (K N : Nat → Int), v = .slice a len cap ∧ OpsP W a len cap K N := by
  obtain ⟨a, len, cap, rfl⟩ := okWide_slice Try.underlying35 hv
  obtain ⟨fuel, hf⟩ := h
  have z64 : I64 0 := by unfold I64; omega
  rcases open_slice Try.underlying35 hf with ⟨hcs, _⟩ | ⟨x, len', cap', m, n, D, Pl, hcs, _, hl, hm, hmm, _, hi⟩
  · simp [Value.cells] at hcs
    obtain ⟨rfl, rfl, rfl⟩ := hcs
    exact ⟨none, 0, 0, fun _ => 0, fun _ => 0, rfl, .inl rfl, Nat.le_refl _, by unfold maxLen; omega, fun _ => ⟨z64, z64⟩⟩
  · simp [Value.cells] at hcs
    obtain ⟨rfl, rfl, rfl⟩ := hcs
    simp only [if_true] at hmm
    have C45 : Try.prog.cellsOf 45 = 2 := by kernel_rfl
    have hM : ∀ i, ∃ kn : Int × Int, (I64 kn.1 ∧ I64 kn.2) ∧ (i < len → ∀ j, j < 2 → W.cell? (x.add (i * 2 + j)) = [Value.int .i64 kn.1, .int .i64 kn.2][j]?) := by
      intro i
      by_cases hlt : i < len
      · obtain ⟨cs', hc, ht⟩ := hi i (by omega)
        rw [C45] at hc
        obtain ⟨k, n, rfl, hk, hn⟩ := open_op1 ht
        obtain ⟨_, _, hat⟩ := World.cells?_some hc
        exact ⟨(k, n), ⟨hk, hn⟩, fun _ j hj => by rw [← Go.Deep.add_add]; exact hat j hj⟩
      · exact ⟨(0, 0), ⟨z64, z64⟩, fun h => absurd h hlt⟩
    obtain ⟨F, hF⟩ := Classical.axiomOfChoice hM
    refine ⟨some x, len, cap, fun i => (F i).1, fun i => (F i).2, rfl, ?_, by omega, by omega, fun i => (hF i).1⟩
    by_cases h0 : len = 0
    · exact .inl h0
    · right
      obtain ⟨b, off, spot⟩ := x
      have h00 := (hF 0).2 (by omega) 0 (by omega)
      have hs : spot = none := World.cell?_spot h00
      subst hs
      refine ⟨b, off, rfl, World.block_lt_of_cell? W _ h00, fun i hi => ⟨?_, ?_⟩⟩
      · have := (hF i).2 hi 0 (by omega)
        rw [add_mkO] at this
        exact this
      · have := (hF i).2 hi 1 (by omega)
        rw [add_mkO, ← Nat.add_assoc] at this
        exact this
set_option maxRecDepth 100000 in
theorem open_op {W : World} {v : Value} {d : DataW H} {p : List MemPlace} {b0 : Nat} {r : Reach} (hv : Value.okWide Try.prog W r b0 45 v) (h : DataW.Trod enc Try.prog W 0 (fun _ => true) true 45 v d p) :
    ∃ k n : Int, v = .agg #[.int .i64 k, .int .i64 n] ∧ (I64 k ∧ I64 n) := by
  obtain ⟨c0, c1, y0, y1, m, rfl, _, _, u0, u1⟩ := open_agg2 Try.underlying45 (by kernel_rfl) (show Try.prog.cellsOf 45 = 2 by kernel_rfl) hv h
  obtain ⟨k, e0, _, w0⟩ := DataW.trod_int Try.underlying3 u0
  obtain ⟨n, e1, _, w1⟩ := DataW.trod_int Try.underlying3 u1
  simp only [List.cons.injEq, and_true] at e0 e1
  subst e0 e1
  exact ⟨k, n, rfl, i64_of w0, i64_of w1⟩
end
end Go.Proofs.Ytpnljefgenniaaa

