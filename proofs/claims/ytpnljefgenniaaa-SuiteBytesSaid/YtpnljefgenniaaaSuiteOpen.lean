/- Lists of tests, as a parameter. No conditions. -/
import Derived.Test.YtpnljefgenniaaaSuiteWorks
import Derived.Deep.Slices
import Derived.ProofKit
namespace Go.Proofs.Ytpnljefgenniaaa
set_option linter.unusedVariables false
open Go Go.RowKit Go.ChangeShapes Go.WideShapes Go.Deep

theorem s_add_mk (b off k : Nat) : (⟨b, off, none⟩ : Addr).add k = ⟨b, off + k, none⟩ := by
  unfold Addr.add; split
  · next h => rw [h]; rfl
  · rfl
theorem s_i64 {n : Int} (h : (Lit.int .i64 n).wf = true) : I64 n := by
  simpa [Lit.wf, IntKind.min, IntKind.max, IntKind.signed, IntKind.bits, I64] using h
def w_cell (W : World) (x : Addr) (i : Nat) (q : Option Addr × Nat × List Int) : Prop := W.cell? (x.add i) = some (.slice q.1 q.2.2.length q.2.1)
section
variable {H : Type} {enc : TypeId × Value → H} {w : World} {base : Nat} {spare : Nat → Bool} {held : Bool}
set_option maxRecDepth 100000 in
theorem open_ints {fuel : Nat} {v : Value} {x : DataW H × List MemPlace} (h : DataW.trod enc Try.prog w base spare held fuel 68 [v] = some x) :
    ∃ (a : Option Addr) (c : Nat) (l : List Int), v = .slice a l.length c ∧ IntsAt w a l ∧ l.length ≤ maxLen ∧ ∀ x ∈ l, I64 x := by
  rcases open_slice1 Try.underlying68 (by kernel_rfl) h with ⟨hcs, _⟩ | ⟨a, len, cap, m, n, V, D, Pl, hcs, _, hl, hm, hmm, _, hi⟩
  · simp only [List.cons.injEq, and_true] at hcs
    subst hcs
    exact ⟨none, 0, [], rfl, .inl rfl, by decide, fun x hx => by cases hx⟩
  · simp only [List.cons.injEq, and_true] at hcs
    subst hcs
    have hlm : len ≤ m := by rw [hmm]; split <;> omega
    have hM : ∀ i, ∃ k : Int, i < len → w.cell? (a.add i) = some (.int .i64 k) ∧ I64 k := by
      intro i
      by_cases hlt : i < len
      · obtain ⟨h1, h2⟩ := hi i (by omega)
        obtain ⟨k, e0, _, w0⟩ := DataW.trod_int Try.underlying3 h2
        simp only [List.cons.injEq, and_true] at e0
        rw [e0] at h1
        exact ⟨k, fun _ => ⟨h1, s_i64 w0⟩⟩
      · exact ⟨0, fun h => absurd h hlt⟩
    obtain ⟨F, hF⟩ := Classical.axiomOfChoice hM
    have hlen : ((List.range len).map F).length = len := by simp
    refine ⟨some a, cap, (List.range len).map F, by rw [hlen], ?_, by rw [hlen]; omega, fun y hy => ?_⟩
    · by_cases h0 : len = 0
      · exact .inl (by subst h0; rfl)
      · right
        obtain ⟨b, off, spot⟩ := a
        have h00 := (hF 0 (by omega)).1
        have hs : spot = none := World.cell?_spot h00
        subst hs
        refine ⟨b, off, rfl, World.block_lt_of_cell? w _ h00, fun j y hj => ?_⟩
        have hjl := (List.getElem?_eq_some_iff.1 hj).1
        rw [hlen] at hjl
        rw [List.getElem?_map, List.getElem?_range hjl] at hj
        simp only [Option.map_some, Option.some.injEq] at hj
        subst hj
        have := (hF j hjl).1
        rw [s_add_mk] at this
        exact this
    · obtain ⟨j, hj, rfl⟩ := List.mem_map.1 hy
      exact (hF j (List.mem_range.1 hj)).2
end
section
variable {H : Type} {enc : TypeId × Value → H}
set_option maxRecDepth 100000 in
theorem open_tests {W : World} {v : Value} {d : DataW H} {p : List MemPlace} {b0 : Nat} {r : Reach} (hv : Value.okWide Try.prog W r b0 58 v) (h : DataW.Trod enc Try.prog W 0 (fun _ => true) true 58 v d p) :
    ∃ (a : Option Addr) (c : Nat) (L : List (List Int)), v = .slice a L.length c ∧ (RowsAt W a L ∧ L.length ≤ maxLen ∧ (∀ l ∈ L, l.length ≤ maxLen) ∧ ∀ l ∈ L, ∀ x ∈ l, I64 x) := by
  obtain ⟨a, len, cap, rfl⟩ := okWide_slice Try.underlying58 hv
  obtain ⟨fuel, hf⟩ := h
  rcases open_slice1 Try.underlying58 (by kernel_rfl) hf with ⟨hcs, _⟩ | ⟨x, len', cap', m, n, V, D, Pl, hcs, _, hl, hm, hmm, _, hi⟩
  · simp [Value.cells] at hcs
    obtain ⟨rfl, rfl, rfl⟩ := hcs
    exact ⟨none, 0, [], rfl, .inl rfl, by decide, (fun l hl => by cases hl), fun l hl => by cases hl⟩
  · simp [Value.cells] at hcs
    obtain ⟨rfl, rfl, rfl⟩ := hcs
    have hlm : len ≤ m := by rw [hmm]; split <;> omega
    have hM : ∀ i, ∃ q : Option Addr × Nat × List Int, i < len → w_cell W x i q ∧ IntsAt W q.1 q.2.2 ∧ q.2.2.length ≤ maxLen ∧ ∀ y ∈ q.2.2, I64 y := by
      intro i
      by_cases hlt : i < len
      · obtain ⟨h1, h2⟩ := hi i (by omega)
        obtain ⟨a', c', l, e0, hI, hl1, hl2⟩ := open_ints h2
        rw [e0] at h1
        exact ⟨(a', c', l), fun _ => ⟨h1, hI, hl1, hl2⟩⟩
      · exact ⟨(none, 0, []), fun h => absurd h hlt⟩
    obtain ⟨F, hF⟩ := Classical.axiomOfChoice hM
    have hlen : ((List.range len).map fun i => (F i).2.2).length = len := by simp
    have hmem : ∀ l ∈ (List.range len).map fun i => (F i).2.2, ∃ i, i < len ∧ l = (F i).2.2 := fun l hl => by
      obtain ⟨j, hj, rfl⟩ := List.mem_map.1 hl
      exact ⟨j, List.mem_range.1 hj, rfl⟩
    refine ⟨some x, cap, (List.range len).map fun i => (F i).2.2, by rw [hlen], ?_, by rw [hlen]; omega, fun l hl => ?_, fun l hl => ?_⟩
    · by_cases h0 : len = 0
      · exact .inl (by subst h0; rfl)
      · right
        obtain ⟨b, off, spot⟩ := x
        have h00 := (hF 0 (by omega)).1
        unfold w_cell at h00
        have hs : spot = none := World.cell?_spot h00
        subst hs
        refine ⟨b, off, rfl, World.block_lt_of_cell? W _ h00, fun j y hj => ?_⟩
        have hjl := (List.getElem?_eq_some_iff.1 hj).1
        rw [hlen] at hjl
        rw [List.getElem?_map, List.getElem?_range hjl] at hj
        simp only [Option.map_some, Option.some.injEq] at hj
        subst hj
        have := (hF j hjl).1
        unfold w_cell at this
        rw [s_add_mk] at this
        exact ⟨_, _, this, (hF j hjl).2.1⟩
    · obtain ⟨i, hil, rfl⟩ := hmem l hl
      exact (hF i hil).2.2.1
    · obtain ⟨i, hil, rfl⟩ := hmem l hl
      exact (hF i hil).2.2.2
end
end Go.Proofs.Ytpnljefgenniaaa

