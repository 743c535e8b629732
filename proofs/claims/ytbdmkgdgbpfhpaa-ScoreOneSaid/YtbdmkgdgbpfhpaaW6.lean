/- Contracts of score.Of and its reference at every list of mutants, and how a parameter of that type is opened. No conditions. -/
import Derived.Test.YtbdmkgdgbpfhpaaW5
import Derived.Deep.Slices
import Derived.ProofKit
import Derived.ShutString
namespace Go.Proofs.Ytbdmkgdgbpfhpaa
open Go.RowKit Go.ChangeShapes Go.WideShapes Go.Deep
set_option maxHeartbeats 400000 in
theorem Of_zero (a : Option Addr) (cap : Nat) (w : World) :
    Calls Try.prog 9 #[.slice a 0 cap] w fun e w' => e = .returned (.agg #[.int .i64 0, .int .i64 0, .int .i64 0]) ∧ Below w.heap.size w w' := by
  go_enter Try.func9, Try.ntmps9
  go_wp2_with fail
  refine wp_loop_rounds 1 ?_
  rw [rounds_succ]; go_wp2_with fail
  refine (score_any _ _ _ _).mono ?_
  rintro e w2 ⟨rfl, hb3⟩
  have o0 := own3_below (own3_alloc (own3_new w (.int .i64 0) (.int .i64 0) (.int .i64 0) 24) (.cells #[.int .i64 0, .int .i64 0, .int .i64 0] 42)) hb3 (by simp only [World.size_alloc]; omega)
  have hb4 : Below w.heap.size w w2 := (((Below.refl _ _).alloc (Nat.le_refl _) _).alloc (by simp) _).trans (hb3.mono (by simp; omega))
  have FIN := Lib.hid (own3_set o0 (.int .i64 0) (.int .i64 0) (.int .i64 0))
  clear hb3
  obtain ⟨_, v0, v1, v2, vf⟩ := o0
  go_wp2_with fail
  obtain ⟨_, f0, f1, f2, _⟩ := FIN.out
  exact bodyPost_ret (v := .agg #[.int .i64 0, .int .i64 0, .int .i64 0]) (by simp [results, Try.results9, go_sem, f0, f1, f2]) rfl ⟨rfl, ((hb4.setCell (by simp) _).setCell (by simp) _).setCell (by simp) _⟩

set_option maxHeartbeats 1000000 in
theorem count_zero (a : Option Addr) (cap : Nat) (v : Int) (w : World) :
    Calls Try.prog 16 #[.slice a 0 cap, .int .i64 v] w fun e w' => e = .returned (.int .i64 0) ∧ w = w' := by
  go_enter Try.func16, Try.ntmps16
  go_wp2_with fail
  refine wp_loop_rounds 1 ?_
  rw [rounds_succ]; go_wp2_with fail
  go_ret
  exact ⟨rfl, rfl⟩

set_option maxHeartbeats 400000 in
theorem rof_zero (a : Option Addr) (cap : Nat) (w : World) :
    Calls Try.prog 10 #[.slice a 0 cap] w fun e w' => e = .returned (.agg #[.int .i64 0, .int .i64 0, .int .i64 0]) ∧ Below w.heap.size w w' := by
  go_enter Try.func10, Try.ntmps10
  go_wp2_with fail
  refine (count_zero _ _ _ _).mono ?_
  rintro e w1 ⟨rfl, rfl⟩
  go_wp2_with fail
  refine (count_zero _ _ _ _).mono ?_
  rintro e w1 ⟨rfl, rfl⟩
  go_wp2_with fail
  refine (count_zero _ _ _ _).mono ?_
  rintro e w1 ⟨rfl, rfl⟩
  go_wp2_with fail
  go_returns
  refine ⟨rfl, ?_⟩
  go_grown

/-- a list of mutants, wherever it lies -/
def Muts (w : World) (a : Option Addr) (len : Nat) (M : Nat → Mu) : Prop := len = 0 ∨ ∃ b off, a = some ⟨b, off, none⟩ ∧ mutAt w b off len M
theorem Muts.below {w w' : World} {a : Option Addr} {len n : Nat} {M : Nat → Mu} (h : Muts w a len M) (hb : Below n w w') (hn : ∀ b off, a = some ⟨b, off, none⟩ → b < n) : Muts w' a len M := by
  rcases h with h | ⟨b, off, rfl, h⟩
  · exact .inl h
  · exact .inr ⟨b, off, rfl, h.below hb (hn b off rfl)⟩
theorem Muts.later {w w' : World} {a : Option Addr} {len : Nat} {M : Nat → Mu} (h : Muts w a len M) (hb : Below w.heap.size w w') : Muts w' a len M := by
  rcases h with h | ⟨b, off, rfl, h⟩
  · exact .inl h
  · exact .inr ⟨b, off, rfl, h.below hb h.1⟩
theorem Of_gen (a : Option Addr) (len cap : Nat) (M : Nat → Mu) (w : World) (hl : len ≤ 9223372036854775807) (h : Muts w a len M) :
    Calls Try.prog 9 #[.slice a len cap] w fun e w' => e = .returned (.agg #[.int .i64 (cnt (fun i => (M i).v) 0 len), .int .i64 (cnt (fun i => (M i).v) 1 len), .int .i64 (cnt (fun i => (M i).v) 2 len)]) ∧ Below w.heap.size w w' := by
  rcases h with rfl | ⟨b, off, rfl, h⟩
  · exact Of_zero a cap w
  · exact Of_any b off len cap M _ (fun _ => rfl) w hl h
theorem rof_gen (a : Option Addr) (len cap : Nat) (M : Nat → Mu) (w : World) (hl : len ≤ 9223372036854775807) (h : Muts w a len M) :
    Calls Try.prog 10 #[.slice a len cap] w fun e w' => e = .returned (.agg #[.int .i64 (cnt (fun i => (M i).v) 0 len), .int .i64 (cnt (fun i => (M i).v) 1 len), .int .i64 (cnt (fun i => (M i).v) 2 len)]) ∧ Below w.heap.size w w' := by
  rcases h with rfl | ⟨b, off, rfl, h⟩
  · exact rof_zero a cap w
  · exact rof_any b off len cap (fun i => (M i).v) w hl (h.verdicts (fun _ => rfl)) h.1

section
variable {H : Type} {enc : TypeId × Value → H} {w : World} {base : Nat} {spare : Nat → Bool} {held : Bool}
/-- the cells of one mutant -/
theorem open_mu {fuel : Nat} {cs : List Value} {x : DataW H × List MemPlace} (h : DataW.trod enc Try.prog w base spare held fuel 39 cs = some x) :
    ∃ m : Mu, cs = [.slice m.pa m.pl m.pc, .int .i64 m.op, .int .i64 m.n, .int .i64 m.v, .int .i64 m.t, .int .i64 m.o1, .int .i64 m.o2, .string m.d] ∧ (Lit.int .i64 m.v).wf = true := by
  obtain ⟨xs, n, _, _, hlen, hxl, hf⟩ := DataW.trod_struct Try.underlying39 h
  have hC : Try.prog.cellsOf 39 = 8 := by kernel_rfl
  rw [hC] at hlen
  match cs, hlen with
  | [c0, c1, c2, c3, c4, c5, c6, c7], _ =>
    match xs, hxl with
    | [x0, x1, x2, x3, x4], _ =>
      have C35 : Try.prog.cellsOf 35 = 3 := by kernel_rfl
      have C37 : Try.prog.cellsOf 37 = 2 := by kernel_rfl
      have C3 : Try.prog.cellsOf 3 = 1 := by kernel_rfl
      have C9 : Try.prog.cellsOf 9 = 1 := by kernel_rfl
      have C33 : Try.prog.cellsOf 33 = 1 := by kernel_rfl
      have h0 : DataW.trod enc Try.prog w base spare held n 35 (List.take (Try.prog.cellsOf 35) [c0, c1, c2, c3, c4, c5, c6, c7]) = some x0 := hf 0 _ rfl
      have h1 : DataW.trod enc Try.prog w base spare held n 3 (List.take (Try.prog.cellsOf 3) [c3, c4, c5, c6, c7]) = some x1 := hf 1 _ rfl
      have h2 : DataW.trod enc Try.prog w base spare held n 3 (List.take (Try.prog.cellsOf 3) [c4, c5, c6, c7]) = some x2 := hf 2 _ rfl
      have h3 : DataW.trod enc Try.prog w base spare held n 37 (List.take (Try.prog.cellsOf 37) [c5, c6, c7]) = some x3 := hf 3 _ rfl
      have h4 : DataW.trod enc Try.prog w base spare held n 9 (List.take (Try.prog.cellsOf 9) [c7]) = some x4 := hf 4 _ rfl
      rw [C35] at h0
      rw [C3] at h1 h2
      rw [C37] at h3
      rw [C9] at h4
      obtain ⟨v, e1, _, wv⟩ := DataW.trod_int Try.underlying3 h1
      obtain ⟨t, e2, _, _⟩ := DataW.trod_int Try.underlying3 h2
      obtain ⟨d, e4, _, _⟩ := DataW.trod_string Try.underlying9 h4
      obtain ⟨ys, k, _, _, _, hyl, hg⟩ := DataW.trod_struct Try.underlying37 h3
      obtain ⟨zs, k', _, _, _, hzl, hh⟩ := DataW.trod_struct Try.underlying35 h0
      match ys, hyl with
      | [y0, y1], _ =>
        match zs, hzl with
        | [z0, z1, z2], _ =>
          have g0 : DataW.trod enc Try.prog w base spare held k 3 (List.take (Try.prog.cellsOf 3) [c5, c6]) = some y0 := hg 0 _ rfl
          have g1 : DataW.trod enc Try.prog w base spare held k 3 (List.take (Try.prog.cellsOf 3) [c6]) = some y1 := hg 1 _ rfl
          have i0 : DataW.trod enc Try.prog w base spare held k' 33 (List.take (Try.prog.cellsOf 33) [c0, c1, c2]) = some z0 := hh 0 _ rfl
          have i1 : DataW.trod enc Try.prog w base spare held k' 3 (List.take (Try.prog.cellsOf 3) [c1, c2]) = some z1 := hh 1 _ rfl
          have i2 : DataW.trod enc Try.prog w base spare held k' 3 (List.take (Try.prog.cellsOf 3) [c2]) = some z2 := hh 2 _ rfl
          rw [C3] at g0 g1 i1 i2
          rw [C33] at i0
          obtain ⟨o1, e5, _, _⟩ := DataW.trod_int Try.underlying3 g0
          obtain ⟨o2, e6, _, _⟩ := DataW.trod_int Try.underlying3 g1
          obtain ⟨op, e7, _, _⟩ := DataW.trod_int Try.underlying3 i1
          obtain ⟨nn, e8, _, _⟩ := DataW.trod_int Try.underlying3 i2
          obtain ⟨pa, pl, pc, e9⟩ : ∃ pa pl pc, c0 = .slice pa pl pc := by
            rcases open_slice Try.underlying33 i0 with ⟨h, _⟩ | ⟨a, len, cap, m, n, D, Pl, h, _⟩
            · exact ⟨none, 0, 0, by simpa using h⟩
            · exact ⟨some a, len, cap, by simpa using h⟩
          simp only [List.take_succ_cons, List.take_zero, List.cons.injEq, and_true] at e1 e2 e4 e5 e6 e7 e8
          exact ⟨⟨pa, pl, pc, op, nn, v, t, o1, o2, d⟩, by rw [e9, e1, e2, e4, e5, e6, e7, e8], wv⟩

theorem add_mk (b off k : Nat) : (⟨b, off, none⟩ : Addr).add k = ⟨b, off + k, none⟩ := by
  unfold Addr.add; split
  · next h => rw [h]; rfl
  · rfl
theorem noneSpot {W : World} {b o : Nat} {spot : Option _} {v : Value} (h : W.cell? ⟨b, o, spot⟩ = some v) : spot = none := World.cell?_spot h

/-- a parameter of type []api.Mutant -/
theorem open_muts {W : World} {v : Value} {d : DataW H} {p : List MemPlace} {b0 : Nat} {r : Reach} (hv : Value.okWide Try.prog W r b0 22 v) (h : DataW.Trod enc Try.prog W 0 (fun _ => true) true 22 v d p) :
    ∃ (a : Option Addr) (len cap : Nat) (M : Nat → Mu), v = .slice a len cap ∧ (Muts W a len M ∧ len ≤ maxLen ∧ ∀ i, i < len → (Lit.int .i64 (M i).v).wf = true) := by
  obtain ⟨a, len, cap, rfl⟩ := okWide_slice Try.underlying22 hv
  obtain ⟨fuel, hf⟩ := h
  rcases open_slice Try.underlying22 hf with ⟨hcs, _⟩ | ⟨x, len', cap', m, n, D, Pl, hcs, _, hl, hm, hmm, _, hi⟩
  · simp [Value.cells] at hcs
    obtain ⟨rfl, rfl, rfl⟩ := hcs
    exact ⟨none, 0, 0, fun _ => ⟨none, 0, 0, 0, 0, 0, 0, 0, 0, ByteArray.empty⟩, rfl, .inl rfl, by unfold maxLen; omega, fun i hi => by omega⟩
  · simp [Value.cells] at hcs
    obtain ⟨rfl, rfl, rfl⟩ := hcs
    simp only [if_true] at hmm
    have C39 : Try.prog.cellsOf 39 = 8 := by kernel_rfl
    have hM : ∀ i, ∃ mu : Mu, i < len → ((Lit.int .i64 mu.v).wf = true ∧ ∀ j, j < 8 → W.cell? (x.add (i * 8 + j)) = [Value.slice mu.pa mu.pl mu.pc, .int .i64 mu.op, .int .i64 mu.n, .int .i64 mu.v, .int .i64 mu.t, .int .i64 mu.o1, .int .i64 mu.o2, .string mu.d][j]?) := by
      intro i
      by_cases hlt : i < len
      · obtain ⟨cs', hc, ht⟩ := hi i (by omega)
        rw [C39] at hc
        obtain ⟨mu, rfl, hw⟩ := open_mu ht
        obtain ⟨_, _, hat⟩ := World.cells?_some hc
        exact ⟨mu, fun _ => ⟨hw, fun j hj => by rw [← Go.Deep.add_add]; exact hat j hj⟩⟩
      · exact ⟨⟨none, 0, 0, 0, 0, 0, 0, 0, 0, ByteArray.empty⟩, fun h => absurd h hlt⟩
    obtain ⟨M, hM⟩ := Classical.axiomOfChoice hM
    refine ⟨some x, len, cap, M, rfl, ?_, by omega, fun i h => (hM i h).1⟩
    by_cases h0 : len = 0
    · exact .inl h0
    · right
      obtain ⟨b, off, spot⟩ := x
      have hs := noneSpot (((hM 0 (by omega)).2 0 (by omega)))
      subst hs
      refine ⟨b, off, rfl, World.block_lt_of_cell? W _ ((hM 0 (by omega)).2 0 (by omega)), fun i hi => ?_⟩
      have K : ∀ j, j < 8 → W.cell? ⟨b, off + i * 8 + j, none⟩ = [Value.slice (M i).pa (M i).pl (M i).pc, .int .i64 (M i).op, .int .i64 (M i).n, .int .i64 (M i).v, .int .i64 (M i).t, .int .i64 (M i).o1, .int .i64 (M i).o2, .string (M i).d][j]? := fun j hj => by
        have := (hM i hi).2 j hj
        rw [add_mk, ← Nat.add_assoc] at this
        exact this
      exact ⟨K 0 (by omega), K 1 (by omega), K 2 (by omega), K 3 (by omega), K 4 (by omega), K 5 (by omega), K 6 (by omega), K 7 (by omega)⟩
end
end Go.Proofs.Ytbdmkgdgbpfhpaa
