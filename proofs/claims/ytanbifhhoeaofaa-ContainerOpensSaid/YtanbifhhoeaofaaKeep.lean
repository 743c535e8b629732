/- A law on 'for .. range f', f a closure that reads what lay there before; the body goes on to the end each time. No conditions. -/
import Derived.Test.YtanbifhhoeaofaaBox
import Derived.Test.YtanbifhhoeaofaaOnly
namespace Go.Proofs.Ytanbifhhoeaofaa
set_option linter.unusedVariables false
open Go Go.RowKit

/-- what lay below n0 is as it was, and so is block Bn -/
def Kept (n0 Bn : Nat) (W W' : World) : Prop := Below n0 W W' ∧ W'.heap[Bn]? = W.heap[Bn]?
theorem Kept.refl (n0 Bn : Nat) (W : World) : Kept n0 Bn W W := ⟨Below.refl _ _, rfl⟩
theorem Kept.trans {n0 Bn : Nat} {A B C : World} (h : Kept n0 Bn A B) (k : Kept n0 Bn B C) : Kept n0 Bn A C := ⟨h.1.trans k.1, k.2.trans h.2⟩
theorem Kept.put {n0 Bn l : Nat} {W : World} {o o' : Obj} (h : W.heap[l]? = some o) (h1 : n0 ≤ l) (h2 : l ≠ Bn) : Kept n0 Bn W (W.putObj l o') :=
  ⟨(Below.refl n0 W).grown (grownBy_putObj' W l o') (by have := (Array.getElem?_eq_some_iff.1 h).1; omega) (fun k e => by cases e; omega), World.putObj_heap_other (Ne.symm h2)⟩
theorem Kept.below {n0 Bn : Nat} {W W' : World} (h : Below W.heap.size W W') (h1 : n0 ≤ W.heap.size) (h2 : Bn < W.heap.size) : Kept n0 Bn W W' := ⟨h.mono h1, h.block Bn h2⟩

/-- what lies from block i on, below block j, is as it was -/
def KeptIn (i j : Nat) (W W' : World) : Prop := ∀ k, i ≤ k → k < j → W'.heap[k]? = W.heap[k]?
def goesOnK {α : Type} (n0 Bn i j : Nat) (I : List α → World → Prop) (xs : List α) (W : World) : Exit → Act → World → Prop
  | .normal, _, W' => KeepsOthers W W' ∧ Kept n0 Bn W W' ∧ KeptIn i j W W' ∧ I xs W'
  | _, _, _ => False

/-- The iterator's contract: whatever the rounds are told of (J), if J does not mind what is made anew. -/
def SeqKeep {α : Type} (n : Nat) (P : Program) (gf n0 Bn : Nat) (lb : Array Value) (encs : α → Array Value) (xs : List α) (w : World) : Prop :=
  ∀ (l : Nat) (J : List α → World → Prop) (W : World), Kept n0 Bn w W → (∀ pre W1 W2, J pre W1 → Below W1.heap.size W1 W2 → J pre W2) → n0 ≤ W.heap.size → Bn < W.heap.size →
    (∀ pre x W0 W1, J pre W0 → Below W0.heap.size W0 W1 → pre ++ [x] <+: xs → YieldAt Fence.wide n P l (encs x) W1 fun e W' => e = .returned (.bool true) ∧ J (pre ++ [x]) W' ∧ Kept n0 Bn W1 W' ∧ KeptIn W0.heap.size W1.heap.size W1 W') →
    J [] W → CallsIn Fence.wide (n + 1) P gf (#[.func (.yield l) #[] #[]] ++ lb) W fun e W' => (∃ v, e = .returned v) ∧ J xs W'

theorem rangeKeep {α : Type} {n : Nat} {P : Program} {g : Operand} {ps : Array Tmp} {assign body : Code} {Q : Exit → Act → World → Prop} {a : Act} {w : World} {gf n0 Bn : Nat} {lb : Array Value}
    (hg : a.eval g = .func (.func gf) #[] lb) (eg : ∀ args w, (callFunc gf args).run P w = .ok (.enter gf args) w)
    {encs : α → Array Value} {xs : List α} (hseq : SeqKeep n P gf n0 Bn lb encs xs w) (hBn : Bn < w.heap.size) (hn0 : n0 ≤ w.heap.size) (hps : ∀ x, (encs x).size = ps.size)
    (I : List α → World → Prop) (hI : OwnFrom w.heap.size I) (hIb : ∀ pre W W', I pre W → Below W.heap.size W W' → I pre W') (h0 : I [] w) (a₁ : World → α → Act) (Wx : World → α → World) (hWx : ∀ W x, Below W.heap.size W (Wx W x))
    (hassign : ∀ (l : Nat) (x : α) (W : World) (K : Act → World → Prop), K (a₁ W x) (Wx W x) →
      assign.wpIn (Fence.wide.inRound l) n P (Exit.then K (fun _ _ _ => False)) { tmps := (ps.zip (encs x)).foldl (fun t (p, v) => t.setIfInBounds p v) a.tmps, defers := [] } W)
    (hbody : ∀ (l : Nat) (pre : List α) (x : α) (W0 W W2 : World), I pre W0 → pre ++ [x] <+: xs → w.heap.size + 2 ≤ W0.heap.size → (∃ r, W0.heap[w.heap.size + 1]? = some (.loop r)) → Only (w.heap.size + 1) W0 W2 → W0.heap.size ≤ W.heap.size →
      (∀ k, W.heap.size ≤ k → W2.heap[k]? = (Wx W x).heap[k]?) → W2.heap.size = (Wx W x).heap.size → body.wpIn (Fence.wide.inRound l) n P (goesOnK n0 Bn W0.heap.size W.heap.size I (pre ++ [x]) W2) (a₁ W x) W2)
    (hdone : ∀ (D : Nat) (W : World), w.heap.size ≤ D → I xs W → W.heap[D]? = some (.deferred (some [])) → Q .normal { a with defers := { target := .collected D, args := #[] } :: a.defers } W) :
    (Code.rangeFunc g ps assign body).wpIn Fence.wide (n + 2) P Q a w := by
  refine wpIn_rangeFunc fun fn hfn => ?_
  obtain ⟨rec, hrec⟩ : ∃ rec : LoopState → Loop, rec = fun st => { state := st, pending := none, fn, tmps := a.tmps, params := ps, assign, body, defers := w.heap.size } := ⟨_, rfl⟩
  obtain ⟨V, hV⟩ : ∃ V, (w.alloc (.deferred (some []))).alloc (.loop (rec .ready)) = V := ⟨_, rfl⟩
  have hsz : V.heap.size = w.heap.size + 1 + 1 := by rw [← hV, World.size_alloc, World.size_alloc]
  have hrecV : V.heap[w.heap.size + 1]? = some (.loop (rec .ready)) := by
    have := World.alloc_heap_new (w.alloc (.deferred (some []))) (.loop (rec .ready))
    rw [World.size_alloc, hV] at this
    exact this
  have hdefV : V.heap[w.heap.size]? = some (.deferred (some [])) := by
    rw [← hV]
    exact (Below.heap_alloc _ _ _ (by simp)).trans (World.alloc_heap_new w _)
  have hIV : I [] V := by rw [← hV]; exact hI.alloc _ (hI.alloc _ h0)
  have hBV : Below w.heap.size w V := by
    rw [← hV]
    exact ((Below.refl _ w).alloc (Nat.le_refl _) _).alloc (by simp) _
  refine ⟨w.heap.size + 1, [{ target := .collected w.heap.size, args := #[] }], V, { target := .fn (.func gf) lb, args := #[.func (.yield (w.heap.size + 1)) #[] #[]] }, V, gf,
    #[.func (.yield (w.heap.size + 1)) #[] #[]] ++ lb, V, ?_, ?_, (fun _ _ => trivial), ?_, (fun h => by cases h), ?_⟩
  · rw [← hV, hrec]; exact run_enterLoop_outer _ _ _ _ _
  · simp only [resolve, hg]
    simp [go_sem]
  · simp [invoke, go_sem, eg]
  · refine (hseq (w.heap.size + 1) (fun pre W => I pre W ∧ W.heap[w.heap.size + 1]? = some (.loop (rec .ready)) ∧ W.heap[w.heap.size]? = some (.deferred (some []))) V (Kept.below hBV hn0 hBn)
      (fun pre W W' h hb => ⟨hIb pre W W' h.1 hb, (hb.block _ (Array.getElem?_eq_some_iff.1 h.2.1).1).trans h.2.1, (hb.block _ (Array.getElem?_eq_some_iff.1 h.2.2).1).trans h.2.2⟩) (by omega) (by omega) ?_ ⟨hIV, hrecV, hdefV⟩).mono ?_
    · rintro pre x W0 W ⟨hi0, hl0, hd0⟩ hb01 hpre
      have hlt0 : w.heap.size + 1 < W0.heap.size := (Array.getElem?_eq_some_iff.1 hl0).1
      have hl : W.heap[w.heap.size + 1]? = some (.loop (rec .ready)) := (hb01.block _ hlt0).trans hl0
      have hd : W.heap[w.heap.size]? = some (.deferred (some [])) := (hb01.block _ (by omega)).trans hd0
      have hi := hIb pre W0 W hi0 hb01
      have hlt : w.heap.size + 1 < W.heap.size := (Array.getElem?_eq_some_iff.1 hl).1
      have hy := run_yield (P := P) (args := encs x) hl (by rw [hrec]; exact hps x)
      rw [hrec] at hy
      refine ⟨fn, _, assign, body, hy, roundIn_of_wpIn hfn (hassign _ x W _ ?_)⟩
      have hbx := hWx W x
      have hsW : w.heap.size + 2 ≤ W.heap.size := hlt
      have hix := hIb pre W _ hi hbx
      have hlx : (Wx W x).heap[w.heap.size + 1]? = some (.loop (rec .ready)) := (hbx.block _ hlt).trans hl
      have hdx : (Wx W x).heap[w.heap.size]? = some (.deferred (some [])) := (hbx.block _ (by omega)).trans hd
      have hltx : w.heap.size + 1 < (Wx W x).heap.size := Nat.lt_of_lt_of_le hlt hbx.size
      have hkx : Kept n0 Bn W (Wx W x) := Kept.below hbx (by omega) (by omega)
      refine ⟨_, run_beginRound hlx (by rw [hrec]), ?_⟩
      obtain ⟨W2, hW2⟩ : ∃ W2, (Wx W x).putObj (w.heap.size + 1) (.loop { rec .ready with state := .busy }) = W2 := ⟨_, rfl⟩
      have hl2 : W2.heap[w.heap.size + 1]? = some (.loop { rec .ready with state := .busy }) := by rw [← hW2]; exact World.putObj_heap_same hltx
      have hd2 : W2.heap[w.heap.size]? = some (.deferred (some [])) := by rw [← hW2]; exact (World.putObj_heap_other (by omega)).trans hdx
      have hk2 : Kept n0 Bn (Wx W x) W2 := by rw [← hW2]; exact Kept.put hlx (by omega) (by omega)
      have hz2 : W2.heap.size = (Wx W x).heap.size := by rw [← hW2]; exact World.putObj_size
      have ho1 : Below W0.heap.size W0 (Wx W x) := hb01.trans (hbx.mono hb01.size)
      have ho2 : Only (w.heap.size + 1) W0 W2 := ⟨by rw [← hW2]; exact ho1.os, by rw [← hW2]; exact ho1.tape, by rw [← hW2]; exact ho1.output, by rw [hz2]; exact ho1.size, fun k hk hn => by rw [← hW2]; exact (World.putObj_heap_other hn).trans (ho1.block k hk)⟩
      have hin : KeptIn W0.heap.size W.heap.size W W2 := fun k h1 h2 => by rw [← hW2]; exact (World.putObj_heap_other (by omega)).trans (hbx.block k h2)
      rw [hW2]
      refine wpIn_mono (hbody _ pre x W0 W W2 hi0 hpre hlt0 ⟨_, hl0⟩ ho2 hb01.size (fun k hk => by rw [← hW2]; exact World.putObj_heap_other (by omega)) hz2) ?_
      rintro e a3 W3 hp
      cases e with
      | normal =>
        obtain ⟨hk, hb3, hj3, hi3⟩ := hp
        have hl3 := hk.same _ _ hl2 rfl
        have hd3 := hk.same _ _ hd2 rfl
        have hr := run_endRound (P := P) none hl3
        refine ⟨_, _, hr, rfl, ⟨hI.putObj _ hi3 (by omega) hl3 rfl, ?_, (World.putObj_heap_other (by omega)).trans hd3⟩, (hkx.trans (hk2.trans hb3)).trans (Kept.put hl3 (by omega) (by omega)), fun k h1 h2 => (World.putObj_heap_other (by omega)).trans ((hj3 k h1 h2).trans (hin k h1 h2))⟩
        rw [World.putObj_heap_same (Array.getElem?_eq_some_iff.1 hl3).1, hrec]; rfl
      | ret => exact hp.elim
      | exit id => exact hp.elim
      | goto t => exact hp.elim
      | panic ch => exact hp.elim
      | outgrown => exact hp.elim
    · rintro e W2 ⟨⟨v, rfl⟩, hi, hl, hd⟩
      have hr := run_endLoop (P := P) hl (by rw [hrec]; simp)
      refine ⟨none, _, by rw [hrec] at hr; exact hr, hdone _ _ (Nat.le_refl _) (hI.putObj _ hi (by omega) hl rfl) ((World.putObj_heap_other (by omega)).trans hd)⟩
end Go.Proofs.Ytanbifhhoeaofaa

