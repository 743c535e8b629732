/- A law on 'for .. range f', f a closure that keeps its state in a variable of its own (one cell): the loop body goes on to the end each time. No conditions. -/
import Derived.RangeFuncNested
import Derived.RangeFuncBound
import Derived.RangeFuncCalls
import Derived.RangeFuncLeaves
import Derived.WalkKit
import Derived.OwnWalkIn
import Derived.TacticsInMore
import Derived.LoopNIn
import Derived.LoopIn
import Derived.RangeFuncBox
namespace Go.Proofs.Ytanbifhhoeaofaa
set_option linter.unusedVariables false
open Go Go.RowKit

/-- A round of the body: it goes on; whatever is no cells lies as it lay, and so does block Bn. -/
def goesOn {α : Type} (Bn : Nat) (I : List α → World → Prop) (xs : List α) (W : World) : Exit → Act → World → Prop
  | .normal, _, W' => KeepsOthers W W' ∧ W'.heap[Bn]? = W.heap[Bn]? ∧ I xs W'
  | _, _, _ => False

/-- The iterator's contract: whatever the rounds are told of (J), if J does not mind a store into block Bn. -/
def SeqBox {α : Type} (n : Nat) (P : Program) (gf Bn : Nat) (lb : Array Value) (encs : α → Array Value) (xs : List α) (w : World) : Prop :=
  ∀ (l : Nat) (J : List α → World → Prop) (W : World), W.heap[Bn]? = w.heap[Bn]? → (∀ pre W1 v, J pre W1 → J pre (W1.setCell ⟨Bn, 0, none⟩ v)) →
    (∀ pre x W1, J pre W1 → pre ++ [x] <+: xs → YieldAt Fence.wide n P l (encs x) W1 fun e W' => e = .returned (.bool true) ∧ J (pre ++ [x]) W' ∧ W'.heap[Bn]? = W1.heap[Bn]?) →
    J [] W → CallsIn Fence.wide (n + 1) P gf (#[.func (.yield l) #[] #[]] ++ lb) W fun e W' => (∃ v, e = .returned v) ∧ J xs W'

theorem set_heap {W : World} {B k : Nat} {v : Value} (h : k ≠ B) : (W.setCell ⟨B, 0, none⟩ v).heap[k]? = W.heap[k]? := Below.heap_setCell W ⟨B, 0, none⟩ v k h

theorem rangeBox {α : Type} {n : Nat} {P : Program} {g : Operand} {ps : Array Tmp} {assign body : Code} {Q : Exit → Act → World → Prop} {a : Act} {w : World} {gf Bn : Nat} {lb : Array Value}
    (hg : a.eval g = .func (.func gf) #[] lb) (eg : ∀ args w, (callFunc gf args).run P w = .ok (.enter gf args) w)
    {encs : α → Array Value} {xs : List α} (hseq : SeqBox n P gf Bn lb encs xs w) (hBn : Bn < w.heap.size) (hps : ∀ x, (encs x).size = ps.size)
    (I : List α → World → Prop) (hI : OwnFrom w.heap.size I) (hIb : ∀ pre W v, I pre W → I pre (W.setCell ⟨Bn, 0, none⟩ v)) (h0 : I [] w) (a₁ : α → Act)
    (hassign : ∀ (l : Nat) (x : α) (W : World) (K : Act → World → Prop), K (a₁ x) W →
      assign.wpIn (Fence.wide.inRound l) n P (Exit.then K (fun _ _ _ => False)) { tmps := (ps.zip (encs x)).foldl (fun t (p, v) => t.setIfInBounds p v) a.tmps, defers := [] } W)
    (hbody : ∀ (l : Nat) (pre : List α) (x : α) (W : World), I pre W → pre ++ [x] <+: xs → body.wpIn (Fence.wide.inRound l) n P (goesOn Bn I (pre ++ [x]) W) (a₁ x) W)
    (hdone : ∀ (D : Nat) (W : World), w.heap.size ≤ D → I xs W → W.heap[D]? = some (.deferred (some [])) → Q .normal { a with defers := { target := .collected D, args := #[] } :: a.defers } W) :
    (Code.rangeFunc g ps assign body).wpIn Fence.wide (n + 2) P Q a w := by
  refine wpIn_rangeFunc fun fn hfn => ?_
  obtain ⟨rec, hrec⟩ : ∃ rec : LoopState → Loop, rec = fun st => { state := st, pending := none, fn, tmps := a.tmps, params := ps, assign, body, defers := w.heap.size } := ⟨_, rfl⟩
  obtain ⟨V, hV⟩ : ∃ V, (w.alloc (.deferred (some []))).alloc (.loop (rec .ready)) = V := ⟨_, rfl⟩
  have hsz : V.heap.size = w.heap.size + 1 + 1 := by rw [← hV, World.size_alloc, World.size_alloc]
  have hrecV : V.heap[w.heap.size + 1]? = some (.loop (rec .ready)) := by
    have := World.alloc_heap_new (w.alloc (.deferred (some []))) (.loop (rec .ready))
    rw [World.size_alloc, hV] at this
    exact this
  have hdefV : V.heap[w.heap.size]? = some (.deferred (some [])) := by
    rw [← hV]
    exact (Below.heap_alloc _ _ _ (by simp)).trans (World.alloc_heap_new w _)
  have hIV : I [] V := by rw [← hV]; exact hI.alloc _ (hI.alloc _ h0)
  have hBV : V.heap[Bn]? = w.heap[Bn]? := by
    rw [← hV]
    exact (Below.heap_alloc _ _ _ (by simp only [World.size_alloc]; omega)).trans (Below.heap_alloc _ _ _ hBn)
  refine ⟨w.heap.size + 1, [{ target := .collected w.heap.size, args := #[] }], V, { target := .fn (.func gf) lb, args := #[.func (.yield (w.heap.size + 1)) #[] #[]] }, V, gf,
    #[.func (.yield (w.heap.size + 1)) #[] #[]] ++ lb, V, ?_, ?_, (fun _ _ => trivial), ?_, (fun h => by cases h), ?_⟩
  · rw [← hV, hrec]; exact run_enterLoop_outer _ _ _ _ _
  · simp only [resolve, hg]
    simp [go_sem]
  · simp [invoke, go_sem, eg]
  · refine (hseq (w.heap.size + 1) (fun pre W => I pre W ∧ W.heap[w.heap.size + 1]? = some (.loop (rec .ready)) ∧ W.heap[w.heap.size]? = some (.deferred (some []))) V hBV
      (fun pre W v h => ⟨hIb pre W v h.1, (set_heap (by omega)).trans h.2.1, (set_heap (by omega)).trans h.2.2⟩) ?_ ⟨hIV, hrecV, hdefV⟩).mono ?_
    · rintro pre x W ⟨hi, hl, hd⟩ hpre
      have hlt : w.heap.size + 1 < W.heap.size := (Array.getElem?_eq_some_iff.1 hl).1
      have hy := run_yield (P := P) (args := encs x) hl (by rw [hrec]; exact hps x)
      rw [hrec] at hy
      refine ⟨fn, _, assign, body, hy, roundIn_of_wpIn hfn (hassign _ x W _ ⟨_, run_beginRound hl (by rw [hrec]), ?_⟩)⟩
      obtain ⟨W2, hW2⟩ : ∃ W2, W.putObj (w.heap.size + 1) (.loop { rec .ready with state := .busy }) = W2 := ⟨_, rfl⟩
      have hl2 : W2.heap[w.heap.size + 1]? = some (.loop { rec .ready with state := .busy }) := by rw [← hW2]; exact World.putObj_heap_same hlt
      have hd2 : W2.heap[w.heap.size]? = some (.deferred (some [])) := by rw [← hW2]; exact (World.putObj_heap_other (by omega)).trans hd
      have hb2 : W2.heap[Bn]? = W.heap[Bn]? := by rw [← hW2]; exact World.putObj_heap_other (by omega)
      have hi2 : I pre W2 := by rw [← hW2]; exact hI.putObj _ hi (by omega) hl rfl
      rw [hW2]
      refine wpIn_mono (hbody _ pre x W2 hi2 hpre) ?_
      rintro e a3 W3 hp
      cases e with
      | normal =>
        obtain ⟨hk, hb3, hi3⟩ := hp
        have hl3 := hk.same _ _ hl2 rfl
        have hd3 := hk.same _ _ hd2 rfl
        have hr := run_endRound (P := P) none hl3
        refine ⟨_, _, hr, rfl, ⟨hI.putObj _ hi3 (by omega) hl3 rfl, ?_, (World.putObj_heap_other (by omega)).trans hd3⟩, (World.putObj_heap_other (by omega)).trans (hb3.trans hb2)⟩
        rw [World.putObj_heap_same (Array.getElem?_eq_some_iff.1 hl3).1, hrec]; rfl
      | ret => exact hp.elim
      | exit id => exact hp.elim
      | goto t => exact hp.elim
      | panic ch => exact hp.elim
      | outgrown => exact hp.elim
    · rintro e W2 ⟨⟨v, rfl⟩, hi, hl, hd⟩
      have hr := run_endLoop (P := P) hl (by rw [hrec]; simp)
      refine ⟨none, _, by rw [hrec] at hr; exact hr, hdone _ _ (Nat.le_refl _) (hI.putObj _ hi (by omega) hl rfl) ((World.putObj_heap_other (by omega)).trans hd)⟩
end Go.Proofs.Ytanbifhhoeaofaa

