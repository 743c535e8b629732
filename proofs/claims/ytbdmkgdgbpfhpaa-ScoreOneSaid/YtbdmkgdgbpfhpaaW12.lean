/- ScoreOne: the region that makes two scores, in whatever order. No conditions. -/
import Derived.Test.YtbdmkgdgbpfhpaaW11
namespace Go.Proofs.Ytbdmkgdgbpfhpaa
set_option linter.unusedVariables false
open Go Go.RowKit

def sc3 (W : World) (P : Nat) (x y z : Nat) : Prop := W.heap[P]? = some (.cells #[.int .i64 x, .int .i64 y, .int .i64 z] 24 (0, 0))
theorem sc3.cells {W : World} {P x y z : Nat} (h : sc3 W P x y z) : (W.cell? ⟨P, 0, none⟩ = some (.int .i64 x) ∧ W.cell? ⟨P, 1, none⟩ = some (.int .i64 y) ∧ W.cell? ⟨P, 2, none⟩ = some (.int .i64 z)) ∧ ∀ o, W.frozen? ⟨P, o, none⟩ = false := by
  have h' : W.heap[P]? = _ := h
  unfold World.cell?
  refine ⟨?_, fun o => ?_⟩
  · rw [h']; exact ⟨rfl, rfl, rfl⟩
  · unfold World.frozen?; rw [h']; simp
def mmA (mm : Mu) : Value := .agg (muCells8 mm).toArray
def oneM (mm : Mu) : Nat → Mu := fun _ => mm
/-- what is so, where the operations D are done -/
structure OneS (w1 : World) (a : Option Addr) (la ca : Nat) (A : Nat → Mu) (mm : Mu) (p0 p1 p2 q0 q1 q2 : Nat) (V : Nat → Value) (D : Nat → Bool) (W : World) : Prop where
  low : Below w1.heap.size w1 W
  r2 : D 2 = true → D 4 = false → MRow W w1.heap.size (V 2) 0 A
  r4 : D 4 = true → D 7 = false → MRow W w1.heap.size (V 4) (0 + la) (both A A 0)
  r6 : D 6 = true → D 7 = false → ∃ C, V 6 = .slice (some ⟨C, 0, none⟩) 1 1 ∧ w1.heap.size ≤ C ∧ W.heap[C]? = some (.cells (muCells8 mm).toArray 39 (0, 0)) ∧ (D 2 = true → D 4 = false → (V 2).ownBlock ≠ some C) ∧ (D 4 = true → (V 4).ownBlock ≠ some C)
  r7 : D 7 = true → MRow W w1.heap.size (V 7) (0 + la + 1) (both (both A A 0) (oneM mm) (0 + la))
  r9 : D 9 = true → ∃ P, V 9 = .pointer (some ⟨P, 0, none⟩) ∧ w1.heap.size ≤ P ∧ (D 11 = true → sc3 W P p0 p1 p2) ∧ (D 11 = false → sc3 W P 0 0 0)
  r10 : D 10 = true → ∃ P, V 10 = .pointer (some ⟨P, 0, none⟩) ∧ w1.heap.size ≤ P ∧ (D 12 = true → sc3 W P q0 q1 q2) ∧ (D 12 = false → sc3 W P 0 0 0)
  ne : D 9 = true → D 10 = true → V 9 ≠ V 10
  s0 : D 0 = true → V 0 = .slice a la ca
  s1 : D 1 = true → V 1 = .agg #[.int .i64 p0, .int .i64 p1, .int .i64 p2]
  s3 : D 3 = true → V 3 = .slice a la ca
  s5 : D 5 = true → V 5 = mmA mm
  s8 : D 8 = true → V 8 = .agg #[.int .i64 q0, .int .i64 q1, .int .i64 q2]
section
variable {w1 : World} {a : Option Addr} {la ca : Nat} {A : Nat → Mu} {mm : Mu} {p0 p1 p2 q0 q1 q2 : Nat} {V : Nat → Value} {D : Nat → Bool} {W W' : World}
theorem OneS.later (h : OneS w1 a la ca A mm p0 p1 p2 q0 q1 q2 V D W) (hb : Below W.heap.size W W') : OneS w1 a la ca A mm p0 p1 p2 q0 q1 q2 V D W' := by
  have bl : ∀ k o, W.heap[k]? = some o → W'.heap[k]? = some o := fun k o hk => (hb.block k (Array.getElem?_eq_some_iff.1 hk).1).trans hk
  refine ⟨h.low.trans (hb.mono h.low.size), fun x y => (h.r2 x y).later hb, fun x y => (h.r4 x y).later hb, fun x y => ?_, fun x => (h.r7 x).later hb, fun x => ?_, fun x => ?_, h.ne, h.s0, h.s1, h.s3, h.s5, h.s8⟩
  · obtain ⟨C, k1, k2, k3, k4, k5⟩ := h.r6 x y
    exact ⟨C, k1, k2, bl _ _ k3, k4, k5⟩
  · obtain ⟨P, k1, k2, k3, k4⟩ := h.r9 x
    exact ⟨P, k1, k2, fun y => bl _ _ (k3 y), fun y => bl _ _ (k4 y)⟩
  · obtain ⟨P, k1, k2, k3, k4⟩ := h.r10 x
    exact ⟨P, k1, k2, fun y => bl _ _ (k3 y), fun y => bl _ _ (k4 y)⟩
theorem OneS.st0 (h : OneS w1 a la ca A mm p0 p1 p2 q0 q1 q2 V D W) : OneS w1 a la ca A mm p0 p1 p2 q0 q1 q2 (updV V 0 (.slice a la ca)) (updD D 0) W :=
  ⟨h.low, h.r2, h.r4, h.r6, h.r7, h.r9, h.r10, h.ne, fun _ => rfl, h.s1, h.s3, h.s5, h.s8⟩
theorem OneS.st1 (h : OneS w1 a la ca A mm p0 p1 p2 q0 q1 q2 V D W) : OneS w1 a la ca A mm p0 p1 p2 q0 q1 q2 (updV V 1 (.agg #[.int .i64 p0, .int .i64 p1, .int .i64 p2])) (updD D 1) W :=
  ⟨h.low, h.r2, h.r4, h.r6, h.r7, h.r9, h.r10, h.ne, h.s0, fun _ => rfl, h.s3, h.s5, h.s8⟩
theorem OneS.st3 (h : OneS w1 a la ca A mm p0 p1 p2 q0 q1 q2 V D W) : OneS w1 a la ca A mm p0 p1 p2 q0 q1 q2 (updV V 3 (.slice a la ca)) (updD D 3) W :=
  ⟨h.low, h.r2, h.r4, h.r6, h.r7, h.r9, h.r10, h.ne, h.s0, h.s1, fun _ => rfl, h.s5, h.s8⟩
theorem OneS.st5 (h : OneS w1 a la ca A mm p0 p1 p2 q0 q1 q2 V D W) : OneS w1 a la ca A mm p0 p1 p2 q0 q1 q2 (updV V 5 (mmA mm)) (updD D 5) W :=
  ⟨h.low, h.r2, h.r4, h.r6, h.r7, h.r9, h.r10, h.ne, h.s0, h.s1, h.s3, fun _ => rfl, h.s8⟩
theorem OneS.st8 (h : OneS w1 a la ca A mm p0 p1 p2 q0 q1 q2 V D W) : OneS w1 a la ca A mm p0 p1 p2 q0 q1 q2 (updV V 8 (.agg #[.int .i64 q0, .int .i64 q1, .int .i64 q2])) (updD D 8) W :=
  ⟨h.low, h.r2, h.r4, h.r6, h.r7, h.r9, h.r10, h.ne, h.s0, h.s1, h.s3, h.s5, fun _ => rfl⟩
theorem OneS.st2 (h : OneS w1 a la ca A mm p0 p1 p2 q0 q1 q2 V D W) (d4 : D 4 = false) : OneS w1 a la ca A mm p0 p1 p2 q0 q1 q2 (updV V 2 (.slice (some ⟨W.heap.size, 0, none⟩) 0 0)) (updD D 2) (W.alloc (.cells #[] 39)) := by
  have hb : Below W.heap.size W (W.alloc (.cells #[] 39)) := (Below.refl _ W).alloc (Nat.le_refl _) _
  have g := h.later hb
  refine ⟨g.low, fun _ _ => ?_, g.r4, fun x y => ?_, g.r7, g.r9, g.r10, g.ne, g.s0, g.s1, g.s3, g.s5, g.s8⟩
  · refine ⟨by rw [muRow_zero]; rfl, .inr ⟨W.heap.size, 0, #[], rfl, h.low.size, World.alloc_heap_new W _, Nat.le_refl _, Nat.zero_le _, rfl, rfl⟩⟩
  · obtain ⟨C, k1, k2, k3, k4, k5⟩ := h.r6 x y
    obtain ⟨C', e1, e2, e3, e4, e5⟩ := g.r6 x y
    have hc : C' = C := by have := k1.symm.trans e1; simp at this; exact this.symm
    subst hc
    refine ⟨C', e1, e2, e3, fun _ _ e => ?_, e5⟩
    have hl := (Array.getElem?_eq_some_iff.1 k3).1
    have : W.heap.size = C' := by simpa [updV, Value.ownBlock] using e
    omega
theorem OneS.st6 (h : OneS w1 a la ca A mm p0 p1 p2 q0 q1 q2 V D W) (d7 : D 7 = false) : OneS w1 a la ca A mm p0 p1 p2 q0 q1 q2 (updV V 6 (.slice (some ⟨W.heap.size, 0, none⟩) 1 1)) (updD D 6) (W.alloc (.cells (muCells8 mm).toArray 39)) := by
  have hb : Below W.heap.size W (W.alloc (.cells (muCells8 mm).toArray 39)) := (Below.refl _ W).alloc (Nat.le_refl _) _
  have g := h.later hb
  refine ⟨g.low, g.r2, g.r4, fun _ _ => ⟨W.heap.size, rfl, h.low.size, World.alloc_heap_new W _, fun x y e => ?_, fun x e => ?_⟩, g.r7, g.r9, g.r10, g.ne, g.s0, g.s1, g.s3, g.s5, g.s8⟩
  · have := ((h.r2 x y).lt _ e).2; omega
  · have := ((h.r4 x d7).lt _ e).2; omega
theorem OneS.st9 (h : OneS w1 a la ca A mm p0 p1 p2 q0 q1 q2 V D W) (d11 : D 11 = false) : OneS w1 a la ca A mm p0 p1 p2 q0 q1 q2 (updV V 9 (.pointer (some ⟨W.heap.size, 0, none⟩))) (updD D 9) (W.alloc (.cells #[.int .i64 0, .int .i64 0, .int .i64 0] 24)) := by
  have hb : Below W.heap.size W (W.alloc (.cells #[.int .i64 0, .int .i64 0, .int .i64 0] 24)) := (Below.refl _ W).alloc (Nat.le_refl _) _
  have g := h.later hb
  refine ⟨g.low, g.r2, g.r4, g.r6, g.r7, fun _ => ⟨W.heap.size, rfl, h.low.size, fun x => ?_, fun _ => World.alloc_heap_new W _⟩, g.r10, fun _ x e => ?_, g.s0, g.s1, g.s3, g.s5, g.s8⟩
  · have x' : D 11 = true := x
    rw [d11] at x'; cases x'
  · obtain ⟨P, k1, k2, k3, k4⟩ := h.r10 x
    have e' : Value.pointer (some ⟨W.heap.size, 0, none⟩) = V 10 := e
    rw [k1] at e'
    have e2 : W.heap.size = P := by simpa using e'
    have hl : P < W.heap.size := by
      cases hd : D 12 with
      | true => exact (Array.getElem?_eq_some_iff.1 (k3 hd)).1
      | false => exact (Array.getElem?_eq_some_iff.1 (k4 hd)).1
    omega
theorem OneS.st10 (h : OneS w1 a la ca A mm p0 p1 p2 q0 q1 q2 V D W) (d12 : D 12 = false) : OneS w1 a la ca A mm p0 p1 p2 q0 q1 q2 (updV V 10 (.pointer (some ⟨W.heap.size, 0, none⟩))) (updD D 10) (W.alloc (.cells #[.int .i64 0, .int .i64 0, .int .i64 0] 24)) := by
  have hb : Below W.heap.size W (W.alloc (.cells #[.int .i64 0, .int .i64 0, .int .i64 0] 24)) := (Below.refl _ W).alloc (Nat.le_refl _) _
  have g := h.later hb
  refine ⟨g.low, g.r2, g.r4, g.r6, g.r7, g.r9, fun _ => ⟨W.heap.size, rfl, h.low.size, fun x => ?_, fun _ => World.alloc_heap_new W _⟩, fun x _ e => ?_, g.s0, g.s1, g.s3, g.s5, g.s8⟩
  · have x' : D 12 = true := x
    rw [d12] at x'; cases x'
  · obtain ⟨P, k1, k2, k3, k4⟩ := h.r9 x
    have e' : V 9 = Value.pointer (some ⟨W.heap.size, 0, none⟩) := e
    rw [k1] at e'
    have e2 : P = W.heap.size := by simpa using e'
    have hl : P < W.heap.size := by
      cases hd : D 11 with
      | true => exact (Array.getElem?_eq_some_iff.1 (k3 hd)).1
      | false => exact (Array.getElem?_eq_some_iff.1 (k4 hd)).1
    omega
theorem OneS.st4 (h : OneS w1 a la ca A mm p0 p1 p2 q0 q1 q2 V D W) (d2 : D 2 = true) (d4 : D 4 = false) (d7 : D 7 = false) {v' : Value} (hr : MRow W' w1.heap.size v' (0 + la) (both A A 0)) (hg : W.grownBy W' (V 2).ownBlock) (hl : v'.ownBlock = (V 2).ownBlock ∨ v'.ownBlock = some W.heap.size) : OneS w1 a la ca A mm p0 p1 p2 q0 q1 q2 (updV V 4 v') (updD D 4) W' := by
  have hrow := h.r2 d2 d4
  have bl24 : ∀ (k : Nat) (cs : Array Value), W.heap[k]? = some (.cells cs 24 (0, 0)) → W'.heap[k]? = some (.cells cs 24 (0, 0)) := fun k cs hk => (hg.block k (Array.getElem?_eq_some_iff.1 hk).1 (hrow.type hk)).trans hk
  refine ⟨h.low.trans ((Below.refl _ W).grown hg h.low.size fun k hk => (hrow.lt k hk).1), fun _ y => ?_, fun _ _ => hr, fun x y => ?_, fun x => ?_, fun x => ?_, fun x => ?_, h.ne, h.s0, h.s1, h.s3, h.s5, h.s8⟩
  · cases (y : true = false)
  · obtain ⟨C, k1, k2, k3, k4, k5⟩ := h.r6 x d7
    have hn := k4 d2 d4
    refine ⟨C, k1, k2, (hg.block C (Array.getElem?_eq_some_iff.1 k3).1 (Ne.symm hn)).trans k3, fun _ y' => (by cases (y' : true = false)), fun _ e => ?_⟩
    have e' : v'.ownBlock = some C := e
    rcases hl with hl | hl
    · rw [hl] at e'; exact hn e'
    · rw [hl] at e'
      have := (Array.getElem?_eq_some_iff.1 k3).1
      simp at e'; omega
  · have x' : D 7 = true := x
    rw [d7] at x'; cases x'
  · obtain ⟨P, k1, k2, k3, k4⟩ := h.r9 x
    exact ⟨P, k1, k2, fun y => bl24 _ _ (k3 y), fun y => bl24 _ _ (k4 y)⟩
  · obtain ⟨P, k1, k2, k3, k4⟩ := h.r10 x
    exact ⟨P, k1, k2, fun y => bl24 _ _ (k3 y), fun y => bl24 _ _ (k4 y)⟩
theorem OneS.st7 (h : OneS w1 a la ca A mm p0 p1 p2 q0 q1 q2 V D W) (d4 : D 4 = true) (d7 : D 7 = false) {v' : Value} (hr : MRow W' w1.heap.size v' (0 + la + 1) (both (both A A 0) (oneM mm) (0 + la))) (hg : W.grownBy W' (V 4).ownBlock) : OneS w1 a la ca A mm p0 p1 p2 q0 q1 q2 (updV V 7 v') (updD D 7) W' := by
  have hrow := h.r4 d4 d7
  have bl24 : ∀ (k : Nat) (cs : Array Value), W.heap[k]? = some (.cells cs 24 (0, 0)) → W'.heap[k]? = some (.cells cs 24 (0, 0)) := fun k cs hk => (hg.block k (Array.getElem?_eq_some_iff.1 hk).1 (hrow.type hk)).trans hk
  refine ⟨h.low.trans ((Below.refl _ W).grown hg h.low.size fun k hk => (hrow.lt k hk).1), fun _ y => ?_, fun _ y => ?_, fun _ y => ?_, fun _ => hr, fun x => ?_, fun x => ?_, h.ne, h.s0, h.s1, h.s3, h.s5, h.s8⟩
  · have y' : D 4 = false := y
    rw [d4] at y'; cases y'
  · cases (y : true = false)
  · cases (y : true = false)
  · obtain ⟨P, k1, k2, k3, k4⟩ := h.r9 x
    exact ⟨P, k1, k2, fun y => bl24 _ _ (k3 y), fun y => bl24 _ _ (k4 y)⟩
  · obtain ⟨P, k1, k2, k3, k4⟩ := h.r10 x
    exact ⟨P, k1, k2, fun y => bl24 _ _ (k3 y), fun y => bl24 _ _ (k4 y)⟩
theorem blk_set {W : World} {P : Nat} {cs : Array Value} {T : TypeId} (h : W.heap[P]? = some (.cells cs T (0, 0))) (i : Nat) (v : Value) : (W.setCell ⟨P, i, none⟩ v).heap[P]? = some (.cells (cs.setIfInBounds i v) T (0, 0)) := by
  obtain ⟨hlt, hk⟩ := Array.getElem?_eq_some_iff.1 h
  show (W.heap.modify P _)[P]? = _
  rw [Array.getElem?_eq_getElem (by rw [Array.size_modify]; exact hlt), Array.getElem_modify_self, hk]
  rfl
theorem sc3.set {P x y z : Nat} (h : sc3 W P x y z) (x' y' z' : Nat) : sc3 (((W.setCell ⟨P, 0, none⟩ (.int .i64 x')).setCell ⟨P, 1, none⟩ (.int .i64 y')).setCell ⟨P, 2, none⟩ (.int .i64 z')) P x' y' z' :=
  blk_set (blk_set (blk_set h 0 _) 1 _) 2 _
theorem set3_block {P k : Nat} {x y z : Value} (h : k ≠ P) : (((W.setCell ⟨P, 0, none⟩ x).setCell ⟨P, 1, none⟩ y).setCell ⟨P, 2, none⟩ z).heap[k]? = W.heap[k]? :=
  (Below.heap_setCell _ ⟨P, 2, none⟩ z k h).trans ((Below.heap_setCell _ ⟨P, 1, none⟩ y k h).trans (Below.heap_setCell W ⟨P, 0, none⟩ x k h))
theorem OneS.st11 (h : OneS w1 a la ca A mm p0 p1 p2 q0 q1 q2 V D W) (d9 : D 9 = true) (d11 : D 11 = false) {P : Nat} (hP : V 9 = .pointer (some ⟨P, 0, none⟩)) (v : Value) : OneS w1 a la ca A mm p0 p1 p2 q0 q1 q2 (updV V 11 v) (updD D 11) (((W.setCell ⟨P, 0, none⟩ (.int .i64 p0)).setCell ⟨P, 1, none⟩ (.int .i64 p1)).setCell ⟨P, 2, none⟩ (.int .i64 p2)) := by
  obtain ⟨P', e1, e2, _, e4⟩ := h.r9 d9
  have hpp : P' = P := by rw [hP] at e1; simpa using e1.symm
  subst hpp
  have hs := e4 d11
  have hl : Below w1.heap.size w1 (((W.setCell ⟨P', 0, none⟩ (.int .i64 p0)).setCell ⟨P', 1, none⟩ (.int .i64 p1)).setCell ⟨P', 2, none⟩ (.int .i64 p2)) := ((h.low.setCell (p := ⟨P', 0, none⟩) e2 _).setCell (p := ⟨P', 1, none⟩) e2 _).setCell (p := ⟨P', 2, none⟩) e2 _
  refine ⟨hl, fun x y => ?_, fun x y => ?_, fun x y => ?_, fun x => ?_, fun _ => ⟨P', hP, e2, fun _ => hs.set _ _ _, fun y => (by cases (y : true = false))⟩, fun x => ?_, h.ne, h.s0, h.s1, h.s3, h.s5, h.s8⟩
  · exact (h.r2 x y).at fun k hk => set3_block fun e => (h.r2 x y).type hs (by rw [hk, e])
  · exact (h.r4 x y).at fun k hk => set3_block fun e => (h.r4 x y).type hs (by rw [hk, e])
  · obtain ⟨C, k1, k2, k3, k4, k5⟩ := h.r6 x y
    exact ⟨C, k1, k2, (set3_block fun e => by rw [e, show W.heap[P']? = _ from hs] at k3; simp at k3).trans k3, k4, k5⟩
  · exact (h.r7 x).at fun k hk => set3_block fun e => (h.r7 x).type hs (by rw [hk, e])
  · obtain ⟨R, k1, k2, k3, k4⟩ := h.r10 x
    have hne : R ≠ P' := fun e => h.ne d9 x (by rw [hP, k1, e])
    exact ⟨R, k1, k2, fun y => (set3_block hne).trans (k3 y), fun y => (set3_block hne).trans (k4 y)⟩
theorem OneS.st12 (h : OneS w1 a la ca A mm p0 p1 p2 q0 q1 q2 V D W) (d10 : D 10 = true) (d12 : D 12 = false) {P : Nat} (hP : V 10 = .pointer (some ⟨P, 0, none⟩)) (v : Value) : OneS w1 a la ca A mm p0 p1 p2 q0 q1 q2 (updV V 12 v) (updD D 12) (((W.setCell ⟨P, 0, none⟩ (.int .i64 q0)).setCell ⟨P, 1, none⟩ (.int .i64 q1)).setCell ⟨P, 2, none⟩ (.int .i64 q2)) := by
  obtain ⟨P', e1, e2, _, e4⟩ := h.r10 d10
  have hpp : P' = P := by rw [hP] at e1; simpa using e1.symm
  subst hpp
  have hs := e4 d12
  have hl : Below w1.heap.size w1 (((W.setCell ⟨P', 0, none⟩ (.int .i64 q0)).setCell ⟨P', 1, none⟩ (.int .i64 q1)).setCell ⟨P', 2, none⟩ (.int .i64 q2)) := ((h.low.setCell (p := ⟨P', 0, none⟩) e2 _).setCell (p := ⟨P', 1, none⟩) e2 _).setCell (p := ⟨P', 2, none⟩) e2 _
  refine ⟨hl, fun x y => ?_, fun x y => ?_, fun x y => ?_, fun x => ?_, fun x => ?_, fun _ => ⟨P', hP, e2, fun _ => hs.set _ _ _, fun y => (by cases (y : true = false))⟩, h.ne, h.s0, h.s1, h.s3, h.s5, h.s8⟩
  · exact (h.r2 x y).at fun k hk => set3_block fun e => (h.r2 x y).type hs (by rw [hk, e])
  · exact (h.r4 x y).at fun k hk => set3_block fun e => (h.r4 x y).type hs (by rw [hk, e])
  · obtain ⟨C, k1, k2, k3, k4, k5⟩ := h.r6 x y
    exact ⟨C, k1, k2, (set3_block fun e => by rw [e, show W.heap[P']? = _ from hs] at k3; simp at k3).trans k3, k4, k5⟩
  · exact (h.r7 x).at fun k hk => set3_block fun e => (h.r7 x).type hs (by rw [hk, e])
  · obtain ⟨R, k1, k2, k3, k4⟩ := h.r9 x
    have hne : R ≠ P' := fun e => h.ne x d10 (by rw [hP, k1, e])
    exact ⟨R, k1, k2, fun y => (set3_block hne).trans (k3 y), fun y => (set3_block hne).trans (k4 y)⟩
end
end Go.Proofs.Ytbdmkgdgbpfhpaa
