/- The law's do: one thing is read. No conditions. -/
import Derived.Test.YtpnljefgenniaaaWireWorks
import Derived.Laws.Rows
import Derived.Handy
namespace Go.Proofs.Ytpnljefgenniaaa
set_option linter.unusedVariables false
open Go Go.RowKit

structure GotV where
  num : Nat
  int : Int
  text : ByteArray
  at_ : Nat
  fin : Nat
def gotVal (g : GotV) : Value := .agg #[.int .u64 g.num, .int .i64 g.int, .string g.text, .int .i64 g.at_, .int .i64 g.fin]
/-- where a reading goes to, and what is wrong, by kinds -/
def oT (s : ByteArray) (a : Nat) (k n : Int) : Nat := if k = 0 then wT s a 1 else if k = 2 then gT s a else if k = 3 then gT s a else if k = 4 then xT s a n else if k = 5 then wT s a n else gT s a
def oE (s : ByteArray) (a : Nat) (k n : Int) : Nat := if k = 0 then wE s a 1 else if k = 2 then cE s a n else if k = 3 then gE s a else if k = 4 then xE s a n else if k = 5 then wE s a n else gE s a
def oA (s : ByteArray) (a er : Nat) (k n : Int) : Nat := mvA a er (oT s a k n) (oE s a k n)
def oR (s : ByteArray) (a er : Nat) (k n : Int) : Nat := mvE er (oE s a k n)
def oNum (s : ByteArray) (a er : Nat) (k n : Int) : Nat := if k = 0 then bV s a er else if k = 2 then tk er (cE s a n) (gN s a) 0 else if k = 3 then 0 else if k = 4 then 0 else if k = 5 then 0 else tk er (gE s a) (gN s a) 0
def oInt (s : ByteArray) (a er : Nat) (k n : Int) : Int := if k = 3 then tk er (gE s a) (zN s a) 0 else 0
def oText (s : ByteArray) (a er : Nat) (k n : Int) : ByteArray := if k = 4 then tk er (xE s a n) (xS s a n) ⟨#[]⟩ else if k = 5 then tk er (wE s a n) (wS s a n) ⟨#[]⟩ else ⟨#[]⟩
def oGot (s : ByteArray) (a er : Nat) (k n : Int) : GotV := ⟨oNum s a er k n, oInt s a er k n, oText s a er k n, oA s a er k n, endF s (oA s a er k n) (oR s a er k n)⟩
theorem oA_le {s : ByteArray} {a er : Nat} {k n : Int} (h : a ≤ s.size) : a ≤ oA s a er k n ∧ oA s a er k n ≤ s.size := by
  refine mvA_le h ?_
  obtain ⟨_, h1, h2, _⟩ := leb_g s a h
  unfold oT
  repeat' split
  all_goals first | exact ⟨h1, h2⟩ | exact wT_le h | exact xT_le h
theorem gv_eq {a a' : Nat} {b b' : Int} {c c' : ByteArray} {d d' e e' : Nat} (h1 : a = a') (h2 : b = b') (h3 : c = c') (h4 : d = d') (h5 : e = e') : Value.agg #[.int .u64 a, .int .i64 b, .string c, .int .i64 d, .int .i64 e] = .agg #[.int .u64 a', .int .i64 b', .string c', .int .i64 d', .int .i64 e'] := by rw [h1, h2, h3, h4, h5]
/-- block g holds these five -/
def five (w : World) (g : Nat) (c0 c1 c2 c3 c4 : Value) : Prop := w.heap[g]? = some (.cells #[c0, c1, c2, c3, c4] 42 (0, 0))
theorem five.cells {w : World} {g : Nat} {c0 c1 c2 c3 c4 : Value} (h : five w g c0 c1 c2 c3 c4) : w.cell? ⟨g, 0, none⟩ = some c0 ∧ w.cell? ⟨g, 1, none⟩ = some c1 ∧ w.cell? ⟨g, 2, none⟩ = some c2 ∧ w.cell? ⟨g, 3, none⟩ = some c3 ∧ w.cell? ⟨g, 4, none⟩ = some c4 ∧ (∀ o, w.frozen? ⟨g, o, none⟩ = false) := by
  unfold five at h
  refine ⟨?_, ?_, ?_, ?_, ?_, fun o => ?_⟩ <;> first | (unfold World.cell?; rw [h]; rfl) | (unfold World.frozen?; rw [h]; simp)
theorem do_pre (w : World) (r : Nat) (s : ByteArray) (a er : Nat) (k n : Int) (h : RdAt w r s a er) :
    RdAt (((w.alloc (.cells #[.int .i64 k, .int .i64 n] 45)).alloc (.cells #[.int .u64 0, .int .i64 0, .string ⟨#[]⟩, .int .i64 0, .int .i64 0] 42)).alloc (.cells #[.int .u64 0, .int .i64 0, .string ⟨#[]⟩, .int .i64 0, .int .i64 0] 42)) r s a er ∧ five (((w.alloc (.cells #[.int .i64 k, .int .i64 n] 45)).alloc (.cells #[.int .u64 0, .int .i64 0, .string ⟨#[]⟩, .int .i64 0, .int .i64 0] 42)).alloc (.cells #[.int .u64 0, .int .i64 0, .string ⟨#[]⟩, .int .i64 0, .int .i64 0] 42)) (w.heap.size + 1 + 1) (.int .u64 0) (.int .i64 0) (.string ⟨#[]⟩) (.int .i64 0) (.int .i64 0) ∧ five (((w.alloc (.cells #[.int .i64 k, .int .i64 n] 45)).alloc (.cells #[.int .u64 0, .int .i64 0, .string ⟨#[]⟩, .int .i64 0, .int .i64 0] 42)).alloc (.cells #[.int .u64 0, .int .i64 0, .string ⟨#[]⟩, .int .i64 0, .int .i64 0] 42)) (w.heap.size + 1) (.int .u64 0) (.int .i64 0) (.string ⟨#[]⟩) (.int .i64 0) (.int .i64 0) ∧ Below w.heap.size w (((w.alloc (.cells #[.int .i64 k, .int .i64 n] 45)).alloc (.cells #[.int .u64 0, .int .i64 0, .string ⟨#[]⟩, .int .i64 0, .int .i64 0] 42)).alloc (.cells #[.int .u64 0, .int .i64 0, .string ⟨#[]⟩, .int .i64 0, .int .i64 0] 42)) ∧ (((w.alloc (.cells #[.int .i64 k, .int .i64 n] 45)).alloc (.cells #[.int .u64 0, .int .i64 0, .string ⟨#[]⟩, .int .i64 0, .int .i64 0] 42)).alloc (.cells #[.int .u64 0, .int .i64 0, .string ⟨#[]⟩, .int .i64 0, .int .i64 0] 42)).heap.size = w.heap.size + 3 := by
  have hb : Below w.heap.size w (((w.alloc (.cells #[.int .i64 k, .int .i64 n] 45)).alloc (.cells #[.int .u64 0, .int .i64 0, .string ⟨#[]⟩, .int .i64 0, .int .i64 0] 42)).alloc (.cells #[.int .u64 0, .int .i64 0, .string ⟨#[]⟩, .int .i64 0, .int .i64 0] 42)) := (((Below.refl _ _).alloc (Nat.le_refl _) _).alloc (by simp) _).alloc (by simp; omega) _
  refine ⟨h.later hb, ?_, ?_, hb, by rw [World.size_alloc, World.size_alloc, World.size_alloc]⟩
  · have := heap_alloc_new ((w.alloc (.cells #[.int .i64 k, .int .i64 n] 45)).alloc (.cells #[.int .u64 0, .int .i64 0, .string ⟨#[]⟩, .int .i64 0, .int .i64 0] 42)) (.cells #[.int .u64 0, .int .i64 0, .string ⟨#[]⟩, .int .i64 0, .int .i64 0] 42)
    simp only [World.size_alloc] at this
    exact this
  · have := heap_alloc_new (w.alloc (.cells #[.int .i64 k, .int .i64 n] 45)) (.cells #[.int .u64 0, .int .i64 0, .string ⟨#[]⟩, .int .i64 0, .int .i64 0] 42)
    simp only [World.size_alloc] at this
    exact (Below.heap_alloc _ _ _ (by simp)).trans this
theorem Only.fresh {r : Nat} {u w : World} (h : Only r u w) (g o : Nat) (v : Value) (hg : u.heap.size ≤ g) : Only r u (w.setCell ⟨g, o, none⟩ v) :=
  ⟨h.os, h.tape, h.output, by simpa using h.size, fun k hk hn => (Below.heap_setCell w ⟨g, o, none⟩ v k (show k ≠ g by omega)).trans (h.block k hk hn)⟩
theorem five.far {w : World} {g b o : Nat} {v c0 c1 c2 c3 c4 : Value} (h : five w g c0 c1 c2 c3 c4) (hne : g ≠ b) : five (w.setCell ⟨b, o, none⟩ v) g c0 c1 c2 c3 c4 := (Below.heap_setCell w ⟨b, o, none⟩ v g hne).trans h
theorem RdAt.far {w : World} {r b o : Nat} {v : Value} {s : ByteArray} {a er : Nat} (h : RdAt w r s a er) (hne : r ≠ b) : RdAt (w.setCell ⟨b, o, none⟩ v) r s a er := h.at (Below.heap_setCell w ⟨b, o, none⟩ v r hne)
theorem count_le (s : ByteArray) (a er : Nat) (n : Int) (hn : I64 n) : tk er (cE s a n) (gN s a) 0 ≤ 9223372036854775807 := by
  unfold tk; split
  · rename_i h
    have := cE_ok h.2
    have h2 := hn.2
    omega
  · omega
theorem rcountN (r : Nat) (s : ByteArray) (a er : Nat) (n : Int) (w : World) (h : RdAt w r s a er) (hs : s.size ≤ maxLen) (ha : a ≤ s.size) (hn : I64 n) :
    Calls Try.prog 47 #[.pointer (some ⟨r, 0, none⟩), .int .i64 n] w fun e w' => e = .returned (.int .i64 (tk er (cE s a n) (gN s a) 0 : Nat)) ∧ RdAt w' r s (mvA a er (gT s a) (cE s a n)) (mvE er (cE s a n)) ∧ Only r w w' := by
  have h1 := rcount_any r s a er n w h hs ha hn
  have e : tk er (cE s a n) (wrap64 (gN s a : Nat)) 0 = ((tk er (cE s a n) (gN s a) 0 : Nat) : Int) := by
    unfold tk; split
    · rename_i h
      have := cE_ok h.2
      have h2 := hn.2
      unfold wrap64; omega
    · rfl
  rw [e] at h1
  exact h1
set_option maxRecDepth 100000 in
set_option maxHeartbeats 16000000 in
theorem do_it (r : Nat) (s : ByteArray) (a er : Nat) (k n : Int) (w : World) (h : RdAt w r s a er) (hs : s.size ≤ maxLen) (ha : a ≤ s.size) (hn : I64 n) :
    Calls Try.prog 21 #[.pointer (some ⟨r, 0, none⟩), .agg #[.int .i64 k, .int .i64 n]] w fun e w' => e = .returned (gotVal (oGot s a er k n)) ∧ RdAt w' r s (oA s a er k n) (oR s a er k n) ∧ Only r w w' := by
  have H := Lib.hid h
  have hlt := h.lt
  have hu := (leb_g s a ha).2.2.2.1
  clear h
  by_cases h0 : k = 0
  · subst h0
    have e0 : oGot s a er 0 n = ⟨bV s a er, 0, ⟨#[]⟩, mvA a er (wT s a 1) (wE s a 1), endF s (mvA a er (wT s a 1) (wE s a 1)) (mvE er (wE s a 1))⟩ := rfl
    have e1 : oA s a er 0 n = mvA a er (wT s a 1) (wE s a 1) := rfl
    have e2 : oR s a er 0 n = mvE er (wE s a 1) := rfl
    rw [e0, e1, e2]
    have CB := Lib.hid (fun W h => rbyte_any r s a er W h hs ha)
    have hx : bV s a er ≤ 255 := by
      unfold bV tk byteAt; split
      · have := (s.data.toList.getD a 0).toNat_lt; omega
      · omega
    clear e0 e1 e2
    generalize bV s a er = x at CB hx ⊢
    generalize mvA a er (wT s a 1) (wE s a 1) = y at CB ⊢
    generalize mvE er (wE s a 1) = z at CB ⊢
    go_enter Try.func21, Try.ntmps21
    go_wp2_with fail
    obtain ⟨v1, v2, v3, v4, v5⟩ := do_pre w r s a er (0) n H.out
    generalize (((w.alloc (.cells #[.int .i64 0, .int .i64 n] 45)).alloc (.cells #[.int .u64 0, .int .i64 0, .string ⟨#[]⟩, .int .i64 0, .int .i64 0] 42)).alloc (.cells #[.int .u64 0, .int .i64 0, .string ⟨#[]⟩, .int .i64 0, .int .i64 0] 42)) = V at v1 v2 v3 v4 v5 ⊢
    refine (CB.out _ v1).mono ?_
    rintro e w2 ⟨rfl, hR, hO⟩
    have g2 : five w2 (w.heap.size + 1 + 1) (.int .u64 0) (.int .i64 0) (.string ⟨#[]⟩) (.int .i64 0) (.int .i64 0) := (hO.block _ (by omega) (by omega)).trans v2
    have q2 : five w2 (w.heap.size + 1) (.int .u64 0) (.int .i64 0) (.string ⟨#[]⟩) (.int .i64 0) (.int .i64 0) := (hO.block _ (by omega) (by omega)).trans v3
    have hO2 : Only r w w2 := (Below.only v4).trans hO
    obtain ⟨g0, g1, g2', g3, g4, gf⟩ := g2.cells
    have gf0 := gf 0
    have R3 := Lib.hid (RdAt.far (b := w.heap.size + 1 + 1) (o := 0) (v := .int .u64 x) hR (by omega))
    have G3 := Lib.hid (show five (w2.setCell ⟨w.heap.size + 1 + 1, 0, none⟩ (.int .u64 x)) (w.heap.size + 1 + 1) (.int .u64 x) (.int .i64 0) (.string ⟨#[]⟩) (.int .i64 0) (.int .i64 0) from set_blk g2 0 _)
    have Q3 := Lib.hid (five.far (b := w.heap.size + 1 + 1) (o := 0) (v := .int .u64 x) q2 (by omega))
    have O3 := Lib.hid (hO2.fresh (w.heap.size + 1 + 1) 0 (.int .u64 x) (by omega))
    clear v1 v2 v3 v4 v5 g2 q2 hO hR hO2 gf
    go_wp2_with fail
    generalize w2.setCell ⟨w.heap.size + 1 + 1, 0, none⟩ (.int .u64 x) = W3 at R3 G3 Q3 O3 ⊢
    refine (rat_any r s y z _ R3.out).mono ?_
    rintro e w4 ⟨rfl, rfl⟩
    obtain ⟨b0, b1, b2, b3, b4, bf⟩ := G3.out.cells
    have bf3 := bf 3
    have R4 := Lib.hid (RdAt.far (b := w.heap.size + 1 + 1) (o := 3) (v := .int .i64 y) R3.out (by omega))
    have G4 := Lib.hid (show five (W3.setCell ⟨w.heap.size + 1 + 1, 3, none⟩ (.int .i64 y)) (w.heap.size + 1 + 1) (.int .u64 x) (.int .i64 0) (.string ⟨#[]⟩) (.int .i64 y) (.int .i64 0) from set_blk G3.out 3 _)
    have Q4 := Lib.hid (five.far (b := w.heap.size + 1 + 1) (o := 3) (v := .int .i64 y) Q3.out (by omega))
    have O4 := Lib.hid (O3.out.fresh (w.heap.size + 1 + 1) 3 (.int .i64 y) (by omega))
    clear R3 G3 Q3 O3 bf g0 g1 g2' g3 g4 gf0
    go_wp2_with fail
    generalize W3.setCell ⟨w.heap.size + 1 + 1, 3, none⟩ (.int .i64 y) = W4 at R4 G4 Q4 O4 ⊢
    refine (rend_any r s y z _ R4.out).mono ?_
    rintro e w5 ⟨rfl, hb5⟩
    have hz4 : w.heap.size + 1 + 1 < W4.heap.size := (Array.getElem?_eq_some_iff.1 G4.out).1
    have G5 : five w5 (w.heap.size + 1 + 1) (.int .u64 x) (.int .i64 0) (.string ⟨#[]⟩) (.int .i64 y) (.int .i64 0) := (hb5.block _ hz4).trans G4.out
    have Q5 : five w5 (w.heap.size + 1) (.int .u64 0) (.int .i64 0) (.string ⟨#[]⟩) (.int .i64 0) (.int .i64 0) := (hb5.block _ (by omega)).trans Q4.out
    have R5 := Lib.hid (R4.out.later hb5)
    have O5 := Lib.hid (O4.out.trans (Below.only hb5))
    obtain ⟨d0, d1, d2, d3, d4, df⟩ := G5.cells
    have df4 := df 4
    obtain ⟨e0, e1, e2, e3, e4, ef⟩ := Q5.cells
    have ef0 := ef 0
    have ef1 := ef 1
    have ef2 := ef 2
    have ef3 := ef 3
    have ef4 := ef 4
    clear G4 Q4 O4 R4 hb5 G5 df ef b0 b1 b2 b3 b4 bf3 hz4
    go_wp2_with fail
    have q0 := five.far (b := w.heap.size + 1 + 1) (o := 4) (v := .int .i64 (endF s y z : Nat)) Q5 (by omega)
    have r0 := RdAt.far (b := w.heap.size + 1 + 1) (o := 4) (v := .int .i64 (endF s y z : Nat)) R5.out (by omega)
    have o0 := O5.out.fresh (w.heap.size + 1 + 1) 4 (.int .i64 (endF s y z : Nat)) (by omega)
    have q1 : five ((w5.setCell ⟨w.heap.size + 1 + 1, 4, none⟩ (.int .i64 (endF s y z : Nat))).setCell ⟨w.heap.size + 1, 0, none⟩ (.int .u64 x)) (w.heap.size + 1) (.int .u64 x) (.int .i64 0) (.string ⟨#[]⟩) (.int .i64 0) (.int .i64 0) := set_blk q0 0 _
    have r1 := RdAt.far (b := w.heap.size + 1) (o := 0) (v := .int .u64 x) r0 (by omega)
    have o1 := o0.fresh (w.heap.size + 1) 0 (.int .u64 x) (by omega)
    have q2 : five (((w5.setCell ⟨w.heap.size + 1 + 1, 4, none⟩ (.int .i64 (endF s y z : Nat))).setCell ⟨w.heap.size + 1, 0, none⟩ (.int .u64 x)).setCell ⟨w.heap.size + 1, 1, none⟩ (.int .i64 0)) (w.heap.size + 1) (.int .u64 x) (.int .i64 0) (.string ⟨#[]⟩) (.int .i64 0) (.int .i64 0) := set_blk q1 1 _
    have r2 := RdAt.far (b := w.heap.size + 1) (o := 1) (v := .int .i64 0) r1 (by omega)
    have o2 := o1.fresh (w.heap.size + 1) 1 (.int .i64 0) (by omega)
    have q3 : five ((((w5.setCell ⟨w.heap.size + 1 + 1, 4, none⟩ (.int .i64 (endF s y z : Nat))).setCell ⟨w.heap.size + 1, 0, none⟩ (.int .u64 x)).setCell ⟨w.heap.size + 1, 1, none⟩ (.int .i64 0)).setCell ⟨w.heap.size + 1, 2, none⟩ (.string ⟨#[]⟩)) (w.heap.size + 1) (.int .u64 x) (.int .i64 0) (.string ⟨#[]⟩) (.int .i64 0) (.int .i64 0) := set_blk q2 2 _
    have r3 := RdAt.far (b := w.heap.size + 1) (o := 2) (v := .string ⟨#[]⟩) r2 (by omega)
    have o3 := o2.fresh (w.heap.size + 1) 2 (.string ⟨#[]⟩) (by omega)
    have q4 : five (((((w5.setCell ⟨w.heap.size + 1 + 1, 4, none⟩ (.int .i64 (endF s y z : Nat))).setCell ⟨w.heap.size + 1, 0, none⟩ (.int .u64 x)).setCell ⟨w.heap.size + 1, 1, none⟩ (.int .i64 0)).setCell ⟨w.heap.size + 1, 2, none⟩ (.string ⟨#[]⟩)).setCell ⟨w.heap.size + 1, 3, none⟩ (.int .i64 y)) (w.heap.size + 1) (.int .u64 x) (.int .i64 0) (.string ⟨#[]⟩) (.int .i64 y) (.int .i64 0) := set_blk q3 3 _
    have r4 := RdAt.far (b := w.heap.size + 1) (o := 3) (v := .int .i64 y) r3 (by omega)
    have o4 := o3.fresh (w.heap.size + 1) 3 (.int .i64 y) (by omega)
    have q5 : five ((((((w5.setCell ⟨w.heap.size + 1 + 1, 4, none⟩ (.int .i64 (endF s y z : Nat))).setCell ⟨w.heap.size + 1, 0, none⟩ (.int .u64 x)).setCell ⟨w.heap.size + 1, 1, none⟩ (.int .i64 0)).setCell ⟨w.heap.size + 1, 2, none⟩ (.string ⟨#[]⟩)).setCell ⟨w.heap.size + 1, 3, none⟩ (.int .i64 y)).setCell ⟨w.heap.size + 1, 4, none⟩ (.int .i64 (endF s y z : Nat))) (w.heap.size + 1) (.int .u64 x) (.int .i64 0) (.string ⟨#[]⟩) (.int .i64 y) (.int .i64 (endF s y z : Nat)) := set_blk q4 4 _
    have r5 := RdAt.far (b := w.heap.size + 1) (o := 4) (v := .int .i64 (endF s y z : Nat)) r4 (by omega)
    have o5 := o4.fresh (w.heap.size + 1) 4 (.int .i64 (endF s y z : Nat)) (by omega)
    obtain ⟨z0, z1, z2, z3, z4, _⟩ := q5.cells
    have R6 := Lib.hid r5
    have O6 := Lib.hid o5
    clear q0 q1 q2 q3 q4 q5 r0 r1 r2 r3 r4 r5 o0 o1 o2 o3 o4 o5 d0 d1 d2 d3 d4 df4 e0 e1 e2 e3 e4 ef0 ef1 ef2 ef3 ef4 Q5 R5 O5
    exact bodyPost_ret (v := gotVal ⟨x, 0, ⟨#[]⟩, y, (endF s y z)⟩) (by simp [results, Try.results21, go_sem, gotVal, z0, z1, z2, z3, z4]) rfl ⟨rfl, R6.out, O6.out⟩
  by_cases h2 : k = 2
  · subst h2
    have e0 : oGot s a er 2 n = ⟨tk er (cE s a n) (gN s a) 0, 0, ⟨#[]⟩, mvA a er (gT s a) (cE s a n), endF s (mvA a er (gT s a) (cE s a n)) (mvE er (cE s a n))⟩ := rfl
    have e1 : oA s a er 2 n = mvA a er (gT s a) (cE s a n) := rfl
    have e2 : oR s a er 2 n = mvE er (cE s a n) := rfl
    rw [e0, e1, e2]
    have CB := Lib.hid (fun W h => rcountN r s a er n W h hs ha hn)
    have hx : tk er (cE s a n) (gN s a) 0 ≤ 9223372036854775807 := count_le s a er n hn
    clear e0 e1 e2 h0
    generalize tk er (cE s a n) (gN s a) 0 = x at CB hx ⊢
    generalize mvA a er (gT s a) (cE s a n) = y at CB ⊢
    generalize mvE er (cE s a n) = z at CB ⊢
    go_enter Try.func21, Try.ntmps21
    go_wp2_with fail
    obtain ⟨v1, v2, v3, v4, v5⟩ := do_pre w r s a er (2) n H.out
    generalize (((w.alloc (.cells #[.int .i64 2, .int .i64 n] 45)).alloc (.cells #[.int .u64 0, .int .i64 0, .string ⟨#[]⟩, .int .i64 0, .int .i64 0] 42)).alloc (.cells #[.int .u64 0, .int .i64 0, .string ⟨#[]⟩, .int .i64 0, .int .i64 0] 42)) = V at v1 v2 v3 v4 v5 ⊢
    refine (CB.out _ v1).mono ?_
    rintro e w2 ⟨rfl, hR, hO⟩
    have g2 : five w2 (w.heap.size + 1 + 1) (.int .u64 0) (.int .i64 0) (.string ⟨#[]⟩) (.int .i64 0) (.int .i64 0) := (hO.block _ (by omega) (by omega)).trans v2
    have q2 : five w2 (w.heap.size + 1) (.int .u64 0) (.int .i64 0) (.string ⟨#[]⟩) (.int .i64 0) (.int .i64 0) := (hO.block _ (by omega) (by omega)).trans v3
    have hO2 : Only r w w2 := (Below.only v4).trans hO
    obtain ⟨g0, g1, g2', g3, g4, gf⟩ := g2.cells
    have gf0 := gf 0
    have R3 := Lib.hid (RdAt.far (b := w.heap.size + 1 + 1) (o := 0) (v := .int .u64 x) hR (by omega))
    have G3 := Lib.hid (show five (w2.setCell ⟨w.heap.size + 1 + 1, 0, none⟩ (.int .u64 x)) (w.heap.size + 1 + 1) (.int .u64 x) (.int .i64 0) (.string ⟨#[]⟩) (.int .i64 0) (.int .i64 0) from set_blk g2 0 _)
    have Q3 := Lib.hid (five.far (b := w.heap.size + 1 + 1) (o := 0) (v := .int .u64 x) q2 (by omega))
    have O3 := Lib.hid (hO2.fresh (w.heap.size + 1 + 1) 0 (.int .u64 x) (by omega))
    clear v1 v2 v3 v4 v5 g2 q2 hO hR hO2 gf
    go_wp2_with fail
    generalize w2.setCell ⟨w.heap.size + 1 + 1, 0, none⟩ (.int .u64 x) = W3 at R3 G3 Q3 O3 ⊢
    refine (rat_any r s y z _ R3.out).mono ?_
    rintro e w4 ⟨rfl, rfl⟩
    obtain ⟨b0, b1, b2, b3, b4, bf⟩ := G3.out.cells
    have bf3 := bf 3
    have R4 := Lib.hid (RdAt.far (b := w.heap.size + 1 + 1) (o := 3) (v := .int .i64 y) R3.out (by omega))
    have G4 := Lib.hid (show five (W3.setCell ⟨w.heap.size + 1 + 1, 3, none⟩ (.int .i64 y)) (w.heap.size + 1 + 1) (.int .u64 x) (.int .i64 0) (.string ⟨#[]⟩) (.int .i64 y) (.int .i64 0) from set_blk G3.out 3 _)
    have Q4 := Lib.hid (five.far (b := w.heap.size + 1 + 1) (o := 3) (v := .int .i64 y) Q3.out (by omega))
    have O4 := Lib.hid (O3.out.fresh (w.heap.size + 1 + 1) 3 (.int .i64 y) (by omega))
    clear R3 G3 Q3 O3 bf g0 g1 g2' g3 g4 gf0
    go_wp2_with fail
    generalize W3.setCell ⟨w.heap.size + 1 + 1, 3, none⟩ (.int .i64 y) = W4 at R4 G4 Q4 O4 ⊢
    refine (rend_any r s y z _ R4.out).mono ?_
    rintro e w5 ⟨rfl, hb5⟩
    have hz4 : w.heap.size + 1 + 1 < W4.heap.size := (Array.getElem?_eq_some_iff.1 G4.out).1
    have G5 : five w5 (w.heap.size + 1 + 1) (.int .u64 x) (.int .i64 0) (.string ⟨#[]⟩) (.int .i64 y) (.int .i64 0) := (hb5.block _ hz4).trans G4.out
    have Q5 : five w5 (w.heap.size + 1) (.int .u64 0) (.int .i64 0) (.string ⟨#[]⟩) (.int .i64 0) (.int .i64 0) := (hb5.block _ (by omega)).trans Q4.out
    have R5 := Lib.hid (R4.out.later hb5)
    have O5 := Lib.hid (O4.out.trans (Below.only hb5))
    obtain ⟨d0, d1, d2, d3, d4, df⟩ := G5.cells
    have df4 := df 4
    obtain ⟨e0, e1, e2, e3, e4, ef⟩ := Q5.cells
    have ef0 := ef 0
    have ef1 := ef 1
    have ef2 := ef 2
    have ef3 := ef 3
    have ef4 := ef 4
    clear G4 Q4 O4 R4 hb5 G5 df ef b0 b1 b2 b3 b4 bf3 hz4
    go_wp2_with fail
    have q0 := five.far (b := w.heap.size + 1 + 1) (o := 4) (v := .int .i64 (endF s y z : Nat)) Q5 (by omega)
    have r0 := RdAt.far (b := w.heap.size + 1 + 1) (o := 4) (v := .int .i64 (endF s y z : Nat)) R5.out (by omega)
    have o0 := O5.out.fresh (w.heap.size + 1 + 1) 4 (.int .i64 (endF s y z : Nat)) (by omega)
    have q1 : five ((w5.setCell ⟨w.heap.size + 1 + 1, 4, none⟩ (.int .i64 (endF s y z : Nat))).setCell ⟨w.heap.size + 1, 0, none⟩ (.int .u64 x)) (w.heap.size + 1) (.int .u64 x) (.int .i64 0) (.string ⟨#[]⟩) (.int .i64 0) (.int .i64 0) := set_blk q0 0 _
    have r1 := RdAt.far (b := w.heap.size + 1) (o := 0) (v := .int .u64 x) r0 (by omega)
    have o1 := o0.fresh (w.heap.size + 1) 0 (.int .u64 x) (by omega)
    have q2 : five (((w5.setCell ⟨w.heap.size + 1 + 1, 4, none⟩ (.int .i64 (endF s y z : Nat))).setCell ⟨w.heap.size + 1, 0, none⟩ (.int .u64 x)).setCell ⟨w.heap.size + 1, 1, none⟩ (.int .i64 0)) (w.heap.size + 1) (.int .u64 x) (.int .i64 0) (.string ⟨#[]⟩) (.int .i64 0) (.int .i64 0) := set_blk q1 1 _
    have r2 := RdAt.far (b := w.heap.size + 1) (o := 1) (v := .int .i64 0) r1 (by omega)
    have o2 := o1.fresh (w.heap.size + 1) 1 (.int .i64 0) (by omega)
    have q3 : five ((((w5.setCell ⟨w.heap.size + 1 + 1, 4, none⟩ (.int .i64 (endF s y z : Nat))).setCell ⟨w.heap.size + 1, 0, none⟩ (.int .u64 x)).setCell ⟨w.heap.size + 1, 1, none⟩ (.int .i64 0)).setCell ⟨w.heap.size + 1, 2, none⟩ (.string ⟨#[]⟩)) (w.heap.size + 1) (.int .u64 x) (.int .i64 0) (.string ⟨#[]⟩) (.int .i64 0) (.int .i64 0) := set_blk q2 2 _
    have r3 := RdAt.far (b := w.heap.size + 1) (o := 2) (v := .string ⟨#[]⟩) r2 (by omega)
    have o3 := o2.fresh (w.heap.size + 1) 2 (.string ⟨#[]⟩) (by omega)
    have q4 : five (((((w5.setCell ⟨w.heap.size + 1 + 1, 4, none⟩ (.int .i64 (endF s y z : Nat))).setCell ⟨w.heap.size + 1, 0, none⟩ (.int .u64 x)).setCell ⟨w.heap.size + 1, 1, none⟩ (.int .i64 0)).setCell ⟨w.heap.size + 1, 2, none⟩ (.string ⟨#[]⟩)).setCell ⟨w.heap.size + 1, 3, none⟩ (.int .i64 y)) (w.heap.size + 1) (.int .u64 x) (.int .i64 0) (.string ⟨#[]⟩) (.int .i64 y) (.int .i64 0) := set_blk q3 3 _
    have r4 := RdAt.far (b := w.heap.size + 1) (o := 3) (v := .int .i64 y) r3 (by omega)
    have o4 := o3.fresh (w.heap.size + 1) 3 (.int .i64 y) (by omega)
    have q5 : five ((((((w5.setCell ⟨w.heap.size + 1 + 1, 4, none⟩ (.int .i64 (endF s y z : Nat))).setCell ⟨w.heap.size + 1, 0, none⟩ (.int .u64 x)).setCell ⟨w.heap.size + 1, 1, none⟩ (.int .i64 0)).setCell ⟨w.heap.size + 1, 2, none⟩ (.string ⟨#[]⟩)).setCell ⟨w.heap.size + 1, 3, none⟩ (.int .i64 y)).setCell ⟨w.heap.size + 1, 4, none⟩ (.int .i64 (endF s y z : Nat))) (w.heap.size + 1) (.int .u64 x) (.int .i64 0) (.string ⟨#[]⟩) (.int .i64 y) (.int .i64 (endF s y z : Nat)) := set_blk q4 4 _
    have r5 := RdAt.far (b := w.heap.size + 1) (o := 4) (v := .int .i64 (endF s y z : Nat)) r4 (by omega)
    have o5 := o4.fresh (w.heap.size + 1) 4 (.int .i64 (endF s y z : Nat)) (by omega)
    obtain ⟨z0, z1, z2, z3, z4, _⟩ := q5.cells
    have R6 := Lib.hid r5
    have O6 := Lib.hid o5
    clear q0 q1 q2 q3 q4 q5 r0 r1 r2 r3 r4 r5 o0 o1 o2 o3 o4 o5 d0 d1 d2 d3 d4 df4 e0 e1 e2 e3 e4 ef0 ef1 ef2 ef3 ef4 Q5 R5 O5
    exact bodyPost_ret (v := gotVal ⟨x, 0, ⟨#[]⟩, y, (endF s y z)⟩) (by simp [results, Try.results21, go_sem, gotVal, z0, z1, z2, z3, z4]) rfl ⟨rfl, R6.out, O6.out⟩
  by_cases h3 : k = 3
  · subst h3
    have e0 : oGot s a er 3 n = ⟨0, tk er (gE s a) (zN s a) 0, ⟨#[]⟩, mvA a er (gT s a) (gE s a), endF s (mvA a er (gT s a) (gE s a)) (mvE er (gE s a))⟩ := rfl
    have e1 : oA s a er 3 n = mvA a er (gT s a) (gE s a) := rfl
    have e2 : oR s a er 3 n = mvE er (gE s a) := rfl
    rw [e0, e1, e2]
    have CB := Lib.hid (fun W h => rint_any r s a er W h hs ha)
    clear e0 e1 e2 h0 h2
    generalize tk er (gE s a) (zN s a) 0 = x at CB ⊢
    generalize mvA a er (gT s a) (gE s a) = y at CB ⊢
    generalize mvE er (gE s a) = z at CB ⊢
    go_enter Try.func21, Try.ntmps21
    go_wp2_with fail
    obtain ⟨v1, v2, v3, v4, v5⟩ := do_pre w r s a er (3) n H.out
    generalize (((w.alloc (.cells #[.int .i64 3, .int .i64 n] 45)).alloc (.cells #[.int .u64 0, .int .i64 0, .string ⟨#[]⟩, .int .i64 0, .int .i64 0] 42)).alloc (.cells #[.int .u64 0, .int .i64 0, .string ⟨#[]⟩, .int .i64 0, .int .i64 0] 42)) = V at v1 v2 v3 v4 v5 ⊢
    refine (CB.out _ v1).mono ?_
    rintro e w2 ⟨rfl, hR, hO⟩
    have g2 : five w2 (w.heap.size + 1 + 1) (.int .u64 0) (.int .i64 0) (.string ⟨#[]⟩) (.int .i64 0) (.int .i64 0) := (hO.block _ (by omega) (by omega)).trans v2
    have q2 : five w2 (w.heap.size + 1) (.int .u64 0) (.int .i64 0) (.string ⟨#[]⟩) (.int .i64 0) (.int .i64 0) := (hO.block _ (by omega) (by omega)).trans v3
    have hO2 : Only r w w2 := (Below.only v4).trans hO
    obtain ⟨g0, g1, g2', g3, g4, gf⟩ := g2.cells
    have gf1 := gf 1
    have R3 := Lib.hid (RdAt.far (b := w.heap.size + 1 + 1) (o := 1) (v := .int .i64 x) hR (by omega))
    have G3 := Lib.hid (show five (w2.setCell ⟨w.heap.size + 1 + 1, 1, none⟩ (.int .i64 x)) (w.heap.size + 1 + 1) (.int .u64 0) (.int .i64 x) (.string ⟨#[]⟩) (.int .i64 0) (.int .i64 0) from set_blk g2 1 _)
    have Q3 := Lib.hid (five.far (b := w.heap.size + 1 + 1) (o := 1) (v := .int .i64 x) q2 (by omega))
    have O3 := Lib.hid (hO2.fresh (w.heap.size + 1 + 1) 1 (.int .i64 x) (by omega))
    clear v1 v2 v3 v4 v5 g2 q2 hO hR hO2 gf
    go_wp2_with fail
    generalize w2.setCell ⟨w.heap.size + 1 + 1, 1, none⟩ (.int .i64 x) = W3 at R3 G3 Q3 O3 ⊢
    refine (rat_any r s y z _ R3.out).mono ?_
    rintro e w4 ⟨rfl, rfl⟩
    obtain ⟨b0, b1, b2, b3, b4, bf⟩ := G3.out.cells
    have bf3 := bf 3
    have R4 := Lib.hid (RdAt.far (b := w.heap.size + 1 + 1) (o := 3) (v := .int .i64 y) R3.out (by omega))
    have G4 := Lib.hid (show five (W3.setCell ⟨w.heap.size + 1 + 1, 3, none⟩ (.int .i64 y)) (w.heap.size + 1 + 1) (.int .u64 0) (.int .i64 x) (.string ⟨#[]⟩) (.int .i64 y) (.int .i64 0) from set_blk G3.out 3 _)
    have Q4 := Lib.hid (five.far (b := w.heap.size + 1 + 1) (o := 3) (v := .int .i64 y) Q3.out (by omega))
    have O4 := Lib.hid (O3.out.fresh (w.heap.size + 1 + 1) 3 (.int .i64 y) (by omega))
    clear R3 G3 Q3 O3 bf g0 g1 g2' g3 g4 gf1
    go_wp2_with fail
    generalize W3.setCell ⟨w.heap.size + 1 + 1, 3, none⟩ (.int .i64 y) = W4 at R4 G4 Q4 O4 ⊢
    refine (rend_any r s y z _ R4.out).mono ?_
    rintro e w5 ⟨rfl, hb5⟩
    have hz4 : w.heap.size + 1 + 1 < W4.heap.size := (Array.getElem?_eq_some_iff.1 G4.out).1
    have G5 : five w5 (w.heap.size + 1 + 1) (.int .u64 0) (.int .i64 x) (.string ⟨#[]⟩) (.int .i64 y) (.int .i64 0) := (hb5.block _ hz4).trans G4.out
    have Q5 : five w5 (w.heap.size + 1) (.int .u64 0) (.int .i64 0) (.string ⟨#[]⟩) (.int .i64 0) (.int .i64 0) := (hb5.block _ (by omega)).trans Q4.out
    have R5 := Lib.hid (R4.out.later hb5)
    have O5 := Lib.hid (O4.out.trans (Below.only hb5))
    obtain ⟨d0, d1, d2, d3, d4, df⟩ := G5.cells
    have df4 := df 4
    obtain ⟨e0, e1, e2, e3, e4, ef⟩ := Q5.cells
    have ef0 := ef 0
    have ef1 := ef 1
    have ef2 := ef 2
    have ef3 := ef 3
    have ef4 := ef 4
    clear G4 Q4 O4 R4 hb5 G5 df ef b0 b1 b2 b3 b4 bf3 hz4
    go_wp2_with fail
    have q0 := five.far (b := w.heap.size + 1 + 1) (o := 4) (v := .int .i64 (endF s y z : Nat)) Q5 (by omega)
    have r0 := RdAt.far (b := w.heap.size + 1 + 1) (o := 4) (v := .int .i64 (endF s y z : Nat)) R5.out (by omega)
    have o0 := O5.out.fresh (w.heap.size + 1 + 1) 4 (.int .i64 (endF s y z : Nat)) (by omega)
    have q1 : five ((w5.setCell ⟨w.heap.size + 1 + 1, 4, none⟩ (.int .i64 (endF s y z : Nat))).setCell ⟨w.heap.size + 1, 0, none⟩ (.int .u64 0)) (w.heap.size + 1) (.int .u64 0) (.int .i64 0) (.string ⟨#[]⟩) (.int .i64 0) (.int .i64 0) := set_blk q0 0 _
    have r1 := RdAt.far (b := w.heap.size + 1) (o := 0) (v := .int .u64 0) r0 (by omega)
    have o1 := o0.fresh (w.heap.size + 1) 0 (.int .u64 0) (by omega)
    have q2 : five (((w5.setCell ⟨w.heap.size + 1 + 1, 4, none⟩ (.int .i64 (endF s y z : Nat))).setCell ⟨w.heap.size + 1, 0, none⟩ (.int .u64 0)).setCell ⟨w.heap.size + 1, 1, none⟩ (.int .i64 x)) (w.heap.size + 1) (.int .u64 0) (.int .i64 x) (.string ⟨#[]⟩) (.int .i64 0) (.int .i64 0) := set_blk q1 1 _
    have r2 := RdAt.far (b := w.heap.size + 1) (o := 1) (v := .int .i64 x) r1 (by omega)
    have o2 := o1.fresh (w.heap.size + 1) 1 (.int .i64 x) (by omega)
    have q3 : five ((((w5.setCell ⟨w.heap.size + 1 + 1, 4, none⟩ (.int .i64 (endF s y z : Nat))).setCell ⟨w.heap.size + 1, 0, none⟩ (.int .u64 0)).setCell ⟨w.heap.size + 1, 1, none⟩ (.int .i64 x)).setCell ⟨w.heap.size + 1, 2, none⟩ (.string ⟨#[]⟩)) (w.heap.size + 1) (.int .u64 0) (.int .i64 x) (.string ⟨#[]⟩) (.int .i64 0) (.int .i64 0) := set_blk q2 2 _
    have r3 := RdAt.far (b := w.heap.size + 1) (o := 2) (v := .string ⟨#[]⟩) r2 (by omega)
    have o3 := o2.fresh (w.heap.size + 1) 2 (.string ⟨#[]⟩) (by omega)
    have q4 : five (((((w5.setCell ⟨w.heap.size + 1 + 1, 4, none⟩ (.int .i64 (endF s y z : Nat))).setCell ⟨w.heap.size + 1, 0, none⟩ (.int .u64 0)).setCell ⟨w.heap.size + 1, 1, none⟩ (.int .i64 x)).setCell ⟨w.heap.size + 1, 2, none⟩ (.string ⟨#[]⟩)).setCell ⟨w.heap.size + 1, 3, none⟩ (.int .i64 y)) (w.heap.size + 1) (.int .u64 0) (.int .i64 x) (.string ⟨#[]⟩) (.int .i64 y) (.int .i64 0) := set_blk q3 3 _
    have r4 := RdAt.far (b := w.heap.size + 1) (o := 3) (v := .int .i64 y) r3 (by omega)
    have o4 := o3.fresh (w.heap.size + 1) 3 (.int .i64 y) (by omega)
    have q5 : five ((((((w5.setCell ⟨w.heap.size + 1 + 1, 4, none⟩ (.int .i64 (endF s y z : Nat))).setCell ⟨w.heap.size + 1, 0, none⟩ (.int .u64 0)).setCell ⟨w.heap.size + 1, 1, none⟩ (.int .i64 x)).setCell ⟨w.heap.size + 1, 2, none⟩ (.string ⟨#[]⟩)).setCell ⟨w.heap.size + 1, 3, none⟩ (.int .i64 y)).setCell ⟨w.heap.size + 1, 4, none⟩ (.int .i64 (endF s y z : Nat))) (w.heap.size + 1) (.int .u64 0) (.int .i64 x) (.string ⟨#[]⟩) (.int .i64 y) (.int .i64 (endF s y z : Nat)) := set_blk q4 4 _
    have r5 := RdAt.far (b := w.heap.size + 1) (o := 4) (v := .int .i64 (endF s y z : Nat)) r4 (by omega)
    have o5 := o4.fresh (w.heap.size + 1) 4 (.int .i64 (endF s y z : Nat)) (by omega)
    obtain ⟨z0, z1, z2, z3, z4, _⟩ := q5.cells
    have R6 := Lib.hid r5
    have O6 := Lib.hid o5
    clear q0 q1 q2 q3 q4 q5 r0 r1 r2 r3 r4 r5 o0 o1 o2 o3 o4 o5 d0 d1 d2 d3 d4 df4 e0 e1 e2 e3 e4 ef0 ef1 ef2 ef3 ef4 Q5 R5 O5
    exact bodyPost_ret (v := gotVal ⟨0, x, ⟨#[]⟩, y, (endF s y z)⟩) (by simp [results, Try.results21, go_sem, gotVal, z0, z1, z2, z3, z4]) rfl ⟨rfl, R6.out, O6.out⟩
  by_cases h4 : k = 4
  · subst h4
    have e0 : oGot s a er 4 n = ⟨0, 0, tk er (xE s a n) (xS s a n) ⟨#[]⟩, mvA a er (xT s a n) (xE s a n), endF s (mvA a er (xT s a n) (xE s a n)) (mvE er (xE s a n))⟩ := rfl
    have e1 : oA s a er 4 n = mvA a er (xT s a n) (xE s a n) := rfl
    have e2 : oR s a er 4 n = mvE er (xE s a n) := rfl
    rw [e0, e1, e2]
    have CB := Lib.hid (fun W h => rtext_any r s a er n W h hs ha hn)
    clear e0 e1 e2 h0 h2 h3
    generalize tk er (xE s a n) (xS s a n) ⟨#[]⟩ = x at CB ⊢
    generalize mvA a er (xT s a n) (xE s a n) = y at CB ⊢
    generalize mvE er (xE s a n) = z at CB ⊢
    go_enter Try.func21, Try.ntmps21
    go_wp2_with fail
    obtain ⟨v1, v2, v3, v4, v5⟩ := do_pre w r s a er (4) n H.out
    generalize (((w.alloc (.cells #[.int .i64 4, .int .i64 n] 45)).alloc (.cells #[.int .u64 0, .int .i64 0, .string ⟨#[]⟩, .int .i64 0, .int .i64 0] 42)).alloc (.cells #[.int .u64 0, .int .i64 0, .string ⟨#[]⟩, .int .i64 0, .int .i64 0] 42)) = V at v1 v2 v3 v4 v5 ⊢
    refine (CB.out _ v1).mono ?_
    rintro e w2 ⟨rfl, hR, hO⟩
    have g2 : five w2 (w.heap.size + 1 + 1) (.int .u64 0) (.int .i64 0) (.string ⟨#[]⟩) (.int .i64 0) (.int .i64 0) := (hO.block _ (by omega) (by omega)).trans v2
    have q2 : five w2 (w.heap.size + 1) (.int .u64 0) (.int .i64 0) (.string ⟨#[]⟩) (.int .i64 0) (.int .i64 0) := (hO.block _ (by omega) (by omega)).trans v3
    have hO2 : Only r w w2 := (Below.only v4).trans hO
    obtain ⟨g0, g1, g2', g3, g4, gf⟩ := g2.cells
    have gf2 := gf 2
    have R3 := Lib.hid (RdAt.far (b := w.heap.size + 1 + 1) (o := 2) (v := .string x) hR (by omega))
    have G3 := Lib.hid (show five (w2.setCell ⟨w.heap.size + 1 + 1, 2, none⟩ (.string x)) (w.heap.size + 1 + 1) (.int .u64 0) (.int .i64 0) (.string x) (.int .i64 0) (.int .i64 0) from set_blk g2 2 _)
    have Q3 := Lib.hid (five.far (b := w.heap.size + 1 + 1) (o := 2) (v := .string x) q2 (by omega))
    have O3 := Lib.hid (hO2.fresh (w.heap.size + 1 + 1) 2 (.string x) (by omega))
    clear v1 v2 v3 v4 v5 g2 q2 hO hR hO2 gf
    go_wp2_with fail
    generalize w2.setCell ⟨w.heap.size + 1 + 1, 2, none⟩ (.string x) = W3 at R3 G3 Q3 O3 ⊢
    refine (rat_any r s y z _ R3.out).mono ?_
    rintro e w4 ⟨rfl, rfl⟩
    obtain ⟨b0, b1, b2, b3, b4, bf⟩ := G3.out.cells
    have bf3 := bf 3
    have R4 := Lib.hid (RdAt.far (b := w.heap.size + 1 + 1) (o := 3) (v := .int .i64 y) R3.out (by omega))
    have G4 := Lib.hid (show five (W3.setCell ⟨w.heap.size + 1 + 1, 3, none⟩ (.int .i64 y)) (w.heap.size + 1 + 1) (.int .u64 0) (.int .i64 0) (.string x) (.int .i64 y) (.int .i64 0) from set_blk G3.out 3 _)
    have Q4 := Lib.hid (five.far (b := w.heap.size + 1 + 1) (o := 3) (v := .int .i64 y) Q3.out (by omega))
    have O4 := Lib.hid (O3.out.fresh (w.heap.size + 1 + 1) 3 (.int .i64 y) (by omega))
    clear R3 G3 Q3 O3 bf g0 g1 g2' g3 g4 gf2
    go_wp2_with fail
    generalize W3.setCell ⟨w.heap.size + 1 + 1, 3, none⟩ (.int .i64 y) = W4 at R4 G4 Q4 O4 ⊢
    refine (rend_any r s y z _ R4.out).mono ?_
    rintro e w5 ⟨rfl, hb5⟩
    have hz4 : w.heap.size + 1 + 1 < W4.heap.size := (Array.getElem?_eq_some_iff.1 G4.out).1
    have G5 : five w5 (w.heap.size + 1 + 1) (.int .u64 0) (.int .i64 0) (.string x) (.int .i64 y) (.int .i64 0) := (hb5.block _ hz4).trans G4.out
    have Q5 : five w5 (w.heap.size + 1) (.int .u64 0) (.int .i64 0) (.string ⟨#[]⟩) (.int .i64 0) (.int .i64 0) := (hb5.block _ (by omega)).trans Q4.out
    have R5 := Lib.hid (R4.out.later hb5)
    have O5 := Lib.hid (O4.out.trans (Below.only hb5))
    obtain ⟨d0, d1, d2, d3, d4, df⟩ := G5.cells
    have df4 := df 4
    obtain ⟨e0, e1, e2, e3, e4, ef⟩ := Q5.cells
    have ef0 := ef 0
    have ef1 := ef 1
    have ef2 := ef 2
    have ef3 := ef 3
    have ef4 := ef 4
    clear G4 Q4 O4 R4 hb5 G5 df ef b0 b1 b2 b3 b4 bf3 hz4
    go_wp2_with fail
    have q0 := five.far (b := w.heap.size + 1 + 1) (o := 4) (v := .int .i64 (endF s y z : Nat)) Q5 (by omega)
    have r0 := RdAt.far (b := w.heap.size + 1 + 1) (o := 4) (v := .int .i64 (endF s y z : Nat)) R5.out (by omega)
    have o0 := O5.out.fresh (w.heap.size + 1 + 1) 4 (.int .i64 (endF s y z : Nat)) (by omega)
    have q1 : five ((w5.setCell ⟨w.heap.size + 1 + 1, 4, none⟩ (.int .i64 (endF s y z : Nat))).setCell ⟨w.heap.size + 1, 0, none⟩ (.int .u64 0)) (w.heap.size + 1) (.int .u64 0) (.int .i64 0) (.string ⟨#[]⟩) (.int .i64 0) (.int .i64 0) := set_blk q0 0 _
    have r1 := RdAt.far (b := w.heap.size + 1) (o := 0) (v := .int .u64 0) r0 (by omega)
    have o1 := o0.fresh (w.heap.size + 1) 0 (.int .u64 0) (by omega)
    have q2 : five (((w5.setCell ⟨w.heap.size + 1 + 1, 4, none⟩ (.int .i64 (endF s y z : Nat))).setCell ⟨w.heap.size + 1, 0, none⟩ (.int .u64 0)).setCell ⟨w.heap.size + 1, 1, none⟩ (.int .i64 0)) (w.heap.size + 1) (.int .u64 0) (.int .i64 0) (.string ⟨#[]⟩) (.int .i64 0) (.int .i64 0) := set_blk q1 1 _
    have r2 := RdAt.far (b := w.heap.size + 1) (o := 1) (v := .int .i64 0) r1 (by omega)
    have o2 := o1.fresh (w.heap.size + 1) 1 (.int .i64 0) (by omega)
    have q3 : five ((((w5.setCell ⟨w.heap.size + 1 + 1, 4, none⟩ (.int .i64 (endF s y z : Nat))).setCell ⟨w.heap.size + 1, 0, none⟩ (.int .u64 0)).setCell ⟨w.heap.size + 1, 1, none⟩ (.int .i64 0)).setCell ⟨w.heap.size + 1, 2, none⟩ (.string x)) (w.heap.size + 1) (.int .u64 0) (.int .i64 0) (.string x) (.int .i64 0) (.int .i64 0) := set_blk q2 2 _
    have r3 := RdAt.far (b := w.heap.size + 1) (o := 2) (v := .string x) r2 (by omega)
    have o3 := o2.fresh (w.heap.size + 1) 2 (.string x) (by omega)
    have q4 : five (((((w5.setCell ⟨w.heap.size + 1 + 1, 4, none⟩ (.int .i64 (endF s y z : Nat))).setCell ⟨w.heap.size + 1, 0, none⟩ (.int .u64 0)).setCell ⟨w.heap.size + 1, 1, none⟩ (.int .i64 0)).setCell ⟨w.heap.size + 1, 2, none⟩ (.string x)).setCell ⟨w.heap.size + 1, 3, none⟩ (.int .i64 y)) (w.heap.size + 1) (.int .u64 0) (.int .i64 0) (.string x) (.int .i64 y) (.int .i64 0) := set_blk q3 3 _
    have r4 := RdAt.far (b := w.heap.size + 1) (o := 3) (v := .int .i64 y) r3 (by omega)
    have o4 := o3.fresh (w.heap.size + 1) 3 (.int .i64 y) (by omega)
    have q5 : five ((((((w5.setCell ⟨w.heap.size + 1 + 1, 4, none⟩ (.int .i64 (endF s y z : Nat))).setCell ⟨w.heap.size + 1, 0, none⟩ (.int .u64 0)).setCell ⟨w.heap.size + 1, 1, none⟩ (.int .i64 0)).setCell ⟨w.heap.size + 1, 2, none⟩ (.string x)).setCell ⟨w.heap.size + 1, 3, none⟩ (.int .i64 y)).setCell ⟨w.heap.size + 1, 4, none⟩ (.int .i64 (endF s y z : Nat))) (w.heap.size + 1) (.int .u64 0) (.int .i64 0) (.string x) (.int .i64 y) (.int .i64 (endF s y z : Nat)) := set_blk q4 4 _
    have r5 := RdAt.far (b := w.heap.size + 1) (o := 4) (v := .int .i64 (endF s y z : Nat)) r4 (by omega)
    have o5 := o4.fresh (w.heap.size + 1) 4 (.int .i64 (endF s y z : Nat)) (by omega)
    obtain ⟨z0, z1, z2, z3, z4, _⟩ := q5.cells
    have R6 := Lib.hid r5
    have O6 := Lib.hid o5
    clear q0 q1 q2 q3 q4 q5 r0 r1 r2 r3 r4 r5 o0 o1 o2 o3 o4 o5 d0 d1 d2 d3 d4 df4 e0 e1 e2 e3 e4 ef0 ef1 ef2 ef3 ef4 Q5 R5 O5
    exact bodyPost_ret (v := gotVal ⟨0, 0, x, y, (endF s y z)⟩) (by simp [results, Try.results21, go_sem, gotVal, z0, z1, z2, z3, z4]) rfl ⟨rfl, R6.out, O6.out⟩
  by_cases h5 : k = 5
  · subst h5
    have e0 : oGot s a er 5 n = ⟨0, 0, tk er (wE s a n) (wS s a n) ⟨#[]⟩, mvA a er (wT s a n) (wE s a n), endF s (mvA a er (wT s a n) (wE s a n)) (mvE er (wE s a n))⟩ := rfl
    have e1 : oA s a er 5 n = mvA a er (wT s a n) (wE s a n) := rfl
    have e2 : oR s a er 5 n = mvE er (wE s a n) := rfl
    rw [e0, e1, e2]
    have CB := Lib.hid (fun W h => rraw_any r s a er n W h hs ha hn.2)
    clear e0 e1 e2 h0 h2 h3 h4
    generalize tk er (wE s a n) (wS s a n) ⟨#[]⟩ = x at CB ⊢
    generalize mvA a er (wT s a n) (wE s a n) = y at CB ⊢
    generalize mvE er (wE s a n) = z at CB ⊢
    go_enter Try.func21, Try.ntmps21
    go_wp2_with fail
    obtain ⟨v1, v2, v3, v4, v5⟩ := do_pre w r s a er (5) n H.out
    generalize (((w.alloc (.cells #[.int .i64 5, .int .i64 n] 45)).alloc (.cells #[.int .u64 0, .int .i64 0, .string ⟨#[]⟩, .int .i64 0, .int .i64 0] 42)).alloc (.cells #[.int .u64 0, .int .i64 0, .string ⟨#[]⟩, .int .i64 0, .int .i64 0] 42)) = V at v1 v2 v3 v4 v5 ⊢
    refine (CB.out _ v1).mono ?_
    rintro e w2 ⟨rfl, hR, hO⟩
    have g2 : five w2 (w.heap.size + 1 + 1) (.int .u64 0) (.int .i64 0) (.string ⟨#[]⟩) (.int .i64 0) (.int .i64 0) := (hO.block _ (by omega) (by omega)).trans v2
    have q2 : five w2 (w.heap.size + 1) (.int .u64 0) (.int .i64 0) (.string ⟨#[]⟩) (.int .i64 0) (.int .i64 0) := (hO.block _ (by omega) (by omega)).trans v3
    have hO2 : Only r w w2 := (Below.only v4).trans hO
    obtain ⟨g0, g1, g2', g3, g4, gf⟩ := g2.cells
    have gf2 := gf 2
    have R3 := Lib.hid (RdAt.far (b := w.heap.size + 1 + 1) (o := 2) (v := .string x) hR (by omega))
    have G3 := Lib.hid (show five (w2.setCell ⟨w.heap.size + 1 + 1, 2, none⟩ (.string x)) (w.heap.size + 1 + 1) (.int .u64 0) (.int .i64 0) (.string x) (.int .i64 0) (.int .i64 0) from set_blk g2 2 _)
    have Q3 := Lib.hid (five.far (b := w.heap.size + 1 + 1) (o := 2) (v := .string x) q2 (by omega))
    have O3 := Lib.hid (hO2.fresh (w.heap.size + 1 + 1) 2 (.string x) (by omega))
    clear v1 v2 v3 v4 v5 g2 q2 hO hR hO2 gf
    go_wp2_with fail
    generalize w2.setCell ⟨w.heap.size + 1 + 1, 2, none⟩ (.string x) = W3 at R3 G3 Q3 O3 ⊢
    refine (rat_any r s y z _ R3.out).mono ?_
    rintro e w4 ⟨rfl, rfl⟩
    obtain ⟨b0, b1, b2, b3, b4, bf⟩ := G3.out.cells
    have bf3 := bf 3
    have R4 := Lib.hid (RdAt.far (b := w.heap.size + 1 + 1) (o := 3) (v := .int .i64 y) R3.out (by omega))
    have G4 := Lib.hid (show five (W3.setCell ⟨w.heap.size + 1 + 1, 3, none⟩ (.int .i64 y)) (w.heap.size + 1 + 1) (.int .u64 0) (.int .i64 0) (.string x) (.int .i64 y) (.int .i64 0) from set_blk G3.out 3 _)
    have Q4 := Lib.hid (five.far (b := w.heap.size + 1 + 1) (o := 3) (v := .int .i64 y) Q3.out (by omega))
    have O4 := Lib.hid (O3.out.fresh (w.heap.size + 1 + 1) 3 (.int .i64 y) (by omega))
    clear R3 G3 Q3 O3 bf g0 g1 g2' g3 g4 gf2
    go_wp2_with fail
    generalize W3.setCell ⟨w.heap.size + 1 + 1, 3, none⟩ (.int .i64 y) = W4 at R4 G4 Q4 O4 ⊢
    refine (rend_any r s y z _ R4.out).mono ?_
    rintro e w5 ⟨rfl, hb5⟩
    have hz4 : w.heap.size + 1 + 1 < W4.heap.size := (Array.getElem?_eq_some_iff.1 G4.out).1
    have G5 : five w5 (w.heap.size + 1 + 1) (.int .u64 0) (.int .i64 0) (.string x) (.int .i64 y) (.int .i64 0) := (hb5.block _ hz4).trans G4.out
    have Q5 : five w5 (w.heap.size + 1) (.int .u64 0) (.int .i64 0) (.string ⟨#[]⟩) (.int .i64 0) (.int .i64 0) := (hb5.block _ (by omega)).trans Q4.out
    have R5 := Lib.hid (R4.out.later hb5)
    have O5 := Lib.hid (O4.out.trans (Below.only hb5))
    obtain ⟨d0, d1, d2, d3, d4, df⟩ := G5.cells
    have df4 := df 4
    obtain ⟨e0, e1, e2, e3, e4, ef⟩ := Q5.cells
    have ef0 := ef 0
    have ef1 := ef 1
    have ef2 := ef 2
    have ef3 := ef 3
    have ef4 := ef 4
    clear G4 Q4 O4 R4 hb5 G5 df ef b0 b1 b2 b3 b4 bf3 hz4
    go_wp2_with fail
    have q0 := five.far (b := w.heap.size + 1 + 1) (o := 4) (v := .int .i64 (endF s y z : Nat)) Q5 (by omega)
    have r0 := RdAt.far (b := w.heap.size + 1 + 1) (o := 4) (v := .int .i64 (endF s y z : Nat)) R5.out (by omega)
    have o0 := O5.out.fresh (w.heap.size + 1 + 1) 4 (.int .i64 (endF s y z : Nat)) (by omega)
    have q1 : five ((w5.setCell ⟨w.heap.size + 1 + 1, 4, none⟩ (.int .i64 (endF s y z : Nat))).setCell ⟨w.heap.size + 1, 0, none⟩ (.int .u64 0)) (w.heap.size + 1) (.int .u64 0) (.int .i64 0) (.string ⟨#[]⟩) (.int .i64 0) (.int .i64 0) := set_blk q0 0 _
    have r1 := RdAt.far (b := w.heap.size + 1) (o := 0) (v := .int .u64 0) r0 (by omega)
    have o1 := o0.fresh (w.heap.size + 1) 0 (.int .u64 0) (by omega)
    have q2 : five (((w5.setCell ⟨w.heap.size + 1 + 1, 4, none⟩ (.int .i64 (endF s y z : Nat))).setCell ⟨w.heap.size + 1, 0, none⟩ (.int .u64 0)).setCell ⟨w.heap.size + 1, 1, none⟩ (.int .i64 0)) (w.heap.size + 1) (.int .u64 0) (.int .i64 0) (.string ⟨#[]⟩) (.int .i64 0) (.int .i64 0) := set_blk q1 1 _
    have r2 := RdAt.far (b := w.heap.size + 1) (o := 1) (v := .int .i64 0) r1 (by omega)
    have o2 := o1.fresh (w.heap.size + 1) 1 (.int .i64 0) (by omega)
    have q3 : five ((((w5.setCell ⟨w.heap.size + 1 + 1, 4, none⟩ (.int .i64 (endF s y z : Nat))).setCell ⟨w.heap.size + 1, 0, none⟩ (.int .u64 0)).setCell ⟨w.heap.size + 1, 1, none⟩ (.int .i64 0)).setCell ⟨w.heap.size + 1, 2, none⟩ (.string x)) (w.heap.size + 1) (.int .u64 0) (.int .i64 0) (.string x) (.int .i64 0) (.int .i64 0) := set_blk q2 2 _
    have r3 := RdAt.far (b := w.heap.size + 1) (o := 2) (v := .string x) r2 (by omega)
    have o3 := o2.fresh (w.heap.size + 1) 2 (.string x) (by omega)
    have q4 : five (((((w5.setCell ⟨w.heap.size + 1 + 1, 4, none⟩ (.int .i64 (endF s y z : Nat))).setCell ⟨w.heap.size + 1, 0, none⟩ (.int .u64 0)).setCell ⟨w.heap.size + 1, 1, none⟩ (.int .i64 0)).setCell ⟨w.heap.size + 1, 2, none⟩ (.string x)).setCell ⟨w.heap.size + 1, 3, none⟩ (.int .i64 y)) (w.heap.size + 1) (.int .u64 0) (.int .i64 0) (.string x) (.int .i64 y) (.int .i64 0) := set_blk q3 3 _
    have r4 := RdAt.far (b := w.heap.size + 1) (o := 3) (v := .int .i64 y) r3 (by omega)
    have o4 := o3.fresh (w.heap.size + 1) 3 (.int .i64 y) (by omega)
    have q5 : five ((((((w5.setCell ⟨w.heap.size + 1 + 1, 4, none⟩ (.int .i64 (endF s y z : Nat))).setCell ⟨w.heap.size + 1, 0, none⟩ (.int .u64 0)).setCell ⟨w.heap.size + 1, 1, none⟩ (.int .i64 0)).setCell ⟨w.heap.size + 1, 2, none⟩ (.string x)).setCell ⟨w.heap.size + 1, 3, none⟩ (.int .i64 y)).setCell ⟨w.heap.size + 1, 4, none⟩ (.int .i64 (endF s y z : Nat))) (w.heap.size + 1) (.int .u64 0) (.int .i64 0) (.string x) (.int .i64 y) (.int .i64 (endF s y z : Nat)) := set_blk q4 4 _
    have r5 := RdAt.far (b := w.heap.size + 1) (o := 4) (v := .int .i64 (endF s y z : Nat)) r4 (by omega)
    have o5 := o4.fresh (w.heap.size + 1) 4 (.int .i64 (endF s y z : Nat)) (by omega)
    obtain ⟨z0, z1, z2, z3, z4, _⟩ := q5.cells
    have R6 := Lib.hid r5
    have O6 := Lib.hid o5
    clear q0 q1 q2 q3 q4 q5 r0 r1 r2 r3 r4 r5 o0 o1 o2 o3 o4 o5 d0 d1 d2 d3 d4 df4 e0 e1 e2 e3 e4 ef0 ef1 ef2 ef3 ef4 Q5 R5 O5
    exact bodyPost_ret (v := gotVal ⟨0, 0, x, y, (endF s y z)⟩) (by simp [results, Try.results21, go_sem, gotVal, z0, z1, z2, z3, z4]) rfl ⟨rfl, R6.out, O6.out⟩
  have b0 : (k == 0) = false := by simpa using h0
  have b2 : (k == 2) = false := by simpa using h2
  have b3 : (k == 3) = false := by simpa using h3
  have b4 : (k == 4) = false := by simpa using h4
  have b5 : (k == 5) = false := by simpa using h5
  have e1 : oA s a er k n = mvA a er (gT s a) (gE s a) := by unfold oA oT oE; rw [if_neg h0, if_neg h2, if_neg h3, if_neg h4, if_neg h5, if_neg h0, if_neg h2, if_neg h3, if_neg h4, if_neg h5]
  have e2 : oR s a er k n = mvE er (gE s a) := by unfold oR oE; rw [if_neg h0, if_neg h2, if_neg h3, if_neg h4, if_neg h5]
  have e0 : oGot s a er k n = ⟨tk er (gE s a) (gN s a) 0, 0, ⟨#[]⟩, mvA a er (gT s a) (gE s a), endF s (mvA a er (gT s a) (gE s a)) (mvE er (gE s a))⟩ := by
    unfold oGot; rw [e1, e2]; unfold oNum oInt oText; rw [if_neg h0, if_neg h2, if_neg h3, if_neg h4, if_neg h5, if_neg h3, if_neg h4, if_neg h5]
  rw [e0, e1, e2]
  have CB := Lib.hid (fun W h => rnum_any r s a er W h hs ha)
  clear e0 e1 e2 h0 h2 h3 h4 h5
  generalize tk er (gE s a) (gN s a) 0 = x at CB ⊢
  generalize mvA a er (gT s a) (gE s a) = y at CB ⊢
  generalize mvE er (gE s a) = z at CB ⊢
  go_enter Try.func21, Try.ntmps21
  go_wp2_with fail
  obtain ⟨v1, v2, v3, v4, v5⟩ := do_pre w r s a er (k) n H.out
  generalize (((w.alloc (.cells #[.int .i64 k, .int .i64 n] 45)).alloc (.cells #[.int .u64 0, .int .i64 0, .string ⟨#[]⟩, .int .i64 0, .int .i64 0] 42)).alloc (.cells #[.int .u64 0, .int .i64 0, .string ⟨#[]⟩, .int .i64 0, .int .i64 0] 42)) = V at v1 v2 v3 v4 v5 ⊢
  refine (CB.out _ v1).mono ?_
  rintro e w2 ⟨rfl, hR, hO⟩
  have g2 : five w2 (w.heap.size + 1 + 1) (.int .u64 0) (.int .i64 0) (.string ⟨#[]⟩) (.int .i64 0) (.int .i64 0) := (hO.block _ (by omega) (by omega)).trans v2
  have q2 : five w2 (w.heap.size + 1) (.int .u64 0) (.int .i64 0) (.string ⟨#[]⟩) (.int .i64 0) (.int .i64 0) := (hO.block _ (by omega) (by omega)).trans v3
  have hO2 : Only r w w2 := (Below.only v4).trans hO
  obtain ⟨g0, g1, g2', g3, g4, gf⟩ := g2.cells
  have gf0 := gf 0
  have R3 := Lib.hid (RdAt.far (b := w.heap.size + 1 + 1) (o := 0) (v := .int .u64 x) hR (by omega))
  have G3 := Lib.hid (show five (w2.setCell ⟨w.heap.size + 1 + 1, 0, none⟩ (.int .u64 x)) (w.heap.size + 1 + 1) (.int .u64 x) (.int .i64 0) (.string ⟨#[]⟩) (.int .i64 0) (.int .i64 0) from set_blk g2 0 _)
  have Q3 := Lib.hid (five.far (b := w.heap.size + 1 + 1) (o := 0) (v := .int .u64 x) q2 (by omega))
  have O3 := Lib.hid (hO2.fresh (w.heap.size + 1 + 1) 0 (.int .u64 x) (by omega))
  clear v1 v2 v3 v4 v5 g2 q2 hO hR hO2 gf
  go_wp2_with fail
  generalize w2.setCell ⟨w.heap.size + 1 + 1, 0, none⟩ (.int .u64 x) = W3 at R3 G3 Q3 O3 ⊢
  refine (rat_any r s y z _ R3.out).mono ?_
  rintro e w4 ⟨rfl, rfl⟩
  obtain ⟨b0, b1, b2, b3, b4, bf⟩ := G3.out.cells
  have bf3 := bf 3
  have R4 := Lib.hid (RdAt.far (b := w.heap.size + 1 + 1) (o := 3) (v := .int .i64 y) R3.out (by omega))
  have G4 := Lib.hid (show five (W3.setCell ⟨w.heap.size + 1 + 1, 3, none⟩ (.int .i64 y)) (w.heap.size + 1 + 1) (.int .u64 x) (.int .i64 0) (.string ⟨#[]⟩) (.int .i64 y) (.int .i64 0) from set_blk G3.out 3 _)
  have Q4 := Lib.hid (five.far (b := w.heap.size + 1 + 1) (o := 3) (v := .int .i64 y) Q3.out (by omega))
  have O4 := Lib.hid (O3.out.fresh (w.heap.size + 1 + 1) 3 (.int .i64 y) (by omega))
  clear R3 G3 Q3 O3 bf g0 g1 g2' g3 g4 gf0
  go_wp2_with fail
  generalize W3.setCell ⟨w.heap.size + 1 + 1, 3, none⟩ (.int .i64 y) = W4 at R4 G4 Q4 O4 ⊢
  refine (rend_any r s y z _ R4.out).mono ?_
  rintro e w5 ⟨rfl, hb5⟩
  have hz4 : w.heap.size + 1 + 1 < W4.heap.size := (Array.getElem?_eq_some_iff.1 G4.out).1
  have G5 : five w5 (w.heap.size + 1 + 1) (.int .u64 x) (.int .i64 0) (.string ⟨#[]⟩) (.int .i64 y) (.int .i64 0) := (hb5.block _ hz4).trans G4.out
  have Q5 : five w5 (w.heap.size + 1) (.int .u64 0) (.int .i64 0) (.string ⟨#[]⟩) (.int .i64 0) (.int .i64 0) := (hb5.block _ (by omega)).trans Q4.out
  have R5 := Lib.hid (R4.out.later hb5)
  have O5 := Lib.hid (O4.out.trans (Below.only hb5))
  obtain ⟨d0, d1, d2, d3, d4, df⟩ := G5.cells
  have df4 := df 4
  obtain ⟨e0, e1, e2, e3, e4, ef⟩ := Q5.cells
  have ef0 := ef 0
  have ef1 := ef 1
  have ef2 := ef 2
  have ef3 := ef 3
  have ef4 := ef 4
  clear G4 Q4 O4 R4 hb5 G5 df ef b0 b1 b2 b3 b4 bf3 hz4
  go_wp2_with fail
  have q0 := five.far (b := w.heap.size + 1 + 1) (o := 4) (v := .int .i64 (endF s y z : Nat)) Q5 (by omega)
  have r0 := RdAt.far (b := w.heap.size + 1 + 1) (o := 4) (v := .int .i64 (endF s y z : Nat)) R5.out (by omega)
  have o0 := O5.out.fresh (w.heap.size + 1 + 1) 4 (.int .i64 (endF s y z : Nat)) (by omega)
  have q1 : five ((w5.setCell ⟨w.heap.size + 1 + 1, 4, none⟩ (.int .i64 (endF s y z : Nat))).setCell ⟨w.heap.size + 1, 0, none⟩ (.int .u64 x)) (w.heap.size + 1) (.int .u64 x) (.int .i64 0) (.string ⟨#[]⟩) (.int .i64 0) (.int .i64 0) := set_blk q0 0 _
  have r1 := RdAt.far (b := w.heap.size + 1) (o := 0) (v := .int .u64 x) r0 (by omega)
  have o1 := o0.fresh (w.heap.size + 1) 0 (.int .u64 x) (by omega)
  have q2 : five (((w5.setCell ⟨w.heap.size + 1 + 1, 4, none⟩ (.int .i64 (endF s y z : Nat))).setCell ⟨w.heap.size + 1, 0, none⟩ (.int .u64 x)).setCell ⟨w.heap.size + 1, 1, none⟩ (.int .i64 0)) (w.heap.size + 1) (.int .u64 x) (.int .i64 0) (.string ⟨#[]⟩) (.int .i64 0) (.int .i64 0) := set_blk q1 1 _
  have r2 := RdAt.far (b := w.heap.size + 1) (o := 1) (v := .int .i64 0) r1 (by omega)
  have o2 := o1.fresh (w.heap.size + 1) 1 (.int .i64 0) (by omega)
  have q3 : five ((((w5.setCell ⟨w.heap.size + 1 + 1, 4, none⟩ (.int .i64 (endF s y z : Nat))).setCell ⟨w.heap.size + 1, 0, none⟩ (.int .u64 x)).setCell ⟨w.heap.size + 1, 1, none⟩ (.int .i64 0)).setCell ⟨w.heap.size + 1, 2, none⟩ (.string ⟨#[]⟩)) (w.heap.size + 1) (.int .u64 x) (.int .i64 0) (.string ⟨#[]⟩) (.int .i64 0) (.int .i64 0) := set_blk q2 2 _
  have r3 := RdAt.far (b := w.heap.size + 1) (o := 2) (v := .string ⟨#[]⟩) r2 (by omega)
  have o3 := o2.fresh (w.heap.size + 1) 2 (.string ⟨#[]⟩) (by omega)
  have q4 : five (((((w5.setCell ⟨w.heap.size + 1 + 1, 4, none⟩ (.int .i64 (endF s y z : Nat))).setCell ⟨w.heap.size + 1, 0, none⟩ (.int .u64 x)).setCell ⟨w.heap.size + 1, 1, none⟩ (.int .i64 0)).setCell ⟨w.heap.size + 1, 2, none⟩ (.string ⟨#[]⟩)).setCell ⟨w.heap.size + 1, 3, none⟩ (.int .i64 y)) (w.heap.size + 1) (.int .u64 x) (.int .i64 0) (.string ⟨#[]⟩) (.int .i64 y) (.int .i64 0) := set_blk q3 3 _
  have r4 := RdAt.far (b := w.heap.size + 1) (o := 3) (v := .int .i64 y) r3 (by omega)
  have o4 := o3.fresh (w.heap.size + 1) 3 (.int .i64 y) (by omega)
  have q5 : five ((((((w5.setCell ⟨w.heap.size + 1 + 1, 4, none⟩ (.int .i64 (endF s y z : Nat))).setCell ⟨w.heap.size + 1, 0, none⟩ (.int .u64 x)).setCell ⟨w.heap.size + 1, 1, none⟩ (.int .i64 0)).setCell ⟨w.heap.size + 1, 2, none⟩ (.string ⟨#[]⟩)).setCell ⟨w.heap.size + 1, 3, none⟩ (.int .i64 y)).setCell ⟨w.heap.size + 1, 4, none⟩ (.int .i64 (endF s y z : Nat))) (w.heap.size + 1) (.int .u64 x) (.int .i64 0) (.string ⟨#[]⟩) (.int .i64 y) (.int .i64 (endF s y z : Nat)) := set_blk q4 4 _
  have r5 := RdAt.far (b := w.heap.size + 1) (o := 4) (v := .int .i64 (endF s y z : Nat)) r4 (by omega)
  have o5 := o4.fresh (w.heap.size + 1) 4 (.int .i64 (endF s y z : Nat)) (by omega)
  obtain ⟨z0, z1, z2, z3, z4, _⟩ := q5.cells
  have R6 := Lib.hid r5
  have O6 := Lib.hid o5
  clear q0 q1 q2 q3 q4 q5 r0 r1 r2 r3 r4 r5 o0 o1 o2 o3 o4 o5 d0 d1 d2 d3 d4 df4 e0 e1 e2 e3 e4 ef0 ef1 ef2 ef3 ef4 Q5 R5 O5
  exact bodyPost_ret (v := gotVal ⟨x, 0, ⟨#[]⟩, y, (endF s y z)⟩) (by simp [results, Try.results21, go_sem, gotVal, z0, z1, z2, z3, z4]) rfl ⟨rfl, R6.out, O6.out⟩
end Go.Proofs.Ytpnljefgenniaaa

