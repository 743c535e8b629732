/- The document's Do of layer 5: one thing is read. No conditions. -/
import Derived.Test.YtpnljefgenniaaaWireRef
import Derived.Test.YtpnljefgenniaaaLebRefGet
namespace Go.Proofs.Ytpnljefgenniaaa
set_option linter.unusedVariables false
open Go Go.RowKit

def twoO (w : World) (g : Nat) (k n : Int) : Prop := w.heap[g]? = some (.cells #[.int .i64 k, .int .i64 n] 45 (0, 0))
theorem twoO.cells {w : World} {g : Nat} {k n : Int} (h : twoO w g k n) : w.cell? ⟨g, 0, none⟩ = some (.int .i64 k) ∧ w.cell? ⟨g, 1, none⟩ = some (.int .i64 n) := by
  unfold twoO at h
  refine ⟨?_, ?_⟩ <;> (unfold World.cell?; rw [h]; rfl)
theorem twoO.later {w w' : World} {g : Nat} {k n : Int} (h : twoO w g k n) (hb : Below w.heap.size w w') : twoO w' g k n := (hb.block g (Array.getElem?_eq_some_iff.1 h).1).trans h
theorem rgot_g (s : ByteArray) (a : Nat) (w : World) (hs : s.size ≤ maxLen) (ha : a ≤ s.size) : Calls Try.prog 75 #[.string s, .int .i64 a] w fun e w' => e = .returned (.tuple #[.int .u64 (gN s a : Nat), .int .i64 (gT s a : Nat), .int .i64 (gE s a : Nat)]) ∧ Below w.heap.size w w' := by
  refine (rget_any s a w hs).mono fun e w' ⟨h1, h2⟩ => ⟨h1.trans ?_, h2⟩
  rw [(leb_g s a ha).1]; rfl
set_option maxRecDepth 100000 in
set_option maxHeartbeats 4000000 in
theorem do_erred (s : ByteArray) (a er : Nat) (k n : Int) (w : World) (he : er ≠ 0) :
    Calls Try.prog 45 #[rdV s a er, .agg #[.int .i64 k, .int .i64 n]] w fun e w' => e = .returned (.tuple #[.agg #[.string s, .int .i64 a, .int .i64 er], .agg #[.int .u64 0, .int .i64 0, .string ⟨#[]⟩, .int .i64 0, .int .i64 0]]) ∧ Below w.heap.size w w' := by
  have hd : ((er : Int) == 0) = false := by simp; omega
  obtain ⟨h0, h9, h1, h2, hb⟩ := alloc4w w (.cells #[.string s, .int .i64 a, .int .i64 er] 78) (.cells #[.int .i64 k, .int .i64 n] 45) (.cells #[.string s, .int .i64 a, .int .i64 er] 78) (.cells #[.int .u64 0, .int .i64 0, .string ⟨#[]⟩, .int .i64 0, .int .i64 0] 42)
  have HB := Lib.hid hb
  have H1 := Lib.hid h1
  have H2 := Lib.hid h2
  clear h0 h9 h1 h2 hb he
  unfold rdV
  go_enter Try.func45, Try.ntmps45
  go_wp2_with fail
  generalize (((w.alloc (.cells #[.string s, .int .i64 a, .int .i64 er] 78)).alloc (.cells #[.int .i64 k, .int .i64 n] 45)).alloc (.cells #[.string s, .int .i64 a, .int .i64 er] 78)).alloc (.cells #[.int .u64 0, .int .i64 0, .string ⟨#[]⟩, .int .i64 0, .int .i64 0] 42) = W at HB H1 H2 ⊢
  obtain ⟨y0, y1, y2, yf⟩ := three.cells H1.out
  obtain ⟨z0, z1, z2, z3, z4, zf⟩ := five.cells H2.out
  exact bodyPost_ret (v := .tuple #[.agg #[.string s, .int .i64 a, .int .i64 er], .agg #[.int .u64 0, .int .i64 0, .string ⟨#[]⟩, .int .i64 0, .int .i64 0]]) (by simp [results, Try.results45, go_sem, y0, y1, y2, z0, z1, z2, z3, z4]) rfl ⟨rfl, HB.out⟩
set_option maxRecDepth 100000 in
set_option maxHeartbeats 4000000 in
theorem do_byte_end (s : ByteArray) (a : Nat) (n : Int) (w : World) (h : s.size ≤ a) :
    Calls Try.prog 45 #[rdV s a 0, .agg #[.int .i64 0, .int .i64 n]] w fun e w' => e = .returned (.tuple #[.agg #[.string s, .int .i64 a, .int .i64 2], .agg #[.int .u64 0, .int .i64 0, .string ⟨#[]⟩, .int .i64 0, .int .i64 0]]) ∧ Below w.heap.size w w' := by
  have CW := Lib.hid (fun W => dwrong_any s a 0 2 W)
  unfold rdV gtV at CW
  have hd : decide ((s.size : Int) ≤ a) = true := by simp; omega
  have hd2 : decide (s.size ≤ a) = true := by simp; omega
  obtain ⟨h0, h9, h1, h2, hb⟩ := alloc4w w (.cells #[.string s, .int .i64 a, .int .i64 0] 78) (.cells #[.int .i64 0, .int .i64 n] 45) (.cells #[.string ⟨#[]⟩, .int .i64 0, .int .i64 0] 78) (.cells #[.int .u64 0, .int .i64 0, .string ⟨#[]⟩, .int .i64 0, .int .i64 0] 42)
  have HB := Lib.hid hb
  have H0 := Lib.hid (show three _ _ _ _ _ from h0)
  have H9 := Lib.hid (show twoO _ _ _ _ from h9)
  have H1 := Lib.hid (show three _ _ _ _ _ from h1)
  have H2 := Lib.hid (show five _ _ _ _ _ _ _ from h2)
  clear h0 h9 h1 h2 hb
  unfold rdV
  clear h
  go_enter Try.func45, Try.ntmps45
  go_wp2_with fail
  generalize (((w.alloc (.cells #[.string s, .int .i64 a, .int .i64 0] 78)).alloc (.cells #[.int .i64 0, .int .i64 n] 45)).alloc (.cells #[.string ⟨#[]⟩, .int .i64 0, .int .i64 0] 78)).alloc (.cells #[.int .u64 0, .int .i64 0, .string ⟨#[]⟩, .int .i64 0, .int .i64 0] 42) = W at HB H0 H9 H1 H2 ⊢
  refine (CW.out _).mono ?_
  rintro e w2 ⟨rfl, hb2⟩
  have k1 := three.later H1.out hb2
  have k2 := five.later H2.out hb2
  obtain ⟨y0, y1, y2, yf⟩ := k1.cells
  obtain ⟨z0, z1, z2, z3, z4, zf⟩ := k2.cells
  have yf0 := yf 0
  have yf1 := yf 1
  have yf2 := yf 2
  have zf0 := zf 0
  have zf1 := zf 1
  have zf2 := zf 2
  have zf3 := zf 3
  have zf4 := zf 4
  have FIN := Lib.hid (fin8 k1 k2 (by omega) (HB.out.trans (hb2.mono HB.out.size)) (by omega) (by omega) (.string s) (.int .i64 a) (.int .i64 2) (.int .u64 0) (.int .i64 0) (.string ⟨#[]⟩) (.int .i64 0) (.int .i64 0))
  clear k1 k2 hb2 yf zf
  go_wp2_with fail
  generalize ((((((((w2).setCell ⟨w.heap.size + 1 + 1, 0, none⟩ (.string s)).setCell ⟨w.heap.size + 1 + 1, 1, none⟩ (.int .i64 a)).setCell ⟨w.heap.size + 1 + 1, 2, none⟩ (.int .i64 2)).setCell ⟨w.heap.size + 1 + 1 + 1, 0, none⟩ (.int .u64 0)).setCell ⟨w.heap.size + 1 + 1 + 1, 1, none⟩ (.int .i64 0)).setCell ⟨w.heap.size + 1 + 1 + 1, 2, none⟩ (.string ⟨#[]⟩)).setCell ⟨w.heap.size + 1 + 1 + 1, 3, none⟩ (.int .i64 0)).setCell ⟨w.heap.size + 1 + 1 + 1, 4, none⟩ (.int .i64 0) = W8 at FIN ⊢
  obtain ⟨j1, j2, jb⟩ := FIN.out
  obtain ⟨y0, y1, y2, yf⟩ := three.cells j1
  obtain ⟨z0, z1, z2, z3, z4, zf⟩ := five.cells j2
  exact bodyPost_ret (v := .tuple #[.agg #[.string s, .int .i64 a, .int .i64 2], .agg #[.int .u64 0, .int .i64 0, .string ⟨#[]⟩, .int .i64 0, .int .i64 0]]) (by simp [results, Try.results45, go_sem, y0, y1, y2, z0, z1, z2, z3, z4]) rfl ⟨rfl, jb⟩
set_option maxRecDepth 100000 in
set_option maxHeartbeats 4000000 in
theorem do_raw_neg (s : ByteArray) (a : Nat) (n : Int) (w : World) (h : n < 0) :
    Calls Try.prog 45 #[rdV s a 0, .agg #[.int .i64 5, .int .i64 n]] w fun e w' => e = .returned (.tuple #[.agg #[.string s, .int .i64 a, .int .i64 1], .agg #[.int .u64 0, .int .i64 0, .string ⟨#[]⟩, .int .i64 0, .int .i64 0]]) ∧ Below w.heap.size w w' := by
  have CW := Lib.hid (fun W => dwrong_any s a 0 1 W)
  unfold rdV gtV at CW
  have hd : decide (n < 0) = true := by simp; omega
  obtain ⟨h0, h9, h1, h2, hb⟩ := alloc4w w (.cells #[.string s, .int .i64 a, .int .i64 0] 78) (.cells #[.int .i64 5, .int .i64 n] 45) (.cells #[.string ⟨#[]⟩, .int .i64 0, .int .i64 0] 78) (.cells #[.int .u64 0, .int .i64 0, .string ⟨#[]⟩, .int .i64 0, .int .i64 0] 42)
  have HB := Lib.hid hb
  have H0 := Lib.hid (show three _ _ _ _ _ from h0)
  have H9 := Lib.hid (show twoO _ _ _ _ from h9)
  have H1 := Lib.hid (show three _ _ _ _ _ from h1)
  have H2 := Lib.hid (show five _ _ _ _ _ _ _ from h2)
  clear h0 h9 h1 h2 hb
  unfold rdV
  clear h
  go_enter Try.func45, Try.ntmps45
  go_wp2_with fail
  generalize (((w.alloc (.cells #[.string s, .int .i64 a, .int .i64 0] 78)).alloc (.cells #[.int .i64 5, .int .i64 n] 45)).alloc (.cells #[.string ⟨#[]⟩, .int .i64 0, .int .i64 0] 78)).alloc (.cells #[.int .u64 0, .int .i64 0, .string ⟨#[]⟩, .int .i64 0, .int .i64 0] 42) = W at HB H0 H9 H1 H2 ⊢
  refine (CW.out _).mono ?_
  rintro e w2 ⟨rfl, hb2⟩
  have k1 := three.later H1.out hb2
  have k2 := five.later H2.out hb2
  obtain ⟨y0, y1, y2, yf⟩ := k1.cells
  obtain ⟨z0, z1, z2, z3, z4, zf⟩ := k2.cells
  have yf0 := yf 0
  have yf1 := yf 1
  have yf2 := yf 2
  have zf0 := zf 0
  have zf1 := zf 1
  have zf2 := zf 2
  have zf3 := zf 3
  have zf4 := zf 4
  have FIN := Lib.hid (fin8 k1 k2 (by omega) (HB.out.trans (hb2.mono HB.out.size)) (by omega) (by omega) (.string s) (.int .i64 a) (.int .i64 1) (.int .u64 0) (.int .i64 0) (.string ⟨#[]⟩) (.int .i64 0) (.int .i64 0))
  clear k1 k2 hb2 yf zf
  go_wp2_with fail
  generalize ((((((((w2).setCell ⟨w.heap.size + 1 + 1, 0, none⟩ (.string s)).setCell ⟨w.heap.size + 1 + 1, 1, none⟩ (.int .i64 a)).setCell ⟨w.heap.size + 1 + 1, 2, none⟩ (.int .i64 1)).setCell ⟨w.heap.size + 1 + 1 + 1, 0, none⟩ (.int .u64 0)).setCell ⟨w.heap.size + 1 + 1 + 1, 1, none⟩ (.int .i64 0)).setCell ⟨w.heap.size + 1 + 1 + 1, 2, none⟩ (.string ⟨#[]⟩)).setCell ⟨w.heap.size + 1 + 1 + 1, 3, none⟩ (.int .i64 0)).setCell ⟨w.heap.size + 1 + 1 + 1, 4, none⟩ (.int .i64 0) = W8 at FIN ⊢
  obtain ⟨j1, j2, jb⟩ := FIN.out
  obtain ⟨y0, y1, y2, yf⟩ := three.cells j1
  obtain ⟨z0, z1, z2, z3, z4, zf⟩ := five.cells j2
  exact bodyPost_ret (v := .tuple #[.agg #[.string s, .int .i64 a, .int .i64 1], .agg #[.int .u64 0, .int .i64 0, .string ⟨#[]⟩, .int .i64 0, .int .i64 0]]) (by simp [results, Try.results45, go_sem, y0, y1, y2, z0, z1, z2, z3, z4]) rfl ⟨rfl, jb⟩
set_option maxRecDepth 100000 in
set_option maxHeartbeats 4000000 in
theorem do_raw (s : ByteArray) (a m : Nat) (w : World) (hs : s.size ≤ maxLen) (ha : a ≤ s.size) (hm : (m : Int) ≤ 9223372036854775807) :
    Calls Try.prog 45 #[rdV s a 0, .agg #[.int .i64 5, .int .i64 m]] w fun e w' => e = .returned (.tuple #[.agg #[.string s, .int .i64 (if a + m ≤ s.size then a + m else a : Nat), .int .i64 (if a + m ≤ s.size then 0 else 2 : Nat)], .agg #[.int .u64 0, .int .i64 0, .string (pS s a m), .int .i64 0, .int .i64 0]]) ∧ Below w.heap.size w w' := by
  have CW := Lib.hid (fun W => dtext_any s a 0 a m W hs ha (by unfold U64; omega))
  unfold rdV gtV at CW
  generalize (if a + m ≤ s.size then a + m else a) = A at CW ⊢
  generalize (if a + m ≤ s.size then 0 else 2) = B at CW ⊢
  generalize pS s a m = X at CW ⊢
  have hw : IntKind.u64.wrap (m : Int) = (m : Int) := by rw [IntKind.wrap_u64]; omega
  have hd : decide ((m : Int) < 0) = false := by simp
  obtain ⟨h0, h9, h1, h2, hb⟩ := alloc4w w (.cells #[.string s, .int .i64 a, .int .i64 0] 78) (.cells #[.int .i64 5, .int .i64 m] 45) (.cells #[.string ⟨#[]⟩, .int .i64 0, .int .i64 0] 78) (.cells #[.int .u64 0, .int .i64 0, .string ⟨#[]⟩, .int .i64 0, .int .i64 0] 42)
  have HB := Lib.hid hb
  have H0 := Lib.hid (show three _ _ _ _ _ from h0)
  have H9 := Lib.hid (show twoO _ _ _ _ from h9)
  have H1 := Lib.hid (show three _ _ _ _ _ from h1)
  have H2 := Lib.hid (show five _ _ _ _ _ _ _ from h2)
  clear h0 h9 h1 h2 hb
  unfold rdV
  clear hs ha hm
  go_enter Try.func45, Try.ntmps45
  go_wp2_with fail
  generalize (((w.alloc (.cells #[.string s, .int .i64 a, .int .i64 0] 78)).alloc (.cells #[.int .i64 5, .int .i64 m] 45)).alloc (.cells #[.string ⟨#[]⟩, .int .i64 0, .int .i64 0] 78)).alloc (.cells #[.int .u64 0, .int .i64 0, .string ⟨#[]⟩, .int .i64 0, .int .i64 0] 42) = W at HB H0 H9 H1 H2 ⊢
  refine (CW.out _).mono ?_
  rintro e w2 ⟨rfl, hb2⟩
  have k1 := three.later H1.out hb2
  have k2 := five.later H2.out hb2
  obtain ⟨y0, y1, y2, yf⟩ := k1.cells
  obtain ⟨z0, z1, z2, z3, z4, zf⟩ := k2.cells
  have yf0 := yf 0
  have yf1 := yf 1
  have yf2 := yf 2
  have zf0 := zf 0
  have zf1 := zf 1
  have zf2 := zf 2
  have zf3 := zf 3
  have zf4 := zf 4
  have FIN := Lib.hid (fin8 k1 k2 (by omega) (HB.out.trans (hb2.mono HB.out.size)) (by omega) (by omega) (.string s) (.int .i64 A) (.int .i64 B) (.int .u64 0) (.int .i64 0) (.string X) (.int .i64 0) (.int .i64 0))
  clear k1 k2 hb2 yf zf
  go_wp2_with fail
  generalize ((((((((w2).setCell ⟨w.heap.size + 1 + 1, 0, none⟩ (.string s)).setCell ⟨w.heap.size + 1 + 1, 1, none⟩ (.int .i64 A)).setCell ⟨w.heap.size + 1 + 1, 2, none⟩ (.int .i64 B)).setCell ⟨w.heap.size + 1 + 1 + 1, 0, none⟩ (.int .u64 0)).setCell ⟨w.heap.size + 1 + 1 + 1, 1, none⟩ (.int .i64 0)).setCell ⟨w.heap.size + 1 + 1 + 1, 2, none⟩ (.string X)).setCell ⟨w.heap.size + 1 + 1 + 1, 3, none⟩ (.int .i64 0)).setCell ⟨w.heap.size + 1 + 1 + 1, 4, none⟩ (.int .i64 0) = W8 at FIN ⊢
  obtain ⟨j1, j2, jb⟩ := FIN.out
  obtain ⟨y0, y1, y2, yf⟩ := three.cells j1
  obtain ⟨z0, z1, z2, z3, z4, zf⟩ := five.cells j2
  exact bodyPost_ret (v := .tuple #[.agg #[.string s, .int .i64 A, .int .i64 B], .agg #[.int .u64 0, .int .i64 0, .string X, .int .i64 0, .int .i64 0]]) (by simp [results, Try.results45, go_sem, y0, y1, y2, z0, z1, z2, z3, z4]) rfl ⟨rfl, jb⟩
set_option maxRecDepth 100000 in
set_option maxHeartbeats 4000000 in
theorem do_get_err (s : ByteArray) (a N T E : Nat) (k n : Int) (w : World) (HG0 : ∀ W, Calls Try.prog 75 #[.string s, .int .i64 a] W fun e w' => e = .returned (.tuple #[.int .u64 (N : Nat), .int .i64 (T : Nat), .int .i64 (E : Nat)]) ∧ Below W.heap.size W w') (k0 : (k == 0) = false) (k5 : (k == 5) = false) (hE : E ≠ 0) :
    Calls Try.prog 45 #[rdV s a 0, .agg #[.int .i64 k, .int .i64 n]] w fun e w' => e = .returned (.tuple #[.agg #[.string s, .int .i64 a, .int .i64 E], .agg #[.int .u64 0, .int .i64 0, .string ⟨#[]⟩, .int .i64 0, .int .i64 0]]) ∧ Below w.heap.size w w' := by
  have HG := Lib.hid HG0
  clear HG0
  have hd : ((E : Int) == 0) = false := by simp; omega
  have CW := Lib.hid (fun W => dwrong_any s a 0 E W)
  unfold rdV gtV at CW
  obtain ⟨h0, h9, h1, h2, hb⟩ := alloc4w w (.cells #[.string s, .int .i64 a, .int .i64 0] 78) (.cells #[.int .i64 k, .int .i64 n] 45) (.cells #[.string ⟨#[]⟩, .int .i64 0, .int .i64 0] 78) (.cells #[.int .u64 0, .int .i64 0, .string ⟨#[]⟩, .int .i64 0, .int .i64 0] 42)
  have HB := Lib.hid hb
  have H0 := Lib.hid (show three _ _ _ _ _ from h0)
  have H9 := Lib.hid (show twoO _ _ _ _ from h9)
  have H1 := Lib.hid (show three _ _ _ _ _ from h1)
  have H2 := Lib.hid (show five _ _ _ _ _ _ _ from h2)
  clear h0 h9 h1 h2 hb
  unfold rdV
  clear hE
  go_enter Try.func45, Try.ntmps45
  go_wp2_with fail
  generalize (((w.alloc (.cells #[.string s, .int .i64 a, .int .i64 0] 78)).alloc (.cells #[.int .i64 k, .int .i64 n] 45)).alloc (.cells #[.string ⟨#[]⟩, .int .i64 0, .int .i64 0] 78)).alloc (.cells #[.int .u64 0, .int .i64 0, .string ⟨#[]⟩, .int .i64 0, .int .i64 0] 42) = W at HB H0 H9 H1 H2 ⊢
  refine (HG.out _).mono ?_
  rintro e w2 ⟨rfl, hb2⟩
  have g0 := three.later H0.out hb2
  have g9 := twoO.later H9.out hb2
  have g1 := three.later H1.out hb2
  have g2 := five.later H2.out hb2
  have gb := HB.out.trans (hb2.mono HB.out.size)
  clear H0 H9 H1 H2 HB hb2
  have HB := Lib.hid gb
  have H0 := Lib.hid g0
  have H1 := Lib.hid g1
  have H2 := Lib.hid g2
  obtain ⟨x0, x1, x2, xf⟩ := g0.cells
  obtain ⟨p0, p1⟩ := g9.cells
  have xf1 := xf 1
  clear g0 g9 g1 g2 gb xf
  go_wp2_with fail
  refine (CW.out _).mono ?_
  rintro e w4 ⟨rfl, hb4⟩
  have k1 := three.later H1.out hb4
  have k2 := five.later H2.out hb4
  obtain ⟨y0, y1, y2, yf⟩ := k1.cells
  obtain ⟨z0, z1, z2, z3, z4, zf⟩ := k2.cells
  have yf0 := yf 0
  have yf1 := yf 1
  have yf2 := yf 2
  have zf0 := zf 0
  have zf1 := zf 1
  have zf2 := zf 2
  have zf3 := zf 3
  have zf4 := zf 4
  have FIN := Lib.hid (fin8 k1 k2 (by omega) (HB.out.trans (hb4.mono HB.out.size)) (by omega) (by omega) (.string s) (.int .i64 a) (.int .i64 E) (.int .u64 0) (.int .i64 0) (.string ⟨#[]⟩) (.int .i64 0) (.int .i64 0))
  clear k1 k2 hb4 yf zf
  go_wp2_with fail
  generalize ((((((((w4).setCell ⟨w.heap.size + 1 + 1, 0, none⟩ (.string s)).setCell ⟨w.heap.size + 1 + 1, 1, none⟩ (.int .i64 a)).setCell ⟨w.heap.size + 1 + 1, 2, none⟩ (.int .i64 E)).setCell ⟨w.heap.size + 1 + 1 + 1, 0, none⟩ (.int .u64 0)).setCell ⟨w.heap.size + 1 + 1 + 1, 1, none⟩ (.int .i64 0)).setCell ⟨w.heap.size + 1 + 1 + 1, 2, none⟩ (.string ⟨#[]⟩)).setCell ⟨w.heap.size + 1 + 1 + 1, 3, none⟩ (.int .i64 0)).setCell ⟨w.heap.size + 1 + 1 + 1, 4, none⟩ (.int .i64 0) = W8 at FIN ⊢
  obtain ⟨j1, j2, jb⟩ := FIN.out
  obtain ⟨y0, y1, y2, yf⟩ := three.cells j1
  obtain ⟨z0, z1, z2, z3, z4, zf⟩ := five.cells j2
  exact bodyPost_ret (v := .tuple #[.agg #[.string s, .int .i64 a, .int .i64 E], .agg #[.int .u64 0, .int .i64 0, .string ⟨#[]⟩, .int .i64 0, .int .i64 0]]) (by simp [results, Try.results45, go_sem, y0, y1, y2, z0, z1, z2, z3, z4]) rfl ⟨rfl, jb⟩
set_option maxRecDepth 100000 in
set_option maxHeartbeats 4000000 in
theorem do_large2 (s : ByteArray) (a N T E : Nat) (n : Int) (w : World) (HG0 : ∀ W, Calls Try.prog 75 #[.string s, .int .i64 a] W fun e w' => e = .returned (.tuple #[.int .u64 (N : Nat), .int .i64 (T : Nat), .int .i64 (E : Nat)]) ∧ Below W.heap.size W w') (hE : E = 0) (hn : n < 0 ∨ (0 ≤ n ∧ n < (N : Int) ∧ n ≤ 9223372036854775807)) :
    Calls Try.prog 45 #[rdV s a 0, .agg #[.int .i64 2, .int .i64 n]] w fun e w' => e = .returned (.tuple #[.agg #[.string s, .int .i64 a, .int .i64 4], .agg #[.int .u64 0, .int .i64 0, .string ⟨#[]⟩, .int .i64 0, .int .i64 0]]) ∧ Below w.heap.size w w' := by
  have HG := Lib.hid HG0
  clear HG0
  subst hE
  have CW := Lib.hid (fun W => dwrong_any s a 0 4 W)
  unfold rdV gtV at CW
  obtain ⟨h0, h9, h1, h2, hb⟩ := alloc4w w (.cells #[.string s, .int .i64 a, .int .i64 0] 78) (.cells #[.int .i64 2, .int .i64 n] 45) (.cells #[.string ⟨#[]⟩, .int .i64 0, .int .i64 0] 78) (.cells #[.int .u64 0, .int .i64 0, .string ⟨#[]⟩, .int .i64 0, .int .i64 0] 42)
  have HB := Lib.hid hb
  have H0 := Lib.hid (show three _ _ _ _ _ from h0)
  have H9 := Lib.hid (show twoO _ _ _ _ from h9)
  have H1 := Lib.hid (show three _ _ _ _ _ from h1)
  have H2 := Lib.hid (show five _ _ _ _ _ _ _ from h2)
  clear h0 h9 h1 h2 hb
  unfold rdV
  go_enter Try.func45, Try.ntmps45
  go_wp2_with fail
  generalize (((w.alloc (.cells #[.string s, .int .i64 a, .int .i64 0] 78)).alloc (.cells #[.int .i64 2, .int .i64 n] 45)).alloc (.cells #[.string ⟨#[]⟩, .int .i64 0, .int .i64 0] 78)).alloc (.cells #[.int .u64 0, .int .i64 0, .string ⟨#[]⟩, .int .i64 0, .int .i64 0] 42) = W at HB H0 H9 H1 H2 ⊢
  refine (HG.out _).mono ?_
  rintro e w2 ⟨rfl, hb2⟩
  have g0 := three.later H0.out hb2
  have g9 := twoO.later H9.out hb2
  have g1 := three.later H1.out hb2
  have g2 := five.later H2.out hb2
  have gb := HB.out.trans (hb2.mono HB.out.size)
  clear H0 H9 H1 H2 HB hb2
  have HB := Lib.hid gb
  have H0 := Lib.hid g0
  have H1 := Lib.hid g1
  have H2 := Lib.hid g2
  obtain ⟨x0, x1, x2, xf⟩ := g0.cells
  obtain ⟨p0, p1⟩ := g9.cells
  have xf1 := xf 1
  clear g0 g9 g1 g2 gb xf
  rcases hn with hn | ⟨hn0, hn1, hn2⟩
  · have hd : decide (n < 0) = true := by simp; omega
    go_wp2_with fail
    refine (CW.out _).mono ?_
    rintro e w4 ⟨rfl, hb4⟩
    have k1 := three.later H1.out hb4
    have k2 := five.later H2.out hb4
    obtain ⟨y0, y1, y2, yf⟩ := k1.cells
    obtain ⟨z0, z1, z2, z3, z4, zf⟩ := k2.cells
    have yf0 := yf 0
    have yf1 := yf 1
    have yf2 := yf 2
    have zf0 := zf 0
    have zf1 := zf 1
    have zf2 := zf 2
    have zf3 := zf 3
    have zf4 := zf 4
    have FIN := Lib.hid (fin8 k1 k2 (by omega) (HB.out.trans (hb4.mono HB.out.size)) (by omega) (by omega) (.string s) (.int .i64 a) (.int .i64 4) (.int .u64 0) (.int .i64 0) (.string ⟨#[]⟩) (.int .i64 0) (.int .i64 0))
    clear k1 k2 hb4 yf zf
    go_wp2_with fail
    generalize ((((((((w4).setCell ⟨w.heap.size + 1 + 1, 0, none⟩ (.string s)).setCell ⟨w.heap.size + 1 + 1, 1, none⟩ (.int .i64 a)).setCell ⟨w.heap.size + 1 + 1, 2, none⟩ (.int .i64 4)).setCell ⟨w.heap.size + 1 + 1 + 1, 0, none⟩ (.int .u64 0)).setCell ⟨w.heap.size + 1 + 1 + 1, 1, none⟩ (.int .i64 0)).setCell ⟨w.heap.size + 1 + 1 + 1, 2, none⟩ (.string ⟨#[]⟩)).setCell ⟨w.heap.size + 1 + 1 + 1, 3, none⟩ (.int .i64 0)).setCell ⟨w.heap.size + 1 + 1 + 1, 4, none⟩ (.int .i64 0) = W8 at FIN ⊢
    obtain ⟨j1, j2, jb⟩ := FIN.out
    obtain ⟨y0, y1, y2, yf⟩ := three.cells j1
    obtain ⟨z0, z1, z2, z3, z4, zf⟩ := five.cells j2
    exact bodyPost_ret (v := .tuple #[.agg #[.string s, .int .i64 a, .int .i64 4], .agg #[.int .u64 0, .int .i64 0, .string ⟨#[]⟩, .int .i64 0, .int .i64 0]]) (by simp [results, Try.results45, go_sem, y0, y1, y2, z0, z1, z2, z3, z4]) rfl ⟨rfl, jb⟩
  · have hd : decide (n < 0) = false := by simp; omega
    have hw : IntKind.u64.wrap n = n := by rw [IntKind.wrap_u64]; omega
    have hd2 : decide (n < (N : Int)) = true := by simp; omega
    go_wp2_with fail
    refine (CW.out _).mono ?_
    rintro e w4 ⟨rfl, hb4⟩
    have k1 := three.later H1.out hb4
    have k2 := five.later H2.out hb4
    obtain ⟨y0, y1, y2, yf⟩ := k1.cells
    obtain ⟨z0, z1, z2, z3, z4, zf⟩ := k2.cells
    have yf0 := yf 0
    have yf1 := yf 1
    have yf2 := yf 2
    have zf0 := zf 0
    have zf1 := zf 1
    have zf2 := zf 2
    have zf3 := zf 3
    have zf4 := zf 4
    have FIN := Lib.hid (fin8 k1 k2 (by omega) (HB.out.trans (hb4.mono HB.out.size)) (by omega) (by omega) (.string s) (.int .i64 a) (.int .i64 4) (.int .u64 0) (.int .i64 0) (.string ⟨#[]⟩) (.int .i64 0) (.int .i64 0))
    clear k1 k2 hb4 yf zf
    go_wp2_with fail
    generalize ((((((((w4).setCell ⟨w.heap.size + 1 + 1, 0, none⟩ (.string s)).setCell ⟨w.heap.size + 1 + 1, 1, none⟩ (.int .i64 a)).setCell ⟨w.heap.size + 1 + 1, 2, none⟩ (.int .i64 4)).setCell ⟨w.heap.size + 1 + 1 + 1, 0, none⟩ (.int .u64 0)).setCell ⟨w.heap.size + 1 + 1 + 1, 1, none⟩ (.int .i64 0)).setCell ⟨w.heap.size + 1 + 1 + 1, 2, none⟩ (.string ⟨#[]⟩)).setCell ⟨w.heap.size + 1 + 1 + 1, 3, none⟩ (.int .i64 0)).setCell ⟨w.heap.size + 1 + 1 + 1, 4, none⟩ (.int .i64 0) = W8 at FIN ⊢
    obtain ⟨j1, j2, jb⟩ := FIN.out
    obtain ⟨y0, y1, y2, yf⟩ := three.cells j1
    obtain ⟨z0, z1, z2, z3, z4, zf⟩ := five.cells j2
    exact bodyPost_ret (v := .tuple #[.agg #[.string s, .int .i64 a, .int .i64 4], .agg #[.int .u64 0, .int .i64 0, .string ⟨#[]⟩, .int .i64 0, .int .i64 0]]) (by simp [results, Try.results45, go_sem, y0, y1, y2, z0, z1, z2, z3, z4]) rfl ⟨rfl, jb⟩
set_option maxRecDepth 100000 in
set_option maxHeartbeats 4000000 in
theorem do_large4 (s : ByteArray) (a N T E : Nat) (n : Int) (w : World) (HG0 : ∀ W, Calls Try.prog 75 #[.string s, .int .i64 a] W fun e w' => e = .returned (.tuple #[.int .u64 (N : Nat), .int .i64 (T : Nat), .int .i64 (E : Nat)]) ∧ Below W.heap.size W w') (hE : E = 0) (hn : n < 0 ∨ (0 ≤ n ∧ n < (N : Int) ∧ n ≤ 9223372036854775807)) :
    Calls Try.prog 45 #[rdV s a 0, .agg #[.int .i64 4, .int .i64 n]] w fun e w' => e = .returned (.tuple #[.agg #[.string s, .int .i64 a, .int .i64 4], .agg #[.int .u64 0, .int .i64 0, .string ⟨#[]⟩, .int .i64 0, .int .i64 0]]) ∧ Below w.heap.size w w' := by
  have HG := Lib.hid HG0
  clear HG0
  subst hE
  have CW := Lib.hid (fun W => dwrong_any s a 0 4 W)
  unfold rdV gtV at CW
  obtain ⟨h0, h9, h1, h2, hb⟩ := alloc4w w (.cells #[.string s, .int .i64 a, .int .i64 0] 78) (.cells #[.int .i64 4, .int .i64 n] 45) (.cells #[.string ⟨#[]⟩, .int .i64 0, .int .i64 0] 78) (.cells #[.int .u64 0, .int .i64 0, .string ⟨#[]⟩, .int .i64 0, .int .i64 0] 42)
  have HB := Lib.hid hb
  have H0 := Lib.hid (show three _ _ _ _ _ from h0)
  have H9 := Lib.hid (show twoO _ _ _ _ from h9)
  have H1 := Lib.hid (show three _ _ _ _ _ from h1)
  have H2 := Lib.hid (show five _ _ _ _ _ _ _ from h2)
  clear h0 h9 h1 h2 hb
  unfold rdV
  go_enter Try.func45, Try.ntmps45
  go_wp2_with fail
  generalize (((w.alloc (.cells #[.string s, .int .i64 a, .int .i64 0] 78)).alloc (.cells #[.int .i64 4, .int .i64 n] 45)).alloc (.cells #[.string ⟨#[]⟩, .int .i64 0, .int .i64 0] 78)).alloc (.cells #[.int .u64 0, .int .i64 0, .string ⟨#[]⟩, .int .i64 0, .int .i64 0] 42) = W at HB H0 H9 H1 H2 ⊢
  refine (HG.out _).mono ?_
  rintro e w2 ⟨rfl, hb2⟩
  have g0 := three.later H0.out hb2
  have g9 := twoO.later H9.out hb2
  have g1 := three.later H1.out hb2
  have g2 := five.later H2.out hb2
  have gb := HB.out.trans (hb2.mono HB.out.size)
  clear H0 H9 H1 H2 HB hb2
  have HB := Lib.hid gb
  have H0 := Lib.hid g0
  have H1 := Lib.hid g1
  have H2 := Lib.hid g2
  obtain ⟨x0, x1, x2, xf⟩ := g0.cells
  obtain ⟨p0, p1⟩ := g9.cells
  have xf1 := xf 1
  clear g0 g9 g1 g2 gb xf
  rcases hn with hn | ⟨hn0, hn1, hn2⟩
  · have hd : decide (n < 0) = true := by simp; omega
    go_wp2_with fail
    refine (CW.out _).mono ?_
    rintro e w4 ⟨rfl, hb4⟩
    have k1 := three.later H1.out hb4
    have k2 := five.later H2.out hb4
    obtain ⟨y0, y1, y2, yf⟩ := k1.cells
    obtain ⟨z0, z1, z2, z3, z4, zf⟩ := k2.cells
    have yf0 := yf 0
    have yf1 := yf 1
    have yf2 := yf 2
    have zf0 := zf 0
    have zf1 := zf 1
    have zf2 := zf 2
    have zf3 := zf 3
    have zf4 := zf 4
    have FIN := Lib.hid (fin8 k1 k2 (by omega) (HB.out.trans (hb4.mono HB.out.size)) (by omega) (by omega) (.string s) (.int .i64 a) (.int .i64 4) (.int .u64 0) (.int .i64 0) (.string ⟨#[]⟩) (.int .i64 0) (.int .i64 0))
    clear k1 k2 hb4 yf zf
    go_wp2_with fail
    generalize ((((((((w4).setCell ⟨w.heap.size + 1 + 1, 0, none⟩ (.string s)).setCell ⟨w.heap.size + 1 + 1, 1, none⟩ (.int .i64 a)).setCell ⟨w.heap.size + 1 + 1, 2, none⟩ (.int .i64 4)).setCell ⟨w.heap.size + 1 + 1 + 1, 0, none⟩ (.int .u64 0)).setCell ⟨w.heap.size + 1 + 1 + 1, 1, none⟩ (.int .i64 0)).setCell ⟨w.heap.size + 1 + 1 + 1, 2, none⟩ (.string ⟨#[]⟩)).setCell ⟨w.heap.size + 1 + 1 + 1, 3, none⟩ (.int .i64 0)).setCell ⟨w.heap.size + 1 + 1 + 1, 4, none⟩ (.int .i64 0) = W8 at FIN ⊢
    obtain ⟨j1, j2, jb⟩ := FIN.out
    obtain ⟨y0, y1, y2, yf⟩ := three.cells j1
    obtain ⟨z0, z1, z2, z3, z4, zf⟩ := five.cells j2
    exact bodyPost_ret (v := .tuple #[.agg #[.string s, .int .i64 a, .int .i64 4], .agg #[.int .u64 0, .int .i64 0, .string ⟨#[]⟩, .int .i64 0, .int .i64 0]]) (by simp [results, Try.results45, go_sem, y0, y1, y2, z0, z1, z2, z3, z4]) rfl ⟨rfl, jb⟩
  · have hd : decide (n < 0) = false := by simp; omega
    have hw : IntKind.u64.wrap n = n := by rw [IntKind.wrap_u64]; omega
    have hd2 : decide (n < (N : Int)) = true := by simp; omega
    go_wp2_with fail
    refine (CW.out _).mono ?_
    rintro e w4 ⟨rfl, hb4⟩
    have k1 := three.later H1.out hb4
    have k2 := five.later H2.out hb4
    obtain ⟨y0, y1, y2, yf⟩ := k1.cells
    obtain ⟨z0, z1, z2, z3, z4, zf⟩ := k2.cells
    have yf0 := yf 0
    have yf1 := yf 1
    have yf2 := yf 2
    have zf0 := zf 0
    have zf1 := zf 1
    have zf2 := zf 2
    have zf3 := zf 3
    have zf4 := zf 4
    have FIN := Lib.hid (fin8 k1 k2 (by omega) (HB.out.trans (hb4.mono HB.out.size)) (by omega) (by omega) (.string s) (.int .i64 a) (.int .i64 4) (.int .u64 0) (.int .i64 0) (.string ⟨#[]⟩) (.int .i64 0) (.int .i64 0))
    clear k1 k2 hb4 yf zf
    go_wp2_with fail
    generalize ((((((((w4).setCell ⟨w.heap.size + 1 + 1, 0, none⟩ (.string s)).setCell ⟨w.heap.size + 1 + 1, 1, none⟩ (.int .i64 a)).setCell ⟨w.heap.size + 1 + 1, 2, none⟩ (.int .i64 4)).setCell ⟨w.heap.size + 1 + 1 + 1, 0, none⟩ (.int .u64 0)).setCell ⟨w.heap.size + 1 + 1 + 1, 1, none⟩ (.int .i64 0)).setCell ⟨w.heap.size + 1 + 1 + 1, 2, none⟩ (.string ⟨#[]⟩)).setCell ⟨w.heap.size + 1 + 1 + 1, 3, none⟩ (.int .i64 0)).setCell ⟨w.heap.size + 1 + 1 + 1, 4, none⟩ (.int .i64 0) = W8 at FIN ⊢
    obtain ⟨j1, j2, jb⟩ := FIN.out
    obtain ⟨y0, y1, y2, yf⟩ := three.cells j1
    obtain ⟨z0, z1, z2, z3, z4, zf⟩ := five.cells j2
    exact bodyPost_ret (v := .tuple #[.agg #[.string s, .int .i64 a, .int .i64 4], .agg #[.int .u64 0, .int .i64 0, .string ⟨#[]⟩, .int .i64 0, .int .i64 0]]) (by simp [results, Try.results45, go_sem, y0, y1, y2, z0, z1, z2, z3, z4]) rfl ⟨rfl, jb⟩
set_option maxRecDepth 100000 in
set_option maxHeartbeats 4000000 in
theorem do_text_ok (s : ByteArray) (a N T E : Nat) (n : Int) (w : World) (HG0 : ∀ W, Calls Try.prog 75 #[.string s, .int .i64 a] W fun e w' => e = .returned (.tuple #[.int .u64 (N : Nat), .int .i64 (T : Nat), .int .i64 (E : Nat)]) ∧ Below W.heap.size W w') (hs : s.size ≤ maxLen) (hT : T ≤ s.size) (hE : E = 0) (hn0 : 0 ≤ n) (hn1 : (N : Int) ≤ n) (hn2 : n ≤ 9223372036854775807) :
    Calls Try.prog 45 #[rdV s a 0, .agg #[.int .i64 4, .int .i64 n]] w fun e w' => e = .returned (.tuple #[.agg #[.string s, .int .i64 (if T + N ≤ s.size then T + N else a : Nat), .int .i64 (if T + N ≤ s.size then 0 else 2 : Nat)], .agg #[.int .u64 0, .int .i64 0, .string (pS s T N), .int .i64 0, .int .i64 0]]) ∧ Below w.heap.size w w' := by
  have HG := Lib.hid HG0
  clear HG0
  have CW := Lib.hid (fun W => dtext_any s a 0 T N W hs hT (by unfold U64; omega))
  unfold rdV gtV at CW
  generalize (if T + N ≤ s.size then T + N else a) = A at CW ⊢
  generalize (if T + N ≤ s.size then 0 else 2) = B at CW ⊢
  generalize pS s T N = X at CW ⊢
  have hd : decide (n < 0) = false := by simp; omega
  have hw : IntKind.u64.wrap n = n := by rw [IntKind.wrap_u64]; omega
  have hd2 : decide (n < (N : Int)) = false := by simp; omega
  subst hE
  obtain ⟨h0, h9, h1, h2, hb⟩ := alloc4w w (.cells #[.string s, .int .i64 a, .int .i64 0] 78) (.cells #[.int .i64 4, .int .i64 n] 45) (.cells #[.string ⟨#[]⟩, .int .i64 0, .int .i64 0] 78) (.cells #[.int .u64 0, .int .i64 0, .string ⟨#[]⟩, .int .i64 0, .int .i64 0] 42)
  have HB := Lib.hid hb
  have H0 := Lib.hid (show three _ _ _ _ _ from h0)
  have H9 := Lib.hid (show twoO _ _ _ _ from h9)
  have H1 := Lib.hid (show three _ _ _ _ _ from h1)
  have H2 := Lib.hid (show five _ _ _ _ _ _ _ from h2)
  clear h0 h9 h1 h2 hb
  unfold rdV
  clear hs hT hn0 hn1 hn2
  go_enter Try.func45, Try.ntmps45
  go_wp2_with fail
  generalize (((w.alloc (.cells #[.string s, .int .i64 a, .int .i64 0] 78)).alloc (.cells #[.int .i64 4, .int .i64 n] 45)).alloc (.cells #[.string ⟨#[]⟩, .int .i64 0, .int .i64 0] 78)).alloc (.cells #[.int .u64 0, .int .i64 0, .string ⟨#[]⟩, .int .i64 0, .int .i64 0] 42) = W at HB H0 H9 H1 H2 ⊢
  refine (HG.out _).mono ?_
  rintro e w2 ⟨rfl, hb2⟩
  have g0 := three.later H0.out hb2
  have g9 := twoO.later H9.out hb2
  have g1 := three.later H1.out hb2
  have g2 := five.later H2.out hb2
  have gb := HB.out.trans (hb2.mono HB.out.size)
  clear H0 H9 H1 H2 HB hb2
  have HB := Lib.hid gb
  have H0 := Lib.hid g0
  have H1 := Lib.hid g1
  have H2 := Lib.hid g2
  obtain ⟨x0, x1, x2, xf⟩ := g0.cells
  obtain ⟨p0, p1⟩ := g9.cells
  have xf1 := xf 1
  clear g0 g9 g1 g2 gb xf
  go_wp2_with fail
  refine (CW.out _).mono ?_
  rintro e w4 ⟨rfl, hb4⟩
  have k1 := three.later H1.out hb4
  have k2 := five.later H2.out hb4
  obtain ⟨y0, y1, y2, yf⟩ := k1.cells
  obtain ⟨z0, z1, z2, z3, z4, zf⟩ := k2.cells
  have yf0 := yf 0
  have yf1 := yf 1
  have yf2 := yf 2
  have zf0 := zf 0
  have zf1 := zf 1
  have zf2 := zf 2
  have zf3 := zf 3
  have zf4 := zf 4
  have FIN := Lib.hid (fin8 k1 k2 (by omega) (HB.out.trans (hb4.mono HB.out.size)) (by omega) (by omega) (.string s) (.int .i64 A) (.int .i64 B) (.int .u64 0) (.int .i64 0) (.string X) (.int .i64 0) (.int .i64 0))
  clear k1 k2 hb4 yf zf
  go_wp2_with fail
  generalize ((((((((w4).setCell ⟨w.heap.size + 1 + 1, 0, none⟩ (.string s)).setCell ⟨w.heap.size + 1 + 1, 1, none⟩ (.int .i64 A)).setCell ⟨w.heap.size + 1 + 1, 2, none⟩ (.int .i64 B)).setCell ⟨w.heap.size + 1 + 1 + 1, 0, none⟩ (.int .u64 0)).setCell ⟨w.heap.size + 1 + 1 + 1, 1, none⟩ (.int .i64 0)).setCell ⟨w.heap.size + 1 + 1 + 1, 2, none⟩ (.string X)).setCell ⟨w.heap.size + 1 + 1 + 1, 3, none⟩ (.int .i64 0)).setCell ⟨w.heap.size + 1 + 1 + 1, 4, none⟩ (.int .i64 0) = W8 at FIN ⊢
  obtain ⟨j1, j2, jb⟩ := FIN.out
  obtain ⟨y0, y1, y2, yf⟩ := three.cells j1
  obtain ⟨z0, z1, z2, z3, z4, zf⟩ := five.cells j2
  exact bodyPost_ret (v := .tuple #[.agg #[.string s, .int .i64 A, .int .i64 B], .agg #[.int .u64 0, .int .i64 0, .string X, .int .i64 0, .int .i64 0]]) (by simp [results, Try.results45, go_sem, y0, y1, y2, z0, z1, z2, z3, z4]) rfl ⟨rfl, jb⟩
set_option maxRecDepth 100000 in
set_option maxHeartbeats 4000000 in
theorem do_num (s : ByteArray) (a N T E : Nat) (k n : Int) (w : World) (HG0 : ∀ W, Calls Try.prog 75 #[.string s, .int .i64 a] W fun e w' => e = .returned (.tuple #[.int .u64 (N : Nat), .int .i64 (T : Nat), .int .i64 (E : Nat)]) ∧ Below W.heap.size W w') (k0 : (k == 0) = false) (k5 : (k == 5) = false) (k2 : (k == 2) = false) (k3 : (k == 3) = false) (k4 : (k == 4) = false) (hE : E = 0) :
    Calls Try.prog 45 #[rdV s a 0, .agg #[.int .i64 k, .int .i64 n]] w fun e w' => e = .returned (.tuple #[.agg #[.string s, .int .i64 T, .int .i64 0], .agg #[.int .u64 N, .int .i64 0, .string ⟨#[]⟩, .int .i64 0, .int .i64 0]]) ∧ Below w.heap.size w w' := by
  have HG := Lib.hid HG0
  clear HG0
  subst hE
  obtain ⟨h0, h9, h1, h2, hb⟩ := alloc4w w (.cells #[.string s, .int .i64 a, .int .i64 0] 78) (.cells #[.int .i64 k, .int .i64 n] 45) (.cells #[.string ⟨#[]⟩, .int .i64 0, .int .i64 0] 78) (.cells #[.int .u64 0, .int .i64 0, .string ⟨#[]⟩, .int .i64 0, .int .i64 0] 42)
  have HB := Lib.hid hb
  have H0 := Lib.hid (show three _ _ _ _ _ from h0)
  have H9 := Lib.hid (show twoO _ _ _ _ from h9)
  have H1 := Lib.hid (show three _ _ _ _ _ from h1)
  have H2 := Lib.hid (show five _ _ _ _ _ _ _ from h2)
  clear h0 h9 h1 h2 hb
  unfold rdV
  go_enter Try.func45, Try.ntmps45
  go_wp2_with fail
  generalize (((w.alloc (.cells #[.string s, .int .i64 a, .int .i64 0] 78)).alloc (.cells #[.int .i64 k, .int .i64 n] 45)).alloc (.cells #[.string ⟨#[]⟩, .int .i64 0, .int .i64 0] 78)).alloc (.cells #[.int .u64 0, .int .i64 0, .string ⟨#[]⟩, .int .i64 0, .int .i64 0] 42) = W at HB H0 H9 H1 H2 ⊢
  refine (HG.out _).mono ?_
  rintro e w2 ⟨rfl, hb2⟩
  have g0 := three.later H0.out hb2
  have g9 := twoO.later H9.out hb2
  have g1 := three.later H1.out hb2
  have g2 := five.later H2.out hb2
  have gb := HB.out.trans (hb2.mono HB.out.size)
  clear H0 H9 H1 H2 HB hb2
  have HB := Lib.hid gb
  have H0 := Lib.hid g0
  have H1 := Lib.hid g1
  have H2 := Lib.hid g2
  obtain ⟨x0, x1, x2, xf⟩ := g0.cells
  obtain ⟨p0, p1⟩ := g9.cells
  have xf1 := xf 1
  clear g0 g9 g1 g2 gb xf
  have k0' : three (w2.setCell ⟨w.heap.size, 1, none⟩ (.int .i64 T)) (w.heap.size) (.string s) (.int .i64 T) (.int .i64 0) := set_blk H0.out 1 _
  have k1 : three (w2.setCell ⟨w.heap.size, 1, none⟩ (.int .i64 T)) (w.heap.size + 1 + 1) (.string ⟨#[]⟩) (.int .i64 0) (.int .i64 0) := set_far H1.out (by omega)
  have k2 : five (w2.setCell ⟨w.heap.size, 1, none⟩ (.int .i64 T)) (w.heap.size + 1 + 1 + 1) (.int .u64 0) (.int .i64 0) (.string ⟨#[]⟩) (.int .i64 0) (.int .i64 0) := set_far H2.out (by omega)
  have hb3 : Below w.heap.size w (w2.setCell ⟨w.heap.size, 1, none⟩ (.int .i64 T)) := HB.out.setCell (p := ⟨w.heap.size, 1, none⟩) (Nat.le_refl _) _
  obtain ⟨m0, m1, m2, _⟩ := k0'.cells
  obtain ⟨y0, y1, y2, yf⟩ := k1.cells
  obtain ⟨z0, z1, z2, z3, z4, zf⟩ := k2.cells
  have yf0 := yf 0
  have yf1 := yf 1
  have yf2 := yf 2
  have zf0 := zf 0
  have zf1 := zf 1
  have zf2 := zf 2
  have zf3 := zf 3
  have zf4 := zf 4
  have FIN := Lib.hid (fin8 k1 k2 (by omega) hb3 (by omega) (by omega) (.string s) (.int .i64 T) (.int .i64 0) (.int .u64 N) (.int .i64 0) (.string ⟨#[]⟩) (.int .i64 0) (.int .i64 0))
  clear k0' k1 k2 hb3 yf zf
  go_wp2_with fail
  generalize (((((((((w2.setCell ⟨w.heap.size, 1, none⟩ (.int .i64 T))).setCell ⟨w.heap.size + 1 + 1, 0, none⟩ (.string s)).setCell ⟨w.heap.size + 1 + 1, 1, none⟩ (.int .i64 T)).setCell ⟨w.heap.size + 1 + 1, 2, none⟩ (.int .i64 0)).setCell ⟨w.heap.size + 1 + 1 + 1, 0, none⟩ (.int .u64 N)).setCell ⟨w.heap.size + 1 + 1 + 1, 1, none⟩ (.int .i64 0)).setCell ⟨w.heap.size + 1 + 1 + 1, 2, none⟩ (.string ⟨#[]⟩)).setCell ⟨w.heap.size + 1 + 1 + 1, 3, none⟩ (.int .i64 0)).setCell ⟨w.heap.size + 1 + 1 + 1, 4, none⟩ (.int .i64 0) = W8 at FIN ⊢
  obtain ⟨j1, j2, jb⟩ := FIN.out
  obtain ⟨y0, y1, y2, yf⟩ := three.cells j1
  obtain ⟨z0, z1, z2, z3, z4, zf⟩ := five.cells j2
  exact bodyPost_ret (v := .tuple #[.agg #[.string s, .int .i64 T, .int .i64 0], .agg #[.int .u64 N, .int .i64 0, .string ⟨#[]⟩, .int .i64 0, .int .i64 0]]) (by simp [results, Try.results45, go_sem, y0, y1, y2, z0, z1, z2, z3, z4]) rfl ⟨rfl, jb⟩
set_option maxRecDepth 100000 in
set_option maxHeartbeats 4000000 in
theorem do_count (s : ByteArray) (a N T E : Nat) (n : Int) (w : World) (HG0 : ∀ W, Calls Try.prog 75 #[.string s, .int .i64 a] W fun e w' => e = .returned (.tuple #[.int .u64 (N : Nat), .int .i64 (T : Nat), .int .i64 (E : Nat)]) ∧ Below W.heap.size W w') (hE : E = 0) (hn0 : 0 ≤ n) (hn1 : (N : Int) ≤ n) (hn2 : n ≤ 9223372036854775807) :
    Calls Try.prog 45 #[rdV s a 0, .agg #[.int .i64 2, .int .i64 n]] w fun e w' => e = .returned (.tuple #[.agg #[.string s, .int .i64 T, .int .i64 0], .agg #[.int .u64 N, .int .i64 0, .string ⟨#[]⟩, .int .i64 0, .int .i64 0]]) ∧ Below w.heap.size w w' := by
  have HG := Lib.hid HG0
  clear HG0
  have hd : decide (n < 0) = false := by simp; omega
  have hw : IntKind.u64.wrap n = n := by rw [IntKind.wrap_u64]; omega
  have hd2 : decide (n < (N : Int)) = false := by simp; omega
  subst hE
  obtain ⟨h0, h9, h1, h2, hb⟩ := alloc4w w (.cells #[.string s, .int .i64 a, .int .i64 0] 78) (.cells #[.int .i64 2, .int .i64 n] 45) (.cells #[.string ⟨#[]⟩, .int .i64 0, .int .i64 0] 78) (.cells #[.int .u64 0, .int .i64 0, .string ⟨#[]⟩, .int .i64 0, .int .i64 0] 42)
  have HB := Lib.hid hb
  have H0 := Lib.hid (show three _ _ _ _ _ from h0)
  have H9 := Lib.hid (show twoO _ _ _ _ from h9)
  have H1 := Lib.hid (show three _ _ _ _ _ from h1)
  have H2 := Lib.hid (show five _ _ _ _ _ _ _ from h2)
  clear h0 h9 h1 h2 hb
  unfold rdV
  clear hn0 hn1 hn2
  go_enter Try.func45, Try.ntmps45
  go_wp2_with fail
  generalize (((w.alloc (.cells #[.string s, .int .i64 a, .int .i64 0] 78)).alloc (.cells #[.int .i64 2, .int .i64 n] 45)).alloc (.cells #[.string ⟨#[]⟩, .int .i64 0, .int .i64 0] 78)).alloc (.cells #[.int .u64 0, .int .i64 0, .string ⟨#[]⟩, .int .i64 0, .int .i64 0] 42) = W at HB H0 H9 H1 H2 ⊢
  refine (HG.out _).mono ?_
  rintro e w2 ⟨rfl, hb2⟩
  have g0 := three.later H0.out hb2
  have g9 := twoO.later H9.out hb2
  have g1 := three.later H1.out hb2
  have g2 := five.later H2.out hb2
  have gb := HB.out.trans (hb2.mono HB.out.size)
  clear H0 H9 H1 H2 HB hb2
  have HB := Lib.hid gb
  have H0 := Lib.hid g0
  have H1 := Lib.hid g1
  have H2 := Lib.hid g2
  obtain ⟨x0, x1, x2, xf⟩ := g0.cells
  obtain ⟨p0, p1⟩ := g9.cells
  have xf1 := xf 1
  clear g0 g9 g1 g2 gb xf
  have k0' : three (w2.setCell ⟨w.heap.size, 1, none⟩ (.int .i64 T)) (w.heap.size) (.string s) (.int .i64 T) (.int .i64 0) := set_blk H0.out 1 _
  have k1 : three (w2.setCell ⟨w.heap.size, 1, none⟩ (.int .i64 T)) (w.heap.size + 1 + 1) (.string ⟨#[]⟩) (.int .i64 0) (.int .i64 0) := set_far H1.out (by omega)
  have k2 : five (w2.setCell ⟨w.heap.size, 1, none⟩ (.int .i64 T)) (w.heap.size + 1 + 1 + 1) (.int .u64 0) (.int .i64 0) (.string ⟨#[]⟩) (.int .i64 0) (.int .i64 0) := set_far H2.out (by omega)
  have hb3 : Below w.heap.size w (w2.setCell ⟨w.heap.size, 1, none⟩ (.int .i64 T)) := HB.out.setCell (p := ⟨w.heap.size, 1, none⟩) (Nat.le_refl _) _
  obtain ⟨m0, m1, m2, _⟩ := k0'.cells
  obtain ⟨y0, y1, y2, yf⟩ := k1.cells
  obtain ⟨z0, z1, z2, z3, z4, zf⟩ := k2.cells
  have yf0 := yf 0
  have yf1 := yf 1
  have yf2 := yf 2
  have zf0 := zf 0
  have zf1 := zf 1
  have zf2 := zf 2
  have zf3 := zf 3
  have zf4 := zf 4
  have FIN := Lib.hid (fin8 k1 k2 (by omega) hb3 (by omega) (by omega) (.string s) (.int .i64 T) (.int .i64 0) (.int .u64 N) (.int .i64 0) (.string ⟨#[]⟩) (.int .i64 0) (.int .i64 0))
  clear k0' k1 k2 hb3 yf zf
  go_wp2_with fail
  generalize (((((((((w2.setCell ⟨w.heap.size, 1, none⟩ (.int .i64 T))).setCell ⟨w.heap.size + 1 + 1, 0, none⟩ (.string s)).setCell ⟨w.heap.size + 1 + 1, 1, none⟩ (.int .i64 T)).setCell ⟨w.heap.size + 1 + 1, 2, none⟩ (.int .i64 0)).setCell ⟨w.heap.size + 1 + 1 + 1, 0, none⟩ (.int .u64 N)).setCell ⟨w.heap.size + 1 + 1 + 1, 1, none⟩ (.int .i64 0)).setCell ⟨w.heap.size + 1 + 1 + 1, 2, none⟩ (.string ⟨#[]⟩)).setCell ⟨w.heap.size + 1 + 1 + 1, 3, none⟩ (.int .i64 0)).setCell ⟨w.heap.size + 1 + 1 + 1, 4, none⟩ (.int .i64 0) = W8 at FIN ⊢
  obtain ⟨j1, j2, jb⟩ := FIN.out
  obtain ⟨y0, y1, y2, yf⟩ := three.cells j1
  obtain ⟨z0, z1, z2, z3, z4, zf⟩ := five.cells j2
  exact bodyPost_ret (v := .tuple #[.agg #[.string s, .int .i64 T, .int .i64 0], .agg #[.int .u64 N, .int .i64 0, .string ⟨#[]⟩, .int .i64 0, .int .i64 0]]) (by simp [results, Try.results45, go_sem, y0, y1, y2, z0, z1, z2, z3, z4]) rfl ⟨rfl, jb⟩
set_option maxRecDepth 100000 in
set_option maxHeartbeats 4000000 in
theorem do_int (s : ByteArray) (a N T E : Nat) (n : Int) (w : World) (HG0 : ∀ W, Calls Try.prog 75 #[.string s, .int .i64 a] W fun e w' => e = .returned (.tuple #[.int .u64 (N : Nat), .int .i64 (T : Nat), .int .i64 (E : Nat)]) ∧ Below W.heap.size W w') (hE : E = 0) (hN : U64 N) :
    Calls Try.prog 45 #[rdV s a 0, .agg #[.int .i64 3, .int .i64 n]] w fun e w' => e = .returned (.tuple #[.agg #[.string s, .int .i64 T, .int .i64 0], .agg #[.int .u64 0, .int .i64 (zagF N), .string ⟨#[]⟩, .int .i64 0, .int .i64 0]]) ∧ Below w.heap.size w w' := by
  have HG := Lib.hid HG0
  clear HG0
  subst hE
  have HZ := Lib.hid (fun W => rzag_any N hN W)
  obtain ⟨h0, h9, h1, h2, hb⟩ := alloc4w w (.cells #[.string s, .int .i64 a, .int .i64 0] 78) (.cells #[.int .i64 3, .int .i64 n] 45) (.cells #[.string ⟨#[]⟩, .int .i64 0, .int .i64 0] 78) (.cells #[.int .u64 0, .int .i64 0, .string ⟨#[]⟩, .int .i64 0, .int .i64 0] 42)
  have HB := Lib.hid hb
  have H0 := Lib.hid (show three _ _ _ _ _ from h0)
  have H9 := Lib.hid (show twoO _ _ _ _ from h9)
  have H1 := Lib.hid (show three _ _ _ _ _ from h1)
  have H2 := Lib.hid (show five _ _ _ _ _ _ _ from h2)
  clear h0 h9 h1 h2 hb
  unfold rdV
  clear hN
  go_enter Try.func45, Try.ntmps45
  go_wp2_with fail
  generalize (((w.alloc (.cells #[.string s, .int .i64 a, .int .i64 0] 78)).alloc (.cells #[.int .i64 3, .int .i64 n] 45)).alloc (.cells #[.string ⟨#[]⟩, .int .i64 0, .int .i64 0] 78)).alloc (.cells #[.int .u64 0, .int .i64 0, .string ⟨#[]⟩, .int .i64 0, .int .i64 0] 42) = W at HB H0 H9 H1 H2 ⊢
  refine (HG.out _).mono ?_
  rintro e w2 ⟨rfl, hb2⟩
  have g0 := three.later H0.out hb2
  have g9 := twoO.later H9.out hb2
  have g1 := three.later H1.out hb2
  have g2 := five.later H2.out hb2
  have gb := HB.out.trans (hb2.mono HB.out.size)
  clear H0 H9 H1 H2 HB hb2
  have HB := Lib.hid gb
  have H0 := Lib.hid g0
  have H1 := Lib.hid g1
  have H2 := Lib.hid g2
  obtain ⟨x0, x1, x2, xf⟩ := g0.cells
  obtain ⟨p0, p1⟩ := g9.cells
  have xf1 := xf 1
  clear g0 g9 g1 g2 gb xf
  have k0' : three (w2.setCell ⟨w.heap.size, 1, none⟩ (.int .i64 T)) (w.heap.size) (.string s) (.int .i64 T) (.int .i64 0) := set_blk H0.out 1 _
  have k1 : three (w2.setCell ⟨w.heap.size, 1, none⟩ (.int .i64 T)) (w.heap.size + 1 + 1) (.string ⟨#[]⟩) (.int .i64 0) (.int .i64 0) := set_far H1.out (by omega)
  have k2 : five (w2.setCell ⟨w.heap.size, 1, none⟩ (.int .i64 T)) (w.heap.size + 1 + 1 + 1) (.int .u64 0) (.int .i64 0) (.string ⟨#[]⟩) (.int .i64 0) (.int .i64 0) := set_far H2.out (by omega)
  have hb3 : Below w.heap.size w (w2.setCell ⟨w.heap.size, 1, none⟩ (.int .i64 T)) := HB.out.setCell (p := ⟨w.heap.size, 1, none⟩) (Nat.le_refl _) _
  obtain ⟨m0, m1, m2, _⟩ := k0'.cells
  obtain ⟨y0, y1, y2, yf⟩ := k1.cells
  obtain ⟨z0, z1, z2, z3, z4, zf⟩ := k2.cells
  have yf0 := yf 0
  have yf1 := yf 1
  have yf2 := yf 2
  have zf0 := zf 0
  have zf1 := zf 1
  have zf2 := zf 2
  have zf3 := zf 3
  have zf4 := zf 4
  have FIN := Lib.hid (fin8 k1 k2 (by omega) hb3 (by omega) (by omega) (.string s) (.int .i64 T) (.int .i64 0) (.int .u64 0) (.int .i64 (zagF N)) (.string ⟨#[]⟩) (.int .i64 0) (.int .i64 0))
  clear k0' k1 k2 hb3 yf zf
  go_wp2_with fail
  go_region_with (go_at_call 76; refine (HZ.out _).mono ?_; rintro e w5 ⟨rfl, rfl⟩)
  all_goals go_wp2_with fail
  all_goals (
    generalize (((((((((w2.setCell ⟨w.heap.size, 1, none⟩ (.int .i64 T))).setCell ⟨w.heap.size + 1 + 1, 0, none⟩ (.string s)).setCell ⟨w.heap.size + 1 + 1, 1, none⟩ (.int .i64 T)).setCell ⟨w.heap.size + 1 + 1, 2, none⟩ (.int .i64 0)).setCell ⟨w.heap.size + 1 + 1 + 1, 0, none⟩ (.int .u64 0)).setCell ⟨w.heap.size + 1 + 1 + 1, 1, none⟩ (.int .i64 (zagF N))).setCell ⟨w.heap.size + 1 + 1 + 1, 2, none⟩ (.string ⟨#[]⟩)).setCell ⟨w.heap.size + 1 + 1 + 1, 3, none⟩ (.int .i64 0)).setCell ⟨w.heap.size + 1 + 1 + 1, 4, none⟩ (.int .i64 0) = W8 at FIN ⊢
    obtain ⟨j1, j2, jb⟩ := FIN.out
    obtain ⟨y0, y1, y2, yf⟩ := three.cells j1
    obtain ⟨z0, z1, z2, z3, z4, zf⟩ := five.cells j2
    exact bodyPost_ret (v := .tuple #[.agg #[.string s, .int .i64 T, .int .i64 0], .agg #[.int .u64 0, .int .i64 (zagF N), .string ⟨#[]⟩, .int .i64 0, .int .i64 0]]) (by simp [results, Try.results45, go_sem, y0, y1, y2, z0, z1, z2, z3, z4]) rfl ⟨rfl, jb.drew⟩)
set_option maxRecDepth 100000 in
set_option maxHeartbeats 4000000 in
theorem do_byte (s : ByteArray) (a b x : Nat) (n : Int) (w : World) (hs : s.size ≤ maxLen) (h : a < s.size) (hb1 : a + 1 = b) (hx : byteAt s a = x) :
    Calls Try.prog 45 #[rdV s a 0, .agg #[.int .i64 0, .int .i64 n]] w fun e w' => e = .returned (.tuple #[.agg #[.string s, .int .i64 b, .int .i64 0], .agg #[.int .u64 x, .int .i64 0, .string ⟨#[]⟩, .int .i64 0, .int .i64 0]]) ∧ Below w.heap.size w w' := by
  unfold maxLen at hs
  have hw1 : IntKind.i64.wrap ((a : Int) + 1) = (b : Int) := by rw [show (a : Int) + 1 = (b : Int) by omega]; exact IntWalk.i64_in _ (by omega)
  have hw2 : IntKind.i64.wrap ((b : Int) - 1) = (a : Int) := by rw [show (b : Int) - 1 = (a : Int) by omega]; exact IntWalk.i64_in _ (by omega)
  have hd : decide ((s.size : Int) ≤ a) = false := by simp; omega
  have hd2 : decide (s.size ≤ a) = false := by simp; omega
  have hxa : ((s[a]'h).toNat : Int) = (x : Nat) := by
    rw [← hx]
    unfold byteAt
    rw [List.getD_eq_getElem?_getD, List.getElem?_eq_getElem (show a < s.data.toList.length from h)]
    rfl
  have hxl : x ≤ 255 := by rw [← hx]; unfold byteAt; have := (s.data.toList.getD a 0).toNat_lt; omega
  have hw3 : IntKind.u64.wrap (x : Int) = (x : Int) := by rw [IntKind.wrap_u64]; omega
  obtain ⟨h0, h9, h1, h2, hb⟩ := alloc4w w (.cells #[.string s, .int .i64 b, .int .i64 0] 78) (.cells #[.int .i64 0, .int .i64 n] 45) (.cells #[.string ⟨#[]⟩, .int .i64 0, .int .i64 0] 78) (.cells #[.int .u64 0, .int .i64 0, .string ⟨#[]⟩, .int .i64 0, .int .i64 0] 42)
  have HB := Lib.hid hb
  have H0 := Lib.hid (show three _ _ _ _ _ from h0)
  have H1 := Lib.hid (show three _ _ _ _ _ from h1)
  have H2 := Lib.hid (show five _ _ _ _ _ _ _ from h2)
  clear h0 h9 h1 h2 hb hb1 hx hxl hs
  unfold rdV
  go_enter Try.func45, Try.ntmps45
  go_wp2_with fail
  generalize (((w.alloc (.cells #[.string s, .int .i64 b, .int .i64 0] 78)).alloc (.cells #[.int .i64 0, .int .i64 n] 45)).alloc (.cells #[.string ⟨#[]⟩, .int .i64 0, .int .i64 0] 78)).alloc (.cells #[.int .u64 0, .int .i64 0, .string ⟨#[]⟩, .int .i64 0, .int .i64 0] 42) = W at HB H0 H1 H2 ⊢
  obtain ⟨x0, x1, x2, _⟩ := H0.out.cells
  have k1 := H1.out
  have k2 := H2.out
  obtain ⟨y0, y1, y2, yf⟩ := k1.cells
  obtain ⟨z0, z1, z2, z3, z4, zf⟩ := k2.cells
  have yf0 := yf 0
  have yf1 := yf 1
  have yf2 := yf 2
  have zf0 := zf 0
  have zf1 := zf 1
  have zf2 := zf 2
  have zf3 := zf 3
  have zf4 := zf 4
  have FIN := Lib.hid (fin8 k1 k2 (by omega) HB.out (by omega) (by omega) (.string s) (.int .i64 b) (.int .i64 0) (.int .u64 x) (.int .i64 0) (.string ⟨#[]⟩) (.int .i64 0) (.int .i64 0))
  clear k1 k2 yf zf
  go_region_with (fail)
  all_goals go_wp2_with fail
  all_goals (
    generalize ((((((((W).setCell ⟨w.heap.size + 1 + 1, 0, none⟩ (.string s)).setCell ⟨w.heap.size + 1 + 1, 1, none⟩ (.int .i64 b)).setCell ⟨w.heap.size + 1 + 1, 2, none⟩ (.int .i64 0)).setCell ⟨w.heap.size + 1 + 1 + 1, 0, none⟩ (.int .u64 x)).setCell ⟨w.heap.size + 1 + 1 + 1, 1, none⟩ (.int .i64 0)).setCell ⟨w.heap.size + 1 + 1 + 1, 2, none⟩ (.string ⟨#[]⟩)).setCell ⟨w.heap.size + 1 + 1 + 1, 3, none⟩ (.int .i64 0)).setCell ⟨w.heap.size + 1 + 1 + 1, 4, none⟩ (.int .i64 0) = W8 at FIN ⊢
    obtain ⟨j1, j2, jb⟩ := FIN.out
    obtain ⟨y0, y1, y2, yf⟩ := three.cells j1
    obtain ⟨z0, z1, z2, z3, z4, zf⟩ := five.cells j2
    exact bodyPost_ret (v := .tuple #[.agg #[.string s, .int .i64 b, .int .i64 0], .agg #[.int .u64 x, .int .i64 0, .string ⟨#[]⟩, .int .i64 0, .int .i64 0]]) (by simp [results, Try.results45, go_sem, y0, y1, y2, z0, z1, z2, z3, z4]) rfl ⟨rfl, jb.drew⟩)
end Go.Proofs.Ytpnljefgenniaaa

