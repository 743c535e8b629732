/- The document's reader of layer 5: wrong, End, text. No conditions. -/
import Derived.Test.YtpnljefgenniaaaOps
namespace Go.Proofs.Ytpnljefgenniaaa
set_option linter.unusedVariables false
open Go Go.RowKit

/-- block g holds the document's reader -/
def three (w : World) (g : Nat) (c0 c1 c2 : Value) : Prop := w.heap[g]? = some (.cells #[c0, c1, c2] 78 (0, 0))
theorem three.cells {w : World} {g : Nat} {c0 c1 c2 : Value} (h : three w g c0 c1 c2) : w.cell? ⟨g, 0, none⟩ = some c0 ∧ w.cell? ⟨g, 1, none⟩ = some c1 ∧ w.cell? ⟨g, 2, none⟩ = some c2 ∧ (∀ o, w.frozen? ⟨g, o, none⟩ = false) := by
  unfold three at h
  refine ⟨?_, ?_, ?_, fun o => ?_⟩ <;> first | (unfold World.cell?; rw [h]; rfl) | (unfold World.frozen?; rw [h]; simp)
theorem three.later {w w' : World} {g : Nat} {c0 c1 c2 : Value} (h : three w g c0 c1 c2) (hb : Below w.heap.size w w') : three w' g c0 c1 c2 := (hb.block g (Array.getElem?_eq_some_iff.1 h).1).trans h
theorem five.later {w w' : World} {g : Nat} {c0 c1 c2 c3 c4 : Value} (h : five w g c0 c1 c2 c3 c4) (hb : Below w.heap.size w w') : five w' g c0 c1 c2 c3 c4 := (hb.block g (Array.getElem?_eq_some_iff.1 h).1).trans h
theorem set_far {w : World} {g b o : Nat} {v : Value} {x : Option Obj} (h : w.heap[g]? = x) (hne : g ≠ b) : (w.setCell ⟨b, o, none⟩ v).heap[g]? = x := (Below.heap_setCell w ⟨b, o, none⟩ v g hne).trans h
/-- the stores of the two results -/
theorem fin8 {N : Nat} {u W : World} {g h : Nat} {x0 x1 x2 y0 y1 y2 y3 y4 : Value} (h3 : three W g x0 x1 x2) (h5 : five W h y0 y1 y2 y3 y4) (hne : g ≠ h) (hb : Below N u W) (hg : N ≤ g) (hh : N ≤ h) (v0 v1 v2 u0 u1 u2 u3 u4 : Value) :
    three ((((((((W.setCell ⟨g, 0, none⟩ v0).setCell ⟨g, 1, none⟩ v1).setCell ⟨g, 2, none⟩ v2).setCell ⟨h, 0, none⟩ u0).setCell ⟨h, 1, none⟩ u1).setCell ⟨h, 2, none⟩ u2).setCell ⟨h, 3, none⟩ u3).setCell ⟨h, 4, none⟩ u4) g v0 v1 v2 ∧
    five ((((((((W.setCell ⟨g, 0, none⟩ v0).setCell ⟨g, 1, none⟩ v1).setCell ⟨g, 2, none⟩ v2).setCell ⟨h, 0, none⟩ u0).setCell ⟨h, 1, none⟩ u1).setCell ⟨h, 2, none⟩ u2).setCell ⟨h, 3, none⟩ u3).setCell ⟨h, 4, none⟩ u4) h u0 u1 u2 u3 u4 ∧
    Below N u ((((((((W.setCell ⟨g, 0, none⟩ v0).setCell ⟨g, 1, none⟩ v1).setCell ⟨g, 2, none⟩ v2).setCell ⟨h, 0, none⟩ u0).setCell ⟨h, 1, none⟩ u1).setCell ⟨h, 2, none⟩ u2).setCell ⟨h, 3, none⟩ u3).setCell ⟨h, 4, none⟩ u4) := by
  refine ⟨?_, ?_, ?_⟩
  · exact set_far (set_far (set_far (set_far (set_far (set_blk (set_blk (set_blk h3 0 _) 1 _) 2 _) hne) hne) hne) hne) hne
  · exact set_blk (set_blk (set_blk (set_blk (set_blk (set_far (set_far (set_far h5 hne.symm) hne.symm) hne.symm) 0 _) 1 _) 2 _) 3 _) 4 _
  · exact ((((((((hb.setCell (p := ⟨g, 0, none⟩) hg _).setCell (p := ⟨g, 1, none⟩) hg _).setCell (p := ⟨g, 2, none⟩) hg _).setCell (p := ⟨h, 0, none⟩) hh _).setCell (p := ⟨h, 1, none⟩) hh _).setCell (p := ⟨h, 2, none⟩) hh _).setCell (p := ⟨h, 3, none⟩) hh _).setCell (p := ⟨h, 4, none⟩) hh _)
def rdV (s : ByteArray) (a er : Nat) : Value := .agg #[.string s, .int .i64 a, .int .i64 er]
def gtV (x : Nat) (y : Int) (t : ByteArray) : Value := .agg #[.int .u64 x, .int .i64 y, .string t, .int .i64 0, .int .i64 0]
theorem alloc3 (w : World) (o0 o1 o2 : Obj) : (((w.alloc o0).alloc o1).alloc o2).heap[w.heap.size]? = some o0 ∧ (((w.alloc o0).alloc o1).alloc o2).heap[w.heap.size + 1]? = some o1 ∧ (((w.alloc o0).alloc o1).alloc o2).heap[w.heap.size + 1 + 1]? = some o2 ∧ Below w.heap.size w (((w.alloc o0).alloc o1).alloc o2) := by
  have z0 : (w.alloc o0).heap.size = w.heap.size + 1 := by simp
  have z1 : ((w.alloc o0).alloc o1).heap.size = w.heap.size + 1 + 1 := by simp
  have n0 := heap_alloc_new w o0
  have n1 := heap_alloc_new (w.alloc o0) o1
  have n2 := heap_alloc_new ((w.alloc o0).alloc o1) o2
  rw [z0] at n1
  rw [z1] at n2
  refine ⟨?_, ?_, n2, ((((Below.refl _ w).alloc (Nat.le_refl _) _).alloc (by omega) _).alloc (by omega) _)⟩
  · exact (Below.heap_alloc _ _ _ (by omega)).trans ((Below.heap_alloc _ _ _ (by omega)).trans n0)
  · exact (Below.heap_alloc _ _ _ (by omega)).trans n1
theorem alloc4w (w : World) (o0 o1 o2 o3 : Obj) : ((((w.alloc o0).alloc o1).alloc o2).alloc o3).heap[w.heap.size]? = some o0 ∧ ((((w.alloc o0).alloc o1).alloc o2).alloc o3).heap[w.heap.size + 1]? = some o1 ∧ ((((w.alloc o0).alloc o1).alloc o2).alloc o3).heap[w.heap.size + 1 + 1]? = some o2 ∧ ((((w.alloc o0).alloc o1).alloc o2).alloc o3).heap[w.heap.size + 1 + 1 + 1]? = some o3 ∧ Below w.heap.size w ((((w.alloc o0).alloc o1).alloc o2).alloc o3) := by
  obtain ⟨h0, h1, h2, hb⟩ := alloc3 w o0 o1 o2
  have z2 : (((w.alloc o0).alloc o1).alloc o2).heap.size = w.heap.size + 1 + 1 + 1 := by simp
  have n3 := heap_alloc_new (((w.alloc o0).alloc o1).alloc o2) o3
  rw [z2] at n3
  exact ⟨(Below.heap_alloc _ _ _ (by omega)).trans h0, (Below.heap_alloc _ _ _ (by omega)).trans h1, (Below.heap_alloc _ _ _ (by omega)).trans h2, n3, hb.alloc hb.size _⟩
set_option maxRecDepth 100000 in
set_option maxHeartbeats 1600000 in
theorem dwrong_any (s : ByteArray) (a er e : Nat) (w : World) :
    Calls Try.prog 73 #[rdV s a er, .int .i64 e] w fun e' w' => e' = .returned (.tuple #[rdV s a e, gtV 0 0 ⟨#[]⟩]) ∧ Below w.heap.size w w' := by
  obtain ⟨h0, h1, h2, hb⟩ := alloc3 w (.cells #[.string s, .int .i64 a, .int .i64 e] 78) (.cells #[.string s, .int .i64 a, .int .i64 e] 78) (.cells #[.int .u64 0, .int .i64 0, .string ⟨#[]⟩, .int .i64 0, .int .i64 0] 42)
  have HB := Lib.hid hb
  have H1 := Lib.hid h1
  have H2 := Lib.hid h2
  clear h0 h1 h2 hb
  unfold rdV
  go_enter Try.func73, Try.ntmps73
  go_wp2_with fail
  generalize ((w.alloc (.cells #[.string s, .int .i64 a, .int .i64 e] 78)).alloc (.cells #[.string s, .int .i64 a, .int .i64 e] 78)).alloc (.cells #[.int .u64 0, .int .i64 0, .string ⟨#[]⟩, .int .i64 0, .int .i64 0] 42) = W at HB H1 H2 ⊢
  obtain ⟨y0, y1, y2, yf⟩ := three.cells H1.out
  obtain ⟨z0, z1, z2, z3, z4, zf⟩ := five.cells H2.out
  exact bodyPost_ret (v := .tuple #[rdV s a e, gtV 0 0 ⟨#[]⟩]) (by simp [results, Try.results73, go_sem, rdV, gtV, y0, y1, y2, z0, z1, z2, z3, z4]) rfl ⟨rfl, HB.out⟩
set_option maxRecDepth 100000 in
set_option maxHeartbeats 1600000 in
theorem dend_any (s : ByteArray) (a er : Nat) (w : World) :
    Calls Try.prog 46 #[rdV s a er] w fun e w' => e = .returned (.int .i64 (endF s a er : Nat)) ∧ Below w.heap.size w w' := by
  have HB := Lib.hid ((Below.refl _ w).alloc (Nat.le_refl _) (.cells #[.string s, .int .i64 a, .int .i64 er] 78))
  unfold rdV
  by_cases h0 : er = 0
  · subst h0
    by_cases h1 : a < s.size
    · have he := Lib.hid (show endF s a 0 = 5 by unfold endF; rw [if_pos ⟨rfl, h1⟩])
      have hd : decide ((a : Int) < s.size) = true := by simp; omega
      have hd2 : decide (a < s.size) = true := by simp; omega
      go_enter Try.func46, Try.ntmps46
      go_wp2_with fail
      go_ret
      exact ⟨by rw [he.out]; rfl, HB.out⟩
    · have he := Lib.hid (show endF s a 0 = 0 by unfold endF; rw [if_neg (by omega)])
      have hd : decide ((a : Int) < s.size) = false := by simp; omega
      have hd2 : decide (a < s.size) = false := by simp; omega
      go_enter Try.func46, Try.ntmps46
      go_wp2_with fail
      go_ret
      exact ⟨by rw [he.out]; rfl, HB.out⟩
  · have he := Lib.hid (show endF s a er = er by unfold endF; rw [if_neg (by omega)])
    have hd : ((er : Int) == 0) = false := by simp; omega
    go_enter Try.func46, Try.ntmps46
    go_wp2_with fail
    go_ret
    exact ⟨by rw [he.out]; rfl, HB.out⟩
set_option maxRecDepth 100000 in
set_option maxHeartbeats 4000000 in
theorem dtext_bad (s : ByteArray) (a er q n : Nat) (w : World) (hs : s.size ≤ maxLen) (hq : q ≤ s.size) (hn : U64 n) (h : ¬ q + n ≤ s.size) :
    Calls Try.prog 74 #[rdV s a er, .int .i64 q, .int .u64 n] w fun e w' => e = .returned (.tuple #[rdV s a 2, gtV 0 0 ⟨#[]⟩]) ∧ Below w.heap.size w w' := by
  unfold maxLen at hs
  unfold U64 at hn
  obtain ⟨m, hm⟩ : ∃ m, s.size - q = m := ⟨_, rfl⟩
  have hm2 : (s.size : Int) - q = (m : Int) := by omega
  have hm3 : IntKind.i64.wrap ((s.size : Int) - q) = (m : Int) := by rw [hm2]; exact IntWalk.i64_in _ (by omega)
  have hm4 : IntKind.u64.wrap (m : Int) = (m : Int) := by rw [IntKind.wrap_u64]; omega
  have hd : decide ((m : Int) < n) = true := by simp; omega
  have hd2 : decide (m < n) = true := by simp; omega
  have CW := Lib.hid (fun W => dwrong_any s a er 2 W)
  unfold rdV at CW ⊢
  obtain ⟨h0, h1, h2, hb⟩ := alloc3 w (.cells #[.string s, .int .i64 a, .int .i64 er] 78) (.cells #[.string ⟨#[]⟩, .int .i64 0, .int .i64 0] 78) (.cells #[.int .u64 0, .int .i64 0, .string ⟨#[]⟩, .int .i64 0, .int .i64 0] 42)
  have HB := Lib.hid hb
  have H1 := Lib.hid h1
  have H2 := Lib.hid h2
  clear h0 h1 h2 hb hm hm2 hs hq hn h
  unfold gtV at CW ⊢
  go_enter Try.func74, Try.ntmps74
  go_wp2_with fail
  generalize ((w.alloc (.cells #[.string s, .int .i64 a, .int .i64 er] 78)).alloc (.cells #[.string ⟨#[]⟩, .int .i64 0, .int .i64 0] 78)).alloc (.cells #[.int .u64 0, .int .i64 0, .string ⟨#[]⟩, .int .i64 0, .int .i64 0] 42) = W at HB H1 H2 ⊢
  refine (CW.out _).mono ?_
  rintro e w2 ⟨rfl, hb2⟩
  have k1 := three.later H1.out hb2
  have k2 := five.later H2.out hb2
  obtain ⟨y0, y1, y2, yf⟩ := k1.cells
  obtain ⟨z0, z1, z2, z3, z4, zf⟩ := k2.cells
  have yf0 := yf 0
  have yf1 := yf 1
  have yf2 := yf 2
  have zf0 := zf 0
  have zf1 := zf 1
  have zf2 := zf 2
  have zf3 := zf 3
  have zf4 := zf 4
  have FIN := Lib.hid (fin8 k1 k2 (by omega) (HB.out.trans (hb2.mono HB.out.size)) (by omega) (by omega) (.string s) (.int .i64 a) (.int .i64 2) (.int .u64 0) (.int .i64 0) (.string ⟨#[]⟩) (.int .i64 0) (.int .i64 0))
  clear k1 k2 hb2 yf zf
  go_wp2_with fail
  generalize ((((((((w2).setCell ⟨w.heap.size + 1, 0, none⟩ (.string s)).setCell ⟨w.heap.size + 1, 1, none⟩ (.int .i64 a)).setCell ⟨w.heap.size + 1, 2, none⟩ (.int .i64 2)).setCell ⟨w.heap.size + 1 + 1, 0, none⟩ (.int .u64 0)).setCell ⟨w.heap.size + 1 + 1, 1, none⟩ (.int .i64 0)).setCell ⟨w.heap.size + 1 + 1, 2, none⟩ (.string ⟨#[]⟩)).setCell ⟨w.heap.size + 1 + 1, 3, none⟩ (.int .i64 0)).setCell ⟨w.heap.size + 1 + 1, 4, none⟩ (.int .i64 0) = W8 at FIN ⊢
  obtain ⟨j1, j2, jb⟩ := FIN.out
  obtain ⟨y0, y1, y2, yf⟩ := three.cells j1
  obtain ⟨z0, z1, z2, z3, z4, zf⟩ := five.cells j2
  exact bodyPost_ret (v := .tuple #[.agg #[.string s, .int .i64 a, .int .i64 2], .agg #[.int .u64 0, .int .i64 0, .string ⟨#[]⟩, .int .i64 0, .int .i64 0]]) (by simp [results, Try.results74, go_sem, y0, y1, y2, z0, z1, z2, z3, z4]) rfl ⟨rfl, jb⟩
set_option maxRecDepth 100000 in
set_option maxHeartbeats 4000000 in
theorem dtext_ok (s : ByteArray) (a er q n : Nat) (w : World) (hs : s.size ≤ maxLen) (hn : U64 n) (h : q + n ≤ s.size) :
    Calls Try.prog 74 #[rdV s a er, .int .i64 q, .int .u64 n] w fun e w' => e = .returned (.tuple #[rdV s (q + n : Nat) er, gtV 0 0 (s.extract q (q + n))]) ∧ Below w.heap.size w w' := by
  unfold maxLen at hs
  unfold U64 at hn
  obtain ⟨m, hm⟩ : ∃ m, s.size - q = m := ⟨_, rfl⟩
  have hm2 : (s.size : Int) - q = (m : Int) := by omega
  have hm3 : IntKind.i64.wrap ((s.size : Int) - q) = (m : Int) := by rw [hm2]; exact IntWalk.i64_in _ (by omega)
  have hm4 : IntKind.u64.wrap (m : Int) = (m : Int) := by rw [IntKind.wrap_u64]; omega
  have hd : decide ((m : Int) < n) = false := by simp; omega
  have hd2 : decide (m < n) = false := by simp; omega
  have hn1 : IntKind.i64.wrap (n : Int) = (n : Int) := IntWalk.i64_in _ (by omega)
  have hn2 : wrap64 (n : Int) = (n : Int) := IntWalk.wrap64_in _ (by omega)
  have hn3 : IntKind.i64.wrap ((q : Int) + n) = ((q + n : Nat) : Int) := by rw [Int.natCast_add]; exact IntWalk.i64_in _ (by omega)
  have hn4 : wrap64 ((q : Int) + n) = ((q + n : Nat) : Int) := by rw [Int.natCast_add]; exact IntWalk.wrap64_in _ (by omega)
  obtain ⟨k, hk⟩ : ∃ k, q + n = k := ⟨_, rfl⟩
  rw [hk] at hn3 hn4 ⊢
  have f1 : q ≤ k := by omega
  have f2 : k ≤ s.size := by omega
  have f3 : (q : Int) ≤ (k : Int) := by omega
  have f4 : (k : Int) ≤ (s.size : Int) := by omega
  unfold rdV gtV
  clear hm hm2 hs hn h hk
  obtain ⟨h0, h1, h2, h3, hb⟩ := alloc4w w (.cells #[.string s, .int .i64 k, .int .i64 er] 78) (.cells #[.string ⟨#[]⟩, .int .i64 0, .int .i64 0] 78) (.cells #[.int .u64 0, .int .i64 0, .string ⟨#[]⟩, .int .i64 0, .int .i64 0] 42) (.cells #[.int .u64 0, .int .i64 0, .string (s.extract q k), .int .i64 0, .int .i64 0] 42)
  have HB := Lib.hid hb
  have H0 := Lib.hid h0
  have H1 := Lib.hid h1
  have H2 := Lib.hid h2
  have H3 := Lib.hid h3
  clear h0 h1 h2 h3 hb
  go_enter Try.func74, Try.ntmps74
  go_wp2_with fail
  generalize (((w.alloc (.cells #[.string s, .int .i64 k, .int .i64 er] 78)).alloc (.cells #[.string ⟨#[]⟩, .int .i64 0, .int .i64 0] 78)).alloc (.cells #[.int .u64 0, .int .i64 0, .string ⟨#[]⟩, .int .i64 0, .int .i64 0] 42)).alloc (.cells #[.int .u64 0, .int .i64 0, .string (s.extract q k), .int .i64 0, .int .i64 0] 42) = W at HB H0 H1 H2 H3 ⊢
  obtain ⟨x0, x1, x2, _⟩ := three.cells H0.out
  obtain ⟨t0, t1, t2, t3, t4, _⟩ := five.cells H3.out
  have k1 : three W (w.heap.size + 1) _ _ _ := H1.out
  have k2 : five W (w.heap.size + 1 + 1) _ _ _ _ _ := H2.out
  obtain ⟨y0, y1, y2, yf⟩ := k1.cells
  obtain ⟨z0, z1, z2, z3, z4, zf⟩ := k2.cells
  have yf0 := yf 0
  have yf1 := yf 1
  have yf2 := yf 2
  have zf0 := zf 0
  have zf1 := zf 1
  have zf2 := zf 2
  have zf3 := zf 3
  have zf4 := zf 4
  have FIN := Lib.hid (fin8 k1 k2 (by omega) HB.out (by omega) (by omega) (.string s) (.int .i64 k) (.int .i64 er) (.int .u64 0) (.int .i64 0) (.string (s.extract q k)) (.int .i64 0) (.int .i64 0))
  clear k1 k2 yf zf
  go_region_with (fail)
  all_goals go_wp2_with fail
  all_goals (
    go_wp2_with fail
    generalize ((((((((W).setCell ⟨w.heap.size + 1, 0, none⟩ (.string s)).setCell ⟨w.heap.size + 1, 1, none⟩ (.int .i64 k)).setCell ⟨w.heap.size + 1, 2, none⟩ (.int .i64 er)).setCell ⟨w.heap.size + 1 + 1, 0, none⟩ (.int .u64 0)).setCell ⟨w.heap.size + 1 + 1, 1, none⟩ (.int .i64 0)).setCell ⟨w.heap.size + 1 + 1, 2, none⟩ (.string (s.extract q k))).setCell ⟨w.heap.size + 1 + 1, 3, none⟩ (.int .i64 0)).setCell ⟨w.heap.size + 1 + 1, 4, none⟩ (.int .i64 0) = W8 at FIN ⊢
    obtain ⟨j1, j2, jb⟩ := FIN.out
    obtain ⟨y0, y1, y2, yf⟩ := three.cells j1
    obtain ⟨z0, z1, z2, z3, z4, zf⟩ := five.cells j2
    exact bodyPost_ret (v := .tuple #[.agg #[.string s, .int .i64 k, .int .i64 er], .agg #[.int .u64 0, .int .i64 0, .string (s.extract q k), .int .i64 0, .int .i64 0]]) (by simp [results, Try.results74, go_sem, y0, y1, y2, z0, z1, z2, z3, z4]) rfl ⟨rfl, jb.drew⟩)
theorem dtext_any (s : ByteArray) (a er q n : Nat) (w : World) (hs : s.size ≤ maxLen) (hq : q ≤ s.size) (hn : U64 n) :
    Calls Try.prog 74 #[rdV s a er, .int .i64 q, .int .u64 n] w fun e w' => e = .returned (.tuple #[rdV s (if q + n ≤ s.size then q + n else a) (if q + n ≤ s.size then er else 2), gtV 0 0 (pS s q n)]) ∧ Below w.heap.size w w' := by
  unfold pS
  by_cases h : q + n ≤ s.size
  · rw [if_pos h, if_pos h, if_pos h]; exact dtext_ok s a er q n w hs hn h
  · rw [if_neg h, if_neg h, if_neg h]; exact dtext_bad s a er q n w hs hq hn h
end Go.Proofs.Ytpnljefgenniaaa

