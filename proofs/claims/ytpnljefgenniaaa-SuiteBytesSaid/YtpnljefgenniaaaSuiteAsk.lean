/- The document's Ask: one thing is read, as a number. No conditions. -/
import Derived.Test.YtpnljefgenniaaaSuiteGet
import Derived.Test.YtpnljefgenniaaaWireRefDo2
namespace Go.Proofs.Ytpnljefgenniaaa
set_option linter.unusedVariables false
open Go Go.RowKit

theorem alloc2 (w : World) (o0 o1 : Obj) : ((w.alloc o0).alloc o1).heap[w.heap.size]? = some o0 ∧ ((w.alloc o0).alloc o1).heap[w.heap.size + 1]? = some o1 ∧ Below w.heap.size w ((w.alloc o0).alloc o1) ∧ ((w.alloc o0).alloc o1).heap.size = w.heap.size + 2 := by
  have n0 := heap_alloc_new w o0
  have n1 := heap_alloc_new (w.alloc o0) o1
  rw [World.size_alloc] at n1
  exact ⟨(Below.heap_alloc _ _ _ (by simp)).trans n0, n1, ((Below.refl _ w).alloc (Nat.le_refl _) _).alloc (by simp) _, by simp⟩
set_option maxRecDepth 100000 in
set_option maxHeartbeats 4000000 in
theorem ask2_any (s : ByteArray) (a er : Nat) (w : World) (hs : s.size ≤ maxLen) (ha : a ≤ s.size) :
    Calls Try.prog 69 #[rdV s a er, .int .i64 2] w fun e w' => e = .returned (.tuple #[rdV s (cA s a er 1000000) (cR s a er 1000000), .int .i64 (if cR s a er 1000000 = 0 then (cV s a er 1000000 : Int) else -1)]) ∧ Below w.heap.size w w' := by
  have CD := Lib.hid (fun W => ddo_any s a er 2 1000000 W hs ha (by unfold I64; omega))
  have hv := cV_le s a er 1000000
  rw [show oNum s a er 2 1000000 = cV s a er 1000000 from rfl, show oA s a er 2 1000000 = cA s a er 1000000 from rfl, show oR s a er 2 1000000 = cR s a er 1000000 from rfl] at CD
  generalize cA s a er 1000000 = A at CD ⊢
  generalize cR s a er 1000000 = R at CD ⊢
  generalize cV s a er 1000000 = x at CD hv ⊢
  generalize oInt s a er 2 1000000 = y at CD
  generalize oText s a er 2 1000000 = t at CD
  obtain ⟨q, hq⟩ : ∃ q : Int, (if R = 0 then (x : Int) else -1) = q := ⟨_, rfl⟩
  rw [hq]
  have HQ := Lib.hid hq
  clear hq
  obtain ⟨h0, h1, hb, hz⟩ := alloc2 w (.cells #[.string s, .int .i64 a, .int .i64 er] 78) (.cells #[.string ⟨#[]⟩, .int .i64 0, .int .i64 0] 78)
  have HB := Lib.hid hb
  have H1 := Lib.hid (show three _ _ _ _ _ from h1)
  have HZ := Lib.hid hz
  clear h0 h1 hb hz hs ha
  unfold rdV gtV at CD
  unfold rdV
  have hwx : IntKind.i64.wrap (x : Int) = (x : Int) := by rw [IntKind.wrap_i64]; omega
  go_enter Try.func69, Try.ntmps69
  go_wp2_with fail
  generalize (w.alloc (.cells #[.string s, .int .i64 a, .int .i64 er] 78)).alloc (.cells #[.string ⟨#[]⟩, .int .i64 0, .int .i64 0] 78) = V at HB H1 HZ ⊢
  refine (CD.out _).mono ?_
  rintro e w2 ⟨rfl, hb2⟩
  have hlt : w.heap.size + 1 < w2.heap.size := by have := hb2.size; have := HZ.out; omega
  have hlt0 : w.heap.size < w2.heap.size := by omega
  have h12 := three.later H1.out hb2
  have Y := Lib.hid h12
  obtain ⟨y0, y1, y2, yf⟩ := h12.cells
  have yf0 := yf 0
  have yf1 := yf 1
  have yf2 := yf 2
  obtain ⟨n0, n1, hbn, hzn⟩ := alloc2 w2 (.cells #[.string s, .int .i64 A, .int .i64 R] 78) (.cells #[.int .u64 x, .int .i64 y, .string t, .int .i64 0, .int .i64 0] 42)
  have T1 := Lib.hid (three.later h12 hbn)
  have T2 := Lib.hid (show three _ _ _ _ _ from n0)
  have T3 := Lib.hid (show five _ _ _ _ _ _ _ from n1)
  have B2 := Lib.hid ((HB.out.trans (hb2.mono HB.out.size)).trans (hbn.mono (by omega)))
  have BW := Lib.hid (HB.out.trans (hb2.mono HB.out.size))
  clear hb2 H1 HB HZ CD n0 n1 hbn hzn h12 yf
  by_cases hR : R = 0
  · subst hR
    have hqx : q = x := by rw [← HQ.out]; rfl
    subst hqx
    clear HQ
    go_wp2_with fail
    generalize (w2.alloc (.cells #[.string s, .int .i64 A, .int .i64 ((0 : Nat) : Int)] 78)).alloc (.cells #[.int .u64 x, .int .i64 y, .string t, .int .i64 0, .int .i64 0] 42) = W at T1 T2 T3 B2 ⊢
    clear y0 y1 y2 yf0 yf1 yf2 Y
    obtain ⟨y0, y1, y2, yf⟩ := T1.out.cells
    obtain ⟨z0, z1, z2, zf⟩ := T2.out.cells
    obtain ⟨x0, x1, x2, x3, x4, xf⟩ := T3.out.cells
    have yf0 := yf 0
    have yf1 := yf 1
    have yf2 := yf 2
    clear yf zf xf
    go_region
    all_goals go_wp2_with fail
    have K : three (((W.setCell ⟨w.heap.size + 1, 0, none⟩ (.string s)).setCell ⟨w.heap.size + 1, 1, none⟩ (.int .i64 A)).setCell ⟨w.heap.size + 1, 2, none⟩ (.int .i64 ((0 : Nat) : Int))).drew (w.heap.size + 1) (.string s) (.int .i64 A) (.int .i64 ((0 : Nat) : Int)) := set_blk (set_blk (set_blk T1.out 0 _) 1 _) 2 _
    have hfin : Below w.heap.size w (((W.setCell ⟨w.heap.size + 1, 0, none⟩ (.string s)).setCell ⟨w.heap.size + 1, 1, none⟩ (.int .i64 A)).setCell ⟨w.heap.size + 1, 2, none⟩ (.int .i64 ((0 : Nat) : Int))).drew := (((B2.out.setCell (p := ⟨w.heap.size + 1, 0, none⟩) (Nat.le_succ _) _).setCell (p := ⟨w.heap.size + 1, 1, none⟩) (Nat.le_succ _) _).setCell (p := ⟨w.heap.size + 1, 2, none⟩) (Nat.le_succ _) _).drew
    clear y0 y1 y2 yf0 yf1 yf2 T1 T2 T3 z0 z1 z2 x0 x1 x2 x3 x4
    generalize (((W.setCell ⟨w.heap.size + 1, 0, none⟩ (.string s)).setCell ⟨w.heap.size + 1, 1, none⟩ (.int .i64 A)).setCell ⟨w.heap.size + 1, 2, none⟩ (.int .i64 ((0 : Nat) : Int))).drew = W2 at K hfin ⊢
    obtain ⟨y0, y1, y2, _⟩ := K.cells
    exact bodyPost_ret (v := .tuple #[.agg #[.string s, .int .i64 A, .int .i64 ((0 : Nat) : Int)], .int .i64 x]) (by simp [results, Try.results69, go_sem, y0, y1, y2]) rfl ⟨rfl, hfin⟩
  · have hre : ((R : Int) == 0) = false := by simp; omega
    have hqx : q = -1 := by rw [← HQ.out, if_neg hR]
    subst hqx
    clear hR HQ
    go_wp2_with fail
    have K : three ((((w2.setCell ⟨w.heap.size + 1, 0, none⟩ (.string s)).setCell ⟨w.heap.size + 1, 1, none⟩ (.int .i64 A)).setCell ⟨w.heap.size + 1, 2, none⟩ (.int .i64 R)).alloc (.cells #[.string s, .int .i64 A, .int .i64 R] 78)) (w.heap.size + 1) (.string s) (.int .i64 A) (.int .i64 R) := (Below.heap_alloc _ _ _ (by simpa using hlt)).trans (set_blk (set_blk (set_blk Y.out 0 _) 1 _) 2 _)
    have K2 : three (((((w2.setCell ⟨w.heap.size + 1, 0, none⟩ (.string s)).setCell ⟨w.heap.size + 1, 1, none⟩ (.int .i64 A)).setCell ⟨w.heap.size + 1, 2, none⟩ (.int .i64 R)).alloc (.cells #[.string s, .int .i64 A, .int .i64 R] 78)).alloc (.cells #[.int .u64 x, .int .i64 y, .string t, .int .i64 0, .int .i64 0] 42)) (w.heap.size + 1) (.string s) (.int .i64 A) (.int .i64 R) := (Below.heap_alloc _ _ _ (by simp; omega)).trans K
    have hfin : Below w.heap.size w (((((w2.setCell ⟨w.heap.size + 1, 0, none⟩ (.string s)).setCell ⟨w.heap.size + 1, 1, none⟩ (.int .i64 A)).setCell ⟨w.heap.size + 1, 2, none⟩ (.int .i64 R)).alloc (.cells #[.string s, .int .i64 A, .int .i64 R] 78)).alloc (.cells #[.int .u64 x, .int .i64 y, .string t, .int .i64 0, .int .i64 0] 42)) := ((((BW.out.setCell (p := ⟨w.heap.size + 1, 0, none⟩) (Nat.le_succ _) _).setCell (p := ⟨w.heap.size + 1, 1, none⟩) (Nat.le_succ _) _).setCell (p := ⟨w.heap.size + 1, 2, none⟩) (Nat.le_succ _) _).alloc (by simp; omega) _).alloc (by simp; omega) _
    clear y0 y1 y2 yf0 yf1 yf2 T1 T2 T3 Y K
    generalize ((((w2.setCell ⟨w.heap.size + 1, 0, none⟩ (.string s)).setCell ⟨w.heap.size + 1, 1, none⟩ (.int .i64 A)).setCell ⟨w.heap.size + 1, 2, none⟩ (.int .i64 R)).alloc (.cells #[.string s, .int .i64 A, .int .i64 R] 78)).alloc (.cells #[.int .u64 x, .int .i64 y, .string t, .int .i64 0, .int .i64 0] 42) = W2 at K2 hfin ⊢
    obtain ⟨y0, y1, y2, _⟩ := K2.cells
    exact bodyPost_ret (v := .tuple #[.agg #[.string s, .int .i64 A, .int .i64 R], .int .i64 (-1)]) (by simp [results, Try.results69, go_sem, y0, y1, y2]) rfl ⟨rfl, hfin⟩
set_option maxRecDepth 100000 in
set_option maxHeartbeats 4000000 in
theorem ask3_at (s : ByteArray) (a er : Nat) (w : World) (hs : s.size ≤ maxLen) (ha : a ≤ s.size) :
    Calls Try.prog 69 #[rdV s a er, .int .i64 3] w fun e w' => e = .returned (.tuple #[rdV s (mvA a er (gT s a) (gE s a)) (mvE er (gE s a)), .int .i64 (if mvE er (gE s a) = 0 then tk er (gE s a) (zN s a) 0 else -1)]) ∧ Below w.heap.size w w' := by
  have CD := Lib.hid (fun W => ddo_any s a er 3 1000000 W hs ha (by unfold I64; omega))
  rw [show oInt s a er 3 1000000 = tk er (gE s a) (zN s a) 0 from rfl, show oA s a er 3 1000000 = mvA a er (gT s a) (gE s a) from rfl, show oR s a er 3 1000000 = mvE er (gE s a) from rfl] at CD
  generalize mvA a er (gT s a) (gE s a) = A at CD ⊢
  generalize mvE er (gE s a) = R at CD ⊢
  generalize tk er (gE s a) (zN s a) 0 = y at CD ⊢
  generalize oNum s a er 3 1000000 = x at CD
  generalize oText s a er 3 1000000 = t at CD
  obtain ⟨q, hq⟩ : ∃ q : Int, (if R = 0 then y else -1) = q := ⟨_, rfl⟩
  rw [hq]
  have HQ := Lib.hid hq
  clear hq
  obtain ⟨h0, h1, hb, hz⟩ := alloc2 w (.cells #[.string s, .int .i64 a, .int .i64 er] 78) (.cells #[.string ⟨#[]⟩, .int .i64 0, .int .i64 0] 78)
  have HB := Lib.hid hb
  have H1 := Lib.hid (show three _ _ _ _ _ from h1)
  have HZ := Lib.hid hz
  clear h0 h1 hb hz hs ha
  unfold rdV gtV at CD
  unfold rdV
  go_enter Try.func69, Try.ntmps69
  go_wp2_with fail
  generalize (w.alloc (.cells #[.string s, .int .i64 a, .int .i64 er] 78)).alloc (.cells #[.string ⟨#[]⟩, .int .i64 0, .int .i64 0] 78) = V at HB H1 HZ ⊢
  refine (CD.out _).mono ?_
  rintro e w2 ⟨rfl, hb2⟩
  have hlt : w.heap.size + 1 < w2.heap.size := by have := hb2.size; have := HZ.out; omega
  have hlt0 : w.heap.size < w2.heap.size := by omega
  have h12 := three.later H1.out hb2
  have Y := Lib.hid h12
  obtain ⟨y0, y1, y2, yf⟩ := h12.cells
  have yf0 := yf 0
  have yf1 := yf 1
  have yf2 := yf 2
  obtain ⟨n0, n1, hbn, hzn⟩ := alloc2 w2 (.cells #[.string s, .int .i64 A, .int .i64 R] 78) (.cells #[.int .u64 x, .int .i64 y, .string t, .int .i64 0, .int .i64 0] 42)
  have T1 := Lib.hid (three.later h12 hbn)
  have T2 := Lib.hid (show three _ _ _ _ _ from n0)
  have T3 := Lib.hid (show five _ _ _ _ _ _ _ from n1)
  have B2 := Lib.hid ((HB.out.trans (hb2.mono HB.out.size)).trans (hbn.mono (by omega)))
  have BW := Lib.hid (HB.out.trans (hb2.mono HB.out.size))
  clear hb2 H1 HB HZ CD n0 n1 hbn hzn h12 yf
  by_cases hR : R = 0
  · subst hR
    have hqx : y = q := by rw [← HQ.out]; rfl
    subst hqx
    clear HQ
    go_wp2_with fail
    generalize (w2.alloc (.cells #[.string s, .int .i64 A, .int .i64 ((0 : Nat) : Int)] 78)).alloc (.cells #[.int .u64 x, .int .i64 y, .string t, .int .i64 0, .int .i64 0] 42) = W at T1 T2 T3 B2 ⊢
    clear y0 y1 y2 yf0 yf1 yf2 Y
    obtain ⟨y0, y1, y2, yf⟩ := T1.out.cells
    obtain ⟨z0, z1, z2, zf⟩ := T2.out.cells
    obtain ⟨x0, x1, x2, x3, x4, xf⟩ := T3.out.cells
    have yf0 := yf 0
    have yf1 := yf 1
    have yf2 := yf 2
    clear yf zf xf
    go_region
    all_goals go_wp2_with fail
    have K : three (((W.setCell ⟨w.heap.size + 1, 0, none⟩ (.string s)).setCell ⟨w.heap.size + 1, 1, none⟩ (.int .i64 A)).setCell ⟨w.heap.size + 1, 2, none⟩ (.int .i64 ((0 : Nat) : Int))).drew (w.heap.size + 1) (.string s) (.int .i64 A) (.int .i64 ((0 : Nat) : Int)) := set_blk (set_blk (set_blk T1.out 0 _) 1 _) 2 _
    have hfin : Below w.heap.size w (((W.setCell ⟨w.heap.size + 1, 0, none⟩ (.string s)).setCell ⟨w.heap.size + 1, 1, none⟩ (.int .i64 A)).setCell ⟨w.heap.size + 1, 2, none⟩ (.int .i64 ((0 : Nat) : Int))).drew := (((B2.out.setCell (p := ⟨w.heap.size + 1, 0, none⟩) (Nat.le_succ _) _).setCell (p := ⟨w.heap.size + 1, 1, none⟩) (Nat.le_succ _) _).setCell (p := ⟨w.heap.size + 1, 2, none⟩) (Nat.le_succ _) _).drew
    clear y0 y1 y2 yf0 yf1 yf2 T1 T2 T3 z0 z1 z2 x0 x1 x2 x3 x4
    generalize (((W.setCell ⟨w.heap.size + 1, 0, none⟩ (.string s)).setCell ⟨w.heap.size + 1, 1, none⟩ (.int .i64 A)).setCell ⟨w.heap.size + 1, 2, none⟩ (.int .i64 ((0 : Nat) : Int))).drew = W2 at K hfin ⊢
    obtain ⟨y0, y1, y2, _⟩ := K.cells
    exact bodyPost_ret (v := .tuple #[.agg #[.string s, .int .i64 A, .int .i64 ((0 : Nat) : Int)], .int .i64 y]) (by simp [results, Try.results69, go_sem, y0, y1, y2]) rfl ⟨rfl, hfin⟩
  · have hre : ((R : Int) == 0) = false := by simp; omega
    have hqx : q = -1 := by rw [← HQ.out, if_neg hR]
    subst hqx
    clear hR HQ
    go_wp2_with fail
    have K : three ((((w2.setCell ⟨w.heap.size + 1, 0, none⟩ (.string s)).setCell ⟨w.heap.size + 1, 1, none⟩ (.int .i64 A)).setCell ⟨w.heap.size + 1, 2, none⟩ (.int .i64 R)).alloc (.cells #[.string s, .int .i64 A, .int .i64 R] 78)) (w.heap.size + 1) (.string s) (.int .i64 A) (.int .i64 R) := (Below.heap_alloc _ _ _ (by simpa using hlt)).trans (set_blk (set_blk (set_blk Y.out 0 _) 1 _) 2 _)
    have K2 : three (((((w2.setCell ⟨w.heap.size + 1, 0, none⟩ (.string s)).setCell ⟨w.heap.size + 1, 1, none⟩ (.int .i64 A)).setCell ⟨w.heap.size + 1, 2, none⟩ (.int .i64 R)).alloc (.cells #[.string s, .int .i64 A, .int .i64 R] 78)).alloc (.cells #[.int .u64 x, .int .i64 y, .string t, .int .i64 0, .int .i64 0] 42)) (w.heap.size + 1) (.string s) (.int .i64 A) (.int .i64 R) := (Below.heap_alloc _ _ _ (by simp; omega)).trans K
    have hfin : Below w.heap.size w (((((w2.setCell ⟨w.heap.size + 1, 0, none⟩ (.string s)).setCell ⟨w.heap.size + 1, 1, none⟩ (.int .i64 A)).setCell ⟨w.heap.size + 1, 2, none⟩ (.int .i64 R)).alloc (.cells #[.string s, .int .i64 A, .int .i64 R] 78)).alloc (.cells #[.int .u64 x, .int .i64 y, .string t, .int .i64 0, .int .i64 0] 42)) := ((((BW.out.setCell (p := ⟨w.heap.size + 1, 0, none⟩) (Nat.le_succ _) _).setCell (p := ⟨w.heap.size + 1, 1, none⟩) (Nat.le_succ _) _).setCell (p := ⟨w.heap.size + 1, 2, none⟩) (Nat.le_succ _) _).alloc (by simp; omega) _).alloc (by simp; omega) _
    clear y0 y1 y2 yf0 yf1 yf2 T1 T2 T3 Y K
    generalize ((((w2.setCell ⟨w.heap.size + 1, 0, none⟩ (.string s)).setCell ⟨w.heap.size + 1, 1, none⟩ (.int .i64 A)).setCell ⟨w.heap.size + 1, 2, none⟩ (.int .i64 R)).alloc (.cells #[.string s, .int .i64 A, .int .i64 R] 78)).alloc (.cells #[.int .u64 x, .int .i64 y, .string t, .int .i64 0, .int .i64 0] 42) = W2 at K2 hfin ⊢
    obtain ⟨y0, y1, y2, _⟩ := K2.cells
    exact bodyPost_ret (v := .tuple #[.agg #[.string s, .int .i64 A, .int .i64 R], .int .i64 (-1)]) (by simp [results, Try.results69, go_sem, y0, y1, y2]) rfl ⟨rfl, hfin⟩
/-- what Ask reads behind k of them -/
def aI (s : ByteArray) (a er k : Nat) : Int := if (stI s a er (k + 1)).2 = 0 then vI s a er k else -1
theorem ask3_any (s : ByteArray) (a er k : Nat) (w : World) (hs : s.size ≤ maxLen) (ha : a ≤ s.size) :
    Calls Try.prog 69 #[rdV s (stI s a er k).1 (stI s a er k).2, .int .i64 3] w fun e w' => e = .returned (.tuple #[rdV s (stI s a er (k + 1)).1 (stI s a er (k + 1)).2, .int .i64 (aI s a er k)]) ∧ Below w.heap.size w w' :=
  ask3_at s (stI s a er k).1 (stI s a er k).2 w hs (stI_le ha k)
theorem aI_i64 {s : ByteArray} {a er : Nat} (h : a ≤ s.size) (k : Nat) : I64 (aI s a er k) := by
  unfold aI
  split
  · exact vI_i64 h k
  · unfold I64; omega
end Go.Proofs.Ytpnljefgenniaaa

