/- frame.Get at every text and place. No conditions. -/
import Derived.Test.YtanbifhhoeaofaaFrameCut3
import Derived.Deep.DeepCutAuto
import Derived.Laws.EntriesVeiled
import Derived.Handy
namespace Go.Proofs.Ytanbifhhoeaofaa
set_option linter.unusedVariables false
open Go Go.RowKit

theorem bytesFrom_shift (s : ByteArray) (a q : Nat) (h : a ≤ s.size) : bytesFrom (s.extract a s.size) q = bytesFrom s (a + q) := by
  unfold bytesFrom
  rw [ext_l, List.take_of_length_le (by rw [List.length_drop, ba_len]; omega), List.drop_drop]
theorem g_shift (s : ByteArray) (a q : Nat) (h : a + q ≤ s.size) : gN (s.extract a s.size) q = gN s (a + q) ∧ gE (s.extract a s.size) q = gE s (a + q) ∧ gT (s.extract a s.size) q + a = gT s (a + q) := by
  have hz : (s.extract a s.size).size = s.size - a := by rw [ByteArray.size_extract]; omega
  unfold gN gE gT lebGet
  rw [if_neg (by omega), if_neg (by omega)]
  simp only [Int.toNat_natCast]
  rw [bytesFrom_shift s a q (by omega)]
  exact ⟨rfl, rfl, by omega⟩
/-- the section that begins a text, told of the place a -/
def fT (t : ByteArray) (a : Nat) : FG :=
  if t.size = 0 then fNo a 2 else if cE t 1 1048576 ≠ 0 then fNo a (cE t 1 1048576) else if e3 t (gT t 1) (gN t 1) ≠ 0 then fNo a (e3 t (gT t 1) (gN t 1))
  else if crcGood (t.extract 0 (gT t 1 + gN t 1 + 4)).data.toList = true then ((bV t 0 0, t.extract (gT t 1) (gT t 1 + gN t 1)), ((a + (gT t 1 + gN t 1 + 4) : Nat) : Int), 0) else fNo a 6
theorem cE_max (s : ByteArray) (a : Nat) : cE s a 1048576 = if gE s a = 0 ∧ 1048576 < gN s a then 4 else gE s a := by
  unfold cE
  by_cases h1 : gE s a = 0 ∧ 1048576 < gN s a
  · rw [if_pos h1, if_pos ⟨h1.1, .inr (by omega)⟩]
  · rw [if_neg h1, if_neg (by omega)]
theorem ext_ext (s : ByteArray) (a i j : Nat) (h : a ≤ s.size) (hj : a + j ≤ s.size) : (s.extract a s.size).extract i j = s.extract (a + i) (a + j) := by
  apply ba_ext
  rw [ext_l, ext_l, ext_l, List.take_of_length_le (l := List.drop a _) (by rw [List.length_drop, ba_len]; omega), List.drop_drop]
  congr 1; omega
theorem fT_eq (s : ByteArray) (a : Nat) (h : a ≤ s.size) : fT (s.extract a s.size) a = fGet s a := by
  have hz : (s.extract a s.size).size = s.size - a := by rw [ByteArray.size_extract]; omega
  by_cases h0 : s.size = a
  · unfold fT fGet
    rw [if_pos (show (s.extract a s.size).size = 0 by omega), if_neg (show ¬ ((a : Int) < 0 ∨ (s.size : Int) < a) by omega), if_pos (show (s.size : Int) = a by omega)]
  have hR : fGet s a = fGo s a (gN s (a + 1)) (gT s (a + 1)) (gE s (a + 1)) := by
    unfold fGet
    rw [if_neg (show ¬ ((a : Int) < 0 ∨ (s.size : Int) < a) by omega), if_neg (show ¬ (s.size : Int) = a by omega), Int.toNat_natCast]
  rw [hR]
  unfold fT
  rw [if_neg (show ¬ (s.extract a s.size).size = 0 by omega)]
  obtain ⟨s1, s2, s3⟩ := g_shift s a 1 (by omega)
  obtain ⟨_, b1, b2, _, _⟩ := leb_g s (a + 1) (by omega)
  have hE := cE_max (s.extract a s.size) 1
  rw [s1, s2] at hE
  unfold fGo
  by_cases c1 : gE s (a + 1) = 0
  · rw [if_neg (show ¬ (gE s (a + 1) ≠ 0) by omega)]
    by_cases c2 : 1048576 < gN s (a + 1)
    · rw [if_pos ⟨c1, c2⟩] at hE
      rw [hE, if_pos (show 4 ≠ 0 by decide), if_pos c2]
    · rw [if_neg (show ¬ (gE s (a + 1) = 0 ∧ 1048576 < gN s (a + 1)) by omega), c1] at hE
      rw [hE, if_neg (show ¬ (0 ≠ 0) by decide), if_neg c2, s1]
      by_cases c3 : s.size < gT s (a + 1) + gN s (a + 1) + 4
      · have h3 : e3 (s.extract a s.size) (gT (s.extract a s.size) 1) (gN s (a + 1)) = 2 := by unfold e3; rw [hz, if_neg (by omega)]
        rw [h3, if_pos (show 2 ≠ 0 by decide), if_pos c3]
      · have h3 : e3 (s.extract a s.size) (gT (s.extract a s.size) 1) (gN s (a + 1)) = 0 := by unfold e3; rw [hz, if_pos (by omega)]
        rw [h3, if_neg (show ¬ (0 ≠ 0) by decide), if_neg c3]
        rw [ext_ext s a _ _ h (by omega), ext_ext s a _ _ h (by omega), Nat.add_zero]
        rw [show a + (gT (s.extract a s.size) 1 + gN s (a + 1) + 4) = gT s (a + 1) + gN s (a + 1) + 4 by omega, show a + gT (s.extract a s.size) 1 = gT s (a + 1) by omega, show a + (gT (s.extract a s.size) 1 + gN s (a + 1)) = gT s (a + 1) + gN s (a + 1) by omega]
        have hb : bV (s.extract a s.size) 0 0 = byteAt s a := by
          unfold bV tk
          rw [if_pos ⟨rfl, by rw [wE_one, if_pos (by rw [hz]; omega)]⟩]
          unfold byteAt
          rw [ext_l, List.take_of_length_le (by rw [List.length_drop, ba_len]; omega)]
          simp only [List.getD_eq_getElem?_getD, List.getElem?_drop, Nat.add_zero]
        rw [hb]
  · rw [if_neg (show ¬ (gE s (a + 1) = 0 ∧ 1048576 < gN s (a + 1)) by omega)] at hE
    rw [hE, if_pos c1, if_pos c1]
def FV (g : FG) : Value := .tuple #[.agg #[.int .i64 g.1.1, .string g.1.2], .int .i64 g.2.1, .int .i64 g.2.2]
/-- block g holds a section -/
def two (w : World) (g : Nat) (ty : Nat) (d : ByteArray) : Prop := w.heap[g]? = some (.cells #[.int .i64 ty, .string d] 36 (0, 0))
theorem two.cells {w : World} {g ty : Nat} {d : ByteArray} (h : two w g ty d) : w.cell? ⟨g, 0, none⟩ = some (.int .i64 ty) ∧ w.cell? ⟨g, 1, none⟩ = some (.string d) ∧ w.frozen? ⟨g, 0, none⟩ = false ∧ w.frozen? ⟨g, 1, none⟩ = false := by
  unfold two at h
  refine ⟨?_, ?_, ?_, ?_⟩ <;> first | (unfold World.cell?; rw [h]; rfl) | (unfold World.frozen?; rw [h]; simp)
theorem alloc4 (w : World) (o0 o1 o2 o3 : Obj) : ((((w.alloc o0).alloc o1).alloc o2).alloc o3).drew.heap[w.heap.size]? = some o0 ∧ ((((w.alloc o0).alloc o1).alloc o2).alloc o3).drew.heap[w.heap.size + 1]? = some o1 ∧ ((((w.alloc o0).alloc o1).alloc o2).alloc o3).drew.heap[w.heap.size + 1 + 1]? = some o2 ∧ ((((w.alloc o0).alloc o1).alloc o2).alloc o3).drew.heap[w.heap.size + 1 + 1 + 1]? = some o3 ∧ Below w.heap.size w ((((w.alloc o0).alloc o1).alloc o2).alloc o3).drew := by
  have z0 : (w.alloc o0).heap.size = w.heap.size + 1 := by simp
  have z1 : ((w.alloc o0).alloc o1).heap.size = w.heap.size + 1 + 1 := by simp
  have z2 : (((w.alloc o0).alloc o1).alloc o2).heap.size = w.heap.size + 1 + 1 + 1 := by simp
  have n0 := heap_alloc_new w o0
  have n1 := heap_alloc_new (w.alloc o0) o1
  have n2 := heap_alloc_new ((w.alloc o0).alloc o1) o2
  have n3 := heap_alloc_new (((w.alloc o0).alloc o1).alloc o2) o3
  rw [z0] at n1
  rw [z1] at n2
  rw [z2] at n3
  refine ⟨?_, ?_, ?_, n3, ((((((Below.refl _ w).alloc (Nat.le_refl _) _).alloc (by omega) _).alloc (by omega) _).alloc (by omega) _)).drew⟩
  · exact (Below.heap_alloc _ _ _ (by omega)).trans ((Below.heap_alloc _ _ _ (by omega)).trans ((Below.heap_alloc _ _ _ (by omega)).trans n0))
  · exact (Below.heap_alloc _ _ _ (by omega)).trans ((Below.heap_alloc _ _ _ (by omega)).trans n1)
  · exact (Below.heap_alloc _ _ _ (by omega)).trans n2
theorem two.read {w w' : World} {g ty r K n : Nat} {d : ByteArray} (h : two w g ty d) (ho : Only3 r K n w w') (h1 : g ≠ r) (h2 : g ≠ K) (h3 : g ≠ n) : two w' g ty d := (ho.block g (Array.getElem?_eq_some_iff.1 h).1 h1 h2 h3).trans h
theorem two.store {w : World} {g ty : Nat} {d : ByteArray} (h : two w g ty d) (ty' : Nat) (d' : ByteArray) : two ((w.setCell ⟨g, 0, none⟩ (.int .i64 ty')).setCell ⟨g, 1, none⟩ (.string d')) g ty' d' := set_blk (set_blk h 0 _) 1 _
theorem two.later {w w' : World} {g ty : Nat} {d : ByteArray} (h : two w g ty d) (hb : Below w.heap.size w w') : two w' g ty d := (hb.block g (Array.getElem?_eq_some_iff.1 h).1).trans h
theorem set2_below {N : Nat} {w w' : World} {g : Nat} (hb : Below N w w') (hg : N ≤ g) (u v : Value) : Below N w ((w'.setCell ⟨g, 0, none⟩ u).setCell ⟨g, 1, none⟩ v) :=
  ⟨hb.os, hb.tape, hb.output, by simpa using hb.size, fun k hk => (Below.heap_setCell _ ⟨g, 1, none⟩ v k (show k ≠ g by omega)).trans ((Below.heap_setCell w' ⟨g, 0, none⟩ u k (show k ≠ g by omega)).trans (hb.block k hk))⟩
theorem Only3.weak {r K n : Nat} {w w' : World} (h : Only3 r K K w w') : Only3 r K n w w' := ⟨h.os, h.tape, h.output, h.size, fun k hk h1 h2 _ => h.block k hk h1 h2 h2⟩
theorem CutAt.setG {w : World} {r K Bc : Nat} {s : ByteArray} {a er ty : Nat} {d tl : ByteArray} (h : CutAt w r K Bc s a er ty d tl) {g o : Nat} {v : Value} (h1 : g ≠ r) (h2 : g ≠ K) (h3 : g ≠ Bc) : CutAt (w.setCell ⟨g, o, none⟩ v) r K Bc s a er ty d tl :=
  ⟨h.rd.past h1.symm, (Below.heap_setCell w ⟨g, o, none⟩ _ K h2.symm).trans h.blk, (Below.heap_setCell w ⟨g, o, none⟩ _ Bc h3.symm).trans h.box, h.rK, h.rB, h.KB⟩
/-- how far the steps have come, k of them done -/
def Went (t : ByteArray) (r K Bc n k : Nat) (w : World) : Prop :=
  (k = 0 ∧ CutAt w r K Bc t 0 0 0 ⟨#[]⟩ ⟨#[]⟩ ∧ IntBox w n 0) ∨
  (k = 1 ∧ t.size ≠ 0 ∧ CutAt w r K Bc t 1 0 (bV t 0 0) ⟨#[]⟩ ⟨#[]⟩ ∧ IntBox w n 0) ∨
  (k = 2 ∧ t.size ≠ 0 ∧ cE t 1 1048576 = 0 ∧ CutAt w r K Bc t (gT t 1) 0 (bV t 0 0) ⟨#[]⟩ ⟨#[]⟩ ∧ IntBox w n (gN t 1 : Nat)) ∨
  (k = 3 ∧ t.size ≠ 0 ∧ cE t 1 1048576 = 0 ∧ e3 t (gT t 1) (gN t 1) = 0 ∧ ∃ tl, CutAt w r K Bc t (gT t 1 + gN t 1 + 4) 0 (bV t 0 0) (t.extract (gT t 1) (gT t 1 + gN t 1)) tl) ∨
  (k = 4 ∧ gT t 1 + gN t 1 + 4 ≤ t.size ∧ ∃ tl, CutAt w r K Bc t (gT t 1 + gN t 1 + 4) 0 (bV t 0 0) (t.extract (gT t 1) (gT t 1 + gN t 1)) tl ∧ ∀ a, fT t a = ((bV t 0 0, t.extract (gT t 1) (gT t 1 + gN t 1)), ((a + (gT t 1 + gN t 1 + 4) : Nat) : Int), 0))
/-- block g holds the four steps -/
def four (w : World) (g Bc n : Nat) : Prop := w.heap[g]? = some (.cells #[.func (.func 49) #[] #[.pointer (some ⟨Bc, 0, none⟩)], .func (.func 52) #[] #[.pointer (some ⟨Bc, 0, none⟩), .pointer (some ⟨n, 0, none⟩)], .func (.func 56) #[] #[.pointer (some ⟨Bc, 0, none⟩), .pointer (some ⟨n, 0, none⟩)], .func (.func 58) #[] #[.pointer (some ⟨Bc, 0, none⟩)]] 73 (0, 0))
theorem four.cells {w : World} {g Bc n : Nat} (h : four w g Bc n) : w.cell? ⟨g, 0, none⟩ = some (.func (.func 49) #[] #[.pointer (some ⟨Bc, 0, none⟩)]) ∧ w.cell? ⟨g, 1, none⟩ = some (.func (.func 52) #[] #[.pointer (some ⟨Bc, 0, none⟩), .pointer (some ⟨n, 0, none⟩)]) ∧ w.cell? ⟨g, 2, none⟩ = some (.func (.func 56) #[] #[.pointer (some ⟨Bc, 0, none⟩), .pointer (some ⟨n, 0, none⟩)]) ∧ w.cell? ⟨g, 3, none⟩ = some (.func (.func 58) #[] #[.pointer (some ⟨Bc, 0, none⟩)]) := by
  unfold four at h
  refine ⟨?_, ?_, ?_, ?_⟩ <;> (unfold World.cell?; rw [h]; rfl)
set_option maxRecDepth 100000 in
set_option maxHeartbeats 8000000 in
theorem fget_in (s : ByteArray) (a : Nat) (w : World) (hs : s.size ≤ maxLen) (ha : a ≤ s.size) :
    Calls Try.prog 38 #[.string s, .int .i64 a] w fun e w' => e = .returned (FV (fT (s.extract a s.size) a)) ∧ Below w.heap.size w w' := by
  have hmf : ∀ (fn : Fn) (first cap : Array Value) (w : World), (Instr.makeFunc fn first cap).run Try.prog w = .ok (.func fn first cap) w := fun _ _ _ _ => rfl
  have d0 : decide ((a : Int) < 0) = false := by simp
  have d1 : decide ((s.size : Int) < a) = false := by simp; omega
  have d1' : decide (s.size < a) = false := by simp; omega
  have hb1 : (a : Int) ≤ (s.size : Int) := by omega
  have HS := Lib.hid hs
  have OF := Lib.hid (fun W => rof_any (s.extract a s.size) W)
  go_enter Try.func38, Try.ntmps38
  go_upto_region 3 with fail
  go_cut [7] (fun s7 wx => ∃ r K Bc : Nat, s7 = .pointer (some ⟨Bc, 0, none⟩) ∧ CutAt wx r K Bc (s.extract a s.size) 0 0 0 ⟨#[]⟩ ⟨#[]⟩ ∧ w.heap.size < r ∧ w.heap.size < K ∧ w.heap.size < Bc ∧ two wx w.heap.size 0 ⟨#[]⟩ ∧ Below w.heap.size w wx)
  case first =>
    go_region_with (go_at_call 48; refine (OF.out _).mono ?_; rintro e w2 ⟨rfl, rfl⟩)
    all_goals go_wp2_with fail
    all_goals go_meet
    · obtain ⟨h0, h1, h2, h3, hb⟩ := alloc4 w (.cells #[.int .i64 0, .string ⟨#[]⟩] 36) (.cells #[.string (s.extract a s.size), .int .i64 0, .int .i64 0] 80) (.cells #[.pointer (some ⟨w.heap.size + 1, 0, none⟩), .string (s.extract a s.size), .int .i64 0, .string ⟨#[]⟩, .string ⟨#[]⟩] 71) (.cells #[.pointer (some ⟨w.heap.size + 1 + 1, 0, none⟩)] 67)
      exact ⟨_, _, _, rfl, ⟨⟨h1⟩, h2, h3, by omega, by omega, by omega⟩, by omega, by omega, by omega, h0, hb⟩
    · obtain ⟨h0, h1, h2, h3, hb⟩ := alloc4 w (.cells #[.int .i64 0, .string ⟨#[]⟩] 36) (.cells #[.string (s.extract a s.size), .int .i64 0, .int .i64 0] 80) (.cells #[.pointer (some ⟨w.heap.size + 1 + 1 + 1, 0, none⟩)] 67) (.cells #[.pointer (some ⟨w.heap.size + 1, 0, none⟩), .string (s.extract a s.size), .int .i64 0, .string ⟨#[]⟩, .string ⟨#[]⟩] 71)
      exact ⟨_, _, _, rfl, ⟨⟨h1⟩, h3, h2, by omega, by omega, by omega⟩, by omega, by omega, by omega, h0, hb⟩
    · obtain ⟨h0, h1, h2, h3, hb⟩ := alloc4 w (.cells #[.int .i64 0, .string ⟨#[]⟩] 36) (.cells #[.pointer (some ⟨w.heap.size + 1 + 1 + 1, 0, none⟩)] 67) (.cells #[.string (s.extract a s.size), .int .i64 0, .int .i64 0] 80) (.cells #[.pointer (some ⟨w.heap.size + 1 + 1, 0, none⟩), .string (s.extract a s.size), .int .i64 0, .string ⟨#[]⟩, .string ⟨#[]⟩] 71)
      exact ⟨_, _, _, rfl, ⟨⟨h2⟩, h3, h1, by omega, by omega, by omega⟩, by omega, by omega, by omega, h0, hb⟩
  case rest =>
    obtain ⟨r, K, Bc, rfl, hC, hr, hK, hBc, h2, hb⟩ := hcut
    have hCW : CutAt ((wc.alloc (.cells #[.int .i64 0] 3)).alloc (.cells #[.func (.func 49) #[] #[.pointer (some ⟨Bc, 0, none⟩)], .func (.func 52) #[] #[.pointer (some ⟨Bc, 0, none⟩), .pointer (some ⟨wc.heap.size, 0, none⟩)], .func (.func 56) #[] #[.pointer (some ⟨Bc, 0, none⟩), .pointer (some ⟨wc.heap.size, 0, none⟩)], .func (.func 58) #[] #[.pointer (some ⟨Bc, 0, none⟩)]] 73)) r K Bc (s.extract a s.size) 0 0 0 ⟨#[]⟩ ⟨#[]⟩ := hC.later (((Below.refl _ _).alloc (Nat.le_refl _) _).alloc (by simp) _)
    have hFW : four ((wc.alloc (.cells #[.int .i64 0] 3)).alloc (.cells #[.func (.func 49) #[] #[.pointer (some ⟨Bc, 0, none⟩)], .func (.func 52) #[] #[.pointer (some ⟨Bc, 0, none⟩), .pointer (some ⟨wc.heap.size, 0, none⟩)], .func (.func 56) #[] #[.pointer (some ⟨Bc, 0, none⟩), .pointer (some ⟨wc.heap.size, 0, none⟩)], .func (.func 58) #[] #[.pointer (some ⟨Bc, 0, none⟩)]] 73)) (wc.heap.size + 1) Bc wc.heap.size := by
      have := heap_alloc_new (wc.alloc (.cells #[.int .i64 0] 3)) (.cells #[.func (.func 49) #[] #[.pointer (some ⟨Bc, 0, none⟩)], .func (.func 52) #[] #[.pointer (some ⟨Bc, 0, none⟩), .pointer (some ⟨wc.heap.size, 0, none⟩)], .func (.func 56) #[] #[.pointer (some ⟨Bc, 0, none⟩), .pointer (some ⟨wc.heap.size, 0, none⟩)], .func (.func 58) #[] #[.pointer (some ⟨Bc, 0, none⟩)]] 73)
      rw [World.size_alloc] at this
      exact this
    have hNW : IntBox ((wc.alloc (.cells #[.int .i64 0] 3)).alloc (.cells #[.func (.func 49) #[] #[.pointer (some ⟨Bc, 0, none⟩)], .func (.func 52) #[] #[.pointer (some ⟨Bc, 0, none⟩), .pointer (some ⟨wc.heap.size, 0, none⟩)], .func (.func 56) #[] #[.pointer (some ⟨Bc, 0, none⟩), .pointer (some ⟨wc.heap.size, 0, none⟩)], .func (.func 58) #[] #[.pointer (some ⟨Bc, 0, none⟩)]] 73)) wc.heap.size 0 := (Below.heap_alloc _ _ _ (by simp)).trans (heap_alloc_new wc _)
    have hbW : Below w.heap.size w ((wc.alloc (.cells #[.int .i64 0] 3)).alloc (.cells #[.func (.func 49) #[] #[.pointer (some ⟨Bc, 0, none⟩)], .func (.func 52) #[] #[.pointer (some ⟨Bc, 0, none⟩), .pointer (some ⟨wc.heap.size, 0, none⟩)], .func (.func 56) #[] #[.pointer (some ⟨Bc, 0, none⟩), .pointer (some ⟨wc.heap.size, 0, none⟩)], .func (.func 58) #[] #[.pointer (some ⟨Bc, 0, none⟩)]] 73)) := (hb.alloc hb.size _).alloc (by have := hb.size; simp; omega) _
    have h2W : two ((wc.alloc (.cells #[.int .i64 0] 3)).alloc (.cells #[.func (.func 49) #[] #[.pointer (some ⟨Bc, 0, none⟩)], .func (.func 52) #[] #[.pointer (some ⟨Bc, 0, none⟩), .pointer (some ⟨wc.heap.size, 0, none⟩)], .func (.func 56) #[] #[.pointer (some ⟨Bc, 0, none⟩), .pointer (some ⟨wc.heap.size, 0, none⟩)], .func (.func 58) #[] #[.pointer (some ⟨Bc, 0, none⟩)]] 73)) w.heap.size 0 ⟨#[]⟩ := by
      have hl : w.heap.size < wc.heap.size := (Array.getElem?_eq_some_iff.1 h2).1
      exact (Below.heap_alloc _ _ _ (by simp; omega)).trans ((Below.heap_alloc _ _ _ hl).trans h2)
    have hwl : wc.heap.size + 1 < ((wc.alloc (.cells #[.int .i64 0] 3)).alloc (.cells #[.func (.func 49) #[] #[.pointer (some ⟨Bc, 0, none⟩)], .func (.func 52) #[] #[.pointer (some ⟨Bc, 0, none⟩), .pointer (some ⟨wc.heap.size, 0, none⟩)], .func (.func 56) #[] #[.pointer (some ⟨Bc, 0, none⟩), .pointer (some ⟨wc.heap.size, 0, none⟩)], .func (.func 58) #[] #[.pointer (some ⟨Bc, 0, none⟩)]] 73)).heap.size := by simp
    have nr : wc.heap.size ≠ r := by have := hC.rd.lt; omega
    have nK : wc.heap.size ≠ K := by have := hC.ltK; omega
    have nB : wc.heap.size ≠ Bc := by have := hC.ltB; omega
    have lr : r < wc.heap.size := hC.rd.lt
    have lK : K < wc.heap.size := hC.ltK
    have lw : w.heap.size < wc.heap.size := (Array.getElem?_eq_some_iff.1 h2).1
    have HCW := Lib.hid hCW
    have HFW := Lib.hid hFW
    have HNW := Lib.hid hNW
    have HBW := Lib.hid hbW
    have H2W := Lib.hid h2W
    clear hCW hFW hNW hbW h2W hC h2 hb
    go_wp2_with fail
    generalize (wc.alloc (.cells #[.int .i64 0] 3)).alloc (.cells #[.func (.func 49) #[] #[.pointer (some ⟨Bc, 0, none⟩)], .func (.func 52) #[] #[.pointer (some ⟨Bc, 0, none⟩), .pointer (some ⟨wc.heap.size, 0, none⟩)], .func (.func 56) #[] #[.pointer (some ⟨Bc, 0, none⟩), .pointer (some ⟨wc.heap.size, 0, none⟩)], .func (.func 58) #[] #[.pointer (some ⟨Bc, 0, none⟩)]] 73) = WL at HCW HFW HNW HBW H2W hwl ⊢
    generalize wc.heap.size = n at *
    generalize ht : s.extract a s.size = t at *
    go_loopw [37] (fun i wr => ∃ k : Nat, k ≤ 4 ∧ i = .int .i64 k ∧ Went t r K Bc n k wr ∧ Only3 r K n WL wr) (fun i _ => 4 - (intOf i).toNat)
    case atStart => exact ⟨0, by omega, rfl, .inl ⟨rfl, HCW.out, HNW.out⟩, Only3.refl _ _ _ _⟩
    case round =>
      obtain ⟨k, hk, rfl, hW, hO⟩ := hrel
      have hts : t.size ≤ maxLen := by rw [← ht, ByteArray.size_extract]; have := HS.out; omega
      have hF : four wr (n + 1) Bc n := (hO.block (n + 1) hwl (by omega) (by omega) (by omega)).trans HFW.out
      have h2 : two wr w.heap.size 0 ⟨#[]⟩ := H2W.out.read hO (by omega) (by omega) (by omega)
      have hB : Below w.heap.size w wr := HBW.out.trans (hO.below (by omega) (by omega) (by omega) HBW.out.size)
      obtain ⟨f0, f1, f2, f3⟩ := hF.cells
      have HTS := Lib.hid hts
      have HO := Lib.hid hO
      have HT := Lib.hid ht
      have H2 := Lib.hid h2
      have HB := Lib.hid hB
      clear hO hts ht hF h2 hB HCW HFW HNW H2W HBW OF
      rcases hW with ⟨rfl, hC, hN⟩ | ⟨rfl, hz, hC, hN⟩ | ⟨rfl, hz, hce, hC, hN⟩ | ⟨rfl, hz, hce, h3, tl, hC⟩ | ⟨rfl, hle4, tl, hC, hfin⟩
      · have C1 := fun W h => step1_any r K Bc K t 0 ⟨#[]⟩ ⟨#[]⟩ W h HTS.out
        by_cases hz : t.size = 0
        · have e1 : wE t 0 1 = 2 := by rw [wE_one, if_neg (by omega)]
          have e2 : wrF (mvE 0 2) = 2 := rfl
          rw [e1, e2] at C1
          have HV : Hid (fT t a = fNo a (2)) := Lib.hid (by unfold fT; rw [if_pos hz])
          have HC1 := Lib.hid C1
          have HC := Lib.hid hC
          clear C1 e1 e2 hC hN f1 f2 f3 hz
          go_wp2_with fail
          refine (HC1.out _ HC.out).mono ?_
          rintro e w3 ⟨rfl, hC3, hO3⟩
          have h23 := H2.out.read hO3 (by omega) (by omega) (by omega)
          obtain ⟨c0, c1, q0, q1⟩ := h23.cells
          have h24 : two ((w3.setCell ⟨w.heap.size, 0, none⟩ (.int .i64 0)).setCell ⟨w.heap.size, 1, none⟩ (.string ⟨#[]⟩)) w.heap.size 0 ⟨#[]⟩ := h23.store 0 ⟨#[]⟩
          have hb4 := Lib.hid (set2_below (HB.out.trans (hO3.below (N := w.heap.size) (by omega) (by omega) (by omega) HB.out.size)) (Nat.le_refl _) (.int .i64 0) (.string ⟨#[]⟩))
          have H24 := Lib.hid h24
          clear h23 h24 hC3 hO3
          go_wp2_with fail
          generalize (w3.setCell ⟨w.heap.size, 0, none⟩ (.int .i64 0)).setCell ⟨w.heap.size, 1, none⟩ (.string ⟨#[]⟩) = W4 at hb4 H24 ⊢
          obtain ⟨z0, z1, _, _⟩ := H24.out.cells
          rw [HT.out, HV.out]
          exact bodyPost_ret (v := FV (fNo a (2))) (by simp [results, Try.results38, go_sem, FV, fNo, z0, z1]) rfl ⟨rfl, hb4.out⟩
        · have e1 : wE t 0 1 = 0 := by rw [wE_one, if_pos (by omega)]
          have e2 : wrF (mvE 0 0) = 0 := rfl
          have e3 : mvA 0 0 (wT t 0 1) 0 = 1 := by
            unfold mvA wT pT; rw [if_pos ⟨rfl, rfl⟩, if_neg (by omega), if_pos (show 0 + Int.toNat 1 ≤ t.size by simp; omega)]; rfl
          have e4 : mvE 0 0 = 0 := rfl
          rw [e1, e2, e3, e4] at C1
          have HC1 := Lib.hid C1
          have HC := Lib.hid hC
          have HN := Lib.hid hN
          have HZ := Lib.hid hz
          clear C1 e1 e2 e3 e4 hC hN f1 f2 f3 hz
          go_wp2_with fail
          refine (HC1.out _ HC.out).mono ?_
          rintro e w3 ⟨rfl, hC3, hO3⟩
          have hN3 : IntBox w3 n 0 := (hO3.block n HN.out.lt nr nK nK).trans HN.out
          have HC3 := Lib.hid hC3
          have HN3 := Lib.hid hN3
          have HO3 := Lib.hid hO3
          clear hC3 hN3 hO3
          go_wp2_with fail
          go_roundw
          case rel => exact ⟨1, by omega, by go_num, .inr (.inl ⟨rfl, HZ.out, HC3.out, HN3.out⟩), HO.out.trans HO3.out.weak⟩
          case measure => simp [intOf]
      · have C1 := fun W h hn => step2_any r K Bc n t 1 (bV t 0 0) 0 ⟨#[]⟩ ⟨#[]⟩ W h hn nr nK nB HTS.out (by omega)
        by_cases hce : cE t 1 1048576 = 0
        · rw [hce] at C1
          have HC1 := Lib.hid C1
          have HC := Lib.hid hC
          have HN := Lib.hid hN
          have HZ := Lib.hid hz
          have HCE := Lib.hid hce
          clear C1 hC hN f0 f2 f3 hz hce
          go_wp2_with fail
          refine (HC1.out _ HC.out HN.out).mono ?_
          rintro e w3 ⟨rfl, hC3, hO3⟩
          have HC3 := Lib.hid (hC3 (by trivial))
          have HO3 := Lib.hid hO3
          clear hC3 hO3
          go_wp2_with fail
          go_roundw
          case rel => exact ⟨2, by omega, by go_num, .inr (.inr (.inl ⟨rfl, HZ.out, HCE.out, HC3.out.1, HC3.out.2⟩)), HO.out.trans HO3.out⟩
          case measure => simp [intOf]
        · have HN := Lib.hid hN
          have hd : ((cE t 1 1048576 : Int) == 0) = false := by simp; omega
          have HV0 : Hid (fT t a = fNo a (cE t 1 1048576)) := Lib.hid (by unfold fT; rw [if_neg hz, if_pos hce])
          clear hz hce
          generalize cE t 1 1048576 = E at C1 hd HV0
          have HV : Hid (fT t a = fNo a (E)) := Lib.hid (HV0.out)
          have HC1 := Lib.hid C1
          have HC := Lib.hid hC
          clear C1 hC hN f0 f2 f3
          go_wp2_with fail
          refine (HC1.out _ HC.out HN.out).mono ?_
          rintro e w3 ⟨rfl, hC3, hO3⟩
          have h23 := H2.out.read hO3 (by omega) (by omega) (by omega)
          obtain ⟨c0, c1, q0, q1⟩ := h23.cells
          have h24 : two ((w3.setCell ⟨w.heap.size, 0, none⟩ (.int .i64 0)).setCell ⟨w.heap.size, 1, none⟩ (.string ⟨#[]⟩)) w.heap.size 0 ⟨#[]⟩ := h23.store 0 ⟨#[]⟩
          have hb4 := Lib.hid (set2_below (HB.out.trans (hO3.below (N := w.heap.size) (by omega) (by omega) (by omega) HB.out.size)) (Nat.le_refl _) (.int .i64 0) (.string ⟨#[]⟩))
          have H24 := Lib.hid h24
          clear h23 h24 hC3 hO3
          go_wp2_with fail
          generalize (w3.setCell ⟨w.heap.size, 0, none⟩ (.int .i64 0)).setCell ⟨w.heap.size, 1, none⟩ (.string ⟨#[]⟩) = W4 at hb4 H24 ⊢
          obtain ⟨z0, z1, _, _⟩ := H24.out.cells
          rw [HT.out, HV.out]
          exact bodyPost_ret (v := FV (fNo a (E))) (by simp [results, Try.results38, go_sem, FV, fNo, z0, z1]) rfl ⟨rfl, hb4.out⟩
      · have hle := (leb_g t 1 (by omega)).2.2.1
        have hnm : gN t 1 ≤ 1048576 := by
          rw [cE_max] at hce
          by_cases c : gE t 1 = 0 ∧ 1048576 < gN t 1
          · rw [if_pos c] at hce; omega
          · rw [if_neg c] at hce; omega
        have C1 := fun W h hn => step3_any r K Bc n t (gT t 1) (bV t 0 0) (gN t 1) ⟨#[]⟩ ⟨#[]⟩ W h hn nr nK nB HTS.out hle hnm
        clear hle hnm
        by_cases h3 : e3 t (gT t 1) (gN t 1) = 0
        · rw [h3] at C1
          have HC1 := Lib.hid C1
          have HC := Lib.hid hC
          have HN := Lib.hid hN
          have HZ := Lib.hid hz
          have HCE := Lib.hid hce
          have H3 := Lib.hid h3
          clear C1 hC hN f0 f1 f3 hz hce h3
          go_wp2_with fail
          refine (HC1.out _ HC.out HN.out).mono ?_
          rintro e w3 ⟨rfl, hC3, hO3⟩
          have HC3 := Lib.hid (hC3 (by trivial))
          have HO3 := Lib.hid hO3
          clear hC3 hO3
          go_wp2_with fail
          go_roundw
          case rel =>
            obtain ⟨tl, hC3⟩ := HC3.out
            exact ⟨3, by omega, by go_num, .inr (.inr (.inr (.inl ⟨rfl, HZ.out, HCE.out, H3.out, tl, hC3⟩))), HO.out.trans HO3.out⟩
          case measure => simp [intOf]
        · have HN := Lib.hid hN
          have hd : ((e3 t (gT t 1) (gN t 1) : Int) == 0) = false := by simp; omega
          have HV0 : Hid (fT t a = fNo a (e3 t (gT t 1) (gN t 1))) := Lib.hid (by unfold fT; rw [if_neg hz, if_neg (by omega), if_pos h3])
          clear hz hce h3
          generalize e3 t (gT t 1) (gN t 1) = E at C1 hd HV0
          have HV : Hid (fT t a = fNo a (E)) := Lib.hid (HV0.out)
          have HC1 := Lib.hid C1
          have HC := Lib.hid hC
          clear C1 hC hN f0 f1 f3
          go_wp2_with fail
          refine (HC1.out _ HC.out HN.out).mono ?_
          rintro e w3 ⟨rfl, hC3, hO3⟩
          have h23 := H2.out.read hO3 (by omega) (by omega) (by omega)
          obtain ⟨c0, c1, q0, q1⟩ := h23.cells
          have h24 : two ((w3.setCell ⟨w.heap.size, 0, none⟩ (.int .i64 0)).setCell ⟨w.heap.size, 1, none⟩ (.string ⟨#[]⟩)) w.heap.size 0 ⟨#[]⟩ := h23.store 0 ⟨#[]⟩
          have hb4 := Lib.hid (set2_below (HB.out.trans (hO3.below (N := w.heap.size) (by omega) (by omega) (by omega) HB.out.size)) (Nat.le_refl _) (.int .i64 0) (.string ⟨#[]⟩))
          have H24 := Lib.hid h24
          clear h23 h24 hC3 hO3
          go_wp2_with fail
          generalize (w3.setCell ⟨w.heap.size, 0, none⟩ (.int .i64 0)).setCell ⟨w.heap.size, 1, none⟩ (.string ⟨#[]⟩) = W4 at hb4 H24 ⊢
          obtain ⟨z0, z1, _, _⟩ := H24.out.cells
          rw [HT.out, HV.out]
          exact bodyPost_ret (v := FV (fNo a (E))) (by simp [results, Try.results38, go_sem, FV, fNo, z0, z1]) rfl ⟨rfl, hb4.out⟩
      · have hle : gT t 1 + gN t 1 + 4 ≤ t.size := by
          unfold e3 at h3
          by_cases c : gT t 1 + gN t 1 + 4 ≤ t.size
          · exact c
          · rw [if_neg c] at h3; cases h3
        have C1 := fun W h => (step4_any r K Bc t (gT t 1 + gN t 1 + 4) (bV t 0 0) (t.extract (gT t 1) (gT t 1 + gN t 1)) tl W h HTS.out hle).mono (R' := fun e w' => e = .returned (.int .i64 ((if crcGood (t.extract 0 (gT t 1 + gN t 1 + 4)).data.toList = true then 0 else 6 : Nat) : Int)) ∧ Below W.heap.size W w' ∧ Only3 r K n W w') fun e w' ⟨h1, h2⟩ => ⟨h1, h2, Below.three h2⟩
        have HLE := Lib.hid hle
        clear hle
        by_cases hg : crcGood (t.extract 0 (gT t 1 + gN t 1 + 4)).data.toList = true
        · rw [if_pos hg] at C1
          have HFN : Hid (∀ a, fT t a = ((bV t 0 0, t.extract (gT t 1) (gT t 1 + gN t 1)), ((a + (gT t 1 + gN t 1 + 4) : Nat) : Int), 0)) := Lib.hid (fun a => by
            unfold fT; rw [if_neg hz, if_neg (by omega), if_neg (by omega), if_pos hg])
          have HC1 := Lib.hid C1
          have HC := Lib.hid hC
          clear C1 hC f0 f1 f2 hz hce h3 hg
          go_wp2_with fail
          refine (HC1.out _ HC.out).mono ?_
          rintro e w3 ⟨rfl, hb3, hO3⟩
          have HC3 := Lib.hid (HC.out.later hb3)
          have HO3 := Lib.hid hO3
          clear hb3 hO3
          go_wp2_with fail
          go_roundw
          case rel => exact ⟨4, by omega, by go_num, .inr (.inr (.inr (.inr ⟨rfl, HLE.out, tl, HC3.out, HFN.out⟩))), HO.out.trans HO3.out⟩
          case measure => simp [intOf]
        · rw [if_neg hg] at C1
          have HV0 : Hid (fT t a = fNo a 6) := Lib.hid (by unfold fT; rw [if_neg hz, if_neg (by omega), if_neg (by omega), if_neg hg])
          have HV : Hid (fT t a = fNo a (6)) := Lib.hid (HV0.out)
          have HC1 := Lib.hid C1
          have HC := Lib.hid hC
          clear C1 hC f0 f1 f2 hz hce h3 hg
          go_wp2_with fail
          refine (HC1.out _ HC.out).mono ?_
          rintro e w3 ⟨rfl, hC3, hO3⟩
          have h23 := H2.out.read hO3 (by omega) (by omega) (by omega)
          obtain ⟨c0, c1, q0, q1⟩ := h23.cells
          have h24 : two ((w3.setCell ⟨w.heap.size, 0, none⟩ (.int .i64 0)).setCell ⟨w.heap.size, 1, none⟩ (.string ⟨#[]⟩)) w.heap.size 0 ⟨#[]⟩ := h23.store 0 ⟨#[]⟩
          have hb4 := Lib.hid (set2_below (HB.out.trans (hO3.below (N := w.heap.size) (by omega) (by omega) (by omega) HB.out.size)) (Nat.le_refl _) (.int .i64 0) (.string ⟨#[]⟩))
          have H24 := Lib.hid h24
          clear h23 h24 hC3 hO3
          go_wp2_with fail
          generalize (w3.setCell ⟨w.heap.size, 0, none⟩ (.int .i64 0)).setCell ⟨w.heap.size, 1, none⟩ (.string ⟨#[]⟩) = W4 at hb4 H24 ⊢
          obtain ⟨z0, z1, _, _⟩ := H24.out.cells
          rw [HT.out, HV.out]
          exact bodyPost_ret (v := FV (fNo a (6))) (by simp [results, Try.results38, go_sem, FV, fNo, z0, z1]) rfl ⟨rfl, hb4.out⟩
      · have c2 := hC.k2
        have c3 := hC.k3
        have b0 := hC.b0
        have k0 := hC.k0
        obtain ⟨c0, c1, q0, q1⟩ := H2.out.cells
        have HC := Lib.hid hC
        have HFN := Lib.hid (hfin a)
        have CA := Lib.hid (fun W h => rat_any r t (gT t 1 + gN t 1 + 4) 0 W h)
        have hsum : IntKind.i64.wrap ((a : Int) + ((gT t 1 + gN t 1 + 4 : Nat) : Int)) = ((a + (gT t 1 + gN t 1 + 4) : Nat) : Int) := by
          have h1 : t.size = s.size - a := by rw [← HT.out, ByteArray.size_extract]; omega
          have h2 := HS.out
          unfold maxLen at h2
          rw [Int.natCast_add a]
          exact IntWalk.i64_in _ (by omega)
        clear f0 f1 f2 f3 hfin hC hle4
        generalize gT t 1 + gN t 1 + 4 = A at HC CA HFN hsum
        generalize t.extract (gT t 1) (gT t 1 + gN t 1) = D at HC HFN c3
        generalize bV t 0 0 = Y at HC HFN c2
        have hCr : CutAt wr r K Bc t A 0 Y D tl := HC.out
        have gr : w.heap.size ≠ r := by omega
        have gK : w.heap.size ≠ K := by omega
        have gB : w.heap.size ≠ Bc := by omega
        have l0 : ∀ w', CutAt w' r K Bc t A 0 Y D tl → w'.cell? ⟨Bc, 0, none⟩ = some (.pointer (some ⟨K, 0, none⟩)) := fun _ h => h.b0
        have l1 : ∀ w', CutAt w' r K Bc t A 0 Y D tl → w'.cell? ⟨K, 0, none⟩ = some (.pointer (some ⟨r, 0, none⟩)) := fun _ h => h.k0
        have l2 : ∀ w', CutAt w' r K Bc t A 0 Y D tl → w'.cell? ⟨K, 2, none⟩ = some (.int .i64 Y) := fun _ h => h.k2
        have l3 : ∀ w', CutAt w' r K Bc t A 0 Y D tl → w'.cell? ⟨K, 3, none⟩ = some (.string D) := fun _ h => h.k3
        have h24 := Lib.hid (H2.out.store Y D)
        have hb4 := Lib.hid (set2_below HB.out (Nat.le_refl _) (.int .i64 Y) (.string D))
        clear b0 k0 c2 c3
        go_wp2_with fail
        go_region_held3 (fun w' => CutAt w' r K Bc t A 0 Y D tl) (first | assumption | exact CutAt.drewN (by assumption) 1 | exact CutAt.setG (CutAt.setG (by assumption) gr gK gB) gr gK gB)
          ((go_at_call 54; refine (CA.out _ (CutAt.rd (by assumption))).mono ?_; rintro e w3 ⟨rfl, rfl⟩))
        all_goals go_wp2_with fail
        generalize (wr.setCell ⟨w.heap.size, 0, none⟩ (.int .i64 Y)).setCell ⟨w.heap.size, 1, none⟩ (.string D) = W4 at h24 hb4 ⊢
        obtain ⟨z0, z1, _, _⟩ := h24.out.cells
        rw [HT.out, HFN.out]
        exact bodyPost_ret (v := FV ((Y, D), ((a + A : Nat) : Int), 0)) (by simp [results, Try.results38, go_sem, FV, z0, z1]) rfl ⟨rfl, hb4.out.drew⟩
set_option maxRecDepth 100000 in
set_option maxHeartbeats 1600000 in
theorem fget_out (s : ByteArray) (a : Int) (w : World) (hs : s.size ≤ maxLen) (ha : a < 0 ∨ (s.size : Int) < a) :
    Calls Try.prog 38 #[.string s, .int .i64 a] w fun e w' => e = .returned (FV (fNo a 1)) ∧ Below w.heap.size w w' := by
  unfold maxLen at hs
  have hn := Lib.hid (show two (w.alloc (.cells #[.int .i64 0, .string ⟨#[]⟩] 36)) w.heap.size 0 ⟨#[]⟩ from heap_alloc_new w _)
  have hb4 := Lib.hid ((Below.refl _ w).alloc (Nat.le_refl _) (.cells #[.int .i64 0, .string ⟨#[]⟩] 36))
  by_cases h : a < 0
  · have d0 : decide (a < 0) = true := by simp; omega
    clear ha
    go_enter Try.func38, Try.ntmps38
    go_wp2_with fail
    generalize w.alloc (.cells #[.int .i64 0, .string ⟨#[]⟩] 36) = W4 at hn hb4 ⊢
    obtain ⟨z0, z1, _, _⟩ := hn.out.cells
    exact bodyPost_ret (v := FV (fNo a 1)) (by simp [results, Try.results38, go_sem, FV, fNo, z0, z1]) rfl ⟨rfl, hb4.out⟩
  · have d0 : decide (a < 0) = false := by simp; omega
    have d1 : decide ((s.size : Int) < a) = true := by simp; omega
    clear ha h
    go_enter Try.func38, Try.ntmps38
    go_wp2_with fail
    generalize w.alloc (.cells #[.int .i64 0, .string ⟨#[]⟩] 36) = W4 at hn hb4 ⊢
    obtain ⟨z0, z1, _, _⟩ := hn.out.cells
    exact bodyPost_ret (v := FV (fNo a 1)) (by simp [results, Try.results38, go_sem, FV, fNo, z0, z1]) rfl ⟨rfl, hb4.out⟩
theorem fget_any (s : ByteArray) (a : Int) (w : World) (hs : s.size ≤ maxLen) :
    Calls Try.prog 38 #[.string s, .int .i64 a] w fun e w' => e = .returned (FV (fGet s a)) ∧ Below w.heap.size w w' := by
  by_cases h : a < 0 ∨ (s.size : Int) < a
  · have := fget_out s a w hs h
    have e : fGet s a = fNo a 1 := by unfold fGet; rw [if_pos h]
    rw [e]; exact this
  · obtain ⟨n, rfl⟩ := Int.eq_ofNat_of_zero_le (show 0 ≤ a by omega)
    have := fget_in s n w hs (by omega)
    rw [fT_eq s n (by omega)] at this
    exact this
end Go.Proofs.Ytanbifhhoeaofaa

