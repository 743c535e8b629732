/- The walks of score.Add, score.Of and the count of the reference. No conditions. -/
import Derived.Test.YtbdmkgdgbpfhpaaW2
namespace Go.Proofs.Ytbdmkgdgbpfhpaa
open Go.RowKit
set_option maxHeartbeats 1000000 in
theorem add_any (a b c a' b' c' : Int) (w : World)  :
    Calls Try.prog 13 #[.agg #[.int .i64 a, .int .i64 b, .int .i64 c], .agg #[.int .i64 a', .int .i64 b', .int .i64 c']] w fun e w' => e = .returned (.agg #[.int .i64 (wrap64 (wrap64 a + a')), .int .i64 (wrap64 (wrap64 b + b')), .int .i64 (wrap64 (wrap64 c + c'))]) ∧ Below w.heap.size w w' := by
  go_enter Try.func13, Try.ntmps13
  go_wp2_with fail
  refine (sum_any a b c a' b' c' _ _ _ (by simp only [World.size_alloc]; omega) (by go_cell) (by go_cell) (by go_cell) (by go_cell) (by go_cell) (by go_cell)).mono ?_
  rintro e w1 ⟨rfl, hb1⟩
  have o0 := own3_below (own3_alloc (own3_new ((w.alloc (.cells #[.int .i64 a, .int .i64 b, .int .i64 c] 24)).alloc (.cells #[.int .i64 a', .int .i64 b', .int .i64 c'] 24)) (.int .i64 0) (.int .i64 0) (.int .i64 0) 24) (.cells #[.int .i64 a, .int .i64 b, .int .i64 c, .int .i64 a', .int .i64 b', .int .i64 c'] 24)) hb1 (by simp only [World.size_alloc]; omega)
  rw [World.size_alloc, World.size_alloc] at o0
  have hb2 : Below w.heap.size w w1 := (((((Below.refl _ _).alloc (Nat.le_refl _) _).alloc (by simp) _).alloc (by simp; omega) _).alloc (by simp; omega) _).trans (hb1.mono (by simp; omega))
  clear hb1
  have o1 := o0
  obtain ⟨_, v0, v1, v2, vf⟩ := o0
  go_wp2_with fail
  refine (score_any _ _ _ _).mono ?_
  rintro e w2 ⟨rfl, hb3⟩
  have o2 := own3_below o1 hb3 o1.1
  have hb4 := hb2.trans (hb3.mono hb2.size)
  have fin := own3_set o2 (.int .i64 (wrap64 (wrap64 a + a'))) (.int .i64 (wrap64 (wrap64 b + b'))) (.int .i64 (wrap64 (wrap64 c + c')))
  have FIN := Lib.hid fin
  clear fin o1 hb3 v0 v1 v2 vf
  obtain ⟨_, v0, v1, v2, vf⟩ := o2
  go_wp2_with fail
  obtain ⟨_, f0, f1, f2, _⟩ := FIN.out
  exact bodyPost_ret (v := .agg #[.int .i64 (wrap64 (wrap64 a + a')), .int .i64 (wrap64 (wrap64 b + b')), .int .i64 (wrap64 (wrap64 c + c'))]) (by simp [results, Try.results13, go_sem, f0, f1, f2]) rfl ⟨rfl, ((hb4.setCell (by simp; omega) _).setCell (by simp; omega) _).setCell (by simp; omega) _⟩

/-- how many of the first k have verdict v -/
def cnt (vs : Nat → Int) (v : Int) (k : Nat) : Nat := ((List.range k).filter fun i => vs i == v).length
theorem cnt_le (vs : Nat → Int) (v : Int) (k : Nat) : cnt vs v k ≤ k := by
  unfold cnt; have := List.length_filter_le (fun i => vs i == v) (List.range k); simpa using this
theorem cnt_zero (vs : Nat → Int) (v : Int) : cnt vs v 0 = 0 := rfl
theorem cnt_succ (vs : Nat → Int) (v : Int) (k : Nat) : cnt vs v (k + 1) = cnt vs v k + if vs k = v then 1 else 0 := by
  unfold cnt; rw [List.range_succ, List.filter_append]; by_cases h : vs k = v <;> simp [h]

set_option maxHeartbeats 1000000 in
theorem count_any (b off len cap : Nat) (v : Int) (vs : Nat → Int) (w : World) (hl : len ≤ 9223372036854775807)
   (hc : ∀ i, i < len → w.cell? ⟨b, off + i * 8 + 3, none⟩ = some (.int .i64 (vs i))) :
    Calls Try.prog 16 #[.slice (some ⟨b, off, none⟩) len cap, .int .i64 v] w fun e w' => e = .returned (.int .i64 (cnt vs v len)) ∧ w = w' := by
  go_enter Try.func16, Try.ntmps16
  go_wp2_with fail
  go_loop [5, 6] (fun n i => ∃ k : Nat, k ≤ len ∧ i = .int .i64 k ∧ n = .int .i64 (cnt vs v k)) (fun _ i => len - (intOf i).toNat)
  case atStart => exact ⟨0, Nat.zero_le _, rfl, rfl⟩
  case round =>
    obtain ⟨k, hk, rfl, rfl⟩ := hrel
    have h1 := Lib.hid (cnt_succ vs v k)
    have h2 := cnt_le vs v k
    have H := Lib.hid hc
    clear hc
    by_cases hlt : k < len
    · have hcell := H.out k hlt
      by_cases hv : vs k = v
      · have hv' : (vs k == v) = true := by simp [hv]
        have HV := Lib.hid hv
        clear hv
        go_wp2_with fail
        go_round
        case rel => exact ⟨k + 1, by omega, by go_num, by rw [h1.out, if_pos HV.out]; go_num⟩
        case measure => simp [intOf]; omega
      · have hv' : (vs k == v) = false := by simp [hv]
        go_wp2_with fail
        go_round
        case rel => exact ⟨k + 1, by omega, by go_num, by rw [h1.out, if_neg hv]; go_num⟩
        case measure => simp [intOf]; omega
    · obtain rfl : k = len := by omega
      go_wp2_with fail
      go_ret
      exact ⟨rfl, rfl⟩

set_option maxHeartbeats 1000000 in
theorem count_nil (v : Int) (w : World) :
    Calls Try.prog 16 #[.slice none 0 0, .int .i64 v] w fun e w' => e = .returned (.int .i64 0) ∧ w = w' := by
  go_enter Try.func16, Try.ntmps16
  go_wp2_with fail
  refine wp_loop_rounds 1 ?_
  rw [rounds_succ]; go_wp2_with fail
  go_ret
  exact ⟨rfl, rfl⟩

/-- a mutant, as its cells stand -/
structure Mu where
  pa : Option Addr
  pl : Nat
  pc : Nat
  op : Int
  n : Int
  v : Int
  t : Int
  o1 : Int
  o2 : Int
  d : ByteArray
/-- the cells from off on are the mutant x -/
def muAt (w : World) (b o : Nat) (x : Mu) : Prop :=
  w.cell? ⟨b, o, none⟩ = some (.slice x.pa x.pl x.pc) ∧ w.cell? ⟨b, o + 1, none⟩ = some (.int .i64 x.op) ∧ w.cell? ⟨b, o + 2, none⟩ = some (.int .i64 x.n) ∧
  w.cell? ⟨b, o + 3, none⟩ = some (.int .i64 x.v) ∧ w.cell? ⟨b, o + 4, none⟩ = some (.int .i64 x.t) ∧ w.cell? ⟨b, o + 5, none⟩ = some (.int .i64 x.o1) ∧
  w.cell? ⟨b, o + 6, none⟩ = some (.int .i64 x.o2) ∧ w.cell? ⟨b, o + 7, none⟩ = some (.string x.d)
/-- a list of mutants in memory -/
def mutAt (w : World) (b off len : Nat) (M : Nat → Mu) : Prop :=
  b < w.heap.size ∧ ∀ i, i < len → muAt w b (off + i * 8) (M i)
theorem mutAt.below {w w' : World} {b off len n : Nat} {M : Nat → Mu} (h : mutAt w b off len M) (hb : Below n w w') (hn : b < n) : mutAt w' b off len M := by
  refine ⟨Nat.lt_of_lt_of_le h.1 hb.size, fun i hi => ?_⟩
  obtain ⟨h0, h1, h2, h3, h4, h5, h6, h7⟩ := h.2 i hi
  have H : ∀ j, w'.cell? ⟨b, j, none⟩ = w.cell? ⟨b, j, none⟩ := fun j => hb.cell (p := ⟨b, j, none⟩) hn
  exact ⟨(H _).trans h0, (H _).trans h1, (H _).trans h2, (H _).trans h3, (H _).trans h4, (H _).trans h5, (H _).trans h6, (H _).trans h7⟩

set_option maxHeartbeats 400000 in
theorem Of_nil (w : World) :
    Calls Try.prog 9 #[.slice none 0 0] w fun e w' => e = .returned (.agg #[.int .i64 0, .int .i64 0, .int .i64 0]) ∧ Below w.heap.size w w' := by
  go_enter Try.func9, Try.ntmps9
  go_wp2_with fail
  refine wp_loop_rounds 1 ?_
  rw [rounds_succ]; go_wp2_with fail
  refine (score_any _ _ _ _).mono ?_
  rintro e w2 ⟨rfl, hb3⟩
  have o0 := own3_below (own3_alloc (own3_new w (.int .i64 0) (.int .i64 0) (.int .i64 0) 24) (.cells #[.int .i64 0, .int .i64 0, .int .i64 0] 42)) hb3 (by simp only [World.size_alloc]; omega)
  have hb4 : Below w.heap.size w w2 := (((Below.refl _ _).alloc (Nat.le_refl _) _).alloc (by simp) _).trans (hb3.mono (by simp; omega))
  have FIN := Lib.hid (own3_set o0 (.int .i64 0) (.int .i64 0) (.int .i64 0))
  clear hb3
  obtain ⟨_, v0, v1, v2, vf⟩ := o0
  go_wp2_with fail
  obtain ⟨_, f0, f1, f2, _⟩ := FIN.out
  exact bodyPost_ret (v := .agg #[.int .i64 0, .int .i64 0, .int .i64 0]) (by simp [results, Try.results9, go_sem, f0, f1, f2]) rfl ⟨rfl, ((hb4.setCell (by simp) _).setCell (by simp) _).setCell (by simp) _⟩

theorem own3_set0 {W : World} {B : Nat} {x y z : Value} (h : own3 W B x y z) (x' : Value) : own3 (W.setCell ⟨B, 0, none⟩ x') B x' y z := by
  obtain ⟨h, h0, h1, h2, hf⟩ := h
  exact ⟨by simpa using h, set_same h0, (set_other (i := 0) (j := 1) (by omega)).trans h1, (set_other (i := 0) (j := 2) (by omega)).trans h2, fun j => by rw [World.frozen?_setCell]; exact hf j⟩
theorem own3_set1 {W : World} {B : Nat} {x y z : Value} (h : own3 W B x y z) (y' : Value) : own3 (W.setCell ⟨B, 1, none⟩ y') B x y' z := by
  obtain ⟨h, h0, h1, h2, hf⟩ := h
  exact ⟨by simpa using h, (set_other (i := 1) (j := 0) (by omega)).trans h0, set_same h1, (set_other (i := 1) (j := 2) (by omega)).trans h2, fun j => by rw [World.frozen?_setCell]; exact hf j⟩
theorem own3_set2 {W : World} {B : Nat} {x y z : Value} (h : own3 W B x y z) (z' : Value) : own3 (W.setCell ⟨B, 2, none⟩ z') B x y z' := by
  obtain ⟨h, h0, h1, h2, hf⟩ := h
  exact ⟨by simpa using h, (set_other (i := 2) (j := 0) (by omega)).trans h0, (set_other (i := 2) (j := 1) (by omega)).trans h1, set_same h2, fun j => by rw [World.frozen?_setCell]; exact hf j⟩
theorem cnt_yes {vs : Nat → Int} {v : Int} {k : Nat} (h : vs k = v) : cnt vs v (k + 1) = cnt vs v k + 1 := by rw [cnt_succ, if_pos h]
theorem cnt_no {vs : Nat → Int} {v : Int} {k : Nat} (h : ¬ vs k = v) : cnt vs v (k + 1) = cnt vs v k := by rw [cnt_succ, if_neg h]; rfl

set_option maxHeartbeats 2000000 in
theorem Of_any (b off len cap : Nat) (M : Nat → Mu) (vs : Nat → Int) (hvs : ∀ i, (M i).v = vs i) (w : World) (hl : len ≤ 9223372036854775807)
   (hc : mutAt w b off len M) :
    Calls Try.prog 9 #[.slice (some ⟨b, off, none⟩) len cap] w fun e w' => e = .returned (.agg #[.int .i64 (cnt vs 0 len), .int .i64 (cnt vs 1 len), .int .i64 (cnt vs 2 len)]) ∧ Below w.heap.size w w' := by
  have HC := Lib.hid hc
  have HVS := Lib.hid hvs
  clear hc hvs
  go_enter Try.func9, Try.ntmps9
  go_wp2_with fail
  go_loopw [5, 8] (fun _ i wr => ∃ k : Nat, k ≤ len ∧ i = .int .i64 k ∧ Below w.heap.size w wr ∧ own3 wr (w.heap.size + 1) (.int .i64 (cnt vs 0 k)) (.int .i64 (cnt vs 1 k)) (.int .i64 (cnt vs 2 k)) ∧ own3 wr w.heap.size (.int .i64 0) (.int .i64 0) (.int .i64 0)) (fun _ i _ => len - (intOf i).toNat)
  case atStart =>
    refine ⟨0, Nat.zero_le _, rfl, ((Below.refl _ _).alloc (Nat.le_refl _) _).alloc (by simp) _, ?_, ?_⟩
    · have := own3_new (w.alloc (.cells #[.int .i64 0, .int .i64 0, .int .i64 0] 24)) (.int .i64 0) (.int .i64 0) (.int .i64 0) 42
      rw [World.size_alloc] at this; exact this
    · exact own3_alloc (own3_new w (.int .i64 0) (.int .i64 0) (.int .i64 0) 24) _
  case round =>
    obtain ⟨k, hk, rfl, hb, o1, o0⟩ := hrel
    by_cases hlt : k < len
    · obtain ⟨g0, g1, g2, g3, g4, g5, g6, g7⟩ := (HC.out.below hb HC.out.1).2 k hlt
      rw [HVS.out k] at g3
      generalize M k = m at g0 g1 g2 g4 g5 g6 g7
      obtain ⟨pa, pl, pc, op, n, mv, t, x1, x2, d⟩ := m
      have hblk := (HC.out.below hb HC.out.1).1
      have hb0 := HC.out.1
      have O1 := Lib.hid o1
      have O0 := Lib.hid o0
      obtain ⟨hsz, v0, v1, v2, vf⟩ := o1
      clear o0
      have l0 := cnt_le vs 0 k
      have l1 := cnt_le vs 1 k
      have l2 := cnt_le vs 2 k
      generalize hvk : vs k = vk at *
      have HVK := Lib.hid hvk
      clear hvk
      by_cases z0 : vk = 0
      · subst z0
        go_wp2_with fail
        go_roundw
        case rel =>
          have hy := cnt_yes HVK.out
          have ha := cnt_no (v := 1) (vs := vs) (k := k) (by rw [HVK.out]; decide)
          have hc := cnt_no (v := 2) (vs := vs) (k := k) (by rw [HVK.out]; decide)
          refine ⟨k + 1, by omega, by go_num, (hb.setCell (by simp) _).alloc (by simp only [World.size_setCell]; exact hb.size) _, ?_, ?_⟩
          · rw [hy, ha, hc]
            have := own3_alloc (own3_set0 O1.out (.int .i64 (↑(cnt vs 0 k) + 1))) (.cells #[.slice pa pl pc, .int .i64 op, .int .i64 n, .int .i64 0, .int .i64 t, .int .i64 x1, .int .i64 x2, .string d] 39)
            exact this
          · exact own3_alloc (own3_far O0.out (by omega) _ _) _
        case measure => simp [intOf]; omega
      · by_cases z1 : vk = 1
        · subst z1
          clear z0
          go_wp2_with fail
          go_roundw
          case rel =>
            have hy := cnt_yes HVK.out
            have ha := cnt_no (v := 0) (vs := vs) (k := k) (by rw [HVK.out]; decide)
            have hc := cnt_no (v := 2) (vs := vs) (k := k) (by rw [HVK.out]; decide)
            refine ⟨k + 1, by omega, by go_num, (hb.setCell (by simp) _).alloc (by simp only [World.size_setCell]; exact hb.size) _, ?_, ?_⟩
            · rw [hy, ha, hc]
              have := own3_alloc (own3_set1 O1.out (.int .i64 (↑(cnt vs 1 k) + 1))) (.cells #[.slice pa pl pc, .int .i64 op, .int .i64 n, .int .i64 1, .int .i64 t, .int .i64 x1, .int .i64 x2, .string d] 39)
              exact this
            · exact own3_alloc (own3_far O0.out (by omega) _ _) _
          case measure => simp [intOf]; omega
        · by_cases z2 : vk = 2
          · subst z2
            clear z0 z1
            go_wp2_with fail
            go_roundw
            case rel =>
              have hy := cnt_yes HVK.out
              have ha := cnt_no (v := 0) (vs := vs) (k := k) (by rw [HVK.out]; decide)
              have hc := cnt_no (v := 1) (vs := vs) (k := k) (by rw [HVK.out]; decide)
              refine ⟨k + 1, by omega, by go_num, (hb.setCell (by simp) _).alloc (by simp only [World.size_setCell]; exact hb.size) _, ?_, ?_⟩
              · rw [hy, ha, hc]
                have := own3_alloc (own3_set2 O1.out (.int .i64 (↑(cnt vs 2 k) + 1))) (.cells #[.slice pa pl pc, .int .i64 op, .int .i64 n, .int .i64 2, .int .i64 t, .int .i64 x1, .int .i64 x2, .string d] 39)
                exact this
              · exact own3_alloc (own3_far O0.out (by omega) _ _) _
            case measure => simp [intOf]; omega
          · by_cases p0 : 0 ≤ vk
            · have p1 : 3 ≤ vk := by omega
              have Z0 := Lib.hid z0
              have Z1 := Lib.hid z1
              have Z2 := Lib.hid z2
              clear z0 z1 z2
              go_wp2_with fail
              go_roundw
              case rel =>
                refine ⟨k + 1, by omega, by go_num, hb.alloc hb.size _, ?_, ?_⟩
                · rw [cnt_no (by rw [HVK.out]; exact Z0.out), cnt_no (by rw [HVK.out]; exact Z1.out), cnt_no (by rw [HVK.out]; exact Z2.out)]
                  exact own3_alloc O1.out _
                · exact own3_alloc O0.out _
              case measure => simp [intOf]; omega
            · have Z0 := Lib.hid z0
              have Z1 := Lib.hid z1
              have Z2 := Lib.hid z2
              clear z0 z1 z2
              go_wp2_with fail
              go_roundw
              case rel =>
                refine ⟨k + 1, by omega, by go_num, hb.alloc hb.size _, ?_, ?_⟩
                · rw [cnt_no (by rw [HVK.out]; exact Z0.out), cnt_no (by rw [HVK.out]; exact Z1.out), cnt_no (by rw [HVK.out]; exact Z2.out)]
                  exact own3_alloc O1.out _
                · exact own3_alloc O0.out _
              case measure => simp [intOf]; omega
    · obtain rfl : k = len := by omega
      have O0 := Lib.hid o0
      obtain ⟨hsz, v0, v1, v2, vf⟩ := o1
      clear o0
      go_wp2_with fail
      refine (score_any _ _ _ _).mono ?_
      rintro e w2 ⟨rfl, hb3⟩
      have o2 := own3_below O0.out hb3 (by omega)
      have hb4 := hb.trans (hb3.mono hb.size)
      have FIN := Lib.hid (own3_set o2 (.int .i64 (cnt vs 0 k)) (.int .i64 (cnt vs 1 k)) (.int .i64 (cnt vs 2 k)))
      clear hb3 v0 v1 v2 vf
      obtain ⟨_, v0, v1, v2, vf⟩ := o2
      go_wp2_with fail
      obtain ⟨_, f0, f1, f2, _⟩ := FIN.out
      exact bodyPost_ret (v := .agg #[.int .i64 (cnt vs 0 k), .int .i64 (cnt vs 1 k), .int .i64 (cnt vs 2 k)]) (by simp [results, Try.results9, go_sem, f0, f1, f2]) rfl ⟨rfl, ((hb4.setCell (by simp) _).setCell (by simp) _).setCell (by simp) _⟩
end Go.Proofs.Ytbdmkgdgbpfhpaa
