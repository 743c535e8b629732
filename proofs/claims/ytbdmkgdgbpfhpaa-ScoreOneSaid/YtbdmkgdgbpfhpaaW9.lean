/- The law ScoreJoins: append of lists of mutants, and the walk. No conditions. -/
import Derived.Test.YtbdmkgdgbpfhpaaW8
import Derived.RangeFuncRecord
import Derived.Laws.AppendOwnNone
import Derived.Deep.RegionHeld3
namespace Go.Proofs.Ytbdmkgdgbpfhpaa
set_option linter.unusedVariables false
open Go.RowKit
theorem Muts.row {w : World} {a : Addr} {n : Nat} {M : Nat → Mu} (h : Muts w (some a) n M) : ∀ j u, (muRow M n)[j]? = some u → w.cell? (a.add j) = some u := by
  rcases h with rfl | ⟨b, off, ha, h⟩
  · intro j u hu; rw [muRow_zero] at hu; simp at hu
  · cases ha; exact h.row
theorem own_empty (w : World) : (w.alloc (.cells #[] 39)).ownsRow w.heap.size 39 8 (.slice (some ⟨w.heap.size, 0, none⟩) 0 0) 0 [] :=
  ⟨rfl, .inr ⟨w.heap.size, 0, #[], rfl, Nat.le_refl _, World.alloc_heap_new w _, Nat.le_refl _, Nat.zero_le _, rfl, rfl⟩⟩
theorem zero39 : ∃ (i : TypeInfo) (z : Value), Try.prog.info? 39 = some i ∧ i.zero = some z ∧ i.size = 8 ∧ i.bytes = 88 ∧ z.cells.size = 8 := by
  have h := info39
  cases h' : Try.prog.info? 39 with
  | none => rw [h'] at h; simp at h
  | some i =>
    rw [h'] at h
    simp only [Option.map_some, Option.some.injEq, Prod.mk.injEq] at h
    obtain ⟨h1, h2, h3⟩ := h
    cases hz : i.zero with
    | none => rw [hz] at h1; simp at h1
    | some z => rw [hz] at h1; exact ⟨i, z, rfl, hz, h2, h3, by simpa using h1⟩
theorem own_block {w : World} {n₀ n : Nat} {v : Value} {xs : List Value} (h : w.ownsRow n₀ 39 8 v n xs) : ∀ k, v.ownBlock = some k → n₀ ≤ k := by
  intro k hk
  rcases h.2 with ⟨rfl, _⟩ | ⟨g, cap, cur, rfl, hb, _⟩
  · simp [Value.ownBlock] at hk
  · simp [Value.ownBlock] at hk; omega
/-- 'append(own, src...)', src a list of mutants, nil or not -/
theorem append_mut {w : World} {ops : Array Oper} {rest : List Oper} {o : Oper} {act : Act} {Q : Exit → Act → World → Prop} (hgd : o.guard = none) (s x : Operand)
    (ho : o.op = .call { callee := .builtin .append, args := #[s, x], argTypes := #[22, 22] }) (n₀ : Nat) (v : Value) (n : Nat) (N : Nat → Mu) (hs : act.eval s = v) (hown : w.ownsRow n₀ 39 8 v n (muRow N n))
    (a : Option Addr) (m c : Nat) (M : Nat → Mu) (hx : act.eval x = .slice a m c) (hM : Muts w a m M) (hnil : a = none → m = 0 ∧ c = 0) (hle : n + m ≤ 2000) (hb : n₀ ≤ w.heap.size)
    (h : ∀ v' w', w'.ownsRow n₀ 39 8 v' (n + m) (muRow (both N M n) (n + m)) → Below n₀ w w' → wpList Try.prog ops Q rest (act.put o.dst v') w') : wpList Try.prog ops Q (o :: rest) act w := by
  obtain ⟨i, z, hi, hz, hsz, hby, hzs⟩ := zero39
  cases a with
  | none =>
    obtain ⟨rfl, rfl⟩ := hnil rfl
    refine wpList_append_own_none hgd s x 22 ho n₀ 39 i 8 Try.underlying22 hi v n (muRow N n) hs hown hx (h v w ?_ (Below.refl _ _))
    rw [← muRow_append, muRow_zero, List.append_nil]
    exact hown
  | some a =>
    refine wpList_append_own _ hgd s x 22 ho n₀ 39 i z 8 88 Try.underlying22 hi hz hsz hby hzs (by decide) v n (muRow N n) hs hown a m c (muRow M m) hx (muRow_len M m) hM.row (muRow_one M m) (by unfold maxLen; omega) (by omega) hb (fun v' w' hown' hg _ => h v' w' ?_ ?_)
    · rw [← muRow_append]; exact hown'
    · exact (Below.refl n₀ w).grown hg hb (own_block hown)

theorem w64_two {a b s : Nat} (h : a + b = s) (hs : s ≤ 800) : wrap64 ((a : Int) + (b : Int)) = (s : Int) := by unfold wrap64; omega
theorem w64_three {a b c : Nat} (hs : a + b + c ≤ 800) : wrap64 ((a : Int) + (b : Int) + (c : Int)) = (a : Int) + (b : Int) + (c : Int) := by unfold wrap64; omega
theorem i64_two {a b : Nat} (hs : a + b ≤ 800) : IntKind.i64.wrap ((a : Int) + (b : Int)) = (a : Int) + (b : Int) := IntWalk.i64_in ((a : Int) + (b : Int)) (by omega)
def Sl (a : Option Addr) (n c : Nat) : Prop := a = none → n = 0 ∧ c = 0
theorem later2 {W w1 w2 : World} {n : Nat} (h : Below n W w1) (hb : Below n w1 w2) : Below n W w2 := h.trans hb

theorem both_self (A : Nat → Mu) : both A A 0 = A := by funext i; simp [both]
theorem joined (A B : Nat → Mu) (n m : Nat) (v : Int) : cnt (fun i => (both (both A A 0) B (0 + n) i).v) v (0 + n + m) = cnt (fun i => (A i).v) v n + cnt (fun i => (B i).v) v m := by
  rw [both_self, Nat.zero_add, cnt_both]
theorem Of_joined {n₀ : Nat} {v : Value} {A B : Nat → Mu} {n m p0 p1 p2 q0 q1 q2 : Nat} {w : World} (hn : n ≤ 400) (hm : m ≤ 400) (hown : w.ownsRow n₀ 39 8 v (0 + n + m) (muRow (both (both A A 0) B (0 + n)) (0 + n + m)))
    (h0 : cnt (fun i => (A i).v) 0 n = p0) (h1 : cnt (fun i => (A i).v) 1 n = p1) (h2 : cnt (fun i => (A i).v) 2 n = p2) (k0 : cnt (fun i => (B i).v) 0 m = q0) (k1 : cnt (fun i => (B i).v) 1 m = q1) (k2 : cnt (fun i => (B i).v) 2 m = q2) :
    Calls Try.prog 9 #[v] w fun e w' => e = .returned (.agg #[.int .i64 ((p0 + q0 : Nat) : Int), .int .i64 ((p1 + q1 : Nat) : Int), .int .i64 ((p2 + q2 : Nat) : Int)]) ∧ Below w.heap.size w w' := by
  obtain ⟨a3, c3, rfl, hM3, _⟩ := Muts.of_row hown
  have := Of_gen a3 (0 + n + m) c3 _ w (by omega) hM3
  rw [joined, joined, joined, h0, h1, h2, k0, k1, k2] at this
  exact this
theorem Of_plain {a : Option Addr} {n c : Nat} {A : Nat → Mu} {p0 p1 p2 : Nat} {w : World} (hn : n ≤ 400) (hM : Muts w a n A)
    (h0 : cnt (fun i => (A i).v) 0 n = p0) (h1 : cnt (fun i => (A i).v) 1 n = p1) (h2 : cnt (fun i => (A i).v) 2 n = p2) :
    Calls Try.prog 9 #[.slice a n c] w fun e w' => e = .returned (.agg #[.int .i64 (p0 : Int), .int .i64 (p1 : Int), .int .i64 (p2 : Int)]) ∧ Below w.heap.size w w' := by
  have := Of_gen a n c A w (by omega) hM
  rw [h0, h1, h2] at this
  exact this

set_option maxRecDepth 100000 in
set_option maxHeartbeats 2000000 in
theorem joins_in (a : Option Addr) (la ca : Nat) (A : Nat → Mu) (b : Option Addr) (lb cb : Nat) (B : Nat → Mu) (w : World) (hA : Muts w a la A) (hB : Muts w b lb B) (na : Sl a la ca) (nb : Sl b lb cb) (h1 : la ≤ 400) (h2 : lb ≤ 400) :
    Calls Try.prog 4 #[.slice a la ca, .slice b lb cb] w fun e w' => e = .returned (.bool true) ∧ Below w.heap.size w w' := by
  have h1' : decide ((400 : Int) < la) = false := by simp; omega
  have h2' : decide ((400 : Int) < lb) = false := by simp; omega
  have HL1 := Lib.hid h1
  have HL2 := Lib.hid h2
  have HA := Lib.hid hA
  have HB := Lib.hid hB
  have NA := Lib.hid na
  have NB := Lib.hid nb
  clear hA hB na nb
  obtain ⟨p0, e0⟩ : ∃ p, cnt (fun i => (A i).v) 0 la = p := ⟨_, rfl⟩
  obtain ⟨p1, e1⟩ : ∃ p, cnt (fun i => (A i).v) 1 la = p := ⟨_, rfl⟩
  obtain ⟨p2, e2⟩ : ∃ p, cnt (fun i => (A i).v) 2 la = p := ⟨_, rfl⟩
  obtain ⟨q0, f0⟩ : ∃ p, cnt (fun i => (B i).v) 0 lb = p := ⟨_, rfl⟩
  obtain ⟨q1, f1⟩ : ∃ p, cnt (fun i => (B i).v) 1 lb = p := ⟨_, rfl⟩
  obtain ⟨q2, f2⟩ : ∃ p, cnt (fun i => (B i).v) 2 lb = p := ⟨_, rfl⟩
  have hp := cnt3_le (fun i => (A i).v) la
  have hq := cnt3_le (fun i => (B i).v) lb
  rw [e0, e1, e2] at hp
  rw [f0, f1, f2] at hq
  obtain ⟨s0, g0⟩ : ∃ s, p0 + q0 = s := ⟨_, rfl⟩
  obtain ⟨s1, g1⟩ : ∃ s, p1 + q1 = s := ⟨_, rfl⟩
  obtain ⟨s2, g2⟩ : ∃ s, p2 + q2 = s := ⟨_, rfl⟩
  have hsum : s0 + s1 + s2 ≤ la + lb := by omega
  have b0 : s0 ≤ 800 := by omega
  have b1 : s1 ≤ 800 := by omega
  have b2 : s2 ≤ 800 := by omega
  have G0 := Lib.hid g0
  have G1 := Lib.hid g1
  have G2 := Lib.hid g2
  have HTEST := Lib.hid (show decide ((s0 : Int) + (s1 : Int) + (s2 : Int) ≤ (la : Int) + (lb : Int)) = true by simp; omega)
  have HW0 := Lib.hid (w64_two g0 b0)
  have HW1 := Lib.hid (w64_two g1 b1)
  have HW2 := Lib.hid (w64_two g2 b2)
  have HT := Lib.hid (w64_three (a := s0) (b := s1) (c := s2) (by omega))
  have HWL := Lib.hid (i64_two (a := la) (b := lb) (by omega))
  clear g0 g1 g2 hp hq
  have P0 := Lib.hid e0
  have P1 := Lib.hid e1
  have P2 := Lib.hid e2
  have Q0 := Lib.hid f0
  have Q1 := Lib.hid f1
  have Q2 := Lib.hid f2
  clear e0 e1 e2 f0 f1 f2
  go_enter Try.func4, Try.ntmps4
  go_wp2_with fail
  refine (works_any _).mono ?_
  rintro e w1 ⟨rfl, hb1⟩
  have HA1 := Lib.hid ((HA.out.later hb1).later ((Below.refl _ w1).alloc (Nat.le_refl _) (.cells #[] 39)))
  have HO := Lib.hid (own_empty w1)
  go_wp2_with (first | (at_builtin; refine append_mut rfl (.tmp 20) (.tmp 21) rfl w1.heap.size (.slice (some ⟨w1.heap.size, 0, none⟩) 0 0) 0 A rfl HO.out a la ca A rfl HA1.out NA.out (by omega) (by simp) ?_; intro v2 w2 hown2 hgrow2; have hbl2 : Below w1.heap.size w1 w2 := ((Below.refl _ w1).alloc (Nat.le_refl _) _).trans hgrow2; have HB2 := Lib.hid ((HB.out.later hb1).later hbl2)) | (at_builtin; refine append_mut rfl (.tmp 22) (.tmp 23) rfl w1.heap.size v2 (0 + la) _ rfl hown2 b lb cb B rfl HB2.out NB.out (by omega) hbl2.size ?_; intro v3 w3 hown3 hgrow3))
  have hbl3 := later2 hbl2 hgrow3
  have C1 := Of_joined (A := A) (B := B) h1 h2 hown3 P0.out P1.out P2.out Q0.out Q1.out Q2.out
  rw [G0.out, G1.out, G2.out] at C1
  refine C1.mono ?_
  clear C1
  rintro e w4 ⟨rfl, hb4⟩
  have hbl4 : Below w1.heap.size w1 w4 := later hbl3 hb4
  clear hown3 hown2 hgrow2 hgrow3 hb4 hbl3 hbl2
  have hbx4 : Below w4.heap.size w4 ((w4.alloc (.cells #[.int .i64 s0, .int .i64 s1, .int .i64 s2] 24)).alloc (.cells #[] 39)) := ((Below.refl _ w4).alloc (Nat.le_refl _) _).alloc (by simp) _
  have HB4 := Lib.hid (((HB.out.later hb1).later hbl4).later hbx4)
  have HO4 := own_empty (w4.alloc (.cells #[.int .i64 s0, .int .i64 s1, .int .i64 s2] 24))
  rw [World.size_alloc] at HO4
  replace HO4 := Lib.hid HO4
  have o4 := own3_alloc (own3_new w4 (.int .i64 s0) (.int .i64 s1) (.int .i64 s2) 24) (.cells #[] 39)
  have O4 := Lib.hid o4
  clear o4
  go_wp2_with (first | (at_builtin; refine append_mut rfl (.tmp 26) (.tmp 27) rfl (w4.heap.size + 1) (.slice (some ⟨w4.heap.size + 1, 0, none⟩) 0 0) 0 B rfl HO4.out b lb cb B rfl HB4.out NB.out (by omega) (by simp) ?_; intro v5 w5 hown5 hgrow5; have hbl5 : Below w4.heap.size w4 w5 := hbx4.trans (hgrow5.mono (by omega)); have HA5 := Lib.hid (((HA.out.later hb1).later hbl4).later hbl5)) | (at_builtin; refine append_mut rfl (.tmp 28) (.tmp 29) rfl (w4.heap.size + 1) v5 (0 + lb) _ rfl hown5 a la ca A rfl HA5.out NA.out (by omega) (by have := hgrow5.size; simp at this; omega) ?_; intro v6 w6 hown6 hgrow6))
  have C2 := Of_joined (A := B) (B := A) h2 h1 hown6 Q0.out Q1.out Q2.out P0.out P1.out P2.out
  rw [Nat.add_comm q0, Nat.add_comm q1, Nat.add_comm q2, G0.out, G1.out, G2.out] at C2
  refine C2.mono ?_
  clear C2
  rintro e w7 ⟨rfl, hb7⟩
  have o6 := own3_below (own3_below O4.out hgrow5 (by omega)) hgrow6 (by omega)
  have o7 := own3_below o6 hb7 o6.1
  have hbl7 : Below w4.heap.size w4 w7 := later (hbl5.trans (hgrow6.mono (by omega))) hb7
  clear hown6 hown5 hgrow5 hgrow6 hb7 hbl5 hbx4 o6
  go_wp2_with fail
  have x1 := own3_alloc o7 (.cells #[.int .i64 s0, .int .i64 s1, .int .i64 s2] 24)
  have x2 := own3_new w7 (.int .i64 s0) (.int .i64 s1) (.int .i64 s2) 24
  have hbl8 : Below w4.heap.size w4 (w7.alloc (.cells #[.int .i64 s0, .int .i64 s1, .int .i64 s2] 24)) := hbl7.alloc hbl7.size _
  generalize w7.alloc (.cells #[.int .i64 s0, .int .i64 s1, .int .i64 s2] 24) = W8 at x1 x2 hbl8 ⊢
  have HA8 := Lib.hid (((HA.out.later hb1).later hbl4).later hbl8)
  have HB8 := Lib.hid (((HB.out.later hb1).later hbl4).later hbl8)
  have hend : Below w.heap.size w W8 := later (later hb1 hbl4) hbl8
  have HEND := Lib.hid hend
  have k0 : ∀ w', Below W8.heap.size W8 w' → w'.cell? ⟨w4.heap.size, 0, none⟩ = some (.int .i64 s0) := fun w' h => cell_later h x1.2.1
  have k1 : ∀ w', Below W8.heap.size W8 w' → w'.cell? ⟨w4.heap.size, 1, none⟩ = some (.int .i64 s1) := fun w' h => cell_later h x1.2.2.1
  have k2 : ∀ w', Below W8.heap.size W8 w' → w'.cell? ⟨w4.heap.size, 2, none⟩ = some (.int .i64 s2) := fun w' h => cell_later h x1.2.2.2.1
  have l0 : ∀ w', Below W8.heap.size W8 w' → w'.cell? ⟨w7.heap.size, 0, none⟩ = some (.int .i64 s0) := fun w' h => cell_later h x2.2.1
  have l1 : ∀ w', Below W8.heap.size W8 w' → w'.cell? ⟨w7.heap.size, 1, none⟩ = some (.int .i64 s1) := fun w' h => cell_later h x2.2.2.1
  have l2 : ∀ w', Below W8.heap.size W8 w' → w'.cell? ⟨w7.heap.size, 2, none⟩ = some (.int .i64 s2) := fun w' h => cell_later h x2.2.2.2.1
  have hadd := fun W => add_plain p0 p1 p2 q0 q1 q2 W
  rw [HW0.out, HW1.out, HW2.out] at hadd
  have htot := fun W => total_plain s0 s1 s2 W
  rw [HT.out] at htot
  have HADD := Lib.hid hadd
  have HTOT := Lib.hid htot
  have htest := HTEST.out
  have hwl := HWL.out
  clear x1 x2 hbl8 hbl7 hbl4 hb1 o7 hadd htot hend h1 h2 h1' h2' b0 b1 b2 hsum
  go_region_held3 (fun w' => Below W8.heap.size W8 w') (first | assumption | go_grown)
    (first | (go_at_call 9; first | ((with_reducible refine (Of_plain (a := a) HL1.out (HA8.out.later (by first | assumption | go_grown)) P0.out P1.out P2.out).mono ?_); rintro e w9 ⟨rfl, hb9⟩; obtain ⟨hbl9, hsz9⟩ := later' (by first | assumption | go_grown) hb9; clear hb9) | ((with_reducible refine (Of_plain (a := b) HL2.out (HB8.out.later (by first | assumption | go_grown)) Q0.out Q1.out Q2.out).mono ?_); rintro e w9 ⟨rfl, hb9⟩; obtain ⟨hbl9, hsz9⟩ := later' (by first | assumption | go_grown) hb9; clear hb9)) | (go_at_call 13; refine (HADD.out _).mono ?_; rintro e w9 ⟨rfl, hb9⟩; obtain ⟨hbl9, hsz9⟩ := later' (by first | assumption | go_grown) hb9; clear hb9) | (go_at_call 14; refine (HTOT.out _).mono ?_; rintro e w9 ⟨rfl, hb9⟩; obtain ⟨hbl9, hsz9⟩ := later' (by first | assumption | go_grown) hb9; clear hb9))
  all_goals go_wp2_with fail
  all_goals go_ret
  all_goals exact ⟨ret_bool (by first | rfl | simp), later HEND.out (by first | assumption | go_grown)⟩
end Go.Proofs.Ytbdmkgdgbpfhpaa
