/- ScoreOne: the walk. No conditions. -/
import Derived.Test.YtbdmkgdgbpfhpaaW12
namespace Go.Proofs.Ytbdmkgdgbpfhpaa
set_option linter.unusedVariables false
open Go Go.RowKit

theorem want_of {c : Prop} [Decidable c] {t e : Prop} (hc : c) (h : t) : if c then t else e := by rw [if_pos hc]; exact h
theorem cnt_one (mm : Mu) (v : Int) : cnt (fun i => (oneM mm i).v) v 1 = if mm.v = v then 1 else 0 := by
  rw [cnt_succ, cnt_zero]; unfold oneM; simp
theorem cnt_put (A : Nat → Mu) (mm : Mu) (n : Nat) (v : Int) : cnt (fun i => (both (both A A 0) (oneM mm) (0 + n) i).v) v (0 + n + 1) = cnt (fun i => (A i).v) v n + if mm.v = v then 1 else 0 := by
  rw [both_self, Nat.zero_add, cnt_both, cnt_one]
theorem Of_put {n₀ : Nat} {v : Value} {A : Nat → Mu} {mm : Mu} {n q0 q1 q2 : Nat} {w : World} (hn : n ≤ 400) (hown : MRow w n₀ v (0 + n + 1) (both (both A A 0) (oneM mm) (0 + n)))
    (h0 : cnt (fun i => (A i).v) 0 n + (if mm.v = 0 then 1 else 0) = q0) (h1 : cnt (fun i => (A i).v) 1 n + (if mm.v = 1 then 1 else 0) = q1) (h2 : cnt (fun i => (A i).v) 2 n + (if mm.v = 2 then 1 else 0) = q2) :
    Calls Try.prog 9 #[v] w fun e w' => e = .returned (.agg #[.int .i64 (q0 : Nat), .int .i64 (q1 : Nat), .int .i64 (q2 : Nat)]) ∧ Below w.heap.size w w' := by
  obtain ⟨a3, c3, rfl, hM3, _⟩ := Muts.of_row hown
  have := Of_gen a3 (0 + n + 1) c3 _ w (by omega) hM3
  rw [cnt_put, cnt_put, cnt_put, h0, h1, h2] at this
  exact this
theorem wanted_at {ops : Array Oper} {tmps : Array Value} {o oj : Oper} {j s : Nat} {want b : Bool} (hg : o.guard = some (j, want)) (hj : ops[j]? = some oj) (hd : oj.dst = some s) (ht : tmps[s]? = some (.bool b)) : Region.wanted o (yielded ops tmps) = (b == want) := by
  unfold Region.wanted yielded
  rw [hg]
  simp only [hj, Option.bind_some, hd, ht]
  cases b <;> cases want <;> rfl
/-- one operation, wanted or not, that gives one value -/
def StepOutG (P : Program) (ops : Array Oper) (Q : Exit → Act → World → Prop) (a0 : Act) (Vs : Nat → Value) (WS : (Nat → Bool) → World → Prop) (i : Nat) (o : Oper) : Prop :=
  ∀ D a w, D i = false → (∀ e ∈ o.after, Region.binds .any e = true → D e.on = true) → Closed ops D → AV ops a0 Vs D a → WS D w →
    (Region.wanted o (yielded ops a.tmps) = true ∧ o.wp P a w (fun a' w' => a' = a.put o.dst (Vs i) ∧ WS (updD D i) w') Q) ∨ (Region.wanted o (yielded ops a.tmps) = false ∧ Vs i = undef ∧ WS (updD D i) w)
theorem wp_region_sg {P : Program} {id : Nat} {l : List Oper} {Q : Exit → Act → World → Prop} {a0 : Act} {w : World} (hm : P.follows .mixedOrders = true) (Vs : Nat → Value) (WS : (Nat → Bool) → World → Prop) (hk : regOk l.toArray a0.tmps.size = true)
    (h0 : WS (fun _ => false) w.drew) (hstep : AllFrom (StepOutG P l.toArray Q a0 Vs WS) 0 l)
    (hend : ∀ a w, AV l.toArray a0 Vs (fun i => decide (i < l.length)) a → WS (fun i => decide (i < l.length)) w → Q .normal a w) : (Code.region id l.toArray true).wp P Q a0 w := by
  refine wp_region_inv hm (fun V D w => (∀ i, D i = true → V i = Vs i) ∧ WS D w) hk ⟨fun _ h => (by cases h), h0⟩ (AllFrom.imp (fun i o h => ?_) hstep) (fun V a w hav hws => hend a w (hav.as hws.1) hws.2)
  intro V D a w hD hd hc hav hws
  rcases h D a w hD hd hc (hav.as hws.1) hws.2 with ⟨h1, h2⟩ | ⟨h1, h2, h3⟩
  · rw [if_pos h1]
    exact Oper.wp_mono (fun a' w' ⟨e, hw'⟩ => ⟨Vs i, e, updV_as hws.1, hw'⟩) h2
  · rw [if_neg (by rw [h1]; decide), ← h2]
    exact ⟨updV_as hws.1, h3⟩
/-- the mutant lies in block b -/
def muBox (w : World) (b : Nat) (mm : Mu) : Prop := w.heap[b]? = some (.cells (muCells8 mm).toArray 39 (0, 0))
theorem muBox.cells {w : World} {b : Nat} {mm : Mu} (h : muBox w b mm) : w.cell? ⟨b, 0, none⟩ = some (.slice mm.pa mm.pl mm.pc) ∧ w.cell? ⟨b, 1, none⟩ = some (.int .i64 mm.op) ∧ w.cell? ⟨b, 2, none⟩ = some (.int .i64 mm.n) ∧ w.cell? ⟨b, 3, none⟩ = some (.int .i64 mm.v) ∧ w.cell? ⟨b, 4, none⟩ = some (.int .i64 mm.t) ∧ w.cell? ⟨b, 5, none⟩ = some (.int .i64 mm.o1) ∧ w.cell? ⟨b, 6, none⟩ = some (.int .i64 mm.o2) ∧ w.cell? ⟨b, 7, none⟩ = some (.string mm.d) := by
  have h' : w.heap[b]? = _ := h
  unfold World.cell?
  rw [h']
  exact ⟨rfl, rfl, rfl, rfl, rfl, rfl, rfl, rfl⟩
theorem muBox.muts {w : World} {b : Nat} {mm : Mu} (h : muBox w b mm) : Muts w (some ⟨b, 0, none⟩) 1 (oneM mm) := by
  refine .inr ⟨b, 0, rfl, (Array.getElem?_eq_some_iff.1 h).1, fun i hi => ?_⟩
  obtain rfl : i = 0 := by omega
  exact h.cells
theorem muBox.low {w w' : World} {b n : Nat} {mm : Mu} (h : muBox w b mm) (hb : Below n w w') (hn : b < n) : muBox w' b mm := (hb.block b hn).trans h
set_option maxRecDepth 100000 in
set_option maxHeartbeats 4000000 in
theorem one_in (a : Option Addr) (la ca : Nat) (A : Nat → Mu) (mm : Mu) (w : World) (hA : Muts w a la A) (na : Sl a la ca) (h1 : la ≤ 400) :
    Calls Try.prog 7 #[.slice a la ca, mmA mm] w fun e w' => e = .returned (.bool true) ∧ Below w.heap.size w w' := by
  have h1' : decide ((400 : Int) < la) = false := by simp; omega
  have d1 : decide ((la : Int) > 400) = false := by simp; omega
  obtain ⟨p0, e0⟩ : ∃ p, cnt (fun i => (A i).v) 0 la = p := ⟨_, rfl⟩
  obtain ⟨p1, e1⟩ : ∃ p, cnt (fun i => (A i).v) 1 la = p := ⟨_, rfl⟩
  obtain ⟨p2, e2⟩ : ∃ p, cnt (fun i => (A i).v) 2 la = p := ⟨_, rfl⟩
  have hp := cnt3_le (fun i => (A i).v) la
  rw [e0, e1, e2] at hp
  obtain ⟨q0, f0⟩ : ∃ q, p0 + (if mm.v = 0 then 1 else 0) = q := ⟨_, rfl⟩
  obtain ⟨q1, f1⟩ : ∃ q, p1 + (if mm.v = 1 then 1 else 0) = q := ⟨_, rfl⟩
  obtain ⟨q2, f2⟩ : ∃ q, p2 + (if mm.v = 2 then 1 else 0) = q := ⟨_, rfl⟩
  have OA := Lib.hid (fun W (h : Muts W a la A) => Of_plain (c := ca) h1 h e0 e1 e2)
  have OB := Lib.hid (fun v W n₀ (h : MRow W n₀ v (0 + la + 1) (both (both A A 0) (oneM mm) (0 + la))) => Of_put (A := A) (mm := mm) (q0 := q0) (q1 := q1) (q2 := q2) h1 h (by rw [e0]; exact f0) (by rw [e1]; exact f1) (by rw [e2]; exact f2))
  have HA := Lib.hid hA
  have NA := Lib.hid na
  have HP := Lib.hid hp
  have F0 := Lib.hid f0
  have F1 := Lib.hid f1
  have F2 := Lib.hid f2
  clear hA na e0 e1 e2 f0 f1 f2 hp
  have HMB := Lib.hid (show muBox (w.alloc (.cells (muCells8 mm).toArray 39)) w.heap.size mm from World.alloc_heap_new w _)
  have HB0 := Lib.hid ((Below.refl _ w).alloc (Nat.le_refl _) (.cells (muCells8 mm).toArray 39))
  unfold muCells8 at HMB HB0
  unfold mmA muCells8
  go_enter Try.func7, Try.ntmps7
  go_wp2_with fail
  generalize w.alloc (.cells #[.slice mm.pa mm.pl mm.pc, .int .i64 mm.op, .int .i64 mm.n, .int .i64 mm.v, .int .i64 mm.t, .int .i64 mm.o1, .int .i64 mm.o2, .string mm.d] 39) = V0 at HMB HB0 ⊢
  refine (works_any V0).mono ?_
  rintro e w1 ⟨rfl, hb1⟩
  have B1 := Lib.hid (HB0.out.trans (hb1.mono HB0.out.size))
  have A1 := Lib.hid (HA.out.later B1.out)
  have hmlt : w.heap.size < V0.heap.size := (Array.getElem?_eq_some_iff.1 HMB.out).1
  have M1 := Lib.hid (HMB.out.low hb1 hmlt)
  have hmb : w.heap.size < w1.heap.size := Nat.lt_of_lt_of_le hmlt hb1.size
  clear hb1 HB0 HMB hmlt HA
  go_wp2_with fail
  refine wp_region_inv (by kernel_rfl) (fun V D W => OneS w1 a la ca A mm p0 p1 p2 q0 q1 q2 V D W) rfl ?h0 ⟨?o0, ?o1, ?o2, ?o3, ?o4, ?o5, ?o6, ?o7, ?o8, ?o9, ?o10, ?o11, ?o12, trivial⟩ ?fin
  case h0 =>
    exact ⟨⟨rfl, rfl, rfl, Nat.le_refl _, fun _ _ => rfl⟩, fun h => (by cases h), fun h => (by cases h), fun h => (by cases h), fun h => (by cases h), fun h => (by cases h), fun h => (by cases h), fun h => (by cases h), fun h => (by cases h), fun h => (by cases h), fun h => (by cases h), fun h => (by cases h), fun h => (by cases h)⟩
  case o0 =>
    intro V D a' W hD hdep hcl hav hws
    refine want_of rfl ?_
    have e0 : a'.tmps[0]? = some (.slice a la ca) := hav.oldAt 0 rfl
    unfold Oper.wp
    simp [go_sem, e0]
    exact ⟨_, rfl, hws.st0⟩
  case o1 =>
    intro V D a' W hD hdep hcl hav hws
    refine want_of rfl ?_
    have d0 : D 0 = true := hdep ⟨0, .data⟩ (by simp) rfl
    have e16 : a'.tmps[16]? = some (V 0) := hav.val 0 _ 16 rfl rfl d0
    rw [hws.s0 d0] at e16
    have hm := A1.out.later hws.low
    unfold Oper.wp
    simp [go_sem, e16]
    refine (OA.out W hm).mono ?_
    rintro e W' ⟨rfl, hb⟩
    exact ⟨_, rfl, (hws.later hb).st1⟩
  case o2 =>
    intro V D a' W hD hdep hcl hav hws
    refine want_of rfl ?_
    have d4 := hcl.not (j := 4) hD rfl ⟨2, .data⟩ (by simp) rfl rfl
    unfold Oper.wp
    simp [go_sem]
    exact ⟨_, rfl, hws.st2 d4⟩
  case o3 =>
    intro V D a' W hD hdep hcl hav hws
    refine want_of rfl ?_
    have e0 : a'.tmps[0]? = some (.slice a la ca) := hav.oldAt 0 rfl
    unfold Oper.wp
    simp [go_sem, e0]
    exact ⟨_, rfl, hws.st3⟩
  case o4 =>
    intro V D a' W hD hdep hcl hav hws
    refine want_of rfl ?_
    have d2 : D 2 = true := hdep ⟨2, .data⟩ (by simp) rfl
    have d3 : D 3 = true := hdep ⟨3, .data⟩ (by simp) rfl
    have d7 := hcl.not (j := 7) hD rfl ⟨4, .data⟩ (by simp) rfl rfl
    have hm := A1.out.later hws.low
    exact wp_app (.tmp 18) (.tmp 19) rfl w1.heap.size (V 2) 0 A (hav.ev 2 rfl rfl d2) (hws.r2 d2 hD) a la ca A ((hav.ev 3 rfl rfl d3).trans (hws.s3 d3)) hm NA.out (by omega) hws.low.size fun v' w' hr hg hl => ⟨v', rfl, hws.st4 d2 hD d7 hr hg hl⟩
  case o5 =>
    intro V D a' W hD hdep hcl hav hws
    refine want_of rfl ?_
    have e3 : a'.tmps[3]? = some (.pointer (some ⟨w.heap.size, 0, none⟩)) := hav.oldAt 3 rfl
    obtain ⟨c0, c1, c2, c3, c4, c5, c6, c7⟩ := (M1.out.low hws.low hmb).cells
    unfold Oper.wp
    simp [go_sem, e3, c0, c1, c2, c3, c4, c5, c6, c7]
    exact ⟨_, rfl, hws.st5⟩
  case o6 =>
    intro V D a' W hD hdep hcl hav hws
    refine want_of rfl ?_
    have d5 : D 5 = true := hdep ⟨5, .data⟩ (by simp) rfl
    have e21 : a'.tmps[21]? = some (V 5) := hav.val 5 _ 21 rfl rfl d5
    have d7 := hcl.not (j := 7) hD rfl ⟨6, .data⟩ (by simp) rfl rfl
    rw [hws.s5 d5] at e21
    unfold mmA muCells8 at e21
    unfold Oper.wp
    simp [go_sem, e21]
    exact ⟨_, rfl, hws.st6 d7⟩
  case o7 =>
    intro V D a' W hD hdep hcl hav hws
    refine want_of rfl ?_
    have d4 : D 4 = true := hdep ⟨4, .data⟩ (by simp) rfl
    have d6 : D 6 = true := hdep ⟨6, .data⟩ (by simp) rfl
    obtain ⟨C, k1, k2, k3, k4, k5⟩ := hws.r6 d6 hD
    exact wp_app (.tmp 20) (.tmp 22) rfl w1.heap.size (V 4) (0 + la) _ (hav.ev 4 rfl rfl d4) (hws.r4 d4 hD) (some ⟨C, 0, none⟩) 1 1 (oneM mm) ((hav.ev 6 rfl rfl d6).trans k1) (muBox.muts k3) (fun h => by cases h) (by omega) hws.low.size fun v' w' hr hg hl => ⟨v', rfl, hws.st7 d4 hD hr hg⟩
  case o8 =>
    intro V D a' W hD hdep hcl hav hws
    refine want_of rfl ?_
    have d7 : D 7 = true := hdep ⟨7, .data⟩ (by simp) rfl
    have e23 : a'.tmps[23]? = some (V 7) := hav.val 7 _ 23 rfl rfl d7
    have hr := hws.r7 d7
    unfold Oper.wp
    simp [go_sem, e23]
    refine (OB.out (V 7) W _ hr).mono ?_
    rintro e W' ⟨rfl, hb⟩
    exact ⟨_, rfl, (hws.later hb).st8⟩
  case o9 =>
    intro V D a' W hD hdep hcl hav hws
    refine want_of rfl ?_
    have d11 := hcl.not (j := 11) hD rfl ⟨9, .data⟩ (by simp) rfl rfl
    unfold Oper.wp
    simp [go_sem]
    exact ⟨_, rfl, hws.st9 d11⟩
  case o10 =>
    intro V D a' W hD hdep hcl hav hws
    refine want_of rfl ?_
    have d12 := hcl.not (j := 12) hD rfl ⟨10, .data⟩ (by simp) rfl rfl
    unfold Oper.wp
    simp [go_sem]
    exact ⟨_, rfl, hws.st10 d12⟩
  case o11 =>
    intro V D a' W hD hdep hcl hav hws
    refine want_of rfl ?_
    have d9 : D 9 = true := hdep ⟨9, .data⟩ (by simp) rfl
    have d1 : D 1 = true := hdep ⟨1, .data⟩ (by simp) rfl
    have e6 : a'.tmps[6]? = some (V 9) := hav.val 9 _ 6 rfl rfl d9
    have e17 : a'.tmps[17]? = some (V 1) := hav.val 1 _ 17 rfl rfl d1
    obtain ⟨P, k1, k2, k3, k4⟩ := hws.r9 d9
    obtain ⟨⟨c0, c1, c2⟩, fz⟩ := (k4 hD).cells
    have f0 := fz 0
    have f1 := fz 1
    have f2 := fz 2
    rw [k1] at e6
    rw [hws.s1 d1] at e17
    unfold Oper.wp
    simp [go_sem, e6, e17, c0, c1, c2, f0, f1, f2]
    exact ⟨undef, hws.st11 d9 hD k1 undef⟩
  case o12 =>
    intro V D a' W hD hdep hcl hav hws
    refine want_of rfl ?_
    have d10 : D 10 = true := hdep ⟨10, .data⟩ (by simp) rfl
    have d8 : D 8 = true := hdep ⟨8, .data⟩ (by simp) rfl
    have e7 : a'.tmps[7]? = some (V 10) := hav.val 10 _ 7 rfl rfl d10
    have e24 : a'.tmps[24]? = some (V 8) := hav.val 8 _ 24 rfl rfl d8
    obtain ⟨P, k1, k2, k3, k4⟩ := hws.r10 d10
    obtain ⟨⟨c0, c1, c2⟩, fz⟩ := (k4 hD).cells
    have f0 := fz 0
    have f1 := fz 1
    have f2 := fz 2
    rw [k1] at e7
    rw [hws.s8 d8] at e24
    unfold Oper.wp
    simp [go_sem, e7, e24, c0, c1, c2, f0, f1, f2]
    exact ⟨undef, hws.st12 d10 hD k1 undef⟩
  case fin =>
    intro V a' W hav hws
    obtain ⟨P, k1, k2, k3, -⟩ := hws.r9 rfl
    obtain ⟨R, j1, j2, j3, -⟩ := hws.r10 rfl
    have X9 := Lib.hid (k3 rfl)
    have X10 := Lib.hid (j3 rfl)
    have ha' := hav.final rfl
    have BW := Lib.hid (B1.out.trans (hws.low.mono B1.out.size))
    have MW := Lib.hid (M1.out.low hws.low hmb)
    clear hav hws k3 j3
    subst ha'
    simp only [putAll, Act.put, List.setIfInBounds_toArray, List.set_cons_succ, List.set_cons_zero, k1, j1]
    obtain ⟨⟨x0, x1, x2⟩, -⟩ := X9.out.cells
    obtain ⟨⟨y0, y1, y2⟩, -⟩ := X10.out.cells
    obtain ⟨-, -, -, m3, -, -, -, -⟩ := MW.out.cells
    have hPl := (Array.getElem?_eq_some_iff.1 (show W.heap[P]? = _ from X9.out)).1
    have hRl := (Array.getElem?_eq_some_iff.1 (show W.heap[R]? = _ from X10.out)).1
    have hMl := (Array.getElem?_eq_some_iff.1 (show W.heap[w.heap.size]? = _ from MW.out)).1
    have hp := HP.out
    have g0 := F0.out
    have g1 := F1.out
    have g2 := F2.out
    have l0 : ∀ w', Below W.heap.size W w' → w'.cell? ⟨P, 0, none⟩ = some (.int .i64 p0) := fun w' h => (h.cell (p := ⟨P, 0, none⟩) hPl).trans x0
    have l1 : ∀ w', Below W.heap.size W w' → w'.cell? ⟨P, 1, none⟩ = some (.int .i64 p1) := fun w' h => (h.cell (p := ⟨P, 1, none⟩) hPl).trans x1
    have l2 : ∀ w', Below W.heap.size W w' → w'.cell? ⟨P, 2, none⟩ = some (.int .i64 p2) := fun w' h => (h.cell (p := ⟨P, 2, none⟩) hPl).trans x2
    have k0 : ∀ w', Below W.heap.size W w' → w'.cell? ⟨R, 0, none⟩ = some (.int .i64 q0) := fun w' h => (h.cell (p := ⟨R, 0, none⟩) hRl).trans y0
    have k1' : ∀ w', Below W.heap.size W w' → w'.cell? ⟨R, 1, none⟩ = some (.int .i64 q1) := fun w' h => (h.cell (p := ⟨R, 1, none⟩) hRl).trans y1
    have k2 : ∀ w', Below W.heap.size W w' → w'.cell? ⟨R, 2, none⟩ = some (.int .i64 q2) := fun w' h => (h.cell (p := ⟨R, 2, none⟩) hRl).trans y2
    have n3 : ∀ w', Below W.heap.size W w' → w'.cell? ⟨w.heap.size, 3, none⟩ = some (.int .i64 mm.v) := fun w' h => (h.cell (p := ⟨w.heap.size, 3, none⟩) hMl).trans m3
    have hbS := Below.refl W.heap.size W
    have ta := fun V => total_plain p0 p1 p2 V
    have hq : q0 + q1 + q2 ≤ 401 := by
      rw [← g0, ← g1, ← g2]; split <;> split <;> split <;> omega
    rw [w64_three (a := p0) (b := p1) (c := p2) (by omega)] at ta
    have tb := fun V => total_plain q0 q1 q2 V
    rw [w64_three (a := q0) (b := q1) (c := q2) (by omega)] at tb
    have TA := Lib.hid ta
    have TB := Lib.hid tb
    have hp0 : p0 ≤ 400 := by omega
    have hp1 : p1 ≤ 400 := by omega
    have hp2 : p2 ≤ 400 := by omega
    have hq0 : q0 ≤ 401 := by omega
    have hq1 : q1 ≤ 401 := by omega
    have hq2 : q2 ≤ 401 := by omega
    clear ta tb x0 x1 x2 y0 y1 y2 hPl hRl hMl HP F0 F1 F2 OA OB M1 A1 NA hp
    have HW1 := Lib.hid (show IntKind.i64.wrap ((p0 : Int) + (p1 : Int) + (p2 : Int) + 1) = (p0 : Int) + (p1 : Int) + (p2 : Int) + 1 by rw [IntKind.wrap_i64]; omega)
    have HW2 := Lib.hid (show IntKind.i64.wrap ((p1 : Int) + 1) = (p1 : Int) + 1 by rw [IntKind.wrap_i64]; omega)
    have HW3 := Lib.hid (show IntKind.i64.wrap ((p0 : Int) + 1) = (p0 : Int) + 1 by rw [IntKind.wrap_i64]; omega)
    generalize mm.v = vv at *
    by_cases v0 : vv = 0
    · subst v0
      have G1 : ((0 : Int) == 1) = false := rfl
      have G0 : ((0 : Int) == 0) = true := rfl
      simp only [if_pos, show ¬ (0 : Int) = 1 by decide, show ¬ (0 : Int) = 2 by decide, if_false] at g0 g1 g2
      have E1 : (((q0 : Int) + (q1 : Int) + (q2 : Int)) == ((p0 : Int) + (p1 : Int) + (p2 : Int) + 1)) = true := by rw [beq_iff_eq]; omega
      have E1w : (((q0 : Int) + (q1 : Int) + (q2 : Int)) == IntKind.i64.wrap ((p0 : Int) + (p1 : Int) + (p2 : Int) + 1)) = true := by rw [HW1.out]; exact E1
      have E2 : ((q1 : Int) == (p1 : Int) + 1) = false := by rw [beq_eq_false_iff_ne]; omega
      have E2w : ((q1 : Int) == IntKind.i64.wrap ((p1 : Int) + 1)) = false := by rw [HW2.out]; exact E2
      have E3 : ((q0 : Int) == (p0 : Int) + 1) = true := by rw [beq_iff_eq]; omega
      have E3w : ((q0 : Int) == IntKind.i64.wrap ((p0 : Int) + 1)) = true := by rw [HW3.out]; exact E3
      clear g0 g1 g2
      go_wp2_with fail
      refine wp_region_sg (by kernel_rfl) (fun i => match i with | 0 => .bool true | 1 => .bool true | 2 => .agg #[.int .i64 q0, .int .i64 q1, .int .i64 q2] | 3 => .int .i64 ((q0 : Int) + (q1 : Int) + (q2 : Int)) | 4 => .agg #[.int .i64 p0, .int .i64 p1, .int .i64 p2] | 5 => .int .i64 ((p0 : Int) + (p1 : Int) + (p2 : Int)) | 6 => .int .i64 (IntKind.i64.wrap ((p0 : Int) + (p1 : Int) + (p2 : Int) + 1)) | 7 => .bool true | 8 => .bool true | 9 => .bool true | 10 => .bool true | 11 => .bool true | 12 => .bool true | 13 => .bool true | 14 => undef | 15 => undef | 16 => undef | 17 => .bool true | 18 => .bool true | 19 => .bool true | 20 => .pointer (some ⟨R, 1, none⟩) | 21 => .int .i64 (q1 : Nat) | 22 => .pointer (some ⟨P, 1, none⟩) | 23 => .int .i64 (p1 : Nat) | 24 => .int .i64 (IntKind.i64.wrap ((p1 : Int) + 1)) | 25 => .bool false | 26 => .pointer (some ⟨w.heap.size, 3, none⟩) | 27 => .int .i64 0 | 28 => .bool false | 29 => .bool true | 30 => .bool true | 31 => .bool true | 32 => .pointer (some ⟨R, 0, none⟩) | 33 => .int .i64 (q0 : Nat) | 34 => .pointer (some ⟨P, 0, none⟩) | 35 => .int .i64 (p0 : Nat) | 36 => .int .i64 (IntKind.i64.wrap ((p0 : Int) + 1)) | 37 => .bool true | 38 => .pointer (some ⟨w.heap.size, 3, none⟩) | 39 => .int .i64 0 | 40 => .bool true | 41 => .bool true | 42 => .bool true | 43 => .bool true | _ => undef)
        (fun D V => Below W.heap.size W V) rfl ⟨rfl, rfl, rfl, Nat.le_refl _, fun _ _ => rfl⟩ ⟨?o0, ?o1, ?o2, ?o3, ?o4, ?o5, ?o6, ?o7, ?o8, ?o9, ?o10, ?o11, ?o12, ?o13, ?o14, ?o15, ?o16, ?o17, ?o18, ?o19, ?o20, ?o21, ?o22, ?o23, ?o24, ?o25, ?o26, ?o27, ?o28, ?o29, ?o30, ?o31, ?o32, ?o33, ?o34, ?o35, ?o36, ?o37, ?o38, ?o39, ?o40, ?o41, ?o42, ?o43, trivial⟩ ?fin
      case o0 =>
        intro D a' V hD hdep hcl hav hws
        refine .inl ⟨rfl, ?_⟩
        have e5 : a'.tmps[5]? = some (.bool true) := hav.oldAt 5 rfl
        unfold Oper.wp
        simpa [go_sem, updD, e5] using hws
      case o1 =>
        intro D a' V hD hdep hcl hav hws
        refine .inl ⟨rfl, ?_⟩
        have d0 : D 0 = true := (by first | (refine hdep ⟨0, .data⟩ ?_ rfl; simp; done) | (refine hdep ⟨0, .guard⟩ ?_ rfl; simp; done) | (refine hdep ⟨0, .chain⟩ ?_ rfl; simp; done))
        have e33 : a'.tmps[33]? = some (.bool true) := hav.val 0 _ 33 rfl rfl d0
        unfold Oper.wp
        simpa [go_sem, updD, e33] using hws
      case o2 =>
        intro D a' V hD hdep hcl hav hws
        have d1 : D 1 = true := (by first | (refine hdep ⟨1, .data⟩ ?_ rfl; simp; done) | (refine hdep ⟨1, .guard⟩ ?_ rfl; simp; done) | (refine hdep ⟨1, .chain⟩ ?_ rfl; simp; done))
        have g34 : a'.tmps[34]? = some (.bool true) := hav.val 1 _ 34 rfl rfl d1
        refine .inl ⟨(wanted_at rfl rfl rfl g34).trans rfl, ?_⟩
        have e7 : a'.tmps[7]? = some (.pointer (some ⟨R, 0, none⟩)) := hav.oldAt 7 rfl
        have x0 := k0 V hws
        have x1 := k1' V hws
        have x2 := k2 V hws
        unfold Oper.wp
        simpa [go_sem, updD, e7, x0, x1, x2] using hws
      case o3 =>
        intro D a' V hD hdep hcl hav hws
        have d1 : D 1 = true := (by first | (refine hdep ⟨1, .data⟩ ?_ rfl; simp; done) | (refine hdep ⟨1, .guard⟩ ?_ rfl; simp; done) | (refine hdep ⟨1, .chain⟩ ?_ rfl; simp; done))
        have g34 : a'.tmps[34]? = some (.bool true) := hav.val 1 _ 34 rfl rfl d1
        refine .inl ⟨(wanted_at rfl rfl rfl g34).trans rfl, ?_⟩
        have d2 : D 2 = true := (by first | (refine hdep ⟨2, .data⟩ ?_ rfl; simp; done) | (refine hdep ⟨2, .guard⟩ ?_ rfl; simp; done) | (refine hdep ⟨2, .chain⟩ ?_ rfl; simp; done))
        have e35 : a'.tmps[35]? = some (.agg #[.int .i64 q0, .int .i64 q1, .int .i64 q2]) := hav.val 2 _ 35 rfl rfl d2
        unfold Oper.wp
        simp [go_sem, e35]
        refine (TB.out V).mono ?_
        rintro e V' ⟨rfl, hb⟩
        exact ⟨rfl, hws.trans (hb.mono hws.size)⟩
      case o4 =>
        intro D a' V hD hdep hcl hav hws
        have d1 : D 1 = true := (by first | (refine hdep ⟨1, .data⟩ ?_ rfl; simp; done) | (refine hdep ⟨1, .guard⟩ ?_ rfl; simp; done) | (refine hdep ⟨1, .chain⟩ ?_ rfl; simp; done))
        have g34 : a'.tmps[34]? = some (.bool true) := hav.val 1 _ 34 rfl rfl d1
        refine .inl ⟨(wanted_at rfl rfl rfl g34).trans rfl, ?_⟩
        have e6 : a'.tmps[6]? = some (.pointer (some ⟨P, 0, none⟩)) := hav.oldAt 6 rfl
        have x0 := l0 V hws
        have x1 := l1 V hws
        have x2 := l2 V hws
        unfold Oper.wp
        simpa [go_sem, updD, e6, x0, x1, x2] using hws
      case o5 =>
        intro D a' V hD hdep hcl hav hws
        have d1 : D 1 = true := (by first | (refine hdep ⟨1, .data⟩ ?_ rfl; simp; done) | (refine hdep ⟨1, .guard⟩ ?_ rfl; simp; done) | (refine hdep ⟨1, .chain⟩ ?_ rfl; simp; done))
        have g34 : a'.tmps[34]? = some (.bool true) := hav.val 1 _ 34 rfl rfl d1
        refine .inl ⟨(wanted_at rfl rfl rfl g34).trans rfl, ?_⟩
        have d4 : D 4 = true := (by first | (refine hdep ⟨4, .data⟩ ?_ rfl; simp; done) | (refine hdep ⟨4, .guard⟩ ?_ rfl; simp; done) | (refine hdep ⟨4, .chain⟩ ?_ rfl; simp; done))
        have e37 : a'.tmps[37]? = some (.agg #[.int .i64 p0, .int .i64 p1, .int .i64 p2]) := hav.val 4 _ 37 rfl rfl d4
        unfold Oper.wp
        simp [go_sem, e37]
        refine (TA.out V).mono ?_
        rintro e V' ⟨rfl, hb⟩
        exact ⟨rfl, hws.trans (hb.mono hws.size)⟩
      case o6 =>
        intro D a' V hD hdep hcl hav hws
        have d1 : D 1 = true := (by first | (refine hdep ⟨1, .data⟩ ?_ rfl; simp; done) | (refine hdep ⟨1, .guard⟩ ?_ rfl; simp; done) | (refine hdep ⟨1, .chain⟩ ?_ rfl; simp; done))
        have g34 : a'.tmps[34]? = some (.bool true) := hav.val 1 _ 34 rfl rfl d1
        refine .inl ⟨(wanted_at rfl rfl rfl g34).trans rfl, ?_⟩
        have d5 : D 5 = true := (by first | (refine hdep ⟨5, .data⟩ ?_ rfl; simp; done) | (refine hdep ⟨5, .guard⟩ ?_ rfl; simp; done) | (refine hdep ⟨5, .chain⟩ ?_ rfl; simp; done))
        have e38 : a'.tmps[38]? = some (.int .i64 ((p0 : Int) + (p1 : Int) + (p2 : Int))) := hav.val 5 _ 38 rfl rfl d5
        unfold Oper.wp
        simpa [go_sem, updD, e38, HW1.out] using hws
      case o7 =>
        intro D a' V hD hdep hcl hav hws
        have d1 : D 1 = true := (by first | (refine hdep ⟨1, .data⟩ ?_ rfl; simp; done) | (refine hdep ⟨1, .guard⟩ ?_ rfl; simp; done) | (refine hdep ⟨1, .chain⟩ ?_ rfl; simp; done))
        have g34 : a'.tmps[34]? = some (.bool true) := hav.val 1 _ 34 rfl rfl d1
        refine .inl ⟨(wanted_at rfl rfl rfl g34).trans rfl, ?_⟩
        have d3 : D 3 = true := (by first | (refine hdep ⟨3, .data⟩ ?_ rfl; simp; done) | (refine hdep ⟨3, .guard⟩ ?_ rfl; simp; done) | (refine hdep ⟨3, .chain⟩ ?_ rfl; simp; done))
        have e36 : a'.tmps[36]? = some (.int .i64 ((q0 : Int) + (q1 : Int) + (q2 : Int))) := hav.val 3 _ 36 rfl rfl d3
        have d6 : D 6 = true := (by first | (refine hdep ⟨6, .data⟩ ?_ rfl; simp; done) | (refine hdep ⟨6, .guard⟩ ?_ rfl; simp; done) | (refine hdep ⟨6, .chain⟩ ?_ rfl; simp; done))
        have e39 : a'.tmps[39]? = some (.int .i64 (IntKind.i64.wrap ((p0 : Int) + (p1 : Int) + (p2 : Int) + 1))) := hav.val 6 _ 39 rfl rfl d6
        unfold Oper.wp
        simpa [go_sem, updD, e36, e39, E1, E1w] using hws
      case o8 =>
        intro D a' V hD hdep hcl hav hws
        have d1 : D 1 = true := (by first | (refine hdep ⟨1, .data⟩ ?_ rfl; simp; done) | (refine hdep ⟨1, .guard⟩ ?_ rfl; simp; done) | (refine hdep ⟨1, .chain⟩ ?_ rfl; simp; done))
        have g34 : a'.tmps[34]? = some (.bool true) := hav.val 1 _ 34 rfl rfl d1
        refine .inl ⟨(wanted_at rfl rfl rfl g34).trans rfl, ?_⟩
        have e8 : a'.tmps[8]? = some (.bool true) := hav.oldAt 8 rfl
        unfold Oper.wp
        simpa [go_sem, updD, e8] using hws
      case o9 =>
        intro D a' V hD hdep hcl hav hws
        have d1 : D 1 = true := (by first | (refine hdep ⟨1, .data⟩ ?_ rfl; simp; done) | (refine hdep ⟨1, .guard⟩ ?_ rfl; simp; done) | (refine hdep ⟨1, .chain⟩ ?_ rfl; simp; done))
        have g34 : a'.tmps[34]? = some (.bool true) := hav.val 1 _ 34 rfl rfl d1
        refine .inl ⟨(wanted_at rfl rfl rfl g34).trans rfl, ?_⟩
        have d7 : D 7 = true := (by first | (refine hdep ⟨7, .data⟩ ?_ rfl; simp; done) | (refine hdep ⟨7, .guard⟩ ?_ rfl; simp; done) | (refine hdep ⟨7, .chain⟩ ?_ rfl; simp; done))
        have e40 : a'.tmps[40]? = some (.bool true) := hav.val 7 _ 40 rfl rfl d7
        have d8 : D 8 = true := (by first | (refine hdep ⟨8, .data⟩ ?_ rfl; simp; done) | (refine hdep ⟨8, .guard⟩ ?_ rfl; simp; done) | (refine hdep ⟨8, .chain⟩ ?_ rfl; simp; done))
        have e41 : a'.tmps[41]? = some (.bool true) := hav.val 8 _ 41 rfl rfl d8
        unfold Oper.wp
        simpa [go_sem, updD, e40, e41] using hws
      case o10 =>
        intro D a' V hD hdep hcl hav hws
        refine .inl ⟨rfl, ?_⟩
        have d1 : D 1 = true := (by first | (refine hdep ⟨1, .data⟩ ?_ rfl; simp; done) | (refine hdep ⟨1, .guard⟩ ?_ rfl; simp; done) | (refine hdep ⟨1, .chain⟩ ?_ rfl; simp; done))
        have e34 : a'.tmps[34]? = some (.bool true) := hav.val 1 _ 34 rfl rfl d1
        have d9 : D 9 = true := (by first | (refine hdep ⟨9, .data⟩ ?_ rfl; simp; done) | (refine hdep ⟨9, .guard⟩ ?_ rfl; simp; done) | (refine hdep ⟨9, .chain⟩ ?_ rfl; simp; done))
        have e42 : a'.tmps[42]? = some (.bool true) := hav.val 9 _ 42 rfl rfl d9
        unfold Oper.wp
        simpa [go_sem, updD, e34, e42] using hws
      case o11 =>
        intro D a' V hD hdep hcl hav hws
        refine .inl ⟨rfl, ?_⟩
        have d10 : D 10 = true := (by first | (refine hdep ⟨10, .data⟩ ?_ rfl; simp; done) | (refine hdep ⟨10, .guard⟩ ?_ rfl; simp; done) | (refine hdep ⟨10, .chain⟩ ?_ rfl; simp; done))
        have e43 : a'.tmps[43]? = some (.bool true) := hav.val 10 _ 43 rfl rfl d10
        unfold Oper.wp
        simpa [go_sem, updD, e43] using hws
      case o12 =>
        intro D a' V hD hdep hcl hav hws
        have d11 : D 11 = true := (by first | (refine hdep ⟨11, .data⟩ ?_ rfl; simp; done) | (refine hdep ⟨11, .guard⟩ ?_ rfl; simp; done) | (refine hdep ⟨11, .chain⟩ ?_ rfl; simp; done))
        have g44 : a'.tmps[44]? = some (.bool true) := hav.val 11 _ 44 rfl rfl d11
        refine .inl ⟨(wanted_at rfl rfl rfl g44).trans rfl, ?_⟩
        have e8 : a'.tmps[8]? = some (.bool true) := hav.oldAt 8 rfl
        unfold Oper.wp
        simpa [go_sem, updD, e8] using hws
      case o13 =>
        intro D a' V hD hdep hcl hav hws
        have d11 : D 11 = true := (by first | (refine hdep ⟨11, .data⟩ ?_ rfl; simp; done) | (refine hdep ⟨11, .guard⟩ ?_ rfl; simp; done) | (refine hdep ⟨11, .chain⟩ ?_ rfl; simp; done))
        have g44 : a'.tmps[44]? = some (.bool true) := hav.val 11 _ 44 rfl rfl d11
        refine .inl ⟨(wanted_at rfl rfl rfl g44).trans rfl, ?_⟩
        have d12 : D 12 = true := (by first | (refine hdep ⟨12, .data⟩ ?_ rfl; simp; done) | (refine hdep ⟨12, .guard⟩ ?_ rfl; simp; done) | (refine hdep ⟨12, .chain⟩ ?_ rfl; simp; done))
        have e45 : a'.tmps[45]? = some (.bool true) := hav.val 12 _ 45 rfl rfl d12
        unfold Oper.wp
        simpa [go_sem, updD, e45] using hws
      case o14 =>
        intro D a' V hD hdep hcl hav hws
        have d13 : D 13 = true := (by first | (refine hdep ⟨13, .data⟩ ?_ rfl; simp; done) | (refine hdep ⟨13, .guard⟩ ?_ rfl; simp; done) | (refine hdep ⟨13, .chain⟩ ?_ rfl; simp; done))
        have g46 : a'.tmps[46]? = some (.bool true) := hav.val 13 _ 46 rfl rfl d13
        exact .inr ⟨(wanted_at rfl rfl rfl g46).trans rfl, rfl, hws⟩
      case o15 =>
        intro D a' V hD hdep hcl hav hws
        have d13 : D 13 = true := (by first | (refine hdep ⟨13, .data⟩ ?_ rfl; simp; done) | (refine hdep ⟨13, .guard⟩ ?_ rfl; simp; done) | (refine hdep ⟨13, .chain⟩ ?_ rfl; simp; done))
        have g46 : a'.tmps[46]? = some (.bool true) := hav.val 13 _ 46 rfl rfl d13
        exact .inr ⟨(wanted_at rfl rfl rfl g46).trans rfl, rfl, hws⟩
      case o16 =>
        intro D a' V hD hdep hcl hav hws
        have d13 : D 13 = true := (by first | (refine hdep ⟨13, .data⟩ ?_ rfl; simp; done) | (refine hdep ⟨13, .guard⟩ ?_ rfl; simp; done) | (refine hdep ⟨13, .chain⟩ ?_ rfl; simp; done))
        have g46 : a'.tmps[46]? = some (.bool true) := hav.val 13 _ 46 rfl rfl d13
        exact .inr ⟨(wanted_at rfl rfl rfl g46).trans rfl, rfl, hws⟩
      case o17 =>
        intro D a' V hD hdep hcl hav hws
        have d11 : D 11 = true := (by first | (refine hdep ⟨11, .data⟩ ?_ rfl; simp; done) | (refine hdep ⟨11, .guard⟩ ?_ rfl; simp; done) | (refine hdep ⟨11, .chain⟩ ?_ rfl; simp; done))
        have g44 : a'.tmps[44]? = some (.bool true) := hav.val 11 _ 44 rfl rfl d11
        refine .inl ⟨(wanted_at rfl rfl rfl g44).trans rfl, ?_⟩
        have d13 : D 13 = true := (by first | (refine hdep ⟨13, .data⟩ ?_ rfl; simp; done) | (refine hdep ⟨13, .guard⟩ ?_ rfl; simp; done) | (refine hdep ⟨13, .chain⟩ ?_ rfl; simp; done))
        have e46 : a'.tmps[46]? = some (.bool true) := hav.val 13 _ 46 rfl rfl d13
        unfold Oper.wp
        simpa [go_sem, updD, e46] using hws
      case o18 =>
        intro D a' V hD hdep hcl hav hws
        refine .inl ⟨rfl, ?_⟩
        have d11 : D 11 = true := (by first | (refine hdep ⟨11, .data⟩ ?_ rfl; simp; done) | (refine hdep ⟨11, .guard⟩ ?_ rfl; simp; done) | (refine hdep ⟨11, .chain⟩ ?_ rfl; simp; done))
        have e44 : a'.tmps[44]? = some (.bool true) := hav.val 11 _ 44 rfl rfl d11
        have d17 : D 17 = true := (by first | (refine hdep ⟨17, .data⟩ ?_ rfl; simp; done) | (refine hdep ⟨17, .guard⟩ ?_ rfl; simp; done) | (refine hdep ⟨17, .chain⟩ ?_ rfl; simp; done))
        have e50 : a'.tmps[50]? = some (.bool true) := hav.val 17 _ 50 rfl rfl d17
        unfold Oper.wp
        simpa [go_sem, updD, e44, e50] using hws
      case o19 =>
        intro D a' V hD hdep hcl hav hws
        refine .inl ⟨rfl, ?_⟩
        have d18 : D 18 = true := (by first | (refine hdep ⟨18, .data⟩ ?_ rfl; simp; done) | (refine hdep ⟨18, .guard⟩ ?_ rfl; simp; done) | (refine hdep ⟨18, .chain⟩ ?_ rfl; simp; done))
        have e51 : a'.tmps[51]? = some (.bool true) := hav.val 18 _ 51 rfl rfl d18
        unfold Oper.wp
        simpa [go_sem, updD, e51] using hws
      case o20 =>
        intro D a' V hD hdep hcl hav hws
        have d19 : D 19 = true := (by first | (refine hdep ⟨19, .data⟩ ?_ rfl; simp; done) | (refine hdep ⟨19, .guard⟩ ?_ rfl; simp; done) | (refine hdep ⟨19, .chain⟩ ?_ rfl; simp; done))
        have g52 : a'.tmps[52]? = some (.bool true) := hav.val 19 _ 52 rfl rfl d19
        refine .inl ⟨(wanted_at rfl rfl rfl g52).trans rfl, ?_⟩
        have e7 : a'.tmps[7]? = some (.pointer (some ⟨R, 0, none⟩)) := hav.oldAt 7 rfl
        unfold Oper.wp
        simpa [go_sem, updD, e7] using hws
      case o21 =>
        intro D a' V hD hdep hcl hav hws
        have d19 : D 19 = true := (by first | (refine hdep ⟨19, .data⟩ ?_ rfl; simp; done) | (refine hdep ⟨19, .guard⟩ ?_ rfl; simp; done) | (refine hdep ⟨19, .chain⟩ ?_ rfl; simp; done))
        have g52 : a'.tmps[52]? = some (.bool true) := hav.val 19 _ 52 rfl rfl d19
        refine .inl ⟨(wanted_at rfl rfl rfl g52).trans rfl, ?_⟩
        have d20 : D 20 = true := (by first | (refine hdep ⟨20, .data⟩ ?_ rfl; simp; done) | (refine hdep ⟨20, .guard⟩ ?_ rfl; simp; done) | (refine hdep ⟨20, .chain⟩ ?_ rfl; simp; done))
        have e53 : a'.tmps[53]? = some (.pointer (some ⟨R, 1, none⟩)) := hav.val 20 _ 53 rfl rfl d20
        have x0 := k0 V hws
        have x1 := k1' V hws
        have x2 := k2 V hws
        unfold Oper.wp
        simpa [go_sem, updD, e53, x0, x1, x2] using hws
      case o22 =>
        intro D a' V hD hdep hcl hav hws
        have d19 : D 19 = true := (by first | (refine hdep ⟨19, .data⟩ ?_ rfl; simp; done) | (refine hdep ⟨19, .guard⟩ ?_ rfl; simp; done) | (refine hdep ⟨19, .chain⟩ ?_ rfl; simp; done))
        have g52 : a'.tmps[52]? = some (.bool true) := hav.val 19 _ 52 rfl rfl d19
        refine .inl ⟨(wanted_at rfl rfl rfl g52).trans rfl, ?_⟩
        have e6 : a'.tmps[6]? = some (.pointer (some ⟨P, 0, none⟩)) := hav.oldAt 6 rfl
        unfold Oper.wp
        simpa [go_sem, updD, e6] using hws
      case o23 =>
        intro D a' V hD hdep hcl hav hws
        have d19 : D 19 = true := (by first | (refine hdep ⟨19, .data⟩ ?_ rfl; simp; done) | (refine hdep ⟨19, .guard⟩ ?_ rfl; simp; done) | (refine hdep ⟨19, .chain⟩ ?_ rfl; simp; done))
        have g52 : a'.tmps[52]? = some (.bool true) := hav.val 19 _ 52 rfl rfl d19
        refine .inl ⟨(wanted_at rfl rfl rfl g52).trans rfl, ?_⟩
        have d22 : D 22 = true := (by first | (refine hdep ⟨22, .data⟩ ?_ rfl; simp; done) | (refine hdep ⟨22, .guard⟩ ?_ rfl; simp; done) | (refine hdep ⟨22, .chain⟩ ?_ rfl; simp; done))
        have e55 : a'.tmps[55]? = some (.pointer (some ⟨P, 1, none⟩)) := hav.val 22 _ 55 rfl rfl d22
        have x0 := l0 V hws
        have x1 := l1 V hws
        have x2 := l2 V hws
        unfold Oper.wp
        simpa [go_sem, updD, e55, x0, x1, x2] using hws
      case o24 =>
        intro D a' V hD hdep hcl hav hws
        have d19 : D 19 = true := (by first | (refine hdep ⟨19, .data⟩ ?_ rfl; simp; done) | (refine hdep ⟨19, .guard⟩ ?_ rfl; simp; done) | (refine hdep ⟨19, .chain⟩ ?_ rfl; simp; done))
        have g52 : a'.tmps[52]? = some (.bool true) := hav.val 19 _ 52 rfl rfl d19
        refine .inl ⟨(wanted_at rfl rfl rfl g52).trans rfl, ?_⟩
        have d23 : D 23 = true := (by first | (refine hdep ⟨23, .data⟩ ?_ rfl; simp; done) | (refine hdep ⟨23, .guard⟩ ?_ rfl; simp; done) | (refine hdep ⟨23, .chain⟩ ?_ rfl; simp; done))
        have e56 : a'.tmps[56]? = some (.int .i64 (p1 : Nat)) := hav.val 23 _ 56 rfl rfl d23
        unfold Oper.wp
        simpa [go_sem, updD, e56, HW2.out] using hws
      case o25 =>
        intro D a' V hD hdep hcl hav hws
        have d19 : D 19 = true := (by first | (refine hdep ⟨19, .data⟩ ?_ rfl; simp; done) | (refine hdep ⟨19, .guard⟩ ?_ rfl; simp; done) | (refine hdep ⟨19, .chain⟩ ?_ rfl; simp; done))
        have g52 : a'.tmps[52]? = some (.bool true) := hav.val 19 _ 52 rfl rfl d19
        refine .inl ⟨(wanted_at rfl rfl rfl g52).trans rfl, ?_⟩
        have d21 : D 21 = true := (by first | (refine hdep ⟨21, .data⟩ ?_ rfl; simp; done) | (refine hdep ⟨21, .guard⟩ ?_ rfl; simp; done) | (refine hdep ⟨21, .chain⟩ ?_ rfl; simp; done))
        have e54 : a'.tmps[54]? = some (.int .i64 (q1 : Nat)) := hav.val 21 _ 54 rfl rfl d21
        have d24 : D 24 = true := (by first | (refine hdep ⟨24, .data⟩ ?_ rfl; simp; done) | (refine hdep ⟨24, .guard⟩ ?_ rfl; simp; done) | (refine hdep ⟨24, .chain⟩ ?_ rfl; simp; done))
        have e57 : a'.tmps[57]? = some (.int .i64 (IntKind.i64.wrap ((p1 : Int) + 1))) := hav.val 24 _ 57 rfl rfl d24
        unfold Oper.wp
        simpa [go_sem, updD, e54, e57, E2, E2w] using hws
      case o26 =>
        intro D a' V hD hdep hcl hav hws
        have d19 : D 19 = true := (by first | (refine hdep ⟨19, .data⟩ ?_ rfl; simp; done) | (refine hdep ⟨19, .guard⟩ ?_ rfl; simp; done) | (refine hdep ⟨19, .chain⟩ ?_ rfl; simp; done))
        have g52 : a'.tmps[52]? = some (.bool true) := hav.val 19 _ 52 rfl rfl d19
        refine .inl ⟨(wanted_at rfl rfl rfl g52).trans rfl, ?_⟩
        have e3 : a'.tmps[3]? = some (.pointer (some ⟨w.heap.size, 0, none⟩)) := hav.oldAt 3 rfl
        unfold Oper.wp
        simpa [go_sem, updD, e3] using hws
      case o27 =>
        intro D a' V hD hdep hcl hav hws
        have d19 : D 19 = true := (by first | (refine hdep ⟨19, .data⟩ ?_ rfl; simp; done) | (refine hdep ⟨19, .guard⟩ ?_ rfl; simp; done) | (refine hdep ⟨19, .chain⟩ ?_ rfl; simp; done))
        have g52 : a'.tmps[52]? = some (.bool true) := hav.val 19 _ 52 rfl rfl d19
        refine .inl ⟨(wanted_at rfl rfl rfl g52).trans rfl, ?_⟩
        have d26 : D 26 = true := (by first | (refine hdep ⟨26, .data⟩ ?_ rfl; simp; done) | (refine hdep ⟨26, .guard⟩ ?_ rfl; simp; done) | (refine hdep ⟨26, .chain⟩ ?_ rfl; simp; done))
        have e59 : a'.tmps[59]? = some (.pointer (some ⟨w.heap.size, 3, none⟩)) := hav.val 26 _ 59 rfl rfl d26
        have x3 := n3 V hws
        unfold Oper.wp
        simpa [go_sem, updD, e59, x3] using hws
      case o28 =>
        intro D a' V hD hdep hcl hav hws
        have d19 : D 19 = true := (by first | (refine hdep ⟨19, .data⟩ ?_ rfl; simp; done) | (refine hdep ⟨19, .guard⟩ ?_ rfl; simp; done) | (refine hdep ⟨19, .chain⟩ ?_ rfl; simp; done))
        have g52 : a'.tmps[52]? = some (.bool true) := hav.val 19 _ 52 rfl rfl d19
        refine .inl ⟨(wanted_at rfl rfl rfl g52).trans rfl, ?_⟩
        have d27 : D 27 = true := (by first | (refine hdep ⟨27, .data⟩ ?_ rfl; simp; done) | (refine hdep ⟨27, .guard⟩ ?_ rfl; simp; done) | (refine hdep ⟨27, .chain⟩ ?_ rfl; simp; done))
        have e60 : a'.tmps[60]? = some (.int .i64 0) := hav.val 27 _ 60 rfl rfl d27
        unfold Oper.wp
        simpa [go_sem, updD, e60, G1] using hws
      case o29 =>
        intro D a' V hD hdep hcl hav hws
        have d19 : D 19 = true := (by first | (refine hdep ⟨19, .data⟩ ?_ rfl; simp; done) | (refine hdep ⟨19, .guard⟩ ?_ rfl; simp; done) | (refine hdep ⟨19, .chain⟩ ?_ rfl; simp; done))
        have g52 : a'.tmps[52]? = some (.bool true) := hav.val 19 _ 52 rfl rfl d19
        refine .inl ⟨(wanted_at rfl rfl rfl g52).trans rfl, ?_⟩
        have d25 : D 25 = true := (by first | (refine hdep ⟨25, .data⟩ ?_ rfl; simp; done) | (refine hdep ⟨25, .guard⟩ ?_ rfl; simp; done) | (refine hdep ⟨25, .chain⟩ ?_ rfl; simp; done))
        have e58 : a'.tmps[58]? = some (.bool false) := hav.val 25 _ 58 rfl rfl d25
        have d28 : D 28 = true := (by first | (refine hdep ⟨28, .data⟩ ?_ rfl; simp; done) | (refine hdep ⟨28, .guard⟩ ?_ rfl; simp; done) | (refine hdep ⟨28, .chain⟩ ?_ rfl; simp; done))
        have e61 : a'.tmps[61]? = some (.bool false) := hav.val 28 _ 61 rfl rfl d28
        unfold Oper.wp
        simpa [go_sem, updD, e58, e61] using hws
      case o30 =>
        intro D a' V hD hdep hcl hav hws
        refine .inl ⟨rfl, ?_⟩
        have d19 : D 19 = true := (by first | (refine hdep ⟨19, .data⟩ ?_ rfl; simp; done) | (refine hdep ⟨19, .guard⟩ ?_ rfl; simp; done) | (refine hdep ⟨19, .chain⟩ ?_ rfl; simp; done))
        have e52 : a'.tmps[52]? = some (.bool true) := hav.val 19 _ 52 rfl rfl d19
        have d29 : D 29 = true := (by first | (refine hdep ⟨29, .data⟩ ?_ rfl; simp; done) | (refine hdep ⟨29, .guard⟩ ?_ rfl; simp; done) | (refine hdep ⟨29, .chain⟩ ?_ rfl; simp; done))
        have e62 : a'.tmps[62]? = some (.bool true) := hav.val 29 _ 62 rfl rfl d29
        unfold Oper.wp
        simpa [go_sem, updD, e52, e62] using hws
      case o31 =>
        intro D a' V hD hdep hcl hav hws
        refine .inl ⟨rfl, ?_⟩
        have d30 : D 30 = true := (by first | (refine hdep ⟨30, .data⟩ ?_ rfl; simp; done) | (refine hdep ⟨30, .guard⟩ ?_ rfl; simp; done) | (refine hdep ⟨30, .chain⟩ ?_ rfl; simp; done))
        have e63 : a'.tmps[63]? = some (.bool true) := hav.val 30 _ 63 rfl rfl d30
        unfold Oper.wp
        simpa [go_sem, updD, e63] using hws
      case o32 =>
        intro D a' V hD hdep hcl hav hws
        have d31 : D 31 = true := (by first | (refine hdep ⟨31, .data⟩ ?_ rfl; simp; done) | (refine hdep ⟨31, .guard⟩ ?_ rfl; simp; done) | (refine hdep ⟨31, .chain⟩ ?_ rfl; simp; done))
        have g64 : a'.tmps[64]? = some (.bool true) := hav.val 31 _ 64 rfl rfl d31
        refine .inl ⟨(wanted_at rfl rfl rfl g64).trans rfl, ?_⟩
        have e7 : a'.tmps[7]? = some (.pointer (some ⟨R, 0, none⟩)) := hav.oldAt 7 rfl
        unfold Oper.wp
        simpa [go_sem, updD, e7] using hws
      case o33 =>
        intro D a' V hD hdep hcl hav hws
        have d31 : D 31 = true := (by first | (refine hdep ⟨31, .data⟩ ?_ rfl; simp; done) | (refine hdep ⟨31, .guard⟩ ?_ rfl; simp; done) | (refine hdep ⟨31, .chain⟩ ?_ rfl; simp; done))
        have g64 : a'.tmps[64]? = some (.bool true) := hav.val 31 _ 64 rfl rfl d31
        refine .inl ⟨(wanted_at rfl rfl rfl g64).trans rfl, ?_⟩
        have d32 : D 32 = true := (by first | (refine hdep ⟨32, .data⟩ ?_ rfl; simp; done) | (refine hdep ⟨32, .guard⟩ ?_ rfl; simp; done) | (refine hdep ⟨32, .chain⟩ ?_ rfl; simp; done))
        have e65 : a'.tmps[65]? = some (.pointer (some ⟨R, 0, none⟩)) := hav.val 32 _ 65 rfl rfl d32
        have x0 := k0 V hws
        have x1 := k1' V hws
        have x2 := k2 V hws
        unfold Oper.wp
        simpa [go_sem, updD, e65, x0, x1, x2] using hws
      case o34 =>
        intro D a' V hD hdep hcl hav hws
        have d31 : D 31 = true := (by first | (refine hdep ⟨31, .data⟩ ?_ rfl; simp; done) | (refine hdep ⟨31, .guard⟩ ?_ rfl; simp; done) | (refine hdep ⟨31, .chain⟩ ?_ rfl; simp; done))
        have g64 : a'.tmps[64]? = some (.bool true) := hav.val 31 _ 64 rfl rfl d31
        refine .inl ⟨(wanted_at rfl rfl rfl g64).trans rfl, ?_⟩
        have e6 : a'.tmps[6]? = some (.pointer (some ⟨P, 0, none⟩)) := hav.oldAt 6 rfl
        unfold Oper.wp
        simpa [go_sem, updD, e6] using hws
      case o35 =>
        intro D a' V hD hdep hcl hav hws
        have d31 : D 31 = true := (by first | (refine hdep ⟨31, .data⟩ ?_ rfl; simp; done) | (refine hdep ⟨31, .guard⟩ ?_ rfl; simp; done) | (refine hdep ⟨31, .chain⟩ ?_ rfl; simp; done))
        have g64 : a'.tmps[64]? = some (.bool true) := hav.val 31 _ 64 rfl rfl d31
        refine .inl ⟨(wanted_at rfl rfl rfl g64).trans rfl, ?_⟩
        have d34 : D 34 = true := (by first | (refine hdep ⟨34, .data⟩ ?_ rfl; simp; done) | (refine hdep ⟨34, .guard⟩ ?_ rfl; simp; done) | (refine hdep ⟨34, .chain⟩ ?_ rfl; simp; done))
        have e67 : a'.tmps[67]? = some (.pointer (some ⟨P, 0, none⟩)) := hav.val 34 _ 67 rfl rfl d34
        have x0 := l0 V hws
        have x1 := l1 V hws
        have x2 := l2 V hws
        unfold Oper.wp
        simpa [go_sem, updD, e67, x0, x1, x2] using hws
      case o36 =>
        intro D a' V hD hdep hcl hav hws
        have d31 : D 31 = true := (by first | (refine hdep ⟨31, .data⟩ ?_ rfl; simp; done) | (refine hdep ⟨31, .guard⟩ ?_ rfl; simp; done) | (refine hdep ⟨31, .chain⟩ ?_ rfl; simp; done))
        have g64 : a'.tmps[64]? = some (.bool true) := hav.val 31 _ 64 rfl rfl d31
        refine .inl ⟨(wanted_at rfl rfl rfl g64).trans rfl, ?_⟩
        have d35 : D 35 = true := (by first | (refine hdep ⟨35, .data⟩ ?_ rfl; simp; done) | (refine hdep ⟨35, .guard⟩ ?_ rfl; simp; done) | (refine hdep ⟨35, .chain⟩ ?_ rfl; simp; done))
        have e68 : a'.tmps[68]? = some (.int .i64 (p0 : Nat)) := hav.val 35 _ 68 rfl rfl d35
        unfold Oper.wp
        simpa [go_sem, updD, e68, HW3.out] using hws
      case o37 =>
        intro D a' V hD hdep hcl hav hws
        have d31 : D 31 = true := (by first | (refine hdep ⟨31, .data⟩ ?_ rfl; simp; done) | (refine hdep ⟨31, .guard⟩ ?_ rfl; simp; done) | (refine hdep ⟨31, .chain⟩ ?_ rfl; simp; done))
        have g64 : a'.tmps[64]? = some (.bool true) := hav.val 31 _ 64 rfl rfl d31
        refine .inl ⟨(wanted_at rfl rfl rfl g64).trans rfl, ?_⟩
        have d33 : D 33 = true := (by first | (refine hdep ⟨33, .data⟩ ?_ rfl; simp; done) | (refine hdep ⟨33, .guard⟩ ?_ rfl; simp; done) | (refine hdep ⟨33, .chain⟩ ?_ rfl; simp; done))
        have e66 : a'.tmps[66]? = some (.int .i64 (q0 : Nat)) := hav.val 33 _ 66 rfl rfl d33
        have d36 : D 36 = true := (by first | (refine hdep ⟨36, .data⟩ ?_ rfl; simp; done) | (refine hdep ⟨36, .guard⟩ ?_ rfl; simp; done) | (refine hdep ⟨36, .chain⟩ ?_ rfl; simp; done))
        have e69 : a'.tmps[69]? = some (.int .i64 (IntKind.i64.wrap ((p0 : Int) + 1))) := hav.val 36 _ 69 rfl rfl d36
        unfold Oper.wp
        simpa [go_sem, updD, e66, e69, E3, E3w] using hws
      case o38 =>
        intro D a' V hD hdep hcl hav hws
        have d31 : D 31 = true := (by first | (refine hdep ⟨31, .data⟩ ?_ rfl; simp; done) | (refine hdep ⟨31, .guard⟩ ?_ rfl; simp; done) | (refine hdep ⟨31, .chain⟩ ?_ rfl; simp; done))
        have g64 : a'.tmps[64]? = some (.bool true) := hav.val 31 _ 64 rfl rfl d31
        refine .inl ⟨(wanted_at rfl rfl rfl g64).trans rfl, ?_⟩
        have e3 : a'.tmps[3]? = some (.pointer (some ⟨w.heap.size, 0, none⟩)) := hav.oldAt 3 rfl
        unfold Oper.wp
        simpa [go_sem, updD, e3] using hws
      case o39 =>
        intro D a' V hD hdep hcl hav hws
        have d31 : D 31 = true := (by first | (refine hdep ⟨31, .data⟩ ?_ rfl; simp; done) | (refine hdep ⟨31, .guard⟩ ?_ rfl; simp; done) | (refine hdep ⟨31, .chain⟩ ?_ rfl; simp; done))
        have g64 : a'.tmps[64]? = some (.bool true) := hav.val 31 _ 64 rfl rfl d31
        refine .inl ⟨(wanted_at rfl rfl rfl g64).trans rfl, ?_⟩
        have d38 : D 38 = true := (by first | (refine hdep ⟨38, .data⟩ ?_ rfl; simp; done) | (refine hdep ⟨38, .guard⟩ ?_ rfl; simp; done) | (refine hdep ⟨38, .chain⟩ ?_ rfl; simp; done))
        have e71 : a'.tmps[71]? = some (.pointer (some ⟨w.heap.size, 3, none⟩)) := hav.val 38 _ 71 rfl rfl d38
        have x3 := n3 V hws
        unfold Oper.wp
        simpa [go_sem, updD, e71, x3] using hws
      case o40 =>
        intro D a' V hD hdep hcl hav hws
        have d31 : D 31 = true := (by first | (refine hdep ⟨31, .data⟩ ?_ rfl; simp; done) | (refine hdep ⟨31, .guard⟩ ?_ rfl; simp; done) | (refine hdep ⟨31, .chain⟩ ?_ rfl; simp; done))
        have g64 : a'.tmps[64]? = some (.bool true) := hav.val 31 _ 64 rfl rfl d31
        refine .inl ⟨(wanted_at rfl rfl rfl g64).trans rfl, ?_⟩
        have d39 : D 39 = true := (by first | (refine hdep ⟨39, .data⟩ ?_ rfl; simp; done) | (refine hdep ⟨39, .guard⟩ ?_ rfl; simp; done) | (refine hdep ⟨39, .chain⟩ ?_ rfl; simp; done))
        have e72 : a'.tmps[72]? = some (.int .i64 0) := hav.val 39 _ 72 rfl rfl d39
        unfold Oper.wp
        simpa [go_sem, updD, e72, G0] using hws
      case o41 =>
        intro D a' V hD hdep hcl hav hws
        have d31 : D 31 = true := (by first | (refine hdep ⟨31, .data⟩ ?_ rfl; simp; done) | (refine hdep ⟨31, .guard⟩ ?_ rfl; simp; done) | (refine hdep ⟨31, .chain⟩ ?_ rfl; simp; done))
        have g64 : a'.tmps[64]? = some (.bool true) := hav.val 31 _ 64 rfl rfl d31
        refine .inl ⟨(wanted_at rfl rfl rfl g64).trans rfl, ?_⟩
        have d37 : D 37 = true := (by first | (refine hdep ⟨37, .data⟩ ?_ rfl; simp; done) | (refine hdep ⟨37, .guard⟩ ?_ rfl; simp; done) | (refine hdep ⟨37, .chain⟩ ?_ rfl; simp; done))
        have e70 : a'.tmps[70]? = some (.bool true) := hav.val 37 _ 70 rfl rfl d37
        have d40 : D 40 = true := (by first | (refine hdep ⟨40, .data⟩ ?_ rfl; simp; done) | (refine hdep ⟨40, .guard⟩ ?_ rfl; simp; done) | (refine hdep ⟨40, .chain⟩ ?_ rfl; simp; done))
        have e73 : a'.tmps[73]? = some (.bool true) := hav.val 40 _ 73 rfl rfl d40
        unfold Oper.wp
        simpa [go_sem, updD, e70, e73] using hws
      case o42 =>
        intro D a' V hD hdep hcl hav hws
        refine .inl ⟨rfl, ?_⟩
        have d31 : D 31 = true := (by first | (refine hdep ⟨31, .data⟩ ?_ rfl; simp; done) | (refine hdep ⟨31, .guard⟩ ?_ rfl; simp; done) | (refine hdep ⟨31, .chain⟩ ?_ rfl; simp; done))
        have e64 : a'.tmps[64]? = some (.bool true) := hav.val 31 _ 64 rfl rfl d31
        have d41 : D 41 = true := (by first | (refine hdep ⟨41, .data⟩ ?_ rfl; simp; done) | (refine hdep ⟨41, .guard⟩ ?_ rfl; simp; done) | (refine hdep ⟨41, .chain⟩ ?_ rfl; simp; done))
        have e74 : a'.tmps[74]? = some (.bool true) := hav.val 41 _ 74 rfl rfl d41
        unfold Oper.wp
        simpa [go_sem, updD, e64, e74] using hws
      case o43 =>
        intro D a' V hD hdep hcl hav hws
        refine .inl ⟨rfl, ?_⟩
        have d42 : D 42 = true := (by first | (refine hdep ⟨42, .data⟩ ?_ rfl; simp; done) | (refine hdep ⟨42, .guard⟩ ?_ rfl; simp; done) | (refine hdep ⟨42, .chain⟩ ?_ rfl; simp; done))
        have e75 : a'.tmps[75]? = some (.bool true) := hav.val 42 _ 75 rfl rfl d42
        unfold Oper.wp
        simpa [go_sem, updD, e75] using hws
      case fin =>
        intro a' V hav hws
        have ha' := hav.final rfl
        subst ha'
        simp only [putAll, Act.put, List.setIfInBounds_toArray, List.set_cons_succ, List.set_cons_zero]
        clear hav
        go_wp2_with fail
        go_ret
        exact ⟨ret_bool (by first | rfl | simp), later BW.out hws⟩
    by_cases v1 : vv = 1
    · subst v1
      have G1 : ((1 : Int) == 1) = true := rfl
      have G0 : ((1 : Int) == 0) = false := rfl
      simp only [if_pos, show ¬ (1 : Int) = 0 by decide, show ¬ (1 : Int) = 2 by decide, if_false] at g0 g1 g2
      have E1 : (((q0 : Int) + (q1 : Int) + (q2 : Int)) == ((p0 : Int) + (p1 : Int) + (p2 : Int) + 1)) = true := by rw [beq_iff_eq]; omega
      have E1w : (((q0 : Int) + (q1 : Int) + (q2 : Int)) == IntKind.i64.wrap ((p0 : Int) + (p1 : Int) + (p2 : Int) + 1)) = true := by rw [HW1.out]; exact E1
      have E2 : ((q1 : Int) == (p1 : Int) + 1) = true := by rw [beq_iff_eq]; omega
      have E2w : ((q1 : Int) == IntKind.i64.wrap ((p1 : Int) + 1)) = true := by rw [HW2.out]; exact E2
      have E3 : ((q0 : Int) == (p0 : Int) + 1) = false := by rw [beq_eq_false_iff_ne]; omega
      have E3w : ((q0 : Int) == IntKind.i64.wrap ((p0 : Int) + 1)) = false := by rw [HW3.out]; exact E3
      clear g0 g1 g2 v0
      go_wp2_with fail
      refine wp_region_sg (by kernel_rfl) (fun i => match i with | 0 => .bool true | 1 => .bool true | 2 => .agg #[.int .i64 q0, .int .i64 q1, .int .i64 q2] | 3 => .int .i64 ((q0 : Int) + (q1 : Int) + (q2 : Int)) | 4 => .agg #[.int .i64 p0, .int .i64 p1, .int .i64 p2] | 5 => .int .i64 ((p0 : Int) + (p1 : Int) + (p2 : Int)) | 6 => .int .i64 (IntKind.i64.wrap ((p0 : Int) + (p1 : Int) + (p2 : Int) + 1)) | 7 => .bool true | 8 => .bool true | 9 => .bool true | 10 => .bool true | 11 => .bool true | 12 => .bool true | 13 => .bool true | 14 => undef | 15 => undef | 16 => undef | 17 => .bool true | 18 => .bool true | 19 => .bool true | 20 => .pointer (some ⟨R, 1, none⟩) | 21 => .int .i64 (q1 : Nat) | 22 => .pointer (some ⟨P, 1, none⟩) | 23 => .int .i64 (p1 : Nat) | 24 => .int .i64 (IntKind.i64.wrap ((p1 : Int) + 1)) | 25 => .bool true | 26 => .pointer (some ⟨w.heap.size, 3, none⟩) | 27 => .int .i64 1 | 28 => .bool true | 29 => .bool true | 30 => .bool true | 31 => .bool true | 32 => .pointer (some ⟨R, 0, none⟩) | 33 => .int .i64 (q0 : Nat) | 34 => .pointer (some ⟨P, 0, none⟩) | 35 => .int .i64 (p0 : Nat) | 36 => .int .i64 (IntKind.i64.wrap ((p0 : Int) + 1)) | 37 => .bool false | 38 => .pointer (some ⟨w.heap.size, 3, none⟩) | 39 => .int .i64 1 | 40 => .bool false | 41 => .bool true | 42 => .bool true | 43 => .bool true | _ => undef)
        (fun D V => Below W.heap.size W V) rfl ⟨rfl, rfl, rfl, Nat.le_refl _, fun _ _ => rfl⟩ ⟨?o0, ?o1, ?o2, ?o3, ?o4, ?o5, ?o6, ?o7, ?o8, ?o9, ?o10, ?o11, ?o12, ?o13, ?o14, ?o15, ?o16, ?o17, ?o18, ?o19, ?o20, ?o21, ?o22, ?o23, ?o24, ?o25, ?o26, ?o27, ?o28, ?o29, ?o30, ?o31, ?o32, ?o33, ?o34, ?o35, ?o36, ?o37, ?o38, ?o39, ?o40, ?o41, ?o42, ?o43, trivial⟩ ?fin
      case o0 =>
        intro D a' V hD hdep hcl hav hws
        refine .inl ⟨rfl, ?_⟩
        have e5 : a'.tmps[5]? = some (.bool true) := hav.oldAt 5 rfl
        unfold Oper.wp
        simpa [go_sem, updD, e5] using hws
      case o1 =>
        intro D a' V hD hdep hcl hav hws
        refine .inl ⟨rfl, ?_⟩
        have d0 : D 0 = true := (by first | (refine hdep ⟨0, .data⟩ ?_ rfl; simp; done) | (refine hdep ⟨0, .guard⟩ ?_ rfl; simp; done) | (refine hdep ⟨0, .chain⟩ ?_ rfl; simp; done))
        have e33 : a'.tmps[33]? = some (.bool true) := hav.val 0 _ 33 rfl rfl d0
        unfold Oper.wp
        simpa [go_sem, updD, e33] using hws
      case o2 =>
        intro D a' V hD hdep hcl hav hws
        have d1 : D 1 = true := (by first | (refine hdep ⟨1, .data⟩ ?_ rfl; simp; done) | (refine hdep ⟨1, .guard⟩ ?_ rfl; simp; done) | (refine hdep ⟨1, .chain⟩ ?_ rfl; simp; done))
        have g34 : a'.tmps[34]? = some (.bool true) := hav.val 1 _ 34 rfl rfl d1
        refine .inl ⟨(wanted_at rfl rfl rfl g34).trans rfl, ?_⟩
        have e7 : a'.tmps[7]? = some (.pointer (some ⟨R, 0, none⟩)) := hav.oldAt 7 rfl
        have x0 := k0 V hws
        have x1 := k1' V hws
        have x2 := k2 V hws
        unfold Oper.wp
        simpa [go_sem, updD, e7, x0, x1, x2] using hws
      case o3 =>
        intro D a' V hD hdep hcl hav hws
        have d1 : D 1 = true := (by first | (refine hdep ⟨1, .data⟩ ?_ rfl; simp; done) | (refine hdep ⟨1, .guard⟩ ?_ rfl; simp; done) | (refine hdep ⟨1, .chain⟩ ?_ rfl; simp; done))
        have g34 : a'.tmps[34]? = some (.bool true) := hav.val 1 _ 34 rfl rfl d1
        refine .inl ⟨(wanted_at rfl rfl rfl g34).trans rfl, ?_⟩
        have d2 : D 2 = true := (by first | (refine hdep ⟨2, .data⟩ ?_ rfl; simp; done) | (refine hdep ⟨2, .guard⟩ ?_ rfl; simp; done) | (refine hdep ⟨2, .chain⟩ ?_ rfl; simp; done))
        have e35 : a'.tmps[35]? = some (.agg #[.int .i64 q0, .int .i64 q1, .int .i64 q2]) := hav.val 2 _ 35 rfl rfl d2
        unfold Oper.wp
        simp [go_sem, e35]
        refine (TB.out V).mono ?_
        rintro e V' ⟨rfl, hb⟩
        exact ⟨rfl, hws.trans (hb.mono hws.size)⟩
      case o4 =>
        intro D a' V hD hdep hcl hav hws
        have d1 : D 1 = true := (by first | (refine hdep ⟨1, .data⟩ ?_ rfl; simp; done) | (refine hdep ⟨1, .guard⟩ ?_ rfl; simp; done) | (refine hdep ⟨1, .chain⟩ ?_ rfl; simp; done))
        have g34 : a'.tmps[34]? = some (.bool true) := hav.val 1 _ 34 rfl rfl d1
        refine .inl ⟨(wanted_at rfl rfl rfl g34).trans rfl, ?_⟩
        have e6 : a'.tmps[6]? = some (.pointer (some ⟨P, 0, none⟩)) := hav.oldAt 6 rfl
        have x0 := l0 V hws
        have x1 := l1 V hws
        have x2 := l2 V hws
        unfold Oper.wp
        simpa [go_sem, updD, e6, x0, x1, x2] using hws
      case o5 =>
        intro D a' V hD hdep hcl hav hws
        have d1 : D 1 = true := (by first | (refine hdep ⟨1, .data⟩ ?_ rfl; simp; done) | (refine hdep ⟨1, .guard⟩ ?_ rfl; simp; done) | (refine hdep ⟨1, .chain⟩ ?_ rfl; simp; done))
        have g34 : a'.tmps[34]? = some (.bool true) := hav.val 1 _ 34 rfl rfl d1
        refine .inl ⟨(wanted_at rfl rfl rfl g34).trans rfl, ?_⟩
        have d4 : D 4 = true := (by first | (refine hdep ⟨4, .data⟩ ?_ rfl; simp; done) | (refine hdep ⟨4, .guard⟩ ?_ rfl; simp; done) | (refine hdep ⟨4, .chain⟩ ?_ rfl; simp; done))
        have e37 : a'.tmps[37]? = some (.agg #[.int .i64 p0, .int .i64 p1, .int .i64 p2]) := hav.val 4 _ 37 rfl rfl d4
        unfold Oper.wp
        simp [go_sem, e37]
        refine (TA.out V).mono ?_
        rintro e V' ⟨rfl, hb⟩
        exact ⟨rfl, hws.trans (hb.mono hws.size)⟩
      case o6 =>
        intro D a' V hD hdep hcl hav hws
        have d1 : D 1 = true := (by first | (refine hdep ⟨1, .data⟩ ?_ rfl; simp; done) | (refine hdep ⟨1, .guard⟩ ?_ rfl; simp; done) | (refine hdep ⟨1, .chain⟩ ?_ rfl; simp; done))
        have g34 : a'.tmps[34]? = some (.bool true) := hav.val 1 _ 34 rfl rfl d1
        refine .inl ⟨(wanted_at rfl rfl rfl g34).trans rfl, ?_⟩
        have d5 : D 5 = true := (by first | (refine hdep ⟨5, .data⟩ ?_ rfl; simp; done) | (refine hdep ⟨5, .guard⟩ ?_ rfl; simp; done) | (refine hdep ⟨5, .chain⟩ ?_ rfl; simp; done))
        have e38 : a'.tmps[38]? = some (.int .i64 ((p0 : Int) + (p1 : Int) + (p2 : Int))) := hav.val 5 _ 38 rfl rfl d5
        unfold Oper.wp
        simpa [go_sem, updD, e38, HW1.out] using hws
      case o7 =>
        intro D a' V hD hdep hcl hav hws
        have d1 : D 1 = true := (by first | (refine hdep ⟨1, .data⟩ ?_ rfl; simp; done) | (refine hdep ⟨1, .guard⟩ ?_ rfl; simp; done) | (refine hdep ⟨1, .chain⟩ ?_ rfl; simp; done))
        have g34 : a'.tmps[34]? = some (.bool true) := hav.val 1 _ 34 rfl rfl d1
        refine .inl ⟨(wanted_at rfl rfl rfl g34).trans rfl, ?_⟩
        have d3 : D 3 = true := (by first | (refine hdep ⟨3, .data⟩ ?_ rfl; simp; done) | (refine hdep ⟨3, .guard⟩ ?_ rfl; simp; done) | (refine hdep ⟨3, .chain⟩ ?_ rfl; simp; done))
        have e36 : a'.tmps[36]? = some (.int .i64 ((q0 : Int) + (q1 : Int) + (q2 : Int))) := hav.val 3 _ 36 rfl rfl d3
        have d6 : D 6 = true := (by first | (refine hdep ⟨6, .data⟩ ?_ rfl; simp; done) | (refine hdep ⟨6, .guard⟩ ?_ rfl; simp; done) | (refine hdep ⟨6, .chain⟩ ?_ rfl; simp; done))
        have e39 : a'.tmps[39]? = some (.int .i64 (IntKind.i64.wrap ((p0 : Int) + (p1 : Int) + (p2 : Int) + 1))) := hav.val 6 _ 39 rfl rfl d6
        unfold Oper.wp
        simpa [go_sem, updD, e36, e39, E1, E1w] using hws
      case o8 =>
        intro D a' V hD hdep hcl hav hws
        have d1 : D 1 = true := (by first | (refine hdep ⟨1, .data⟩ ?_ rfl; simp; done) | (refine hdep ⟨1, .guard⟩ ?_ rfl; simp; done) | (refine hdep ⟨1, .chain⟩ ?_ rfl; simp; done))
        have g34 : a'.tmps[34]? = some (.bool true) := hav.val 1 _ 34 rfl rfl d1
        refine .inl ⟨(wanted_at rfl rfl rfl g34).trans rfl, ?_⟩
        have e8 : a'.tmps[8]? = some (.bool true) := hav.oldAt 8 rfl
        unfold Oper.wp
        simpa [go_sem, updD, e8] using hws
      case o9 =>
        intro D a' V hD hdep hcl hav hws
        have d1 : D 1 = true := (by first | (refine hdep ⟨1, .data⟩ ?_ rfl; simp; done) | (refine hdep ⟨1, .guard⟩ ?_ rfl; simp; done) | (refine hdep ⟨1, .chain⟩ ?_ rfl; simp; done))
        have g34 : a'.tmps[34]? = some (.bool true) := hav.val 1 _ 34 rfl rfl d1
        refine .inl ⟨(wanted_at rfl rfl rfl g34).trans rfl, ?_⟩
        have d7 : D 7 = true := (by first | (refine hdep ⟨7, .data⟩ ?_ rfl; simp; done) | (refine hdep ⟨7, .guard⟩ ?_ rfl; simp; done) | (refine hdep ⟨7, .chain⟩ ?_ rfl; simp; done))
        have e40 : a'.tmps[40]? = some (.bool true) := hav.val 7 _ 40 rfl rfl d7
        have d8 : D 8 = true := (by first | (refine hdep ⟨8, .data⟩ ?_ rfl; simp; done) | (refine hdep ⟨8, .guard⟩ ?_ rfl; simp; done) | (refine hdep ⟨8, .chain⟩ ?_ rfl; simp; done))
        have e41 : a'.tmps[41]? = some (.bool true) := hav.val 8 _ 41 rfl rfl d8
        unfold Oper.wp
        simpa [go_sem, updD, e40, e41] using hws
      case o10 =>
        intro D a' V hD hdep hcl hav hws
        refine .inl ⟨rfl, ?_⟩
        have d1 : D 1 = true := (by first | (refine hdep ⟨1, .data⟩ ?_ rfl; simp; done) | (refine hdep ⟨1, .guard⟩ ?_ rfl; simp; done) | (refine hdep ⟨1, .chain⟩ ?_ rfl; simp; done))
        have e34 : a'.tmps[34]? = some (.bool true) := hav.val 1 _ 34 rfl rfl d1
        have d9 : D 9 = true := (by first | (refine hdep ⟨9, .data⟩ ?_ rfl; simp; done) | (refine hdep ⟨9, .guard⟩ ?_ rfl; simp; done) | (refine hdep ⟨9, .chain⟩ ?_ rfl; simp; done))
        have e42 : a'.tmps[42]? = some (.bool true) := hav.val 9 _ 42 rfl rfl d9
        unfold Oper.wp
        simpa [go_sem, updD, e34, e42] using hws
      case o11 =>
        intro D a' V hD hdep hcl hav hws
        refine .inl ⟨rfl, ?_⟩
        have d10 : D 10 = true := (by first | (refine hdep ⟨10, .data⟩ ?_ rfl; simp; done) | (refine hdep ⟨10, .guard⟩ ?_ rfl; simp; done) | (refine hdep ⟨10, .chain⟩ ?_ rfl; simp; done))
        have e43 : a'.tmps[43]? = some (.bool true) := hav.val 10 _ 43 rfl rfl d10
        unfold Oper.wp
        simpa [go_sem, updD, e43] using hws
      case o12 =>
        intro D a' V hD hdep hcl hav hws
        have d11 : D 11 = true := (by first | (refine hdep ⟨11, .data⟩ ?_ rfl; simp; done) | (refine hdep ⟨11, .guard⟩ ?_ rfl; simp; done) | (refine hdep ⟨11, .chain⟩ ?_ rfl; simp; done))
        have g44 : a'.tmps[44]? = some (.bool true) := hav.val 11 _ 44 rfl rfl d11
        refine .inl ⟨(wanted_at rfl rfl rfl g44).trans rfl, ?_⟩
        have e8 : a'.tmps[8]? = some (.bool true) := hav.oldAt 8 rfl
        unfold Oper.wp
        simpa [go_sem, updD, e8] using hws
      case o13 =>
        intro D a' V hD hdep hcl hav hws
        have d11 : D 11 = true := (by first | (refine hdep ⟨11, .data⟩ ?_ rfl; simp; done) | (refine hdep ⟨11, .guard⟩ ?_ rfl; simp; done) | (refine hdep ⟨11, .chain⟩ ?_ rfl; simp; done))
        have g44 : a'.tmps[44]? = some (.bool true) := hav.val 11 _ 44 rfl rfl d11
        refine .inl ⟨(wanted_at rfl rfl rfl g44).trans rfl, ?_⟩
        have d12 : D 12 = true := (by first | (refine hdep ⟨12, .data⟩ ?_ rfl; simp; done) | (refine hdep ⟨12, .guard⟩ ?_ rfl; simp; done) | (refine hdep ⟨12, .chain⟩ ?_ rfl; simp; done))
        have e45 : a'.tmps[45]? = some (.bool true) := hav.val 12 _ 45 rfl rfl d12
        unfold Oper.wp
        simpa [go_sem, updD, e45] using hws
      case o14 =>
        intro D a' V hD hdep hcl hav hws
        have d13 : D 13 = true := (by first | (refine hdep ⟨13, .data⟩ ?_ rfl; simp; done) | (refine hdep ⟨13, .guard⟩ ?_ rfl; simp; done) | (refine hdep ⟨13, .chain⟩ ?_ rfl; simp; done))
        have g46 : a'.tmps[46]? = some (.bool true) := hav.val 13 _ 46 rfl rfl d13
        exact .inr ⟨(wanted_at rfl rfl rfl g46).trans rfl, rfl, hws⟩
      case o15 =>
        intro D a' V hD hdep hcl hav hws
        have d13 : D 13 = true := (by first | (refine hdep ⟨13, .data⟩ ?_ rfl; simp; done) | (refine hdep ⟨13, .guard⟩ ?_ rfl; simp; done) | (refine hdep ⟨13, .chain⟩ ?_ rfl; simp; done))
        have g46 : a'.tmps[46]? = some (.bool true) := hav.val 13 _ 46 rfl rfl d13
        exact .inr ⟨(wanted_at rfl rfl rfl g46).trans rfl, rfl, hws⟩
      case o16 =>
        intro D a' V hD hdep hcl hav hws
        have d13 : D 13 = true := (by first | (refine hdep ⟨13, .data⟩ ?_ rfl; simp; done) | (refine hdep ⟨13, .guard⟩ ?_ rfl; simp; done) | (refine hdep ⟨13, .chain⟩ ?_ rfl; simp; done))
        have g46 : a'.tmps[46]? = some (.bool true) := hav.val 13 _ 46 rfl rfl d13
        exact .inr ⟨(wanted_at rfl rfl rfl g46).trans rfl, rfl, hws⟩
      case o17 =>
        intro D a' V hD hdep hcl hav hws
        have d11 : D 11 = true := (by first | (refine hdep ⟨11, .data⟩ ?_ rfl; simp; done) | (refine hdep ⟨11, .guard⟩ ?_ rfl; simp; done) | (refine hdep ⟨11, .chain⟩ ?_ rfl; simp; done))
        have g44 : a'.tmps[44]? = some (.bool true) := hav.val 11 _ 44 rfl rfl d11
        refine .inl ⟨(wanted_at rfl rfl rfl g44).trans rfl, ?_⟩
        have d13 : D 13 = true := (by first | (refine hdep ⟨13, .data⟩ ?_ rfl; simp; done) | (refine hdep ⟨13, .guard⟩ ?_ rfl; simp; done) | (refine hdep ⟨13, .chain⟩ ?_ rfl; simp; done))
        have e46 : a'.tmps[46]? = some (.bool true) := hav.val 13 _ 46 rfl rfl d13
        unfold Oper.wp
        simpa [go_sem, updD, e46] using hws
      case o18 =>
        intro D a' V hD hdep hcl hav hws
        refine .inl ⟨rfl, ?_⟩
        have d11 : D 11 = true := (by first | (refine hdep ⟨11, .data⟩ ?_ rfl; simp; done) | (refine hdep ⟨11, .guard⟩ ?_ rfl; simp; done) | (refine hdep ⟨11, .chain⟩ ?_ rfl; simp; done))
        have e44 : a'.tmps[44]? = some (.bool true) := hav.val 11 _ 44 rfl rfl d11
        have d17 : D 17 = true := (by first | (refine hdep ⟨17, .data⟩ ?_ rfl; simp; done) | (refine hdep ⟨17, .guard⟩ ?_ rfl; simp; done) | (refine hdep ⟨17, .chain⟩ ?_ rfl; simp; done))
        have e50 : a'.tmps[50]? = some (.bool true) := hav.val 17 _ 50 rfl rfl d17
        unfold Oper.wp
        simpa [go_sem, updD, e44, e50] using hws
      case o19 =>
        intro D a' V hD hdep hcl hav hws
        refine .inl ⟨rfl, ?_⟩
        have d18 : D 18 = true := (by first | (refine hdep ⟨18, .data⟩ ?_ rfl; simp; done) | (refine hdep ⟨18, .guard⟩ ?_ rfl; simp; done) | (refine hdep ⟨18, .chain⟩ ?_ rfl; simp; done))
        have e51 : a'.tmps[51]? = some (.bool true) := hav.val 18 _ 51 rfl rfl d18
        unfold Oper.wp
        simpa [go_sem, updD, e51] using hws
      case o20 =>
        intro D a' V hD hdep hcl hav hws
        have d19 : D 19 = true := (by first | (refine hdep ⟨19, .data⟩ ?_ rfl; simp; done) | (refine hdep ⟨19, .guard⟩ ?_ rfl; simp; done) | (refine hdep ⟨19, .chain⟩ ?_ rfl; simp; done))
        have g52 : a'.tmps[52]? = some (.bool true) := hav.val 19 _ 52 rfl rfl d19
        refine .inl ⟨(wanted_at rfl rfl rfl g52).trans rfl, ?_⟩
        have e7 : a'.tmps[7]? = some (.pointer (some ⟨R, 0, none⟩)) := hav.oldAt 7 rfl
        unfold Oper.wp
        simpa [go_sem, updD, e7] using hws
      case o21 =>
        intro D a' V hD hdep hcl hav hws
        have d19 : D 19 = true := (by first | (refine hdep ⟨19, .data⟩ ?_ rfl; simp; done) | (refine hdep ⟨19, .guard⟩ ?_ rfl; simp; done) | (refine hdep ⟨19, .chain⟩ ?_ rfl; simp; done))
        have g52 : a'.tmps[52]? = some (.bool true) := hav.val 19 _ 52 rfl rfl d19
        refine .inl ⟨(wanted_at rfl rfl rfl g52).trans rfl, ?_⟩
        have d20 : D 20 = true := (by first | (refine hdep ⟨20, .data⟩ ?_ rfl; simp; done) | (refine hdep ⟨20, .guard⟩ ?_ rfl; simp; done) | (refine hdep ⟨20, .chain⟩ ?_ rfl; simp; done))
        have e53 : a'.tmps[53]? = some (.pointer (some ⟨R, 1, none⟩)) := hav.val 20 _ 53 rfl rfl d20
        have x0 := k0 V hws
        have x1 := k1' V hws
        have x2 := k2 V hws
        unfold Oper.wp
        simpa [go_sem, updD, e53, x0, x1, x2] using hws
      case o22 =>
        intro D a' V hD hdep hcl hav hws
        have d19 : D 19 = true := (by first | (refine hdep ⟨19, .data⟩ ?_ rfl; simp; done) | (refine hdep ⟨19, .guard⟩ ?_ rfl; simp; done) | (refine hdep ⟨19, .chain⟩ ?_ rfl; simp; done))
        have g52 : a'.tmps[52]? = some (.bool true) := hav.val 19 _ 52 rfl rfl d19
        refine .inl ⟨(wanted_at rfl rfl rfl g52).trans rfl, ?_⟩
        have e6 : a'.tmps[6]? = some (.pointer (some ⟨P, 0, none⟩)) := hav.oldAt 6 rfl
        unfold Oper.wp
        simpa [go_sem, updD, e6] using hws
      case o23 =>
        intro D a' V hD hdep hcl hav hws
        have d19 : D 19 = true := (by first | (refine hdep ⟨19, .data⟩ ?_ rfl; simp; done) | (refine hdep ⟨19, .guard⟩ ?_ rfl; simp; done) | (refine hdep ⟨19, .chain⟩ ?_ rfl; simp; done))
        have g52 : a'.tmps[52]? = some (.bool true) := hav.val 19 _ 52 rfl rfl d19
        refine .inl ⟨(wanted_at rfl rfl rfl g52).trans rfl, ?_⟩
        have d22 : D 22 = true := (by first | (refine hdep ⟨22, .data⟩ ?_ rfl; simp; done) | (refine hdep ⟨22, .guard⟩ ?_ rfl; simp; done) | (refine hdep ⟨22, .chain⟩ ?_ rfl; simp; done))
        have e55 : a'.tmps[55]? = some (.pointer (some ⟨P, 1, none⟩)) := hav.val 22 _ 55 rfl rfl d22
        have x0 := l0 V hws
        have x1 := l1 V hws
        have x2 := l2 V hws
        unfold Oper.wp
        simpa [go_sem, updD, e55, x0, x1, x2] using hws
      case o24 =>
        intro D a' V hD hdep hcl hav hws
        have d19 : D 19 = true := (by first | (refine hdep ⟨19, .data⟩ ?_ rfl; simp; done) | (refine hdep ⟨19, .guard⟩ ?_ rfl; simp; done) | (refine hdep ⟨19, .chain⟩ ?_ rfl; simp; done))
        have g52 : a'.tmps[52]? = some (.bool true) := hav.val 19 _ 52 rfl rfl d19
        refine .inl ⟨(wanted_at rfl rfl rfl g52).trans rfl, ?_⟩
        have d23 : D 23 = true := (by first | (refine hdep ⟨23, .data⟩ ?_ rfl; simp; done) | (refine hdep ⟨23, .guard⟩ ?_ rfl; simp; done) | (refine hdep ⟨23, .chain⟩ ?_ rfl; simp; done))
        have e56 : a'.tmps[56]? = some (.int .i64 (p1 : Nat)) := hav.val 23 _ 56 rfl rfl d23
        unfold Oper.wp
        simpa [go_sem, updD, e56, HW2.out] using hws
      case o25 =>
        intro D a' V hD hdep hcl hav hws
        have d19 : D 19 = true := (by first | (refine hdep ⟨19, .data⟩ ?_ rfl; simp; done) | (refine hdep ⟨19, .guard⟩ ?_ rfl; simp; done) | (refine hdep ⟨19, .chain⟩ ?_ rfl; simp; done))
        have g52 : a'.tmps[52]? = some (.bool true) := hav.val 19 _ 52 rfl rfl d19
        refine .inl ⟨(wanted_at rfl rfl rfl g52).trans rfl, ?_⟩
        have d21 : D 21 = true := (by first | (refine hdep ⟨21, .data⟩ ?_ rfl; simp; done) | (refine hdep ⟨21, .guard⟩ ?_ rfl; simp; done) | (refine hdep ⟨21, .chain⟩ ?_ rfl; simp; done))
        have e54 : a'.tmps[54]? = some (.int .i64 (q1 : Nat)) := hav.val 21 _ 54 rfl rfl d21
        have d24 : D 24 = true := (by first | (refine hdep ⟨24, .data⟩ ?_ rfl; simp; done) | (refine hdep ⟨24, .guard⟩ ?_ rfl; simp; done) | (refine hdep ⟨24, .chain⟩ ?_ rfl; simp; done))
        have e57 : a'.tmps[57]? = some (.int .i64 (IntKind.i64.wrap ((p1 : Int) + 1))) := hav.val 24 _ 57 rfl rfl d24
        unfold Oper.wp
        simpa [go_sem, updD, e54, e57, E2, E2w] using hws
      case o26 =>
        intro D a' V hD hdep hcl hav hws
        have d19 : D 19 = true := (by first | (refine hdep ⟨19, .data⟩ ?_ rfl; simp; done) | (refine hdep ⟨19, .guard⟩ ?_ rfl; simp; done) | (refine hdep ⟨19, .chain⟩ ?_ rfl; simp; done))
        have g52 : a'.tmps[52]? = some (.bool true) := hav.val 19 _ 52 rfl rfl d19
        refine .inl ⟨(wanted_at rfl rfl rfl g52).trans rfl, ?_⟩
        have e3 : a'.tmps[3]? = some (.pointer (some ⟨w.heap.size, 0, none⟩)) := hav.oldAt 3 rfl
        unfold Oper.wp
        simpa [go_sem, updD, e3] using hws
      case o27 =>
        intro D a' V hD hdep hcl hav hws
        have d19 : D 19 = true := (by first | (refine hdep ⟨19, .data⟩ ?_ rfl; simp; done) | (refine hdep ⟨19, .guard⟩ ?_ rfl; simp; done) | (refine hdep ⟨19, .chain⟩ ?_ rfl; simp; done))
        have g52 : a'.tmps[52]? = some (.bool true) := hav.val 19 _ 52 rfl rfl d19
        refine .inl ⟨(wanted_at rfl rfl rfl g52).trans rfl, ?_⟩
        have d26 : D 26 = true := (by first | (refine hdep ⟨26, .data⟩ ?_ rfl; simp; done) | (refine hdep ⟨26, .guard⟩ ?_ rfl; simp; done) | (refine hdep ⟨26, .chain⟩ ?_ rfl; simp; done))
        have e59 : a'.tmps[59]? = some (.pointer (some ⟨w.heap.size, 3, none⟩)) := hav.val 26 _ 59 rfl rfl d26
        have x3 := n3 V hws
        unfold Oper.wp
        simpa [go_sem, updD, e59, x3] using hws
      case o28 =>
        intro D a' V hD hdep hcl hav hws
        have d19 : D 19 = true := (by first | (refine hdep ⟨19, .data⟩ ?_ rfl; simp; done) | (refine hdep ⟨19, .guard⟩ ?_ rfl; simp; done) | (refine hdep ⟨19, .chain⟩ ?_ rfl; simp; done))
        have g52 : a'.tmps[52]? = some (.bool true) := hav.val 19 _ 52 rfl rfl d19
        refine .inl ⟨(wanted_at rfl rfl rfl g52).trans rfl, ?_⟩
        have d27 : D 27 = true := (by first | (refine hdep ⟨27, .data⟩ ?_ rfl; simp; done) | (refine hdep ⟨27, .guard⟩ ?_ rfl; simp; done) | (refine hdep ⟨27, .chain⟩ ?_ rfl; simp; done))
        have e60 : a'.tmps[60]? = some (.int .i64 1) := hav.val 27 _ 60 rfl rfl d27
        unfold Oper.wp
        simpa [go_sem, updD, e60, G1] using hws
      case o29 =>
        intro D a' V hD hdep hcl hav hws
        have d19 : D 19 = true := (by first | (refine hdep ⟨19, .data⟩ ?_ rfl; simp; done) | (refine hdep ⟨19, .guard⟩ ?_ rfl; simp; done) | (refine hdep ⟨19, .chain⟩ ?_ rfl; simp; done))
        have g52 : a'.tmps[52]? = some (.bool true) := hav.val 19 _ 52 rfl rfl d19
        refine .inl ⟨(wanted_at rfl rfl rfl g52).trans rfl, ?_⟩
        have d25 : D 25 = true := (by first | (refine hdep ⟨25, .data⟩ ?_ rfl; simp; done) | (refine hdep ⟨25, .guard⟩ ?_ rfl; simp; done) | (refine hdep ⟨25, .chain⟩ ?_ rfl; simp; done))
        have e58 : a'.tmps[58]? = some (.bool true) := hav.val 25 _ 58 rfl rfl d25
        have d28 : D 28 = true := (by first | (refine hdep ⟨28, .data⟩ ?_ rfl; simp; done) | (refine hdep ⟨28, .guard⟩ ?_ rfl; simp; done) | (refine hdep ⟨28, .chain⟩ ?_ rfl; simp; done))
        have e61 : a'.tmps[61]? = some (.bool true) := hav.val 28 _ 61 rfl rfl d28
        unfold Oper.wp
        simpa [go_sem, updD, e58, e61] using hws
      case o30 =>
        intro D a' V hD hdep hcl hav hws
        refine .inl ⟨rfl, ?_⟩
        have d19 : D 19 = true := (by first | (refine hdep ⟨19, .data⟩ ?_ rfl; simp; done) | (refine hdep ⟨19, .guard⟩ ?_ rfl; simp; done) | (refine hdep ⟨19, .chain⟩ ?_ rfl; simp; done))
        have e52 : a'.tmps[52]? = some (.bool true) := hav.val 19 _ 52 rfl rfl d19
        have d29 : D 29 = true := (by first | (refine hdep ⟨29, .data⟩ ?_ rfl; simp; done) | (refine hdep ⟨29, .guard⟩ ?_ rfl; simp; done) | (refine hdep ⟨29, .chain⟩ ?_ rfl; simp; done))
        have e62 : a'.tmps[62]? = some (.bool true) := hav.val 29 _ 62 rfl rfl d29
        unfold Oper.wp
        simpa [go_sem, updD, e52, e62] using hws
      case o31 =>
        intro D a' V hD hdep hcl hav hws
        refine .inl ⟨rfl, ?_⟩
        have d30 : D 30 = true := (by first | (refine hdep ⟨30, .data⟩ ?_ rfl; simp; done) | (refine hdep ⟨30, .guard⟩ ?_ rfl; simp; done) | (refine hdep ⟨30, .chain⟩ ?_ rfl; simp; done))
        have e63 : a'.tmps[63]? = some (.bool true) := hav.val 30 _ 63 rfl rfl d30
        unfold Oper.wp
        simpa [go_sem, updD, e63] using hws
      case o32 =>
        intro D a' V hD hdep hcl hav hws
        have d31 : D 31 = true := (by first | (refine hdep ⟨31, .data⟩ ?_ rfl; simp; done) | (refine hdep ⟨31, .guard⟩ ?_ rfl; simp; done) | (refine hdep ⟨31, .chain⟩ ?_ rfl; simp; done))
        have g64 : a'.tmps[64]? = some (.bool true) := hav.val 31 _ 64 rfl rfl d31
        refine .inl ⟨(wanted_at rfl rfl rfl g64).trans rfl, ?_⟩
        have e7 : a'.tmps[7]? = some (.pointer (some ⟨R, 0, none⟩)) := hav.oldAt 7 rfl
        unfold Oper.wp
        simpa [go_sem, updD, e7] using hws
      case o33 =>
        intro D a' V hD hdep hcl hav hws
        have d31 : D 31 = true := (by first | (refine hdep ⟨31, .data⟩ ?_ rfl; simp; done) | (refine hdep ⟨31, .guard⟩ ?_ rfl; simp; done) | (refine hdep ⟨31, .chain⟩ ?_ rfl; simp; done))
        have g64 : a'.tmps[64]? = some (.bool true) := hav.val 31 _ 64 rfl rfl d31
        refine .inl ⟨(wanted_at rfl rfl rfl g64).trans rfl, ?_⟩
        have d32 : D 32 = true := (by first | (refine hdep ⟨32, .data⟩ ?_ rfl; simp; done) | (refine hdep ⟨32, .guard⟩ ?_ rfl; simp; done) | (refine hdep ⟨32, .chain⟩ ?_ rfl; simp; done))
        have e65 : a'.tmps[65]? = some (.pointer (some ⟨R, 0, none⟩)) := hav.val 32 _ 65 rfl rfl d32
        have x0 := k0 V hws
        have x1 := k1' V hws
        have x2 := k2 V hws
        unfold Oper.wp
        simpa [go_sem, updD, e65, x0, x1, x2] using hws
      case o34 =>
        intro D a' V hD hdep hcl hav hws
        have d31 : D 31 = true := (by first | (refine hdep ⟨31, .data⟩ ?_ rfl; simp; done) | (refine hdep ⟨31, .guard⟩ ?_ rfl; simp; done) | (refine hdep ⟨31, .chain⟩ ?_ rfl; simp; done))
        have g64 : a'.tmps[64]? = some (.bool true) := hav.val 31 _ 64 rfl rfl d31
        refine .inl ⟨(wanted_at rfl rfl rfl g64).trans rfl, ?_⟩
        have e6 : a'.tmps[6]? = some (.pointer (some ⟨P, 0, none⟩)) := hav.oldAt 6 rfl
        unfold Oper.wp
        simpa [go_sem, updD, e6] using hws
      case o35 =>
        intro D a' V hD hdep hcl hav hws
        have d31 : D 31 = true := (by first | (refine hdep ⟨31, .data⟩ ?_ rfl; simp; done) | (refine hdep ⟨31, .guard⟩ ?_ rfl; simp; done) | (refine hdep ⟨31, .chain⟩ ?_ rfl; simp; done))
        have g64 : a'.tmps[64]? = some (.bool true) := hav.val 31 _ 64 rfl rfl d31
        refine .inl ⟨(wanted_at rfl rfl rfl g64).trans rfl, ?_⟩
        have d34 : D 34 = true := (by first | (refine hdep ⟨34, .data⟩ ?_ rfl; simp; done) | (refine hdep ⟨34, .guard⟩ ?_ rfl; simp; done) | (refine hdep ⟨34, .chain⟩ ?_ rfl; simp; done))
        have e67 : a'.tmps[67]? = some (.pointer (some ⟨P, 0, none⟩)) := hav.val 34 _ 67 rfl rfl d34
        have x0 := l0 V hws
        have x1 := l1 V hws
        have x2 := l2 V hws
        unfold Oper.wp
        simpa [go_sem, updD, e67, x0, x1, x2] using hws
      case o36 =>
        intro D a' V hD hdep hcl hav hws
        have d31 : D 31 = true := (by first | (refine hdep ⟨31, .data⟩ ?_ rfl; simp; done) | (refine hdep ⟨31, .guard⟩ ?_ rfl; simp; done) | (refine hdep ⟨31, .chain⟩ ?_ rfl; simp; done))
        have g64 : a'.tmps[64]? = some (.bool true) := hav.val 31 _ 64 rfl rfl d31
        refine .inl ⟨(wanted_at rfl rfl rfl g64).trans rfl, ?_⟩
        have d35 : D 35 = true := (by first | (refine hdep ⟨35, .data⟩ ?_ rfl; simp; done) | (refine hdep ⟨35, .guard⟩ ?_ rfl; simp; done) | (refine hdep ⟨35, .chain⟩ ?_ rfl; simp; done))
        have e68 : a'.tmps[68]? = some (.int .i64 (p0 : Nat)) := hav.val 35 _ 68 rfl rfl d35
        unfold Oper.wp
        simpa [go_sem, updD, e68, HW3.out] using hws
      case o37 =>
        intro D a' V hD hdep hcl hav hws
        have d31 : D 31 = true := (by first | (refine hdep ⟨31, .data⟩ ?_ rfl; simp; done) | (refine hdep ⟨31, .guard⟩ ?_ rfl; simp; done) | (refine hdep ⟨31, .chain⟩ ?_ rfl; simp; done))
        have g64 : a'.tmps[64]? = some (.bool true) := hav.val 31 _ 64 rfl rfl d31
        refine .inl ⟨(wanted_at rfl rfl rfl g64).trans rfl, ?_⟩
        have d33 : D 33 = true := (by first | (refine hdep ⟨33, .data⟩ ?_ rfl; simp; done) | (refine hdep ⟨33, .guard⟩ ?_ rfl; simp; done) | (refine hdep ⟨33, .chain⟩ ?_ rfl; simp; done))
        have e66 : a'.tmps[66]? = some (.int .i64 (q0 : Nat)) := hav.val 33 _ 66 rfl rfl d33
        have d36 : D 36 = true := (by first | (refine hdep ⟨36, .data⟩ ?_ rfl; simp; done) | (refine hdep ⟨36, .guard⟩ ?_ rfl; simp; done) | (refine hdep ⟨36, .chain⟩ ?_ rfl; simp; done))
        have e69 : a'.tmps[69]? = some (.int .i64 (IntKind.i64.wrap ((p0 : Int) + 1))) := hav.val 36 _ 69 rfl rfl d36
        unfold Oper.wp
        simpa [go_sem, updD, e66, e69, E3, E3w] using hws
      case o38 =>
        intro D a' V hD hdep hcl hav hws
        have d31 : D 31 = true := (by first | (refine hdep ⟨31, .data⟩ ?_ rfl; simp; done) | (refine hdep ⟨31, .guard⟩ ?_ rfl; simp; done) | (refine hdep ⟨31, .chain⟩ ?_ rfl; simp; done))
        have g64 : a'.tmps[64]? = some (.bool true) := hav.val 31 _ 64 rfl rfl d31
        refine .inl ⟨(wanted_at rfl rfl rfl g64).trans rfl, ?_⟩
        have e3 : a'.tmps[3]? = some (.pointer (some ⟨w.heap.size, 0, none⟩)) := hav.oldAt 3 rfl
        unfold Oper.wp
        simpa [go_sem, updD, e3] using hws
      case o39 =>
        intro D a' V hD hdep hcl hav hws
        have d31 : D 31 = true := (by first | (refine hdep ⟨31, .data⟩ ?_ rfl; simp; done) | (refine hdep ⟨31, .guard⟩ ?_ rfl; simp; done) | (refine hdep ⟨31, .chain⟩ ?_ rfl; simp; done))
        have g64 : a'.tmps[64]? = some (.bool true) := hav.val 31 _ 64 rfl rfl d31
        refine .inl ⟨(wanted_at rfl rfl rfl g64).trans rfl, ?_⟩
        have d38 : D 38 = true := (by first | (refine hdep ⟨38, .data⟩ ?_ rfl; simp; done) | (refine hdep ⟨38, .guard⟩ ?_ rfl; simp; done) | (refine hdep ⟨38, .chain⟩ ?_ rfl; simp; done))
        have e71 : a'.tmps[71]? = some (.pointer (some ⟨w.heap.size, 3, none⟩)) := hav.val 38 _ 71 rfl rfl d38
        have x3 := n3 V hws
        unfold Oper.wp
        simpa [go_sem, updD, e71, x3] using hws
      case o40 =>
        intro D a' V hD hdep hcl hav hws
        have d31 : D 31 = true := (by first | (refine hdep ⟨31, .data⟩ ?_ rfl; simp; done) | (refine hdep ⟨31, .guard⟩ ?_ rfl; simp; done) | (refine hdep ⟨31, .chain⟩ ?_ rfl; simp; done))
        have g64 : a'.tmps[64]? = some (.bool true) := hav.val 31 _ 64 rfl rfl d31
        refine .inl ⟨(wanted_at rfl rfl rfl g64).trans rfl, ?_⟩
        have d39 : D 39 = true := (by first | (refine hdep ⟨39, .data⟩ ?_ rfl; simp; done) | (refine hdep ⟨39, .guard⟩ ?_ rfl; simp; done) | (refine hdep ⟨39, .chain⟩ ?_ rfl; simp; done))
        have e72 : a'.tmps[72]? = some (.int .i64 1) := hav.val 39 _ 72 rfl rfl d39
        unfold Oper.wp
        simpa [go_sem, updD, e72, G0] using hws
      case o41 =>
        intro D a' V hD hdep hcl hav hws
        have d31 : D 31 = true := (by first | (refine hdep ⟨31, .data⟩ ?_ rfl; simp; done) | (refine hdep ⟨31, .guard⟩ ?_ rfl; simp; done) | (refine hdep ⟨31, .chain⟩ ?_ rfl; simp; done))
        have g64 : a'.tmps[64]? = some (.bool true) := hav.val 31 _ 64 rfl rfl d31
        refine .inl ⟨(wanted_at rfl rfl rfl g64).trans rfl, ?_⟩
        have d37 : D 37 = true := (by first | (refine hdep ⟨37, .data⟩ ?_ rfl; simp; done) | (refine hdep ⟨37, .guard⟩ ?_ rfl; simp; done) | (refine hdep ⟨37, .chain⟩ ?_ rfl; simp; done))
        have e70 : a'.tmps[70]? = some (.bool false) := hav.val 37 _ 70 rfl rfl d37
        have d40 : D 40 = true := (by first | (refine hdep ⟨40, .data⟩ ?_ rfl; simp; done) | (refine hdep ⟨40, .guard⟩ ?_ rfl; simp; done) | (refine hdep ⟨40, .chain⟩ ?_ rfl; simp; done))
        have e73 : a'.tmps[73]? = some (.bool false) := hav.val 40 _ 73 rfl rfl d40
        unfold Oper.wp
        simpa [go_sem, updD, e70, e73] using hws
      case o42 =>
        intro D a' V hD hdep hcl hav hws
        refine .inl ⟨rfl, ?_⟩
        have d31 : D 31 = true := (by first | (refine hdep ⟨31, .data⟩ ?_ rfl; simp; done) | (refine hdep ⟨31, .guard⟩ ?_ rfl; simp; done) | (refine hdep ⟨31, .chain⟩ ?_ rfl; simp; done))
        have e64 : a'.tmps[64]? = some (.bool true) := hav.val 31 _ 64 rfl rfl d31
        have d41 : D 41 = true := (by first | (refine hdep ⟨41, .data⟩ ?_ rfl; simp; done) | (refine hdep ⟨41, .guard⟩ ?_ rfl; simp; done) | (refine hdep ⟨41, .chain⟩ ?_ rfl; simp; done))
        have e74 : a'.tmps[74]? = some (.bool true) := hav.val 41 _ 74 rfl rfl d41
        unfold Oper.wp
        simpa [go_sem, updD, e64, e74] using hws
      case o43 =>
        intro D a' V hD hdep hcl hav hws
        refine .inl ⟨rfl, ?_⟩
        have d42 : D 42 = true := (by first | (refine hdep ⟨42, .data⟩ ?_ rfl; simp; done) | (refine hdep ⟨42, .guard⟩ ?_ rfl; simp; done) | (refine hdep ⟨42, .chain⟩ ?_ rfl; simp; done))
        have e75 : a'.tmps[75]? = some (.bool true) := hav.val 42 _ 75 rfl rfl d42
        unfold Oper.wp
        simpa [go_sem, updD, e75] using hws
      case fin =>
        intro a' V hav hws
        have ha' := hav.final rfl
        subst ha'
        simp only [putAll, Act.put, List.setIfInBounds_toArray, List.set_cons_succ, List.set_cons_zero]
        clear hav
        go_wp2_with fail
        go_ret
        exact ⟨ret_bool (by first | rfl | simp), later BW.out hws⟩
    by_cases v2 : vv = 2
    · subst v2
      have G1 : ((2 : Int) == 1) = false := rfl
      have G0 : ((2 : Int) == 0) = false := rfl
      simp only [if_pos, show ¬ (2 : Int) = 0 by decide, show ¬ (2 : Int) = 1 by decide, if_false] at g0 g1 g2
      have E1 : (((q0 : Int) + (q1 : Int) + (q2 : Int)) == ((p0 : Int) + (p1 : Int) + (p2 : Int) + 1)) = true := by rw [beq_iff_eq]; omega
      have E1w : (((q0 : Int) + (q1 : Int) + (q2 : Int)) == IntKind.i64.wrap ((p0 : Int) + (p1 : Int) + (p2 : Int) + 1)) = true := by rw [HW1.out]; exact E1
      have E2 : ((q1 : Int) == (p1 : Int) + 1) = false := by rw [beq_eq_false_iff_ne]; omega
      have E2w : ((q1 : Int) == IntKind.i64.wrap ((p1 : Int) + 1)) = false := by rw [HW2.out]; exact E2
      have E3 : ((q0 : Int) == (p0 : Int) + 1) = false := by rw [beq_eq_false_iff_ne]; omega
      have E3w : ((q0 : Int) == IntKind.i64.wrap ((p0 : Int) + 1)) = false := by rw [HW3.out]; exact E3
      clear g0 g1 g2 v0 v1
      go_wp2_with fail
      refine wp_region_sg (by kernel_rfl) (fun i => match i with | 0 => .bool true | 1 => .bool true | 2 => .agg #[.int .i64 q0, .int .i64 q1, .int .i64 q2] | 3 => .int .i64 ((q0 : Int) + (q1 : Int) + (q2 : Int)) | 4 => .agg #[.int .i64 p0, .int .i64 p1, .int .i64 p2] | 5 => .int .i64 ((p0 : Int) + (p1 : Int) + (p2 : Int)) | 6 => .int .i64 (IntKind.i64.wrap ((p0 : Int) + (p1 : Int) + (p2 : Int) + 1)) | 7 => .bool true | 8 => .bool true | 9 => .bool true | 10 => .bool true | 11 => .bool true | 12 => .bool true | 13 => .bool true | 14 => undef | 15 => undef | 16 => undef | 17 => .bool true | 18 => .bool true | 19 => .bool true | 20 => .pointer (some ⟨R, 1, none⟩) | 21 => .int .i64 (q1 : Nat) | 22 => .pointer (some ⟨P, 1, none⟩) | 23 => .int .i64 (p1 : Nat) | 24 => .int .i64 (IntKind.i64.wrap ((p1 : Int) + 1)) | 25 => .bool false | 26 => .pointer (some ⟨w.heap.size, 3, none⟩) | 27 => .int .i64 2 | 28 => .bool false | 29 => .bool true | 30 => .bool true | 31 => .bool true | 32 => .pointer (some ⟨R, 0, none⟩) | 33 => .int .i64 (q0 : Nat) | 34 => .pointer (some ⟨P, 0, none⟩) | 35 => .int .i64 (p0 : Nat) | 36 => .int .i64 (IntKind.i64.wrap ((p0 : Int) + 1)) | 37 => .bool false | 38 => .pointer (some ⟨w.heap.size, 3, none⟩) | 39 => .int .i64 2 | 40 => .bool false | 41 => .bool true | 42 => .bool true | 43 => .bool true | _ => undef)
        (fun D V => Below W.heap.size W V) rfl ⟨rfl, rfl, rfl, Nat.le_refl _, fun _ _ => rfl⟩ ⟨?o0, ?o1, ?o2, ?o3, ?o4, ?o5, ?o6, ?o7, ?o8, ?o9, ?o10, ?o11, ?o12, ?o13, ?o14, ?o15, ?o16, ?o17, ?o18, ?o19, ?o20, ?o21, ?o22, ?o23, ?o24, ?o25, ?o26, ?o27, ?o28, ?o29, ?o30, ?o31, ?o32, ?o33, ?o34, ?o35, ?o36, ?o37, ?o38, ?o39, ?o40, ?o41, ?o42, ?o43, trivial⟩ ?fin
      case o0 =>
        intro D a' V hD hdep hcl hav hws
        refine .inl ⟨rfl, ?_⟩
        have e5 : a'.tmps[5]? = some (.bool true) := hav.oldAt 5 rfl
        unfold Oper.wp
        simpa [go_sem, updD, e5] using hws
      case o1 =>
        intro D a' V hD hdep hcl hav hws
        refine .inl ⟨rfl, ?_⟩
        have d0 : D 0 = true := (by first | (refine hdep ⟨0, .data⟩ ?_ rfl; simp; done) | (refine hdep ⟨0, .guard⟩ ?_ rfl; simp; done) | (refine hdep ⟨0, .chain⟩ ?_ rfl; simp; done))
        have e33 : a'.tmps[33]? = some (.bool true) := hav.val 0 _ 33 rfl rfl d0
        unfold Oper.wp
        simpa [go_sem, updD, e33] using hws
      case o2 =>
        intro D a' V hD hdep hcl hav hws
        have d1 : D 1 = true := (by first | (refine hdep ⟨1, .data⟩ ?_ rfl; simp; done) | (refine hdep ⟨1, .guard⟩ ?_ rfl; simp; done) | (refine hdep ⟨1, .chain⟩ ?_ rfl; simp; done))
        have g34 : a'.tmps[34]? = some (.bool true) := hav.val 1 _ 34 rfl rfl d1
        refine .inl ⟨(wanted_at rfl rfl rfl g34).trans rfl, ?_⟩
        have e7 : a'.tmps[7]? = some (.pointer (some ⟨R, 0, none⟩)) := hav.oldAt 7 rfl
        have x0 := k0 V hws
        have x1 := k1' V hws
        have x2 := k2 V hws
        unfold Oper.wp
        simpa [go_sem, updD, e7, x0, x1, x2] using hws
      case o3 =>
        intro D a' V hD hdep hcl hav hws
        have d1 : D 1 = true := (by first | (refine hdep ⟨1, .data⟩ ?_ rfl; simp; done) | (refine hdep ⟨1, .guard⟩ ?_ rfl; simp; done) | (refine hdep ⟨1, .chain⟩ ?_ rfl; simp; done))
        have g34 : a'.tmps[34]? = some (.bool true) := hav.val 1 _ 34 rfl rfl d1
        refine .inl ⟨(wanted_at rfl rfl rfl g34).trans rfl, ?_⟩
        have d2 : D 2 = true := (by first | (refine hdep ⟨2, .data⟩ ?_ rfl; simp; done) | (refine hdep ⟨2, .guard⟩ ?_ rfl; simp; done) | (refine hdep ⟨2, .chain⟩ ?_ rfl; simp; done))
        have e35 : a'.tmps[35]? = some (.agg #[.int .i64 q0, .int .i64 q1, .int .i64 q2]) := hav.val 2 _ 35 rfl rfl d2
        unfold Oper.wp
        simp [go_sem, e35]
        refine (TB.out V).mono ?_
        rintro e V' ⟨rfl, hb⟩
        exact ⟨rfl, hws.trans (hb.mono hws.size)⟩
      case o4 =>
        intro D a' V hD hdep hcl hav hws
        have d1 : D 1 = true := (by first | (refine hdep ⟨1, .data⟩ ?_ rfl; simp; done) | (refine hdep ⟨1, .guard⟩ ?_ rfl; simp; done) | (refine hdep ⟨1, .chain⟩ ?_ rfl; simp; done))
        have g34 : a'.tmps[34]? = some (.bool true) := hav.val 1 _ 34 rfl rfl d1
        refine .inl ⟨(wanted_at rfl rfl rfl g34).trans rfl, ?_⟩
        have e6 : a'.tmps[6]? = some (.pointer (some ⟨P, 0, none⟩)) := hav.oldAt 6 rfl
        have x0 := l0 V hws
        have x1 := l1 V hws
        have x2 := l2 V hws
        unfold Oper.wp
        simpa [go_sem, updD, e6, x0, x1, x2] using hws
      case o5 =>
        intro D a' V hD hdep hcl hav hws
        have d1 : D 1 = true := (by first | (refine hdep ⟨1, .data⟩ ?_ rfl; simp; done) | (refine hdep ⟨1, .guard⟩ ?_ rfl; simp; done) | (refine hdep ⟨1, .chain⟩ ?_ rfl; simp; done))
        have g34 : a'.tmps[34]? = some (.bool true) := hav.val 1 _ 34 rfl rfl d1
        refine .inl ⟨(wanted_at rfl rfl rfl g34).trans rfl, ?_⟩
        have d4 : D 4 = true := (by first | (refine hdep ⟨4, .data⟩ ?_ rfl; simp; done) | (refine hdep ⟨4, .guard⟩ ?_ rfl; simp; done) | (refine hdep ⟨4, .chain⟩ ?_ rfl; simp; done))
        have e37 : a'.tmps[37]? = some (.agg #[.int .i64 p0, .int .i64 p1, .int .i64 p2]) := hav.val 4 _ 37 rfl rfl d4
        unfold Oper.wp
        simp [go_sem, e37]
        refine (TA.out V).mono ?_
        rintro e V' ⟨rfl, hb⟩
        exact ⟨rfl, hws.trans (hb.mono hws.size)⟩
      case o6 =>
        intro D a' V hD hdep hcl hav hws
        have d1 : D 1 = true := (by first | (refine hdep ⟨1, .data⟩ ?_ rfl; simp; done) | (refine hdep ⟨1, .guard⟩ ?_ rfl; simp; done) | (refine hdep ⟨1, .chain⟩ ?_ rfl; simp; done))
        have g34 : a'.tmps[34]? = some (.bool true) := hav.val 1 _ 34 rfl rfl d1
        refine .inl ⟨(wanted_at rfl rfl rfl g34).trans rfl, ?_⟩
        have d5 : D 5 = true := (by first | (refine hdep ⟨5, .data⟩ ?_ rfl; simp; done) | (refine hdep ⟨5, .guard⟩ ?_ rfl; simp; done) | (refine hdep ⟨5, .chain⟩ ?_ rfl; simp; done))
        have e38 : a'.tmps[38]? = some (.int .i64 ((p0 : Int) + (p1 : Int) + (p2 : Int))) := hav.val 5 _ 38 rfl rfl d5
        unfold Oper.wp
        simpa [go_sem, updD, e38, HW1.out] using hws
      case o7 =>
        intro D a' V hD hdep hcl hav hws
        have d1 : D 1 = true := (by first | (refine hdep ⟨1, .data⟩ ?_ rfl; simp; done) | (refine hdep ⟨1, .guard⟩ ?_ rfl; simp; done) | (refine hdep ⟨1, .chain⟩ ?_ rfl; simp; done))
        have g34 : a'.tmps[34]? = some (.bool true) := hav.val 1 _ 34 rfl rfl d1
        refine .inl ⟨(wanted_at rfl rfl rfl g34).trans rfl, ?_⟩
        have d3 : D 3 = true := (by first | (refine hdep ⟨3, .data⟩ ?_ rfl; simp; done) | (refine hdep ⟨3, .guard⟩ ?_ rfl; simp; done) | (refine hdep ⟨3, .chain⟩ ?_ rfl; simp; done))
        have e36 : a'.tmps[36]? = some (.int .i64 ((q0 : Int) + (q1 : Int) + (q2 : Int))) := hav.val 3 _ 36 rfl rfl d3
        have d6 : D 6 = true := (by first | (refine hdep ⟨6, .data⟩ ?_ rfl; simp; done) | (refine hdep ⟨6, .guard⟩ ?_ rfl; simp; done) | (refine hdep ⟨6, .chain⟩ ?_ rfl; simp; done))
        have e39 : a'.tmps[39]? = some (.int .i64 (IntKind.i64.wrap ((p0 : Int) + (p1 : Int) + (p2 : Int) + 1))) := hav.val 6 _ 39 rfl rfl d6
        unfold Oper.wp
        simpa [go_sem, updD, e36, e39, E1, E1w] using hws
      case o8 =>
        intro D a' V hD hdep hcl hav hws
        have d1 : D 1 = true := (by first | (refine hdep ⟨1, .data⟩ ?_ rfl; simp; done) | (refine hdep ⟨1, .guard⟩ ?_ rfl; simp; done) | (refine hdep ⟨1, .chain⟩ ?_ rfl; simp; done))
        have g34 : a'.tmps[34]? = some (.bool true) := hav.val 1 _ 34 rfl rfl d1
        refine .inl ⟨(wanted_at rfl rfl rfl g34).trans rfl, ?_⟩
        have e8 : a'.tmps[8]? = some (.bool true) := hav.oldAt 8 rfl
        unfold Oper.wp
        simpa [go_sem, updD, e8] using hws
      case o9 =>
        intro D a' V hD hdep hcl hav hws
        have d1 : D 1 = true := (by first | (refine hdep ⟨1, .data⟩ ?_ rfl; simp; done) | (refine hdep ⟨1, .guard⟩ ?_ rfl; simp; done) | (refine hdep ⟨1, .chain⟩ ?_ rfl; simp; done))
        have g34 : a'.tmps[34]? = some (.bool true) := hav.val 1 _ 34 rfl rfl d1
        refine .inl ⟨(wanted_at rfl rfl rfl g34).trans rfl, ?_⟩
        have d7 : D 7 = true := (by first | (refine hdep ⟨7, .data⟩ ?_ rfl; simp; done) | (refine hdep ⟨7, .guard⟩ ?_ rfl; simp; done) | (refine hdep ⟨7, .chain⟩ ?_ rfl; simp; done))
        have e40 : a'.tmps[40]? = some (.bool true) := hav.val 7 _ 40 rfl rfl d7
        have d8 : D 8 = true := (by first | (refine hdep ⟨8, .data⟩ ?_ rfl; simp; done) | (refine hdep ⟨8, .guard⟩ ?_ rfl; simp; done) | (refine hdep ⟨8, .chain⟩ ?_ rfl; simp; done))
        have e41 : a'.tmps[41]? = some (.bool true) := hav.val 8 _ 41 rfl rfl d8
        unfold Oper.wp
        simpa [go_sem, updD, e40, e41] using hws
      case o10 =>
        intro D a' V hD hdep hcl hav hws
        refine .inl ⟨rfl, ?_⟩
        have d1 : D 1 = true := (by first | (refine hdep ⟨1, .data⟩ ?_ rfl; simp; done) | (refine hdep ⟨1, .guard⟩ ?_ rfl; simp; done) | (refine hdep ⟨1, .chain⟩ ?_ rfl; simp; done))
        have e34 : a'.tmps[34]? = some (.bool true) := hav.val 1 _ 34 rfl rfl d1
        have d9 : D 9 = true := (by first | (refine hdep ⟨9, .data⟩ ?_ rfl; simp; done) | (refine hdep ⟨9, .guard⟩ ?_ rfl; simp; done) | (refine hdep ⟨9, .chain⟩ ?_ rfl; simp; done))
        have e42 : a'.tmps[42]? = some (.bool true) := hav.val 9 _ 42 rfl rfl d9
        unfold Oper.wp
        simpa [go_sem, updD, e34, e42] using hws
      case o11 =>
        intro D a' V hD hdep hcl hav hws
        refine .inl ⟨rfl, ?_⟩
        have d10 : D 10 = true := (by first | (refine hdep ⟨10, .data⟩ ?_ rfl; simp; done) | (refine hdep ⟨10, .guard⟩ ?_ rfl; simp; done) | (refine hdep ⟨10, .chain⟩ ?_ rfl; simp; done))
        have e43 : a'.tmps[43]? = some (.bool true) := hav.val 10 _ 43 rfl rfl d10
        unfold Oper.wp
        simpa [go_sem, updD, e43] using hws
      case o12 =>
        intro D a' V hD hdep hcl hav hws
        have d11 : D 11 = true := (by first | (refine hdep ⟨11, .data⟩ ?_ rfl; simp; done) | (refine hdep ⟨11, .guard⟩ ?_ rfl; simp; done) | (refine hdep ⟨11, .chain⟩ ?_ rfl; simp; done))
        have g44 : a'.tmps[44]? = some (.bool true) := hav.val 11 _ 44 rfl rfl d11
        refine .inl ⟨(wanted_at rfl rfl rfl g44).trans rfl, ?_⟩
        have e8 : a'.tmps[8]? = some (.bool true) := hav.oldAt 8 rfl
        unfold Oper.wp
        simpa [go_sem, updD, e8] using hws
      case o13 =>
        intro D a' V hD hdep hcl hav hws
        have d11 : D 11 = true := (by first | (refine hdep ⟨11, .data⟩ ?_ rfl; simp; done) | (refine hdep ⟨11, .guard⟩ ?_ rfl; simp; done) | (refine hdep ⟨11, .chain⟩ ?_ rfl; simp; done))
        have g44 : a'.tmps[44]? = some (.bool true) := hav.val 11 _ 44 rfl rfl d11
        refine .inl ⟨(wanted_at rfl rfl rfl g44).trans rfl, ?_⟩
        have d12 : D 12 = true := (by first | (refine hdep ⟨12, .data⟩ ?_ rfl; simp; done) | (refine hdep ⟨12, .guard⟩ ?_ rfl; simp; done) | (refine hdep ⟨12, .chain⟩ ?_ rfl; simp; done))
        have e45 : a'.tmps[45]? = some (.bool true) := hav.val 12 _ 45 rfl rfl d12
        unfold Oper.wp
        simpa [go_sem, updD, e45] using hws
      case o14 =>
        intro D a' V hD hdep hcl hav hws
        have d13 : D 13 = true := (by first | (refine hdep ⟨13, .data⟩ ?_ rfl; simp; done) | (refine hdep ⟨13, .guard⟩ ?_ rfl; simp; done) | (refine hdep ⟨13, .chain⟩ ?_ rfl; simp; done))
        have g46 : a'.tmps[46]? = some (.bool true) := hav.val 13 _ 46 rfl rfl d13
        exact .inr ⟨(wanted_at rfl rfl rfl g46).trans rfl, rfl, hws⟩
      case o15 =>
        intro D a' V hD hdep hcl hav hws
        have d13 : D 13 = true := (by first | (refine hdep ⟨13, .data⟩ ?_ rfl; simp; done) | (refine hdep ⟨13, .guard⟩ ?_ rfl; simp; done) | (refine hdep ⟨13, .chain⟩ ?_ rfl; simp; done))
        have g46 : a'.tmps[46]? = some (.bool true) := hav.val 13 _ 46 rfl rfl d13
        exact .inr ⟨(wanted_at rfl rfl rfl g46).trans rfl, rfl, hws⟩
      case o16 =>
        intro D a' V hD hdep hcl hav hws
        have d13 : D 13 = true := (by first | (refine hdep ⟨13, .data⟩ ?_ rfl; simp; done) | (refine hdep ⟨13, .guard⟩ ?_ rfl; simp; done) | (refine hdep ⟨13, .chain⟩ ?_ rfl; simp; done))
        have g46 : a'.tmps[46]? = some (.bool true) := hav.val 13 _ 46 rfl rfl d13
        exact .inr ⟨(wanted_at rfl rfl rfl g46).trans rfl, rfl, hws⟩
      case o17 =>
        intro D a' V hD hdep hcl hav hws
        have d11 : D 11 = true := (by first | (refine hdep ⟨11, .data⟩ ?_ rfl; simp; done) | (refine hdep ⟨11, .guard⟩ ?_ rfl; simp; done) | (refine hdep ⟨11, .chain⟩ ?_ rfl; simp; done))
        have g44 : a'.tmps[44]? = some (.bool true) := hav.val 11 _ 44 rfl rfl d11
        refine .inl ⟨(wanted_at rfl rfl rfl g44).trans rfl, ?_⟩
        have d13 : D 13 = true := (by first | (refine hdep ⟨13, .data⟩ ?_ rfl; simp; done) | (refine hdep ⟨13, .guard⟩ ?_ rfl; simp; done) | (refine hdep ⟨13, .chain⟩ ?_ rfl; simp; done))
        have e46 : a'.tmps[46]? = some (.bool true) := hav.val 13 _ 46 rfl rfl d13
        unfold Oper.wp
        simpa [go_sem, updD, e46] using hws
      case o18 =>
        intro D a' V hD hdep hcl hav hws
        refine .inl ⟨rfl, ?_⟩
        have d11 : D 11 = true := (by first | (refine hdep ⟨11, .data⟩ ?_ rfl; simp; done) | (refine hdep ⟨11, .guard⟩ ?_ rfl; simp; done) | (refine hdep ⟨11, .chain⟩ ?_ rfl; simp; done))
        have e44 : a'.tmps[44]? = some (.bool true) := hav.val 11 _ 44 rfl rfl d11
        have d17 : D 17 = true := (by first | (refine hdep ⟨17, .data⟩ ?_ rfl; simp; done) | (refine hdep ⟨17, .guard⟩ ?_ rfl; simp; done) | (refine hdep ⟨17, .chain⟩ ?_ rfl; simp; done))
        have e50 : a'.tmps[50]? = some (.bool true) := hav.val 17 _ 50 rfl rfl d17
        unfold Oper.wp
        simpa [go_sem, updD, e44, e50] using hws
      case o19 =>
        intro D a' V hD hdep hcl hav hws
        refine .inl ⟨rfl, ?_⟩
        have d18 : D 18 = true := (by first | (refine hdep ⟨18, .data⟩ ?_ rfl; simp; done) | (refine hdep ⟨18, .guard⟩ ?_ rfl; simp; done) | (refine hdep ⟨18, .chain⟩ ?_ rfl; simp; done))
        have e51 : a'.tmps[51]? = some (.bool true) := hav.val 18 _ 51 rfl rfl d18
        unfold Oper.wp
        simpa [go_sem, updD, e51] using hws
      case o20 =>
        intro D a' V hD hdep hcl hav hws
        have d19 : D 19 = true := (by first | (refine hdep ⟨19, .data⟩ ?_ rfl; simp; done) | (refine hdep ⟨19, .guard⟩ ?_ rfl; simp; done) | (refine hdep ⟨19, .chain⟩ ?_ rfl; simp; done))
        have g52 : a'.tmps[52]? = some (.bool true) := hav.val 19 _ 52 rfl rfl d19
        refine .inl ⟨(wanted_at rfl rfl rfl g52).trans rfl, ?_⟩
        have e7 : a'.tmps[7]? = some (.pointer (some ⟨R, 0, none⟩)) := hav.oldAt 7 rfl
        unfold Oper.wp
        simpa [go_sem, updD, e7] using hws
      case o21 =>
        intro D a' V hD hdep hcl hav hws
        have d19 : D 19 = true := (by first | (refine hdep ⟨19, .data⟩ ?_ rfl; simp; done) | (refine hdep ⟨19, .guard⟩ ?_ rfl; simp; done) | (refine hdep ⟨19, .chain⟩ ?_ rfl; simp; done))
        have g52 : a'.tmps[52]? = some (.bool true) := hav.val 19 _ 52 rfl rfl d19
        refine .inl ⟨(wanted_at rfl rfl rfl g52).trans rfl, ?_⟩
        have d20 : D 20 = true := (by first | (refine hdep ⟨20, .data⟩ ?_ rfl; simp; done) | (refine hdep ⟨20, .guard⟩ ?_ rfl; simp; done) | (refine hdep ⟨20, .chain⟩ ?_ rfl; simp; done))
        have e53 : a'.tmps[53]? = some (.pointer (some ⟨R, 1, none⟩)) := hav.val 20 _ 53 rfl rfl d20
        have x0 := k0 V hws
        have x1 := k1' V hws
        have x2 := k2 V hws
        unfold Oper.wp
        simpa [go_sem, updD, e53, x0, x1, x2] using hws
      case o22 =>
        intro D a' V hD hdep hcl hav hws
        have d19 : D 19 = true := (by first | (refine hdep ⟨19, .data⟩ ?_ rfl; simp; done) | (refine hdep ⟨19, .guard⟩ ?_ rfl; simp; done) | (refine hdep ⟨19, .chain⟩ ?_ rfl; simp; done))
        have g52 : a'.tmps[52]? = some (.bool true) := hav.val 19 _ 52 rfl rfl d19
        refine .inl ⟨(wanted_at rfl rfl rfl g52).trans rfl, ?_⟩
        have e6 : a'.tmps[6]? = some (.pointer (some ⟨P, 0, none⟩)) := hav.oldAt 6 rfl
        unfold Oper.wp
        simpa [go_sem, updD, e6] using hws
      case o23 =>
        intro D a' V hD hdep hcl hav hws
        have d19 : D 19 = true := (by first | (refine hdep ⟨19, .data⟩ ?_ rfl; simp; done) | (refine hdep ⟨19, .guard⟩ ?_ rfl; simp; done) | (refine hdep ⟨19, .chain⟩ ?_ rfl; simp; done))
        have g52 : a'.tmps[52]? = some (.bool true) := hav.val 19 _ 52 rfl rfl d19
        refine .inl ⟨(wanted_at rfl rfl rfl g52).trans rfl, ?_⟩
        have d22 : D 22 = true := (by first | (refine hdep ⟨22, .data⟩ ?_ rfl; simp; done) | (refine hdep ⟨22, .guard⟩ ?_ rfl; simp; done) | (refine hdep ⟨22, .chain⟩ ?_ rfl; simp; done))
        have e55 : a'.tmps[55]? = some (.pointer (some ⟨P, 1, none⟩)) := hav.val 22 _ 55 rfl rfl d22
        have x0 := l0 V hws
        have x1 := l1 V hws
        have x2 := l2 V hws
        unfold Oper.wp
        simpa [go_sem, updD, e55, x0, x1, x2] using hws
      case o24 =>
        intro D a' V hD hdep hcl hav hws
        have d19 : D 19 = true := (by first | (refine hdep ⟨19, .data⟩ ?_ rfl; simp; done) | (refine hdep ⟨19, .guard⟩ ?_ rfl; simp; done) | (refine hdep ⟨19, .chain⟩ ?_ rfl; simp; done))
        have g52 : a'.tmps[52]? = some (.bool true) := hav.val 19 _ 52 rfl rfl d19
        refine .inl ⟨(wanted_at rfl rfl rfl g52).trans rfl, ?_⟩
        have d23 : D 23 = true := (by first | (refine hdep ⟨23, .data⟩ ?_ rfl; simp; done) | (refine hdep ⟨23, .guard⟩ ?_ rfl; simp; done) | (refine hdep ⟨23, .chain⟩ ?_ rfl; simp; done))
        have e56 : a'.tmps[56]? = some (.int .i64 (p1 : Nat)) := hav.val 23 _ 56 rfl rfl d23
        unfold Oper.wp
        simpa [go_sem, updD, e56, HW2.out] using hws
      case o25 =>
        intro D a' V hD hdep hcl hav hws
        have d19 : D 19 = true := (by first | (refine hdep ⟨19, .data⟩ ?_ rfl; simp; done) | (refine hdep ⟨19, .guard⟩ ?_ rfl; simp; done) | (refine hdep ⟨19, .chain⟩ ?_ rfl; simp; done))
        have g52 : a'.tmps[52]? = some (.bool true) := hav.val 19 _ 52 rfl rfl d19
        refine .inl ⟨(wanted_at rfl rfl rfl g52).trans rfl, ?_⟩
        have d21 : D 21 = true := (by first | (refine hdep ⟨21, .data⟩ ?_ rfl; simp; done) | (refine hdep ⟨21, .guard⟩ ?_ rfl; simp; done) | (refine hdep ⟨21, .chain⟩ ?_ rfl; simp; done))
        have e54 : a'.tmps[54]? = some (.int .i64 (q1 : Nat)) := hav.val 21 _ 54 rfl rfl d21
        have d24 : D 24 = true := (by first | (refine hdep ⟨24, .data⟩ ?_ rfl; simp; done) | (refine hdep ⟨24, .guard⟩ ?_ rfl; simp; done) | (refine hdep ⟨24, .chain⟩ ?_ rfl; simp; done))
        have e57 : a'.tmps[57]? = some (.int .i64 (IntKind.i64.wrap ((p1 : Int) + 1))) := hav.val 24 _ 57 rfl rfl d24
        unfold Oper.wp
        simpa [go_sem, updD, e54, e57, E2, E2w] using hws
      case o26 =>
        intro D a' V hD hdep hcl hav hws
        have d19 : D 19 = true := (by first | (refine hdep ⟨19, .data⟩ ?_ rfl; simp; done) | (refine hdep ⟨19, .guard⟩ ?_ rfl; simp; done) | (refine hdep ⟨19, .chain⟩ ?_ rfl; simp; done))
        have g52 : a'.tmps[52]? = some (.bool true) := hav.val 19 _ 52 rfl rfl d19
        refine .inl ⟨(wanted_at rfl rfl rfl g52).trans rfl, ?_⟩
        have e3 : a'.tmps[3]? = some (.pointer (some ⟨w.heap.size, 0, none⟩)) := hav.oldAt 3 rfl
        unfold Oper.wp
        simpa [go_sem, updD, e3] using hws
      case o27 =>
        intro D a' V hD hdep hcl hav hws
        have d19 : D 19 = true := (by first | (refine hdep ⟨19, .data⟩ ?_ rfl; simp; done) | (refine hdep ⟨19, .guard⟩ ?_ rfl; simp; done) | (refine hdep ⟨19, .chain⟩ ?_ rfl; simp; done))
        have g52 : a'.tmps[52]? = some (.bool true) := hav.val 19 _ 52 rfl rfl d19
        refine .inl ⟨(wanted_at rfl rfl rfl g52).trans rfl, ?_⟩
        have d26 : D 26 = true := (by first | (refine hdep ⟨26, .data⟩ ?_ rfl; simp; done) | (refine hdep ⟨26, .guard⟩ ?_ rfl; simp; done) | (refine hdep ⟨26, .chain⟩ ?_ rfl; simp; done))
        have e59 : a'.tmps[59]? = some (.pointer (some ⟨w.heap.size, 3, none⟩)) := hav.val 26 _ 59 rfl rfl d26
        have x3 := n3 V hws
        unfold Oper.wp
        simpa [go_sem, updD, e59, x3] using hws
      case o28 =>
        intro D a' V hD hdep hcl hav hws
        have d19 : D 19 = true := (by first | (refine hdep ⟨19, .data⟩ ?_ rfl; simp; done) | (refine hdep ⟨19, .guard⟩ ?_ rfl; simp; done) | (refine hdep ⟨19, .chain⟩ ?_ rfl; simp; done))
        have g52 : a'.tmps[52]? = some (.bool true) := hav.val 19 _ 52 rfl rfl d19
        refine .inl ⟨(wanted_at rfl rfl rfl g52).trans rfl, ?_⟩
        have d27 : D 27 = true := (by first | (refine hdep ⟨27, .data⟩ ?_ rfl; simp; done) | (refine hdep ⟨27, .guard⟩ ?_ rfl; simp; done) | (refine hdep ⟨27, .chain⟩ ?_ rfl; simp; done))
        have e60 : a'.tmps[60]? = some (.int .i64 2) := hav.val 27 _ 60 rfl rfl d27
        unfold Oper.wp
        simpa [go_sem, updD, e60, G1] using hws
      case o29 =>
        intro D a' V hD hdep hcl hav hws
        have d19 : D 19 = true := (by first | (refine hdep ⟨19, .data⟩ ?_ rfl; simp; done) | (refine hdep ⟨19, .guard⟩ ?_ rfl; simp; done) | (refine hdep ⟨19, .chain⟩ ?_ rfl; simp; done))
        have g52 : a'.tmps[52]? = some (.bool true) := hav.val 19 _ 52 rfl rfl d19
        refine .inl ⟨(wanted_at rfl rfl rfl g52).trans rfl, ?_⟩
        have d25 : D 25 = true := (by first | (refine hdep ⟨25, .data⟩ ?_ rfl; simp; done) | (refine hdep ⟨25, .guard⟩ ?_ rfl; simp; done) | (refine hdep ⟨25, .chain⟩ ?_ rfl; simp; done))
        have e58 : a'.tmps[58]? = some (.bool false) := hav.val 25 _ 58 rfl rfl d25
        have d28 : D 28 = true := (by first | (refine hdep ⟨28, .data⟩ ?_ rfl; simp; done) | (refine hdep ⟨28, .guard⟩ ?_ rfl; simp; done) | (refine hdep ⟨28, .chain⟩ ?_ rfl; simp; done))
        have e61 : a'.tmps[61]? = some (.bool false) := hav.val 28 _ 61 rfl rfl d28
        unfold Oper.wp
        simpa [go_sem, updD, e58, e61] using hws
      case o30 =>
        intro D a' V hD hdep hcl hav hws
        refine .inl ⟨rfl, ?_⟩
        have d19 : D 19 = true := (by first | (refine hdep ⟨19, .data⟩ ?_ rfl; simp; done) | (refine hdep ⟨19, .guard⟩ ?_ rfl; simp; done) | (refine hdep ⟨19, .chain⟩ ?_ rfl; simp; done))
        have e52 : a'.tmps[52]? = some (.bool true) := hav.val 19 _ 52 rfl rfl d19
        have d29 : D 29 = true := (by first | (refine hdep ⟨29, .data⟩ ?_ rfl; simp; done) | (refine hdep ⟨29, .guard⟩ ?_ rfl; simp; done) | (refine hdep ⟨29, .chain⟩ ?_ rfl; simp; done))
        have e62 : a'.tmps[62]? = some (.bool true) := hav.val 29 _ 62 rfl rfl d29
        unfold Oper.wp
        simpa [go_sem, updD, e52, e62] using hws
      case o31 =>
        intro D a' V hD hdep hcl hav hws
        refine .inl ⟨rfl, ?_⟩
        have d30 : D 30 = true := (by first | (refine hdep ⟨30, .data⟩ ?_ rfl; simp; done) | (refine hdep ⟨30, .guard⟩ ?_ rfl; simp; done) | (refine hdep ⟨30, .chain⟩ ?_ rfl; simp; done))
        have e63 : a'.tmps[63]? = some (.bool true) := hav.val 30 _ 63 rfl rfl d30
        unfold Oper.wp
        simpa [go_sem, updD, e63] using hws
      case o32 =>
        intro D a' V hD hdep hcl hav hws
        have d31 : D 31 = true := (by first | (refine hdep ⟨31, .data⟩ ?_ rfl; simp; done) | (refine hdep ⟨31, .guard⟩ ?_ rfl; simp; done) | (refine hdep ⟨31, .chain⟩ ?_ rfl; simp; done))
        have g64 : a'.tmps[64]? = some (.bool true) := hav.val 31 _ 64 rfl rfl d31
        refine .inl ⟨(wanted_at rfl rfl rfl g64).trans rfl, ?_⟩
        have e7 : a'.tmps[7]? = some (.pointer (some ⟨R, 0, none⟩)) := hav.oldAt 7 rfl
        unfold Oper.wp
        simpa [go_sem, updD, e7] using hws
      case o33 =>
        intro D a' V hD hdep hcl hav hws
        have d31 : D 31 = true := (by first | (refine hdep ⟨31, .data⟩ ?_ rfl; simp; done) | (refine hdep ⟨31, .guard⟩ ?_ rfl; simp; done) | (refine hdep ⟨31, .chain⟩ ?_ rfl; simp; done))
        have g64 : a'.tmps[64]? = some (.bool true) := hav.val 31 _ 64 rfl rfl d31
        refine .inl ⟨(wanted_at rfl rfl rfl g64).trans rfl, ?_⟩
        have d32 : D 32 = true := (by first | (refine hdep ⟨32, .data⟩ ?_ rfl; simp; done) | (refine hdep ⟨32, .guard⟩ ?_ rfl; simp; done) | (refine hdep ⟨32, .chain⟩ ?_ rfl; simp; done))
        have e65 : a'.tmps[65]? = some (.pointer (some ⟨R, 0, none⟩)) := hav.val 32 _ 65 rfl rfl d32
        have x0 := k0 V hws
        have x1 := k1' V hws
        have x2 := k2 V hws
        unfold Oper.wp
        simpa [go_sem, updD, e65, x0, x1, x2] using hws
      case o34 =>
        intro D a' V hD hdep hcl hav hws
        have d31 : D 31 = true := (by first | (refine hdep ⟨31, .data⟩ ?_ rfl; simp; done) | (refine hdep ⟨31, .guard⟩ ?_ rfl; simp; done) | (refine hdep ⟨31, .chain⟩ ?_ rfl; simp; done))
        have g64 : a'.tmps[64]? = some (.bool true) := hav.val 31 _ 64 rfl rfl d31
        refine .inl ⟨(wanted_at rfl rfl rfl g64).trans rfl, ?_⟩
        have e6 : a'.tmps[6]? = some (.pointer (some ⟨P, 0, none⟩)) := hav.oldAt 6 rfl
        unfold Oper.wp
        simpa [go_sem, updD, e6] using hws
      case o35 =>
        intro D a' V hD hdep hcl hav hws
        have d31 : D 31 = true := (by first | (refine hdep ⟨31, .data⟩ ?_ rfl; simp; done) | (refine hdep ⟨31, .guard⟩ ?_ rfl; simp; done) | (refine hdep ⟨31, .chain⟩ ?_ rfl; simp; done))
        have g64 : a'.tmps[64]? = some (.bool true) := hav.val 31 _ 64 rfl rfl d31
        refine .inl ⟨(wanted_at rfl rfl rfl g64).trans rfl, ?_⟩
        have d34 : D 34 = true := (by first | (refine hdep ⟨34, .data⟩ ?_ rfl; simp; done) | (refine hdep ⟨34, .guard⟩ ?_ rfl; simp; done) | (refine hdep ⟨34, .chain⟩ ?_ rfl; simp; done))
        have e67 : a'.tmps[67]? = some (.pointer (some ⟨P, 0, none⟩)) := hav.val 34 _ 67 rfl rfl d34
        have x0 := l0 V hws
        have x1 := l1 V hws
        have x2 := l2 V hws
        unfold Oper.wp
        simpa [go_sem, updD, e67, x0, x1, x2] using hws
      case o36 =>
        intro D a' V hD hdep hcl hav hws
        have d31 : D 31 = true := (by first | (refine hdep ⟨31, .data⟩ ?_ rfl; simp; done) | (refine hdep ⟨31, .guard⟩ ?_ rfl; simp; done) | (refine hdep ⟨31, .chain⟩ ?_ rfl; simp; done))
        have g64 : a'.tmps[64]? = some (.bool true) := hav.val 31 _ 64 rfl rfl d31
        refine .inl ⟨(wanted_at rfl rfl rfl g64).trans rfl, ?_⟩
        have d35 : D 35 = true := (by first | (refine hdep ⟨35, .data⟩ ?_ rfl; simp; done) | (refine hdep ⟨35, .guard⟩ ?_ rfl; simp; done) | (refine hdep ⟨35, .chain⟩ ?_ rfl; simp; done))
        have e68 : a'.tmps[68]? = some (.int .i64 (p0 : Nat)) := hav.val 35 _ 68 rfl rfl d35
        unfold Oper.wp
        simpa [go_sem, updD, e68, HW3.out] using hws
      case o37 =>
        intro D a' V hD hdep hcl hav hws
        have d31 : D 31 = true := (by first | (refine hdep ⟨31, .data⟩ ?_ rfl; simp; done) | (refine hdep ⟨31, .guard⟩ ?_ rfl; simp; done) | (refine hdep ⟨31, .chain⟩ ?_ rfl; simp; done))
        have g64 : a'.tmps[64]? = some (.bool true) := hav.val 31 _ 64 rfl rfl d31
        refine .inl ⟨(wanted_at rfl rfl rfl g64).trans rfl, ?_⟩
        have d33 : D 33 = true := (by first | (refine hdep ⟨33, .data⟩ ?_ rfl; simp; done) | (refine hdep ⟨33, .guard⟩ ?_ rfl; simp; done) | (refine hdep ⟨33, .chain⟩ ?_ rfl; simp; done))
        have e66 : a'.tmps[66]? = some (.int .i64 (q0 : Nat)) := hav.val 33 _ 66 rfl rfl d33
        have d36 : D 36 = true := (by first | (refine hdep ⟨36, .data⟩ ?_ rfl; simp; done) | (refine hdep ⟨36, .guard⟩ ?_ rfl; simp; done) | (refine hdep ⟨36, .chain⟩ ?_ rfl; simp; done))
        have e69 : a'.tmps[69]? = some (.int .i64 (IntKind.i64.wrap ((p0 : Int) + 1))) := hav.val 36 _ 69 rfl rfl d36
        unfold Oper.wp
        simpa [go_sem, updD, e66, e69, E3, E3w] using hws
      case o38 =>
        intro D a' V hD hdep hcl hav hws
        have d31 : D 31 = true := (by first | (refine hdep ⟨31, .data⟩ ?_ rfl; simp; done) | (refine hdep ⟨31, .guard⟩ ?_ rfl; simp; done) | (refine hdep ⟨31, .chain⟩ ?_ rfl; simp; done))
        have g64 : a'.tmps[64]? = some (.bool true) := hav.val 31 _ 64 rfl rfl d31
        refine .inl ⟨(wanted_at rfl rfl rfl g64).trans rfl, ?_⟩
        have e3 : a'.tmps[3]? = some (.pointer (some ⟨w.heap.size, 0, none⟩)) := hav.oldAt 3 rfl
        unfold Oper.wp
        simpa [go_sem, updD, e3] using hws
      case o39 =>
        intro D a' V hD hdep hcl hav hws
        have d31 : D 31 = true := (by first | (refine hdep ⟨31, .data⟩ ?_ rfl; simp; done) | (refine hdep ⟨31, .guard⟩ ?_ rfl; simp; done) | (refine hdep ⟨31, .chain⟩ ?_ rfl; simp; done))
        have g64 : a'.tmps[64]? = some (.bool true) := hav.val 31 _ 64 rfl rfl d31
        refine .inl ⟨(wanted_at rfl rfl rfl g64).trans rfl, ?_⟩
        have d38 : D 38 = true := (by first | (refine hdep ⟨38, .data⟩ ?_ rfl; simp; done) | (refine hdep ⟨38, .guard⟩ ?_ rfl; simp; done) | (refine hdep ⟨38, .chain⟩ ?_ rfl; simp; done))
        have e71 : a'.tmps[71]? = some (.pointer (some ⟨w.heap.size, 3, none⟩)) := hav.val 38 _ 71 rfl rfl d38
        have x3 := n3 V hws
        unfold Oper.wp
        simpa [go_sem, updD, e71, x3] using hws
      case o40 =>
        intro D a' V hD hdep hcl hav hws
        have d31 : D 31 = true := (by first | (refine hdep ⟨31, .data⟩ ?_ rfl; simp; done) | (refine hdep ⟨31, .guard⟩ ?_ rfl; simp; done) | (refine hdep ⟨31, .chain⟩ ?_ rfl; simp; done))
        have g64 : a'.tmps[64]? = some (.bool true) := hav.val 31 _ 64 rfl rfl d31
        refine .inl ⟨(wanted_at rfl rfl rfl g64).trans rfl, ?_⟩
        have d39 : D 39 = true := (by first | (refine hdep ⟨39, .data⟩ ?_ rfl; simp; done) | (refine hdep ⟨39, .guard⟩ ?_ rfl; simp; done) | (refine hdep ⟨39, .chain⟩ ?_ rfl; simp; done))
        have e72 : a'.tmps[72]? = some (.int .i64 2) := hav.val 39 _ 72 rfl rfl d39
        unfold Oper.wp
        simpa [go_sem, updD, e72, G0] using hws
      case o41 =>
        intro D a' V hD hdep hcl hav hws
        have d31 : D 31 = true := (by first | (refine hdep ⟨31, .data⟩ ?_ rfl; simp; done) | (refine hdep ⟨31, .guard⟩ ?_ rfl; simp; done) | (refine hdep ⟨31, .chain⟩ ?_ rfl; simp; done))
        have g64 : a'.tmps[64]? = some (.bool true) := hav.val 31 _ 64 rfl rfl d31
        refine .inl ⟨(wanted_at rfl rfl rfl g64).trans rfl, ?_⟩
        have d37 : D 37 = true := (by first | (refine hdep ⟨37, .data⟩ ?_ rfl; simp; done) | (refine hdep ⟨37, .guard⟩ ?_ rfl; simp; done) | (refine hdep ⟨37, .chain⟩ ?_ rfl; simp; done))
        have e70 : a'.tmps[70]? = some (.bool false) := hav.val 37 _ 70 rfl rfl d37
        have d40 : D 40 = true := (by first | (refine hdep ⟨40, .data⟩ ?_ rfl; simp; done) | (refine hdep ⟨40, .guard⟩ ?_ rfl; simp; done) | (refine hdep ⟨40, .chain⟩ ?_ rfl; simp; done))
        have e73 : a'.tmps[73]? = some (.bool false) := hav.val 40 _ 73 rfl rfl d40
        unfold Oper.wp
        simpa [go_sem, updD, e70, e73] using hws
      case o42 =>
        intro D a' V hD hdep hcl hav hws
        refine .inl ⟨rfl, ?_⟩
        have d31 : D 31 = true := (by first | (refine hdep ⟨31, .data⟩ ?_ rfl; simp; done) | (refine hdep ⟨31, .guard⟩ ?_ rfl; simp; done) | (refine hdep ⟨31, .chain⟩ ?_ rfl; simp; done))
        have e64 : a'.tmps[64]? = some (.bool true) := hav.val 31 _ 64 rfl rfl d31
        have d41 : D 41 = true := (by first | (refine hdep ⟨41, .data⟩ ?_ rfl; simp; done) | (refine hdep ⟨41, .guard⟩ ?_ rfl; simp; done) | (refine hdep ⟨41, .chain⟩ ?_ rfl; simp; done))
        have e74 : a'.tmps[74]? = some (.bool true) := hav.val 41 _ 74 rfl rfl d41
        unfold Oper.wp
        simpa [go_sem, updD, e64, e74] using hws
      case o43 =>
        intro D a' V hD hdep hcl hav hws
        refine .inl ⟨rfl, ?_⟩
        have d42 : D 42 = true := (by first | (refine hdep ⟨42, .data⟩ ?_ rfl; simp; done) | (refine hdep ⟨42, .guard⟩ ?_ rfl; simp; done) | (refine hdep ⟨42, .chain⟩ ?_ rfl; simp; done))
        have e75 : a'.tmps[75]? = some (.bool true) := hav.val 42 _ 75 rfl rfl d42
        unfold Oper.wp
        simpa [go_sem, updD, e75] using hws
      case fin =>
        intro a' V hav hws
        have ha' := hav.final rfl
        subst ha'
        simp only [putAll, Act.put, List.setIfInBounds_toArray, List.set_cons_succ, List.set_cons_zero]
        clear hav
        go_wp2_with fail
        go_ret
        exact ⟨ret_bool (by first | rfl | simp), later BW.out hws⟩
    have G0 : (vv == 0) = false := by rw [beq_eq_false_iff_ne]; exact v0
    have G1 : (vv == 1) = false := by rw [beq_eq_false_iff_ne]; exact v1
    rw [if_neg v0, Nat.add_zero] at g0
    rw [if_neg v1, Nat.add_zero] at g1
    rw [if_neg v2, Nat.add_zero] at g2
    subst g0 g1 g2
    by_cases vn : vv < 0
    · have d0 : decide (vv ≥ 0) = false := by simp; omega
      have E1 : (((p0 : Int) + (p1 : Int) + (p2 : Int)) == ((p0 : Int) + (p1 : Int) + (p2 : Int) + 1)) = false := by rw [beq_eq_false_iff_ne]; omega
      have E1w : (((p0 : Int) + (p1 : Int) + (p2 : Int)) == IntKind.i64.wrap ((p0 : Int) + (p1 : Int) + (p2 : Int) + 1)) = false := by rw [HW1.out]; exact E1
      have E2 : ((p1 : Int) == (p1 : Int) + 1) = false := by rw [beq_eq_false_iff_ne]; omega
      have E2w : ((p1 : Int) == IntKind.i64.wrap ((p1 : Int) + 1)) = false := by rw [HW2.out]; exact E2
      have E3 : ((p0 : Int) == (p0 : Int) + 1) = false := by rw [beq_eq_false_iff_ne]; omega
      have E3w : ((p0 : Int) == IntKind.i64.wrap ((p0 : Int) + 1)) = false := by rw [HW3.out]; exact E3
      clear v0 v1 v2 vn
      go_wp2_with fail
      refine wp_region_sg (by kernel_rfl) (fun i => match i with | 0 => .bool true | 1 => .bool true | 2 => .agg #[.int .i64 p0, .int .i64 p1, .int .i64 p2] | 3 => .int .i64 ((p0 : Int) + (p1 : Int) + (p2 : Int)) | 4 => .agg #[.int .i64 p0, .int .i64 p1, .int .i64 p2] | 5 => .int .i64 ((p0 : Int) + (p1 : Int) + (p2 : Int)) | 6 => .int .i64 (IntKind.i64.wrap ((p0 : Int) + (p1 : Int) + (p2 : Int) + 1)) | 7 => .bool false | 8 => .bool false | 9 => .bool true | 10 => .bool true | 11 => .bool true | 12 => .bool false | 13 => .bool false | 14 => .agg #[.int .i64 p0, .int .i64 p1, .int .i64 p2] | 15 => .agg #[.int .i64 p0, .int .i64 p1, .int .i64 p2] | 16 => .bool true | 17 => .bool true | 18 => .bool true | 19 => .bool true | 20 => .pointer (some ⟨R, 1, none⟩) | 21 => .int .i64 (p1 : Nat) | 22 => .pointer (some ⟨P, 1, none⟩) | 23 => .int .i64 (p1 : Nat) | 24 => .int .i64 (IntKind.i64.wrap ((p1 : Int) + 1)) | 25 => .bool false | 26 => .pointer (some ⟨w.heap.size, 3, none⟩) | 27 => .int .i64 vv | 28 => .bool false | 29 => .bool true | 30 => .bool true | 31 => .bool true | 32 => .pointer (some ⟨R, 0, none⟩) | 33 => .int .i64 (p0 : Nat) | 34 => .pointer (some ⟨P, 0, none⟩) | 35 => .int .i64 (p0 : Nat) | 36 => .int .i64 (IntKind.i64.wrap ((p0 : Int) + 1)) | 37 => .bool false | 38 => .pointer (some ⟨w.heap.size, 3, none⟩) | 39 => .int .i64 vv | 40 => .bool false | 41 => .bool true | 42 => .bool true | 43 => .bool true | _ => undef)
        (fun D V => Below W.heap.size W V) rfl ⟨rfl, rfl, rfl, Nat.le_refl _, fun _ _ => rfl⟩ ⟨?o0, ?o1, ?o2, ?o3, ?o4, ?o5, ?o6, ?o7, ?o8, ?o9, ?o10, ?o11, ?o12, ?o13, ?o14, ?o15, ?o16, ?o17, ?o18, ?o19, ?o20, ?o21, ?o22, ?o23, ?o24, ?o25, ?o26, ?o27, ?o28, ?o29, ?o30, ?o31, ?o32, ?o33, ?o34, ?o35, ?o36, ?o37, ?o38, ?o39, ?o40, ?o41, ?o42, ?o43, trivial⟩ ?fin
      case o0 =>
        intro D a' V hD hdep hcl hav hws
        refine .inl ⟨rfl, ?_⟩
        have e5 : a'.tmps[5]? = some (.bool true) := hav.oldAt 5 rfl
        unfold Oper.wp
        simpa [go_sem, updD, e5] using hws
      case o1 =>
        intro D a' V hD hdep hcl hav hws
        refine .inl ⟨rfl, ?_⟩
        have d0 : D 0 = true := (by first | (refine hdep ⟨0, .data⟩ ?_ rfl; simp; done) | (refine hdep ⟨0, .guard⟩ ?_ rfl; simp; done) | (refine hdep ⟨0, .chain⟩ ?_ rfl; simp; done))
        have e33 : a'.tmps[33]? = some (.bool true) := hav.val 0 _ 33 rfl rfl d0
        unfold Oper.wp
        simpa [go_sem, updD, e33] using hws
      case o2 =>
        intro D a' V hD hdep hcl hav hws
        have d1 : D 1 = true := (by first | (refine hdep ⟨1, .data⟩ ?_ rfl; simp; done) | (refine hdep ⟨1, .guard⟩ ?_ rfl; simp; done) | (refine hdep ⟨1, .chain⟩ ?_ rfl; simp; done))
        have g34 : a'.tmps[34]? = some (.bool true) := hav.val 1 _ 34 rfl rfl d1
        refine .inl ⟨(wanted_at rfl rfl rfl g34).trans rfl, ?_⟩
        have e7 : a'.tmps[7]? = some (.pointer (some ⟨R, 0, none⟩)) := hav.oldAt 7 rfl
        have x0 := k0 V hws
        have x1 := k1' V hws
        have x2 := k2 V hws
        unfold Oper.wp
        simpa [go_sem, updD, e7, x0, x1, x2] using hws
      case o3 =>
        intro D a' V hD hdep hcl hav hws
        have d1 : D 1 = true := (by first | (refine hdep ⟨1, .data⟩ ?_ rfl; simp; done) | (refine hdep ⟨1, .guard⟩ ?_ rfl; simp; done) | (refine hdep ⟨1, .chain⟩ ?_ rfl; simp; done))
        have g34 : a'.tmps[34]? = some (.bool true) := hav.val 1 _ 34 rfl rfl d1
        refine .inl ⟨(wanted_at rfl rfl rfl g34).trans rfl, ?_⟩
        have d2 : D 2 = true := (by first | (refine hdep ⟨2, .data⟩ ?_ rfl; simp; done) | (refine hdep ⟨2, .guard⟩ ?_ rfl; simp; done) | (refine hdep ⟨2, .chain⟩ ?_ rfl; simp; done))
        have e35 : a'.tmps[35]? = some (.agg #[.int .i64 p0, .int .i64 p1, .int .i64 p2]) := hav.val 2 _ 35 rfl rfl d2
        unfold Oper.wp
        simp [go_sem, e35]
        refine (TB.out V).mono ?_
        rintro e V' ⟨rfl, hb⟩
        exact ⟨rfl, hws.trans (hb.mono hws.size)⟩
      case o4 =>
        intro D a' V hD hdep hcl hav hws
        have d1 : D 1 = true := (by first | (refine hdep ⟨1, .data⟩ ?_ rfl; simp; done) | (refine hdep ⟨1, .guard⟩ ?_ rfl; simp; done) | (refine hdep ⟨1, .chain⟩ ?_ rfl; simp; done))
        have g34 : a'.tmps[34]? = some (.bool true) := hav.val 1 _ 34 rfl rfl d1
        refine .inl ⟨(wanted_at rfl rfl rfl g34).trans rfl, ?_⟩
        have e6 : a'.tmps[6]? = some (.pointer (some ⟨P, 0, none⟩)) := hav.oldAt 6 rfl
        have x0 := l0 V hws
        have x1 := l1 V hws
        have x2 := l2 V hws
        unfold Oper.wp
        simpa [go_sem, updD, e6, x0, x1, x2] using hws
      case o5 =>
        intro D a' V hD hdep hcl hav hws
        have d1 : D 1 = true := (by first | (refine hdep ⟨1, .data⟩ ?_ rfl; simp; done) | (refine hdep ⟨1, .guard⟩ ?_ rfl; simp; done) | (refine hdep ⟨1, .chain⟩ ?_ rfl; simp; done))
        have g34 : a'.tmps[34]? = some (.bool true) := hav.val 1 _ 34 rfl rfl d1
        refine .inl ⟨(wanted_at rfl rfl rfl g34).trans rfl, ?_⟩
        have d4 : D 4 = true := (by first | (refine hdep ⟨4, .data⟩ ?_ rfl; simp; done) | (refine hdep ⟨4, .guard⟩ ?_ rfl; simp; done) | (refine hdep ⟨4, .chain⟩ ?_ rfl; simp; done))
        have e37 : a'.tmps[37]? = some (.agg #[.int .i64 p0, .int .i64 p1, .int .i64 p2]) := hav.val 4 _ 37 rfl rfl d4
        unfold Oper.wp
        simp [go_sem, e37]
        refine (TA.out V).mono ?_
        rintro e V' ⟨rfl, hb⟩
        exact ⟨rfl, hws.trans (hb.mono hws.size)⟩
      case o6 =>
        intro D a' V hD hdep hcl hav hws
        have d1 : D 1 = true := (by first | (refine hdep ⟨1, .data⟩ ?_ rfl; simp; done) | (refine hdep ⟨1, .guard⟩ ?_ rfl; simp; done) | (refine hdep ⟨1, .chain⟩ ?_ rfl; simp; done))
        have g34 : a'.tmps[34]? = some (.bool true) := hav.val 1 _ 34 rfl rfl d1
        refine .inl ⟨(wanted_at rfl rfl rfl g34).trans rfl, ?_⟩
        have d5 : D 5 = true := (by first | (refine hdep ⟨5, .data⟩ ?_ rfl; simp; done) | (refine hdep ⟨5, .guard⟩ ?_ rfl; simp; done) | (refine hdep ⟨5, .chain⟩ ?_ rfl; simp; done))
        have e38 : a'.tmps[38]? = some (.int .i64 ((p0 : Int) + (p1 : Int) + (p2 : Int))) := hav.val 5 _ 38 rfl rfl d5
        unfold Oper.wp
        simpa [go_sem, updD, e38, HW1.out] using hws
      case o7 =>
        intro D a' V hD hdep hcl hav hws
        have d1 : D 1 = true := (by first | (refine hdep ⟨1, .data⟩ ?_ rfl; simp; done) | (refine hdep ⟨1, .guard⟩ ?_ rfl; simp; done) | (refine hdep ⟨1, .chain⟩ ?_ rfl; simp; done))
        have g34 : a'.tmps[34]? = some (.bool true) := hav.val 1 _ 34 rfl rfl d1
        refine .inl ⟨(wanted_at rfl rfl rfl g34).trans rfl, ?_⟩
        have d3 : D 3 = true := (by first | (refine hdep ⟨3, .data⟩ ?_ rfl; simp; done) | (refine hdep ⟨3, .guard⟩ ?_ rfl; simp; done) | (refine hdep ⟨3, .chain⟩ ?_ rfl; simp; done))
        have e36 : a'.tmps[36]? = some (.int .i64 ((p0 : Int) + (p1 : Int) + (p2 : Int))) := hav.val 3 _ 36 rfl rfl d3
        have d6 : D 6 = true := (by first | (refine hdep ⟨6, .data⟩ ?_ rfl; simp; done) | (refine hdep ⟨6, .guard⟩ ?_ rfl; simp; done) | (refine hdep ⟨6, .chain⟩ ?_ rfl; simp; done))
        have e39 : a'.tmps[39]? = some (.int .i64 (IntKind.i64.wrap ((p0 : Int) + (p1 : Int) + (p2 : Int) + 1))) := hav.val 6 _ 39 rfl rfl d6
        unfold Oper.wp
        simpa [go_sem, updD, e36, e39, E1, E1w] using hws
      case o8 =>
        intro D a' V hD hdep hcl hav hws
        have d1 : D 1 = true := (by first | (refine hdep ⟨1, .data⟩ ?_ rfl; simp; done) | (refine hdep ⟨1, .guard⟩ ?_ rfl; simp; done) | (refine hdep ⟨1, .chain⟩ ?_ rfl; simp; done))
        have g34 : a'.tmps[34]? = some (.bool true) := hav.val 1 _ 34 rfl rfl d1
        refine .inl ⟨(wanted_at rfl rfl rfl g34).trans rfl, ?_⟩
        have e8 : a'.tmps[8]? = some (.bool false) := hav.oldAt 8 rfl
        unfold Oper.wp
        simpa [go_sem, updD, e8] using hws
      case o9 =>
        intro D a' V hD hdep hcl hav hws
        have d1 : D 1 = true := (by first | (refine hdep ⟨1, .data⟩ ?_ rfl; simp; done) | (refine hdep ⟨1, .guard⟩ ?_ rfl; simp; done) | (refine hdep ⟨1, .chain⟩ ?_ rfl; simp; done))
        have g34 : a'.tmps[34]? = some (.bool true) := hav.val 1 _ 34 rfl rfl d1
        refine .inl ⟨(wanted_at rfl rfl rfl g34).trans rfl, ?_⟩
        have d7 : D 7 = true := (by first | (refine hdep ⟨7, .data⟩ ?_ rfl; simp; done) | (refine hdep ⟨7, .guard⟩ ?_ rfl; simp; done) | (refine hdep ⟨7, .chain⟩ ?_ rfl; simp; done))
        have e40 : a'.tmps[40]? = some (.bool false) := hav.val 7 _ 40 rfl rfl d7
        have d8 : D 8 = true := (by first | (refine hdep ⟨8, .data⟩ ?_ rfl; simp; done) | (refine hdep ⟨8, .guard⟩ ?_ rfl; simp; done) | (refine hdep ⟨8, .chain⟩ ?_ rfl; simp; done))
        have e41 : a'.tmps[41]? = some (.bool false) := hav.val 8 _ 41 rfl rfl d8
        unfold Oper.wp
        simpa [go_sem, updD, e40, e41] using hws
      case o10 =>
        intro D a' V hD hdep hcl hav hws
        refine .inl ⟨rfl, ?_⟩
        have d1 : D 1 = true := (by first | (refine hdep ⟨1, .data⟩ ?_ rfl; simp; done) | (refine hdep ⟨1, .guard⟩ ?_ rfl; simp; done) | (refine hdep ⟨1, .chain⟩ ?_ rfl; simp; done))
        have e34 : a'.tmps[34]? = some (.bool true) := hav.val 1 _ 34 rfl rfl d1
        have d9 : D 9 = true := (by first | (refine hdep ⟨9, .data⟩ ?_ rfl; simp; done) | (refine hdep ⟨9, .guard⟩ ?_ rfl; simp; done) | (refine hdep ⟨9, .chain⟩ ?_ rfl; simp; done))
        have e42 : a'.tmps[42]? = some (.bool true) := hav.val 9 _ 42 rfl rfl d9
        unfold Oper.wp
        simpa [go_sem, updD, e34, e42] using hws
      case o11 =>
        intro D a' V hD hdep hcl hav hws
        refine .inl ⟨rfl, ?_⟩
        have d10 : D 10 = true := (by first | (refine hdep ⟨10, .data⟩ ?_ rfl; simp; done) | (refine hdep ⟨10, .guard⟩ ?_ rfl; simp; done) | (refine hdep ⟨10, .chain⟩ ?_ rfl; simp; done))
        have e43 : a'.tmps[43]? = some (.bool true) := hav.val 10 _ 43 rfl rfl d10
        unfold Oper.wp
        simpa [go_sem, updD, e43] using hws
      case o12 =>
        intro D a' V hD hdep hcl hav hws
        have d11 : D 11 = true := (by first | (refine hdep ⟨11, .data⟩ ?_ rfl; simp; done) | (refine hdep ⟨11, .guard⟩ ?_ rfl; simp; done) | (refine hdep ⟨11, .chain⟩ ?_ rfl; simp; done))
        have g44 : a'.tmps[44]? = some (.bool true) := hav.val 11 _ 44 rfl rfl d11
        refine .inl ⟨(wanted_at rfl rfl rfl g44).trans rfl, ?_⟩
        have e8 : a'.tmps[8]? = some (.bool false) := hav.oldAt 8 rfl
        unfold Oper.wp
        simpa [go_sem, updD, e8] using hws
      case o13 =>
        intro D a' V hD hdep hcl hav hws
        have d11 : D 11 = true := (by first | (refine hdep ⟨11, .data⟩ ?_ rfl; simp; done) | (refine hdep ⟨11, .guard⟩ ?_ rfl; simp; done) | (refine hdep ⟨11, .chain⟩ ?_ rfl; simp; done))
        have g44 : a'.tmps[44]? = some (.bool true) := hav.val 11 _ 44 rfl rfl d11
        refine .inl ⟨(wanted_at rfl rfl rfl g44).trans rfl, ?_⟩
        have d12 : D 12 = true := (by first | (refine hdep ⟨12, .data⟩ ?_ rfl; simp; done) | (refine hdep ⟨12, .guard⟩ ?_ rfl; simp; done) | (refine hdep ⟨12, .chain⟩ ?_ rfl; simp; done))
        have e45 : a'.tmps[45]? = some (.bool false) := hav.val 12 _ 45 rfl rfl d12
        unfold Oper.wp
        simpa [go_sem, updD, e45] using hws
      case o14 =>
        intro D a' V hD hdep hcl hav hws
        have d13 : D 13 = true := (by first | (refine hdep ⟨13, .data⟩ ?_ rfl; simp; done) | (refine hdep ⟨13, .guard⟩ ?_ rfl; simp; done) | (refine hdep ⟨13, .chain⟩ ?_ rfl; simp; done))
        have g46 : a'.tmps[46]? = some (.bool false) := hav.val 13 _ 46 rfl rfl d13
        refine .inl ⟨(wanted_at rfl rfl rfl g46).trans rfl, ?_⟩
        have e6 : a'.tmps[6]? = some (.pointer (some ⟨P, 0, none⟩)) := hav.oldAt 6 rfl
        have x0 := l0 V hws
        have x1 := l1 V hws
        have x2 := l2 V hws
        unfold Oper.wp
        simpa [go_sem, updD, e6, x0, x1, x2] using hws
      case o15 =>
        intro D a' V hD hdep hcl hav hws
        have d13 : D 13 = true := (by first | (refine hdep ⟨13, .data⟩ ?_ rfl; simp; done) | (refine hdep ⟨13, .guard⟩ ?_ rfl; simp; done) | (refine hdep ⟨13, .chain⟩ ?_ rfl; simp; done))
        have g46 : a'.tmps[46]? = some (.bool false) := hav.val 13 _ 46 rfl rfl d13
        refine .inl ⟨(wanted_at rfl rfl rfl g46).trans rfl, ?_⟩
        have e7 : a'.tmps[7]? = some (.pointer (some ⟨R, 0, none⟩)) := hav.oldAt 7 rfl
        have x0 := k0 V hws
        have x1 := k1' V hws
        have x2 := k2 V hws
        unfold Oper.wp
        simpa [go_sem, updD, e7, x0, x1, x2] using hws
      case o16 =>
        intro D a' V hD hdep hcl hav hws
        have d13 : D 13 = true := (by first | (refine hdep ⟨13, .data⟩ ?_ rfl; simp; done) | (refine hdep ⟨13, .guard⟩ ?_ rfl; simp; done) | (refine hdep ⟨13, .chain⟩ ?_ rfl; simp; done))
        have g46 : a'.tmps[46]? = some (.bool false) := hav.val 13 _ 46 rfl rfl d13
        refine .inl ⟨(wanted_at rfl rfl rfl g46).trans rfl, ?_⟩
        have d14 : D 14 = true := (by first | (refine hdep ⟨14, .data⟩ ?_ rfl; simp; done) | (refine hdep ⟨14, .guard⟩ ?_ rfl; simp; done) | (refine hdep ⟨14, .chain⟩ ?_ rfl; simp; done))
        have e47 : a'.tmps[47]? = some (.agg #[.int .i64 p0, .int .i64 p1, .int .i64 p2]) := hav.val 14 _ 47 rfl rfl d14
        have d15 : D 15 = true := (by first | (refine hdep ⟨15, .data⟩ ?_ rfl; simp; done) | (refine hdep ⟨15, .guard⟩ ?_ rfl; simp; done) | (refine hdep ⟨15, .chain⟩ ?_ rfl; simp; done))
        have e48 : a'.tmps[48]? = some (.agg #[.int .i64 p0, .int .i64 p1, .int .i64 p2]) := hav.val 15 _ 48 rfl rfl d15
        unfold Oper.wp
        simpa [go_sem, updD, e47, e48] using hws
      case o17 =>
        intro D a' V hD hdep hcl hav hws
        have d11 : D 11 = true := (by first | (refine hdep ⟨11, .data⟩ ?_ rfl; simp; done) | (refine hdep ⟨11, .guard⟩ ?_ rfl; simp; done) | (refine hdep ⟨11, .chain⟩ ?_ rfl; simp; done))
        have g44 : a'.tmps[44]? = some (.bool true) := hav.val 11 _ 44 rfl rfl d11
        refine .inl ⟨(wanted_at rfl rfl rfl g44).trans rfl, ?_⟩
        have d13 : D 13 = true := (by first | (refine hdep ⟨13, .data⟩ ?_ rfl; simp; done) | (refine hdep ⟨13, .guard⟩ ?_ rfl; simp; done) | (refine hdep ⟨13, .chain⟩ ?_ rfl; simp; done))
        have e46 : a'.tmps[46]? = some (.bool false) := hav.val 13 _ 46 rfl rfl d13
        have d16 : D 16 = true := (by first | (refine hdep ⟨16, .data⟩ ?_ rfl; simp; done) | (refine hdep ⟨16, .guard⟩ ?_ rfl; simp; done) | (refine hdep ⟨16, .chain⟩ ?_ rfl; simp; done))
        have e49 : a'.tmps[49]? = some (.bool true) := hav.val 16 _ 49 rfl rfl d16
        unfold Oper.wp
        simpa [go_sem, updD, e46, e49] using hws
      case o18 =>
        intro D a' V hD hdep hcl hav hws
        refine .inl ⟨rfl, ?_⟩
        have d11 : D 11 = true := (by first | (refine hdep ⟨11, .data⟩ ?_ rfl; simp; done) | (refine hdep ⟨11, .guard⟩ ?_ rfl; simp; done) | (refine hdep ⟨11, .chain⟩ ?_ rfl; simp; done))
        have e44 : a'.tmps[44]? = some (.bool true) := hav.val 11 _ 44 rfl rfl d11
        have d17 : D 17 = true := (by first | (refine hdep ⟨17, .data⟩ ?_ rfl; simp; done) | (refine hdep ⟨17, .guard⟩ ?_ rfl; simp; done) | (refine hdep ⟨17, .chain⟩ ?_ rfl; simp; done))
        have e50 : a'.tmps[50]? = some (.bool true) := hav.val 17 _ 50 rfl rfl d17
        unfold Oper.wp
        simpa [go_sem, updD, e44, e50] using hws
      case o19 =>
        intro D a' V hD hdep hcl hav hws
        refine .inl ⟨rfl, ?_⟩
        have d18 : D 18 = true := (by first | (refine hdep ⟨18, .data⟩ ?_ rfl; simp; done) | (refine hdep ⟨18, .guard⟩ ?_ rfl; simp; done) | (refine hdep ⟨18, .chain⟩ ?_ rfl; simp; done))
        have e51 : a'.tmps[51]? = some (.bool true) := hav.val 18 _ 51 rfl rfl d18
        unfold Oper.wp
        simpa [go_sem, updD, e51] using hws
      case o20 =>
        intro D a' V hD hdep hcl hav hws
        have d19 : D 19 = true := (by first | (refine hdep ⟨19, .data⟩ ?_ rfl; simp; done) | (refine hdep ⟨19, .guard⟩ ?_ rfl; simp; done) | (refine hdep ⟨19, .chain⟩ ?_ rfl; simp; done))
        have g52 : a'.tmps[52]? = some (.bool true) := hav.val 19 _ 52 rfl rfl d19
        refine .inl ⟨(wanted_at rfl rfl rfl g52).trans rfl, ?_⟩
        have e7 : a'.tmps[7]? = some (.pointer (some ⟨R, 0, none⟩)) := hav.oldAt 7 rfl
        unfold Oper.wp
        simpa [go_sem, updD, e7] using hws
      case o21 =>
        intro D a' V hD hdep hcl hav hws
        have d19 : D 19 = true := (by first | (refine hdep ⟨19, .data⟩ ?_ rfl; simp; done) | (refine hdep ⟨19, .guard⟩ ?_ rfl; simp; done) | (refine hdep ⟨19, .chain⟩ ?_ rfl; simp; done))
        have g52 : a'.tmps[52]? = some (.bool true) := hav.val 19 _ 52 rfl rfl d19
        refine .inl ⟨(wanted_at rfl rfl rfl g52).trans rfl, ?_⟩
        have d20 : D 20 = true := (by first | (refine hdep ⟨20, .data⟩ ?_ rfl; simp; done) | (refine hdep ⟨20, .guard⟩ ?_ rfl; simp; done) | (refine hdep ⟨20, .chain⟩ ?_ rfl; simp; done))
        have e53 : a'.tmps[53]? = some (.pointer (some ⟨R, 1, none⟩)) := hav.val 20 _ 53 rfl rfl d20
        have x0 := k0 V hws
        have x1 := k1' V hws
        have x2 := k2 V hws
        unfold Oper.wp
        simpa [go_sem, updD, e53, x0, x1, x2] using hws
      case o22 =>
        intro D a' V hD hdep hcl hav hws
        have d19 : D 19 = true := (by first | (refine hdep ⟨19, .data⟩ ?_ rfl; simp; done) | (refine hdep ⟨19, .guard⟩ ?_ rfl; simp; done) | (refine hdep ⟨19, .chain⟩ ?_ rfl; simp; done))
        have g52 : a'.tmps[52]? = some (.bool true) := hav.val 19 _ 52 rfl rfl d19
        refine .inl ⟨(wanted_at rfl rfl rfl g52).trans rfl, ?_⟩
        have e6 : a'.tmps[6]? = some (.pointer (some ⟨P, 0, none⟩)) := hav.oldAt 6 rfl
        unfold Oper.wp
        simpa [go_sem, updD, e6] using hws
      case o23 =>
        intro D a' V hD hdep hcl hav hws
        have d19 : D 19 = true := (by first | (refine hdep ⟨19, .data⟩ ?_ rfl; simp; done) | (refine hdep ⟨19, .guard⟩ ?_ rfl; simp; done) | (refine hdep ⟨19, .chain⟩ ?_ rfl; simp; done))
        have g52 : a'.tmps[52]? = some (.bool true) := hav.val 19 _ 52 rfl rfl d19
        refine .inl ⟨(wanted_at rfl rfl rfl g52).trans rfl, ?_⟩
        have d22 : D 22 = true := (by first | (refine hdep ⟨22, .data⟩ ?_ rfl; simp; done) | (refine hdep ⟨22, .guard⟩ ?_ rfl; simp; done) | (refine hdep ⟨22, .chain⟩ ?_ rfl; simp; done))
        have e55 : a'.tmps[55]? = some (.pointer (some ⟨P, 1, none⟩)) := hav.val 22 _ 55 rfl rfl d22
        have x0 := l0 V hws
        have x1 := l1 V hws
        have x2 := l2 V hws
        unfold Oper.wp
        simpa [go_sem, updD, e55, x0, x1, x2] using hws
      case o24 =>
        intro D a' V hD hdep hcl hav hws
        have d19 : D 19 = true := (by first | (refine hdep ⟨19, .data⟩ ?_ rfl; simp; done) | (refine hdep ⟨19, .guard⟩ ?_ rfl; simp; done) | (refine hdep ⟨19, .chain⟩ ?_ rfl; simp; done))
        have g52 : a'.tmps[52]? = some (.bool true) := hav.val 19 _ 52 rfl rfl d19
        refine .inl ⟨(wanted_at rfl rfl rfl g52).trans rfl, ?_⟩
        have d23 : D 23 = true := (by first | (refine hdep ⟨23, .data⟩ ?_ rfl; simp; done) | (refine hdep ⟨23, .guard⟩ ?_ rfl; simp; done) | (refine hdep ⟨23, .chain⟩ ?_ rfl; simp; done))
        have e56 : a'.tmps[56]? = some (.int .i64 (p1 : Nat)) := hav.val 23 _ 56 rfl rfl d23
        unfold Oper.wp
        simpa [go_sem, updD, e56, HW2.out] using hws
      case o25 =>
        intro D a' V hD hdep hcl hav hws
        have d19 : D 19 = true := (by first | (refine hdep ⟨19, .data⟩ ?_ rfl; simp; done) | (refine hdep ⟨19, .guard⟩ ?_ rfl; simp; done) | (refine hdep ⟨19, .chain⟩ ?_ rfl; simp; done))
        have g52 : a'.tmps[52]? = some (.bool true) := hav.val 19 _ 52 rfl rfl d19
        refine .inl ⟨(wanted_at rfl rfl rfl g52).trans rfl, ?_⟩
        have d21 : D 21 = true := (by first | (refine hdep ⟨21, .data⟩ ?_ rfl; simp; done) | (refine hdep ⟨21, .guard⟩ ?_ rfl; simp; done) | (refine hdep ⟨21, .chain⟩ ?_ rfl; simp; done))
        have e54 : a'.tmps[54]? = some (.int .i64 (p1 : Nat)) := hav.val 21 _ 54 rfl rfl d21
        have d24 : D 24 = true := (by first | (refine hdep ⟨24, .data⟩ ?_ rfl; simp; done) | (refine hdep ⟨24, .guard⟩ ?_ rfl; simp; done) | (refine hdep ⟨24, .chain⟩ ?_ rfl; simp; done))
        have e57 : a'.tmps[57]? = some (.int .i64 (IntKind.i64.wrap ((p1 : Int) + 1))) := hav.val 24 _ 57 rfl rfl d24
        unfold Oper.wp
        simpa [go_sem, updD, e54, e57, E2, E2w] using hws
      case o26 =>
        intro D a' V hD hdep hcl hav hws
        have d19 : D 19 = true := (by first | (refine hdep ⟨19, .data⟩ ?_ rfl; simp; done) | (refine hdep ⟨19, .guard⟩ ?_ rfl; simp; done) | (refine hdep ⟨19, .chain⟩ ?_ rfl; simp; done))
        have g52 : a'.tmps[52]? = some (.bool true) := hav.val 19 _ 52 rfl rfl d19
        refine .inl ⟨(wanted_at rfl rfl rfl g52).trans rfl, ?_⟩
        have e3 : a'.tmps[3]? = some (.pointer (some ⟨w.heap.size, 0, none⟩)) := hav.oldAt 3 rfl
        unfold Oper.wp
        simpa [go_sem, updD, e3] using hws
      case o27 =>
        intro D a' V hD hdep hcl hav hws
        have d19 : D 19 = true := (by first | (refine hdep ⟨19, .data⟩ ?_ rfl; simp; done) | (refine hdep ⟨19, .guard⟩ ?_ rfl; simp; done) | (refine hdep ⟨19, .chain⟩ ?_ rfl; simp; done))
        have g52 : a'.tmps[52]? = some (.bool true) := hav.val 19 _ 52 rfl rfl d19
        refine .inl ⟨(wanted_at rfl rfl rfl g52).trans rfl, ?_⟩
        have d26 : D 26 = true := (by first | (refine hdep ⟨26, .data⟩ ?_ rfl; simp; done) | (refine hdep ⟨26, .guard⟩ ?_ rfl; simp; done) | (refine hdep ⟨26, .chain⟩ ?_ rfl; simp; done))
        have e59 : a'.tmps[59]? = some (.pointer (some ⟨w.heap.size, 3, none⟩)) := hav.val 26 _ 59 rfl rfl d26
        have x3 := n3 V hws
        unfold Oper.wp
        simpa [go_sem, updD, e59, x3] using hws
      case o28 =>
        intro D a' V hD hdep hcl hav hws
        have d19 : D 19 = true := (by first | (refine hdep ⟨19, .data⟩ ?_ rfl; simp; done) | (refine hdep ⟨19, .guard⟩ ?_ rfl; simp; done) | (refine hdep ⟨19, .chain⟩ ?_ rfl; simp; done))
        have g52 : a'.tmps[52]? = some (.bool true) := hav.val 19 _ 52 rfl rfl d19
        refine .inl ⟨(wanted_at rfl rfl rfl g52).trans rfl, ?_⟩
        have d27 : D 27 = true := (by first | (refine hdep ⟨27, .data⟩ ?_ rfl; simp; done) | (refine hdep ⟨27, .guard⟩ ?_ rfl; simp; done) | (refine hdep ⟨27, .chain⟩ ?_ rfl; simp; done))
        have e60 : a'.tmps[60]? = some (.int .i64 vv) := hav.val 27 _ 60 rfl rfl d27
        unfold Oper.wp
        simpa [go_sem, updD, e60, G1] using hws
      case o29 =>
        intro D a' V hD hdep hcl hav hws
        have d19 : D 19 = true := (by first | (refine hdep ⟨19, .data⟩ ?_ rfl; simp; done) | (refine hdep ⟨19, .guard⟩ ?_ rfl; simp; done) | (refine hdep ⟨19, .chain⟩ ?_ rfl; simp; done))
        have g52 : a'.tmps[52]? = some (.bool true) := hav.val 19 _ 52 rfl rfl d19
        refine .inl ⟨(wanted_at rfl rfl rfl g52).trans rfl, ?_⟩
        have d25 : D 25 = true := (by first | (refine hdep ⟨25, .data⟩ ?_ rfl; simp; done) | (refine hdep ⟨25, .guard⟩ ?_ rfl; simp; done) | (refine hdep ⟨25, .chain⟩ ?_ rfl; simp; done))
        have e58 : a'.tmps[58]? = some (.bool false) := hav.val 25 _ 58 rfl rfl d25
        have d28 : D 28 = true := (by first | (refine hdep ⟨28, .data⟩ ?_ rfl; simp; done) | (refine hdep ⟨28, .guard⟩ ?_ rfl; simp; done) | (refine hdep ⟨28, .chain⟩ ?_ rfl; simp; done))
        have e61 : a'.tmps[61]? = some (.bool false) := hav.val 28 _ 61 rfl rfl d28
        unfold Oper.wp
        simpa [go_sem, updD, e58, e61] using hws
      case o30 =>
        intro D a' V hD hdep hcl hav hws
        refine .inl ⟨rfl, ?_⟩
        have d19 : D 19 = true := (by first | (refine hdep ⟨19, .data⟩ ?_ rfl; simp; done) | (refine hdep ⟨19, .guard⟩ ?_ rfl; simp; done) | (refine hdep ⟨19, .chain⟩ ?_ rfl; simp; done))
        have e52 : a'.tmps[52]? = some (.bool true) := hav.val 19 _ 52 rfl rfl d19
        have d29 : D 29 = true := (by first | (refine hdep ⟨29, .data⟩ ?_ rfl; simp; done) | (refine hdep ⟨29, .guard⟩ ?_ rfl; simp; done) | (refine hdep ⟨29, .chain⟩ ?_ rfl; simp; done))
        have e62 : a'.tmps[62]? = some (.bool true) := hav.val 29 _ 62 rfl rfl d29
        unfold Oper.wp
        simpa [go_sem, updD, e52, e62] using hws
      case o31 =>
        intro D a' V hD hdep hcl hav hws
        refine .inl ⟨rfl, ?_⟩
        have d30 : D 30 = true := (by first | (refine hdep ⟨30, .data⟩ ?_ rfl; simp; done) | (refine hdep ⟨30, .guard⟩ ?_ rfl; simp; done) | (refine hdep ⟨30, .chain⟩ ?_ rfl; simp; done))
        have e63 : a'.tmps[63]? = some (.bool true) := hav.val 30 _ 63 rfl rfl d30
        unfold Oper.wp
        simpa [go_sem, updD, e63] using hws
      case o32 =>
        intro D a' V hD hdep hcl hav hws
        have d31 : D 31 = true := (by first | (refine hdep ⟨31, .data⟩ ?_ rfl; simp; done) | (refine hdep ⟨31, .guard⟩ ?_ rfl; simp; done) | (refine hdep ⟨31, .chain⟩ ?_ rfl; simp; done))
        have g64 : a'.tmps[64]? = some (.bool true) := hav.val 31 _ 64 rfl rfl d31
        refine .inl ⟨(wanted_at rfl rfl rfl g64).trans rfl, ?_⟩
        have e7 : a'.tmps[7]? = some (.pointer (some ⟨R, 0, none⟩)) := hav.oldAt 7 rfl
        unfold Oper.wp
        simpa [go_sem, updD, e7] using hws
      case o33 =>
        intro D a' V hD hdep hcl hav hws
        have d31 : D 31 = true := (by first | (refine hdep ⟨31, .data⟩ ?_ rfl; simp; done) | (refine hdep ⟨31, .guard⟩ ?_ rfl; simp; done) | (refine hdep ⟨31, .chain⟩ ?_ rfl; simp; done))
        have g64 : a'.tmps[64]? = some (.bool true) := hav.val 31 _ 64 rfl rfl d31
        refine .inl ⟨(wanted_at rfl rfl rfl g64).trans rfl, ?_⟩
        have d32 : D 32 = true := (by first | (refine hdep ⟨32, .data⟩ ?_ rfl; simp; done) | (refine hdep ⟨32, .guard⟩ ?_ rfl; simp; done) | (refine hdep ⟨32, .chain⟩ ?_ rfl; simp; done))
        have e65 : a'.tmps[65]? = some (.pointer (some ⟨R, 0, none⟩)) := hav.val 32 _ 65 rfl rfl d32
        have x0 := k0 V hws
        have x1 := k1' V hws
        have x2 := k2 V hws
        unfold Oper.wp
        simpa [go_sem, updD, e65, x0, x1, x2] using hws
      case o34 =>
        intro D a' V hD hdep hcl hav hws
        have d31 : D 31 = true := (by first | (refine hdep ⟨31, .data⟩ ?_ rfl; simp; done) | (refine hdep ⟨31, .guard⟩ ?_ rfl; simp; done) | (refine hdep ⟨31, .chain⟩ ?_ rfl; simp; done))
        have g64 : a'.tmps[64]? = some (.bool true) := hav.val 31 _ 64 rfl rfl d31
        refine .inl ⟨(wanted_at rfl rfl rfl g64).trans rfl, ?_⟩
        have e6 : a'.tmps[6]? = some (.pointer (some ⟨P, 0, none⟩)) := hav.oldAt 6 rfl
        unfold Oper.wp
        simpa [go_sem, updD, e6] using hws
      case o35 =>
        intro D a' V hD hdep hcl hav hws
        have d31 : D 31 = true := (by first | (refine hdep ⟨31, .data⟩ ?_ rfl; simp; done) | (refine hdep ⟨31, .guard⟩ ?_ rfl; simp; done) | (refine hdep ⟨31, .chain⟩ ?_ rfl; simp; done))
        have g64 : a'.tmps[64]? = some (.bool true) := hav.val 31 _ 64 rfl rfl d31
        refine .inl ⟨(wanted_at rfl rfl rfl g64).trans rfl, ?_⟩
        have d34 : D 34 = true := (by first | (refine hdep ⟨34, .data⟩ ?_ rfl; simp; done) | (refine hdep ⟨34, .guard⟩ ?_ rfl; simp; done) | (refine hdep ⟨34, .chain⟩ ?_ rfl; simp; done))
        have e67 : a'.tmps[67]? = some (.pointer (some ⟨P, 0, none⟩)) := hav.val 34 _ 67 rfl rfl d34
        have x0 := l0 V hws
        have x1 := l1 V hws
        have x2 := l2 V hws
        unfold Oper.wp
        simpa [go_sem, updD, e67, x0, x1, x2] using hws
      case o36 =>
        intro D a' V hD hdep hcl hav hws
        have d31 : D 31 = true := (by first | (refine hdep ⟨31, .data⟩ ?_ rfl; simp; done) | (refine hdep ⟨31, .guard⟩ ?_ rfl; simp; done) | (refine hdep ⟨31, .chain⟩ ?_ rfl; simp; done))
        have g64 : a'.tmps[64]? = some (.bool true) := hav.val 31 _ 64 rfl rfl d31
        refine .inl ⟨(wanted_at rfl rfl rfl g64).trans rfl, ?_⟩
        have d35 : D 35 = true := (by first | (refine hdep ⟨35, .data⟩ ?_ rfl; simp; done) | (refine hdep ⟨35, .guard⟩ ?_ rfl; simp; done) | (refine hdep ⟨35, .chain⟩ ?_ rfl; simp; done))
        have e68 : a'.tmps[68]? = some (.int .i64 (p0 : Nat)) := hav.val 35 _ 68 rfl rfl d35
        unfold Oper.wp
        simpa [go_sem, updD, e68, HW3.out] using hws
      case o37 =>
        intro D a' V hD hdep hcl hav hws
        have d31 : D 31 = true := (by first | (refine hdep ⟨31, .data⟩ ?_ rfl; simp; done) | (refine hdep ⟨31, .guard⟩ ?_ rfl; simp; done) | (refine hdep ⟨31, .chain⟩ ?_ rfl; simp; done))
        have g64 : a'.tmps[64]? = some (.bool true) := hav.val 31 _ 64 rfl rfl d31
        refine .inl ⟨(wanted_at rfl rfl rfl g64).trans rfl, ?_⟩
        have d33 : D 33 = true := (by first | (refine hdep ⟨33, .data⟩ ?_ rfl; simp; done) | (refine hdep ⟨33, .guard⟩ ?_ rfl; simp; done) | (refine hdep ⟨33, .chain⟩ ?_ rfl; simp; done))
        have e66 : a'.tmps[66]? = some (.int .i64 (p0 : Nat)) := hav.val 33 _ 66 rfl rfl d33
        have d36 : D 36 = true := (by first | (refine hdep ⟨36, .data⟩ ?_ rfl; simp; done) | (refine hdep ⟨36, .guard⟩ ?_ rfl; simp; done) | (refine hdep ⟨36, .chain⟩ ?_ rfl; simp; done))
        have e69 : a'.tmps[69]? = some (.int .i64 (IntKind.i64.wrap ((p0 : Int) + 1))) := hav.val 36 _ 69 rfl rfl d36
        unfold Oper.wp
        simpa [go_sem, updD, e66, e69, E3, E3w] using hws
      case o38 =>
        intro D a' V hD hdep hcl hav hws
        have d31 : D 31 = true := (by first | (refine hdep ⟨31, .data⟩ ?_ rfl; simp; done) | (refine hdep ⟨31, .guard⟩ ?_ rfl; simp; done) | (refine hdep ⟨31, .chain⟩ ?_ rfl; simp; done))
        have g64 : a'.tmps[64]? = some (.bool true) := hav.val 31 _ 64 rfl rfl d31
        refine .inl ⟨(wanted_at rfl rfl rfl g64).trans rfl, ?_⟩
        have e3 : a'.tmps[3]? = some (.pointer (some ⟨w.heap.size, 0, none⟩)) := hav.oldAt 3 rfl
        unfold Oper.wp
        simpa [go_sem, updD, e3] using hws
      case o39 =>
        intro D a' V hD hdep hcl hav hws
        have d31 : D 31 = true := (by first | (refine hdep ⟨31, .data⟩ ?_ rfl; simp; done) | (refine hdep ⟨31, .guard⟩ ?_ rfl; simp; done) | (refine hdep ⟨31, .chain⟩ ?_ rfl; simp; done))
        have g64 : a'.tmps[64]? = some (.bool true) := hav.val 31 _ 64 rfl rfl d31
        refine .inl ⟨(wanted_at rfl rfl rfl g64).trans rfl, ?_⟩
        have d38 : D 38 = true := (by first | (refine hdep ⟨38, .data⟩ ?_ rfl; simp; done) | (refine hdep ⟨38, .guard⟩ ?_ rfl; simp; done) | (refine hdep ⟨38, .chain⟩ ?_ rfl; simp; done))
        have e71 : a'.tmps[71]? = some (.pointer (some ⟨w.heap.size, 3, none⟩)) := hav.val 38 _ 71 rfl rfl d38
        have x3 := n3 V hws
        unfold Oper.wp
        simpa [go_sem, updD, e71, x3] using hws
      case o40 =>
        intro D a' V hD hdep hcl hav hws
        have d31 : D 31 = true := (by first | (refine hdep ⟨31, .data⟩ ?_ rfl; simp; done) | (refine hdep ⟨31, .guard⟩ ?_ rfl; simp; done) | (refine hdep ⟨31, .chain⟩ ?_ rfl; simp; done))
        have g64 : a'.tmps[64]? = some (.bool true) := hav.val 31 _ 64 rfl rfl d31
        refine .inl ⟨(wanted_at rfl rfl rfl g64).trans rfl, ?_⟩
        have d39 : D 39 = true := (by first | (refine hdep ⟨39, .data⟩ ?_ rfl; simp; done) | (refine hdep ⟨39, .guard⟩ ?_ rfl; simp; done) | (refine hdep ⟨39, .chain⟩ ?_ rfl; simp; done))
        have e72 : a'.tmps[72]? = some (.int .i64 vv) := hav.val 39 _ 72 rfl rfl d39
        unfold Oper.wp
        simpa [go_sem, updD, e72, G0] using hws
      case o41 =>
        intro D a' V hD hdep hcl hav hws
        have d31 : D 31 = true := (by first | (refine hdep ⟨31, .data⟩ ?_ rfl; simp; done) | (refine hdep ⟨31, .guard⟩ ?_ rfl; simp; done) | (refine hdep ⟨31, .chain⟩ ?_ rfl; simp; done))
        have g64 : a'.tmps[64]? = some (.bool true) := hav.val 31 _ 64 rfl rfl d31
        refine .inl ⟨(wanted_at rfl rfl rfl g64).trans rfl, ?_⟩
        have d37 : D 37 = true := (by first | (refine hdep ⟨37, .data⟩ ?_ rfl; simp; done) | (refine hdep ⟨37, .guard⟩ ?_ rfl; simp; done) | (refine hdep ⟨37, .chain⟩ ?_ rfl; simp; done))
        have e70 : a'.tmps[70]? = some (.bool false) := hav.val 37 _ 70 rfl rfl d37
        have d40 : D 40 = true := (by first | (refine hdep ⟨40, .data⟩ ?_ rfl; simp; done) | (refine hdep ⟨40, .guard⟩ ?_ rfl; simp; done) | (refine hdep ⟨40, .chain⟩ ?_ rfl; simp; done))
        have e73 : a'.tmps[73]? = some (.bool false) := hav.val 40 _ 73 rfl rfl d40
        unfold Oper.wp
        simpa [go_sem, updD, e70, e73] using hws
      case o42 =>
        intro D a' V hD hdep hcl hav hws
        refine .inl ⟨rfl, ?_⟩
        have d31 : D 31 = true := (by first | (refine hdep ⟨31, .data⟩ ?_ rfl; simp; done) | (refine hdep ⟨31, .guard⟩ ?_ rfl; simp; done) | (refine hdep ⟨31, .chain⟩ ?_ rfl; simp; done))
        have e64 : a'.tmps[64]? = some (.bool true) := hav.val 31 _ 64 rfl rfl d31
        have d41 : D 41 = true := (by first | (refine hdep ⟨41, .data⟩ ?_ rfl; simp; done) | (refine hdep ⟨41, .guard⟩ ?_ rfl; simp; done) | (refine hdep ⟨41, .chain⟩ ?_ rfl; simp; done))
        have e74 : a'.tmps[74]? = some (.bool true) := hav.val 41 _ 74 rfl rfl d41
        unfold Oper.wp
        simpa [go_sem, updD, e64, e74] using hws
      case o43 =>
        intro D a' V hD hdep hcl hav hws
        refine .inl ⟨rfl, ?_⟩
        have d42 : D 42 = true := (by first | (refine hdep ⟨42, .data⟩ ?_ rfl; simp; done) | (refine hdep ⟨42, .guard⟩ ?_ rfl; simp; done) | (refine hdep ⟨42, .chain⟩ ?_ rfl; simp; done))
        have e75 : a'.tmps[75]? = some (.bool true) := hav.val 42 _ 75 rfl rfl d42
        unfold Oper.wp
        simpa [go_sem, updD, e75] using hws
      case fin =>
        intro a' V hav hws
        have ha' := hav.final rfl
        subst ha'
        simp only [putAll, Act.put, List.setIfInBounds_toArray, List.set_cons_succ, List.set_cons_zero]
        clear hav
        go_wp2_with fail
        go_ret
        exact ⟨ret_bool (by first | rfl | simp), later BW.out hws⟩
    · have d0 : decide (vv ≥ 0) = true := by simp; omega
      have d2 : decide (vv ≤ 2) = false := by simp; omega
      have E1 : (((p0 : Int) + (p1 : Int) + (p2 : Int)) == ((p0 : Int) + (p1 : Int) + (p2 : Int) + 1)) = false := by rw [beq_eq_false_iff_ne]; omega
      have E1w : (((p0 : Int) + (p1 : Int) + (p2 : Int)) == IntKind.i64.wrap ((p0 : Int) + (p1 : Int) + (p2 : Int) + 1)) = false := by rw [HW1.out]; exact E1
      have E2 : ((p1 : Int) == (p1 : Int) + 1) = false := by rw [beq_eq_false_iff_ne]; omega
      have E2w : ((p1 : Int) == IntKind.i64.wrap ((p1 : Int) + 1)) = false := by rw [HW2.out]; exact E2
      have E3 : ((p0 : Int) == (p0 : Int) + 1) = false := by rw [beq_eq_false_iff_ne]; omega
      have E3w : ((p0 : Int) == IntKind.i64.wrap ((p0 : Int) + 1)) = false := by rw [HW3.out]; exact E3
      clear v0 v1 v2 vn
      go_wp2_with fail
      refine wp_region_sg (by kernel_rfl) (fun i => match i with | 0 => .bool true | 1 => .bool true | 2 => .agg #[.int .i64 p0, .int .i64 p1, .int .i64 p2] | 3 => .int .i64 ((p0 : Int) + (p1 : Int) + (p2 : Int)) | 4 => .agg #[.int .i64 p0, .int .i64 p1, .int .i64 p2] | 5 => .int .i64 ((p0 : Int) + (p1 : Int) + (p2 : Int)) | 6 => .int .i64 (IntKind.i64.wrap ((p0 : Int) + (p1 : Int) + (p2 : Int) + 1)) | 7 => .bool false | 8 => .bool false | 9 => .bool true | 10 => .bool true | 11 => .bool true | 12 => .bool false | 13 => .bool false | 14 => .agg #[.int .i64 p0, .int .i64 p1, .int .i64 p2] | 15 => .agg #[.int .i64 p0, .int .i64 p1, .int .i64 p2] | 16 => .bool true | 17 => .bool true | 18 => .bool true | 19 => .bool true | 20 => .pointer (some ⟨R, 1, none⟩) | 21 => .int .i64 (p1 : Nat) | 22 => .pointer (some ⟨P, 1, none⟩) | 23 => .int .i64 (p1 : Nat) | 24 => .int .i64 (IntKind.i64.wrap ((p1 : Int) + 1)) | 25 => .bool false | 26 => .pointer (some ⟨w.heap.size, 3, none⟩) | 27 => .int .i64 vv | 28 => .bool false | 29 => .bool true | 30 => .bool true | 31 => .bool true | 32 => .pointer (some ⟨R, 0, none⟩) | 33 => .int .i64 (p0 : Nat) | 34 => .pointer (some ⟨P, 0, none⟩) | 35 => .int .i64 (p0 : Nat) | 36 => .int .i64 (IntKind.i64.wrap ((p0 : Int) + 1)) | 37 => .bool false | 38 => .pointer (some ⟨w.heap.size, 3, none⟩) | 39 => .int .i64 vv | 40 => .bool false | 41 => .bool true | 42 => .bool true | 43 => .bool true | _ => undef)
        (fun D V => Below W.heap.size W V) rfl ⟨rfl, rfl, rfl, Nat.le_refl _, fun _ _ => rfl⟩ ⟨?o0, ?o1, ?o2, ?o3, ?o4, ?o5, ?o6, ?o7, ?o8, ?o9, ?o10, ?o11, ?o12, ?o13, ?o14, ?o15, ?o16, ?o17, ?o18, ?o19, ?o20, ?o21, ?o22, ?o23, ?o24, ?o25, ?o26, ?o27, ?o28, ?o29, ?o30, ?o31, ?o32, ?o33, ?o34, ?o35, ?o36, ?o37, ?o38, ?o39, ?o40, ?o41, ?o42, ?o43, trivial⟩ ?fin
      case o0 =>
        intro D a' V hD hdep hcl hav hws
        refine .inl ⟨rfl, ?_⟩
        have e5 : a'.tmps[5]? = some (.bool true) := hav.oldAt 5 rfl
        unfold Oper.wp
        simpa [go_sem, updD, e5] using hws
      case o1 =>
        intro D a' V hD hdep hcl hav hws
        refine .inl ⟨rfl, ?_⟩
        have d0 : D 0 = true := (by first | (refine hdep ⟨0, .data⟩ ?_ rfl; simp; done) | (refine hdep ⟨0, .guard⟩ ?_ rfl; simp; done) | (refine hdep ⟨0, .chain⟩ ?_ rfl; simp; done))
        have e33 : a'.tmps[33]? = some (.bool true) := hav.val 0 _ 33 rfl rfl d0
        unfold Oper.wp
        simpa [go_sem, updD, e33] using hws
      case o2 =>
        intro D a' V hD hdep hcl hav hws
        have d1 : D 1 = true := (by first | (refine hdep ⟨1, .data⟩ ?_ rfl; simp; done) | (refine hdep ⟨1, .guard⟩ ?_ rfl; simp; done) | (refine hdep ⟨1, .chain⟩ ?_ rfl; simp; done))
        have g34 : a'.tmps[34]? = some (.bool true) := hav.val 1 _ 34 rfl rfl d1
        refine .inl ⟨(wanted_at rfl rfl rfl g34).trans rfl, ?_⟩
        have e7 : a'.tmps[7]? = some (.pointer (some ⟨R, 0, none⟩)) := hav.oldAt 7 rfl
        have x0 := k0 V hws
        have x1 := k1' V hws
        have x2 := k2 V hws
        unfold Oper.wp
        simpa [go_sem, updD, e7, x0, x1, x2] using hws
      case o3 =>
        intro D a' V hD hdep hcl hav hws
        have d1 : D 1 = true := (by first | (refine hdep ⟨1, .data⟩ ?_ rfl; simp; done) | (refine hdep ⟨1, .guard⟩ ?_ rfl; simp; done) | (refine hdep ⟨1, .chain⟩ ?_ rfl; simp; done))
        have g34 : a'.tmps[34]? = some (.bool true) := hav.val 1 _ 34 rfl rfl d1
        refine .inl ⟨(wanted_at rfl rfl rfl g34).trans rfl, ?_⟩
        have d2 : D 2 = true := (by first | (refine hdep ⟨2, .data⟩ ?_ rfl; simp; done) | (refine hdep ⟨2, .guard⟩ ?_ rfl; simp; done) | (refine hdep ⟨2, .chain⟩ ?_ rfl; simp; done))
        have e35 : a'.tmps[35]? = some (.agg #[.int .i64 p0, .int .i64 p1, .int .i64 p2]) := hav.val 2 _ 35 rfl rfl d2
        unfold Oper.wp
        simp [go_sem, e35]
        refine (TB.out V).mono ?_
        rintro e V' ⟨rfl, hb⟩
        exact ⟨rfl, hws.trans (hb.mono hws.size)⟩
      case o4 =>
        intro D a' V hD hdep hcl hav hws
        have d1 : D 1 = true := (by first | (refine hdep ⟨1, .data⟩ ?_ rfl; simp; done) | (refine hdep ⟨1, .guard⟩ ?_ rfl; simp; done) | (refine hdep ⟨1, .chain⟩ ?_ rfl; simp; done))
        have g34 : a'.tmps[34]? = some (.bool true) := hav.val 1 _ 34 rfl rfl d1
        refine .inl ⟨(wanted_at rfl rfl rfl g34).trans rfl, ?_⟩
        have e6 : a'.tmps[6]? = some (.pointer (some ⟨P, 0, none⟩)) := hav.oldAt 6 rfl
        have x0 := l0 V hws
        have x1 := l1 V hws
        have x2 := l2 V hws
        unfold Oper.wp
        simpa [go_sem, updD, e6, x0, x1, x2] using hws
      case o5 =>
        intro D a' V hD hdep hcl hav hws
        have d1 : D 1 = true := (by first | (refine hdep ⟨1, .data⟩ ?_ rfl; simp; done) | (refine hdep ⟨1, .guard⟩ ?_ rfl; simp; done) | (refine hdep ⟨1, .chain⟩ ?_ rfl; simp; done))
        have g34 : a'.tmps[34]? = some (.bool true) := hav.val 1 _ 34 rfl rfl d1
        refine .inl ⟨(wanted_at rfl rfl rfl g34).trans rfl, ?_⟩
        have d4 : D 4 = true := (by first | (refine hdep ⟨4, .data⟩ ?_ rfl; simp; done) | (refine hdep ⟨4, .guard⟩ ?_ rfl; simp; done) | (refine hdep ⟨4, .chain⟩ ?_ rfl; simp; done))
        have e37 : a'.tmps[37]? = some (.agg #[.int .i64 p0, .int .i64 p1, .int .i64 p2]) := hav.val 4 _ 37 rfl rfl d4
        unfold Oper.wp
        simp [go_sem, e37]
        refine (TA.out V).mono ?_
        rintro e V' ⟨rfl, hb⟩
        exact ⟨rfl, hws.trans (hb.mono hws.size)⟩
      case o6 =>
        intro D a' V hD hdep hcl hav hws
        have d1 : D 1 = true := (by first | (refine hdep ⟨1, .data⟩ ?_ rfl; simp; done) | (refine hdep ⟨1, .guard⟩ ?_ rfl; simp; done) | (refine hdep ⟨1, .chain⟩ ?_ rfl; simp; done))
        have g34 : a'.tmps[34]? = some (.bool true) := hav.val 1 _ 34 rfl rfl d1
        refine .inl ⟨(wanted_at rfl rfl rfl g34).trans rfl, ?_⟩
        have d5 : D 5 = true := (by first | (refine hdep ⟨5, .data⟩ ?_ rfl; simp; done) | (refine hdep ⟨5, .guard⟩ ?_ rfl; simp; done) | (refine hdep ⟨5, .chain⟩ ?_ rfl; simp; done))
        have e38 : a'.tmps[38]? = some (.int .i64 ((p0 : Int) + (p1 : Int) + (p2 : Int))) := hav.val 5 _ 38 rfl rfl d5
        unfold Oper.wp
        simpa [go_sem, updD, e38, HW1.out] using hws
      case o7 =>
        intro D a' V hD hdep hcl hav hws
        have d1 : D 1 = true := (by first | (refine hdep ⟨1, .data⟩ ?_ rfl; simp; done) | (refine hdep ⟨1, .guard⟩ ?_ rfl; simp; done) | (refine hdep ⟨1, .chain⟩ ?_ rfl; simp; done))
        have g34 : a'.tmps[34]? = some (.bool true) := hav.val 1 _ 34 rfl rfl d1
        refine .inl ⟨(wanted_at rfl rfl rfl g34).trans rfl, ?_⟩
        have d3 : D 3 = true := (by first | (refine hdep ⟨3, .data⟩ ?_ rfl; simp; done) | (refine hdep ⟨3, .guard⟩ ?_ rfl; simp; done) | (refine hdep ⟨3, .chain⟩ ?_ rfl; simp; done))
        have e36 : a'.tmps[36]? = some (.int .i64 ((p0 : Int) + (p1 : Int) + (p2 : Int))) := hav.val 3 _ 36 rfl rfl d3
        have d6 : D 6 = true := (by first | (refine hdep ⟨6, .data⟩ ?_ rfl; simp; done) | (refine hdep ⟨6, .guard⟩ ?_ rfl; simp; done) | (refine hdep ⟨6, .chain⟩ ?_ rfl; simp; done))
        have e39 : a'.tmps[39]? = some (.int .i64 (IntKind.i64.wrap ((p0 : Int) + (p1 : Int) + (p2 : Int) + 1))) := hav.val 6 _ 39 rfl rfl d6
        unfold Oper.wp
        simpa [go_sem, updD, e36, e39, E1, E1w] using hws
      case o8 =>
        intro D a' V hD hdep hcl hav hws
        have d1 : D 1 = true := (by first | (refine hdep ⟨1, .data⟩ ?_ rfl; simp; done) | (refine hdep ⟨1, .guard⟩ ?_ rfl; simp; done) | (refine hdep ⟨1, .chain⟩ ?_ rfl; simp; done))
        have g34 : a'.tmps[34]? = some (.bool true) := hav.val 1 _ 34 rfl rfl d1
        refine .inl ⟨(wanted_at rfl rfl rfl g34).trans rfl, ?_⟩
        have e8 : a'.tmps[8]? = some (.bool false) := hav.oldAt 8 rfl
        unfold Oper.wp
        simpa [go_sem, updD, e8] using hws
      case o9 =>
        intro D a' V hD hdep hcl hav hws
        have d1 : D 1 = true := (by first | (refine hdep ⟨1, .data⟩ ?_ rfl; simp; done) | (refine hdep ⟨1, .guard⟩ ?_ rfl; simp; done) | (refine hdep ⟨1, .chain⟩ ?_ rfl; simp; done))
        have g34 : a'.tmps[34]? = some (.bool true) := hav.val 1 _ 34 rfl rfl d1
        refine .inl ⟨(wanted_at rfl rfl rfl g34).trans rfl, ?_⟩
        have d7 : D 7 = true := (by first | (refine hdep ⟨7, .data⟩ ?_ rfl; simp; done) | (refine hdep ⟨7, .guard⟩ ?_ rfl; simp; done) | (refine hdep ⟨7, .chain⟩ ?_ rfl; simp; done))
        have e40 : a'.tmps[40]? = some (.bool false) := hav.val 7 _ 40 rfl rfl d7
        have d8 : D 8 = true := (by first | (refine hdep ⟨8, .data⟩ ?_ rfl; simp; done) | (refine hdep ⟨8, .guard⟩ ?_ rfl; simp; done) | (refine hdep ⟨8, .chain⟩ ?_ rfl; simp; done))
        have e41 : a'.tmps[41]? = some (.bool false) := hav.val 8 _ 41 rfl rfl d8
        unfold Oper.wp
        simpa [go_sem, updD, e40, e41] using hws
      case o10 =>
        intro D a' V hD hdep hcl hav hws
        refine .inl ⟨rfl, ?_⟩
        have d1 : D 1 = true := (by first | (refine hdep ⟨1, .data⟩ ?_ rfl; simp; done) | (refine hdep ⟨1, .guard⟩ ?_ rfl; simp; done) | (refine hdep ⟨1, .chain⟩ ?_ rfl; simp; done))
        have e34 : a'.tmps[34]? = some (.bool true) := hav.val 1 _ 34 rfl rfl d1
        have d9 : D 9 = true := (by first | (refine hdep ⟨9, .data⟩ ?_ rfl; simp; done) | (refine hdep ⟨9, .guard⟩ ?_ rfl; simp; done) | (refine hdep ⟨9, .chain⟩ ?_ rfl; simp; done))
        have e42 : a'.tmps[42]? = some (.bool true) := hav.val 9 _ 42 rfl rfl d9
        unfold Oper.wp
        simpa [go_sem, updD, e34, e42] using hws
      case o11 =>
        intro D a' V hD hdep hcl hav hws
        refine .inl ⟨rfl, ?_⟩
        have d10 : D 10 = true := (by first | (refine hdep ⟨10, .data⟩ ?_ rfl; simp; done) | (refine hdep ⟨10, .guard⟩ ?_ rfl; simp; done) | (refine hdep ⟨10, .chain⟩ ?_ rfl; simp; done))
        have e43 : a'.tmps[43]? = some (.bool true) := hav.val 10 _ 43 rfl rfl d10
        unfold Oper.wp
        simpa [go_sem, updD, e43] using hws
      case o12 =>
        intro D a' V hD hdep hcl hav hws
        have d11 : D 11 = true := (by first | (refine hdep ⟨11, .data⟩ ?_ rfl; simp; done) | (refine hdep ⟨11, .guard⟩ ?_ rfl; simp; done) | (refine hdep ⟨11, .chain⟩ ?_ rfl; simp; done))
        have g44 : a'.tmps[44]? = some (.bool true) := hav.val 11 _ 44 rfl rfl d11
        refine .inl ⟨(wanted_at rfl rfl rfl g44).trans rfl, ?_⟩
        have e8 : a'.tmps[8]? = some (.bool false) := hav.oldAt 8 rfl
        unfold Oper.wp
        simpa [go_sem, updD, e8] using hws
      case o13 =>
        intro D a' V hD hdep hcl hav hws
        have d11 : D 11 = true := (by first | (refine hdep ⟨11, .data⟩ ?_ rfl; simp; done) | (refine hdep ⟨11, .guard⟩ ?_ rfl; simp; done) | (refine hdep ⟨11, .chain⟩ ?_ rfl; simp; done))
        have g44 : a'.tmps[44]? = some (.bool true) := hav.val 11 _ 44 rfl rfl d11
        refine .inl ⟨(wanted_at rfl rfl rfl g44).trans rfl, ?_⟩
        have d12 : D 12 = true := (by first | (refine hdep ⟨12, .data⟩ ?_ rfl; simp; done) | (refine hdep ⟨12, .guard⟩ ?_ rfl; simp; done) | (refine hdep ⟨12, .chain⟩ ?_ rfl; simp; done))
        have e45 : a'.tmps[45]? = some (.bool false) := hav.val 12 _ 45 rfl rfl d12
        unfold Oper.wp
        simpa [go_sem, updD, e45] using hws
      case o14 =>
        intro D a' V hD hdep hcl hav hws
        have d13 : D 13 = true := (by first | (refine hdep ⟨13, .data⟩ ?_ rfl; simp; done) | (refine hdep ⟨13, .guard⟩ ?_ rfl; simp; done) | (refine hdep ⟨13, .chain⟩ ?_ rfl; simp; done))
        have g46 : a'.tmps[46]? = some (.bool false) := hav.val 13 _ 46 rfl rfl d13
        refine .inl ⟨(wanted_at rfl rfl rfl g46).trans rfl, ?_⟩
        have e6 : a'.tmps[6]? = some (.pointer (some ⟨P, 0, none⟩)) := hav.oldAt 6 rfl
        have x0 := l0 V hws
        have x1 := l1 V hws
        have x2 := l2 V hws
        unfold Oper.wp
        simpa [go_sem, updD, e6, x0, x1, x2] using hws
      case o15 =>
        intro D a' V hD hdep hcl hav hws
        have d13 : D 13 = true := (by first | (refine hdep ⟨13, .data⟩ ?_ rfl; simp; done) | (refine hdep ⟨13, .guard⟩ ?_ rfl; simp; done) | (refine hdep ⟨13, .chain⟩ ?_ rfl; simp; done))
        have g46 : a'.tmps[46]? = some (.bool false) := hav.val 13 _ 46 rfl rfl d13
        refine .inl ⟨(wanted_at rfl rfl rfl g46).trans rfl, ?_⟩
        have e7 : a'.tmps[7]? = some (.pointer (some ⟨R, 0, none⟩)) := hav.oldAt 7 rfl
        have x0 := k0 V hws
        have x1 := k1' V hws
        have x2 := k2 V hws
        unfold Oper.wp
        simpa [go_sem, updD, e7, x0, x1, x2] using hws
      case o16 =>
        intro D a' V hD hdep hcl hav hws
        have d13 : D 13 = true := (by first | (refine hdep ⟨13, .data⟩ ?_ rfl; simp; done) | (refine hdep ⟨13, .guard⟩ ?_ rfl; simp; done) | (refine hdep ⟨13, .chain⟩ ?_ rfl; simp; done))
        have g46 : a'.tmps[46]? = some (.bool false) := hav.val 13 _ 46 rfl rfl d13
        refine .inl ⟨(wanted_at rfl rfl rfl g46).trans rfl, ?_⟩
        have d14 : D 14 = true := (by first | (refine hdep ⟨14, .data⟩ ?_ rfl; simp; done) | (refine hdep ⟨14, .guard⟩ ?_ rfl; simp; done) | (refine hdep ⟨14, .chain⟩ ?_ rfl; simp; done))
        have e47 : a'.tmps[47]? = some (.agg #[.int .i64 p0, .int .i64 p1, .int .i64 p2]) := hav.val 14 _ 47 rfl rfl d14
        have d15 : D 15 = true := (by first | (refine hdep ⟨15, .data⟩ ?_ rfl; simp; done) | (refine hdep ⟨15, .guard⟩ ?_ rfl; simp; done) | (refine hdep ⟨15, .chain⟩ ?_ rfl; simp; done))
        have e48 : a'.tmps[48]? = some (.agg #[.int .i64 p0, .int .i64 p1, .int .i64 p2]) := hav.val 15 _ 48 rfl rfl d15
        unfold Oper.wp
        simpa [go_sem, updD, e47, e48] using hws
      case o17 =>
        intro D a' V hD hdep hcl hav hws
        have d11 : D 11 = true := (by first | (refine hdep ⟨11, .data⟩ ?_ rfl; simp; done) | (refine hdep ⟨11, .guard⟩ ?_ rfl; simp; done) | (refine hdep ⟨11, .chain⟩ ?_ rfl; simp; done))
        have g44 : a'.tmps[44]? = some (.bool true) := hav.val 11 _ 44 rfl rfl d11
        refine .inl ⟨(wanted_at rfl rfl rfl g44).trans rfl, ?_⟩
        have d13 : D 13 = true := (by first | (refine hdep ⟨13, .data⟩ ?_ rfl; simp; done) | (refine hdep ⟨13, .guard⟩ ?_ rfl; simp; done) | (refine hdep ⟨13, .chain⟩ ?_ rfl; simp; done))
        have e46 : a'.tmps[46]? = some (.bool false) := hav.val 13 _ 46 rfl rfl d13
        have d16 : D 16 = true := (by first | (refine hdep ⟨16, .data⟩ ?_ rfl; simp; done) | (refine hdep ⟨16, .guard⟩ ?_ rfl; simp; done) | (refine hdep ⟨16, .chain⟩ ?_ rfl; simp; done))
        have e49 : a'.tmps[49]? = some (.bool true) := hav.val 16 _ 49 rfl rfl d16
        unfold Oper.wp
        simpa [go_sem, updD, e46, e49] using hws
      case o18 =>
        intro D a' V hD hdep hcl hav hws
        refine .inl ⟨rfl, ?_⟩
        have d11 : D 11 = true := (by first | (refine hdep ⟨11, .data⟩ ?_ rfl; simp; done) | (refine hdep ⟨11, .guard⟩ ?_ rfl; simp; done) | (refine hdep ⟨11, .chain⟩ ?_ rfl; simp; done))
        have e44 : a'.tmps[44]? = some (.bool true) := hav.val 11 _ 44 rfl rfl d11
        have d17 : D 17 = true := (by first | (refine hdep ⟨17, .data⟩ ?_ rfl; simp; done) | (refine hdep ⟨17, .guard⟩ ?_ rfl; simp; done) | (refine hdep ⟨17, .chain⟩ ?_ rfl; simp; done))
        have e50 : a'.tmps[50]? = some (.bool true) := hav.val 17 _ 50 rfl rfl d17
        unfold Oper.wp
        simpa [go_sem, updD, e44, e50] using hws
      case o19 =>
        intro D a' V hD hdep hcl hav hws
        refine .inl ⟨rfl, ?_⟩
        have d18 : D 18 = true := (by first | (refine hdep ⟨18, .data⟩ ?_ rfl; simp; done) | (refine hdep ⟨18, .guard⟩ ?_ rfl; simp; done) | (refine hdep ⟨18, .chain⟩ ?_ rfl; simp; done))
        have e51 : a'.tmps[51]? = some (.bool true) := hav.val 18 _ 51 rfl rfl d18
        unfold Oper.wp
        simpa [go_sem, updD, e51] using hws
      case o20 =>
        intro D a' V hD hdep hcl hav hws
        have d19 : D 19 = true := (by first | (refine hdep ⟨19, .data⟩ ?_ rfl; simp; done) | (refine hdep ⟨19, .guard⟩ ?_ rfl; simp; done) | (refine hdep ⟨19, .chain⟩ ?_ rfl; simp; done))
        have g52 : a'.tmps[52]? = some (.bool true) := hav.val 19 _ 52 rfl rfl d19
        refine .inl ⟨(wanted_at rfl rfl rfl g52).trans rfl, ?_⟩
        have e7 : a'.tmps[7]? = some (.pointer (some ⟨R, 0, none⟩)) := hav.oldAt 7 rfl
        unfold Oper.wp
        simpa [go_sem, updD, e7] using hws
      case o21 =>
        intro D a' V hD hdep hcl hav hws
        have d19 : D 19 = true := (by first | (refine hdep ⟨19, .data⟩ ?_ rfl; simp; done) | (refine hdep ⟨19, .guard⟩ ?_ rfl; simp; done) | (refine hdep ⟨19, .chain⟩ ?_ rfl; simp; done))
        have g52 : a'.tmps[52]? = some (.bool true) := hav.val 19 _ 52 rfl rfl d19
        refine .inl ⟨(wanted_at rfl rfl rfl g52).trans rfl, ?_⟩
        have d20 : D 20 = true := (by first | (refine hdep ⟨20, .data⟩ ?_ rfl; simp; done) | (refine hdep ⟨20, .guard⟩ ?_ rfl; simp; done) | (refine hdep ⟨20, .chain⟩ ?_ rfl; simp; done))
        have e53 : a'.tmps[53]? = some (.pointer (some ⟨R, 1, none⟩)) := hav.val 20 _ 53 rfl rfl d20
        have x0 := k0 V hws
        have x1 := k1' V hws
        have x2 := k2 V hws
        unfold Oper.wp
        simpa [go_sem, updD, e53, x0, x1, x2] using hws
      case o22 =>
        intro D a' V hD hdep hcl hav hws
        have d19 : D 19 = true := (by first | (refine hdep ⟨19, .data⟩ ?_ rfl; simp; done) | (refine hdep ⟨19, .guard⟩ ?_ rfl; simp; done) | (refine hdep ⟨19, .chain⟩ ?_ rfl; simp; done))
        have g52 : a'.tmps[52]? = some (.bool true) := hav.val 19 _ 52 rfl rfl d19
        refine .inl ⟨(wanted_at rfl rfl rfl g52).trans rfl, ?_⟩
        have e6 : a'.tmps[6]? = some (.pointer (some ⟨P, 0, none⟩)) := hav.oldAt 6 rfl
        unfold Oper.wp
        simpa [go_sem, updD, e6] using hws
      case o23 =>
        intro D a' V hD hdep hcl hav hws
        have d19 : D 19 = true := (by first | (refine hdep ⟨19, .data⟩ ?_ rfl; simp; done) | (refine hdep ⟨19, .guard⟩ ?_ rfl; simp; done) | (refine hdep ⟨19, .chain⟩ ?_ rfl; simp; done))
        have g52 : a'.tmps[52]? = some (.bool true) := hav.val 19 _ 52 rfl rfl d19
        refine .inl ⟨(wanted_at rfl rfl rfl g52).trans rfl, ?_⟩
        have d22 : D 22 = true := (by first | (refine hdep ⟨22, .data⟩ ?_ rfl; simp; done) | (refine hdep ⟨22, .guard⟩ ?_ rfl; simp; done) | (refine hdep ⟨22, .chain⟩ ?_ rfl; simp; done))
        have e55 : a'.tmps[55]? = some (.pointer (some ⟨P, 1, none⟩)) := hav.val 22 _ 55 rfl rfl d22
        have x0 := l0 V hws
        have x1 := l1 V hws
        have x2 := l2 V hws
        unfold Oper.wp
        simpa [go_sem, updD, e55, x0, x1, x2] using hws
      case o24 =>
        intro D a' V hD hdep hcl hav hws
        have d19 : D 19 = true := (by first | (refine hdep ⟨19, .data⟩ ?_ rfl; simp; done) | (refine hdep ⟨19, .guard⟩ ?_ rfl; simp; done) | (refine hdep ⟨19, .chain⟩ ?_ rfl; simp; done))
        have g52 : a'.tmps[52]? = some (.bool true) := hav.val 19 _ 52 rfl rfl d19
        refine .inl ⟨(wanted_at rfl rfl rfl g52).trans rfl, ?_⟩
        have d23 : D 23 = true := (by first | (refine hdep ⟨23, .data⟩ ?_ rfl; simp; done) | (refine hdep ⟨23, .guard⟩ ?_ rfl; simp; done) | (refine hdep ⟨23, .chain⟩ ?_ rfl; simp; done))
        have e56 : a'.tmps[56]? = some (.int .i64 (p1 : Nat)) := hav.val 23 _ 56 rfl rfl d23
        unfold Oper.wp
        simpa [go_sem, updD, e56, HW2.out] using hws
      case o25 =>
        intro D a' V hD hdep hcl hav hws
        have d19 : D 19 = true := (by first | (refine hdep ⟨19, .data⟩ ?_ rfl; simp; done) | (refine hdep ⟨19, .guard⟩ ?_ rfl; simp; done) | (refine hdep ⟨19, .chain⟩ ?_ rfl; simp; done))
        have g52 : a'.tmps[52]? = some (.bool true) := hav.val 19 _ 52 rfl rfl d19
        refine .inl ⟨(wanted_at rfl rfl rfl g52).trans rfl, ?_⟩
        have d21 : D 21 = true := (by first | (refine hdep ⟨21, .data⟩ ?_ rfl; simp; done) | (refine hdep ⟨21, .guard⟩ ?_ rfl; simp; done) | (refine hdep ⟨21, .chain⟩ ?_ rfl; simp; done))
        have e54 : a'.tmps[54]? = some (.int .i64 (p1 : Nat)) := hav.val 21 _ 54 rfl rfl d21
        have d24 : D 24 = true := (by first | (refine hdep ⟨24, .data⟩ ?_ rfl; simp; done) | (refine hdep ⟨24, .guard⟩ ?_ rfl; simp; done) | (refine hdep ⟨24, .chain⟩ ?_ rfl; simp; done))
        have e57 : a'.tmps[57]? = some (.int .i64 (IntKind.i64.wrap ((p1 : Int) + 1))) := hav.val 24 _ 57 rfl rfl d24
        unfold Oper.wp
        simpa [go_sem, updD, e54, e57, E2, E2w] using hws
      case o26 =>
        intro D a' V hD hdep hcl hav hws
        have d19 : D 19 = true := (by first | (refine hdep ⟨19, .data⟩ ?_ rfl; simp; done) | (refine hdep ⟨19, .guard⟩ ?_ rfl; simp; done) | (refine hdep ⟨19, .chain⟩ ?_ rfl; simp; done))
        have g52 : a'.tmps[52]? = some (.bool true) := hav.val 19 _ 52 rfl rfl d19
        refine .inl ⟨(wanted_at rfl rfl rfl g52).trans rfl, ?_⟩
        have e3 : a'.tmps[3]? = some (.pointer (some ⟨w.heap.size, 0, none⟩)) := hav.oldAt 3 rfl
        unfold Oper.wp
        simpa [go_sem, updD, e3] using hws
      case o27 =>
        intro D a' V hD hdep hcl hav hws
        have d19 : D 19 = true := (by first | (refine hdep ⟨19, .data⟩ ?_ rfl; simp; done) | (refine hdep ⟨19, .guard⟩ ?_ rfl; simp; done) | (refine hdep ⟨19, .chain⟩ ?_ rfl; simp; done))
        have g52 : a'.tmps[52]? = some (.bool true) := hav.val 19 _ 52 rfl rfl d19
        refine .inl ⟨(wanted_at rfl rfl rfl g52).trans rfl, ?_⟩
        have d26 : D 26 = true := (by first | (refine hdep ⟨26, .data⟩ ?_ rfl; simp; done) | (refine hdep ⟨26, .guard⟩ ?_ rfl; simp; done) | (refine hdep ⟨26, .chain⟩ ?_ rfl; simp; done))
        have e59 : a'.tmps[59]? = some (.pointer (some ⟨w.heap.size, 3, none⟩)) := hav.val 26 _ 59 rfl rfl d26
        have x3 := n3 V hws
        unfold Oper.wp
        simpa [go_sem, updD, e59, x3] using hws
      case o28 =>
        intro D a' V hD hdep hcl hav hws
        have d19 : D 19 = true := (by first | (refine hdep ⟨19, .data⟩ ?_ rfl; simp; done) | (refine hdep ⟨19, .guard⟩ ?_ rfl; simp; done) | (refine hdep ⟨19, .chain⟩ ?_ rfl; simp; done))
        have g52 : a'.tmps[52]? = some (.bool true) := hav.val 19 _ 52 rfl rfl d19
        refine .inl ⟨(wanted_at rfl rfl rfl g52).trans rfl, ?_⟩
        have d27 : D 27 = true := (by first | (refine hdep ⟨27, .data⟩ ?_ rfl; simp; done) | (refine hdep ⟨27, .guard⟩ ?_ rfl; simp; done) | (refine hdep ⟨27, .chain⟩ ?_ rfl; simp; done))
        have e60 : a'.tmps[60]? = some (.int .i64 vv) := hav.val 27 _ 60 rfl rfl d27
        unfold Oper.wp
        simpa [go_sem, updD, e60, G1] using hws
      case o29 =>
        intro D a' V hD hdep hcl hav hws
        have d19 : D 19 = true := (by first | (refine hdep ⟨19, .data⟩ ?_ rfl; simp; done) | (refine hdep ⟨19, .guard⟩ ?_ rfl; simp; done) | (refine hdep ⟨19, .chain⟩ ?_ rfl; simp; done))
        have g52 : a'.tmps[52]? = some (.bool true) := hav.val 19 _ 52 rfl rfl d19
        refine .inl ⟨(wanted_at rfl rfl rfl g52).trans rfl, ?_⟩
        have d25 : D 25 = true := (by first | (refine hdep ⟨25, .data⟩ ?_ rfl; simp; done) | (refine hdep ⟨25, .guard⟩ ?_ rfl; simp; done) | (refine hdep ⟨25, .chain⟩ ?_ rfl; simp; done))
        have e58 : a'.tmps[58]? = some (.bool false) := hav.val 25 _ 58 rfl rfl d25
        have d28 : D 28 = true := (by first | (refine hdep ⟨28, .data⟩ ?_ rfl; simp; done) | (refine hdep ⟨28, .guard⟩ ?_ rfl; simp; done) | (refine hdep ⟨28, .chain⟩ ?_ rfl; simp; done))
        have e61 : a'.tmps[61]? = some (.bool false) := hav.val 28 _ 61 rfl rfl d28
        unfold Oper.wp
        simpa [go_sem, updD, e58, e61] using hws
      case o30 =>
        intro D a' V hD hdep hcl hav hws
        refine .inl ⟨rfl, ?_⟩
        have d19 : D 19 = true := (by first | (refine hdep ⟨19, .data⟩ ?_ rfl; simp; done) | (refine hdep ⟨19, .guard⟩ ?_ rfl; simp; done) | (refine hdep ⟨19, .chain⟩ ?_ rfl; simp; done))
        have e52 : a'.tmps[52]? = some (.bool true) := hav.val 19 _ 52 rfl rfl d19
        have d29 : D 29 = true := (by first | (refine hdep ⟨29, .data⟩ ?_ rfl; simp; done) | (refine hdep ⟨29, .guard⟩ ?_ rfl; simp; done) | (refine hdep ⟨29, .chain⟩ ?_ rfl; simp; done))
        have e62 : a'.tmps[62]? = some (.bool true) := hav.val 29 _ 62 rfl rfl d29
        unfold Oper.wp
        simpa [go_sem, updD, e52, e62] using hws
      case o31 =>
        intro D a' V hD hdep hcl hav hws
        refine .inl ⟨rfl, ?_⟩
        have d30 : D 30 = true := (by first | (refine hdep ⟨30, .data⟩ ?_ rfl; simp; done) | (refine hdep ⟨30, .guard⟩ ?_ rfl; simp; done) | (refine hdep ⟨30, .chain⟩ ?_ rfl; simp; done))
        have e63 : a'.tmps[63]? = some (.bool true) := hav.val 30 _ 63 rfl rfl d30
        unfold Oper.wp
        simpa [go_sem, updD, e63] using hws
      case o32 =>
        intro D a' V hD hdep hcl hav hws
        have d31 : D 31 = true := (by first | (refine hdep ⟨31, .data⟩ ?_ rfl; simp; done) | (refine hdep ⟨31, .guard⟩ ?_ rfl; simp; done) | (refine hdep ⟨31, .chain⟩ ?_ rfl; simp; done))
        have g64 : a'.tmps[64]? = some (.bool true) := hav.val 31 _ 64 rfl rfl d31
        refine .inl ⟨(wanted_at rfl rfl rfl g64).trans rfl, ?_⟩
        have e7 : a'.tmps[7]? = some (.pointer (some ⟨R, 0, none⟩)) := hav.oldAt 7 rfl
        unfold Oper.wp
        simpa [go_sem, updD, e7] using hws
      case o33 =>
        intro D a' V hD hdep hcl hav hws
        have d31 : D 31 = true := (by first | (refine hdep ⟨31, .data⟩ ?_ rfl; simp; done) | (refine hdep ⟨31, .guard⟩ ?_ rfl; simp; done) | (refine hdep ⟨31, .chain⟩ ?_ rfl; simp; done))
        have g64 : a'.tmps[64]? = some (.bool true) := hav.val 31 _ 64 rfl rfl d31
        refine .inl ⟨(wanted_at rfl rfl rfl g64).trans rfl, ?_⟩
        have d32 : D 32 = true := (by first | (refine hdep ⟨32, .data⟩ ?_ rfl; simp; done) | (refine hdep ⟨32, .guard⟩ ?_ rfl; simp; done) | (refine hdep ⟨32, .chain⟩ ?_ rfl; simp; done))
        have e65 : a'.tmps[65]? = some (.pointer (some ⟨R, 0, none⟩)) := hav.val 32 _ 65 rfl rfl d32
        have x0 := k0 V hws
        have x1 := k1' V hws
        have x2 := k2 V hws
        unfold Oper.wp
        simpa [go_sem, updD, e65, x0, x1, x2] using hws
      case o34 =>
        intro D a' V hD hdep hcl hav hws
        have d31 : D 31 = true := (by first | (refine hdep ⟨31, .data⟩ ?_ rfl; simp; done) | (refine hdep ⟨31, .guard⟩ ?_ rfl; simp; done) | (refine hdep ⟨31, .chain⟩ ?_ rfl; simp; done))
        have g64 : a'.tmps[64]? = some (.bool true) := hav.val 31 _ 64 rfl rfl d31
        refine .inl ⟨(wanted_at rfl rfl rfl g64).trans rfl, ?_⟩
        have e6 : a'.tmps[6]? = some (.pointer (some ⟨P, 0, none⟩)) := hav.oldAt 6 rfl
        unfold Oper.wp
        simpa [go_sem, updD, e6] using hws
      case o35 =>
        intro D a' V hD hdep hcl hav hws
        have d31 : D 31 = true := (by first | (refine hdep ⟨31, .data⟩ ?_ rfl; simp; done) | (refine hdep ⟨31, .guard⟩ ?_ rfl; simp; done) | (refine hdep ⟨31, .chain⟩ ?_ rfl; simp; done))
        have g64 : a'.tmps[64]? = some (.bool true) := hav.val 31 _ 64 rfl rfl d31
        refine .inl ⟨(wanted_at rfl rfl rfl g64).trans rfl, ?_⟩
        have d34 : D 34 = true := (by first | (refine hdep ⟨34, .data⟩ ?_ rfl; simp; done) | (refine hdep ⟨34, .guard⟩ ?_ rfl; simp; done) | (refine hdep ⟨34, .chain⟩ ?_ rfl; simp; done))
        have e67 : a'.tmps[67]? = some (.pointer (some ⟨P, 0, none⟩)) := hav.val 34 _ 67 rfl rfl d34
        have x0 := l0 V hws
        have x1 := l1 V hws
        have x2 := l2 V hws
        unfold Oper.wp
        simpa [go_sem, updD, e67, x0, x1, x2] using hws
      case o36 =>
        intro D a' V hD hdep hcl hav hws
        have d31 : D 31 = true := (by first | (refine hdep ⟨31, .data⟩ ?_ rfl; simp; done) | (refine hdep ⟨31, .guard⟩ ?_ rfl; simp; done) | (refine hdep ⟨31, .chain⟩ ?_ rfl; simp; done))
        have g64 : a'.tmps[64]? = some (.bool true) := hav.val 31 _ 64 rfl rfl d31
        refine .inl ⟨(wanted_at rfl rfl rfl g64).trans rfl, ?_⟩
        have d35 : D 35 = true := (by first | (refine hdep ⟨35, .data⟩ ?_ rfl; simp; done) | (refine hdep ⟨35, .guard⟩ ?_ rfl; simp; done) | (refine hdep ⟨35, .chain⟩ ?_ rfl; simp; done))
        have e68 : a'.tmps[68]? = some (.int .i64 (p0 : Nat)) := hav.val 35 _ 68 rfl rfl d35
        unfold Oper.wp
        simpa [go_sem, updD, e68, HW3.out] using hws
      case o37 =>
        intro D a' V hD hdep hcl hav hws
        have d31 : D 31 = true := (by first | (refine hdep ⟨31, .data⟩ ?_ rfl; simp; done) | (refine hdep ⟨31, .guard⟩ ?_ rfl; simp; done) | (refine hdep ⟨31, .chain⟩ ?_ rfl; simp; done))
        have g64 : a'.tmps[64]? = some (.bool true) := hav.val 31 _ 64 rfl rfl d31
        refine .inl ⟨(wanted_at rfl rfl rfl g64).trans rfl, ?_⟩
        have d33 : D 33 = true := (by first | (refine hdep ⟨33, .data⟩ ?_ rfl; simp; done) | (refine hdep ⟨33, .guard⟩ ?_ rfl; simp; done) | (refine hdep ⟨33, .chain⟩ ?_ rfl; simp; done))
        have e66 : a'.tmps[66]? = some (.int .i64 (p0 : Nat)) := hav.val 33 _ 66 rfl rfl d33
        have d36 : D 36 = true := (by first | (refine hdep ⟨36, .data⟩ ?_ rfl; simp; done) | (refine hdep ⟨36, .guard⟩ ?_ rfl; simp; done) | (refine hdep ⟨36, .chain⟩ ?_ rfl; simp; done))
        have e69 : a'.tmps[69]? = some (.int .i64 (IntKind.i64.wrap ((p0 : Int) + 1))) := hav.val 36 _ 69 rfl rfl d36
        unfold Oper.wp
        simpa [go_sem, updD, e66, e69, E3, E3w] using hws
      case o38 =>
        intro D a' V hD hdep hcl hav hws
        have d31 : D 31 = true := (by first | (refine hdep ⟨31, .data⟩ ?_ rfl; simp; done) | (refine hdep ⟨31, .guard⟩ ?_ rfl; simp; done) | (refine hdep ⟨31, .chain⟩ ?_ rfl; simp; done))
        have g64 : a'.tmps[64]? = some (.bool true) := hav.val 31 _ 64 rfl rfl d31
        refine .inl ⟨(wanted_at rfl rfl rfl g64).trans rfl, ?_⟩
        have e3 : a'.tmps[3]? = some (.pointer (some ⟨w.heap.size, 0, none⟩)) := hav.oldAt 3 rfl
        unfold Oper.wp
        simpa [go_sem, updD, e3] using hws
      case o39 =>
        intro D a' V hD hdep hcl hav hws
        have d31 : D 31 = true := (by first | (refine hdep ⟨31, .data⟩ ?_ rfl; simp; done) | (refine hdep ⟨31, .guard⟩ ?_ rfl; simp; done) | (refine hdep ⟨31, .chain⟩ ?_ rfl; simp; done))
        have g64 : a'.tmps[64]? = some (.bool true) := hav.val 31 _ 64 rfl rfl d31
        refine .inl ⟨(wanted_at rfl rfl rfl g64).trans rfl, ?_⟩
        have d38 : D 38 = true := (by first | (refine hdep ⟨38, .data⟩ ?_ rfl; simp; done) | (refine hdep ⟨38, .guard⟩ ?_ rfl; simp; done) | (refine hdep ⟨38, .chain⟩ ?_ rfl; simp; done))
        have e71 : a'.tmps[71]? = some (.pointer (some ⟨w.heap.size, 3, none⟩)) := hav.val 38 _ 71 rfl rfl d38
        have x3 := n3 V hws
        unfold Oper.wp
        simpa [go_sem, updD, e71, x3] using hws
      case o40 =>
        intro D a' V hD hdep hcl hav hws
        have d31 : D 31 = true := (by first | (refine hdep ⟨31, .data⟩ ?_ rfl; simp; done) | (refine hdep ⟨31, .guard⟩ ?_ rfl; simp; done) | (refine hdep ⟨31, .chain⟩ ?_ rfl; simp; done))
        have g64 : a'.tmps[64]? = some (.bool true) := hav.val 31 _ 64 rfl rfl d31
        refine .inl ⟨(wanted_at rfl rfl rfl g64).trans rfl, ?_⟩
        have d39 : D 39 = true := (by first | (refine hdep ⟨39, .data⟩ ?_ rfl; simp; done) | (refine hdep ⟨39, .guard⟩ ?_ rfl; simp; done) | (refine hdep ⟨39, .chain⟩ ?_ rfl; simp; done))
        have e72 : a'.tmps[72]? = some (.int .i64 vv) := hav.val 39 _ 72 rfl rfl d39
        unfold Oper.wp
        simpa [go_sem, updD, e72, G0] using hws
      case o41 =>
        intro D a' V hD hdep hcl hav hws
        have d31 : D 31 = true := (by first | (refine hdep ⟨31, .data⟩ ?_ rfl; simp; done) | (refine hdep ⟨31, .guard⟩ ?_ rfl; simp; done) | (refine hdep ⟨31, .chain⟩ ?_ rfl; simp; done))
        have g64 : a'.tmps[64]? = some (.bool true) := hav.val 31 _ 64 rfl rfl d31
        refine .inl ⟨(wanted_at rfl rfl rfl g64).trans rfl, ?_⟩
        have d37 : D 37 = true := (by first | (refine hdep ⟨37, .data⟩ ?_ rfl; simp; done) | (refine hdep ⟨37, .guard⟩ ?_ rfl; simp; done) | (refine hdep ⟨37, .chain⟩ ?_ rfl; simp; done))
        have e70 : a'.tmps[70]? = some (.bool false) := hav.val 37 _ 70 rfl rfl d37
        have d40 : D 40 = true := (by first | (refine hdep ⟨40, .data⟩ ?_ rfl; simp; done) | (refine hdep ⟨40, .guard⟩ ?_ rfl; simp; done) | (refine hdep ⟨40, .chain⟩ ?_ rfl; simp; done))
        have e73 : a'.tmps[73]? = some (.bool false) := hav.val 40 _ 73 rfl rfl d40
        unfold Oper.wp
        simpa [go_sem, updD, e70, e73] using hws
      case o42 =>
        intro D a' V hD hdep hcl hav hws
        refine .inl ⟨rfl, ?_⟩
        have d31 : D 31 = true := (by first | (refine hdep ⟨31, .data⟩ ?_ rfl; simp; done) | (refine hdep ⟨31, .guard⟩ ?_ rfl; simp; done) | (refine hdep ⟨31, .chain⟩ ?_ rfl; simp; done))
        have e64 : a'.tmps[64]? = some (.bool true) := hav.val 31 _ 64 rfl rfl d31
        have d41 : D 41 = true := (by first | (refine hdep ⟨41, .data⟩ ?_ rfl; simp; done) | (refine hdep ⟨41, .guard⟩ ?_ rfl; simp; done) | (refine hdep ⟨41, .chain⟩ ?_ rfl; simp; done))
        have e74 : a'.tmps[74]? = some (.bool true) := hav.val 41 _ 74 rfl rfl d41
        unfold Oper.wp
        simpa [go_sem, updD, e64, e74] using hws
      case o43 =>
        intro D a' V hD hdep hcl hav hws
        refine .inl ⟨rfl, ?_⟩
        have d42 : D 42 = true := (by first | (refine hdep ⟨42, .data⟩ ?_ rfl; simp; done) | (refine hdep ⟨42, .guard⟩ ?_ rfl; simp; done) | (refine hdep ⟨42, .chain⟩ ?_ rfl; simp; done))
        have e75 : a'.tmps[75]? = some (.bool true) := hav.val 42 _ 75 rfl rfl d42
        unfold Oper.wp
        simpa [go_sem, updD, e75] using hws
      case fin =>
        intro a' V hav hws
        have ha' := hav.final rfl
        subst ha'
        simp only [putAll, Act.put, List.setIfInBounds_toArray, List.set_cons_succ, List.set_cons_zero]
        clear hav
        go_wp2_with fail
        go_ret
        exact ⟨ret_bool (by first | rfl | simp), later BW.out hws⟩
end Go.Proofs.Ytbdmkgdgbpfhpaa
