/- The walk of the law WireJoins. No conditions. -/
import Derived.Test.YtpnljefgenniaaaWirePut
namespace Go.Proofs.Ytpnljefgenniaaa
set_option linter.unusedVariables false
open Go Go.RowKit

def Apart (v u : Value) : Prop := ∀ k, v.ownBlock = some k → u.ownBlock ≠ some k
theorem Apart.symm {v u : Value} (h : Apart v u) : Apart u v := fun k h1 h2 => h k h2 h1
theorem Apart.nil (u : Value) : Apart (.slice none 0 0) u := fun k h => by simp [Value.ownBlock] at h
theorem WrAt.other {w w' : World} {n p q : Nat} {v v' u : Value} {l m : List UInt8} (hp : WrAt w n p v l) (hq : WrAt w n q u m) (hne : p ≠ q) (hap : Apart v u) (hO : Ow p v w w') (hF : Fresh w.heap.size v v') : WrAt w' n q u m ∧ Apart v' u := by
  have h1 : some q ≠ v.ownBlock := hq.box.not_row (by decide) hp.row
  have h2 : some p ≠ u.ownBlock := hp.box.not_row (by decide) hq.row
  refine ⟨⟨hq.base, (hO.block q hq.box.lt (Ne.symm hne) h1).trans hq.box, hq.row.at fun k hk => ?_⟩, fun k hk => ?_⟩
  · exact hO.block k (hq.row.lt k hk).2 (fun e => h2 (by rw [hk, e])) (fun e => hap k e.symm hk)
  · rcases hF with e | ⟨b, e, hb⟩
    · exact hap k (e.symm.trans hk)
    · intro h3
      have := (hq.row.lt k h3).2
      rw [e] at hk; cases hk; omega
theorem later_w {W w1 w2 : World} {n : Nat} (h : Below n W w1) (hb : Below n w1 w2) : Below n W w2 := h.trans hb
/-- the three writers -/
structure Three (n p q r : Nat) (va vb vc : Value) (A B C : List UInt8) (W w : World) : Prop where
  a : WrAt w n p va A
  b : WrAt w n q vb B
  c : WrAt w n r vc C
  ab : Apart va vb
  ac : Apart va vc
  bc : Apart vb vc
  below : Below n W w
theorem Three.setA {n p q r : Nat} {va vb vc va' : Value} {A B C A' : List UInt8} {W w w' : World} (h : Three n p q r va vb vc A B C W w) (h1 : p ≠ q) (h2 : p ≠ r) (ha : WrAt w' n p va' A') (hO : Ow p va w w') (hF : Fresh w.heap.size va va') : Three n p q r va' vb vc A' B C W w' := by
  obtain ⟨b1, b2⟩ := h.a.other h.b h1 h.ab hO hF
  obtain ⟨c1, c2⟩ := h.a.other h.c h2 h.ac hO hF
  exact ⟨ha, b1, c1, b2, c2, h.bc, h.below.trans (hO.below h.a)⟩
theorem Three.setB {n p q r : Nat} {va vb vc vb' : Value} {A B C B' : List UInt8} {W w w' : World} (h : Three n p q r va vb vc A B C W w) (h1 : p ≠ q) (h2 : q ≠ r) (hb : WrAt w' n q vb' B') (hO : Ow q vb w w') (hF : Fresh w.heap.size vb vb') : Three n p q r va vb' vc A B' C W w' := by
  obtain ⟨a1, a2⟩ := h.b.other h.a (Ne.symm h1) h.ab.symm hO hF
  obtain ⟨c1, c2⟩ := h.b.other h.c h2 h.bc hO hF
  exact ⟨a1, hb, c1, a2.symm, h.ac, c2, h.below.trans (hO.below h.b)⟩
theorem Three.setC {n p q r : Nat} {va vb vc vc' : Value} {A B C C' : List UInt8} {W w w' : World} (h : Three n p q r va vb vc A B C W w) (h1 : p ≠ r) (h2 : q ≠ r) (hc : WrAt w' n r vc' C') (hO : Ow r vc w w') (hF : Fresh w.heap.size vc vc') : Three n p q r va vb vc' A B C' W w' := by
  obtain ⟨a1, a2⟩ := h.c.other h.a (Ne.symm h1) h.ac.symm hO hF
  obtain ⟨b1, b2⟩ := h.c.other h.b (Ne.symm h2) h.bc.symm hO hF
  exact ⟨a1, b1, hc, h.ab, a2.symm, b2.symm, h.below.trans (hO.below h.c)⟩
theorem Three.new (w : World) : Three w.heap.size w.heap.size (w.heap.size + 1) (w.heap.size + 1 + 1) (.slice none 0 0) (.slice none 0 0) (.slice none 0 0) [] [] [] w (((w.alloc (.cells #[.slice none 0 0] 73)).alloc (.cells #[.slice none 0 0] 73)).alloc (.cells #[.slice none 0 0] 73)) := by
  have h1 := WrAt.new w w.heap.size (Nat.le_refl _)
  have h2 := WrAt.new (w.alloc (.cells #[.slice none 0 0] 73)) w.heap.size (by simp)
  have h3 := WrAt.new ((w.alloc (.cells #[.slice none 0 0] 73)).alloc (.cells #[.slice none 0 0] 73)) w.heap.size (by simp; omega)
  simp only [World.size_alloc] at h2 h3
  have e1 := (Below.refl _ (w.alloc (.cells #[.slice none 0 0] 73))).alloc (Nat.le_refl _) (.cells #[.slice none 0 0] 73)
  have e2 := (Below.refl _ ((w.alloc (.cells #[.slice none 0 0] 73)).alloc (.cells #[.slice none 0 0] 73))).alloc (Nat.le_refl _) (.cells #[.slice none 0 0] 73)
  exact ⟨(h1.later e1).later e2, h2.later e2, h3, Apart.nil _, Apart.nil _, Apart.nil _, (((Below.refl _ w).alloc (Nat.le_refl _) _).alloc (by simp) _).alloc (by simp; omega) _⟩
theorem bStr_append (A B : List UInt8) : bStr (A ++ B) = bStr A ++ bStr B := by
  apply ByteArray.ext; unfold bStr; simp
theorem bStr_size (A : List UInt8) : (bStr A).size = A.length := rfl

theorem jret {b : Bool} (h : b = true) : Ending.returned (.bool b) = .returned (.bool true) := by rw [h]
set_option maxRecDepth 100000 in
set_option maxHeartbeats 8000000 in
theorem joins_loop (a : Option Addr) (la ca : Nat) (I : Nat → Itm) (b : Option Addr) (lb cb : Nat) (J : Nat → Itm) (w : World) (hA : Items w a la I) (hB : Items w b lb J)
    (hI : ∀ i, I64 (I i).n ∧ U64 (I i).u) (hJ : ∀ i, I64 (J i).n ∧ U64 (J i).u) (hsI : ∀ i, i < la → (I i).s.size ≤ reachBytes) (hsJ : ∀ i, i < lb → (J i).s.size ≤ reachBytes) (l1 : la ≤ 60) (l2 : lb ≤ 60) (z1 : szs I la ≤ 1000) (z2 : szs J lb ≤ 1000) :
    Calls Try.prog 4 #[.slice a la ca, .slice b lb cb] w fun e w' => e = .returned (.bool true) ∧ Below w.heap.size w w' := by
  have f1 := Lib.hid (show fewB I la = true by unfold fewB; simp; omega)
  have f2 := Lib.hid (show fewB J lb = true by unfold fewB; simp; omega)
  have FA := Lib.hid (fun W h => few_any a la ca I W h hsI (by unfold maxLen; omega))
  have FB := Lib.hid (fun W h => few_any b lb cb J W h hsJ (by unfold maxLen; omega))
  have HA := Lib.hid hA
  have HB := Lib.hid hB
  have HI := Lib.hid hI
  have HJ := Lib.hid hJ
  have LI := Lib.hid (fun k (h : k ≤ la) => itmsL_len I hI k (by omega) (by have := szs_mono I h; omega))
  have LJ := Lib.hid (fun k (h : k ≤ lb) => itmsL_len J hJ k (by omega) (by have := szs_mono J h; omega))
  have ZI := Lib.hid (fun k (h : k ≤ la) => Nat.le_trans (szs_mono I h) z1)
  have ZJ := Lib.hid (fun k (h : k ≤ lb) => Nat.le_trans (szs_mono J h) z2)
  clear hA hB hI hJ hsI hsJ z1 z2
  go_enter Try.func4, Try.ntmps4
  go_wp2_with fail
  refine (wireworks_any _).mono ?_
  rintro e w1 ⟨rfl, hb1⟩
  go_wp2_with fail
  refine (FA.out _ (HA.out.later hb1)).mono ?_
  rintro e w2 ⟨rfl, rfl⟩
  rw [f1.out]
  go_wp2_with fail
  refine (FB.out _ (HB.out.later hb1)).mono ?_
  rintro e w2 ⟨rfl, rfl⟩
  rw [f2.out]
  go_wp2_with (go_at_call 14; refine (wnew_any _).mono ?_; rintro e w2 ⟨rfl, rfl⟩)
  have HT := Lib.hid (Three.new w1)
  go_loopw [6, 8, 9] (fun x z i wr => ∃ (k : Nat) (va vc : Value), k ≤ la ∧ x = .pointer (some ⟨w1.heap.size, 0, none⟩) ∧ z = .pointer (some ⟨w1.heap.size + 1 + 1, 0, none⟩) ∧ i = .int .i64 k ∧ Three w1.heap.size w1.heap.size (w1.heap.size + 1) (w1.heap.size + 1 + 1) va (.slice none 0 0) vc (itmsL I k) [] (itmsL I k) w1 wr) (fun _ _ i _ => la - (intOf i).toNat)
  case atStart => exact ⟨0, _, _, by omega, rfl, rfl, rfl, HT.out⟩
  case round =>
    obtain ⟨k, va, vc, hk, rfl, rfl, rfl, hT⟩ := hrel
    have H := Lib.hid hT
    clear hT
    by_cases hlt : k < la
    · obtain ⟨bb, off, rfl, hbl, hc⟩ := (HA.out.later hb1).cells (by omega)
      have hbw := H.out.below.block bb hbl
      have hcell : ∀ j, j < 4 → wr.cell? ⟨bb, off + k * 4 + j, none⟩ = (itmCells (I k))[j]? := fun j hj => (World.cell?_of_block (w := w1) (a := ⟨bb, _, none⟩) hbw).trans (hc k hlt j hj)
      obtain ⟨⟨xk, xn, xu, xs⟩, hx⟩ : ∃ x, I k = x := ⟨_, rfl⟩
      have hII := HI.out k
      have hsz := szs_at I (show k < k + 1 by omega)
      have hz := ZI.out (k + 1) (by omega)
      have hlen := LI.out k hk
      have hz2 := ZI.out k hk
      have hit : itmsL I (k + 1) = itmsL I k ++ itmL ⟨xk, xn, xu, xs⟩ := by rw [← hx]; rfl
      rw [hx] at hcell hII hsz
      simp only at hsz
      have c0 : wr.cell? ⟨bb, off + k * 4, none⟩ = some (.int .i64 xk) := hcell 0 (by decide)
      have c1 : wr.cell? ⟨bb, off + k * 4 + 1, none⟩ = some (.int .i64 xn) := hcell 1 (by decide)
      have c2 : wr.cell? ⟨bb, off + k * 4 + 2, none⟩ = some (.int .u64 xu) := hcell 2 (by decide)
      have c3 : wr.cell? ⟨bb, off + k * 4 + 3, none⟩ = some (.string xs) := hcell 3 (by decide)
      have hL : (itmsL I k).length + xs.size ≤ 10000000 := by omega
      have HL := Lib.hid hL
      have HIT := Lib.hid hit
      have HII := Lib.hid hII
      have HBW := Lib.hid hbw
      have HCE := Lib.hid hcell
      clear hL hit hII hbw hcell hc hx hsz hz hlen hz2
      go_wp2_with fail
      refine (put_it w1.heap.size w1.heap.size va (itmsL I k) xk xn xu xs _ H.out.a HII.out.1 HII.out.2 HL.out).mono ?_
      rintro e w2 ⟨rfl, va', a1, a2, a3⟩
      have H2 := Lib.hid (H.out.setA (by omega) (by omega) a1 a2 a3)
      have hb2 := a2.below H.out.a
      have hce2 : ∀ j, j < 4 → w2.cell? ⟨bb, off + k * 4 + j, none⟩ = (itmCells ⟨xk, xn, xu, xs⟩)[j]? := fun j hj => (World.cell?_of_block (w := wr) (a := ⟨bb, _, none⟩) (hb2.block bb hbl)).trans (HCE.out j hj)
      have d0 : w2.cell? ⟨bb, off + k * 4, none⟩ = some (.int .i64 xk) := hce2 0 (by decide)
      have d1 : w2.cell? ⟨bb, off + k * 4 + 1, none⟩ = some (.int .i64 xn) := hce2 1 (by decide)
      have d2 : w2.cell? ⟨bb, off + k * 4 + 2, none⟩ = some (.int .u64 xu) := hce2 2 (by decide)
      have d3 : w2.cell? ⟨bb, off + k * 4 + 3, none⟩ = some (.string xs) := hce2 3 (by decide)
      clear c0 c1 c2 c3 a1 a2 a3 hb2 hce2
      go_wp2_with fail
      refine (put_it w1.heap.size (w1.heap.size + 1 + 1) vc (itmsL I k) xk xn xu xs _ H2.out.c HII.out.1 HII.out.2 HL.out).mono ?_
      rintro e w3 ⟨rfl, vc', c1, c2, c3⟩
      have H3 := Lib.hid (H2.out.setC (by omega) (by omega) c1 c2 c3)
      clear c1 c2 c3 d0 d1 d2 d3
      go_wp2_with fail
      go_roundw
      case rel => exact ⟨k + 1, va', vc', by omega, rfl, rfl, by go_num, by rw [HIT.out]; exact H3.out⟩
      case measure => simp [intOf]; omega
    · obtain rfl : la = k := by omega
      go_wp2_with fail
      go_loopw [7, 8, 10] (fun x z i wr => ∃ (k : Nat) (vb vc : Value), k ≤ lb ∧ x = .pointer (some ⟨w1.heap.size + 1, 0, none⟩) ∧ z = .pointer (some ⟨w1.heap.size + 1 + 1, 0, none⟩) ∧ i = .int .i64 k ∧ Three w1.heap.size w1.heap.size (w1.heap.size + 1) (w1.heap.size + 1 + 1) va vb vc (itmsL I la) (itmsL J k) (itmsL I la ++ itmsL J k) w1 wr) (fun _ _ i _ => lb - (intOf i).toNat)
      case atStart => exact ⟨0, _, _, by omega, rfl, rfl, rfl, by rw [show itmsL J 0 = [] by rfl, List.append_nil]; exact H.out⟩
      case round =>
        obtain ⟨k, vb, vc', hk, rfl, rfl, rfl, hT⟩ := hrel
        have H' := Lib.hid hT
        clear hT H
        by_cases hlt : k < lb
        · obtain ⟨bb, off, rfl, hbl, hc⟩ := (HB.out.later hb1).cells (by omega)
          have hbw := H'.out.below.block bb hbl
          have hcell : ∀ j, j < 4 → wr.cell? ⟨bb, off + k * 4 + j, none⟩ = (itmCells (J k))[j]? := fun j hj => (World.cell?_of_block (w := w1) (a := ⟨bb, _, none⟩) hbw).trans (hc k hlt j hj)
          obtain ⟨⟨xk, xn, xu, xs⟩, hx⟩ : ∃ x, J k = x := ⟨_, rfl⟩
          have hII := HJ.out k
          have hsz := szs_at J (show k < k + 1 by omega)
          have hz := ZJ.out (k + 1) (by omega)
          have hlen := LJ.out k hk
          have hz2 := ZJ.out k hk
          have hit : itmsL J (k + 1) = itmsL J k ++ itmL ⟨xk, xn, xu, xs⟩ := by rw [← hx]; rfl
          have hlenI := LI.out la (Nat.le_refl _)
          have hzI := ZI.out la (Nat.le_refl _)
          rw [hx] at hcell hII hsz
          simp only at hsz
          have c0 : wr.cell? ⟨bb, off + k * 4, none⟩ = some (.int .i64 xk) := hcell 0 (by decide)
          have c1 : wr.cell? ⟨bb, off + k * 4 + 1, none⟩ = some (.int .i64 xn) := hcell 1 (by decide)
          have c2 : wr.cell? ⟨bb, off + k * 4 + 2, none⟩ = some (.int .u64 xu) := hcell 2 (by decide)
          have c3 : wr.cell? ⟨bb, off + k * 4 + 3, none⟩ = some (.string xs) := hcell 3 (by decide)
          have hL : (itmsL J k).length + xs.size ≤ 10000000 := by omega
          have hL2 : (itmsL I la ++ itmsL J k).length + xs.size ≤ 10000000 := by rw [List.length_append]; omega
          have HL2 := Lib.hid hL2
          have HL := Lib.hid hL
          have HIT := Lib.hid hit
          have HII := Lib.hid hII
          have HBW := Lib.hid hbw
          have HCE := Lib.hid hcell
          clear hL hL2 hlenI hzI hit hII hbw hcell hc hx hsz hz hlen hz2
          go_wp2_with fail
          refine (put_it w1.heap.size (w1.heap.size + 1) vb (itmsL J k) xk xn xu xs _ H'.out.b HII.out.1 HII.out.2 HL.out).mono ?_
          rintro e w2 ⟨rfl, vb', a1, a2, a3⟩
          have H2 := Lib.hid (H'.out.setB (by omega) (by omega) a1 a2 a3)
          have hb2 := a2.below H'.out.b
          have hce2 : ∀ j, j < 4 → w2.cell? ⟨bb, off + k * 4 + j, none⟩ = (itmCells ⟨xk, xn, xu, xs⟩)[j]? := fun j hj => (World.cell?_of_block (w := wr) (a := ⟨bb, _, none⟩) (hb2.block bb hbl)).trans (HCE.out j hj)
          have d0 : w2.cell? ⟨bb, off + k * 4, none⟩ = some (.int .i64 xk) := hce2 0 (by decide)
          have d1 : w2.cell? ⟨bb, off + k * 4 + 1, none⟩ = some (.int .i64 xn) := hce2 1 (by decide)
          have d2 : w2.cell? ⟨bb, off + k * 4 + 2, none⟩ = some (.int .u64 xu) := hce2 2 (by decide)
          have d3 : w2.cell? ⟨bb, off + k * 4 + 3, none⟩ = some (.string xs) := hce2 3 (by decide)
          clear c0 c1 c2 c3 a1 a2 a3 hb2 hce2
          go_wp2_with fail
          refine (put_it w1.heap.size (w1.heap.size + 1 + 1) vc' (itmsL I la ++ itmsL J k) xk xn xu xs _ H2.out.c HII.out.1 HII.out.2 HL2.out).mono ?_
          rintro e w3 ⟨rfl, vc'', c1, c2, c3⟩
          have H3 := Lib.hid (H2.out.setC (by omega) (by omega) c1 c2 c3)
          clear c1 c2 c3 d0 d1 d2 d3
          go_wp2_with fail
          go_roundw
          case rel => exact ⟨k + 1, vb', vc'', by omega, rfl, rfl, by go_num, by rw [HIT.out, ← List.append_assoc]; exact H3.out⟩
          case measure => simp [intOf]; omega
        · obtain rfl : k = lb := by omega
          have E := Lib.hid (bStr_append (itmsL I la) (itmsL J k))
          have hlA := LI.out la (Nat.le_refl _)
          have hzA := ZI.out la (Nat.le_refl _)
          have hlB := LJ.out k (Nat.le_refl _)
          have hzB := ZJ.out k (Nat.le_refl _)
          obtain ⟨A, hA⟩ : ∃ A, itmsL I la = A := ⟨_, rfl⟩
          obtain ⟨B, hB⟩ : ∃ B, itmsL J k = B := ⟨_, rfl⟩
          rw [hA] at H' E hlA
          rw [hB] at H' E hlB
          have sA : (bStr A).size ≤ 10000 := by rw [bStr_size]; omega
          have sB : (bStr B).size ≤ 10000 := by rw [bStr_size]; omega
          have sAB : (bStr A).size + (bStr B).size ≤ 9223372036854775807 := by omega
          have lA : Hid (([] : List UInt8).length + (bStr A).size ≤ 100000000) := Lib.hid (by simp; omega)
          have lAB : Hid ((A : List UInt8).length + (bStr B).size ≤ 100000000) := Lib.hid (by rw [bStr_size] at sA; omega)
          clear hlA hzA hlB hzB hA hB
          go_wp2_with fail
          refine (wbytes_any w1.heap.size w1.heap.size va A _ H'.out.a).mono ?_
          rintro e w2 ⟨rfl, rfl⟩
          go_wp2_with fail
          refine (wbytes_any w1.heap.size (w1.heap.size + 1) vb B _ H'.out.b).mono ?_
          rintro e w2 ⟨rfl, rfl⟩
          go_wp2_with fail
          refine (wbytes_any w1.heap.size (w1.heap.size + 1 + 1) vc' _ _ H'.out.c).mono ?_
          rintro e w2 ⟨rfl, rfl⟩
          rw [E.out]
          go_wp2_with fail
          refine (wnew_any _).mono ?_
          rintro e w2 ⟨rfl, hw2⟩
          have hn : w1.heap.size ≤ wr.heap.size := H'.out.below.size
          have hd := WrAt.new wr w1.heap.size hn
          rw [hw2] at hd
          have hbn : Below wr.heap.size wr w2 := by rw [← hw2]; exact (Below.refl _ _).alloc (Nat.le_refl _) _
          have ha2 := H'.out.a.later hbn
          have hB2 := H'.out.b.later hbn
          have hpd : w1.heap.size < wr.heap.size := H'.out.a.box.lt
          have hqd : w1.heap.size + 1 < wr.heap.size := H'.out.b.box.lt
          have hbel : Below w1.heap.size w1 w2 := H'.out.below.trans (hbn.mono hn)
          have HD := Lib.hid hd
          have HA2 := Lib.hid ha2
          have HB2 := Lib.hid hB2
          clear hw2 hd hbn ha2 hB2 H'
          go_wp2_with fail
          refine (wbytes_any w1.heap.size w1.heap.size va A _ HA2.out).mono ?_
          rintro e w3 ⟨rfl, rfl⟩
          go_wp2_with fail
          refine (wraw_any w1.heap.size wr.heap.size _ [] (bStr A) _ HD.out lA.out).mono ?_
          rintro e w3 ⟨rfl, vd, d1, d2, d3⟩
          have HB3 := Lib.hid (HD.out.other HB2.out (by omega) (Apart.nil _) d2 d3).1
          have hbel3 := hbel.trans (d2.below HD.out)
          rw [List.nil_append, show (bStr A).data.toList = A by rfl] at d1
          have HD3 := Lib.hid d1
          clear d1 d2 d3 hbel HD HA2 HB2
          go_wp2_with fail
          refine (wbytes_any w1.heap.size (w1.heap.size + 1) vb B _ HB3.out).mono ?_
          rintro e w4 ⟨rfl, rfl⟩
          go_wp2_with fail
          refine (wraw_any w1.heap.size wr.heap.size vd A (bStr B) _ HD3.out lAB.out).mono ?_
          rintro e w4 ⟨rfl, ve, d1, d2, d3⟩
          have hbel4 := hbel3.trans (d2.below HD3.out)
          rw [show (bStr B).data.toList = B by rfl] at d1
          have HD4 := Lib.hid d1
          clear d1 d2 d3 hbel3 HD3 HB3
          go_wp2_with fail
          refine (wbytes_any w1.heap.size wr.heap.size ve _ _ HD4.out).mono ?_
          rintro e w5 ⟨rfl, rfl⟩
          rw [E.out]
          go_wp2_with fail
          all_goals go_ret
          all_goals exact ⟨jret (by first | rfl | simp), hb1.trans (hbel4.mono hb1.size)⟩

/-- what is known of a parameter that is a list of items -/
def ItemsP (W : World) (a : Option Addr) (len cap : Nat) (I : Nat → Itm) : Prop := Items W a len I ∧ len ≤ cap ∧ cap ≤ maxLen ∧ (a = none → len = 0 ∧ cap = 0) ∧ (∀ i, I64 (I i).n ∧ U64 (I i).u) ∧ ∀ i, i < len → (I i).s.size ≤ reachBytes
set_option maxRecDepth 100000 in
set_option maxHeartbeats 4000000 in
theorem walk_wjoins (a : Option Addr) (la ca : Nat) (I : Nat → Itm) (b : Option Addr) (lb cb : Nat) (J : Nat → Itm) (w : World) (hA : ItemsP w a la ca I) (hB : ItemsP w b lb cb J) :
    Calls Try.prog 4 #[.slice a la ca, .slice b lb cb] w fun e w' => e = .returned (.bool true) ∧ Below w.heap.size w w' := by
  obtain ⟨hA, ha1, ha2, _, hI, hsI⟩ := hA
  obtain ⟨hB, hb1, hb2, _, hJ, hsJ⟩ := hB
  have FA := Lib.hid (fun W h => few_any a la ca I W h hsI (by omega))
  have FB := Lib.hid (fun W h => few_any b lb cb J W h hsJ (by omega))
  have HA := Lib.hid hA
  have HB := Lib.hid hB
  by_cases h1 : fewB I la = true
  · by_cases h2 : fewB J lb = true
    · unfold fewB at h1 h2
      simp only [Bool.and_eq_true, decide_eq_true_eq] at h1 h2
      exact joins_loop a la ca I b lb cb J w hA hB hI hJ hsI hsJ h1.1 h2.1 h1.2 h2.2
    · have f1 := Lib.hid h1
      have f2 := Lib.hid (show fewB J lb = false by simpa using h2)
      clear h1 h2 hA hB hI hJ hsI hsJ
      go_enter Try.func4, Try.ntmps4
      go_wp2_with fail
      refine (wireworks_any _).mono ?_
      rintro e w1 ⟨rfl, hw1⟩
      go_wp2_with fail
      refine (FA.out _ (HA.out.later hw1)).mono ?_
      rintro e w2 ⟨rfl, rfl⟩
      rw [f1.out]
      go_wp2_with fail
      refine (FB.out _ (HB.out.later hw1)).mono ?_
      rintro e w2 ⟨rfl, rfl⟩
      rw [f2.out]
      go_wp2_with fail
      go_ret
      exact ⟨rfl, hw1⟩
  · have f1 := Lib.hid (show fewB I la = false by simpa using h1)
    clear h1 hA hB hI hJ hsI hsJ
    go_enter Try.func4, Try.ntmps4
    go_wp2_with fail
    refine (wireworks_any _).mono ?_
    rintro e w1 ⟨rfl, hw1⟩
    go_wp2_with fail
    refine (FA.out _ (HA.out.later hw1)).mono ?_
    rintro e w2 ⟨rfl, rfl⟩
    rw [f1.out]
    go_wp2_with fail
    go_ret
    exact ⟨rfl, hw1⟩
end Go.Proofs.Ytpnljefgenniaaa

