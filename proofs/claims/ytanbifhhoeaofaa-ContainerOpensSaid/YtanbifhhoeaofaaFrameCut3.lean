/- The third and fourth step of frame's Get. No conditions. -/
import Derived.Test.YtanbifhhoeaofaaFrameCut2
import Derived.Test.YtanbifhhoeaofaaCrcGood
import Derived.Test.YtanbifhhoeaofaaLebRef
namespace Go.Proofs.Ytanbifhhoeaofaa
set_option linter.unusedVariables false
open Go Go.RowKit

def CutN (r K Bc n : Nat) (x : Int) (w' : World) : Prop := CutS r K Bc w' ∧ w'.cell? ⟨n, 0, none⟩ = some (.int .i64 x) ∧ n ≠ K
theorem CutN.drew {r K Bc n : Nat} {x : Int} {w : World} (h : CutN r K Bc n x w) : CutN r K Bc n x w.drew := h
theorem CutN.set {r K Bc n : Nat} {x : Int} {w : World} (h : CutN r K Bc n x w) (o : Nat) (v : Value) (ho : 0 < o) : CutN r K Bc n x (w.setCell ⟨K, o, none⟩ v) :=
  ⟨h.1.set o v ho, (World.cell?_setCell_other _ _ _ _ (by simp)).trans h.2.1, h.2.2⟩
/-- what the third step has read -/
def e3 (s : ByteArray) (a n : Nat) : Nat := if a + n + 4 ≤ s.size then 0 else 2
theorem step3_plain (s : ByteArray) (a n : Nat) (ha : a ≤ s.size) :
    wrF (mvE (mvE 0 (wE s a n)) (wE s (mvA a 0 (wT s a n) (wE s a n)) 4)) = e3 s a n ∧ mvE (mvE 0 (wE s a n)) (wE s (mvA a 0 (wT s a n) (wE s a n)) 4) = e3 s a n ∧
    (e3 s a n = 0 → mvA (mvA a 0 (wT s a n) (wE s a n)) (mvE 0 (wE s a n)) (wT s (mvA a 0 (wT s a n) (wE s a n)) 4) (wE s (mvA a 0 (wT s a n) (wE s a n)) 4) = a + n + 4 ∧ tk 0 (wE s a n) (wS s a n) ⟨#[]⟩ = s.extract a (a + n)) := by
  have hE : ∀ q m : Nat, wE s q m = if q + m ≤ s.size then 0 else 2 := fun q m => by unfold wE pE; rw [if_neg (by omega), Int.toNat_natCast]
  have hT : ∀ q m : Nat, wT s q m = if q + m ≤ s.size then q + m else q := fun q m => by unfold wT pT; rw [if_neg (by omega), Int.toNat_natCast]
  have hE4 : ∀ q : Nat, wE s q 4 = if q + 4 ≤ s.size then 0 else 2 := fun q => hE q 4
  have hT4 : ∀ q : Nat, wT s q 4 = if q + 4 ≤ s.size then q + 4 else q := fun q => hT q 4
  by_cases h1 : a + n ≤ s.size
  · have e1 : wE s a n = 0 := by rw [hE, if_pos h1]
    have t1 : wT s a n = a + n := by rw [hT, if_pos h1]
    have m1 : mvA a 0 (wT s a n) (wE s a n) = a + n := by rw [e1, t1]; rfl
    rw [m1, e1, hE4, hT4]
    by_cases h2 : a + n + 4 ≤ s.size
    · rw [if_pos h2, if_pos h2]
      have : e3 s a n = 0 := by unfold e3; rw [if_pos h2]
      rw [this]
      refine ⟨rfl, rfl, fun _ => ⟨rfl, ?_⟩⟩
      unfold tk wS pS
      rw [if_pos ⟨rfl, rfl⟩, if_neg (by omega), Int.toNat_natCast, if_pos h1]
    · rw [if_neg h2, if_neg h2]
      have : e3 s a n = 2 := by unfold e3; rw [if_neg h2]
      rw [this]
      exact ⟨rfl, rfl, fun h => by cases h⟩
  · have e1 : wE s a n = 2 := by rw [hE, if_neg h1]
    have : e3 s a n = 2 := by unfold e3; rw [if_neg (by omega)]
    rw [this, e1]
    exact ⟨rfl, rfl, fun h => by cases h⟩
set_option maxRecDepth 100000 in
set_option maxHeartbeats 8000000 in
theorem step3_any (r K Bc n : Nat) (s : ByteArray) (a ty x : Nat) (d tl : ByteArray) (w : World) (h : CutAt w r K Bc s a 0 ty d tl) (hn : IntBox w n x) (n1 : n ≠ r) (n2 : n ≠ K) (n3 : n ≠ Bc) (hs : s.size ≤ maxLen) (ha : a ≤ s.size) (hx : x ≤ 1048576) :
    Calls Try.prog 56 #[.pointer (some ⟨Bc, 0, none⟩), .pointer (some ⟨n, 0, none⟩)] w fun e w' => e = .returned (.int .i64 (e3 s a x : Nat)) ∧ (e3 s a x = 0 → ∃ tl', CutAt w' r K Bc s (a + x + 4) 0 ty (s.extract a (a + x)) tl') ∧ Only3 r K n w w' := by
  have h2 : mvA a 0 (wT s a x) (wE s a x) ≤ s.size := (mvA_le ha (wT_le ha)).2
  have C1 := Lib.hid (fun W h => rraw_any r s a 0 (x : Int) W h hs ha (by omega))
  have C2 := Lib.hid (fun W h => rraw_any r s (mvA a 0 (wT s a x) (wE s a x)) (mvE 0 (wE s a x)) 4 W h hs h2 (by decide))
  obtain ⟨p1, p2, p3⟩ := step3_plain s a x ha
  have P1 := Lib.hid p1
  have P2 := Lib.hid p2
  have P3 := Lib.hid p3
  have H := Lib.hid h
  have HN := Lib.hid hn
  have hS : CutN r K Bc n x w := ⟨h.look, hn.c0, n2⟩
  clear h hn p1 p2 p3 h2
  generalize e3 s a x = E at P1 P2 P3 ⊢
  generalize mvA (mvA a 0 (wT s a x) (wE s a x)) (mvE 0 (wE s a x)) (wT s (mvA a 0 (wT s a x) (wE s a x)) 4) (wE s (mvA a 0 (wT s a x) (wE s a x)) 4) = y2 at C2 P3
  generalize mvE (mvE 0 (wE s a x)) (wE s (mvA a 0 (wT s a x) (wE s a x)) 4) = z2 at C2 P1 P2
  generalize tk (mvE 0 (wE s a x)) (wE s (mvA a 0 (wT s a x) (wE s a x)) 4) (wS s (mvA a 0 (wT s a x) (wE s a x)) 4) ⟨#[]⟩ = u2 at C2
  generalize tk 0 (wE s a x) (wS s a x) ⟨#[]⟩ = u1 at C1 P3
  generalize mvA a 0 (wT s a x) (wE s a x) = y1 at C1 C2
  generalize mvE 0 (wE s a x) = z1 at C1 C2
  have l0 : ∀ w', CutN r K Bc n x w' → w'.cell? ⟨Bc, 0, none⟩ = some (.pointer (some ⟨K, 0, none⟩)) := fun _ h => h.1.1
  have l1 : ∀ w', CutN r K Bc n x w' → w'.cell? ⟨K, 0, none⟩ = some (.pointer (some ⟨r, 0, none⟩)) := fun _ h => h.1.2.1
  have l2 : ∀ w', CutN r K Bc n x w' → w'.frozen? ⟨K, 3, none⟩ = false := fun _ h => h.1.2.2.1.2.1
  have l3 : ∀ w', CutN r K Bc n x w' → w'.frozen? ⟨K, 4, none⟩ = false := fun _ h => h.1.2.2.1.2.2
  have l4 : ∀ w', CutN r K Bc n x w' → w'.cell? ⟨n, 0, none⟩ = some (.int .i64 x) := fun _ h => h.2.1
  go_enter Try.func56, Try.ntmps56
  go_wp2_with fail
  go_region_held3 (fun w' => CutN r K Bc n x w') (first | assumption | exact CutN.drew (by assumption) | exact CutN.set (by assumption) 3 _ (by decide) | exact CutN.set (by assumption) 4 _ (by decide))
    (first | (go_at_call 57; (with_reducible refine (C1.out _ (H.out.rd.at (w' := w.drew) rfl)).mono ?_); rintro e w3 ⟨rfl, hR3, hO3⟩; have hC3 := (H.out.drewN 1).read hR3 hO3; have hN3 := (show IntBox (w.drewN 1) n x from HN.out).read n1 hO3; have hS3 : CutN r K Bc n x w3 := ⟨hC3.look, hN3.c0, n2⟩) | (go_at_call 57; (with_reducible refine (C2.out _ hR3).mono ?_); rintro e w4 ⟨rfl, hR4, hO4⟩; have hC4 := hC3.read hR4 hO4; have hN4 := hN3.read n1 hO4; have hS4 : CutN r K Bc n x w4 := ⟨hC4.look, hN4.c0, n2⟩; have hk3 := hC4.k3; have hk4 := hC4.k4))
  all_goals go_wp2_with fail
  have hC5 := Lib.hid ((hC4.setD u1).setTl u2)
  have O5 : Only3 r K n w ((w4.setCell ⟨K, 3, none⟩ (.string u1)).setCell ⟨K, 4, none⟩ (.string u2)) := ((((hO3.three K n).trans (hO4.three K n)).setK 3 _).setK 4 _).pre (k := 1)
  generalize (w4.setCell ⟨K, 3, none⟩ (.string u1)).setCell ⟨K, 4, none⟩ (.string u2) = W5 at hC5 O5 ⊢
  refine (wrong_any r K Bc s y2 z2 ty u1 u2 _ hC5.out).mono ?_
  rintro e w6 ⟨rfl, m, rfl⟩
  rw [P1.out]
  clear l0 l1 l2 l3 l4 hS hR4 hC4 hN4 hR3 hC3 hN3
  go_wp2_with fail
  go_ret
  refine ⟨rfl, fun h0 => ⟨u2, ?_⟩, O5.drewN m⟩
  obtain ⟨q1, q2⟩ := P3.out h0
  have hz : z2 = 0 := P2.out.trans h0
  have q := hC5.out.drewN m
  rw [q1, q2, hz] at q
  exact q
set_option maxRecDepth 100000 in
set_option maxHeartbeats 8000000 in
theorem step4_any (r K Bc : Nat) (s : ByteArray) (a ty : Nat) (d tl : ByteArray) (w : World) (h : CutAt w r K Bc s a 0 ty d tl) (hs : s.size ≤ maxLen) (ha : a ≤ s.size) :
    Calls Try.prog 58 #[.pointer (some ⟨Bc, 0, none⟩)] w fun e w' => e = .returned (.int .i64 ((if crcGood (s.extract 0 a).data.toList = true then 0 else 6 : Nat) : Int)) ∧ Below w.heap.size w w' := by
  have hz : (s.extract 0 a).size ≤ 9223372036854775807 := by rw [ByteArray.size_extract]; unfold maxLen at hs; omega
  have CG := Lib.hid (fun W => good_any (s.extract 0 a) W hz)
  have CA := Lib.hid (fun W h => rat_any r s a 0 W h)
  have H := Lib.hid h
  have HB := Below.refl w.heap.size w
  have l0 : ∀ w', Below w.heap.size w w' → w'.cell? ⟨Bc, 0, none⟩ = some (.pointer (some ⟨K, 0, none⟩)) := fun _ hb => (h.later hb).b0
  have l1 : ∀ w', Below w.heap.size w w' → w'.cell? ⟨K, 0, none⟩ = some (.pointer (some ⟨r, 0, none⟩)) := fun _ hb => (h.later hb).k0
  have l2 : ∀ w', Below w.heap.size w w' → w'.cell? ⟨K, 1, none⟩ = some (.string s) := fun _ hb => (h.later hb).k1
  have hb1 : (0 : Int) ≤ (a : Int) := by omega
  have hb2 : (a : Int) ≤ (s.size : Int) := by omega
  clear h hz hs
  cases hg : crcGood (s.extract 0 a).data.toList with
  | true =>
    rw [hg] at CG
    clear hg
    go_enter Try.func58, Try.ntmps58
    go_wp2_with fail
    go_region_held3 (fun w' => Below w.heap.size w w') (first | assumption | go_grown)
      (first | (go_at_call 54; refine (CA.out _ (H.out.rd.later (by first | assumption | go_grown))).mono ?_; rintro e w3 ⟨rfl, rfl⟩) | (go_at_call 59; refine (CG.out _).mono ?_; rintro e w3 ⟨rfl, hb3⟩; obtain ⟨hbl, hsz⟩ := later' (by first | assumption | go_grown) hb3; clear hb3))
    all_goals go_wp2_with fail
    all_goals go_ret
    all_goals exact ⟨rfl, by first | assumption | go_grown⟩
  | false =>
    rw [hg] at CG
    clear hg
    go_enter Try.func58, Try.ntmps58
    go_wp2_with fail
    go_region_held3 (fun w' => Below w.heap.size w w') (first | assumption | go_grown)
      (first | (go_at_call 54; refine (CA.out _ (H.out.rd.later (by first | assumption | go_grown))).mono ?_; rintro e w3 ⟨rfl, rfl⟩) | (go_at_call 59; refine (CG.out _).mono ?_; rintro e w3 ⟨rfl, hb3⟩; obtain ⟨hbl, hsz⟩ := later' (by first | assumption | go_grown) hb3; clear hb3))
    all_goals go_wp2_with fail
    all_goals go_ret
    all_goals exact ⟨rfl, by first | assumption | go_grown⟩
end Go.Proofs.Ytanbifhhoeaofaa

