/- The document's size, ordered, foot, number of containers. No conditions. -/
import Derived.Test.YtanbifhhoeaofaaCont2
import Derived.Test.YtanbifhhoeaofaaFrameRef
import Derived.Test.YtanbifhhoeaofaaLebRef
namespace Go.Proofs.Ytanbifhhoeaofaa
set_option linter.unusedVariables false
open Go Go.RowKit

set_option maxHeartbeats 4000000 in
theorem rcsize_any (x : Sec) (w : World) (hd : x.2.size ≤ 1000000000) :
    Calls Try.prog 28 #[secV x] w fun e w' => e = .returned (.int .i64 (cSize x : Nat)) ∧ Below w.heap.size w w' := by
  obtain ⟨ty, d⟩ := x
  have HD := Lib.hid (fun W => rhead_any ty d W hd)
  have hl := lebL_len (m := d.size) (by unfold U64; simp only at hd; omega)
  have hfl : (fHead ty d).length ≤ 11 := by unfold fHead; simp only [List.length_cons]; omega
  have HV := Lib.hid (show cSize (ty, d) = (bStr (fHead ty d)).size + d.size + 4 from rfl)
  have hsz : (bStr (fHead ty d)).size ≤ 11 := hfl
  simp only at hd
  generalize bStr (fHead ty d) = H at HD HV hsz
  unfold secV
  simp only
  clear hl hfl
  go_enter Try.func28, Try.ntmps28
  go_wp2_with fail
  have hA := heap_alloc_new w (.cells #[.int .i64 ty, .string d] 36)
  have hB : Below w.heap.size w (w.alloc (.cells #[.int .i64 ty, .string d] 36)) := (Below.refl _ w).alloc (Nat.le_refl _) _
  have hz : w.heap.size < (w.alloc (.cells #[.int .i64 ty, .string d] 36)).heap.size := by simp
  generalize w.alloc (.cells #[.int .i64 ty, .string d] 36) = V at hA hB hz ⊢
  have k0 : ∀ w', Below V.heap.size V w' → w'.cell? ⟨w.heap.size, 0, none⟩ = some (.int .i64 ty) := fun w' h => (h.cell (p := ⟨w.heap.size, 0, none⟩) hz).trans (by unfold World.cell?; rw [hA]; rfl)
  have k1 : ∀ w', Below V.heap.size V w' → w'.cell? ⟨w.heap.size, 1, none⟩ = some (.string d) := fun w' h => (h.cell (p := ⟨w.heap.size, 1, none⟩) hz).trans (by unfold World.cell?; rw [hA]; rfl)
  have hV := Below.refl V.heap.size V
  have HB := Lib.hid hB
  have hwr : IntKind.i64.wrap (IntKind.i64.wrap ((H.size : Int) + (d.size : Int)) + 4) = ((H.size + d.size + 4 : Nat) : Int) := by rw [IntKind.wrap_i64, IntKind.wrap_i64]; omega
  clear hA hB
  go_region_held3 (fun w' => Below V.heap.size V w') (first | assumption | go_grown) ((go_at_call 44; refine (HD.out _).mono ?_; rintro e w2 ⟨rfl, hb2⟩; obtain ⟨hbl2, hsz2⟩ := later' (by first | assumption | go_grown) hb2; clear hb2))
  go_wp2_with fail
  go_ret
  exact ⟨congrArg (fun x => Ending.returned (.int .i64 x)) (by rw [HV.out]; omega), HB.out.trans (Below.mono (by assumption) HB.out.size)⟩
set_option maxRecDepth 100000 in
set_option maxHeartbeats 4000000 in
theorem rordered_any (pa : Option Addr) (c : Nat) (L : List Sec) (w : World) (hL : SecsAt w pa L) (hm : L.length ≤ maxLen) :
    Calls Try.prog 27 #[.slice pa L.length c] w fun e w' => e = .returned (.bool (cOrd L)) ∧ Below w.heap.size w w' := by
  have HL := Lib.hid hL
  have HC := Lib.hid (show cOrd L = (ordFrom 0 L && (decide (1 ≤ L.length) && decide (L.length ≤ 16))) from rfl)
  have HO := Lib.hid (fun k x h p => ordFrom_drop L k (x := x) h p)
  have HZ := Lib.hid (show ordFrom 0 L = ordFrom 0 (L.drop 0) by rw [List.drop_zero])
  have HE := Lib.hid (fun p => show ordFrom p (L.drop L.length) = true by rw [List.drop_length]; rfl)
  have HAT := Lib.hid (fun k (h : k < L.length) => sec_at (A := L) h)
  generalize L.length = n at hm HC HE HAT ⊢
  generalize cOrd L = r at HC ⊢
  have hn : n ≤ 9223372036854775807 := hm
  clear hL hm
  go_enter Try.func27, Try.ntmps27
  go_wp2_with fail
  go_loopw [3] (fun i wr => ∃ (k : Nat) (p : Int), k ≤ n ∧ i = .int .i64 k ∧ ordFrom 0 L = ordFrom p (L.drop k) ∧ ((k = 0 ∧ p = 0) ∨ ∃ j y, k = j + 1 ∧ L[j]? = some y ∧ p = y.1 ∧ 0 < p) ∧ Below w.heap.size w wr) (fun i _ => n - (intOf i).toNat)
  case atStart => exact ⟨0, 0, by omega, rfl, HZ.out, .inl ⟨rfl, rfl⟩, Below.refl _ _⟩
  case round =>
    obtain ⟨k, p, hk, rfl, ho, hp, hB⟩ := hrel
    have HOK := Lib.hid ho
    have HB := Lib.hid hB
    clear ho hB
    by_cases hlt : k < n
    · obtain ⟨x, hx⟩ := HAT.out k hlt
      have HX := Lib.hid hx
      obtain ⟨b, off, hpa, hbl, c0, c1⟩ := (HL.out.later HB.out).at hx
      have ho := HO.out k x hx
      obtain ⟨ty, d⟩ := x
      simp only at c0 c1 ho
      subst hpa
      rcases hp with ⟨rfl, rfl⟩ | ⟨j, y, rfl, hy, hpy, hp0⟩
      · simp only [Nat.zero_mul, Nat.add_zero] at c0
        by_cases h1 : ty < 1
        · have d1 : decide (ty < 1) = true := by simp; omega
          have HN := Lib.hid (show r = false by rw [HC.out, HOK.out, ho, decide_eq_false (show ¬ 0 < ty by omega)]; simp)
          clear ho HOK hx
          go_wp2_with fail
          go_region
          go_wp2_with fail
          go_ret
          exact ⟨by rw [HN.out]; rfl, HB.out.drew⟩
        · have d1 : decide (ty < 1) = false := by simp; omega
          by_cases h2 : 255 < ty
          · have d2 : decide (ty > 255) = true := by simp; omega
            have HN := Lib.hid (show r = false by rw [HC.out, HOK.out, ho, decide_eq_false (show ¬ ty ≤ 255 by omega)]; simp)
            clear ho HOK hx
            go_wp2_with fail
            go_region
            go_wp2_with fail
            go_ret
            exact ⟨by rw [HN.out]; rfl, HB.out.drew⟩
          · have d2 : decide (ty > 255) = false := by simp; omega
            have HN := Lib.hid (show ordFrom 0 L = ordFrom ty (L.drop (0 + 1)) by rw [HOK.out, ho, decide_eq_true (show 0 < ty by omega), decide_eq_true (show ty ≤ 255 by omega)]; rfl)
            clear ho HOK hx
            go_wp2_with fail
            go_region
            go_wp2_with fail
            go_roundw
            case rel => exact ⟨0 + 1, ty, by omega, by go_num, HN.out, .inr ⟨0, _, rfl, HX.out, rfl, by omega⟩, HB.out.drew⟩
            case measure => simp [intOf]; omega
      · obtain ⟨b2, off2, hpa2, hbl2, e0, e1⟩ := (HL.out.later HB.out).at hy
        simp only [Option.some.injEq, Addr.mk.injEq, and_true] at hpa2
        obtain ⟨rfl, rfl⟩ := hpa2
        obtain ⟨py, pd⟩ := y
        simp only at e0 e1 hpy hp0
        subst hpy
        by_cases h1 : ty < 1
        · have d1 : decide (ty < 1) = true := by simp; omega
          have HN := Lib.hid (show r = false by rw [HC.out, HOK.out, ho, decide_eq_false (show ¬ p < ty by omega)]; simp)
          clear ho HOK hx hy
          go_wp2_with fail
          go_region
          go_wp2_with fail
          go_ret
          exact ⟨by rw [HN.out]; rfl, HB.out.drew⟩
        · have d1 : decide (ty < 1) = false := by simp; omega
          by_cases h2 : 255 < ty
          · have d2 : decide (ty > 255) = true := by simp; omega
            have HN := Lib.hid (show r = false by rw [HC.out, HOK.out, ho, decide_eq_false (show ¬ ty ≤ 255 by omega)]; simp)
            clear ho HOK hx hy
            go_wp2_with fail
            go_region
            go_wp2_with fail
            go_ret
            exact ⟨by rw [HN.out]; rfl, HB.out.drew⟩
          · have d2 : decide (ty > 255) = false := by simp; omega
            by_cases h3 : ty ≤ p
            · have d3 : decide (ty ≤ p) = true := by simp; omega
              have HN := Lib.hid (show r = false by rw [HC.out, HOK.out, ho, decide_eq_false (show ¬ p < ty by omega)]; simp)
              clear ho HOK hx hy
              go_wp2_with fail
              go_region
              go_wp2_with fail
              go_ret
              exact ⟨by rw [HN.out]; rfl, HB.out.drew⟩
            · have d3 : decide (ty ≤ p) = false := by simp; omega
              have HN := Lib.hid (show ordFrom 0 L = ordFrom ty (L.drop (j + 1 + 1)) by rw [HOK.out, ho, decide_eq_true (show p < ty by omega), decide_eq_true (show ty ≤ 255 by omega)]; rfl)
              clear ho HOK hx hy
              go_wp2_with fail
              go_region
              go_wp2_with fail
              go_roundw
              case rel => exact ⟨j + 1 + 1, ty, by omega, by go_num, HN.out, .inr ⟨j + 1, _, rfl, HX.out, rfl, by omega⟩, HB.out.drew⟩
              case measure => simp [intOf]; omega
    · obtain rfl : k = n := by omega
      by_cases h1 : 1 ≤ k
      · by_cases h2 : k ≤ 16
        · have HN := Lib.hid (show r = true by rw [HC.out, HOK.out, HE.out, decide_eq_true h1, decide_eq_true h2]; rfl)
          have d1 : decide ((k : Int) ≥ 1) = true := by simp; omega
          have d2 : decide ((k : Int) ≤ 16) = true := by simp; omega
          clear hp
          go_wp2_with fail
          go_ret
          exact ⟨by rw [HN.out]; rfl, HB.out⟩
        · have HN := Lib.hid (show r = false by rw [HC.out, decide_eq_false h2]; simp)
          have d1 : decide ((k : Int) ≥ 1) = true := by simp; omega
          have d2 : decide ((k : Int) ≤ 16) = false := by simp; omega
          clear hp
          go_wp2_with fail
          go_ret
          exact ⟨by rw [HN.out]; rfl, HB.out⟩
      · have HN := Lib.hid (show r = false by rw [HC.out, decide_eq_false h1]; simp)
        have d1 : decide ((k : Int) ≥ 1) = false := by simp; omega
        clear hp
        go_wp2_with fail
        go_ret
        exact ⟨by rw [HN.out]; rfl, HB.out⟩
end Go.Proofs.Ytanbifhhoeaofaa

