/- Lists of sections in memory; need, size, ordered. No conditions. -/
import Derived.Test.YtanbifhhoeaofaaContPlain
import Derived.Test.YtanbifhhoeaofaaFramePut
import Derived.Test.YtanbifhhoeaofaaOnly
namespace Go.Proofs.Ytanbifhhoeaofaa
set_option linter.unusedVariables false
open Go Go.RowKit

/-- a list of sections, wherever it lies -/
def SecsAt (w : World) (a : Option Addr) (L : List Sec) : Prop := L = [] ∨ ∃ b off, a = some ⟨b, off, none⟩ ∧ b < w.heap.size ∧ ∀ i x, L[i]? = some x → w.cell? ⟨b, off + i * 2, none⟩ = some (.int .i64 x.1) ∧ w.cell? ⟨b, off + i * 2 + 1, none⟩ = some (.string x.2)
theorem SecsAt.below {w w' : World} {n : Nat} {a : Option Addr} {L : List Sec} (h : SecsAt w a L) (hb : Below n w w') (hn : w.heap.size ≤ n) : SecsAt w' a L := by
  rcases h with h | ⟨b, off, rfl, hlt, h⟩
  · exact .inl h
  · refine .inr ⟨b, off, rfl, Nat.lt_of_lt_of_le hlt hb.size, fun i x hi => ?_⟩
    obtain ⟨h1, h2⟩ := h i x hi
    exact ⟨(hb.cell (p := ⟨b, off + i * 2, none⟩) (by show b < n; omega)).trans h1, (hb.cell (p := ⟨b, off + i * 2 + 1, none⟩) (by show b < n; omega)).trans h2⟩
theorem SecsAt.later {w w' : World} {a : Option Addr} {L : List Sec} (h : SecsAt w a L) (hb : Below w.heap.size w w') : SecsAt w' a L := h.below hb (Nat.le_refl _)
theorem SecsAt.at {w : World} {a : Option Addr} {L : List Sec} (h : SecsAt w a L) {i : Nat} {x : Sec} (hi : L[i]? = some x) : ∃ b off, a = some ⟨b, off, none⟩ ∧ b < w.heap.size ∧ w.cell? ⟨b, off + i * 2, none⟩ = some (.int .i64 x.1) ∧ w.cell? ⟨b, off + i * 2 + 1, none⟩ = some (.string x.2) := by
  rcases h with rfl | ⟨b, off, rfl, hlt, h⟩
  · simp at hi
  · obtain ⟨h1, h2⟩ := h i x hi
    exact ⟨b, off, rfl, hlt, h1, h2⟩
theorem sec_at {α : Type} {A : List α} {k : Nat} (h : k < A.length) : ∃ x, A[k]? = some x := ⟨A[k], List.getElem?_eq_getElem h⟩
def secV (x : Sec) : Value := .agg #[.int .i64 x.1, .string x.2]

theorem need_ok (e : Int) (w : World) : Calls Try.prog 22 #[.bool true, .int .i64 e] w fun r w' => r = .returned (.tuple #[]) ∧ w = w' := by
  go_enter Try.func22, Try.ntmps22
  go_wp2
  go_end0
  exact ⟨rfl, rfl⟩
theorem need_bad (e : Int) (w : World) : Calls Try.prog 22 #[.bool false, .int .i64 e] w fun r w' => r = .panicked [{ v := .iface 25 (.int .i64 e), recovered := false }] ∧ w = w' := by
  go_enter Try.func22, Try.ntmps22
  go_wp2
  exact ⟨rfl, rfl, rfl⟩
set_option maxHeartbeats 4000000 in
theorem csize_any (x : Sec) (w : World) (hd : x.2.size ≤ 1000000000) :
    Calls Try.prog 25 #[secV x] w fun e w' => e = .returned (.int .i64 (cSize x : Nat)) ∧ Below w.heap.size w w' := by
  obtain ⟨ty, d⟩ := x
  have HD := Lib.hid (fun W => head_any ty d W hd)
  have hl := lebL_len (m := d.size) (by unfold U64; simp only at hd; omega)
  have hfl : (fHead ty d).length ≤ 11 := by unfold fHead; simp only [List.length_cons]; omega
  have HV := Lib.hid (show cSize (ty, d) = (bStr (fHead ty d)).size + d.size + 4 from rfl)
  have hsz : (bStr (fHead ty d)).size ≤ 11 := hfl
  simp only at hd
  generalize bStr (fHead ty d) = H at HD HV hsz
  unfold secV
  simp only
  clear hl hfl
  go_enter Try.func25, Try.ntmps25
  go_wp2_with fail
  have hA := heap_alloc_new w (.cells #[.int .i64 ty, .string d] 36)
  have hB : Below w.heap.size w (w.alloc (.cells #[.int .i64 ty, .string d] 36)) := (Below.refl _ w).alloc (Nat.le_refl _) _
  have hz : w.heap.size < (w.alloc (.cells #[.int .i64 ty, .string d] 36)).heap.size := by simp
  generalize w.alloc (.cells #[.int .i64 ty, .string d] 36) = V at hA hB hz ⊢
  have k0 : ∀ w', Below V.heap.size V w' → w'.cell? ⟨w.heap.size, 0, none⟩ = some (.int .i64 ty) := fun w' h => (h.cell (p := ⟨w.heap.size, 0, none⟩) hz).trans (by unfold World.cell?; rw [hA]; rfl)
  have k1 : ∀ w', Below V.heap.size V w' → w'.cell? ⟨w.heap.size, 1, none⟩ = some (.string d) := fun w' h => (h.cell (p := ⟨w.heap.size, 1, none⟩) hz).trans (by unfold World.cell?; rw [hA]; rfl)
  have hV := Below.refl V.heap.size V
  have HB := Lib.hid hB
  have hwr : IntKind.i64.wrap (IntKind.i64.wrap ((H.size : Int) + (d.size : Int)) + 4) = ((H.size + d.size + 4 : Nat) : Int) := by rw [IntKind.wrap_i64, IntKind.wrap_i64]; omega
  clear hA hB
  go_region_held3 (fun w' => Below V.heap.size V w') (first | assumption | go_grown) ((go_at_call 19; refine (HD.out _).mono ?_; rintro e w2 ⟨rfl, hb2⟩; obtain ⟨hbl2, hsz2⟩ := later' (by first | assumption | go_grown) hb2; clear hb2))
  go_wp2_with fail
  go_ret
  exact ⟨congrArg (fun x => Ending.returned (.int .i64 x)) (by rw [HV.out]; omega), HB.out.trans (Below.mono (by assumption) HB.out.size)⟩
theorem ordFrom_drop (L : List Sec) (k : Nat) {x : Sec} (h : L[k]? = some x) (p : Int) : ordFrom p (L.drop k) = (decide (p < x.1) && (decide (x.1 ≤ 255) && ordFrom x.1 (L.drop (k + 1)))) := by
  obtain ⟨hlt, he⟩ := List.getElem?_eq_some_iff.1 h
  rw [List.drop_eq_getElem_cons hlt, he]; rfl
theorem two_alloc (w : World) (x : Sec) : (w.alloc (.cells #[.int .i64 x.1, .string x.2] 36)).cell? ⟨w.heap.size, 0, none⟩ = some (.int .i64 x.1) ∧ (w.alloc (.cells #[.int .i64 x.1, .string x.2] 36)).cell? ⟨w.heap.size, 1, none⟩ = some (.string x.2) := by
  have hA := heap_alloc_new w (.cells #[.int .i64 x.1, .string x.2] 36)
  unfold World.cell?
  rw [hA]
  exact ⟨rfl, rfl⟩
theorem oret {a b : Bool} (h : a = b) : Ending.returned (.bool a) = .returned (.bool b) := by rw [h]
set_option maxRecDepth 100000 in
set_option maxHeartbeats 4000000 in
theorem ordered_any (pa : Option Addr) (c : Nat) (L : List Sec) (w : World) (hL : SecsAt w pa L) (hm : L.length ≤ maxLen) :
    Calls Try.prog 23 #[.slice pa L.length c] w fun e w' => e = .returned (.bool (cOrd L)) ∧ Below w.heap.size w w' := by
  have HL := Lib.hid hL
  have HC := Lib.hid (show cOrd L = (ordFrom 0 L && (decide (1 ≤ L.length) && decide (L.length ≤ 16))) from rfl)
  have HO := Lib.hid (fun k x h p => ordFrom_drop L k (x := x) h p)
  have HZ := Lib.hid (show ordFrom 0 L = ordFrom 0 (L.drop 0) by rw [List.drop_zero])
  have HE := Lib.hid (fun p => show ordFrom p (L.drop L.length) = true by rw [List.drop_length]; rfl)
  have HAT := Lib.hid (fun k (h : k < L.length) => sec_at (A := L) h)
  generalize L.length = n at hm HC HE HAT ⊢
  generalize cOrd L = r at HC ⊢
  have hn : n ≤ 9223372036854775807 := hm
  clear hL hm
  go_enter Try.func23, Try.ntmps23
  go_wp2_with fail
  go_loopw [3, 8] (fun l i wr => ∃ (k : Nat) (p : Int), k ≤ n ∧ i = .int .i64 k ∧ l = .int .i64 p ∧ ordFrom 0 L = ordFrom p (L.drop k) ∧ Below w.heap.size w wr) (fun _ i _ => n - (intOf i).toNat)
  case atStart => exact ⟨0, 0, by omega, rfl, rfl, HZ.out, Below.refl _ _⟩
  case round =>
    obtain ⟨k, p, hk, rfl, rfl, ho, hB⟩ := hrel
    have HOK := Lib.hid ho
    have HB := Lib.hid hB
    clear ho hB
    by_cases hlt : k < n
    · obtain ⟨x, hx⟩ := HAT.out k hlt
      obtain ⟨b, off, hp, hbl, c0, c1⟩ := (HL.out.later HB.out).at hx
      have ho := HO.out k x hx
      obtain ⟨ty, d⟩ := x
      simp only at c0 c1 ho
      subst hp
      have HT := Lib.hid (two_alloc wr (ty, d))
      by_cases h1 : p < ty
      · have d1 : decide (ty ≤ p) = false := by simp; omega
        by_cases h2 : ty ≤ 255
        · have d2 : decide (ty > 255) = false := by simp; omega
          have HN := Lib.hid (show ordFrom 0 L = ordFrom ty (L.drop (k + 1)) by rw [HOK.out, ho, decide_eq_true h1, decide_eq_true h2]; rfl)
          clear ho HOK
          go_wp2_with fail
          go_roundw
          case rel => exact ⟨k + 1, ty, by omega, by go_num, rfl, HN.out, HB.out.alloc HB.out.size _⟩
          case measure => simp [intOf]; omega
        · have d2 : decide (ty > 255) = true := by simp; omega
          have HN := Lib.hid (show r = false by rw [HC.out, HOK.out, ho, decide_eq_false h2]; simp)
          clear ho HOK
          go_wp2_with fail
          go_ret
          exact ⟨by rw [HN.out]; rfl, HB.out.alloc HB.out.size _⟩
      · have d1 : decide (ty ≤ p) = true := by simp; omega
        have HN := Lib.hid (show r = false by rw [HC.out, HOK.out, ho, decide_eq_false h1]; simp)
        clear ho HOK
        go_wp2_with fail
        go_ret
        exact ⟨by rw [HN.out]; rfl, HB.out.alloc HB.out.size _⟩
    · obtain rfl : k = n := by omega
      by_cases h1 : 1 ≤ k
      · by_cases h2 : k ≤ 16
        · have HN := Lib.hid (show r = true by rw [HC.out, HOK.out, HE.out, decide_eq_true h1, decide_eq_true h2]; rfl)
          have d1 : decide ((k : Int) ≥ 1) = true := by simp; omega
          have d2 : decide ((k : Int) ≤ 16) = true := by simp; omega
          go_wp2_with fail
          go_ret
          exact ⟨by rw [HN.out]; rfl, HB.out⟩
        · have HN := Lib.hid (show r = false by rw [HC.out, decide_eq_false h2]; simp)
          have d1 : decide ((k : Int) ≥ 1) = true := by simp; omega
          have d2 : decide ((k : Int) ≤ 16) = false := by simp; omega
          go_wp2_with fail
          go_ret
          exact ⟨by rw [HN.out]; rfl, HB.out⟩
      · have HN := Lib.hid (show r = false by rw [HC.out, decide_eq_false h1]; simp)
        have d1 : decide ((k : Int) ≥ 1) = false := by simp; omega
        go_wp2_with fail
        go_ret
        exact ⟨by rw [HN.out]; rfl, HB.out⟩
end Go.Proofs.Ytanbifhhoeaofaa

