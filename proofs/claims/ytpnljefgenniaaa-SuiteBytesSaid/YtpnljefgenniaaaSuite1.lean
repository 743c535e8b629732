/- Lists of lists of numbers in memory; slices.Equal, EqualFunc, suite.Same, and the document's. No conditions. -/
import Derived.Test.YtpnljefgenniaaaOnly
import Derived.Deep.QuietTactic
import Derived.BigQuiet
import Derived.Laws.Rows
import Derived.Deep.Draws
import Derived.Lib.Hide
import Derived.Handy
namespace Go.Proofs.Ytpnljefgenniaaa
set_option linter.unusedVariables false
open Go Go.RowKit

/-- a list of numbers, wherever it lies -/
def IntsAt (w : World) (a : Option Addr) (l : List Int) : Prop := l = [] ∨ ∃ b off, a = some ⟨b, off, none⟩ ∧ b < w.heap.size ∧ ∀ j x, l[j]? = some x → w.cell? ⟨b, off + j, none⟩ = some (.int .i64 x)
/-- a list of such lists -/
def RowsAt (w : World) (a : Option Addr) (L : List (List Int)) : Prop := L = [] ∨ ∃ b off, a = some ⟨b, off, none⟩ ∧ b < w.heap.size ∧ ∀ i l, L[i]? = some l → ∃ pa c, w.cell? ⟨b, off + i, none⟩ = some (.slice pa l.length c) ∧ IntsAt w pa l
theorem IntsAt.later {w w' : World} {a : Option Addr} {l : List Int} (h : IntsAt w a l) (hb : Below w.heap.size w w') : IntsAt w' a l := by
  rcases h with h | ⟨b, off, rfl, hlt, h⟩
  · exact .inl h
  · exact .inr ⟨b, off, rfl, Nat.lt_of_lt_of_le hlt hb.size, fun j x hj => (hb.cell (p := ⟨b, off + j, none⟩) hlt).trans (h j x hj)⟩
theorem RowsAt.later {w w' : World} {a : Option Addr} {L : List (List Int)} (h : RowsAt w a L) (hb : Below w.heap.size w w') : RowsAt w' a L := by
  rcases h with h | ⟨b, off, rfl, hlt, h⟩
  · exact .inl h
  · refine .inr ⟨b, off, rfl, Nat.lt_of_lt_of_le hlt hb.size, fun i l hi => ?_⟩
    obtain ⟨pa, c, h1, h2⟩ := h i l hi
    exact ⟨pa, c, (hb.cell (p := ⟨b, off + i, none⟩) hlt).trans h1, h2.later hb⟩
theorem below_drewN (w : World) (k : Nat) : Below w.heap.size w (w.drewN k) := ⟨rfl, rfl, rfl, Nat.le_refl _, fun _ _ => rfl⟩
theorem IntsAt.at {w : World} {a : Option Addr} {l : List Int} (h : IntsAt w a l) {j : Nat} {x : Int} (hj : l[j]? = some x) : ∃ b off, a = some ⟨b, off, none⟩ ∧ w.cell? ⟨b, off + j, none⟩ = some (.int .i64 x) := by
  rcases h with rfl | ⟨b, off, rfl, hlt, h⟩
  · simp at hj
  · exact ⟨b, off, rfl, h j x hj⟩
theorem RowsAt.at {w : World} {a : Option Addr} {L : List (List Int)} (h : RowsAt w a L) {i : Nat} {l : List Int} (hi : L[i]? = some l) : ∃ b off pa c, a = some ⟨b, off, none⟩ ∧ w.cell? ⟨b, off + i, none⟩ = some (.slice pa l.length c) ∧ IntsAt w pa l := by
  rcases h with rfl | ⟨b, off, rfl, hlt, h⟩
  · simp at hi
  · obtain ⟨pa, c, h1, h2⟩ := h i l hi
    exact ⟨b, off, pa, c, rfl, h1, h2⟩
theorem list_same {α : Type} {A B : List α} (hl : A.length = B.length) (h : ∀ j, j < A.length → A[j]? = B[j]?) : A = B := by
  apply List.ext_getElem? 
  intro j
  by_cases hj : j < A.length
  · exact h j hj
  · rw [List.getElem?_eq_none (by omega), List.getElem?_eq_none (by omega)]
theorem some_at {α : Type} {A : List α} {k : Nat} (h : k < A.length) : ∃ x, A[k]? = some x := ⟨A[k], List.getElem?_eq_getElem h⟩
theorem decide_ne {α : Type} [DecidableEq α] {a b : α} (h : a ≠ b) : decide (a = b) = false := decide_eq_false h
theorem bret {a b : Bool} (h : a = b) : Ending.returned (.bool a) = .returned (.bool b) := by rw [h]
set_option maxRecDepth 100000 in
set_option maxHeartbeats 4000000 in
theorem equal_any (pa pb : Option Addr) (ca cb : Nat) (A B : List Int) (w : World) (hA : IntsAt w pa A) (hB : IntsAt w pb B) (hm : A.length ≤ maxLen) :
    Calls Try.prog 65 #[.slice pa A.length ca, .slice pb B.length cb] w fun e w' => e = .returned (.bool (decide (A = B))) ∧ ∃ m, w' = w.drewN m := by
  unfold maxLen at hm
  by_cases hl : A.length = B.length
  · obtain ⟨n, hn⟩ : ∃ n, A.length = n := ⟨_, rfl⟩
    have hnB : B.length = n := by omega
    rw [hn] at hm
    rw [hn, hnB]
    have HL := Lib.hid hl
    have HN := Lib.hid hn
    have HNB := Lib.hid hnB
    clear hl hn hnB
    have HA := Lib.hid hA
    have HB := Lib.hid hB
    clear hA hB
    go_enter Try.func65, Try.ntmps65
    go_wp2_with fail
    go_loopw [13] (fun i wr => ∃ k m : Nat, k ≤ n ∧ i = .int .i64 k ∧ (∀ j, j < k → A[j]? = B[j]?) ∧ wr = w.drewN m) (fun i _ => n - (intOf i).toNat)
    case atStart => exact ⟨0, 0, by omega, rfl, fun j hj => by omega, rfl⟩
    case round =>
      obtain ⟨k, m, hk, rfl, hs, rfl⟩ := hrel
      have HS := Lib.hid hs
      clear hs
      by_cases hlt : k < n
      · obtain ⟨x, hx⟩ := some_at (show k < A.length by rw [HN.out]; exact hlt)
        obtain ⟨y, hy⟩ := some_at (show k < B.length by rw [HNB.out]; exact hlt)
        obtain ⟨b1, o1, rfl, c1⟩ := HA.out.at hx
        obtain ⟨b2, o2, rfl, c2⟩ := HB.out.at hy
        have HX := Lib.hid hx
        have HY := Lib.hid hy
        clear hx hy
        by_cases hxy : x = y
        · subst hxy
          go_wp2_with fail
          go_quiet (fail)
          go_wp2_with fail
          refine ⟨⟨k + 1, m + nq, by omega, by go_num, fun j hj => ?_, rfl⟩, by simp [intOf]; omega⟩
          by_cases hjk : j < k
          · exact HS.out j hjk
          · obtain rfl : j = k := by omega
            rw [HX.out, HY.out]
        · have hne : (x == y) = false := by simpa using hxy
          have HE : Hid (decide (A = B) = false) := Lib.hid (decide_ne fun h => hxy (by have := HX.out; rw [h, HY.out] at this; exact (Option.some.inj this).symm))
          clear hxy
          go_wp2_with fail
          go_quiet (fail)
          go_wp2_with fail
          go_ret
          exact ⟨by rw [HE.out]; rfl, m + nq, by rw [World.drewN_drewN]⟩
      · obtain rfl : k = n := by omega
        have HE : Hid (decide (A = B) = true) := Lib.hid (decide_eq_true (list_same HL.out (by rw [HN.out]; exact HS.out)))
        go_wp2_with fail
        go_ret
        exact ⟨by rw [HE.out]; rfl, m, rfl⟩
  · have hl2 : ((A.length : Int) == (B.length : Int)) = false := by simp; omega
    have hl3 : ((A.length : Int) != (B.length : Int)) = true := by simp; omega
    have HE : Hid (decide (A = B) = false) := Lib.hid (decide_ne fun h => hl (by rw [h]))
    clear hA hB hl
    go_enter Try.func65, Try.ntmps65
    go_wp2_with fail
    go_ret
    exact ⟨by rw [HE.out]; rfl, 0, rfl⟩
set_option maxRecDepth 100000 in
set_option maxHeartbeats 4000000 in
theorem rints_any (pa pb : Option Addr) (ca cb : Nat) (A B : List Int) (w : World) (hA : IntsAt w pa A) (hB : IntsAt w pb B) (hm : A.length ≤ maxLen) :
    Calls Try.prog 56 #[.slice pa A.length ca, .slice pb B.length cb] w fun e w' => e = .returned (.bool (decide (A = B))) ∧ ∃ m, w' = w.drewN m := by
  unfold maxLen at hm
  by_cases hl : A.length = B.length
  · obtain ⟨n, hn⟩ : ∃ n, A.length = n := ⟨_, rfl⟩
    have hnB : B.length = n := by omega
    rw [hn] at hm
    rw [hn, hnB]
    have HL := Lib.hid hl
    have HN := Lib.hid hn
    have HNB := Lib.hid hnB
    clear hl hn hnB
    have HA := Lib.hid hA
    have HB := Lib.hid hB
    clear hA hB
    go_enter Try.func56, Try.ntmps56
    go_wp2_with fail
    go_loopw [5] (fun i wr => ∃ k m : Nat, k ≤ n ∧ i = .int .i64 k ∧ (∀ j, j < k → A[j]? = B[j]?) ∧ wr = w.drewN m) (fun i _ => n - (intOf i).toNat)
    case atStart => exact ⟨0, 0, by omega, rfl, fun j hj => by omega, rfl⟩
    case round =>
      obtain ⟨k, m, hk, rfl, hs, rfl⟩ := hrel
      have HS := Lib.hid hs
      clear hs
      by_cases hlt : k < n
      · obtain ⟨x, hx⟩ := some_at (show k < A.length by rw [HN.out]; exact hlt)
        obtain ⟨y, hy⟩ := some_at (show k < B.length by rw [HNB.out]; exact hlt)
        obtain ⟨b1, o1, rfl, c1⟩ := HA.out.at hx
        obtain ⟨b2, o2, rfl, c2⟩ := HB.out.at hy
        have HX := Lib.hid hx
        have HY := Lib.hid hy
        clear hx hy
        by_cases hxy : x = y
        · subst hxy
          go_wp2_with fail
          go_quiet (fail)
          go_wp2_with fail
          refine ⟨⟨k + 1, m + nq, by omega, by go_num, fun j hj => ?_, rfl⟩, by simp [intOf]; omega⟩
          by_cases hjk : j < k
          · exact HS.out j hjk
          · obtain rfl : j = k := by omega
            rw [HX.out, HY.out]
        · have hne : (x == y) = false := by simpa using hxy
          have HE : Hid (decide (A = B) = false) := Lib.hid (decide_ne fun h => hxy (by have := HX.out; rw [h, HY.out] at this; exact (Option.some.inj this).symm))
          clear hxy
          go_wp2_with fail
          go_quiet (fail)
          go_wp2_with fail
          go_ret
          exact ⟨by rw [HE.out]; rfl, m + nq, by rw [World.drewN_drewN]⟩
      · obtain rfl : k = n := by omega
        have HE : Hid (decide (A = B) = true) := Lib.hid (decide_eq_true (list_same HL.out (by rw [HN.out]; exact HS.out)))
        go_wp2_with fail
        go_ret
        exact ⟨by rw [HE.out]; rfl, m, rfl⟩
  · have hl2 : ((A.length : Int) == (B.length : Int)) = false := by simp; omega
    have hl3 : ((A.length : Int) != (B.length : Int)) = true := by simp; omega
    have HE : Hid (decide (A = B) = false) := Lib.hid (decide_ne fun h => hl (by rw [h]))
    clear hA hB hl
    go_enter Try.func56, Try.ntmps56
    go_wp2_with fail
    go_ret
    exact ⟨by rw [HE.out]; rfl, 0, rfl⟩
set_option maxRecDepth 100000 in
set_option maxHeartbeats 4000000 in
theorem equalfunc_any (pa pb : Option Addr) (ca cb : Nat) (A B : List (List Int)) (w : World) (hA : RowsAt w pa A) (hB : RowsAt w pb B) (hm : A.length ≤ maxLen) (hm2 : ∀ l ∈ A, l.length ≤ maxLen) :
    Calls Try.prog 64 #[.slice pa A.length ca, .slice pb B.length cb, .func (.func 65) #[] #[]] w fun e w' => e = .returned (.bool (decide (A = B))) ∧ ∃ m, w' = w.drewN m := by
  have HM2 := Lib.hid hm2
  unfold maxLen at hm
  clear hm2
  by_cases hl : A.length = B.length
  · obtain ⟨n, hn⟩ : ∃ n, A.length = n := ⟨_, rfl⟩
    have hnB : B.length = n := by omega
    rw [hn] at hm
    rw [hn, hnB]
    have HL := Lib.hid hl
    have HN := Lib.hid hn
    have HNB := Lib.hid hnB
    clear hl hn hnB
    have HA := Lib.hid hA
    have HB := Lib.hid hB
    clear hA hB
    go_enter Try.func64, Try.ntmps64
    go_wp2_with fail
    go_loopw [17] (fun i wr => ∃ k m : Nat, k ≤ n ∧ i = .int .i64 k ∧ (∀ j, j < k → A[j]? = B[j]?) ∧ wr = w.drewN m) (fun i _ => n - (intOf i).toNat)
    case atStart => exact ⟨0, 0, by omega, rfl, fun j hj => by omega, rfl⟩
    case round =>
      obtain ⟨k, m, hk, rfl, hs, rfl⟩ := hrel
      have HS := Lib.hid hs
      clear hs
      by_cases hlt : k < n
      · obtain ⟨x, hx⟩ := some_at (show k < A.length by rw [HN.out]; exact hlt)
        obtain ⟨y, hy⟩ := some_at (show k < B.length by rw [HNB.out]; exact hlt)
        obtain ⟨b1, o1, p1, q1, rfl, c1, i1⟩ := HA.out.at hx
        obtain ⟨b2, o2, p2, q2, rfl, c2, i2⟩ := HB.out.at hy
        have CE := Lib.hid (fun n => equal_any p1 p2 q1 q2 x y (w.drewN n) (i1.later (below_drewN w n)) (i2.later (below_drewN w n)) (HM2.out x (List.mem_of_getElem? hx)))
        have HX := Lib.hid hx
        have HY := Lib.hid hy
        clear hx hy i1 i2
        by_cases hxy : x = y
        · subst hxy
          have hd : decide (x = x) = true := decide_eq_true rfl
          rw [hd] at CE
          go_wp2_with fail
          refine (CE.out _).mono ?_
          rintro e w4 ⟨rfl, m4, rfl⟩
          go_wp2_with fail
          go_roundw
          case rel =>
            refine ⟨k + 1, _, by omega, by go_num, fun j hj => ?_, rfl⟩
            by_cases hjk : j < k
            · exact HS.out j hjk
            · obtain rfl : j = k := by omega
              rw [HX.out, HY.out]
          case measure => simp [intOf]; omega
        · have hd : decide (x = y) = false := decide_eq_false hxy
          rw [hd] at CE
          have HE : Hid (decide (A = B) = false) := Lib.hid (decide_ne fun h => hxy (by have := HX.out; rw [h, HY.out] at this; exact (Option.some.inj this).symm))
          clear hxy
          go_wp2_with fail
          refine (CE.out _).mono ?_
          rintro e w4 ⟨rfl, m4, rfl⟩
          go_wp2_with fail
          go_ret
          exact ⟨by rw [HE.out]; rfl, _, rfl⟩
      · obtain rfl : k = n := by omega
        have HE : Hid (decide (A = B) = true) := Lib.hid (decide_eq_true (list_same HL.out (by rw [HN.out]; exact HS.out)))
        go_wp2_with fail
        go_ret
        exact ⟨by rw [HE.out]; rfl, m, rfl⟩
  · have hl2 : ((A.length : Int) == (B.length : Int)) = false := by simp; omega
    have hl3 : ((A.length : Int) != (B.length : Int)) = true := by simp; omega
    have HE : Hid (decide (A = B) = false) := Lib.hid (decide_ne fun h => hl (by rw [h]))
    clear hA hB hl
    go_enter Try.func64, Try.ntmps64
    go_wp2_with fail
    go_ret
    exact ⟨by rw [HE.out]; rfl, 0, rfl⟩
set_option maxRecDepth 100000 in
set_option maxHeartbeats 4000000 in
theorem rsame_any (pa pb : Option Addr) (ca cb : Nat) (A B : List (List Int)) (w : World) (hA : RowsAt w pa A) (hB : RowsAt w pb B) (hm : A.length ≤ maxLen) (hm2 : ∀ l ∈ A, l.length ≤ maxLen) :
    Calls Try.prog 31 #[.slice pa A.length ca, .slice pb B.length cb] w fun e w' => e = .returned (.bool (decide (A = B))) ∧ Below w.heap.size w w' := by
  have HM2 := Lib.hid hm2
  unfold maxLen at hm
  clear hm2
  by_cases hl : A.length = B.length
  · obtain ⟨n, hn⟩ : ∃ n, A.length = n := ⟨_, rfl⟩
    have hnB : B.length = n := by omega
    rw [hn] at hm
    rw [hn, hnB]
    have HL := Lib.hid hl
    have HN := Lib.hid hn
    have HNB := Lib.hid hnB
    clear hl hn hnB
    have HA := Lib.hid hA
    have HB := Lib.hid hB
    clear hA hB
    go_enter Try.func31, Try.ntmps31
    go_wp2_with fail
    go_loopw [5] (fun i wr => ∃ k : Nat, k ≤ n ∧ i = .int .i64 k ∧ (∀ j, j < k → A[j]? = B[j]?) ∧ Below w.heap.size w wr) (fun i _ => n - (intOf i).toNat)
    case atStart => exact ⟨0, by omega, rfl, fun j hj => by omega, Below.refl _ _⟩
    case round =>
      obtain ⟨k, hk, rfl, hs, hbw⟩ := hrel
      have HS := Lib.hid hs
      clear hs
      by_cases hlt : k < n
      · obtain ⟨x, hx⟩ := some_at (show k < A.length by rw [HN.out]; exact hlt)
        obtain ⟨y, hy⟩ := some_at (show k < B.length by rw [HNB.out]; exact hlt)
        obtain ⟨b1, o1, p1, q1, rfl, c1, i1⟩ := (HA.out.later hbw).at hx
        obtain ⟨b2, o2, p2, q2, rfl, c2, i2⟩ := (HB.out.later hbw).at hy
        have CE := Lib.hid (fun n => rints_any p1 p2 q1 q2 x y (wr.drewN n) (i1.later (below_drewN wr n)) (i2.later (below_drewN wr n)) (HM2.out x (List.mem_of_getElem? hx)))
        have HX := Lib.hid hx
        have HY := Lib.hid hy
        have HBW := Lib.hid hbw
        clear hx hy i1 i2 hbw
        by_cases hxy : x = y
        · subst hxy
          have hd : decide (x = x) = true := decide_eq_true rfl
          rw [hd] at CE
          clear hd
          go_wp2_with fail
          go_quiet ((go_at_call 56; exact Calls.quiet_of (CE.out _)))
          go_wp2_with fail
          refine ⟨⟨k + 1, by omega, by go_num, fun j hj => ?_, HBW.out.trans ((below_drewN wr _).mono HBW.out.size)⟩, by simp [intOf]; omega⟩
          by_cases hjk : j < k
          · exact HS.out j hjk
          · obtain rfl : j = k := by omega
            rw [HX.out, HY.out]
        · have hd : decide (x = y) = false := decide_eq_false hxy
          rw [hd] at CE
          have HE : Hid (decide (A = B) = false) := Lib.hid (decide_ne fun h => hxy (by have := HX.out; rw [h, HY.out] at this; exact (Option.some.inj this).symm))
          clear hxy hd
          go_wp2_with fail
          go_quiet ((go_at_call 56; exact Calls.quiet_of (CE.out _)))
          go_wp2_with fail
          go_ret
          exact ⟨by rw [HE.out]; rfl, HBW.out.trans ((below_drewN wr _).mono HBW.out.size)⟩
      · obtain rfl : k = n := by omega
        have HE : Hid (decide (A = B) = true) := Lib.hid (decide_eq_true (list_same HL.out (by rw [HN.out]; exact HS.out)))
        go_wp2_with fail
        go_ret
        exact ⟨by rw [HE.out]; rfl, hbw⟩
  · have hl2 : ((A.length : Int) == (B.length : Int)) = false := by simp; omega
    have hl3 : ((A.length : Int) != (B.length : Int)) = true := by simp; omega
    have HE : Hid (decide (A = B) = false) := Lib.hid (decide_ne fun h => hl (by rw [h]))
    clear hA hB hl
    go_enter Try.func31, Try.ntmps31
    go_wp2_with fail
    go_ret
    exact ⟨by rw [HE.out]; rfl, Below.refl _ _⟩
set_option maxRecDepth 100000 in
set_option maxHeartbeats 1600000 in
theorem same_any (pa pb : Option Addr) (ca cb : Nat) (A B : List (List Int)) (w : World) (hA : RowsAt w pa A) (hB : RowsAt w pb B) (hm : A.length ≤ maxLen) (hm2 : ∀ l ∈ A, l.length ≤ maxLen) :
    Calls Try.prog 34 #[.slice pa A.length ca, .slice pb B.length cb] w fun e w' => e = .returned (.bool (decide (A = B))) ∧ ∃ m, w' = w.drewN m := by
  have CE := Lib.hid (equalfunc_any pa pb ca cb A B w hA hB hm hm2)
  clear hA hB hm hm2
  generalize decide (A = B) = r at CE ⊢
  generalize A.length = n at CE ⊢
  generalize B.length = n' at CE ⊢
  go_enter Try.func34, Try.ntmps34
  go_wp2_with fail
  refine CE.out.mono ?_
  rintro e w4 ⟨rfl, m4, rfl⟩
  go_wp2_with fail
  go_ret
  exact ⟨rfl, m4, rfl⟩
end Go.Proofs.Ytpnljefgenniaaa

