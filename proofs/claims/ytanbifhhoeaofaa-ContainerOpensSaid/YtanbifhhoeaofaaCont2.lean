/- Few sections; are sections alike: the walks. No conditions. -/
import Derived.Test.YtanbifhhoeaofaaCont1
namespace Go.Proofs.Ytanbifhhoeaofaa
set_option linter.unusedVariables false
open Go Go.RowKit

theorem take_snoc {α : Type} {l : List α} {j : Nat} {x : α} (h : l[j]? = some x) : l.take (j + 1) = l.take j ++ [x] := by
  obtain ⟨hlt, he⟩ := List.getElem?_eq_some_iff.1 h
  rw [List.take_succ_eq_append_getElem hlt, he]
theorem dSum_snoc {L : List Sec} {k : Nat} {x : Sec} (h : L[k]? = some x) : dSum (L.take (k + 1)) = dSum (L.take k) + x.2.size := by
  rw [take_snoc h, dSum_app]; simp [dSum]
theorem dSum_take_le (L : List Sec) (k : Nat) : dSum (L.take k) ≤ dSum L := by
  have := congrArg dSum (List.take_append_drop k L)
  rw [dSum_app] at this
  omega
theorem cSum_snoc {L : List Sec} {k : Nat} {x : Sec} (h : L[k]? = some x) : cSum (L.take (k + 1)) = cSum (L.take k) + cSize x := by
  rw [take_snoc h, cSum_app]; simp [cSum]
theorem cSum_take_le (L : List Sec) (k : Nat) : cSum (L.take k) ≤ cSum L := by
  have := congrArg cSum (List.take_append_drop k L)
  rw [cSum_app] at this
  omega
set_option maxRecDepth 100000 in
set_option maxHeartbeats 4000000 in
theorem fewC_any (pa : Option Addr) (c : Nat) (L : List Sec) (w : World) (hL : SecsAt w pa L) (hm : L.length ≤ maxLen) (hs : ∀ x ∈ L, x.2.size ≤ reachBytes) :
    Calls Try.prog 11 #[.slice pa L.length c] w fun e w' => e = .returned (.bool (fewC L)) ∧ w = w' := by
  have HL := Lib.hid hL
  have HT := Lib.hid (fun k x h => dSum_snoc (L := L) (k := k) (x := x) h)
  have HU := Lib.hid (dSum_take_le L)
  have HS := Lib.hid (fun k x (h : L[k]? = some x) => hs x (List.mem_of_getElem? h))
  have HC := Lib.hid (show fewC L = (decide (L.length ≤ 41) && decide (dSum L ≤ 3000)) from rfl)
  have HE := Lib.hid (show dSum (L.take L.length) = dSum L by rw [List.take_length])
  have HAT := Lib.hid (fun k (h : k < L.length) => sec_at (A := L) h)
  have hn : L.length ≤ 9223372036854775807 := hm
  generalize L.length = n at hn HC HE HAT ⊢
  generalize fewC L = r at HC ⊢
  clear hL hm hs
  go_enter Try.func11, Try.ntmps11
  go_wp2_with fail
  go_loopw [3, 4] (fun s i wr => ∃ k : Nat, k ≤ n ∧ k ≤ 41 ∧ i = .int .i64 k ∧ s = .int .i64 (dSum (L.take k) : Nat) ∧ dSum (L.take k) ≤ 3000 ∧ w = wr) (fun _ i _ => n - (intOf i).toNat)
  case atStart => exact ⟨0, by omega, by omega, rfl, rfl, Nat.zero_le _, rfl⟩
  case round =>
    obtain ⟨k, hk, hk41, rfl, rfl, hd, rfl⟩ := hrel
    by_cases hlt : k < n
    · obtain ⟨x, hx⟩ := HAT.out k hlt
      obtain ⟨b, off, hp, hbl, c0, c1⟩ := HL.out.at hx
      have h1 := HT.out k x hx
      have h2 := HS.out k x hx
      have HX := Lib.hid h1
      obtain ⟨ty, d⟩ := x
      unfold reachBytes at h2
      simp only at c0 c1 h1 h2
      have hu := HU.out (k + 1)
      rw [h1] at hu
      generalize dSum (L.take k) = q at hd h1 hu HX ⊢
      subst hp
      clear h1
      by_cases g1 : 40 < k
      · have d1 : decide ((k : Int) > 40) = true := by simp; omega
        have HN := Lib.hid (show r = false by rw [HC.out, decide_eq_false (show ¬ n ≤ 41 by omega)]; rfl)
        go_wp2_with fail
        go_ret
        exact ⟨by rw [HN.out]; rfl, rfl⟩
      · have d1 : decide ((k : Int) > 40) = false := by simp; omega
        have hw : (q : Int) + (d.size : Int) = ((q + d.size : Nat) : Int) := by omega
        by_cases g2 : q + d.size ≤ 3000
        · have d2 : decide ((q : Int) + (d.size : Int) > 3000) = false := by simp; omega
          clear hw
          go_wp2_with fail
          go_roundw
          case rel => exact ⟨k + 1, by omega, by omega, by go_num, by rw [HX.out]; go_num, by rw [HX.out]; exact g2, by first | rfl | trivial⟩
          case measure => simp [intOf]; omega
        · have d2 : decide ((q : Int) + (d.size : Int) > 3000) = true := by simp; omega
          have HN := Lib.hid (show r = false by rw [HC.out, decide_eq_false (show ¬ dSum L ≤ 3000 by omega)]; simp)
          clear hw
          go_wp2_with fail
          go_ret
          exact ⟨by rw [HN.out]; rfl, rfl⟩
    · obtain rfl : k = n := by omega
      have HN := Lib.hid (show r = true by rw [HC.out, decide_eq_true hk41, ← HE.out, decide_eq_true hd]; rfl)
      go_wp2_with fail
      go_ret
      exact ⟨by rw [HN.out]; rfl, rfl⟩
theorem secs_same {A B : List Sec} (hl : A.length = B.length) (h : ∀ j, j < A.length → A[j]? = B[j]?) : A = B := by
  apply List.ext_getElem? fun i => ?_
  by_cases hi : i < A.length
  · exact h i hi
  · rw [List.getElem?_eq_none (by omega), List.getElem?_eq_none (by omega)]
theorem str_neq {d f : ByteArray} (h : d ≠ f) : (d.toList == f.toList) = false := by
  rw [beq_eq_false_iff_ne]
  intro e
  apply h
  rw [ByteArray.toList_eq, ByteArray.toList_eq] at e
  exact ba_ext e
set_option maxRecDepth 100000 in
set_option maxHeartbeats 4000000 in
theorem rsameC_any (pa pb : Option Addr) (ca cb : Nat) (A B : List Sec) (w : World) (hA : SecsAt w pa A) (hB : SecsAt w pb B) (hm : A.length ≤ maxLen) :
    Calls Try.prog 18 #[.slice pa A.length ca, .slice pb B.length cb] w fun e w' => e = .returned (.bool (decide (A = B))) ∧ Below w.heap.size w w' := by
  have HA := Lib.hid hA
  have HB := Lib.hid hB
  have HAT := Lib.hid (fun k (h : k < A.length) => sec_at (A := A) h)
  have HBT := Lib.hid (fun k (h : k < B.length) => sec_at (A := B) h)
  have HL := Lib.hid (fun (h1 : A.length = B.length) (h2 : ∀ j : Nat, j < A.length → A[j]? = B[j]?) => secs_same h1 h2)
  have HN := Lib.hid (fun (h : A.length ≠ B.length) => show decide (A = B) = false from decide_eq_false fun e => h (by rw [e]))
  have HD := Lib.hid (fun (k : Nat) (x y : Sec) (h : A[k]? = some x) (h' : B[k]? = some y) (hne : x ≠ y) => show decide (A = B) = false from decide_eq_false fun e => hne (by rw [e, h'] at h; simpa using h.symm))
  have HE := Lib.hid (fun (h : A = B) => show decide (A = B) = true from decide_eq_true h)
  generalize decide (A = B) = r at HN HD HE ⊢
  have hn : A.length ≤ 9223372036854775807 := hm
  clear hA hB hm
  generalize A.length = n at hn HAT HL HN ⊢
  generalize B.length = m at HBT HL HN ⊢
  by_cases hnm : n = m
  · subst hnm
    have hne : decide (¬ (n : Int) = (n : Int)) = false := by simp
    clear HN
    go_enter Try.func18, Try.ntmps18
    go_wp2_with fail
    go_loopw [5] (fun i wr => ∃ k : Nat, k ≤ n ∧ i = .int .i64 k ∧ (∀ j, j < k → A[j]? = B[j]?) ∧ Below w.heap.size w wr) (fun i _ => n - (intOf i).toNat)
    case atStart => exact ⟨0, by omega, rfl, fun j hj => by omega, Below.refl _ _⟩
    case round =>
      obtain ⟨k, hk, rfl, hs, hb⟩ := hrel
      have HS := Lib.hid hs
      have HBW := Lib.hid hb
      clear hs hb
      by_cases hlt : k < n
      · obtain ⟨x, hx⟩ := HAT.out k hlt
        obtain ⟨y, hy⟩ := HBT.out k hlt
        obtain ⟨b1, o1, hp1, hl1, c0, c1⟩ := (HA.out.later HBW.out).at hx
        obtain ⟨b2, o2, hp2, hl2, e0, e1⟩ := (HB.out.later HBW.out).at hy
        have HX := Lib.hid hx
        have HY := Lib.hid hy
        obtain ⟨tx, dx⟩ := x
        obtain ⟨ty, dy⟩ := y
        simp only at c0 c1 e0 e1
        subst hp1 hp2
        clear hx hy
        by_cases g1 : tx = ty
        · subst g1
          by_cases g2 : dx = dy
          · subst g2
            have HX2 := Lib.hid (show ∀ j, j < k + 1 → A[j]? = B[j]? from fun j hj => by
              by_cases hjk : j = k
              · rw [hjk, HX.out, HY.out]
              · exact HS.out j (by omega))
            go_wp2_with fail
            go_region
            go_wp2_with fail
            go_roundw
            case rel => exact ⟨k + 1, by omega, by go_num, HX2.out, HBW.out.drew⟩
            case measure => simp [intOf]; omega
          · have HV := Lib.hid (HD.out k _ _ HX.out HY.out (fun e => g2 (by simpa using e)))
            have hq := str_neq g2
            clear g2
            go_wp2_with fail
            go_region
            go_wp2_with fail
            go_ret
            exact ⟨by rw [HV.out]; rfl, HBW.out.drew⟩
        · have HV := Lib.hid (HD.out k _ _ HX.out HY.out (fun e => g1 (by simp at e; exact e.1)))
          have hq : (tx == ty) = false := by simp; exact g1
          clear g1
          go_wp2_with fail
          go_region
          go_wp2_with fail
          go_ret
          exact ⟨by rw [HV.out]; rfl, HBW.out.drew⟩
      · obtain rfl : k = n := by omega
        have HV := Lib.hid (HE.out (HL.out (by first | rfl | trivial) HS.out))
        go_wp2_with fail
        go_ret
        exact ⟨by rw [HV.out]; rfl, HBW.out⟩
  · have hne : decide (¬ (n : Int) = (m : Int)) = true := by simp; omega
    have hne2 : ((n : Int) == (m : Int)) = false := by simp; omega
    have HV := Lib.hid (HN.out hnm)
    go_enter Try.func18, Try.ntmps18
    go_wp2_with fail
    go_ret
    exact ⟨by rw [HV.out]; rfl, Below.refl _ _⟩
end Go.Proofs.Ytanbifhhoeaofaa

