/- suite.Check and the document's; Few. No conditions. -/
import Derived.Test.YtpnljefgenniaaaSuite1
import Derived.Laws.EntriesVeiled
namespace Go.Proofs.Ytpnljefgenniaaa
set_option linter.unusedVariables false
open Go Go.RowKit

def allB (L : List (List Int)) (p : Int) : Bool := L.all fun l => decide ((l.length : Int) = p)
def chkF (p : Int) (L : List (List Int)) (f : Int) : Nat := if L.length < 1 ∨ 20 < L.length then 18 else if allB L p = false then 18 else if f < 1 ∨ 10000 < f then 19 else 0
theorem allB_yes {L : List (List Int)} {p : Int} (h : ∀ (j : Nat) (l : List Int), L[j]? = some l → (l.length : Int) = p) : allB L p = true := by
  unfold allB
  rw [List.all_eq_true]
  intro l hl
  obtain ⟨j, hj⟩ := List.mem_iff_getElem?.1 hl
  exact decide_eq_true (h j l hj)
theorem allB_no {L : List (List Int)} {p : Int} {j : Nat} {l : List Int} (hj : L[j]? = some l) (h : (l.length : Int) ≠ p) : allB L p = false := by
  unfold allB
  rw [List.all_eq_false]
  exact ⟨l, List.mem_of_getElem? hj, by simpa using h⟩
set_option maxRecDepth 100000 in
theorem unless_any (so : Bool) (e : Nat) (w : World) : Calls Try.prog 60 #[.bool so, .int .i64 e] w fun e' w' => e' = .returned (.int .i64 ((if so = true then 0 else e : Nat) : Int)) ∧ w = w' := by
  cases so
  · go_enter Try.func60, Try.ntmps60
    go_wp2_with fail
    go_ret
    exact ⟨rfl, rfl⟩
  · go_enter Try.func60, Try.ntmps60
    go_wp2_with fail
    go_ret
    exact ⟨rfl, rfl⟩
set_option maxRecDepth 100000 in
theorem odd_any (pa : Option Addr) (n c P : Nat) (p : Int) (w : World) (hP : w.cell? ⟨P, 0, none⟩ = some (.int .i64 p)) : Calls Try.prog 57 #[.slice pa n c, .pointer (some ⟨P, 0, none⟩)] w fun e w' => e = .returned (.bool (!((n : Int) == p))) ∧ w = w' := by
  go_enter Try.func57, Try.ntmps57
  go_wp2_with fail
  go_ret
  exact ⟨rfl, rfl⟩
set_option maxRecDepth 100000 in
set_option maxHeartbeats 4000000 in
theorem index_any (pa : Option Addr) (c P : Nat) (p : Int) (L : List (List Int)) (w : World) (hL : RowsAt w pa L) (hP : w.cell? ⟨P, 0, none⟩ = some (.int .i64 p)) (hm : L.length ≤ maxLen) :
    Calls Try.prog 78 #[.slice pa L.length c, .func (.func 57) #[] #[.pointer (some ⟨P, 0, none⟩)]] w fun e w' => (∃ k : Int, e = .returned (.int .i64 k) ∧ decide (0 ≤ k) = !(allB L p)) ∧ w = w' := by
  obtain ⟨n, hn⟩ : ∃ n, L.length = n := ⟨_, rfl⟩
  rw [hn] at hm
  rw [hn]
  have HN := Lib.hid hn
  have HL := Lib.hid hL
  unfold maxLen at hm
  clear hn hL
  go_enter Try.func78, Try.ntmps78
  go_wp2_with fail
  go_loopw [8] (fun i wr => ∃ k : Nat, k ≤ n ∧ i = .int .i64 k ∧ (∀ j l, j < k → L[j]? = some l → (l.length : Int) = p) ∧ w = wr) (fun i _ => n - (intOf i).toNat)
  case atStart => exact ⟨0, by omega, rfl, fun j l hj => by omega, rfl⟩
  case round =>
    obtain ⟨k, hk, rfl, hs, rfl⟩ := hrel
    have HS := Lib.hid hs
    clear hs
    by_cases hlt : k < n
    · obtain ⟨x, hx⟩ := some_at (show k < L.length by rw [HN.out]; exact hlt)
      obtain ⟨b1, o1, p1, q1, rfl, c1, i1⟩ := HL.out.at hx
      have HX := Lib.hid hx
      clear hx i1
      obtain ⟨m, hmx⟩ : ∃ m, x.length = m := ⟨_, rfl⟩
      rw [hmx] at c1
      have HMX := Lib.hid hmx
      clear hmx
      by_cases hp : (m : Int) = p
      · have hb : ((m : Int) == p) = true := by simpa using hp
        have HP := Lib.hid hp
        clear hp
        go_wp2_with fail
        refine (odd_any p1 m q1 P p _ hP).mono ?_
        rintro e w4 ⟨rfl, rfl⟩
        rw [hb]
        go_wp2_with fail
        go_roundw
        case rel =>
          refine ⟨k + 1, by omega, by go_num, fun j l hj hl => ?_, by first | rfl | trivial⟩
          by_cases hjk : j < k
          · exact HS.out j l hjk hl
          · obtain rfl : j = k := by omega
            rw [HX.out] at hl
            cases hl
            rw [HMX.out]; exact HP.out
        case measure => simp [intOf]; omega
      · have hb : ((m : Int) == p) = false := by simpa using hp
        have HA : Hid (allB L p = false) := Lib.hid (allB_no HX.out (by rw [HMX.out]; exact hp))
        clear hp
        go_wp2_with fail
        refine (odd_any p1 m q1 P p _ hP).mono ?_
        rintro e w4 ⟨rfl, rfl⟩
        rw [hb]
        go_wp2_with fail
        go_ret
        exact ⟨⟨k, rfl, by rw [HA.out]; simp⟩, rfl⟩
    · obtain rfl : k = n := by omega
      have HA : Hid (allB L p = true) := Lib.hid (allB_yes fun j l hl => HS.out j l (by
        have := (List.getElem?_eq_some_iff.1 hl).1
        have h2 := HN.out
        omega) hl)
      go_wp2_with fail
      go_ret
      exact ⟨⟨-1, rfl, by rw [HA.out]; rfl⟩, rfl⟩
set_option maxRecDepth 100000 in
set_option maxHeartbeats 4000000 in
theorem contains_any (pa : Option Addr) (c P : Nat) (p : Int) (L : List (List Int)) (w : World) (hL : RowsAt w pa L) (hP : w.cell? ⟨P, 0, none⟩ = some (.int .i64 p)) (hm : L.length ≤ maxLen) :
    Calls Try.prog 62 #[.slice pa L.length c, .func (.func 57) #[] #[.pointer (some ⟨P, 0, none⟩)]] w fun e w' => e = .returned (.bool (!(allB L p))) ∧ w = w' := by
  have CI := Lib.hid (index_any pa c P p L w hL hP hm)
  clear hL hP hm
  generalize allB L p = r at CI ⊢
  generalize L.length = n at CI ⊢
  go_enter Try.func62, Try.ntmps62
  go_wp2_with fail
  refine CI.out.mono ?_
  rintro e w4 ⟨⟨k, rfl, hk⟩, rfl⟩
  go_wp2_with fail
  go_ret
  exact ⟨bret (by rw [← hk]), rfl⟩
set_option maxRecDepth 100000 in
set_option maxHeartbeats 4000000 in
theorem chk2_any (pa : Option Addr) (n c T : Nat) (w : World) (hT : w.cell? ⟨T, 0, none⟩ = some (.slice pa n c)) :
    Calls Try.prog 59 #[.pointer (some ⟨T, 0, none⟩)] w fun e w' => e = .returned (.int .i64 ((if n < 1 ∨ 20 < n then 18 else 0 : Nat) : Int)) ∧ w = w' := by
  by_cases h1 : n < 1
  · have d1 : decide ((1 : Int) ≤ n) = false := by simp; omega
    rw [if_pos (.inl h1)]
    clear h1
    go_enter Try.func59, Try.ntmps59
    go_wp2_with fail
    refine (unless_any false 18 _).mono ?_
    rintro e w1 ⟨rfl, rfl⟩
    go_wp2_with fail
    go_ret
    exact ⟨rfl, rfl⟩
  · have d1 : decide ((1 : Int) ≤ n) = true := by simp; omega
    by_cases h2 : 20 < n
    · have d2 : decide ((n : Int) ≤ 20) = false := by simp; omega
      rw [if_pos (.inr h2)]
      clear h1 h2
      go_enter Try.func59, Try.ntmps59
      go_wp2_with fail
      refine (unless_any false 18 _).mono ?_
      rintro e w1 ⟨rfl, rfl⟩
      go_wp2_with fail
      go_ret
      exact ⟨rfl, rfl⟩
    · have d2 : decide ((n : Int) ≤ 20) = true := by simp; omega
      rw [if_neg (show ¬ (n < 1 ∨ 20 < n) by omega)]
      clear h1 h2
      go_enter Try.func59, Try.ntmps59
      go_wp2_with fail
      refine (unless_any true 18 _).mono ?_
      rintro e w1 ⟨rfl, rfl⟩
      go_wp2_with fail
      go_ret
      exact ⟨rfl, rfl⟩
set_option maxRecDepth 100000 in
set_option maxHeartbeats 4000000 in
theorem chk3_any (pa : Option Addr) (c T F P : Nat) (p : Int) (L : List (List Int)) (w : World) (hT : w.cell? ⟨T, 0, none⟩ = some (.slice pa L.length c)) (hF : w.cell? ⟨F, 0, none⟩ = some (.func (.func 57) #[] #[.pointer (some ⟨P, 0, none⟩)])) (hL : RowsAt w pa L) (hP : w.cell? ⟨P, 0, none⟩ = some (.int .i64 p)) (hm : L.length ≤ maxLen) :
    Calls Try.prog 61 #[.pointer (some ⟨T, 0, none⟩), .pointer (some ⟨F, 0, none⟩)] w fun e w' => e = .returned (.int .i64 ((if allB L p = false then 18 else 0 : Nat) : Int)) ∧ w = w' := by
  have CI := Lib.hid (contains_any pa c P p L w hL hP hm)
  clear hL hP hm
  generalize allB L p = r at CI ⊢
  generalize L.length = n at CI hT ⊢
  cases r
  · go_enter Try.func61, Try.ntmps61
    go_wp2_with fail
    refine CI.out.mono ?_
    rintro e w4 ⟨rfl, rfl⟩
    go_wp2_with fail
    refine (unless_any false 18 _).mono ?_
    rintro e w1 ⟨rfl, rfl⟩
    go_wp2_with fail
    go_ret
    exact ⟨rfl, rfl⟩
  · go_enter Try.func61, Try.ntmps61
    go_wp2_with fail
    refine CI.out.mono ?_
    rintro e w4 ⟨rfl, rfl⟩
    go_wp2_with fail
    refine (unless_any true 18 _).mono ?_
    rintro e w1 ⟨rfl, rfl⟩
    go_wp2_with fail
    go_ret
    exact ⟨rfl, rfl⟩
set_option maxRecDepth 100000 in
set_option maxHeartbeats 4000000 in
theorem chk4_any (U : Nat) (f : Int) (w : World) (hU : w.cell? ⟨U, 0, none⟩ = some (.int .i64 f)) :
    Calls Try.prog 63 #[.pointer (some ⟨U, 0, none⟩)] w fun e w' => e = .returned (.int .i64 ((if f < 1 ∨ 10000 < f then 19 else 0 : Nat) : Int)) ∧ w = w' := by
  by_cases h1 : f < 1
  · have d1 : decide ((1 : Int) ≤ f) = false := by simp; omega
    rw [if_pos (.inl h1)]
    clear h1
    go_enter Try.func63, Try.ntmps63
    go_wp2_with fail
    refine (unless_any false 19 _).mono ?_
    rintro e w1 ⟨rfl, rfl⟩
    go_wp2_with fail
    go_ret
    exact ⟨rfl, rfl⟩
  · have d1 : decide ((1 : Int) ≤ f) = true := by simp; omega
    by_cases h2 : 10000 < f
    · have d2 : decide (f ≤ 10000) = false := by simp; omega
      rw [if_pos (.inr h2)]
      clear h1 h2
      go_enter Try.func63, Try.ntmps63
      go_wp2_with fail
      refine (unless_any false 19 _).mono ?_
      rintro e w1 ⟨rfl, rfl⟩
      go_wp2_with fail
      go_ret
      exact ⟨rfl, rfl⟩
    · have d2 : decide (f ≤ 10000) = true := by simp; omega
      rw [if_neg (show ¬ (f < 1 ∨ 10000 < f) by omega)]
      clear h1 h2
      go_enter Try.func63, Try.ntmps63
      go_wp2_with fail
      refine (unless_any true 19 _).mono ?_
      rintro e w1 ⟨rfl, rfl⟩
      go_wp2_with fail
      go_ret
      exact ⟨rfl, rfl⟩
end Go.Proofs.Ytpnljefgenniaaa

