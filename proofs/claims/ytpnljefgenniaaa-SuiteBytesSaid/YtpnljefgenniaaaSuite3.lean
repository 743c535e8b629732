/- suite.Check, the document's Check, Few. No conditions. -/
import Derived.Test.YtpnljefgenniaaaSuite2
import Derived.Test.YtpnljefgenniaaaWireRef
namespace Go.Proofs.Ytpnljefgenniaaa
set_option linter.unusedVariables false
open Go Go.RowKit

/-- block g holds the three questions -/
def asks (w : World) (g T F U : Nat) : Prop := w.heap[g]? = some (.cells #[.func (.func 59) #[] #[.pointer (some ⟨T, 0, none⟩)], .func (.func 61) #[] #[.pointer (some ⟨T, 0, none⟩), .pointer (some ⟨F, 0, none⟩)], .func (.func 63) #[] #[.pointer (some ⟨U, 0, none⟩)]] 52 (0, 0))
theorem asks.cells {w : World} {g T F U : Nat} (h : asks w g T F U) : w.cell? ⟨g, 0, none⟩ = some (.func (.func 59) #[] #[.pointer (some ⟨T, 0, none⟩)]) ∧ w.cell? ⟨g, 1, none⟩ = some (.func (.func 61) #[] #[.pointer (some ⟨T, 0, none⟩), .pointer (some ⟨F, 0, none⟩)]) ∧ w.cell? ⟨g, 2, none⟩ = some (.func (.func 63) #[] #[.pointer (some ⟨U, 0, none⟩)]) := by
  unfold asks at h
  refine ⟨?_, ?_, ?_⟩ <;> (unfold World.cell?; rw [h]; rfl)
set_option maxRecDepth 100000 in
set_option maxHeartbeats 4000000 in
theorem first_any (pa : Option Addr) (c T F P U g : Nat) (p f : Int) (L : List (List Int)) (w : World) (hg : asks w g T F U) (hT : w.cell? ⟨T, 0, none⟩ = some (.slice pa L.length c)) (hF : w.cell? ⟨F, 0, none⟩ = some (.func (.func 57) #[] #[.pointer (some ⟨P, 0, none⟩)])) (hU : w.cell? ⟨U, 0, none⟩ = some (.int .i64 f)) (hL : RowsAt w pa L) (hP : w.cell? ⟨P, 0, none⟩ = some (.int .i64 p)) (hm : L.length ≤ maxLen) :
    Calls Try.prog 58 #[.slice (some ⟨g, 0, none⟩) 3 3] w fun e w' => e = .returned (.int .i64 (chkF p L f : Nat)) ∧ w = w' := by
  obtain ⟨f0, f1, f2⟩ := hg.cells
  have C2 := Lib.hid (chk2_any pa L.length c T w hT)
  have C3 := Lib.hid (chk3_any pa c T F P p L w hT hF hL hP hm)
  have C4 := Lib.hid (chk4_any U f w hU)
  have HV : Hid ((L.length < 1 ∨ 20 < L.length → chkF p L f = 18) ∧ (¬ (L.length < 1 ∨ 20 < L.length) → allB L p = false → chkF p L f = 18) ∧ (¬ (L.length < 1 ∨ 20 < L.length) → allB L p = true → (f < 1 ∨ 10000 < f) → chkF p L f = 19) ∧ (¬ (L.length < 1 ∨ 20 < L.length) → allB L p = true → ¬ (f < 1 ∨ 10000 < f) → chkF p L f = 0)) := Lib.hid (by
    unfold chkF
    refine ⟨fun h => by rw [if_pos h], fun h h2 => by rw [if_neg h, if_pos h2], fun h h2 h3 => by rw [if_neg h, h2, if_neg (by decide), if_pos h3], fun h h2 h3 => by rw [if_neg h, h2, if_neg (by decide), if_neg h3]⟩)
  clear hg hT hF hU hL hP hm
  generalize chkF p L f = V at HV ⊢
  generalize L.length = n at C2 HV
  generalize allB L p = r at C3 HV
  go_enter Try.func58, Try.ntmps58
  go_wp2_with fail
  go_loopw [8] (fun i wr => ∃ k : Nat, k ≤ 3 ∧ i = .int .i64 k ∧ w = wr ∧ (1 ≤ k → ¬ (n < 1 ∨ 20 < n)) ∧ (2 ≤ k → r = true) ∧ (3 ≤ k → ¬ (f < 1 ∨ 10000 < f))) (fun i _ => 3 - (intOf i).toNat)
  case atStart => exact ⟨0, by omega, rfl, rfl, fun h => by omega, fun h => by omega, fun h => by omega⟩
  case round =>
    obtain ⟨k, hk, rfl, rfl, h1, h2, h3⟩ := hrel
    have H1 := Lib.hid h1
    have H2 := Lib.hid h2
    have H3 := Lib.hid h3
    clear h1 h2 h3
    rcases (show k = 0 ∨ k = 1 ∨ k = 2 ∨ k = 3 by omega) with rfl | rfl | rfl | rfl
    · by_cases hc : n < 1 ∨ 20 < n
      · rw [if_pos hc] at C2
        have HVV := Lib.hid (HV.out.1 hc)
        clear hc
        go_wp2_with fail
        refine C2.out.mono ?_
        rintro e w4 ⟨rfl, rfl⟩
        go_wp2_with fail
        go_ret
        exact ⟨by rw [HVV.out]; rfl, rfl⟩
      · rw [if_neg hc] at C2
        have HC := Lib.hid hc
        clear hc
        go_wp2_with fail
        refine C2.out.mono ?_
        rintro e w4 ⟨rfl, rfl⟩
        go_wp2_with fail
        go_roundw
        case rel => exact ⟨1, by omega, by go_num, by first | rfl | trivial, fun _ => HC.out, fun h => by omega, fun h => by omega⟩
        case measure => simp [intOf]
    · cases r
      · have HVV := Lib.hid (HV.out.2.1 (H1.out (by omega)) rfl)
        go_wp2_with fail
        refine C3.out.mono ?_
        rintro e w4 ⟨rfl, rfl⟩
        go_wp2_with fail
        go_ret
        exact ⟨by rw [HVV.out]; rfl, rfl⟩
      · go_wp2_with fail
        refine C3.out.mono ?_
        rintro e w4 ⟨rfl, rfl⟩
        go_wp2_with fail
        go_roundw
        case rel => exact ⟨2, by omega, by go_num, by first | rfl | trivial, fun _ => H1.out (by omega), fun _ => by first | rfl | trivial, fun h => by omega⟩
        case measure => simp [intOf]
    · by_cases hc : f < 1 ∨ 10000 < f
      · rw [if_pos hc] at C4
        have HVV := Lib.hid (HV.out.2.2.1 (H1.out (by omega)) (H2.out (by omega)) hc)
        clear hc
        go_wp2_with fail
        refine C4.out.mono ?_
        rintro e w4 ⟨rfl, rfl⟩
        go_wp2_with fail
        go_ret
        exact ⟨by rw [HVV.out]; rfl, rfl⟩
      · rw [if_neg hc] at C4
        have HC := Lib.hid hc
        clear hc
        go_wp2_with fail
        refine C4.out.mono ?_
        rintro e w4 ⟨rfl, rfl⟩
        go_wp2_with fail
        go_roundw
        case rel => exact ⟨3, by omega, by go_num, by first | rfl | trivial, fun _ => H1.out (by omega), fun _ => H2.out (by omega), fun _ => HC.out⟩
        case measure => simp [intOf]
    · have HVV := Lib.hid (HV.out.2.2.2 (H1.out (by omega)) (H2.out (by omega)) (H3.out (by omega)))
      go_wp2_with fail
      go_ret
      exact ⟨by rw [HVV.out]; rfl, rfl⟩
theorem c_of {w : World} {g : Nat} {v : Value} {T : TypeId} (h : w.heap[g]? = some (.cells #[v] T (0, 0))) : w.cell? ⟨g, 0, none⟩ = some v := by unfold World.cell?; rw [h]; rfl
set_option maxRecDepth 100000 in
set_option maxHeartbeats 4000000 in
theorem check_any (p : Int) (pa : Option Addr) (c : Nat) (L : List (List Int)) (f : Int) (w : World) (hL : RowsAt w pa L) (hm : L.length ≤ maxLen) :
    Calls Try.prog 32 #[.int .i64 p, .slice pa L.length c, .int .i64 f] w fun e w' => e = .returned (.int .i64 (chkF p L f : Nat)) ∧ Below w.heap.size w w' := by
  have hmf : ∀ (fn : Fn) (first cap : Array Value) (w : World), (Instr.makeFunc fn first cap).run Try.prog w = .ok (.func fn first cap) w := fun _ _ _ _ => rfl
  obtain ⟨n, hn⟩ : ∃ n, L.length = n := ⟨_, rfl⟩
  have HL := Lib.hid hL
  have HM := Lib.hid hm
  have HN := Lib.hid hn
  rw [hn]
  clear hL hm hn
  obtain ⟨h0, h1, h2, h3, hb⟩ := alloc4w w (.cells #[.int .i64 p] 3) (.cells #[.slice pa n c] 58) (.cells #[.int .i64 f] 3) (.cells #[.func (.func 57) #[] #[.pointer (some ⟨w.heap.size, 0, none⟩)]] 96)
  have h4 := heap_alloc_new ((((w.alloc (.cells #[.int .i64 p] 3)).alloc (.cells #[.slice pa n c] 58)).alloc (.cells #[.int .i64 f] 3)).alloc (.cells #[.func (.func 57) #[] #[.pointer (some ⟨w.heap.size, 0, none⟩)]] 96)) (.cells #[.func (.func 59) #[] #[.pointer (some ⟨w.heap.size + 1, 0, none⟩)], .func (.func 61) #[] #[.pointer (some ⟨w.heap.size + 1, 0, none⟩), .pointer (some ⟨w.heap.size + 1 + 1 + 1, 0, none⟩)], .func (.func 63) #[] #[.pointer (some ⟨w.heap.size + 1 + 1, 0, none⟩)]] 52)
  have hz : ((((w.alloc (.cells #[.int .i64 p] 3)).alloc (.cells #[.slice pa n c] 58)).alloc (.cells #[.int .i64 f] 3)).alloc (.cells #[.func (.func 57) #[] #[.pointer (some ⟨w.heap.size, 0, none⟩)]] 96)).heap.size = w.heap.size + 1 + 1 + 1 + 1 := by simp
  rw [hz] at h4
  have k0 := (Below.heap_alloc ((((w.alloc (.cells #[.int .i64 p] 3)).alloc (.cells #[.slice pa n c] 58)).alloc (.cells #[.int .i64 f] 3)).alloc (.cells #[.func (.func 57) #[] #[.pointer (some ⟨w.heap.size, 0, none⟩)]] 96)) (.cells #[.func (.func 59) #[] #[.pointer (some ⟨w.heap.size + 1, 0, none⟩)], .func (.func 61) #[] #[.pointer (some ⟨w.heap.size + 1, 0, none⟩), .pointer (some ⟨w.heap.size + 1 + 1 + 1, 0, none⟩)], .func (.func 63) #[] #[.pointer (some ⟨w.heap.size + 1 + 1, 0, none⟩)]] 52) w.heap.size (by rw [hz]; omega)).trans h0
  have k1 := (Below.heap_alloc ((((w.alloc (.cells #[.int .i64 p] 3)).alloc (.cells #[.slice pa n c] 58)).alloc (.cells #[.int .i64 f] 3)).alloc (.cells #[.func (.func 57) #[] #[.pointer (some ⟨w.heap.size, 0, none⟩)]] 96)) (.cells #[.func (.func 59) #[] #[.pointer (some ⟨w.heap.size + 1, 0, none⟩)], .func (.func 61) #[] #[.pointer (some ⟨w.heap.size + 1, 0, none⟩), .pointer (some ⟨w.heap.size + 1 + 1 + 1, 0, none⟩)], .func (.func 63) #[] #[.pointer (some ⟨w.heap.size + 1 + 1, 0, none⟩)]] 52) (w.heap.size + 1) (by rw [hz]; omega)).trans h1
  have k2 := (Below.heap_alloc ((((w.alloc (.cells #[.int .i64 p] 3)).alloc (.cells #[.slice pa n c] 58)).alloc (.cells #[.int .i64 f] 3)).alloc (.cells #[.func (.func 57) #[] #[.pointer (some ⟨w.heap.size, 0, none⟩)]] 96)) (.cells #[.func (.func 59) #[] #[.pointer (some ⟨w.heap.size + 1, 0, none⟩)], .func (.func 61) #[] #[.pointer (some ⟨w.heap.size + 1, 0, none⟩), .pointer (some ⟨w.heap.size + 1 + 1 + 1, 0, none⟩)], .func (.func 63) #[] #[.pointer (some ⟨w.heap.size + 1 + 1, 0, none⟩)]] 52) (w.heap.size + 1 + 1) (by rw [hz]; omega)).trans h2
  have k3 := (Below.heap_alloc ((((w.alloc (.cells #[.int .i64 p] 3)).alloc (.cells #[.slice pa n c] 58)).alloc (.cells #[.int .i64 f] 3)).alloc (.cells #[.func (.func 57) #[] #[.pointer (some ⟨w.heap.size, 0, none⟩)]] 96)) (.cells #[.func (.func 59) #[] #[.pointer (some ⟨w.heap.size + 1, 0, none⟩)], .func (.func 61) #[] #[.pointer (some ⟨w.heap.size + 1, 0, none⟩), .pointer (some ⟨w.heap.size + 1 + 1 + 1, 0, none⟩)], .func (.func 63) #[] #[.pointer (some ⟨w.heap.size + 1 + 1, 0, none⟩)]] 52) (w.heap.size + 1 + 1 + 1) (by rw [hz]; omega)).trans h3
  have kb := hb.alloc hb.size (.cells #[.func (.func 59) #[] #[.pointer (some ⟨w.heap.size + 1, 0, none⟩)], .func (.func 61) #[] #[.pointer (some ⟨w.heap.size + 1, 0, none⟩), .pointer (some ⟨w.heap.size + 1 + 1 + 1, 0, none⟩)], .func (.func 63) #[] #[.pointer (some ⟨w.heap.size + 1 + 1, 0, none⟩)]] 52)
  have K0 := Lib.hid (c_of k0)
  have K1 := Lib.hid (c_of k1)
  have K2 := Lib.hid (c_of k2)
  have K3 := Lib.hid (c_of k3)
  have K4 := Lib.hid (show asks _ _ _ _ _ from h4)
  have KB := Lib.hid kb
  clear h0 h1 h2 h3 h4 hb hz k0 k1 k2 k3 kb
  go_enter Try.func32, Try.ntmps32
  go_wp2_with fail
  generalize ((((w.alloc (.cells #[.int .i64 p] 3)).alloc (.cells #[.slice pa n c] 58)).alloc (.cells #[.int .i64 f] 3)).alloc (.cells #[.func (.func 57) #[] #[.pointer (some ⟨w.heap.size, 0, none⟩)]] 96)).alloc (.cells #[.func (.func 59) #[] #[.pointer (some ⟨w.heap.size + 1, 0, none⟩)], .func (.func 61) #[] #[.pointer (some ⟨w.heap.size + 1, 0, none⟩), .pointer (some ⟨w.heap.size + 1 + 1 + 1, 0, none⟩)], .func (.func 63) #[] #[.pointer (some ⟨w.heap.size + 1 + 1, 0, none⟩)]] 52) = W at K0 K1 K2 K3 K4 KB ⊢
  have CF := first_any pa c _ _ _ _ _ p f L W K4.out (by rw [HN.out]; exact K1.out) K3.out K2.out (HL.out.later KB.out) K0.out HM.out
  have HCF := Lib.hid CF
  clear CF
  refine HCF.out.mono ?_
  rintro e w4 ⟨rfl, rfl⟩
  go_wp2_with fail
  go_ret
  exact ⟨rfl, KB.out⟩
set_option maxRecDepth 100000 in
set_option maxHeartbeats 4000000 in
theorem rcheck_any (p : Int) (pa : Option Addr) (c : Nat) (L : List (List Int)) (f : Int) (w : World) (hL : RowsAt w pa L) (hm : L.length ≤ maxLen) :
    Calls Try.prog 33 #[.int .i64 p, .slice pa L.length c, .int .i64 f] w fun e w' => e = .returned (.int .i64 (chkF p L f : Nat)) ∧ w = w' := by
  obtain ⟨n, hn⟩ : ∃ n, L.length = n := ⟨_, rfl⟩
  have HL := Lib.hid hL
  unfold maxLen at hm
  rw [hn] at hm
  rw [hn]
  have HN := Lib.hid hn
  by_cases h1 : n < 1
  · have HV : Hid (chkF p L f = 18) := Lib.hid (by unfold chkF; rw [if_pos (by omega)])
    have d1 : decide ((n : Int) < 1) = true := by simp; omega
    clear hL hn h1
    go_enter Try.func33, Try.ntmps33
    go_wp2_with fail
    go_ret
    exact ⟨by rw [HV.out]; rfl, rfl⟩
  have d1 : decide ((n : Int) < 1) = false := by simp; omega
  by_cases h2 : 20 < n
  · have HV : Hid (chkF p L f = 18) := Lib.hid (by unfold chkF; rw [if_pos (by omega)])
    have d2 : decide ((20 : Int) < n) = true := by simp; omega
    clear hL hn h1 h2
    go_enter Try.func33, Try.ntmps33
    go_wp2_with fail
    go_ret
    exact ⟨by rw [HV.out]; rfl, rfl⟩
  have d2 : decide ((20 : Int) < n) = false := by simp; omega
  have HC : Hid (chkF p L f = if allB L p = false then 18 else if f < 1 ∨ 10000 < f then 19 else 0) := Lib.hid (by unfold chkF; rw [if_neg (by omega)])
  clear hL hn h1 h2
  go_enter Try.func33, Try.ntmps33
  go_wp2_with fail
  go_loopw [7] (fun i wr => ∃ k : Nat, k ≤ n ∧ i = .int .i64 k ∧ (∀ j l, j < k → L[j]? = some l → (l.length : Int) = p) ∧ w = wr) (fun i _ => n - (intOf i).toNat)
  case atStart => exact ⟨0, by omega, rfl, fun j l hj => by omega, rfl⟩
  case round =>
    obtain ⟨k, hk, rfl, hs, rfl⟩ := hrel
    have HS := Lib.hid hs
    clear hs
    by_cases hlt : k < n
    · obtain ⟨x, hx⟩ := some_at (show k < L.length by rw [HN.out]; exact hlt)
      obtain ⟨b1, o1, p1, q1, rfl, c1, i1⟩ := HL.out.at hx
      have HX := Lib.hid hx
      clear hx i1
      obtain ⟨m, hmx⟩ : ∃ m, x.length = m := ⟨_, rfl⟩
      rw [hmx] at c1
      have HMX := Lib.hid hmx
      clear hmx
      by_cases hp : (m : Int) = p
      · have HP := Lib.hid hp
        have hb : ((m : Int) == p) = true := by simpa using hp
        clear hp
        go_wp2_with fail
        go_roundw
        case rel =>
          refine ⟨k + 1, by omega, by go_num, fun j l hj hl => ?_, by first | rfl | trivial⟩
          by_cases hjk : j < k
          · exact HS.out j l hjk hl
          · obtain rfl : j = k := by omega
            rw [HX.out] at hl
            cases hl
            rw [HMX.out]; exact HP.out
        case measure => simp [intOf]; omega
      · have hb : ((m : Int) == p) = false := by simpa using hp
        have HV : Hid (chkF p L f = 18) := Lib.hid (by rw [HC.out, if_pos (allB_no HX.out (by rw [HMX.out]; exact hp))])
        clear hp
        go_wp2_with fail
        go_ret
        exact ⟨by rw [HV.out]; rfl, rfl⟩
    · obtain rfl : k = n := by omega
      have hA : allB L p = true := allB_yes fun j l hl => HS.out j l (by
        have := (List.getElem?_eq_some_iff.1 hl).1
        have h2 := HN.out
        omega) hl
      rw [hA, if_neg (by decide)] at HC
      clear hA
      by_cases h3 : f < 1
      · have d3 : decide (f < 1) = true := by simp; omega
        have HV : Hid (chkF p L f = 19) := Lib.hid (by rw [HC.out, if_pos (.inl h3)])
        clear h3
        go_wp2_with fail
        go_ret
        exact ⟨by rw [HV.out]; rfl, rfl⟩
      · have d3 : decide (f < 1) = false := by simp; omega
        by_cases h4 : 10000 < f
        · have d4 : decide (10000 < f) = true := by simp; omega
          have HV : Hid (chkF p L f = 19) := Lib.hid (by rw [HC.out, if_pos (.inr h4)])
          clear h3 h4
          go_wp2_with fail
          go_ret
          exact ⟨by rw [HV.out]; rfl, rfl⟩
        · have d4 : decide (10000 < f) = false := by simp; omega
          have HV : Hid (chkF p L f = 0) := Lib.hid (by rw [HC.out, if_neg (by omega)])
          clear h3 h4
          go_wp2_with fail
          go_ret
          exact ⟨by rw [HV.out]; rfl, rfl⟩
def fewT (L : List (List Int)) : Bool := decide (L.length ≤ 40) && L.all fun l => decide (l.length ≤ 40)
set_option maxRecDepth 100000 in
set_option maxHeartbeats 4000000 in
theorem fewT_any (pa : Option Addr) (c : Nat) (L : List (List Int)) (w : World) (hL : RowsAt w pa L) (hm : L.length ≤ maxLen) :
    Calls Try.prog 30 #[.slice pa L.length c] w fun e w' => e = .returned (.bool (fewT L)) ∧ w = w' := by
  obtain ⟨n, hn⟩ : ∃ n, L.length = n := ⟨_, rfl⟩
  have HL := Lib.hid hL
  unfold maxLen at hm
  rw [hn] at hm
  rw [hn]
  have HN := Lib.hid hn
  by_cases h1 : 40 < n
  · have HV : Hid (fewT L = false) := Lib.hid (by unfold fewT; rw [decide_eq_false (by omega)]; rfl)
    have d1 : decide ((40 : Int) < n) = true := by simp; omega
    clear hL hn h1
    go_enter Try.func30, Try.ntmps30
    go_wp2_with fail
    go_ret
    exact ⟨by rw [HV.out]; rfl, rfl⟩
  have d1 : decide ((40 : Int) < n) = false := by simp; omega
  have HC : Hid (fewT L = L.all fun l => decide (l.length ≤ 40)) := Lib.hid (by unfold fewT; rw [decide_eq_true (by omega)]; rfl)
  clear hL hn h1
  go_enter Try.func30, Try.ntmps30
  go_wp2_with fail
  go_loopw [3] (fun i wr => ∃ k : Nat, k ≤ n ∧ i = .int .i64 k ∧ (∀ j l, j < k → L[j]? = some l → l.length ≤ 40) ∧ w = wr) (fun i _ => n - (intOf i).toNat)
  case atStart => exact ⟨0, by omega, rfl, fun j l hj => by omega, rfl⟩
  case round =>
    obtain ⟨k, hk, rfl, hs, rfl⟩ := hrel
    have HS := Lib.hid hs
    clear hs
    by_cases hlt : k < n
    · obtain ⟨x, hx⟩ := some_at (show k < L.length by rw [HN.out]; exact hlt)
      obtain ⟨b1, o1, p1, q1, rfl, c1, i1⟩ := HL.out.at hx
      have HX := Lib.hid hx
      clear hx i1
      obtain ⟨m, hmx⟩ : ∃ m, x.length = m := ⟨_, rfl⟩
      rw [hmx] at c1
      have HMX := Lib.hid hmx
      clear hmx
      by_cases hp : 40 < m
      · have hb : decide ((40 : Int) < m) = true := by simp; omega
        have HV : Hid (fewT L = false) := Lib.hid (by
          rw [HC.out, List.all_eq_false]
          exact ⟨x, List.mem_of_getElem? HX.out, by have := HMX.out; simp; omega⟩)
        clear hp
        go_wp2_with fail
        go_ret
        exact ⟨by rw [HV.out]; rfl, rfl⟩
      · have hb : decide ((40 : Int) < m) = false := by simp; omega
        have HP := Lib.hid hp
        clear hp
        go_wp2_with fail
        go_roundw
        case rel =>
          refine ⟨k + 1, by omega, by go_num, fun j l hj hl => ?_, by first | rfl | trivial⟩
          by_cases hjk : j < k
          · exact HS.out j l hjk hl
          · obtain rfl : j = k := by omega
            rw [HX.out] at hl
            cases hl
            have h1 := HMX.out
            have h2 := HP.out
            omega
        case measure => simp [intOf]; omega
    · obtain rfl : k = n := by omega
      have HV : Hid (fewT L = true) := Lib.hid (by
        rw [HC.out, List.all_eq_true]
        intro l hl
        obtain ⟨j, hj⟩ := List.mem_iff_getElem?.1 hl
        exact decide_eq_true (HS.out j l (by
          have := (List.getElem?_eq_some_iff.1 hj).1
          have h2 := HN.out
          omega) hj))
      go_wp2_with fail
      go_ret
      exact ⟨by rw [HV.out]; rfl, rfl⟩
end Go.Proofs.Ytpnljefgenniaaa

