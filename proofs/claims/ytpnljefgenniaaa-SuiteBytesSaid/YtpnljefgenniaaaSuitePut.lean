/- suite.Put at every list of tests. No conditions. -/
import Derived.Test.YtpnljefgenniaaaSuitePlain
import Derived.Deep.RegionHeld3
namespace Go.Proofs.Ytpnljefgenniaaa
set_option linter.unusedVariables false
open Go Go.RowKit

theorem wrote_below {n p : Nat} {v : Value} {l l' : List UInt8} {u w w' : World} {e : Ending} (hb : Below n u w) (hn : n ≤ w.heap.size) (hw : WrAt w n p v l) (h : Wrote n p v l' w e w') : e = .returned (.pointer (some ⟨p, 0, none⟩)) ∧ Below n u w' ∧ n ≤ w'.heap.size ∧ ∃ v', WrAt w' n p v' l' :=
  ⟨h.1, hb.trans (h.2.choose_spec.2.1.below hw), Nat.le_trans hn h.2.choose_spec.2.1.size, _, h.2.choose_spec.1⟩
theorem WrAt.fresh (V : World) (n : Nat) (hz : V.heap.size = n) : WrAt (V.alloc (.cells #[.slice none 0 0] 73)).drew n n (.slice none 0 0) [] ∧ n ≤ (V.alloc (.cells #[.slice none 0 0] 73)).drew.heap.size := by
  subst hz
  exact ⟨WrAt.new V.drew V.heap.size (Nat.le_refl _), by rw [World.size_drew, World.size_alloc]; omega⟩
theorem take_next {α : Type} {l : List α} {j : Nat} {x : α} (h : l[j]? = some x) : l.take (j + 1) = l.take j ++ [x] := by
  obtain ⟨hlt, he⟩ := List.getElem?_eq_some_iff.1 h
  rw [List.take_succ_eq_append_getElem hlt, he]
theorem mret {s s' : ByteArray} {b b' : Nat} (h1 : s' = s) (h2 : b' = b) : Ending.returned (.tuple #[.string s, .int .i64 (b : Int)]) = .returned (.tuple #[.string s', .int .i64 (b' : Int)]) := by rw [h1, h2]
set_option maxRecDepth 100000 in
set_option maxHeartbeats 8000000 in
theorem sput_ok (pa : Option Addr) (c : Nat) (L : List (List Int)) (f : Int) (w : World) (hL : RowsAt w pa L) (hI : ∀ l ∈ L, ∀ x ∈ l, I64 x) (hE : tE L f = 0) :
    Calls Try.prog 35 #[.slice pa L.length c, .int .i64 f] w fun e w' => e = .returned (.tuple #[.string (bStr (sBytes L f)), .int .i64 0]) ∧ Below w.heap.size w w' := by
  obtain ⟨g1, g2, g3, g4, g5, g6⟩ := tE_ok hE
  obtain ⟨l0, h0⟩ : ∃ l, L[0]? = some l := some_at (List.length_pos_iff.2 g1)
  have hhd : headL L = l0 := by
    cases L with
    | nil => exact absurd rfl g1
    | cons a b => simpa [headL] using h0
  obtain ⟨b0, o0, p0, q0, hpa, c0, i0⟩ := hL.at h0
  have hb0 := World.block_lt_of_cell? w _ c0
  obtain ⟨n, hn⟩ : ∃ n, L.length = n := ⟨_, rfl⟩
  obtain ⟨m0, hm0⟩ : ∃ m, l0.length = m := ⟨_, rfl⟩
  obtain ⟨fn, hfn⟩ := Int.eq_ofNat_of_zero_le (show 0 ≤ f by omega)
  have hm : L.length ≤ maxLen := by unfold maxLen; omega
  have hm12 : m0 ≤ 12 := by rw [hhd, hm0] at g2; exact g2
  have CK := Lib.hid (fun W h => check_any m0 pa c L f W h hm)
  have hck : chkF m0 L f = 0 := by
    have := hE; unfold tE at this
    rw [if_neg (by rw [hhd, hm0]; intro h; rcases h with h | h; exact g1 h; omega), hhd, hm0] at this
    exact this
  rw [hck, hn] at CK
  have HHD : Hid (sHead L f = [] ++ lebL fn ++ lebL n ++ lebL m0) := Lib.hid (by unfold sHead; rw [hhd, hm0, hn, hfn]; rfl)
  have HLEN : Hid (∀ k l j, L[k]? = some l → (sHead L f ++ zigsL (L.take k).flatten ++ zigsL (l.take j)).length ≤ 100000) := Lib.hid (by
    intro k l j hk
    have a1 : (sHead L f).length ≤ 30 := by
      rw [HHD.out]
      simp only [List.length_append, List.length_nil]
      have u1 := lebL_len (show U64 fn by unfold U64; omega)
      have u2 := lebL_len (show U64 n by unfold U64; omega)
      have u3 := lebL_len (show U64 m0 by unfold U64; omega)
      omega
    have a2 : (zigsL (L.take k).flatten).length ≤ 10 * (L.take k).flatten.length := zigsL_len _ fun x hx => by
      obtain ⟨q, hq, hxq⟩ := List.mem_flatten.1 hx
      exact hI q (List.mem_of_mem_take hq) x hxq
    have a3 := flatten_len (L.take k) 12 fun q hq => by have := g4 q (List.mem_of_mem_take hq); omega
    have a4 : (L.take k).length ≤ 20 := by rw [List.length_take]; omega
    have hl := List.mem_of_getElem? hk
    have a5 : (zigsL (l.take j)).length ≤ 10 * (l.take j).length := zigsL_len _ fun x hx => hI l hl x (List.mem_of_mem_take hx)
    have a6 : (l.take j).length ≤ 12 := by rw [List.length_take]; have := g4 l hl; omega
    simp only [List.length_append]
    have a7 : (L.take k).flatten.length ≤ 20 * 12 := Nat.le_trans a3 (Nat.mul_le_mul_right 12 a4)
    omega)
  have HI := Lib.hid hI
  have HL := Lib.hid hL
  have HN := Lib.hid hn
  have hw1 : IntKind.u64.wrap (fn : Int) = (fn : Int) := by rw [IntKind.wrap_u64]; omega
  have hw2 : IntKind.u64.wrap (n : Int) = (n : Int) := by rw [IntKind.wrap_u64]; omega
  have hw3 : IntKind.u64.wrap (m0 : Int) = (m0 : Int) := by rw [IntKind.wrap_u64]; omega
  have hfl : fn ≤ 10000 := by omega
  have hnl : n ≤ 20 := by omega
  have n0 : ((n : Int) == 0) = false := by have := List.length_pos_iff.2 g1; simp; omega
  have d12 : decide ((12 : Int) < m0) = false := by simp; omega
  have hn1 : (0 : Int) < n := by have := List.length_pos_iff.2 g1; omega
  have hn1' : 0 < n := by omega
  rw [hn]
  rw [hm0, Nat.add_zero] at c0
  subst hpa
  rw [show sBytes L f = sHead L f ++ zigsL L.flatten from rfl]
  have HR : Hid (∀ l ∈ L, l.length ≤ 12) := Lib.hid (fun l hl => by have := g4 l hl; omega)
  clear hL hI hE g1 g2 g3 g4 g5 g6 h0 hhd i0 hn hm0 hm hck
  generalize sHead L f = hd at HHD HLEN ⊢
  rw [hfn] at CK ⊢
  have hbl0 : b0 < w.heap.size := hb0
  go_enter Try.func35, Try.ntmps35
  go_wp2_with fail
  refine (CK.out _ HL.out).mono ?_
  rintro e w1 ⟨rfl, hb1⟩
  have c1 : w1.cell? ⟨b0, o0, none⟩ = some (.slice p0 m0 q0) := (hb1.cell (p := ⟨b0, o0, none⟩) hbl0).trans c0
  have HL1 := Lib.hid (HL.out.later hb1)
  have HB1 := Lib.hid hb1
  have hb01 : b0 < w1.heap.size := Nat.lt_of_lt_of_le hbl0 hb1.size
  clear hb1 c0 hb0 hbl0 CK HL
  have l0 : ∀ w', Below w1.heap.size w1 w' → w'.cell? ⟨b0, o0, none⟩ = some (.slice p0 m0 q0) := fun w' h => (h.cell (p := ⟨b0, o0, none⟩) hb01).trans c1
  have hbS := Below.refl w1.heap.size w1
  have hz1 : w1.heap.size = w1.heap.size := rfl
  obtain ⟨N, hN⟩ : ∃ N, w1.heap.size = N := ⟨_, rfl⟩
  rw [hN] at l0 hbS
  go_wp2_with fail
  go_region_held3 (fun w' => Below N w1 w') (first | (with_reducible assumption) | go_grown)
    (first | (go_at_call 14; refine (wnew_any _).mono ?_; rintro e w2 ⟨rfl, rfl⟩; obtain ⟨hWr2, hsz2⟩ := WrAt.fresh w1 _ hN) | (go_at_call 39; (with_reducible refine (wnum_any _ _ _ _ fn _ hWr2 (by unfold U64; omega) (by simp)).mono ?_); rintro e w3 hw3; obtain ⟨rfl, hbl3, hsz3, v3, hWr3⟩ := wrote_below (by first | (with_reducible assumption) | go_grown) (by assumption) hWr2 hw3; clear hw3) | (go_at_call 39; (with_reducible refine (wnum_any _ _ _ _ n _ hWr3 (by unfold U64; omega) (by have := lebL_len (show U64 fn by unfold U64; omega); simp; omega)).mono ?_); rintro e w4 hw4; obtain ⟨rfl, hbl4, hsz4, v4, hWr4⟩ := wrote_below (by first | (with_reducible assumption) | go_grown) (by assumption) hWr3 hw4; clear hw4) | (go_at_call 39; (with_reducible refine (wnum_any _ _ _ _ m0 _ hWr4 (by unfold U64; omega) (by have h1 := lebL_len (show U64 fn by unfold U64; omega); have h2 := lebL_len (show U64 n by unfold U64; omega); simp; omega)).mono ?_); rintro e w5 hw5; obtain ⟨rfl, hbl5, hsz5, v5, hWr5⟩ := wrote_below (by first | (with_reducible assumption) | go_grown) (by assumption) hWr4 hw5; clear hw5))
  have W5 := Lib.hid (show WrAt w5 N N v5 hd by rw [HHD.out]; exact hWr5)
  clear hWr2 hWr3 hWr4 hWr5 hbl3 hbl4 hsz2 hsz3 hsz4 hbS l0 c1 hw1 hw2 hw3 n0 d12 hn1 hn1'
  go_wp2_with fail
  go_loopw [48] (fun i wr => ∃ k : Nat, k ≤ n ∧ i = .int .i64 k ∧ (∃ v, WrAt wr N N v (hd ++ zigsL (L.take k).flatten)) ∧ Below N w1 wr ∧ N ≤ wr.heap.size) (fun i _ => n - (intOf i).toNat)
  case atStart => exact ⟨0, by omega, rfl, ⟨v5, by simpa [zigsL] using W5.out⟩, hbl5, hsz5⟩
  case round =>
    obtain ⟨k, hk, rfl, ⟨v, hWr⟩, hbw, hsw⟩ := hrel
    have HW := Lib.hid hWr
    clear hWr W5
    by_cases hlt : k < n
    · obtain ⟨x, hx⟩ := some_at (show k < L.length by rw [HN.out]; exact hlt)
      obtain ⟨b1, o1, p1, q1, hp, c1, i1⟩ := HL1.out.at hx
      simp only [Option.some.injEq, Addr.mk.injEq, and_true] at hp
      obtain ⟨rfl, rfl⟩ := hp
      have c2 : wr.cell? ⟨b0, o0 + k, none⟩ = some (.slice p1 x.length q1) := (hbw.cell (p := ⟨b0, o0 + k, none⟩) (by show b0 < N; omega)).trans c1
      have HX := Lib.hid hx
      have I1 := Lib.hid i1
      obtain ⟨m, hmx⟩ : ∃ m, x.length = m := ⟨_, rfl⟩
      rw [hmx] at c2
      have HMX := Lib.hid hmx
      have hml : m ≤ 12 := by rw [← hmx]; exact HR.out x (List.mem_of_getElem? hx)
      clear c1 hx i1 hmx
      go_wp2_with fail
      generalize wr = wo at *
      go_loopw [54] (fun i wq => ∃ j : Nat, j ≤ m ∧ i = .int .i64 j ∧ (∃ v, WrAt wq N N v (hd ++ zigsL (L.take k).flatten ++ zigsL (x.take j))) ∧ Below N w1 wq ∧ N ≤ wq.heap.size) (fun i _ => m - (intOf i).toNat)
      case atStart => exact ⟨0, by omega, rfl, ⟨v, by simpa [zigsL] using HW.out⟩, hbw, hsw⟩
      case round =>
        obtain ⟨j, hj, rfl, ⟨v', hWr'⟩, hbw', hsw'⟩ := hrel
        have HW' := Lib.hid hWr'
        clear hWr' HW
        by_cases hjl : j < m
        · obtain ⟨y, hy⟩ := some_at (show j < x.length by rw [HMX.out]; exact hjl)
          obtain ⟨b3, o3, rfl, c3⟩ := I1.out.at hy
          have hb3 : b3 < w1.heap.size := World.block_lt_of_cell? w1 _ c3
          have c4 : wr.cell? ⟨b3, o3 + j, none⟩ = some (.int .i64 y) := (hbw'.cell (p := ⟨b3, o3 + j, none⟩) (by show b3 < N; omega)).trans c3
          have hy64 : I64 y := HI.out x (List.mem_of_getElem? HX.out) y (List.mem_of_getElem? hy)
          have HY := Lib.hid hy
          have CI := Lib.hid (wint_any N N v' _ y wr HW'.out hy64 (Nat.le_trans (HLEN.out k x j HX.out) (by decide)))
          clear c3 hy hy64
          go_wp2_with fail
          refine CI.out.mono ?_
          rintro e w6 hw6
          obtain ⟨rfl, hbl6, hsz6, v6, hWr6⟩ := wrote_below hbw' hsw' HW'.out hw6
          have HW6 := Lib.hid hWr6
          clear hw6 hWr6 CI
          go_wp2_with fail
          go_roundw
          case rel => exact ⟨j + 1, by omega, by go_num, ⟨v6, by rw [take_next HY.out, zigsL_snoc, ← List.append_assoc]; exact HW6.out⟩, hbl6, hsz6⟩
          case measure => simp [intOf]; omega
        · obtain rfl : j = m := by omega
          have HW7 : Hid (WrAt wr N N v' (hd ++ zigsL (L.take (k + 1)).flatten)) := Lib.hid (by
            have h := HW'.out
            rw [List.take_of_length_le (l := x) (Nat.le_of_eq HMX.out)] at h
            rw [take_next HX.out, List.flatten_append, zigsL_app, ← List.append_assoc]
            simpa using h)
          clear HW'
          go_wp2_with fail
          exact ⟨⟨k + 1, by omega, by go_num, ⟨v', HW7.out⟩, hbw', hsw'⟩, by simp [intOf]; omega⟩
    · obtain rfl : k = n := by omega
      have HE := Lib.hid (List.take_of_length_le (l := L) (Nat.le_of_eq HN.out))
      rw [HE.out] at HW
      have CB := Lib.hid (wbytes_any N N v _ wr HW.out)
      have hfin := HB1.out.trans (Below.mono (B := N) hbw (by rw [← hN]; exact HB1.out.size))
      clear HW
      go_wp2_with fail
      refine CB.out.mono ?_
      rintro e w6 ⟨rfl, rfl⟩
      go_wp2_with fail
      go_ret2
      exact ⟨rfl, hfin⟩
set_option maxRecDepth 100000 in
set_option maxHeartbeats 4000000 in
theorem sput_bad (pa : Option Addr) (c : Nat) (L : List (List Int)) (f : Int) (w : World) (hL : RowsAt w pa L) (hm : L.length ≤ maxLen) (hm2 : ∀ l ∈ L, l.length ≤ maxLen) (hE : tE L f ≠ 0) :
    Calls Try.prog 35 #[.slice pa L.length c, .int .i64 f] w fun e w' => e = .returned (.tuple #[.string ⟨#[]⟩, .int .i64 (tE L f : Nat)]) ∧ Below w.heap.size w w' := by
  by_cases h0 : L = []
  · subst h0
    have hv : tE [] f = 18 := by unfold tE; rw [if_pos (.inl rfl)]
    rw [hv]
    clear hE hv hL
    go_enter Try.func35, Try.ntmps35
    go_wp2_with fail
    go_ret2
    exact ⟨rfl, Below.refl _ _⟩
  · obtain ⟨l0, hx⟩ : ∃ l, L[0]? = some l := some_at (List.length_pos_iff.2 h0)
    have hhd : headL L = l0 := by
      cases L with
      | nil => exact absurd rfl h0
      | cons a b => simpa [headL] using hx
    obtain ⟨b0, o0, p0, q0, rfl, c0, i0⟩ := hL.at hx
    have CK := Lib.hid (fun W h => check_any (l0.length : Nat) (some ⟨b0, o0, none⟩) c L f W h hm)
    have hv : tE L f = if 12 < l0.length then 18 else chkF (l0.length : Nat) L f := by
      unfold tE
      rw [hhd]
      by_cases h : 12 < l0.length
      · rw [if_pos (.inr h), if_pos h]
      · rw [if_neg (by intro h2; rcases h2 with h2 | h2; exact h0 h2; exact h h2), if_neg h]
    have hml := hm2 l0 (List.mem_of_getElem? hx)
    obtain ⟨n, hn⟩ : ∃ n, L.length = n := ⟨_, rfl⟩
    have hnp : 0 < n := by have := List.length_pos_iff.2 h0; omega
    obtain ⟨m0, hm0⟩ : ∃ m, l0.length = m := ⟨_, rfl⟩
    rw [hm0] at hv hml CK c0
    rw [hn] at hm CK ⊢
    rw [Nat.add_zero] at c0
    unfold maxLen at hm hml
    have HL := Lib.hid hL
    have n0 : ((n : Int) == 0) = false := by simp; omega
    have hn1 : (0 : Int) < n := by omega
    clear hL hm2 h0 hx hhd i0 hn hm0
    by_cases h12 : 12 < m0
    · have d12 : decide ((12 : Int) < m0) = true := by simp; omega
      rw [hv, if_pos h12]
      clear hE hv h12
      go_enter Try.func35, Try.ntmps35
      go_wp2_with fail
      go_ret2
      exact ⟨rfl, Below.refl _ _⟩
    · have d12 : decide ((12 : Int) < m0) = false := by simp; omega
      rw [if_neg h12] at hv
      rw [← hv] at CK
      clear hv h12
      generalize tE L f = E at CK hE ⊢
      have dE : ((E : Int) == 0) = false := by simp; omega
      clear hE
      go_enter Try.func35, Try.ntmps35
      go_wp2_with fail
      refine (CK.out _ HL.out).mono ?_
      rintro e w1 ⟨rfl, hb1⟩
      go_wp2_with fail
      go_ret2
      exact ⟨rfl, hb1⟩
theorem sput_any (pa : Option Addr) (c : Nat) (L : List (List Int)) (f : Int) (w : World) (hL : RowsAt w pa L) (hm : L.length ≤ maxLen) (hm2 : ∀ l ∈ L, l.length ≤ maxLen) (hI : ∀ l ∈ L, ∀ x ∈ l, I64 x) :
    Calls Try.prog 35 #[.slice pa L.length c, .int .i64 f] w fun e w' => e = .returned (.tuple #[.string (tStr L f), .int .i64 (tE L f : Nat)]) ∧ Below w.heap.size w w' := by
  unfold tStr
  by_cases h : tE L f = 0
  · rw [if_pos h, h]; exact sput_ok pa c L f w hL hI h
  · rw [if_neg h]; exact sput_bad pa c L f w hL hm hm2 h
end Go.Proofs.Ytpnljefgenniaaa

