/- The document's Put of tests. No conditions. -/
import Derived.Test.YtpnljefgenniaaaSuitePut
import Derived.Test.YtpnljefgenniaaaZigRef
import Derived.Test.YtpnljefgenniaaaLebRef
namespace Go.Proofs.Ytpnljefgenniaaa
set_option linter.unusedVariables false
open Go Go.RowKit

set_option maxRecDepth 100000 in
set_option maxHeartbeats 8000000 in
theorem srput_ok (pa : Option Addr) (c : Nat) (L : List (List Int)) (f : Int) (w : World) (hL : RowsAt w pa L) (hI : ∀ l ∈ L, ∀ x ∈ l, I64 x) (hE : tE L f = 0) :
    Calls Try.prog 36 #[.slice pa L.length c, .int .i64 f] w fun e w' => e = .returned (.tuple #[.string (bStr (sBytes L f)), .int .i64 0]) ∧ Below w.heap.size w w' := by
  obtain ⟨g1, g2, g3, g4, g5, g6⟩ := tE_ok hE
  obtain ⟨l0, h0⟩ : ∃ l, L[0]? = some l := some_at (List.length_pos_iff.2 g1)
  have hhd : headL L = l0 := by
    cases L with
    | nil => exact absurd rfl g1
    | cons a b => simpa [headL] using h0
  obtain ⟨b0, o0, p0, q0, hpa, c0, i0⟩ := hL.at h0
  have hb0 := World.block_lt_of_cell? w _ c0
  obtain ⟨n, hn⟩ : ∃ n, L.length = n := ⟨_, rfl⟩
  obtain ⟨m0, hm0⟩ : ∃ m, l0.length = m := ⟨_, rfl⟩
  obtain ⟨fn, hfn⟩ := Int.eq_ofNat_of_zero_le (show 0 ≤ f by omega)
  have hm : L.length ≤ maxLen := by unfold maxLen; omega
  have hm12 : m0 ≤ 12 := by rw [hhd, hm0] at g2; exact g2
  have CK := Lib.hid (fun W h => (rcheck_any m0 pa c L f W h hm).mono (R' := fun e w' => e = .returned (.int .i64 (chkF m0 L f : Nat)) ∧ Below W.heap.size W w') fun e w' ⟨h1, h2⟩ => ⟨h1, h2 ▸ Below.refl _ _⟩)
  have hck : chkF m0 L f = 0 := by
    have := hE; unfold tE at this
    rw [if_neg (by rw [hhd, hm0]; intro h; rcases h with h | h; exact g1 h; omega), hhd, hm0] at this
    exact this
  rw [hck, hn] at CK
  have HHD : Hid (sHead L f = [] ++ lebL fn ++ lebL n ++ lebL m0) := Lib.hid (by unfold sHead; rw [hhd, hm0, hn, hfn]; rfl)
  have HLEN : Hid (∀ k l j, L[k]? = some l → (sHead L f ++ zigsL (L.take k).flatten ++ zigsL (l.take j)).length ≤ 100000) := Lib.hid (by
    intro k l j hk
    have a1 : (sHead L f).length ≤ 30 := by
      rw [HHD.out]
      simp only [List.length_append, List.length_nil]
      have u1 := lebL_len (show U64 fn by unfold U64; omega)
      have u2 := lebL_len (show U64 n by unfold U64; omega)
      have u3 := lebL_len (show U64 m0 by unfold U64; omega)
      omega
    have a2 : (zigsL (L.take k).flatten).length ≤ 10 * (L.take k).flatten.length := zigsL_len _ fun x hx => by
      obtain ⟨q, hq, hxq⟩ := List.mem_flatten.1 hx
      exact hI q (List.mem_of_mem_take hq) x hxq
    have a3 := flatten_len (L.take k) 12 fun q hq => by have := g4 q (List.mem_of_mem_take hq); omega
    have a4 : (L.take k).length ≤ 20 := by rw [List.length_take]; omega
    have hl := List.mem_of_getElem? hk
    have a5 : (zigsL (l.take j)).length ≤ 10 * (l.take j).length := zigsL_len _ fun x hx => hI l hl x (List.mem_of_mem_take hx)
    have a6 : (l.take j).length ≤ 12 := by rw [List.length_take]; have := g4 l hl; omega
    simp only [List.length_append]
    have a7 : (L.take k).flatten.length ≤ 20 * 12 := Nat.le_trans a3 (Nat.mul_le_mul_right 12 a4)
    omega)
  have HI := Lib.hid hI
  have HL := Lib.hid hL
  have HN := Lib.hid hn
  have hw1 : IntKind.u64.wrap (fn : Int) = (fn : Int) := by rw [IntKind.wrap_u64]; omega
  have hw2 : IntKind.u64.wrap (n : Int) = (n : Int) := by rw [IntKind.wrap_u64]; omega
  have hw3 : IntKind.u64.wrap (m0 : Int) = (m0 : Int) := by rw [IntKind.wrap_u64]; omega
  have hfl : fn ≤ 10000 := by omega
  have hnl : n ≤ 20 := by omega
  have n0 : ((n : Int) == 0) = false := by have := List.length_pos_iff.2 g1; simp; omega
  have d12 : decide ((12 : Int) < m0) = false := by simp; omega
  have hn1 : (0 : Int) < n := by have := List.length_pos_iff.2 g1; omega
  have hn1' : 0 < n := by omega
  rw [hn]
  rw [hm0, Nat.add_zero] at c0
  subst hpa
  rw [show sBytes L f = sHead L f ++ zigsL L.flatten from rfl]
  have HR : Hid (∀ l ∈ L, l.length ≤ 12) := Lib.hid (fun l hl => by have := g4 l hl; omega)
  clear hL hI hE g1 g2 g3 g4 g5 g6 h0 hhd i0 hn hm0 hm hck
  generalize sHead L f = hd at HHD HLEN ⊢
  rw [hfn] at CK ⊢
  have hbl0 : b0 < w.heap.size := hb0
  have u1 : U64 fn := by unfold U64; omega
  have u2 : U64 n := by unfold U64; omega
  have u3 : U64 m0 := by unfold U64; omega
  have P1 := Lib.hid (fun W => rput_any fn u1 W)
  have P2 := Lib.hid (fun W => rput_any n u2 W)
  have P3 := Lib.hid (fun W => rput_any m0 u3 W)
  have s1 : (lebStr fn).size ≤ 10 := by rw [lebStr_size]; exact digs_len_10 u1
  have s2 : (lebStr n).size ≤ 10 := by rw [lebStr_size]; exact digs_len_10 u2
  have s3 : (lebStr m0).size ≤ 10 := by rw [lebStr_size]; exact digs_len_10 u3
  have r1 := fun W => run_string_add_sum (P := Try.prog) W (lebStr fn) (lebStr n) (by omega)
  have r2 := fun W => run_string_add_sum (P := Try.prog) W (lebStr fn ++ lebStr n) (lebStr m0) (by rw [ByteArray.size_append]; omega)
  have HSH : Hid (lebStr fn ++ lebStr n ++ lebStr m0 = bStr hd) := Lib.hid (by
    rw [HHD.out]
    apply ByteArray.ext
    apply Array.toList_inj.1
    simp only [ByteArray.data_append, Array.toList_append]
    rfl)
  clear u1 u2 u3 s1 s2 s3
  generalize lebStr fn = q1 at P1 r1 r2 HSH
  generalize lebStr n = q2 at P2 r1 r2 HSH
  generalize lebStr m0 = q3 at P3 r2 HSH
  go_enter Try.func36, Try.ntmps36
  go_wp2_with fail
  refine (CK.out _ HL.out).mono ?_
  rintro e w1 ⟨rfl, hb1⟩
  have c1 : w1.cell? ⟨b0, o0, none⟩ = some (.slice p0 m0 q0) := (hb1.cell (p := ⟨b0, o0, none⟩) hbl0).trans c0
  have HL1 := Lib.hid (HL.out.later hb1)
  have HB1 := Lib.hid hb1
  have hb01 : b0 < w1.heap.size := Nat.lt_of_lt_of_le hbl0 hb1.size
  clear hb1 c0 hb0 hbl0 CK HL
  have l0 : ∀ w', Below w1.heap.size w1 w' → w'.cell? ⟨b0, o0, none⟩ = some (.slice p0 m0 q0) := fun w' h => (h.cell (p := ⟨b0, o0, none⟩) hb01).trans c1
  have hbS := Below.refl w1.heap.size w1
  go_wp2_with fail
  go_region_held3 (fun w' => Below w1.heap.size w1 w') (first | (with_reducible assumption) | go_grown)
    (first | (go_at_call 43; (with_reducible refine (P1.out _).mono ?_); rintro e w3 ⟨rfl, hb3⟩; obtain ⟨hbl3, hsz3⟩ := later' (W := w1) (by first | (with_reducible assumption) | go_grown) hb3; clear hb3) | (go_at_call 43; (with_reducible refine (P2.out _).mono ?_); rintro e w4 ⟨rfl, hb4⟩; obtain ⟨hbl4, hsz4⟩ := later' (W := w1) (by first | (with_reducible assumption) | go_grown) hb4; clear hb4) | (go_at_call 43; (with_reducible refine (P3.out _).mono ?_); rintro e w5 ⟨rfl, hb5⟩; obtain ⟨hbl5, hsz5⟩ := later' (W := w1) (by first | (with_reducible assumption) | go_grown) hb5; clear hb5))
  rw [HSH.out]
  clear hbl3 hbl4 hsz3 hsz4 hbS l0 c1 hw1 hw2 hw3 n0 d12 hn1 hn1' r1 r2 P1 P2 P3
  go_wp2_with fail
  go_loopw [7, 8] (fun s i wr => ∃ k : Nat, k ≤ n ∧ i = .int .i64 k ∧ s = .string (bStr (hd ++ zigsL (L.take k).flatten)) ∧ Below w1.heap.size w1 wr) (fun _ i _ => n - (intOf i).toNat)
  case atStart => exact ⟨0, by omega, rfl, by simp [zigsL], hbl5⟩
  case round =>
    obtain ⟨k, hk, rfl, rfl, hbw⟩ := hrel
    by_cases hlt : k < n
    · obtain ⟨x, hx⟩ := some_at (show k < L.length by rw [HN.out]; exact hlt)
      obtain ⟨b1, o1, p1, q1, hp, c1, i1⟩ := HL1.out.at hx
      simp only [Option.some.injEq, Addr.mk.injEq, and_true] at hp
      obtain ⟨rfl, rfl⟩ := hp
      have HX := Lib.hid hx
      have I1 := Lib.hid i1
      obtain ⟨m, hmx⟩ : ∃ m, x.length = m := ⟨_, rfl⟩
      rw [hmx] at c1
      have HMX := Lib.hid hmx
      have hml : m ≤ 12 := by rw [← hmx]; exact HR.out x (List.mem_of_getElem? hx)
      clear hx i1 hmx
      go_wp2_with fail
      generalize wr = wo at *
      go_loopw [7, 9] (fun s i wq => ∃ j : Nat, j ≤ m ∧ i = .int .i64 j ∧ s = .string (bStr (hd ++ zigsL (L.take k).flatten ++ zigsL (x.take j))) ∧ Below w1.heap.size w1 wq) (fun _ i _ => m - (intOf i).toNat)
      case atStart => exact ⟨0, by omega, rfl, by simp [zigsL], hbw⟩
      case round =>
        obtain ⟨j, hj, rfl, rfl, hbw'⟩ := hrel
        have c2 : wr.cell? ⟨b0, o0 + k, none⟩ = some (.slice p1 m q1) := (hbw'.cell (p := ⟨b0, o0 + k, none⟩) hb01).trans c1
        have HLj := Lib.hid (HLEN.out k x j HX.out)
        by_cases hjl : j < m
        · obtain ⟨y, hy⟩ := some_at (show j < x.length by rw [HMX.out]; exact hjl)
          obtain ⟨b3, o3, rfl, c3⟩ := I1.out.at hy
          have hb3 : b3 < w1.heap.size := World.block_lt_of_cell? w1 _ c3
          have c4 : wr.cell? ⟨b3, o3 + j, none⟩ = some (.int .i64 y) := (hbw'.cell (p := ⟨b3, o3 + j, none⟩) hb3).trans c3
          have hy64 : I64 y := HI.out x (List.mem_of_getElem? HX.out) y (List.mem_of_getElem? hy)
          have HY := Lib.hid hy
          have CI := Lib.hid (fun W => rzput_any y hy64 W)
          have hzs : (lebStr (zigF y)).size ≤ 10 := by rw [lebStr_size]; exact digs_len_10 (zigF_u64 hy64)
          have HNX : Hid (bStr (hd ++ zigsL (L.take k).flatten ++ zigsL (x.take j)) ++ lebStr (zigF y) = bStr (hd ++ zigsL (L.take k).flatten ++ zigsL (x.take (j + 1)))) := Lib.hid (by
            rw [take_next HY.out, zigsL_snoc, ← List.append_assoc]
            apply ByteArray.ext
            apply Array.toList_inj.1
            simp only [ByteArray.data_append, Array.toList_append]
            rfl)
          have hacc : (bStr (hd ++ zigsL (L.take k).flatten ++ zigsL (x.take j))).size ≤ 100000 := HLj.out
          generalize bStr (hd ++ zigsL (L.take k).flatten ++ zigsL (x.take j)) = acc at HNX hacc ⊢
          have ra := fun W => run_string_add_sum (P := Try.prog) W acc (lebStr (zigF y)) (by omega)
          generalize lebStr (zigF y) = zs at CI HNX ra
          clear c3 hy hy64 hzs hacc
          go_wp2_with fail
          refine (CI.out _).mono ?_
          rintro e w6 ⟨rfl, hb6⟩
          have hbl6 := hbw'.trans (hb6.mono hbw'.size)
          clear hb6 CI
          go_wp2_with fail
          go_roundw
          case rel => exact ⟨j + 1, by omega, by go_num, by rw [HNX.out], hbl6⟩
          case measure => simp [intOf]; omega
        · obtain rfl : j = m := by omega
          have HW7 : Hid (bStr (hd ++ zigsL (L.take k).flatten ++ zigsL (x.take j)) = bStr (hd ++ zigsL (L.take (k + 1)).flatten)) := Lib.hid (by
            rw [List.take_of_length_le (l := x) (Nat.le_of_eq HMX.out), take_next HX.out, List.flatten_append, zigsL_app, ← List.append_assoc]
            simp)
          rw [HW7.out]
          go_wp2_with fail
          exact ⟨⟨k + 1, by omega, by go_num, rfl, hbw'⟩, by simp [intOf]; omega⟩
    · obtain rfl : k = n := by omega
      have HE := Lib.hid (List.take_of_length_le (l := L) (Nat.le_of_eq HN.out))
      rw [HE.out]
      have hfin := HB1.out.trans (Below.mono hbw HB1.out.size)
      go_wp2_with fail
      go_ret2
      exact ⟨rfl, hfin⟩
set_option maxRecDepth 100000 in
set_option maxHeartbeats 4000000 in
theorem srput_bad (pa : Option Addr) (c : Nat) (L : List (List Int)) (f : Int) (w : World) (hL : RowsAt w pa L) (hm : L.length ≤ maxLen) (hm2 : ∀ l ∈ L, l.length ≤ maxLen) (hE : tE L f ≠ 0) :
    Calls Try.prog 36 #[.slice pa L.length c, .int .i64 f] w fun e w' => e = .returned (.tuple #[.string ⟨#[]⟩, .int .i64 (tE L f : Nat)]) ∧ Below w.heap.size w w' := by
  by_cases h0 : L = []
  · subst h0
    have hv : tE [] f = 18 := by unfold tE; rw [if_pos (.inl rfl)]
    rw [hv]
    clear hE hv hL
    go_enter Try.func36, Try.ntmps36
    go_wp2_with fail
    go_ret2
    exact ⟨rfl, Below.refl _ _⟩
  · obtain ⟨l0, hx⟩ : ∃ l, L[0]? = some l := some_at (List.length_pos_iff.2 h0)
    have hhd : headL L = l0 := by
      cases L with
      | nil => exact absurd rfl h0
      | cons a b => simpa [headL] using hx
    obtain ⟨b0, o0, p0, q0, rfl, c0, i0⟩ := hL.at hx
    have CK := Lib.hid (fun W h => (rcheck_any (l0.length : Nat) (some ⟨b0, o0, none⟩) c L f W h hm).mono (R' := fun e w' => e = .returned (.int .i64 (chkF (l0.length : Nat) L f : Nat)) ∧ Below W.heap.size W w') fun e w' ⟨h1, h2⟩ => ⟨h1, h2 ▸ Below.refl _ _⟩)
    have hv : tE L f = if 12 < l0.length then 18 else chkF (l0.length : Nat) L f := by
      unfold tE
      rw [hhd]
      by_cases h : 12 < l0.length
      · rw [if_pos (.inr h), if_pos h]
      · rw [if_neg (by intro h2; rcases h2 with h2 | h2; exact h0 h2; exact h h2), if_neg h]
    have hml := hm2 l0 (List.mem_of_getElem? hx)
    obtain ⟨n, hn⟩ : ∃ n, L.length = n := ⟨_, rfl⟩
    have hnp : 0 < n := by have := List.length_pos_iff.2 h0; omega
    obtain ⟨m0, hm0⟩ : ∃ m, l0.length = m := ⟨_, rfl⟩
    rw [hm0] at hv hml CK c0
    rw [hn] at hm CK ⊢
    rw [Nat.add_zero] at c0
    unfold maxLen at hm hml
    have HL := Lib.hid hL
    have n0 : ((n : Int) == 0) = false := by simp; omega
    have hn1 : (0 : Int) < n := by omega
    clear hL hm2 h0 hx hhd i0 hn hm0
    by_cases h12 : 12 < m0
    · have d12 : decide ((12 : Int) < m0) = true := by simp; omega
      rw [hv, if_pos h12]
      clear hE hv h12
      go_enter Try.func36, Try.ntmps36
      go_wp2_with fail
      go_ret2
      exact ⟨rfl, Below.refl _ _⟩
    · have d12 : decide ((12 : Int) < m0) = false := by simp; omega
      rw [if_neg h12] at hv
      rw [← hv] at CK
      clear hv h12
      generalize tE L f = E at CK hE ⊢
      have dE : ((E : Int) == 0) = false := by simp; omega
      clear hE
      go_enter Try.func36, Try.ntmps36
      go_wp2_with fail
      refine (CK.out _ HL.out).mono ?_
      rintro e w1 ⟨rfl, hb1⟩
      go_wp2_with fail
      go_ret2
      exact ⟨rfl, hb1⟩
theorem srput_any (pa : Option Addr) (c : Nat) (L : List (List Int)) (f : Int) (w : World) (hL : RowsAt w pa L) (hm : L.length ≤ maxLen) (hm2 : ∀ l ∈ L, l.length ≤ maxLen) (hI : ∀ l ∈ L, ∀ x ∈ l, I64 x) :
    Calls Try.prog 36 #[.slice pa L.length c, .int .i64 f] w fun e w' => e = .returned (.tuple #[.string (tStr L f), .int .i64 (tE L f : Nat)]) ∧ Below w.heap.size w w' := by
  unfold tStr
  by_cases h : tE L f = 0
  · rw [if_pos h, h]; exact srput_ok pa c L f w hL hI h
  · rw [if_neg h]; exact srput_bad pa c L f w hL hm hm2 h
end Go.Proofs.Ytpnljefgenniaaa

