/- What is put is got back, and what is got was put just so: the walk. No conditions. -/
import Derived.Test.YtpnljefgenniaaaSuiteOpen
namespace Go.Proofs.Ytpnljefgenniaaa
set_option linter.unusedVariables false
open Go Go.RowKit

theorem tStr_len {L : List (List Int)} {f : Int} (hI : ∀ l ∈ L, ∀ x ∈ l, I64 x) (hE : tE L f = 0) : (tStr L f).size ≤ 100000 := by
  obtain ⟨g1, g2, g3, g4, g5, g6⟩ := tE_ok hE
  unfold tStr
  rw [if_pos hE]
  show (sBytes L f).length ≤ 100000
  unfold sBytes sHead
  have u1 := lebL_len (m := f.toNat) (by unfold U64; omega)
  have u2 := lebL_len (m := L.length) (by unfold U64; omega)
  have u3 := lebL_len (m := (headL L).length) (by unfold U64; omega)
  have a2 : (zigsL L.flatten).length ≤ 10 * L.flatten.length := zigsL_len _ fun x hx => by
    obtain ⟨q, hq, hxq⟩ := List.mem_flatten.1 hx
    exact hI q hq x hxq
  have a3 := flatten_len L 12 fun q hq => by have := g4 q hq; omega
  have a7 : L.flatten.length ≤ 20 * 12 := Nat.le_trans a3 (Nat.mul_le_mul_right 12 g3)
  simp only [List.length_append, List.length_nil]
  omega
theorem sget_put {L : List (List Int)} {k : Nat} (hI : ∀ l ∈ L, ∀ x ∈ l, I64 x) (hE : tE L k = 0) (W : World) : Calls Try.prog 37 #[.string (tStr L k)] W fun e w' => ∃ pb cb, e = .returned (.tuple #[.slice pb L.length cb, .int .i64 k, .int .i64 0]) ∧ RowsAt w' pb L ∧ Below W.heap.size W w' := by
  refine (sget_any (tStr L k) W (Nat.le_trans (tStr_len hI hE) (by decide))).mono ?_
  rintro e w' ⟨h, hb⟩
  rcases h with ⟨M, g, pb, cb, rfl, hr, hJ, hF, hT⟩ | ⟨rfl, h⟩
  · obtain ⟨rfl, rfl⟩ := put_one hJ hI hF hE hT
    exact ⟨pb, cb, rfl, hr, hb⟩
  · exact absurd rfl (h L k hI hE)
theorem sput_ans {M : List (List Int)} {g : Nat} {pm : Option Addr} {cm : Nat} {s : ByteArray} {W : World} (hr : RowsAt W pm M) (hJ : ∀ l ∈ M, ∀ x ∈ l, I64 x) (hF : tE M g = 0) (hT : tStr M g = s) : Calls Try.prog 35 #[.slice pm M.length cm, .int .i64 g] W fun e w' => e = .returned (.tuple #[.string s, .int .i64 0]) ∧ Below W.heap.size W w' := by
  obtain ⟨g1, g2, g3, g4, g5, g6⟩ := tE_ok hF
  have h := sput_any pm cm M g W hr (by unfold maxLen; omega) (fun l hl => by have := g4 l hl; unfold maxLen; omega) hJ
  rw [hF, hT] at h
  exact h
theorem ok_first {w : World} {pa : Option Addr} {L : List (List Int)} {f : Int} (hL : RowsAt w pa L) (hE : tE L f = 0) : ∃ b o p0 q0 m0, pa = some ⟨b, o, none⟩ ∧ w.cell? ⟨b, o, none⟩ = some (.slice p0 m0 q0) ∧ chkF m0 L f = 0 := by
  obtain ⟨g1, g2, g3, g4, g5, g6⟩ := tE_ok hE
  obtain ⟨l0, h0⟩ : ∃ l, L[0]? = some l := some_at (List.length_pos_iff.2 g1)
  have hhd : headL L = l0 := by
    cases L with
    | nil => exact absurd rfl g1
    | cons a b => simpa [headL] using h0
  obtain ⟨b0, o0, p0, q0, hpa, c0, i0⟩ := hL.at h0
  refine ⟨b0, o0, p0, q0, l0.length, hpa, c0, ?_⟩
  have := hE; unfold tE at this
  rw [if_neg (by rw [hhd]; intro h; rcases h with h | h; exact g1 h; rw [hhd] at g2; omega), hhd] at this
  exact this
set_option maxRecDepth 100000 in
set_option maxHeartbeats 4000000 in
theorem walk_sback (pa : Option Addr) (ca : Nat) (L : List (List Int)) (f : Int) (s : ByteArray) (w : World) (hL : RowsAt w pa L ∧ L.length ≤ maxLen ∧ (∀ l ∈ L, l.length ≤ maxLen) ∧ ∀ l ∈ L, ∀ x ∈ l, I64 x) (hf : (Lit.int .i64 f).wf = true) (hs : s.size ≤ maxLen) :
    Calls Try.prog 10 #[.slice pa L.length ca, .int .i64 f, .string s] w fun e w' => e = .returned (.bool true) ∧ Below w.heap.size w w' := by
  obtain ⟨a1, a2, a3, a4⟩ := hL
  have RA := Lib.hid a1
  have FA := Lib.hid (fun W h => fewT_any pa ca L W h a2)
  have PA := Lib.hid (fun W h => sput_any pa ca L f W h a2 a3 a4)
  have CK := Lib.hid (fun (p : Int) W h => check_any p pa ca L f W h a2)
  have CS := Lib.hid (fun pb cb W h k => rsame_any pb pa cb ca L L W h k a2 a3)
  have GS := Lib.hid (fun W => sget_any s W hs)
  have HI := Lib.hid a4
  rw [decide_eq_true (rfl : L = L)] at CS
  clear a1 a2 a3 a4 hf hs
  generalize fewT L = fa at FA
  obtain ⟨na, hna⟩ : ∃ n, L.length = n := ⟨_, rfl⟩
  have HNA := Lib.hid hna
  rw [hna] at FA PA CK CS ⊢
  clear hna
  by_cases h5 : 500 < s.size
  · have d5 : decide ((500 : Int) < s.size) = true := by simp; omega
    clear h5
    go_enter Try.func10, Try.ntmps10
    go_wp2_with fail
    refine (sworks_any w).mono ?_
    rintro e w1 ⟨rfl, hb⟩
    have B1 := Lib.hid hb
    have A1 := Lib.hid (RA.out.later hb)
    clear hb RA
    go_wp2_with fail
    refine (FA.out w1 A1.out).mono ?_
    rintro e w2 ⟨rfl, rfl⟩
    cases fa <;> go_wp2_with fail
    all_goals go_ret
    all_goals exact ⟨rfl, B1.out⟩
  · have d5 : decide ((500 : Int) < s.size) = false := by simp; omega
    clear h5
    go_enter Try.func10, Try.ntmps10
    go_wp2_with fail
    refine (sworks_any w).mono ?_
    rintro e w1 ⟨rfl, hb⟩
    have B1 := Lib.hid hb
    have A1 := Lib.hid (RA.out.later hb)
    clear hb RA
    go_wp2_with fail
    refine (FA.out w1 A1.out).mono ?_
    rintro e w2 ⟨rfl, rfl⟩
    cases fa with
    | false =>
      go_wp2_with fail
      go_ret
      exact ⟨rfl, B1.out⟩
    | true =>
      go_wp2_with fail
      refine (PA.out w1 A1.out).mono ?_
      rintro e w3 ⟨rfl, hb⟩
      have B3 := Lib.hid (B1.out.trans (hb.mono B1.out.size))
      have A3 := Lib.hid (A1.out.later hb)
      clear hb B1 A1
      by_cases hE : tE L f = 0
      · obtain ⟨k, rfl⟩ := Int.eq_ofNat_of_zero_le (show 0 ≤ f by have := (tE_ok hE).2.2.2.2.1; omega)
        have GP := Lib.hid (fun W => sget_put HI.out hE W)
        obtain ⟨b0, o0, p0, q0, m0, rfl, c0, hck⟩ := ok_first A3.out hE
        have CK0 := Lib.hid (CK.out m0)
        rw [hck] at CK0
        have C0 := Lib.hid c0
        have hnp := (tE_ok hE).1
        have hn1 : (0 : Int) < na := by have := List.length_pos_iff.2 hnp; rw [HNA.out] at this; omega
        rw [HNA.out] at GP
        rw [hE] at PA ⊢
        clear hE hck c0 CK hnp
        generalize tStr L k = S at GP PA ⊢
        go_wp2_with fail
        refine (GP.out w3).mono ?_
        rintro e w4 ⟨pb, cb, rfl, hr, hb⟩
        have B4 := Lib.hid (B3.out.trans (hb.mono B3.out.size))
        have A4 := Lib.hid (A3.out.later hb)
        have hb0 := World.block_lt_of_cell? w3 _ C0.out
        have D4 := Lib.hid ((hb.cell (p := ⟨b0, o0, none⟩) hb0).trans C0.out)
        have P4 := Lib.hid hr
        clear hb hr hb0 B3 A3 C0 GP
        go_wp2_with fail
        refine (CS.out pb cb w4 P4.out A4.out).mono ?_
        rintro e w5 ⟨rfl, hb⟩
        have B5 := Lib.hid (B4.out.trans (hb.mono B4.out.size))
        have A5 := Lib.hid (A4.out.later hb)
        have hb0 := World.block_lt_of_cell? w4 _ D4.out
        have c5 := (hb.cell (p := ⟨b0, o0, none⟩) hb0).trans D4.out
        clear hb hb0 B4 A4 P4 D4 CS
        go_wp2_with fail
        refine (CK0.out w5 A5.out).mono ?_
        rintro e w6 ⟨rfl, hb⟩
        have B6 := Lib.hid (B5.out.trans (hb.mono B5.out.size))
        clear hb B5 A5 CK0 c5
        go_wp2_with fail
        refine (GS.out w6).mono ?_
        rintro e w8 ⟨h, hb⟩
        have B8 := Lib.hid (B6.out.trans (hb.mono B6.out.size))
        clear hb B6 GS
        rcases h with ⟨M, g, pm, cm, rfl, hr, hJ, hF, hT⟩ | ⟨rfl, -⟩
        · have PM := Lib.hid (sput_ans (cm := cm) hr hJ hF hT)
          clear hr hJ hF hT
          generalize M.length = nm at PM ⊢
          go_wp2_with fail
          refine PM.out.mono ?_
          rintro e w9 ⟨rfl, hb⟩
          have B9 := Lib.hid (B8.out.trans (hb.mono B8.out.size))
          clear hb
          go_wp2_with fail
          go_ret
          exact ⟨rfl, B9.out⟩
        · go_wp2_with fail
          go_ret
          exact ⟨rfl, B8.out⟩
      · generalize tE L f = E at hE PA ⊢
        generalize tStr L f = S at PA ⊢
        have hbe : ((E : Int) == 0) = false := by simp; omega
        clear hE A3 PA CS CK
        go_wp2_with fail
        refine (GS.out w3).mono ?_
        rintro e w8 ⟨h, hb⟩
        have B8 := Lib.hid (B3.out.trans (hb.mono B3.out.size))
        clear hb B3 GS
        rcases h with ⟨M, g, pm, cm, rfl, hr, hJ, hF, hT⟩ | ⟨rfl, -⟩
        · have PM := Lib.hid (sput_ans (cm := cm) hr hJ hF hT)
          clear hr hJ hF hT
          generalize M.length = nm at PM ⊢
          go_wp2_with fail
          refine PM.out.mono ?_
          rintro e w9 ⟨rfl, hb⟩
          have B9 := Lib.hid (B8.out.trans (hb.mono B8.out.size))
          clear hb
          go_wp2_with fail
          go_ret
          exact ⟨rfl, B9.out⟩
        · go_wp2_with fail
          go_ret
          exact ⟨rfl, B8.out⟩
end Go.Proofs.Ytpnljefgenniaaa

