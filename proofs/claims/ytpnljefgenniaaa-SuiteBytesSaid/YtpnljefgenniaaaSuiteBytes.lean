/- Tests as bytes, and the tests of bytes, are just what the document says: the walk. No conditions. -/
import Derived.Test.YtpnljefgenniaaaSuiteBack
import Derived.Test.YtpnljefgenniaaaSuiteRGet
namespace Go.Proofs.Ytpnljefgenniaaa
set_option linter.unusedVariables false
open Go Go.RowKit

theorem upTo_same {n m : Nat} (h : n ≤ m) : upTo (n : Int) m = n := by unfold upTo; omega
theorem listQ_back (P : List UInt8) (L : List (List Int)) (m : Nat) (hm : ∀ l ∈ L, l.length = m) (hI : ∀ l ∈ L, ∀ x ∈ l, I64 x) : listQ (bStr (P ++ zigsL L.flatten ++ [])) P.length 0 m L.length = L := by
  have hX : ∀ x ∈ L.flatten, I64 x := fun x hx => by
    obtain ⟨l, hl, hxl⟩ := List.mem_flatten.1 hx
    exact hI l hl x hxl
  refine list_same (listQ_len ..) fun i hi => ?_
  rw [listQ_len] at hi
  obtain ⟨l, hl⟩ := some_at hi
  have hlm := hm l (List.mem_of_getElem? hl)
  rw [hl]
  unfold listQ
  rw [List.getElem?_map, List.getElem?_range hi, Option.map_some]
  congr 1
  refine list_same (by rw [rowJ_len, hlm]) fun k hk => ?_
  rw [rowJ_len] at hk
  unfold rowJ
  rw [List.getElem?_map, List.getElem?_range hk, Option.map_some]
  obtain ⟨x, hx⟩ := some_at (show k < l.length by omega)
  rw [hx]
  congr 1
  have hfx : L.flatten[i * m + k]? = some x := (flat_at L m hm hl hk).trans hx
  have hlt := (List.getElem?_eq_some_iff.1 hfx).1
  unfold aI
  rw [zigs_st P [] L.flatten hX (i * m + k + 1) (by omega)]
  simp only [if_pos]
  exact zigs_v P [] L.flatten hX (i * m + k) hfx
theorem put_backQ (L : List (List Int)) (f : Nat) (hI : ∀ l ∈ L, ∀ x ∈ l, I64 x) (hE : tE L f = 0) : qL (tStr L f) = L ∧ qF (tStr L f) = f := by
  obtain ⟨g1, g2, g3, g4, g5, g6⟩ := tE_ok hE
  have hT : tStr L f = bStr (sBytes L f) := by unfold tStr; rw [if_pos hE]
  generalize hm : (headL L).length = m at *
  have hs : sBytes L f = [] ++ lebL f ++ lebL L.length ++ lebL m ++ zigsL L.flatten := by unfold sBytes sHead; rw [hm]; rfl
  rw [hT, hs]
  have uf : U64 f := by unfold U64; omega
  have un : U64 L.length := by unfold U64; omega
  have um : U64 m := by unfold U64; omega
  obtain ⟨a1, a2, a3⟩ := sr_count [] (lebL L.length ++ (lebL m ++ zigsL L.flatten)) f 1000000 uf (by omega)
  obtain ⟨b1, b2, b3⟩ := sr_count ([] ++ lebL f) (lebL m ++ zigsL L.flatten) L.length 1000000 un (by omega)
  obtain ⟨c1, c2, c3⟩ := sr_count ([] ++ lebL f ++ lebL L.length) (zigsL L.flatten) m 1000000 um (by omega)
  have e := listQ_back ([] ++ lebL f ++ lebL L.length ++ lebL m) L m g4 hI
  rw [List.append_nil] at e
  rw [show [] ++ lebL f ++ (lebL L.length ++ (lebL m ++ zigsL L.flatten)) = [] ++ lebL f ++ lebL L.length ++ lebL m ++ zigsL L.flatten by simp only [List.append_assoc]] at a1 a2 a3
  rw [show [] ++ lebL f ++ lebL L.length ++ (lebL m ++ zigsL L.flatten) = [] ++ lebL f ++ lebL L.length ++ lebL m ++ zigsL L.flatten by simp only [List.append_assoc]] at b1 b2 b3
  generalize [] ++ lebL f ++ lebL L.length ++ lebL m ++ zigsL L.flatten = T at *
  rw [List.length_nil] at a1 a2 a3
  have A1 : qA1 (bStr T) = ([] ++ lebL f).length := a2
  have R1 : qR1 (bStr T) = 0 := a3
  have A2 : qA2 (bStr T) = ([] ++ lebL f ++ lebL L.length).length := by unfold qA2; rw [A1, R1]; exact b2
  have R2 : qR2 (bStr T) = 0 := by unfold qR2; rw [A1, R1]; exact b3
  have A3 : qA3 (bStr T) = ([] ++ lebL f ++ lebL L.length ++ lebL m).length := by unfold qA3; rw [A2, R2]; exact c2
  have R3 : qR3 (bStr T) = 0 := by unfold qR3; rw [A2, R2]; exact c3
  have F1 : qF (bStr T) = f := by unfold qF qV; rw [a3, a1]; rfl
  have N1 : qN (bStr T) = L.length := by unfold qN qV; rw [A1, R1, b3, b1]; rfl
  have W1 : qW (bStr T) = m := by unfold qW qV; rw [A2, R2, c3, c1]; rfl
  refine ⟨?_, F1⟩
  unfold qL
  rw [A3, R3, N1, W1, upTo_same (by omega), upTo_same (by omega)]
  exact e
theorem srget_any (s : ByteArray) (w : World) (hs : s.size ≤ maxLen) :
    Calls Try.prog 38 #[.string s] w fun e w' => SAns s w' e ∧ Below w.heap.size w w' := by
  refine (srget_in s w hs).mono ?_
  rintro e w' ⟨h, hb⟩
  refine ⟨?_, hb⟩
  rcases h with ⟨pa, c, rfl, hr, hE, hT⟩ | ⟨rfl, h⟩
  · obtain ⟨k, hk⟩ := Int.eq_ofNat_of_zero_le (show 0 ≤ qF s by have := (tE_ok hE).2.2.2.2.1; omega)
    rw [hk] at hE hT ⊢
    exact .inl ⟨_, k, pa, c, rfl, hr, qL_i64 s, hE, hT⟩
  · refine .inr ⟨rfl, fun L f hI hE hT => h ?_⟩
    obtain ⟨a, b⟩ := put_backQ L f hI hE
    rw [hT] at a b
    rw [a, b]
    exact ⟨hE, hT⟩
set_option maxRecDepth 100000 in
set_option maxHeartbeats 4000000 in
theorem walk_sbytes (pa : Option Addr) (ca : Nat) (L : List (List Int)) (f : Int) (s : ByteArray) (w : World) (hL : RowsAt w pa L ∧ L.length ≤ maxLen ∧ (∀ l ∈ L, l.length ≤ maxLen) ∧ ∀ l ∈ L, ∀ x ∈ l, I64 x) (hf : (Lit.int .i64 f).wf = true) (hs : s.size ≤ maxLen) :
    Calls Try.prog 9 #[.slice pa L.length ca, .int .i64 f, .string s] w fun e w' => e = .returned (.bool true) ∧ Below w.heap.size w w' := by
  obtain ⟨a1, a2, a3, a4⟩ := hL
  have RA := Lib.hid a1
  have FA := Lib.hid (fun W h => fewT_any pa ca L W h a2)
  have PA := Lib.hid (fun W h => sput_any pa ca L f W h a2 a3 a4)
  have PB := Lib.hid (fun W h => srput_any pa ca L f W h a2 a3 a4)
  have GS := Lib.hid (fun W => sget_any s W hs)
  have GR := Lib.hid (fun W => srget_any s W hs)
  clear a1 a2 a3 a4 hf hs
  generalize fewT L = fa at FA
  generalize tE L f = E at PA PB
  generalize tStr L f = S at PA PB
  generalize L.length = na at FA PA PB ⊢
  by_cases h5 : 500 < s.size
  · have d5 : decide ((500 : Int) < s.size) = true := by simp; omega
    clear h5
    go_enter Try.func9, Try.ntmps9
    go_wp2_with fail
    refine (sworks_any w).mono ?_
    rintro e w1 ⟨rfl, hb⟩
    have B1 := Lib.hid hb
    have A1 := Lib.hid (RA.out.later hb)
    clear hb RA
    go_wp2_with fail
    refine (FA.out w1 A1.out).mono ?_
    rintro e w2 ⟨rfl, rfl⟩
    cases fa <;> go_wp2_with fail
    all_goals go_ret
    all_goals exact ⟨rfl, B1.out⟩
  · have d5 : decide ((500 : Int) < s.size) = false := by simp; omega
    clear h5
    go_enter Try.func9, Try.ntmps9
    go_wp2_with fail
    refine (sworks_any w).mono ?_
    rintro e w1 ⟨rfl, hb⟩
    have B1 := Lib.hid hb
    have A1 := Lib.hid (RA.out.later hb)
    clear hb RA
    go_wp2_with fail
    refine (FA.out w1 A1.out).mono ?_
    rintro e w2 ⟨rfl, rfl⟩
    cases fa with
    | false =>
      go_wp2_with fail
      go_ret
      exact ⟨rfl, B1.out⟩
    | true =>
      go_wp2_with fail
      refine (PA.out w1 A1.out).mono ?_
      rintro e w3 ⟨rfl, hb⟩
      have B3 := Lib.hid (B1.out.trans (hb.mono B1.out.size))
      have A3 := Lib.hid (A1.out.later hb)
      clear hb B1 A1
      go_wp2_with fail
      refine (PB.out w3 A3.out).mono ?_
      rintro e w4 ⟨rfl, hb⟩
      have B4 := Lib.hid (B3.out.trans (hb.mono B3.out.size))
      clear hb B3 A3
      go_wp2_with fail
      refine (GS.out w4).mono ?_
      rintro e w5 ⟨h, hb⟩
      have B5 := Lib.hid (B4.out.trans (hb.mono B4.out.size))
      clear hb B4 GS PA PB
      rcases h with ⟨M, g, pm, cm, rfl, hr, hJ, hF, hT⟩ | ⟨rfl, hno⟩
      · have RM := Lib.hid hr
        have HJ := Lib.hid hJ
        have HF := Lib.hid hF
        have HT := Lib.hid hT
        have CS := Lib.hid (fun pb cb W h k => rsame_any pm pb cm cb M M W h k (by have := (tE_ok hF).2.2.1; unfold maxLen; omega) (fun l hl => by have := (tE_ok hF).2.2.2.1 l hl; have := (tE_ok hF).2.1; unfold maxLen; omega))
        rw [decide_eq_true (rfl : M = M)] at CS
        clear hr hJ hF hT
        go_wp2_with fail
        refine (GR.out w5).mono ?_
        rintro e w6 ⟨h, hb⟩
        have B6 := Lib.hid (B5.out.trans (hb.mono B5.out.size))
        have M6 := Lib.hid (RM.out.later hb)
        clear hb B5 GR RM
        rcases h with ⟨M2, g2, pn, cn, rfl, hr, hJ, hF, hT⟩ | ⟨rfl, hno⟩
        · obtain ⟨e1, e2⟩ := put_one hJ HJ.out hF HF.out (hT.trans HT.out.symm)
          subst e1
          subst e2
          have N6 := Lib.hid hr
          clear hr hJ hF hT HJ HF HT
          generalize M2.length = nm at CS ⊢
          go_wp2_with fail
          refine (CS.out pn cn w6 M6.out N6.out).mono ?_
          rintro e w7 ⟨rfl, hb⟩
          have B7 := Lib.hid (B6.out.trans (hb.mono B6.out.size))
          clear hb
          go_wp2_with fail
          go_ret
          exact ⟨rfl, B7.out⟩
        · exact absurd HT.out (hno M g HJ.out HF.out)
      · have NO := Lib.hid hno
        have CS := Lib.hid (fun W => rsame_any none none 0 0 [] [] W (.inl rfl) (.inl rfl) (by decide) (fun l hl => by cases hl))
        rw [decide_eq_true rfl, show ([] : List (List Int)).length = 0 from rfl] at CS
        clear hno
        go_wp2_with fail
        refine (GR.out w5).mono ?_
        rintro e w6 ⟨h, hb⟩
        have B6 := Lib.hid (B5.out.trans (hb.mono B5.out.size))
        clear hb B5 GR
        rcases h with ⟨M2, g2, pn, cn, rfl, hr, hJ, hF, hT⟩ | ⟨rfl, hno⟩
        · exact absurd hT (NO.out M2 g2 hJ hF)
        · clear hno NO
          go_wp2_with fail
          refine (CS.out w6).mono ?_
          rintro e w7 ⟨rfl, hb⟩
          have B7 := Lib.hid (B6.out.trans (hb.mono B6.out.size))
          clear hb
          go_wp2_with fail
          go_ret
          exact ⟨rfl, B7.out⟩
end Go.Proofs.Ytpnljefgenniaaa

