/- The document's Get of tests at every text: what it reads, put again. No conditions. -/
import Derived.Test.YtpnljefgenniaaaSuiteAsk
import Derived.Test.YtpnljefgenniaaaSuiteRPut
namespace Go.Proofs.Ytpnljefgenniaaa
set_option linter.unusedVariables false
open Go Go.RowKit

def rowJ (s : ByteArray) (a er wd i j : Nat) : List Int := (List.range j).map fun q => aI s a er (i * wd + q)
theorem rowJ_snoc (s : ByteArray) (a er wd i j : Nat) : rowJ s a er wd i (j + 1) = rowJ s a er wd i j ++ [aI s a er (i * wd + j)] := by unfold rowJ; rw [List.range_succ, List.map_append]; rfl
theorem rowJ_len (s : ByteArray) (a er wd i j : Nat) : (rowJ s a er wd i j).length = j := by unfold rowJ; simp
def listQ (s : ByteArray) (a er wd n : Nat) : List (List Int) := (List.range n).map fun i => rowJ s a er wd i wd
theorem listQ_snoc (s : ByteArray) (a er wd n : Nat) : listQ s a er wd (n + 1) = listQ s a er wd n ++ [rowJ s a er wd n wd] := by unfold listQ; rw [List.range_succ, List.map_append]; rfl
theorem listQ_len (s : ByteArray) (a er wd n : Nat) : (listQ s a er wd n).length = n := by unfold listQ; simp
/-- what the document's Get reads -/
def qV (s : ByteArray) (a er : Nat) : Int := if cR s a er 1000000 = 0 then (cV s a er 1000000 : Int) else -1
def qA1 (s : ByteArray) : Nat := cA s 0 0 1000000
def qR1 (s : ByteArray) : Nat := cR s 0 0 1000000
def qA2 (s : ByteArray) : Nat := cA s (qA1 s) (qR1 s) 1000000
def qR2 (s : ByteArray) : Nat := cR s (qA1 s) (qR1 s) 1000000
def qA3 (s : ByteArray) : Nat := cA s (qA2 s) (qR2 s) 1000000
def qR3 (s : ByteArray) : Nat := cR s (qA2 s) (qR2 s) 1000000
def qF (s : ByteArray) : Int := qV s 0 0
def qN (s : ByteArray) : Int := qV s (qA1 s) (qR1 s)
def qW (s : ByteArray) : Int := qV s (qA2 s) (qR2 s)
def upTo (n : Int) (m : Nat) : Nat := min n.toNat m
def qL (s : ByteArray) : List (List Int) := listQ s (qA3 s) (qR3 s) (upTo (qW s) 13) (upTo (qN s) 21)
theorem upTo_le (n : Int) (m : Nat) : upTo n m ≤ m := Nat.min_le_right _ _
theorem upTo_lt {n : Int} {m k : Nat} (h : k < upTo n m) : (k : Int) < n ∧ k < m := by unfold upTo at h; omega
theorem upTo_end {n : Int} {m k : Nat} (h : k = upTo n m) : ¬ (k : Int) < n ∨ k = m := by unfold upTo at h; omega
def SGotI (s : ByteArray) (L : List (List Int)) (f : Int) (E : Nat) (T : ByteArray) (w' : World) (e : Ending) : Prop :=
  (∃ pa c, e = .returned (.tuple #[.slice pa L.length c, .int .i64 f, .int .i64 0]) ∧ RowsAt w' pa L ∧ E = 0 ∧ T = s) ∨ (e = .returned (.tuple #[.slice none 0 0, .int .i64 0, .int .i64 12]) ∧ ¬ (E = 0 ∧ T = s))
theorem qL_i64 (s : ByteArray) : ∀ l ∈ qL s, ∀ x ∈ l, I64 x := by
  intro l hl x hx
  obtain ⟨i, _, rfl⟩ := List.mem_map.1 hl
  obtain ⟨k, _, rfl⟩ := List.mem_map.1 hx
  exact aI_i64 (cA_le (cA_le (cA_le (Nat.zero_le _)))) _
theorem qL_wide (s : ByteArray) : ∀ l ∈ qL s, l.length ≤ 13 := by
  intro l hl
  obtain ⟨i, _, rfl⟩ := List.mem_map.1 hl
  rw [rowJ_len]; exact upTo_le _ _
theorem qL_len (s : ByteArray) : (qL s).length ≤ 21 := by unfold qL; rw [listQ_len]; exact upTo_le _ _
theorem Inners.rows {w : World} {N : Nat} {v : Value} {xs : List Value} {L : List (List Int)} (h0 : w.ownsRow N 68 1 v xs.length xs) (hin : Inners w N v xs L) : ∃ pa c, v = .slice pa L.length c ∧ RowsAt w pa L := by
  rcases h0.2 with ⟨hv, h1⟩ | ⟨g, cap, cur, hv, hb, hg, hnc, hcm, hcur, htake⟩
  · have hk0 : L = [] := List.eq_nil_of_length_eq_zero (by rw [← hin.1]; exact h1)
    exact ⟨none, 0, by rw [hv, hk0]; rfl, .inl hk0⟩
  · refine ⟨some ⟨g, 0, none⟩, cap, by rw [hv, hin.1], ?_⟩
    by_cases hl : L = []
    · exact .inl hl
    · refine .inr ⟨g, 0, rfl, (Array.getElem?_eq_some_iff.1 hg).1, fun i l hi => ?_⟩
      obtain ⟨pa, c, h2, h3⟩ := hin.2 i l hi
      have hlt := (List.getElem?_eq_some_iff.1 h2).1
      refine ⟨pa, c, ?_, ?_⟩
      · rw [hv] at h0
        rw [Nat.zero_add, h0.cellAt i (by omega)]; exact h2
      · rcases h3 with h3 | ⟨b, rfl, _, hlt3, _, h3⟩
        · exact .inl h3
        · exact .inr ⟨b, 0, rfl, hlt3, fun j x hj => by rw [Nat.zero_add]; exact h3 j x hj⟩
theorem Only.grown {b : Nat} {u X w7 : World} {v : Value} (h : Only b u X) (hgr : X.grownBy w7 v.ownBlock) (hv : ∀ q, v.ownBlock = some q → u.heap.size ≤ q) : Only b u w7 :=
  ⟨hgr.os.trans h.os, hgr.tape.trans h.tape, hgr.output.trans h.output, Nat.le_trans h.size hgr.size, fun q hq hne => (hgr.block q (Nat.lt_of_lt_of_le hq h.size) (fun e => by have := hv q e.symm; omega)).trans (h.block q hq hne)⟩
set_option maxRecDepth 100000 in
set_option maxHeartbeats 16000000 in
theorem srget_in (s : ByteArray) (w : World) (hs : s.size ≤ maxLen) :
    Calls Try.prog 38 #[.string s] w fun e w' => SGotI s (qL s) (qF s) (tE (qL s) (qF s)) (tStr (qL s) (qF s)) w' e ∧ Below w.heap.size w w' := by
  have K1 := Lib.hid (fun W => ask2_any s 0 0 W hs (Nat.zero_le _))
  have K2 := Lib.hid (fun W => ask2_any s (qA1 s) (qR1 s) W hs (cA_le (Nat.zero_le _)))
  have K3 := Lib.hid (fun W => ask2_any s (qA2 s) (qR2 s) W hs (cA_le (cA_le (Nat.zero_le _))))
  have K4 := Lib.hid (fun k W => ask3_any s (qA3 s) (qR3 s) k W hs (cA_le (cA_le (cA_le (Nat.zero_le _)))))
  have CP := Lib.hid (fun pa c W h => srput_any pa c (qL s) (qF s) W h (Nat.le_trans (qL_len s) (by decide)) (fun l hl => Nat.le_trans (qL_wide s l hl) (by decide)) (qL_i64 s))
  rw [show cA s 0 0 1000000 = qA1 s from rfl, show cR s 0 0 1000000 = qR1 s from rfl, show (if qR1 s = 0 then (cV s 0 0 1000000 : Int) else -1) = qF s from rfl] at K1
  rw [show cA s (qA1 s) (qR1 s) 1000000 = qA2 s from rfl, show cR s (qA1 s) (qR1 s) 1000000 = qR2 s from rfl, show (if qR2 s = 0 then (cV s (qA1 s) (qR1 s) 1000000 : Int) else -1) = qN s from rfl] at K2
  rw [show cA s (qA2 s) (qR2 s) 1000000 = qA3 s from rfl, show cR s (qA2 s) (qR2 s) 1000000 = qR3 s from rfl, show (if qR3 s = 0 then (cV s (qA2 s) (qR2 s) 1000000 : Int) else -1) = qW s from rfl] at K3
  have HL := Lib.hid (show qL s = listQ s (qA3 s) (qR3 s) (upTo (qW s) 13) (upTo (qN s) 21) from rfl)
  generalize qL s = L at CP HL ⊢
  generalize qF s = f at K1 CP ⊢
  generalize tE L f = E at CP ⊢
  generalize tStr L f = T at CP ⊢
  generalize qN s = nI at K2 HL
  generalize qW s = wI at K3 HL
  generalize qA1 s = A1 at K1 K2
  generalize qR1 s = R1 at K1 K2
  generalize qA2 s = A2 at K2 K3
  generalize qR2 s = R2 at K2 K3
  generalize qA3 s = A3 at K3 K4 HL
  generalize qR3 s = R3 at K3 K4 HL
  obtain ⟨wd, hwd⟩ : ∃ wd, upTo wI 13 = wd := ⟨_, rfl⟩
  obtain ⟨nn, hnn⟩ : ∃ nn, upTo nI 21 = nn := ⟨_, rfl⟩
  rw [hwd, hnn] at HL
  have HWD := Lib.hid hwd
  have HNN := Lib.hid hnn
  have wd13 : wd ≤ 13 := by rw [← hwd]; exact upTo_le _ _
  have nn21 : nn ≤ 21 := by rw [← hnn]; exact upTo_le _ _
  unfold rdV at K1 K2 K3 K4
  clear hs hwd hnn
  obtain ⟨i0, z0, hi, hz, k1, k2, k3⟩ := info_of infoI
  have HI := Lib.hid hi
  have HZ := Lib.hid hz
  have I1 := Lib.hid k1
  have I2 := Lib.hid k2
  have I3 := Lib.hid k3
  clear hi hz k1 k2 k3
  obtain ⟨j0, zz0, hi, hz, k1, k2, k3⟩ := info_of infoS
  have HJ := Lib.hid hi
  have HY := Lib.hid hz
  have J1 := Lib.hid k1
  have J2 := Lib.hid k2
  have J3 := Lib.hid k3
  clear hi hz k1 k2 k3
  have hbA := Lib.hid ((Below.refl _ w).alloc (Nat.le_refl _) (.cells #[.string s, .int .i64 0, .int .i64 0] 78))
  have hA := Lib.hid (show three (w.alloc (.cells #[.string s, .int .i64 0, .int .i64 0] 78)) w.heap.size (.string s) (.int .i64 0) (.int .i64 0) from heap_alloc_new w _)
  go_enter Try.func38, Try.ntmps38
  go_wp2_with fail
  generalize w.alloc (.cells #[.string s, .int .i64 0, .int .i64 0] 78) = V at hA hbA ⊢
  refine (K1.out V).mono ?_
  rintro e w1 ⟨rfl, hb⟩
  have h3 := three.later hA.out hb
  have T1 := Lib.hid h3
  obtain ⟨c0, c1, c2, cf⟩ := h3.cells
  have f0 := cf 0
  have f1 := cf 1
  have f2 := cf 2
  have B1 := Lib.hid (hbA.out.trans (hb.mono hbA.out.size))
  clear cf h3 hb hA hbA K1
  go_wp2_with fail
  refine (K2.out _).mono ?_
  rintro e w2 ⟨rfl, hb⟩
  have bx := ((B1.out.setCell (p := ⟨w.heap.size, 0, none⟩) (Nat.le_refl _) (.string s)).setCell (p := ⟨w.heap.size, 1, none⟩) (Nat.le_refl _) (.int .i64 (A1 : Nat))).setCell (p := ⟨w.heap.size, 2, none⟩) (Nat.le_refl _) (.int .i64 (R1 : Nat))
  have B2 := Lib.hid (bx.trans (hb.mono bx.size))
  clear bx hb B1 T1 c0 c1 c2 f0 f1 f2 K2
  go_wp2_with fail
  refine (K3.out _).mono ?_
  rintro e w3 ⟨rfl, hb⟩
  have bx := B2.out.alloc B2.out.size (.cells #[.string s, .int .i64 (A2 : Nat), .int .i64 (R2 : Nat)] 78)
  have B3 := bx.trans (hb.mono bx.size)
  have B4 := Lib.hid (B3.alloc B3.size (.cells #[.string s, .int .i64 (A3 : Nat), .int .i64 (R3 : Nat)] 78))
  have T4 := Lib.hid (show three (w3.alloc (.cells #[.string s, .int .i64 (A3 : Nat), .int .i64 (R3 : Nat)] 78)) w3.heap.size (.string s) (.int .i64 (A3 : Nat)) (.int .i64 (R3 : Nat)) from heap_alloc_new w3 _)
  have hz4 : w3.heap.size < (w3.alloc (.cells #[.string s, .int .i64 (A3 : Nat), .int .i64 (R3 : Nat)] 78)).heap.size := by simp
  have hw3 : w.heap.size ≤ w3.heap.size := B3.size
  clear bx hb B2 B3 K3
  go_wp2_with fail
  generalize w3.alloc (.cells #[.string s, .int .i64 (A3 : Nat), .int .i64 (R3 : Nat)] 78) = W0 at B4 T4 hz4 ⊢
  generalize w3.heap.size = b at T4 hz4 hw3 ⊢
  have HS := Lib.hid (stI_le (s := s) (a := A3) (er := R3))
  go_loopw [11, 12] (fun v i wr => ∃ k : Nat, k ≤ nn ∧ i = .int .i64 k ∧ (∃ xs : List Value, wr.ownsRow W0.heap.size 68 1 v xs.length xs ∧ Inners wr W0.heap.size v xs (listQ s A3 R3 wd k)) ∧ three wr b (.string s) (.int .i64 (stI s A3 R3 (k * wd)).1) (.int .i64 (stI s A3 R3 (k * wd)).2) ∧ Only b W0 wr) (fun _ i _ => nn - (intOf i).toNat)
  case atStart => exact ⟨0, by omega, rfl, ⟨[], World.ownsRow_nil _ _ _ _, rfl, fun i l hi => by simp [listQ] at hi⟩, by rw [Nat.zero_mul]; exact T4.out, Only.refl _ _⟩
  case round =>
    obtain ⟨k, hk, rfl, ⟨xs, hrow, hin⟩, hR, hO⟩ := hrel
    have HROW := Lib.hid hrow
    have HIN := Lib.hid hin
    have HRk := Lib.hid hR
    have HO := Lib.hid hO
    have hxl : xs.length ≤ 21 := by rw [hin.1, listQ_len]; omega
    have hbk : b < wr.heap.size := Nat.lt_of_lt_of_le hz4 hO.size
    have hw0 : W0.heap.size ≤ wr.heap.size := hO.size
    clear hrow hin hR hO T4
    by_cases hlt : k < nn
    · have h1 : decide ((k : Int) < nI) = true := by rw [← HNN.out] at hlt; simp; exact (upTo_lt hlt).1
      have h2 : decide ((k : Int) < 21) = true := by simp; omega
      have h2' : decide (k < 21) = true := by simp; omega
      go_wp2_with fail
      generalize wr = wo at *
      go_loopw [13, 14] (fun v i wq => ∃ j : Nat, j ≤ wd ∧ i = .int .i64 j ∧ IRow wq wo.heap.size v (rowJ s A3 R3 wd k j) ∧ three wq b (.string s) (.int .i64 (stI s A3 R3 (k * wd + j)).1) (.int .i64 (stI s A3 R3 (k * wd + j)).2) ∧ Only b wo wq) (fun _ i _ => wd - (intOf i).toNat)
      case atStart => exact ⟨0, by omega, rfl, World.ownsRow_nil _ _ _ _, HRk.out, Only.refl _ _⟩
      case round =>
        obtain ⟨j, hj, rfl, hrow, hR, hO⟩ := hrel
        have IROW := Lib.hid hrow
        have HRj := Lib.hid hR
        have HOj := Lib.hid hO
        have hbq : b < wr.heap.size := Nat.lt_of_lt_of_le hbk hO.size
        have hwo : wo.heap.size ≤ wr.heap.size := hO.size
        clear hrow hR hO HRk
        by_cases hjl : j < wd
        · have g1 : decide ((j : Int) < wI) = true := by rw [← HWD.out] at hjl; simp; exact (upTo_lt hjl).1
          have g2 : decide ((j : Int) < 13) = true := by simp; omega
          have g2' : decide (j < 13) = true := by simp; omega
          have AK := Lib.hid (K4.out (k * wd + j))
          obtain ⟨An, hAn⟩ : ∃ x, (stI s A3 R3 (k * wd + j + 1)).1 = x := ⟨_, rfl⟩
          obtain ⟨Rn, hRn⟩ : ∃ x, (stI s A3 R3 (k * wd + j + 1)).2 = x := ⟨_, rfl⟩
          obtain ⟨x, hx⟩ : ∃ x, aI s A3 R3 (k * wd + j) = x := ⟨_, rfl⟩
          rw [hAn, hRn, hx] at AK
          have HAn := Lib.hid hAn
          have HRn := Lib.hid hRn
          have HX := Lib.hid hx
          clear hAn hRn hx
          generalize (stI s A3 R3 (k * wd + j)).1 = Aj at AK HRj
          generalize (stI s A3 R3 (k * wd + j)).2 = Rj at AK HRj
          obtain ⟨c0, c1, c2, cf⟩ := HRj.out.cells
          clear cf
          go_wp2_with fail
          refine (AK.out _).mono ?_
          rintro e w5 ⟨rfl, hb⟩
          have hown : ∀ q, Value.ownBlock u13 = some q → wo.heap.size ≤ q ∧ q < wr.heap.size := World.ownsRow.lt IROW.out
          have hs5 : wr.heap.size ≤ w5.heap.size := hb.size
          have ROW5 := Lib.hid (own_at (w' := w5.alloc (.cells #[.string s, .int .i64 (An : Nat), .int .i64 (Rn : Nat)] 78)) IROW.out fun q hq => (Below.heap_alloc _ _ _ (by have := hown q hq; omega)).trans (hb.block q (hown q hq).2))
          have T5 := Lib.hid (three.later HRj.out hb)
          have O5 := Lib.hid ((HOj.out.trans (Below.only hb)).alloc (.cells #[.string s, .int .i64 (An : Nat), .int .i64 (Rn : Nat)] 78))
          have hll : (rowJ s A3 R3 wd k j).length ≤ 13 := by rw [rowJ_len]; omega
          have hz5 : wo.heap.size ≤ (w5.alloc (.cells #[.string s, .int .i64 (An : Nat), .int .i64 (Rn : Nat)] 78)).heap.size := by rw [World.size_alloc]; omega
          have HW := Lib.hid hown
          clear hb hown c0 c1 c2 AK
          go_wp2_with (at_builtin; refine append_one rfl 68 3 i0 z0 8 Try.underlying68 HI.out HZ.out I1.out I2.out I3.out (by decide) (.tmp 59) (.tmp 61) rfl wo.heap.size u13 _ rfl ROW5.out (.int .i64 x) rfl (Eq.trans (b := Value.slice (some ⟨w5.heap.size + 1, 0, none⟩) 1 1) rfl (by rw [World.size_alloc])) hz5 (by rw [List.length_map]; omega) ?_; intro v' w7 hown7 hgr hfr; have hz7 : ((w5.alloc (.cells #[.string s, .int .i64 (An : Nat), .int .i64 (Rn : Nat)] 78)).alloc (.cells #[.int .i64 x] 3)).heap.size = w5.heap.size + 1 + 1 := (by rw [World.size_alloc, World.size_alloc]); have q0 : three w7 w5.heap.size (.string s) (.int .i64 An) (.int .i64 Rn) := (hgr.block w5.heap.size (by omega) (fun e => by have := (HW.out _ e.symm).2; omega)).trans ((Below.heap_alloc _ _ _ (by rw [World.size_alloc]; omega)).trans (heap_alloc_new w5 _)); have q1 : three w7 b (.string s) (.int .i64 Aj) (.int .i64 Rj) := (hgr.block b (by omega) (fun e => by have := (HW.out _ e.symm).1; omega)).trans ((Below.heap_alloc _ _ _ (by rw [World.size_alloc]; omega)).trans ((Below.heap_alloc _ _ _ (by omega)).trans T5.out)); have HOWN := Lib.hid hown7; have HGR := Lib.hid hgr; have Q1 := Lib.hid q1; obtain ⟨d0, d1, d2, df⟩ := q0.cells; obtain ⟨e0, e1, e2, ef⟩ := q1.cells; have ef0 := ef 0; have ef1 := ef 1; have ef2 := ef 2; clear df ef q0 q1 hown7 hgr hz7 hfr)
          have hlt7 := World.ownsRow.lt HOWN.out
          have row8 : IRow (((w7.setCell ⟨b, 0, none⟩ (.string s)).setCell ⟨b, 1, none⟩ (.int .i64 An)).setCell ⟨b, 2, none⟩ (.int .i64 Rn)) wo.heap.size v' (rowJ s A3 R3 wd k (j + 1)) := by
            rw [rowJ_snoc, HX.out]
            unfold IRow
            rw [List.map_append]
            exact own_at HOWN.out fun q hq => by
              have hqb : q ≠ b := by have := (hlt7 q hq).1; omega
              exact (Below.heap_setCell _ ⟨b, 2, none⟩ _ q hqb).trans ((Below.heap_setCell _ ⟨b, 1, none⟩ _ q hqb).trans (Below.heap_setCell _ ⟨b, 0, none⟩ _ q hqb))
          have T8 : three (((w7.setCell ⟨b, 0, none⟩ (.string s)).setCell ⟨b, 1, none⟩ (.int .i64 An)).setCell ⟨b, 2, none⟩ (.int .i64 Rn)) b (.string s) (.int .i64 (stI s A3 R3 (k * wd + (j + 1))).1) (.int .i64 (stI s A3 R3 (k * wd + (j + 1))).2) := by
            rw [show k * wd + (j + 1) = k * wd + j + 1 from rfl, HAn.out, HRn.out]
            exact set_blk (set_blk (set_blk Q1.out 0 _) 1 _) 2 _
          have O8 := ((((O5.out.alloc (.cells #[.int .i64 x] 3)).grown HGR.out (fun q hq => (HW.out q hq).1)).setCell 0 (.string s)).setCell 1 (.int .i64 An)).setCell 2 (.int .i64 Rn)
          exact ⟨⟨j + 1, by omega, by go_num, row8, T8, O8⟩, by simp [intOf]; omega⟩
        · obtain rfl : j = wd := by omega
          have g1 : decide ((j : Int) < wI) = false ∨ (decide ((j : Int) < wI) = true ∧ j = 13) := by
            rcases upTo_end HWD.out.symm with h | h
            · exact .inl (by simp; omega)
            · by_cases h4 : (j : Int) < wI
              · exact .inr ⟨by simp; exact h4, h⟩
              · exact .inl (by simp; omega)
          obtain ⟨a1, q1, hv, hin1⟩ := IROW.out.inner
          have hown : ∀ q, Value.ownBlock u11 = some q → W0.heap.size ≤ q ∧ q < wo.heap.size := World.ownsRow.lt HROW.out
          have ROWw := Lib.hid (own_at (w' := wr) HROW.out fun q hq => HOj.out.block q (hown q hq).2 (by have := (hown q hq).1; omega))
          have inw : Inners wr W0.heap.size u11 xs (listQ s A3 R3 j k) := HIN.out.move hwo fun q hN hlt hne => ⟨HOj.out.block q hlt (by omega), hne⟩
          have in1 : Inner wr W0.heap.size u11 a1 (rowJ s A3 R3 j k j) := by
            rcases hin1 with h | ⟨b1, rfl, h1, h2, h3⟩
            · exact .inl h
            · exact .inr ⟨b1, rfl, by omega, h2, fun h => by have := (hown b1 h.symm).2; omega, h3⟩
          have IN := Lib.hid (inw.snoc (c := q1) in1)
          rw [← listQ_snoc] at IN
          have OW := Lib.hid (HO.out.trans HOj.out)
          have HW := Lib.hid hown
          have hwW : W0.heap.size ≤ wr.heap.size := Nat.le_trans hw0 hwo
          have TK := Lib.hid HRj.out
          generalize hl : rowJ s A3 R3 j k j = l at hv IN
          subst hv
          generalize l.length = ln at IN ⊢
          clear HRj IROW HIN hin1 inw in1 hl
          rcases g1 with g1 | ⟨g1, g13⟩
          · go_wp2_with (at_builtin; refine append_one rfl 58 68 j0 zz0 24 Try.underlying58 HJ.out HY.out J1.out J2.out J3.out (by decide) (.tmp 64) (.tmp 66) rfl W0.heap.size u11 _ rfl ROWw.out (.slice a1 ln q1) rfl rfl hwW (by omega) ?_; intro v' w9 hown9 hgr hfr; have HOWN := Lib.hid hown9; have HGR := Lib.hid hgr; have HFR := Lib.hid hfr; clear hown9 hgr hfr)
            have hz9 : (wr.alloc (.cells #[.slice a1 ln q1] 68)).heap.size = wr.heap.size + 1 := World.size_alloc _ _
            have h9 : wr.heap.size ≤ w9.heap.size := by have := HGR.out.size; rw [hz9] at this; omega
            have T9 : three w9 b (.string s) (.int .i64 (stI s A3 R3 ((k + 1) * j)).1) (.int .i64 (stI s A3 R3 ((k + 1) * j)).2) := by
              rw [show (k + 1) * j = k * j + j by rw [Nat.add_mul, Nat.one_mul]]
              exact (HGR.out.block b (by rw [hz9]; omega) (fun e => by have := (HW.out _ e.symm).1; omega)).trans ((Below.heap_alloc _ _ _ hbq).trans TK.out)
            have O9 := (OW.out.alloc (.cells #[.slice a1 ln q1] 68)).grown HGR.out (fun q hq => (HW.out q hq).1)
            have IN9 : Inners w9 W0.heap.size v' (xs ++ [.slice a1 ln q1]) (listQ s A3 R3 j (k + 1)) := by
              refine IN.out.move h9 fun q hN hlt hne => ⟨(HGR.out.block q (by rw [hz9]; omega) hne).trans (Below.heap_alloc _ _ _ hlt), ?_⟩
              rcases HFR.out with e | ⟨bb, e, hb⟩
              · rw [e]; exact hne
              · rw [e]; intro h; cases h; omega
            exact ⟨⟨k + 1, by omega, by go_num, ⟨_, HOWN.out, IN9⟩, T9, O9⟩, by simp [intOf]; omega⟩
          · have g2 : decide ((j : Int) < 13) = false := by simp; omega
            have g2' : decide (j < 13) = false := by simp; omega
            clear g13
            go_wp2_with (at_builtin; refine append_one rfl 58 68 j0 zz0 24 Try.underlying58 HJ.out HY.out J1.out J2.out J3.out (by decide) (.tmp 64) (.tmp 66) rfl W0.heap.size u11 _ rfl ROWw.out (.slice a1 ln q1) rfl rfl hwW (by omega) ?_; intro v' w9 hown9 hgr hfr; have HOWN := Lib.hid hown9; have HGR := Lib.hid hgr; have HFR := Lib.hid hfr; clear hown9 hgr hfr)
            have hz9 : (wr.alloc (.cells #[.slice a1 ln q1] 68)).heap.size = wr.heap.size + 1 := World.size_alloc _ _
            have h9 : wr.heap.size ≤ w9.heap.size := by have := HGR.out.size; rw [hz9] at this; omega
            have T9 : three w9 b (.string s) (.int .i64 (stI s A3 R3 ((k + 1) * j)).1) (.int .i64 (stI s A3 R3 ((k + 1) * j)).2) := by
              rw [show (k + 1) * j = k * j + j by rw [Nat.add_mul, Nat.one_mul]]
              exact (HGR.out.block b (by rw [hz9]; omega) (fun e => by have := (HW.out _ e.symm).1; omega)).trans ((Below.heap_alloc _ _ _ hbq).trans TK.out)
            have O9 := (OW.out.alloc (.cells #[.slice a1 ln q1] 68)).grown HGR.out (fun q hq => (HW.out q hq).1)
            have IN9 : Inners w9 W0.heap.size v' (xs ++ [.slice a1 ln q1]) (listQ s A3 R3 j (k + 1)) := by
              refine IN.out.move h9 fun q hN hlt hne => ⟨(HGR.out.block q (by rw [hz9]; omega) hne).trans (Below.heap_alloc _ _ _ hlt), ?_⟩
              rcases HFR.out with e | ⟨bb, e, hb⟩
              · rw [e]; exact hne
              · rw [e]; intro h; cases h; omega
            exact ⟨⟨k + 1, by omega, by go_num, ⟨_, HOWN.out, IN9⟩, T9, O9⟩, by simp [intOf]; omega⟩
    · obtain rfl : k = nn := by omega
      have g1 : decide ((k : Int) < nI) = false ∨ (decide ((k : Int) < nI) = true ∧ k = 21) := by
        rcases upTo_end HNN.out.symm with h | h
        · exact .inl (by simp; omega)
        · by_cases h4 : (k : Int) < nI
          · exact .inr ⟨by simp; exact h4, h⟩
          · exact .inl (by simp; omega)
      obtain ⟨pa, c, rfl, hrows⟩ := Inners.rows HROW.out HIN.out
      rw [← HL.out] at hrows ⊢
      have HROWS := Lib.hid hrows
      have BB := Lib.hid (B4.out.trans (HO.out.below hw3 (Nat.le_trans hw3 (Nat.le_of_lt hz4))))
      clear hrows HROW HIN HL HNN HRk HO hxl
      obtain ⟨ln, hln⟩ : ∃ n, L.length = n := ⟨_, rfl⟩
      have HLN := Lib.hid hln
      rw [hln] at CP ⊢
      clear hln
      rcases g1 with g1 | ⟨g1, g13⟩
      · skip
        go_wp2_with fail
        refine (CP.out pa c _ HROWS.out).mono ?_
        rintro e w5 ⟨rfl, hb3⟩
        have HR3 := Lib.hid (HROWS.out.later hb3)
        have HB3 := Lib.hid (BB.out.trans (hb3.mono BB.out.size))
        clear hb3 HROWS BB CP
        by_cases hE : E = 0
        · subst hE
          by_cases hT : T = s
          · subst hT
            go_wp2_with fail
            go_ret3
            exact ⟨.inl ⟨pa, c, by rw [HLN.out]; rfl, HR3.out, rfl, rfl⟩, HB3.out⟩
          · have hbe := str_ne hT
            have HT := Lib.hid hT
            clear hT
            go_wp2_with fail
            go_ret3
            exact ⟨.inr ⟨rfl, fun h => HT.out h.2⟩, HB3.out⟩
        · have hbe : ((E : Int) == 0) = false := by simp; omega
          have HE := Lib.hid hE
          clear hE
          go_wp2_with fail
          go_ret3
          exact ⟨.inr ⟨rfl, fun h => HE.out h.1⟩, HB3.out⟩
      · have g2 : decide ((k : Int) < 21) = false := by simp; omega
        have g2' : decide (k < 21) = false := by simp; omega
        clear g13
        go_wp2_with fail
        refine (CP.out pa c _ HROWS.out).mono ?_
        rintro e w5 ⟨rfl, hb3⟩
        have HR3 := Lib.hid (HROWS.out.later hb3)
        have HB3 := Lib.hid (BB.out.trans (hb3.mono BB.out.size))
        clear hb3 HROWS BB CP
        by_cases hE : E = 0
        · subst hE
          by_cases hT : T = s
          · subst hT
            go_wp2_with fail
            go_ret3
            exact ⟨.inl ⟨pa, c, by rw [HLN.out]; rfl, HR3.out, rfl, rfl⟩, HB3.out⟩
          · have hbe := str_ne hT
            have HT := Lib.hid hT
            clear hT
            go_wp2_with fail
            go_ret3
            exact ⟨.inr ⟨rfl, fun h => HT.out h.2⟩, HB3.out⟩
        · have hbe : ((E : Int) == 0) = false := by simp; omega
          have HE := Lib.hid hE
          clear hE
          go_wp2_with fail
          go_ret3
          exact ⟨.inr ⟨rfl, fun h => HE.out h.1⟩, HB3.out⟩
end Go.Proofs.Ytpnljefgenniaaa

