/- The document's example of containers works; lists of sections as a parameter. No conditions. -/
import Derived.Test.YtanbifhhoeaofaaContSeal
import Derived.Test.YtanbifhhoeaofaaContOpen
import Derived.Deep.Slices
import Derived.ProofKit
import Derived.SizedLaws
namespace Go.Proofs.Ytanbifhhoeaofaa
set_option linter.unusedVariables false
open Go Go.RowKit Go.ChangeShapes Go.WideShapes Go.Deep

theorem copen_as {s : ByteArray} {L : List Sec} {k : Nat} (h : cOpen s = (L, k)) (hs : s.size ≤ 1048576) (W : World) :
    Calls Try.prog 16 #[.string s] W fun e w' => ∃ pa c, e = .returned (.tuple #[.slice pa L.length c, .int .i64 k]) ∧ SecsAt w' pa L ∧ Below W.heap.size W w' := by
  refine (copen_any s W hs).mono ?_
  rintro e w' ⟨⟨pa, c, rfl, hse⟩, hb⟩
  rw [h] at hse ⊢
  exact ⟨pa, c, rfl, hse, hb⟩
def exC : List Sec := [(1, ⟨#[]⟩)]
theorem exC_ord : cOrd exC = true := by decide
theorem exC_head : fHead 1 ⟨#[]⟩ = [1, 0] := by unfold fHead lebL; show _ :: (digs 0).map _ = _; rw [digs_lt (by decide)]; rfl
theorem exC_size : cSize (1, ⟨#[]⟩) = 6 := by unfold cSize; rw [exC_head]; rfl
theorem exC_index : cIndex exC = [1, 1, 7, 6] := by
  show lebL 1 ++ ((lebL (u64I 1) ++ lebL 7 ++ lebL (cSize (1, ⟨#[]⟩))) ++ []) = _
  rw [exC_size, show u64I 1 = 1 by decide]
  unfold lebL
  rw [digs_lt (by decide), digs_lt (by decide), digs_lt (by decide)]
  rfl
theorem exC_sum : cSum exC = 6 := by show cSize (1, ⟨#[]⟩) + 0 = 6; rw [exC_size]
theorem exC_len : (bStr (cBytes exC)).size = 29 := by rw [bStr_size, cBytes_len, exC_sum, exC_index]; rfl
theorem wseal1 (a : Addr) (c : Nat) (W : World) (h : SecsAt W (some a) exC) : Calls Try.prog 12 #[.slice (some a) 1 c] W fun e w' => e = .returned (.tuple #[.string (bStr (cBytes exC)), .int .i64 0]) ∧ Below W.heap.size W w' :=
  cseal_ok (some a) c exC W h exC_ord (by have := exC_len; rw [bStr_size] at this; omega)
theorem wseal2 (W : World) : Calls Try.prog 12 #[.slice none 0 0] W fun e w' => e = .returned (.tuple #[.string ⟨#[]⟩, .int .i64 20]) ∧ Below W.heap.size W w' :=
  cseal_bad none 0 [] W (.inl rfl) (by decide) (by decide)
theorem wopen1 (W : World) : Calls Try.prog 16 #[.string (bStr (cBytes exC))] W fun e w' => ∃ pa c, e = .returned (.tuple #[.slice pa 1 c, .int .i64 0]) ∧ SecsAt w' pa exC ∧ Below W.heap.size W w' :=
  copen_as (cOpen_back exC_ord (by decide)) (by rw [exC_len]; decide) W
theorem wopen2 (W : World) : Calls Try.prog 16 #[.string ⟨#[77, 85, 84, 65, 82, 67, 1]⟩] W fun e w' => ∃ pa c, e = .returned (.tuple #[.slice pa 0 c, .int .i64 7]) ∧ SecsAt w' pa [] ∧ Below W.heap.size W w' :=
  copen_as (s := ⟨#[77, 85, 84, 65, 82, 67, 1]⟩) (L := []) (k := 7) (cOpen_notOk (by unfold cOk; rw [decide_eq_false (by decide)]; rfl)) (by decide) W
theorem windex1 (a : Addr) (c : Nat) (W : World) (h : SecsAt W (some a) exC) : Calls Try.prog 14 #[.slice (some a) 1 c] W fun e w' => e = .returned (.string ⟨#[1, 1, 7, 6]⟩) ∧ Below W.heap.size W w' := by
  have h1 := cindex_any (some a) c exC W h (by rw [exC_sum]; decide)
  rw [exC_index] at h1
  exact h1
theorem wsame1 (a : Addr) (pb : Option Addr) (ca cb : Nat) (W : World) (h : SecsAt W (some a) exC) (k : SecsAt W pb exC) : Calls Try.prog 18 #[.slice (some a) 1 ca, .slice pb 1 cb] W fun e w' => e = .returned (.bool true) ∧ Below W.heap.size W w' := by
  have h1 := rsameC_any (some a) pb ca cb exC exC W h k (by decide)
  rw [decide_eq_true (rfl : exC = exC)] at h1
  exact h1
set_option maxRecDepth 100000 in
set_option maxHeartbeats 4000000 in
theorem cworks_any (w : World) : Calls Try.prog 10 #[] w fun e w' => e = .returned (.bool true) ∧ Below w.heap.size w w' := by
  have HL := Lib.hid exC_len
  go_enter Try.func10, Try.ntmps10
  go_wp2_with fail
  have hV : SecsAt (w.alloc (.cells #[.int .i64 1, .string ⟨#[]⟩] 36)) (some ⟨w.heap.size, 0, none⟩) exC := by
    refine .inr ⟨w.heap.size, 0, rfl, by simp, fun i x hi => ?_⟩
    have h0 : i = 0 := by
      have := (List.getElem?_eq_some_iff.1 hi).1
      unfold exC at this; simp at this; omega
    subst h0
    have hx : x = (1, ⟨#[]⟩) := by unfold exC at hi; simpa using hi.symm
    subst hx
    exact two_alloc w (1, ⟨#[]⟩)
  have HV := Lib.hid hV
  have HB := Lib.hid ((Below.refl _ w).alloc (Nat.le_refl _) (.cells #[.int .i64 1, .string ⟨#[]⟩] 36))
  clear hV
  generalize w.alloc (.cells #[.int .i64 1, .string ⟨#[]⟩] 36) = V at HV HB ⊢
  have SE := Lib.hid (wseal1 ⟨w.heap.size, 0, none⟩ 1 V HV.out)
  have OP := Lib.hid wopen1
  generalize bStr (cBytes exC) = S at SE OP HL
  have hl : (S.size : Int) = 29 := by have := HL.out; omega
  refine SE.out.mono ?_
  rintro e w1 ⟨rfl, hb⟩
  have B1 := Lib.hid (HB.out.trans (hb.mono HB.out.size))
  have S1 := Lib.hid (HV.out.later hb)
  clear hb HB HV SE
  go_wp2_with fail
  refine (OP.out w1).mono ?_
  rintro e w2 ⟨pa, c, rfl, hse, hb⟩
  have B2 := Lib.hid (B1.out.trans (hb.mono B1.out.size))
  have S2 := Lib.hid (S1.out.later hb)
  have M2 := Lib.hid hse
  clear hb hse B1 S1
  go_wp2_with fail
  refine (wseal2 w2).mono ?_
  rintro e w3 ⟨rfl, hb⟩
  have B3 := Lib.hid (B2.out.trans (hb.mono B2.out.size))
  have S3 := Lib.hid (S2.out.later hb)
  have M3 := Lib.hid (M2.out.later hb)
  clear hb B2 S2 M2
  go_wp2_with fail
  refine (wopen2 w3).mono ?_
  rintro e w4 ⟨pb, c', rfl, -, hb⟩
  have B4 := Lib.hid (B3.out.trans (hb.mono B3.out.size))
  have S4 := Lib.hid (S3.out.later hb)
  have M4 := Lib.hid (M3.out.later hb)
  clear hb B3 S3 M3
  go_wp2_with fail
  refine (wsame1 ⟨w.heap.size, 0, none⟩ pa 1 c w4 S4.out M4.out).mono ?_
  rintro e w5 ⟨rfl, hb⟩
  have B5 := Lib.hid (B4.out.trans (hb.mono B4.out.size))
  have S5 := Lib.hid (S4.out.later hb)
  clear hb B4 S4 M4
  go_wp2_with fail
  refine (windex1 ⟨w.heap.size, 0, none⟩ 1 w5 S5.out).mono ?_
  rintro e w6 ⟨rfl, hb⟩
  have B6 := Lib.hid (B5.out.trans (hb.mono B5.out.size))
  clear hb
  go_wp2_with fail
  go_ret
  exact ⟨rfl, B6.out⟩
section
variable {H : Type} {enc : TypeId × Value → H} {w : World} {base : Nat} {spare : Nat → Bool} {held : Bool}
theorem weights_mem_allC {e : TypeId} {d : DataW H} {n : Nat} : ∀ {l : List (DataW H)}, d ∈ l → n ∈ d.weights Try.prog e → n ∈ DataW.weightsAll Try.prog e l
  | x :: l, hd, hn => by
    simp only [DataW.weightsAll, List.mem_append]
    rcases List.mem_cons.1 hd with rfl | hd
    · exact .inl hn
    · exact .inr (weights_mem_allC hd hn)
set_option maxRecDepth 100000 in
theorem open_sec {fuel : Nat} {cs : List Value} {x : DataW H × List MemPlace} (h : DataW.trod enc Try.prog w base spare held fuel 36 cs = some x) :
    ∃ m : Sec, cs = [.int .i64 m.1, .string m.2] ∧ ∀ L, (∀ n ∈ x.1.weights Try.prog 36, n ≤ L) → m.2.size ≤ L := by
  obtain ⟨xs, n, _, rfl, hlen, hxl, hf⟩ := DataW.trod_struct Try.underlying36 h
  have hC : Try.prog.cellsOf 36 = 2 := by kernel_rfl
  rw [hC] at hlen
  match cs, hlen with
  | [c0, c1], _ =>
    match xs, hxl with
    | [x0, x1], _ =>
      have C3 : Try.prog.cellsOf 3 = 1 := by kernel_rfl
      have C9 : Try.prog.cellsOf 9 = 1 := by kernel_rfl
      have h0 : DataW.trod enc Try.prog w base spare held n 3 (List.take (Try.prog.cellsOf 3) [c0, c1]) = some x0 := hf 0 _ rfl
      have h3 : DataW.trod enc Try.prog w base spare held n 9 (List.take (Try.prog.cellsOf 9) [c1]) = some x1 := hf 1 _ rfl
      rw [C3] at h0
      rw [C9] at h3
      obtain ⟨k, e0, _, w0⟩ := DataW.trod_int Try.underlying3 h0
      obtain ⟨s, e3, f3, _⟩ := DataW.trod_string Try.underlying9 h3
      simp only [List.take_succ_cons, List.take_zero, List.cons.injEq, and_true] at e0 e3
      refine ⟨(k, s), by rw [e0, e3], fun L hL => ?_⟩
      have := hL s.data.toList.length ?_
      · simpa using this
      · simp only [DataW.weights, Try.underlying36]
        refine DataW.weights_mem_each (j := 1) (t := 9) (d := x1.1) rfl rfl _ ?_
        rw [f3]; simp [DataW.weights]
end
section
variable {H : Type} {enc : TypeId × Value → H}
set_option maxRecDepth 100000 in
theorem open_secs {W : World} {v : Value} {d : DataW H} {p : List MemPlace} {b0 : Nat} {r : Reach} (hv : Value.okWide Try.prog W r b0 22 v) (h : DataW.Trod enc Try.prog W 0 (fun _ => true) true 22 v d p) (hw : ∀ n ∈ d.weights Try.prog 22, n ≤ reachBytes) :
    ∃ (a : Option Addr) (c : Nat) (L : List Sec), v = .slice a L.length c ∧ (SecsAt W a L ∧ L.length ≤ maxLen ∧ ∀ x ∈ L, x.2.size ≤ reachBytes) := by
  obtain ⟨a, len, cap, rfl⟩ := okWide_slice Try.underlying22 hv
  obtain ⟨fuel, hf⟩ := h
  rcases open_slice Try.underlying22 hf with ⟨hcs, _⟩ | ⟨x, len', cap', m, n, D, Pl, hcs, _, hl, hm, hmm, hx, hi⟩
  · simp [Value.cells] at hcs
    obtain ⟨rfl, rfl, rfl⟩ := hcs
    exact ⟨none, 0, [], rfl, .inl rfl, by decide, fun x hx => by cases hx⟩
  · simp [Value.cells] at hcs
    obtain ⟨rfl, rfl, rfl⟩ := hcs
    simp only [if_true] at hmm
    have hd : d = (.slice ((List.range len).map D) ((List.range (m - len)).map fun j => D (len + j))) := congrArg Prod.fst hx
    have C30 : Try.prog.cellsOf 36 = 2 := by kernel_rfl
    have hM : ∀ i, ∃ mu : Sec, i < len → (mu.2.size ≤ reachBytes ∧ ∀ j, j < 2 → W.cell? (x.add (i * 2 + j)) = ([.int .i64 mu.1, .string mu.2] : List Value)[j]?) := by
      intro i
      by_cases hlt : i < len
      · obtain ⟨cs', hc, ht⟩ := hi i (by omega)
        rw [C30] at hc
        obtain ⟨mu, rfl, hL⟩ := open_sec ht
        obtain ⟨_, _, hat⟩ := World.cells?_some hc
        refine ⟨mu, fun _ => ⟨hL _ fun n hn => hw n ?_, fun j hj => by rw [← Go.Deep.add_add]; exact hat j hj⟩⟩
        rw [hd]
        simp only [DataW.weights, Try.underlying22]
        exact List.mem_cons_of_mem _ (List.mem_append.2 (.inl (weights_mem_allC (List.mem_map.2 ⟨i, List.mem_range.2 hlt, rfl⟩) hn)))
      · exact ⟨(0, ByteArray.empty), fun h => absurd h hlt⟩
    obtain ⟨I, hI⟩ := Classical.axiomOfChoice hM
    have hlen : ((List.range len).map I).length = len := by simp
    refine ⟨some x, cap, (List.range len).map I, by rw [hlen], ?_, by rw [hlen]; omega, fun y hy => ?_⟩
    · by_cases h0 : len = 0
      · exact .inl (by subst h0; rfl)
      · right
        obtain ⟨b, off, spot⟩ := x
        have h00 := (hI 0 (by omega)).2 0 (by omega)
        have hs : spot = none := World.cell?_spot h00
        subst hs
        refine ⟨b, off, rfl, World.block_lt_of_cell? W _ h00, fun i y hi => ?_⟩
        have hil := (List.getElem?_eq_some_iff.1 hi).1
        rw [hlen] at hil
        rw [List.getElem?_map, List.getElem?_range hil] at hi
        simp only [Option.map_some, Option.some.injEq] at hi
        subst hi
        have h1 := (hI i hil).2 0 (by omega)
        have h2 := (hI i hil).2 1 (by omega)
        rw [add_mkS] at h1 h2
        rw [Nat.add_zero] at h1
        rw [← Nat.add_assoc] at h2
        exact ⟨h1, h2⟩
    · obtain ⟨i, hil, rfl⟩ := List.mem_map.1 hy
      exact (hI i (List.mem_range.1 hil)).1
end
end Go.Proofs.Ytanbifhhoeaofaa

