/- behind: the walk. No conditions. -/
import Derived.Test.YtanbifhhoeaofaaContIndex
import Derived.Test.YtanbifhhoeaofaaCrcSum
namespace Go.Proofs.Ytanbifhhoeaofaa
set_option linter.unusedVariables false
open Go Go.RowKit Go.Shelf
attribute [local go_sem] Oper.semAt_some

def endP (a : Nat) (l : List (Nat × Sec)) : Nat := l.foldl (fun _ p => p.1 + cSize p.2) a
theorem endP_snoc (a : Nat) (l : List (Nat × Sec)) (p : Nat × Sec) : endP a (l ++ [p]) = p.1 + cSize p.2 := by simp [endP]
theorem endP_all (a : Nat) (L : List Sec) : endP a (placesL a L) = a + cSum L := by
  induction L generalizing a with
  | nil => simp [endP, placesL, cSum]
  | cons x L ih =>
    have : endP a (placesL a (x :: L)) = endP (a + cSize x) (placesL (a + cSize x) L) := rfl
    rw [this, ih, cSum_cons, Nat.add_assoc]
def BhI (w0 : World) (n : Nat) (pre : List (Nat × Sec)) (W : World) : Prop := Below n w0 W ∧ Boxed W n 3 (.int .i64 (endP 7 pre : Nat))
theorem BhI.own {w0 : World} {n B : Nat} (hB : n ≤ B) (hn : n = w0.heap.size) : OwnFrom B (BhI w0 n) := by
  rintro s W W' row ⟨h2, h3⟩ hg hr
  have hc : CellsOn W W' := CellsOn.grown hg fun r e => (hr r e).2
  exact ⟨ownFrom_below (β := Unit) (by omega) hB () W W' row h2 hg hr, hc _ _ h3 rfl⟩
theorem BhI.later {w0 : World} {n : Nat} (hn : n = w0.heap.size) {pre : List (Nat × Sec)} {W W' : World} (h : BhI w0 n pre W) (hb : Below W.heap.size W W') : BhI w0 n pre W' := by
  obtain ⟨h2, h3⟩ := h
  exact ⟨h2.trans (hb.mono (by have := h2.size; omega)), (hb.block _ h3.lt).trans h3⟩
set_option maxRecDepth 100000 in
set_option maxHeartbeats 4000000 in
theorem cbehind_in (pa : Option Addr) (c : Nat) (L : List Sec) (w : World) (hL : SecsAt w pa L) (hs : cSum L ≤ 1100000) :
    CallsIn Fence.wide 3 Try.prog 24 #[.slice pa L.length c] w fun e w' => e = .returned (.string (bStr (cBehind L))) ∧ Below w.heap.size w w' := by
  refine callsIn_of_wp_marks Try.func24 rfl trivial ?_ rfl
  simp only [Try.ntmps24, List.size_toArray, List.length_cons, List.length_nil, Nat.reduceAdd, Nat.reduceSub, Array.replicate_succ, Array.replicate_zero, List.push_toArray, List.append_toArray, List.nil_append, List.cons_append]
  gi_wp2_with (refine ⟨trivial, ?_⟩; gi_at_call 34; refine (places_in _ _ _ _ _).mono ?_; rintro e w3 ⟨rfl, rfl⟩)
  have hbV : Below w.heap.size w ((w.alloc (.cells #[.int .i64 7] 3)).alloc (.cells #[.slice pa L.length c] 22)) := ((Below.refl _ w).alloc (Nat.le_refl _) _).alloc (by simp) _
  have hbx : Boxed ((w.alloc (.cells #[.int .i64 7] 3)).alloc (.cells #[.slice pa L.length c] 22)) (w.heap.size + 1) 22 (.slice pa L.length c) := by
    have := Boxed.new (w.alloc (.cells #[.int .i64 7] 3)) 22 (.slice pa L.length c)
    rw [World.size_alloc] at this; exact this
  have hI0 : BhI w w.heap.size [] ((w.alloc (.cells #[.int .i64 7] 3)).alloc (.cells #[.slice pa L.length c] 22)) := ⟨hbV, (Boxed.new w 3 (.int .i64 7)).alloc _⟩
  have hzV : ((w.alloc (.cells #[.int .i64 7] 3)).alloc (.cells #[.slice pa L.length c] 22)).heap.size = w.heap.size + 1 + 1 := by rw [World.size_alloc, World.size_alloc]
  refine rangeKeep (n := 1) (gf := 47) (n0 := w.heap.size) (Bn := w.heap.size + 1) (lb := #[.pointer (some ⟨w.heap.size + 1, 0, none⟩)]) rfl (enters_of Try.func47 (by kernel_rfl) rfl)
    (places_seq _ _ _ pa c L w _ hbx rfl hbV hL (by omega)) (by simp) hbV.size (fun _ => rfl)
    (BhI w w.heap.size) (BhI.own hbV.size rfl) (fun pre W W' h hb => h.later rfl hb) hI0
    (fun W p => { tmps := #[.slice pa L.length c, undef, .string ⟨#[]⟩, .pointer (some ⟨w.heap.size, 0, none⟩), .int .i64 p.1, .pointer (some ⟨W.heap.size, 0, none⟩), undef, undef, undef, .slice pa L.length c, .func (.func 47) #[] #[.pointer (some ⟨w.heap.size + 1, 0, none⟩)], .int .i64 p.1, secV p.2, undef, undef, undef, undef, undef, undef, undef, undef, undef, undef, undef, undef, undef, undef, undef, undef, undef, undef, undef, undef, undef, undef, undef, undef, undef, undef], defers := [] })
    (fun W p => W.alloc (.cells #[.int .i64 p.2.1, .string p.2.2] 36)) (fun W p => (Below.refl _ W).alloc (Nat.le_refl _) _) ?assign ?body ?done
  case assign =>
    intro l x W K hK
    obtain ⟨at', ty, d⟩ := x
    unfold secV at hK
    simp only at hK
    unfold encP secV
    gi_wp2
    first | exact hK | simpa using hK
  case body =>
    rintro l pre ⟨at', ty, d⟩ W0 W W2 ⟨hI1, hI2⟩ hpre hsz hloop honly hsW hWx hzx
    have hcon : CellsOn W0 W2 := CellsOn.only honly hloop
    have hx : W2.heap[W.heap.size]? = some (.cells #[.int .i64 ty, .string d] 36) := (hWx _ (Nat.le_refl _)).trans (heap_alloc_new W _)
    have hbb : Boxed W2 w.heap.size 3 (.int .i64 (endP 7 pre : Nat)) := hcon _ _ hI2 rfl
    have c1 : W2.cell? ⟨W.heap.size, 0, none⟩ = some (.int .i64 ty) := by unfold World.cell?; rw [hx]; rfl
    have c2 : W2.cell? ⟨W.heap.size, 1, none⟩ = some (.string d) := by unfold World.cell?; rw [hx]; rfl
    rw [hzV] at hsz honly
    have hmem : (at', (ty, d)) ∈ placesL 7 L := hpre.subset (List.mem_append.2 (.inr (List.mem_singleton.2 rfl)))
    have hpl := placesL_le _ hmem
    simp only at hpl
    have hdl : d.size ≤ 1000000000 := by have : d.size ≤ cSize (ty, d) := by { unfold cSize; simp only; omega }; omega
    have CZ := Lib.hid (fun V => csize_any (ty, d) V hdl)
    have HS := Lib.hid (endP_snoc 7 pre (at', (ty, d)))
    have hxl := (Array.getElem?_eq_some_iff.1 hx).1
    have hbW2 : Below w.heap.size w W2 := hI1.trans (honly.below (by omega) (by omega))
    unfold secV at CZ ⊢
    simp only at CZ HS ⊢
    generalize cSize (ty, d) = z at *
    have hq : at' + z ≤ 2000000 := by omega
    clear hx hcon hmem hpl hdl hI1 hI2 hpre hloop honly hWx hzx hbx hbV hI0
    gi_wp2_with (first | (refine ⟨trivial, rfl, ?_⟩; refine (callsIn_round (CZ.out _)).mono ?_; rintro e W4 ⟨rfl, hb4⟩; have hb4' := (hb4.block _ hbb.lt).trans hbb; have hf4 := Boxed.frozen hb4'; have hc4 := Boxed.cell hb4') | (refine ⟨trivial, ?_⟩; refine (callsIn_round (CZ.out _)).mono ?_; rintro e W4 ⟨rfl, hb4⟩; have hb4' := (hb4.block _ hbb.lt).trans hbb; have hf4 := Boxed.frozen hb4'; have hc4 := Boxed.cell hb4'))
    have hbm : Below w.heap.size W2 W4 := hb4.mono (by have := hbb.lt; omega)
    have hbs := hbm.setCell (p := ⟨w.heap.size, 0, none⟩) (Nat.le_refl _) (.int .i64 ((at' : Int) + (z : Int)))
    refine ⟨(KeepsOthers.mk hb4.size fun k o hk ho => (hb4.block _ (Array.getElem?_eq_some_iff.1 hk).1).trans hk).trans (KeepsOthers.setCell _ _ _), ⟨hbs, (set_heap (by omega)).trans (hb4.block _ (by omega))⟩, fun k h1 h2 => (set_heap (by omega)).trans (hb4.block _ (by omega)), hbW2.trans hbs, ?_⟩
    rw [HS.out]
    have hb5 : Boxed W4 w.heap.size 3 (.int .i64 (endP 7 pre : Nat)) := hb4'
    have := hb5.set (.int .i64 ((at' + z : Nat) : Int))
    rwa [show ((at' + z : Nat) : Int) = (at' : Int) + (z : Int) by omega] at this
  case done =>
    rintro D W hD ⟨h2, h3⟩ hK
    rw [endP_all] at h3
    have CI := Lib.hid (cindex_any pa c L W (hL.later h2) hs)
    have hil := cIndex_len (L := L) (by omega)
    have hll : L.length ≤ 220000 := by have := data_le_cSum L; omega
    have hxl : (bStr (cIndex L)).data.toList.length ≤ 6700000 := by rw [ba_len, bStr_size]; omega
    have HX := Lib.hid (show (bStr (cIndex L)).data.toList = cIndex L from rfl)
    have hxs : (bStr (cIndex L)).size ≤ 6700000 := by rw [bStr_size]; omega
    have HE := Lib.hid (show bStr (cBehind L) = bStr (cIndex L ++ crcTail (cIndex L) ++ bytes4 (7 + cSum L) ++ endL) from rfl)
    have hE : 7 + cSum L ≤ 1100007 := by omega
    generalize hR : bStr (cBehind L) = R at HE
    have HR' := Lib.hid hR
    clear hR
    generalize bStr (cIndex L) = x at CI HX hxs hxl
    generalize cIndex L = ci at HX HE
    generalize 7 + cSum L = E at h3 HE hE
    have HB := Lib.hid h2
    have HK := Lib.hid hK
    have H3 := Lib.hid h3
    have hzW := HB.out.size
    clear hL hs hbx hbV hI0 hzV h2 h3 hK hil hll
    gi_wp2_with (first
      | (refine ⟨trivial, ?_⟩; gi_at_call 14; refine (callsIn_wide.2 CI.out).mono ?_; rintro e W5 ⟨rfl, hb5⟩; have B5 := Lib.hid hb5; clear hb5)
      | (refine ⟨trivial, ?_⟩; gi_at_call 32; refine (callsIn_wide.2 (wnew_any _)).mono ?_; rintro e W6 ⟨rfl, rfl⟩; have R0 := Lib.hid (WrR.new (WrAt.new W5 W5.heap.size (Nat.le_refl _))))
      | (refine ⟨trivial, ?_⟩; gi_at_call 43; refine (callsIn_wide.2 (tail_any x _ (by omega))).mono ?_; rintro e W8 ⟨rfl, hb8⟩; have R2 := Lib.hid (R1.out.later hb8); clear hb8 R1)
      | (refine ⟨trivial, ?_⟩; gi_at_call 42; (with_reducible refine (callsIn_wide.2 (rrawW R0.out x (by simp; omega))).mono ?_); rintro e W7 ⟨rfl, hr⟩; have R1 := Lib.hid hr; clear hr R0)
      | (refine ⟨trivial, ?_⟩; gi_at_call 42; (with_reducible refine (callsIn_wide.2 (rrawW R2.out _ (by rw [List.length_append, show (strOf (crcTail x.data.toList)).size = 4 from rfl, List.length_nil]; omega))).mono ?_); rintro e W9 ⟨rfl, hr⟩; have R3 := Lib.hid hr; clear hr R2))
    gi_loopw [25] (fun i wr => ∃ k : Nat, k ≤ 4 ∧ i = .int .i64 k ∧ WrR (W5.alloc (.cells #[.slice none 0 0] 65)) W5.heap.size (.slice none 0 0) ([] ++ x.data.toList ++ (strOf (crcTail x.data.toList)).data.toList ++ (bytes4 E).take k) wr) (fun i _ => 4 - (intOf i).toNat)
    case atStart => exact ⟨0, by omega, rfl, by simpa using R3.out⟩
    case round =>
      obtain ⟨k, hk, rfl, hR⟩ := hrel
      have HR := Lib.hid hR
      clear hR R3
      by_cases hlt : k < 4
      · have hk0 : k = 0 ∨ k = 1 ∨ k = 2 ∨ k = 3 := by omega
        have hbn : Boxed wr w.heap.size 3 (.int .i64 (E : Nat)) := (HR.out.block (k := w.heap.size) (by have := B5.out.size; have := H3.out.lt; simp; omega) (by have := B5.out.size; have := H3.out.lt; omega) (by simp [Value.ownBlock])).trans ((Boxed.alloc (show Boxed W5 w.heap.size 3 (.int .i64 (E : Nat)) from (B5.out.block _ H3.out.lt).trans H3.out) _))
        have hc := hbn.cell
        have HBN := Lib.hid hbn
        clear hbn
        rcases hk0 with rfl | rfl | rfl | rfl
        · have hb : (((UInt8.ofNat (E % 256)).toNat : Nat) : Int) = (E : Int) % 256 := by rw [ofNat_lt (by omega)]; omega
          have RB := Lib.hid (rbyteW HR.out (UInt8.ofNat (E % 256)) (by rw [List.length_append, List.length_append, List.length_append, List.length_take, show (strOf (crcTail x.data.toList)).data.toList.length = 4 from rfl, List.length_nil]; omega))
          rw [hb] at RB
          gi_wp2_with (refine ⟨trivial, ?_⟩; gi_at_call 41; (with_reducible refine (callsIn_wide.2 RB.out).mono ?_); rintro e W10 ⟨rfl, hr⟩; have R4 := Lib.hid hr; clear hr)
          go_roundw
          case rel => exact ⟨0+1, by omega, by go_num, by have h := R4.out; simpa [bytes4] using h⟩
          case measure => simp [intOf]; try omega
        · have hb : (((UInt8.ofNat (E / 256 % 256)).toNat : Nat) : Int) = (E : Int) / 256 % 256 := by rw [ofNat_lt (by omega)]; omega
          have RB := Lib.hid (rbyteW HR.out (UInt8.ofNat (E / 256 % 256)) (by rw [List.length_append, List.length_append, List.length_append, List.length_take, show (strOf (crcTail x.data.toList)).data.toList.length = 4 from rfl, List.length_nil]; omega))
          rw [hb] at RB
          gi_wp2_with (refine ⟨trivial, ?_⟩; gi_at_call 41; (with_reducible refine (callsIn_wide.2 RB.out).mono ?_); rintro e W10 ⟨rfl, hr⟩; have R4 := Lib.hid hr; clear hr)
          go_roundw
          case rel => exact ⟨1+1, by omega, by go_num, by have h := R4.out; simpa [bytes4] using h⟩
          case measure => simp [intOf]; try omega
        · have hb : (((UInt8.ofNat (E / 65536 % 256)).toNat : Nat) : Int) = (E : Int) / 65536 := by rw [ofNat_lt (by omega)]; omega
          have RB := Lib.hid (rbyteW HR.out (UInt8.ofNat (E / 65536 % 256)) (by rw [List.length_append, List.length_append, List.length_append, List.length_take, show (strOf (crcTail x.data.toList)).data.toList.length = 4 from rfl, List.length_nil]; omega))
          rw [hb] at RB
          gi_wp2_with (refine ⟨trivial, ?_⟩; gi_at_call 41; (with_reducible refine (callsIn_wide.2 RB.out).mono ?_); rintro e W10 ⟨rfl, hr⟩; have R4 := Lib.hid hr; clear hr)
          go_roundw
          case rel => exact ⟨2+1, by omega, by go_num, by have h := R4.out; simpa [bytes4] using h⟩
          case measure => simp [intOf]; try omega
        · have hb : (((UInt8.ofNat (E / 16777216 % 256)).toNat : Nat) : Int) = (E : Int) / 16777216 := by rw [ofNat_lt (by omega)]; omega
          have RB := Lib.hid (rbyteW HR.out (UInt8.ofNat (E / 16777216 % 256)) (by rw [List.length_append, List.length_append, List.length_append, List.length_take, show (strOf (crcTail x.data.toList)).data.toList.length = 4 from rfl, List.length_nil]; omega))
          rw [hb] at RB
          gi_wp2_with (refine ⟨trivial, ?_⟩; gi_at_call 41; (with_reducible refine (callsIn_wide.2 RB.out).mono ?_); rintro e W10 ⟨rfl, hr⟩; have R4 := Lib.hid hr; clear hr)
          go_roundw
          case rel => exact ⟨3+1, by omega, by go_num, by have h := R4.out; simpa [bytes4] using h⟩
          case measure => simp [intOf]; try omega
      · obtain rfl : k = 4 := by omega
        have R5 := Lib.hid (rrawW HR.out ⟨#[69, 78, 68, 46]⟩ (by rw [List.length_append, List.length_append, List.length_append, List.length_take, show (strOf (crcTail x.data.toList)).data.toList.length = 4 from rfl, List.length_nil]; show _ + 4 ≤ _; omega))
        have hfin : ([] ++ x.data.toList ++ (strOf (crcTail x.data.toList)).data.toList ++ (bytes4 E).take 4 ++ (⟨#[69, 78, 68, 46]⟩ : ByteArray).data.toList) = ci ++ crcTail ci ++ bytes4 E ++ endL := by rw [HX.out]; rfl
        rw [hfin] at R5
        clear hfin HR
        gi_wp2_with (first | (refine ⟨trivial, ?_⟩; gi_at_call 42; (with_reducible refine (callsIn_wide.2 R5.out).mono ?_); rintro e W11 ⟨rfl, hr⟩; have R6 := Lib.hid hr; clear hr) | (refine ⟨trivial, ?_⟩; gi_at_call 35; refine (callsIn_wide.2 (rbytesW R6.out)).mono ?_; rintro e W12 ⟨rfl, rfl⟩))
        have hDl := (Array.getElem?_eq_some_iff.1 HK.out).1
        have hW5 := B5.out.size
        have hwn := WrAt.new W5 W5.heap.size (Nat.le_refl _)
        have hbe : Below w.heap.size w W11 := HB.out.trans ((B5.out.mono hzW).trans ((((Below.refl _ W5).alloc (Nat.le_refl _) (.cells #[.slice none 0 0] 65)).mono (Nat.le_trans hzW hW5)).trans ((R6.out.under hwn).mono (Nat.le_trans hzW hW5))))
        have hK' : W11.heap[D]? = some (.deferred (some [])) := (R6.out.block (k := D) (by simp; omega) (by omega) (by simp [Value.ownBlock])).trans ((Below.heap_alloc _ _ _ (by omega)).trans ((B5.out.block D hDl).trans HK.out))
        refine ⟨by simp, .inl ⟨_, _, rfl, run_takeDeferred hK', ?_⟩⟩
        exact ⟨_, results_tmp rfl _ _ _, by have h := HR'.out.trans HE.out; simp only [List.append_assoc] at h; exact congrArg (fun x => Ending.returned (.string x)) h.symm, hbe.trans (belowK_b (w := w) (Nat.le_refl _) W11 D _ _ (by simp at hD; omega) hK' rfl rfl)⟩
theorem cbehind_any (pa : Option Addr) (c : Nat) (L : List Sec) (w : World) (hL : SecsAt w pa L) (hs : cSum L ≤ 1100000) :
    Calls Try.prog 24 #[.slice pa L.length c] w fun e w' => e = .returned (.string (bStr (cBehind L))) ∧ Below w.heap.size w w' := callsIn_wide.1 (cbehind_in pa c L w hL hs)
end Go.Proofs.Ytanbifhhoeaofaa

