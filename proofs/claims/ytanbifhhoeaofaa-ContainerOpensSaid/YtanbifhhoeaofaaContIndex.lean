/- Index: the walk. No conditions. -/
import Derived.Test.YtanbifhhoeaofaaContIndex0
import Derived.Test.YtanbifhhoeaofaaInv
namespace Go.Proofs.Ytanbifhhoeaofaa
set_option linter.unusedVariables false
open Go Go.RowKit Go.Shelf
attribute [local go_sem] Oper.semAt_some

theorem callsIn_round {n l : Nat} {P : Program} {f : FuncId} {args : Array Value} {w : World} {R : Ending → World → Prop} (h : Calls P f args w R) : CallsIn (Fence.wide.inRound l) n P f args w R := (callsIn_wide (n := n)).2 h
/-- what the rounds of Index keep -/
def IdxI (w0 : World) (n Wb : Nat) (bv : Value) (l0 : List UInt8) (pre : List (Nat × Sec)) (W : World) : Prop :=
  (∃ v, WrAt W n n v (l0 ++ (pre.map secP).flatten)) ∧ Below n w0 W ∧ Boxed W Wb 46 (.pointer (some ⟨n, 0, none⟩)) ∧ Boxed W (Wb + 1) 22 bv
theorem IdxI.own {w0 : World} {n Wb B : Nat} {bv : Value} {l0 : List UInt8} (hB : n ≤ B) (hn : n = w0.heap.size) : OwnFrom B (IdxI w0 n Wb bv l0) := by
  rintro s W W' row ⟨⟨v, h1⟩, h2, h3, h4⟩ hg hr
  have hc : CellsOn W W' := CellsOn.grown hg fun r e => (hr r e).2
  exact ⟨⟨v, h1.on hc⟩, ownFrom_below (β := Unit) (by omega) hB () W W' row h2 hg hr, hc _ _ h3 rfl, hc _ _ h4 rfl⟩
theorem IdxI.later {w0 : World} {n Wb : Nat} {bv : Value} {l0 : List UInt8} (hn : n = w0.heap.size) {pre : List (Nat × Sec)} {W W' : World} (h : IdxI w0 n Wb bv l0 pre W) (hb : Below W.heap.size W W') : IdxI w0 n Wb bv l0 pre W' := by
  obtain ⟨⟨v, h1⟩, h2, h3, h4⟩ := h
  exact ⟨⟨v, h1.later hb⟩, h2.trans (hb.mono (by have := h2.size; omega)), (hb.block _ h3.lt).trans h3, (hb.block _ h4.lt).trans h4⟩
set_option maxRecDepth 100000 in
set_option maxHeartbeats 4000000 in
theorem cindex_in (pa : Option Addr) (c : Nat) (L : List Sec) (w : World) (hL : SecsAt w pa L) (hs : cSum L ≤ 1100000) :
    CallsIn Fence.wide 2 Try.prog 14 #[.slice pa L.length c] w fun e w' => e = .returned (.string (bStr (cIndex L))) ∧ Below w.heap.size w w' := by
  have hm : L.length ≤ 100000000 := by have := data_le_cSum L; omega
  refine callsIn_of_wp_marks Try.func14 rfl trivial ?_ rfl
  simp only [Try.ntmps14, List.size_toArray, List.length_cons, List.length_nil, Nat.reduceAdd, Nat.reduceSub, Array.replicate_succ, Array.replicate_zero, List.push_toArray, List.append_toArray, List.nil_append, List.cons_append]
  have hw0 : IntKind.u64.wrap (L.length : Int) = (L.length : Int) := by rw [IntKind.wrap_u64]; omega
  gi_wp2_with (first | (refine ⟨trivial, ?_⟩; gi_at_call 32; refine (callsIn_wide.2 (wnew_any _)).mono ?_; rintro e w1 ⟨rfl, rfl⟩) | (refine ⟨trivial, ?_⟩; gi_at_call 33; refine (callsIn_wide.2 (rnumW (WrR.new (WrAt.new w w.heap.size (Nat.le_refl _))) L.length (by unfold U64; omega) (by simp))).mono ?_; rintro e w2 ⟨rfl, hR2⟩) | (refine ⟨trivial, ?_⟩; gi_at_call 34; refine (places_in _ _ _ _ _).mono ?_; rintro e w3 ⟨rfl, rfl⟩))
  have HL := Lib.hid hL
  have HR2 := Lib.hid hR2
  have hbW : Below w.heap.size w w2 := ((Below.refl _ w).alloc (Nat.le_refl _) _).trans (hR2.under (WrAt.new w w.heap.size (Nat.le_refl _)))
  have hbV : Below w.heap.size w ((w2.alloc (.cells #[.pointer (some ⟨w.heap.size, 0, none⟩)] 46)).alloc (.cells #[.slice pa L.length c] 22)) := (hbW.alloc hbW.size _).alloc (by have := hbW.size; simp; omega) _
  have hbx : Boxed ((w2.alloc (.cells #[.pointer (some ⟨w.heap.size, 0, none⟩)] 46)).alloc (.cells #[.slice pa L.length c] 22)) (w2.heap.size + 1) 22 (.slice pa L.length c) := by
    have := Boxed.new (w2.alloc (.cells #[.pointer (some ⟨w.heap.size, 0, none⟩)] 46)) 22 (.slice pa L.length c)
    rw [World.size_alloc] at this; exact this
  have hI0 : IdxI w w.heap.size w2.heap.size (.slice pa L.length c) (lebL L.length) [] ((w2.alloc (.cells #[.pointer (some ⟨w.heap.size, 0, none⟩)] 46)).alloc (.cells #[.slice pa L.length c] 22)) := by
    obtain ⟨v, h1, _, _⟩ := hR2
    refine ⟨⟨v, ?_⟩, hbV, (Boxed.new w2 _ _).alloc _, hbx⟩
    have h2 := (h1.later ((Below.refl _ w2).alloc (Nat.le_refl _) (.cells #[.pointer (some ⟨w.heap.size, 0, none⟩)] 46)))
    have h3 := h2.later ((Below.refl _ _).alloc (Nat.le_refl _) (.cells #[.slice pa L.length c] 22))
    simpa using h3
  refine rangeKeep (gf := 47) (n0 := w.heap.size) (Bn := w2.heap.size + 1) (lb := #[.pointer (some ⟨w2.heap.size + 1, 0, none⟩)]) rfl (enters_of Try.func47 (by kernel_rfl) rfl)
    (places_seq _ _ _ pa c L w _ hbx rfl hbV hL (by omega)) (by simp) hbV.size (fun _ => rfl)
    (IdxI w w.heap.size w2.heap.size (.slice pa L.length c) (lebL L.length)) (IdxI.own hbV.size rfl) (fun pre W W' h hb => h.later rfl hb) hI0
    (fun W p => { tmps := #[.slice pa L.length c, undef, .string ⟨#[]⟩, .pointer (some ⟨w2.heap.size, 0, none⟩), .int .i64 p.1, .pointer (some ⟨W.heap.size, 0, none⟩), .pointer (some ⟨w.heap.size, 0, none⟩), .slice pa L.length c, .int .i64 L.length, .int .u64 L.length, .pointer (some ⟨w.heap.size, 0, none⟩), .slice pa L.length c, .func (.func 47) #[] #[.pointer (some ⟨w2.heap.size + 1, 0, none⟩)], .int .i64 p.1, secV p.2, undef, undef, undef, undef, undef, undef, undef, undef, undef, undef, undef, undef, undef, undef], defers := [] })
    (fun W p => W.alloc (.cells #[.int .i64 p.2.1, .string p.2.2] 36)) (fun W p => (Below.refl _ W).alloc (Nat.le_refl _) _) ?assign ?body ?done
  case assign =>
    intro l x W K hK
    obtain ⟨at', ty, d⟩ := x
    unfold secV at hK
    simp only at hK
    unfold encP secV
    gi_wp2
    first | exact hK | simpa using hK
  case body =>
    rintro l pre ⟨at', ty, d⟩ W0 W W2 ⟨⟨v0, hw0'⟩, hI1, hI2, hI3⟩ hpre hsz hloop honly hsW hWx hzx
    have hcon : CellsOn W0 W2 := CellsOn.only honly hloop
    have hx : W2.heap[W.heap.size]? = some (.cells #[.int .i64 ty, .string d] 36) := (hWx _ (Nat.le_refl _)).trans (heap_alloc_new W _)
    have hwr := hw0'.on hcon
    have hbb : Boxed W2 w2.heap.size 46 (.pointer (some ⟨w.heap.size, 0, none⟩)) := hcon _ _ hI2 rfl
    have hbn : Boxed W2 (w2.heap.size + 1) 22 (.slice pa L.length c) := hcon _ _ hI3 rfl
    have hxl := (Array.getElem?_eq_some_iff.1 hx).1
    have hnv : some w2.heap.size ≠ v0.ownBlock := hbb.not_row (by decide) hwr.row
    have hnb : some (w2.heap.size + 1) ≠ v0.ownBlock := hbn.not_row (by decide) hwr.row
    have hvl : ∀ k, W0.heap.size ≤ k → some k ≠ v0.ownBlock := fun k hk e => by have := (hw0'.row.lt k e.symm).2; omega
    have hn2 : w.heap.size < w2.heap.size := by have := hR2.size; rw [World.size_alloc] at this; exact this
    have hz2 : (w2.alloc (.cells #[.pointer (some ⟨w.heap.size, 0, none⟩)] 46)).heap.size = w2.heap.size + 1 := World.size_alloc ..
    have hz3 : ((w2.alloc (.cells #[.pointer (some ⟨w.heap.size, 0, none⟩)] 46)).alloc (.cells #[.slice pa L.length c] 22)).heap.size = w2.heap.size + 1 + 1 := by rw [World.size_alloc, hz2]
    rw [hz3] at hsz honly
    have KB := Lib.hid (fun (l' : List UInt8) (W' : World) (h : WrR W2 w.heap.size v0 l' W') => show W'.cell? ⟨w2.heap.size, 0, none⟩ = some (.pointer (some ⟨w.heap.size, 0, none⟩)) ∧ W'.cell? ⟨W.heap.size, 0, none⟩ = some (.int .i64 ty) ∧ W'.cell? ⟨W.heap.size, 1, none⟩ = some (.string d) from by
      have e1 := h.block (k := w2.heap.size) hbb.lt (by omega) hnv
      have e2 := h.block (k := W.heap.size) hxl (by omega) (hvl _ hsW)
      have b1 : Boxed W' w2.heap.size 46 (.pointer (some ⟨w.heap.size, 0, none⟩)) := e1.trans hbb
      refine ⟨b1.cell, ?_, ?_⟩
      · unfold World.cell?; rw [e2, hx]; rfl
      · unfold World.cell?; rw [e2, hx]; rfl)
    have hmem : (at', (ty, d)) ∈ placesL 7 L := hpre.subset (List.mem_append.2 (.inr (List.mem_singleton.2 rfl)))
    have hpl := placesL_le _ hmem
    simp only at hpl
    have hdl : d.size ≤ 1000000000 := by have : d.size ≤ cSize (ty, d) := by { unfold cSize; simp only; omega }; omega
    have hpl2 := pre_len (L := L) (by omega) ((List.prefix_append pre [(at', (ty, d))]).trans hpre)
    have hlen : L.length ≤ 220000 := by have := data_le_cSum L; omega
    have FIN := Lib.hid (fun (W' : World) (h : WrR W2 w.heap.size v0 (lebL L.length ++ (pre.map secP).flatten ++ lebL (u64I ty) ++ lebL at' ++ lebL (cSize (ty, d))) W') => show KeepsOthers W2 W' ∧ Kept w.heap.size (w2.heap.size + 1) W2 W' ∧ KeptIn W0.heap.size W.heap.size W2 W' ∧ IdxI w w.heap.size w2.heap.size (.slice pa L.length c) (lebL L.length) (pre ++ [(at', (ty, d))]) W' from by
      have hu := h.under hwr
      refine ⟨h.others hwr, ⟨hu, h.block hbn.lt (by omega) hnb⟩, fun k h1 h2 => h.block (by omega) (by omega) (hvl k h1), ?_, ?_, ?_, ?_⟩
      · obtain ⟨v, k1, _, _⟩ := h
        refine ⟨v, ?_⟩
        rw [List.map_append, List.flatten_append]
        simpa [secP, List.append_assoc] using k1
      · exact (hI1.trans (honly.below (by omega) (by omega))).trans hu
      · exact (h.block hbb.lt (by omega) hnv).trans hbb
      · exact (h.block hbn.lt (by omega) hnb).trans hbn)
    have hA := (WrR.new hwr).drew
    have HU := Lib.hid (u64I_u64 ty)
    have hw1 : IntKind.u64.wrap ty = ((u64I ty : Nat) : Int) := by rw [IntKind.wrap_u64]; unfold u64I; omega
    have hw2 : IntKind.u64.wrap (at' : Int) = (at' : Int) := by rw [IntKind.wrap_u64]; omega
    have CZ := Lib.hid (fun V => csize_any (ty, d) V hdl)
    have hw3 : IntKind.u64.wrap ((cSize (ty, d) : Nat) : Int) = ((cSize (ty, d) : Nat) : Int) := by rw [IntKind.wrap_u64]; omega
    have hua : U64 at' := by unfold U64; omega
    have huz : U64 (cSize (ty, d)) := by unfold U64; omega
    have l1 := lebL_len HU.out
    have l2 := lebL_len hua
    have HL1 := Lib.hid (show (lebL L.length ++ (pre.map secP).flatten).length ≤ 10000000 by omega)
    have HL2 := Lib.hid (show (lebL L.length ++ (pre.map secP).flatten ++ lebL (u64I ty)).length ≤ 10000000 by rw [List.length_append]; omega)
    have HL3 := Lib.hid (show (lebL L.length ++ (pre.map secP).flatten ++ lebL (u64I ty) ++ lebL at').length ≤ 10000000 by rw [List.length_append, List.length_append]; omega)
    have HUA := Lib.hid hua
    have HUZ := Lib.hid huz
    generalize lebL L.length ++ (pre.map secP).flatten = l0 at *
    generalize cSize (ty, d) = z at *
    generalize u64I ty = q at *
    obtain ⟨c0, c1, c2⟩ := KB.out _ _ hA
    unfold secV at CZ ⊢
    simp only at CZ ⊢
    generalize w2.heap.size = Wb at *
    generalize W.heap.size = X at *
    clear hcon hx hwr hbb hbn hxl hnv hnb hvl hn2 hz2 hz3 hmem hpl hdl hpl2 hlen l1 l2 hua huz hI1 hI2 hI3 hw0' hpre hsz hloop honly hsW hWx hzx hbW hbV hbx hI0 hL HL HR2 hR2 hw0 hm hs
    gi_wp2
    refine wpIn_region_st (by kernel_rfl) (fun i => match i with
      | 0 => .pointer (some ⟨w.heap.size, 0, none⟩) | 1 => .pointer (some ⟨X, 0, none⟩) | 2 => .int .i64 ty | 3 => .int .u64 q | 4 => .pointer (some ⟨w.heap.size, 0, none⟩) | 5 => .int .i64 at' | 6 => .int .u64 at' | 7 => .pointer (some ⟨w.heap.size, 0, none⟩)
      | 8 => .agg #[.int .i64 ty, .string d] | 9 => .int .i64 z | 10 => .int .u64 z | 11 => .pointer (some ⟨w.heap.size, 0, none⟩) | _ => undef)
      (fun D V => WrR W2 w.heap.size v0 (l0 ++ (if D 4 then lebL q else []) ++ (if D 7 then lebL at' else []) ++ (if D 11 then lebL z else [])) V) rfl (by simpa using hA) ⟨?o0, ?o1, ?o2, ?o3, ?o4, ?o5, ?o6, ?o7, ?o8, ?o9, ?o10, ?o11, trivial⟩ ?fin
    case o0 =>
      intro D a V hD hdep hcl hav hws
      refine ⟨rfl, ?_⟩
      rw [Fence.inRound_round, Oper.semAt_some _ _ _ (fun c => by simp)]
      have e3 : a.tmps[3]? = some (.pointer (some ⟨Wb, 0, none⟩)) := hav.oldAt 3 rfl
      obtain ⟨c0, c1, c2⟩ := KB.out _ _ hws
      simpa [go_sem, updD, e3, c0] using hws
    case o1 =>
      intro D a V hD hdep hcl hav hws
      refine ⟨rfl, ?_⟩
      rw [Fence.inRound_round, Oper.semAt_some _ _ _ (fun c => by simp)]
      have e5 : a.tmps[5]? = some (.pointer (some ⟨X, 0, none⟩)) := hav.oldAt 5 rfl
      simpa [go_sem, updD, e5] using hws
    case o2 =>
      intro D a V hD hdep hcl hav hws
      refine ⟨rfl, ?_⟩
      rw [Fence.inRound_round, Oper.semAt_some _ _ _ (fun c => by simp)]
      have d1 : D 1 = true := hdep ⟨1, .data⟩ (by simp) rfl
      have e16 : a.tmps[16]? = some (.pointer (some ⟨X, 0, none⟩)) := hav.val 1 _ 16 rfl rfl d1
      obtain ⟨c0, c1, c2⟩ := KB.out _ _ hws
      simpa [go_sem, updD, e16, c1] using hws
    case o3 =>
      intro D a V hD hdep hcl hav hws
      refine ⟨rfl, ?_⟩
      rw [Fence.inRound_round, Oper.semAt_some _ _ _ (fun c => by simp)]
      have d2 : D 2 = true := hdep ⟨2, .data⟩ (by simp) rfl
      have e17 : a.tmps[17]? = some (.int .i64 ty) := hav.val 2 _ 17 rfl rfl d2
      simpa [go_sem, updD, e17, hw1] using hws
    case o4 =>
      intro D a V hD hdep hcl hav hws
      refine ⟨rfl, ?_⟩
      rw [Fence.inRound_round, Oper.semAt_some _ _ _ (fun c => by simp)]
      have d0 : D 0 = true := hdep ⟨0, .data⟩ (by simp) rfl
      have d3 : D 3 = true := hdep ⟨3, .data⟩ (by simp) rfl
      have e15 : a.tmps[15]? = some (.pointer (some ⟨w.heap.size, 0, none⟩)) := hav.val 0 _ 15 rfl rfl d0
      have e18 : a.tmps[18]? = some (.int .u64 q) := hav.val 3 _ 18 rfl rfl d3
      have d7 := hcl.not (j := 7) hD rfl ⟨4, .data⟩ (by simp) rfl rfl
      have d11 := hcl.not (j := 11) d7 rfl ⟨7, .data⟩ (by simp) rfl rfl
      rw [hD, d7, d11] at hws
      simp only [Bool.false_eq_true, if_false, List.append_nil] at hws
      simp [go_sem, e15, e18]
      refine ⟨rfl, (callsIn_round (rnumW hws q HU.out HL1.out)).mono ?_⟩
      rintro e V' ⟨rfl, hR⟩
      simpa [updD, d7, d11] using hR
    case o5 =>
      intro D a V hD hdep hcl hav hws
      refine ⟨rfl, ?_⟩
      rw [Fence.inRound_round, Oper.semAt_some _ _ _ (fun c => by simp)]
      have e4 : a.tmps[4]? = some (.int .i64 at') := hav.oldAt 4 rfl
      simpa [go_sem, updD, e4] using hws
    case o6 =>
      intro D a V hD hdep hcl hav hws
      refine ⟨rfl, ?_⟩
      rw [Fence.inRound_round, Oper.semAt_some _ _ _ (fun c => by simp)]
      have d5 : D 5 = true := hdep ⟨5, .data⟩ (by simp) rfl
      have e20 : a.tmps[20]? = some (.int .i64 at') := hav.val 5 _ 20 rfl rfl d5
      simpa [go_sem, updD, e20, hw2] using hws
    case o7 =>
      intro D a V hD hdep hcl hav hws
      refine ⟨rfl, ?_⟩
      rw [Fence.inRound_round, Oper.semAt_some _ _ _ (fun c => by simp)]
      have d4 : D 4 = true := hdep ⟨4, .data⟩ (by simp) rfl
      have d6 : D 6 = true := hdep ⟨6, .data⟩ (by simp) rfl
      have e19 : a.tmps[19]? = some (.pointer (some ⟨w.heap.size, 0, none⟩)) := hav.val 4 _ 19 rfl rfl d4
      have e21 : a.tmps[21]? = some (.int .u64 at') := hav.val 6 _ 21 rfl rfl d6
      have d11 := hcl.not (j := 11) hD rfl ⟨7, .data⟩ (by simp) rfl rfl
      rw [d4, hD, d11] at hws
      simp only [Bool.false_eq_true, if_false, if_true, List.append_nil] at hws
      simp [go_sem, e19, e21]
      refine ⟨rfl, (callsIn_round (rnumW hws at' HUA.out HL2.out)).mono ?_⟩
      rintro e V' ⟨rfl, hR⟩
      simpa [updD, d4, d11] using hR
    case o8 =>
      intro D a V hD hdep hcl hav hws
      refine ⟨rfl, ?_⟩
      rw [Fence.inRound_round, Oper.semAt_some _ _ _ (fun c => by simp)]
      have e5 : a.tmps[5]? = some (.pointer (some ⟨X, 0, none⟩)) := hav.oldAt 5 rfl
      obtain ⟨c0, c1, c2⟩ := KB.out _ _ hws
      simpa [go_sem, updD, e5, c1, c2] using hws
    case o9 =>
      intro D a V hD hdep hcl hav hws
      refine ⟨rfl, ?_⟩
      rw [Fence.inRound_round, Oper.semAt_some _ _ _ (fun c => by simp)]
      have d8 : D 8 = true := hdep ⟨8, .data⟩ (by simp) rfl
      have e23 : a.tmps[23]? = some (.agg #[.int .i64 ty, .string d]) := hav.val 8 _ 23 rfl rfl d8
      simp [go_sem, e23]
      refine ⟨rfl, (callsIn_round (CZ.out _)).mono ?_⟩
      rintro e V' ⟨rfl, hb⟩
      simpa [updD] using hws.later hb
    case o10 =>
      intro D a V hD hdep hcl hav hws
      refine ⟨rfl, ?_⟩
      rw [Fence.inRound_round, Oper.semAt_some _ _ _ (fun c => by simp)]
      have d9 : D 9 = true := hdep ⟨9, .data⟩ (by simp) rfl
      have e24 : a.tmps[24]? = some (.int .i64 z) := hav.val 9 _ 24 rfl rfl d9
      simpa [go_sem, updD, e24, hw3] using hws
    case o11 =>
      intro D a V hD hdep hcl hav hws
      refine ⟨rfl, ?_⟩
      rw [Fence.inRound_round, Oper.semAt_some _ _ _ (fun c => by simp)]
      have d7 : D 7 = true := hdep ⟨7, .data⟩ (by simp) rfl
      have d10 : D 10 = true := hdep ⟨10, .data⟩ (by simp) rfl
      have e22 : a.tmps[22]? = some (.pointer (some ⟨w.heap.size, 0, none⟩)) := hav.val 7 _ 22 rfl rfl d7
      have e25 : a.tmps[25]? = some (.int .u64 z) := hav.val 10 _ 25 rfl rfl d10
      have d4 : D 4 = true := hcl 7 _ rfl d7 ⟨4, .data⟩ (by simp) rfl
      rw [d4, d7, hD] at hws
      simp only [Bool.false_eq_true, if_false, if_true, List.append_nil] at hws
      simp [go_sem, e22, e25]
      refine ⟨rfl, (callsIn_round (rnumW hws z HUZ.out HL3.out)).mono ?_⟩
      rintro e V' ⟨rfl, hR⟩
      simpa [updD, d4, d7] using hR
    case fin =>
      intro a V hav hws
      simp only [List.length_cons, List.length_nil, Nat.reduceAdd, Nat.reduceLT, decide_true, if_true] at hws
      exact FIN.out _ hws
  case done =>
    rintro D W hD ⟨⟨v, h1⟩, h2, h3, h4⟩ hK
    have hc := h3.cell
    have H1 := Lib.hid h1
    clear h1 h4 hbx hbV hbW hI0
    gi_wp2_with (refine ⟨trivial, ?_⟩; gi_at_call 35; refine (callsIn_wide.2 (wbytes_any _ _ _ _ _ H1.out)).mono ?_; rintro e w5 ⟨rfl, rfl⟩)
    refine ⟨by simp, .inl ⟨_, _, rfl, run_takeDeferred hK, ?_⟩⟩
    exact ⟨_, results_tmp rfl _ _ _, rfl, h2.trans (belowK_b (w := w) (Nat.le_refl _) W D _ _ (by have := hR2.size; simp at this hD; omega) hK rfl rfl)⟩
theorem cindex_any (pa : Option Addr) (c : Nat) (L : List Sec) (w : World) (hL : SecsAt w pa L) (hs : cSum L ≤ 1100000) :
    Calls Try.prog 14 #[.slice pa L.length c] w fun e w' => e = .returned (.string (bStr (cIndex L))) ∧ Below w.heap.size w w' := callsIn_wide.1 (cindex_in pa c L w hL hs)
end Go.Proofs.Ytanbifhhoeaofaa

