/- The document's Index: the walk. No conditions. -/
import Derived.Test.YtanbifhhoeaofaaContRef2
import Derived.Test.YtanbifhhoeaofaaInv
namespace Go.Proofs.Ytanbifhhoeaofaa
set_option linter.unusedVariables false
open Go Go.RowKit

theorem leb_l (m : Nat) : (lebStr m).data.toList = lebL m := rfl
theorem AV.oldIf {ops : Array Oper} {a0 a : Act} {V : Nat → Value} {D : Nat → Bool} (h : AV ops a0 V D a) (t j : Nat) (hj : D j = false) (ht : (List.range ops.size).all (fun i => i == j || match ops[i]? with | some o => o.dst != some t | none => true) = true) : a.tmps[t]? = a0.tmps[t]? :=
  h.old t fun i o ho hD e => by
    rw [List.all_eq_true] at ht
    have := ht i (List.mem_range.2 (Array.getElem?_eq_some_iff.1 ho).1)
    rw [ho] at this
    simp only [e] at this
    by_cases hij : i = j
    · subst hij; rw [hj] at hD; cases hD
    · simp [hij] at this
set_option maxRecDepth 100000 in
set_option maxHeartbeats 8000000 in
theorem rindex_any (pa : Option Addr) (c : Nat) (L : List Sec) (w : World) (hL : SecsAt w pa L) (hs : cSum L ≤ 1100000) :
    Calls Try.prog 15 #[.slice pa L.length c] w fun e w' => e = .returned (.string (bStr (cIndex L))) ∧ Below w.heap.size w w' := by
  have hlen : L.length ≤ 220000 := by have := data_le_cSum L; omega
  have SE := Lib.hid (fun W (h : Below w.heap.size w W) => hL.below h (Nat.le_refl _))
  have HP := Lib.hid (fun k x h => placesL_take L (k := k) (x := x) h)
  have HA := Lib.hid (placesL_all L)
  have HT := Lib.hid (fun k x h => cSum_snoc (L := L) (k := k) (x := x) h)
  have HU2 := Lib.hid (cSum_take_le L)
  have HZ := Lib.hid (fun (k : Nat) (x : Sec) (h : L[k]? = some x) => show x.2.size ≤ 1000000000 by have := dSum_mem (List.mem_of_getElem? h); have := data_le_cSum L; omega)
  have HAT := Lib.hid (fun k (h : k < L.length) => sec_at (A := L) h)
  have HPL := Lib.hid (fun k => pre_len (L := L) (by omega) (List.take_prefix k (placesL 7 L)))
  have HD : Hid (bStr (lebL L.length ++ (((placesL 7 L).take L.length).map secP).flatten) = bStr (cIndex L)) := Lib.hid (by rw [placesL_all]; rfl)
  have HNL := Lib.hid (show lebStr L.length = bStr (lebL L.length ++ (((placesL 7 L).take 0).map secP).flatten) by simp [bStr_leb])
  have hul : U64 L.length := by unfold U64; omega
  have PL := Lib.hid (fun W => rput_any L.length hul W)
  have hwl : IntKind.u64.wrap (L.length : Int) = (L.length : Int) := by rw [IntKind.wrap_u64]; omega
  generalize bStr (cIndex L) = R at HD ⊢
  clear hul hL
  go_enter Try.func15, Try.ntmps15
  go_wp2_with fail
  refine (PL.out w).mono ?_
  rintro e w1 ⟨rfl, hb⟩
  have B1 := Lib.hid hb
  rw [HNL.out]
  clear hb HNL
  generalize hln : lebL L.length = ll at HPL HD ⊢
  have HLN := Lib.hid hln
  generalize L.length = n at *
  clear hln
  go_wp2_with fail
  go_loopw [3, 4, 5] (fun s a i wr => ∃ k : Nat, k ≤ n ∧ i = .int .i64 k ∧ a = .int .i64 (7 + cSum (L.take k) : Nat) ∧ s = .string (bStr (ll ++ (((placesL 7 L).take k).map secP).flatten)) ∧ Below w.heap.size w wr) (fun _ _ i _ => n - (intOf i).toNat)
  case atStart => exact ⟨0, by omega, rfl, rfl, by first | rfl | simp, B1.out⟩
  case round =>
    obtain ⟨k, hk, rfl, rfl, rfl, hB⟩ := hrel
    have HB := Lib.hid hB
    have hzz := hB.size
    clear hB B1
    by_cases hlt : k < n
    · obtain ⟨x, hx⟩ := HAT.out k hlt
      obtain ⟨b, off, hp, hbb, c0, c1⟩ := (SE.out wr HB.out).at hx
      have HS1 := Lib.hid (HT.out k x hx)
      have hu := HU2.out (k + 1)
      rw [HS1.out] at hu
      have hz := HZ.out k x hx
      have hpl := HPL.out k
      have hpk := HP.out k x hx
      have HSN := Lib.hid (show bStr (ll ++ (((placesL 7 L).take (k + 1)).map secP).flatten) = bStr (ll ++ (((placesL 7 L).take k).map secP).flatten) ++ lebStr (u64I x.1) ++ lebStr (7 + cSum (L.take k)) ++ lebStr (cSize x) by
        rw [hpk]
        apply ba_ext
        simp only [bStr_l, app_l, List.map_append, List.flatten_append, List.map_cons, List.map_nil, List.flatten_cons, List.flatten_nil, List.append_nil, List.append_assoc, leb_l, secP])
      obtain ⟨ty, d⟩ := x
      simp only at c0 c1 hz HSN
      subst hp
      have CZ := Lib.hid (fun W => rcsize_any (ty, d) W hz)
      unfold secV at CZ
      simp only at CZ
      have hsl : (bStr (ll ++ (((placesL 7 L).take k).map secP).flatten)).size ≤ 6700000 := by rw [bStr_size]; omega
      have HU := Lib.hid (u64I_u64 ty)
      have hw1 : IntKind.u64.wrap ty = ((u64I ty : Nat) : Int) := by rw [IntKind.wrap_u64]; unfold u64I; omega
      generalize cSum (L.take k) = p at *
      generalize bStr (ll ++ (((placesL 7 L).take k).map secP).flatten) = S at *
      generalize cSize (ty, d) = z at *
      generalize u64I ty = q at *
      obtain ⟨at', hat⟩ : ∃ a, 7 + p = a := ⟨_, rfl⟩
      rw [hat] at HSN ⊢
      have HATT := Lib.hid hat
      have hat2 : at' + z ≤ 1100007 := by omega
      have hw2 : IntKind.u64.wrap (at' : Int) = (at' : Int) := by rw [IntKind.wrap_u64]; omega
      have hw3 : IntKind.u64.wrap (z : Int) = (z : Int) := by rw [IntKind.wrap_u64]; omega
      have HUA := Lib.hid (show U64 at' by unfold U64; omega)
      have HUZ := Lib.hid (show U64 z by unfold U64; omega)
      have l1 : (lebStr q).size ≤ 10 := by rw [← bStr_leb, bStr_size]; exact lebL_len HU.out
      have l2 : (lebStr at').size ≤ 10 := by rw [← bStr_leb, bStr_size]; exact lebL_len HUA.out
      have l3 : (lebStr z).size ≤ 10 := by rw [← bStr_leb, bStr_size]; exact lebL_len HUZ.out
      have s1 : S.size + (lebStr q).size ≤ 9223372036854775807 := by omega
      have s2 : (S ++ lebStr q).size + (lebStr at').size ≤ 9223372036854775807 := by rw [ByteArray.size_append]; omega
      have s3 : (S ++ lebStr q ++ lebStr at').size + (lebStr z).size ≤ 9223372036854775807 := by rw [ByteArray.size_append, ByteArray.size_append]; omega
      have hkn : k < n := hlt
      have hkn2 : (k : Int) < n := by omega
      clear hx hu hpl hpk hat hz l1 l2 l3
      go_wp2_with fail
      refine wp_region_st (by kernel_rfl) (fun i => match i with | 0 => .string S | 1 => .slice (some ⟨b, off, none⟩) n c | 2 => .int .i64 k | 3 => .pointer (some ⟨b, off + k * 2, none⟩) | 4 => .pointer (some ⟨b, off + k * 2, none⟩) | 5 => .int .i64 ty | 6 => .int .u64 q | 7 => .string (lebStr q) | 8 => .string (S ++ lebStr q) | 9 => .int .i64 at' | 10 => .int .u64 at' | 11 => .string (lebStr at') | 12 => .string (S ++ lebStr q ++ lebStr at') | 13 => .slice (some ⟨b, off, none⟩) n c | 14 => .int .i64 k | 15 => .pointer (some ⟨b, off + k * 2, none⟩) | 16 => .agg #[.int .i64 ty, .string d] | 17 => .int .i64 z | 18 => .int .u64 z | 19 => .string (lebStr z) | 20 => .string (S ++ lebStr q ++ lebStr at' ++ lebStr z) | 21 => .string (S ++ lebStr q ++ lebStr at' ++ lebStr z) | _ => undef)
        (fun D V => Below wr.heap.size wr V) rfl ⟨rfl, rfl, rfl, Nat.le_refl _, fun _ _ => rfl⟩ ⟨?o0, ?o1, ?o2, ?o3, ?o4, ?o5, ?o6, ?o7, ?o8, ?o9, ?o10, ?o11, ?o12, ?o13, ?o14, ?o15, ?o16, ?o17, ?o18, ?o19, ?o20, ?o21, trivial⟩ ?fin
      case o0 =>
        intro D a' V hD hdep hcl hav hws
        refine ⟨rfl, ?_⟩
        have dn := hcl.not (j := 21) hD rfl ⟨0, .phase⟩ (by simp) rfl rfl
        have e3 : a'.tmps[3]? = some (.string S) := hav.oldIf 3 21 dn rfl
        unfold Oper.wp
        simpa [go_sem, updD, e3] using hws
      case o1 =>
        intro D a' V hD hdep hcl hav hws
        refine ⟨rfl, ?_⟩
        have e0 : a'.tmps[0]? = some (.slice (some ⟨b, off, none⟩) n c) := hav.oldAt 0 rfl
        unfold Oper.wp
        simpa [go_sem, updD, e0] using hws
      case o2 =>
        intro D a' V hD hdep hcl hav hws
        refine ⟨rfl, ?_⟩
        have e5 : a'.tmps[5]? = some (.int .i64 k) := hav.oldAt 5 rfl
        unfold Oper.wp
        simpa [go_sem, updD, e5] using hws
      case o3 =>
        intro D a' V hD hdep hcl hav hws
        refine ⟨rfl, ?_⟩
        have d1 : D 1 = true := hdep ⟨1, .data⟩ (by simp) rfl
        have e17 : a'.tmps[17]? = some (.slice (some ⟨b, off, none⟩) n c) := hav.val 1 _ 17 rfl rfl d1
        have d2 : D 2 = true := hdep ⟨2, .data⟩ (by simp) rfl
        have e18 : a'.tmps[18]? = some (.int .i64 k) := hav.val 2 _ 18 rfl rfl d2
        unfold Oper.wp
        simpa [go_sem, updD, e17, e18, hkn, hkn2] using hws
      case o4 =>
        intro D a' V hD hdep hcl hav hws
        refine ⟨rfl, ?_⟩
        have d3 : D 3 = true := hdep ⟨3, .data⟩ (by simp) rfl
        have e19 : a'.tmps[19]? = some (.pointer (some ⟨b, off + k * 2, none⟩)) := hav.val 3 _ 19 rfl rfl d3
        unfold Oper.wp
        simpa [go_sem, updD, e19] using hws
      case o5 =>
        intro D a' V hD hdep hcl hav hws
        refine ⟨rfl, ?_⟩
        have d4 : D 4 = true := hdep ⟨4, .data⟩ (by simp) rfl
        have e20 : a'.tmps[20]? = some (.pointer (some ⟨b, off + k * 2, none⟩)) := hav.val 4 _ 20 rfl rfl d4
        have c0' : V.cell? ⟨b, off + k * 2, none⟩ = some (.int .i64 ty) := (hws.cell (p := ⟨b, off + k * 2, none⟩) hbb).trans c0
        have c1' : V.cell? ⟨b, off + k * 2 + 1, none⟩ = some (.string d) := (hws.cell (p := ⟨b, off + k * 2 + 1, none⟩) hbb).trans c1
        unfold Oper.wp
        simpa [go_sem, updD, e20, c0'] using hws
      case o6 =>
        intro D a' V hD hdep hcl hav hws
        refine ⟨rfl, ?_⟩
        have d5 : D 5 = true := hdep ⟨5, .data⟩ (by simp) rfl
        have e21 : a'.tmps[21]? = some (.int .i64 ty) := hav.val 5 _ 21 rfl rfl d5
        unfold Oper.wp
        simpa [go_sem, updD, e21, hw1] using hws
      case o7 =>
        intro D a' V hD hdep hcl hav hws
        refine ⟨rfl, ?_⟩
        have d6 : D 6 = true := hdep ⟨6, .data⟩ (by simp) rfl
        have e22 : a'.tmps[22]? = some (.int .u64 q) := hav.val 6 _ 22 rfl rfl d6
        unfold Oper.wp
        simp [go_sem, e22]
        refine (rput_any q HU.out V).mono ?_
        rintro e V' ⟨rfl, hb⟩
        exact ⟨rfl, hws.trans (hb.mono hws.size)⟩
      case o8 =>
        intro D a' V hD hdep hcl hav hws
        refine ⟨rfl, ?_⟩
        have d0 : D 0 = true := hdep ⟨0, .data⟩ (by simp) rfl
        have e16 : a'.tmps[16]? = some (.string S) := hav.val 0 _ 16 rfl rfl d0
        have d7 : D 7 = true := hdep ⟨7, .data⟩ (by simp) rfl
        have e23 : a'.tmps[23]? = some (.string (lebStr q)) := hav.val 7 _ 23 rfl rfl d7
        have ra := run_string_add_sum (P := Try.prog) V S (lebStr q) s1
        unfold Oper.wp
        simpa [go_sem, updD, e16, e23, ra] using hws
      case o9 =>
        intro D a' V hD hdep hcl hav hws
        refine ⟨rfl, ?_⟩
        have e4 : a'.tmps[4]? = some (.int .i64 at') := hav.oldAt 4 rfl
        unfold Oper.wp
        simpa [go_sem, updD, e4] using hws
      case o10 =>
        intro D a' V hD hdep hcl hav hws
        refine ⟨rfl, ?_⟩
        have d9 : D 9 = true := hdep ⟨9, .data⟩ (by simp) rfl
        have e25 : a'.tmps[25]? = some (.int .i64 at') := hav.val 9 _ 25 rfl rfl d9
        unfold Oper.wp
        simpa [go_sem, updD, e25, hw2] using hws
      case o11 =>
        intro D a' V hD hdep hcl hav hws
        refine ⟨rfl, ?_⟩
        have d10 : D 10 = true := hdep ⟨10, .data⟩ (by simp) rfl
        have e26 : a'.tmps[26]? = some (.int .u64 at') := hav.val 10 _ 26 rfl rfl d10
        unfold Oper.wp
        simp [go_sem, e26]
        refine (rput_any at' HUA.out V).mono ?_
        rintro e V' ⟨rfl, hb⟩
        exact ⟨rfl, hws.trans (hb.mono hws.size)⟩
      case o12 =>
        intro D a' V hD hdep hcl hav hws
        refine ⟨rfl, ?_⟩
        have d8 : D 8 = true := hdep ⟨8, .data⟩ (by simp) rfl
        have e24 : a'.tmps[24]? = some (.string (S ++ lebStr q)) := hav.val 8 _ 24 rfl rfl d8
        have d11 : D 11 = true := hdep ⟨11, .data⟩ (by simp) rfl
        have e27 : a'.tmps[27]? = some (.string (lebStr at')) := hav.val 11 _ 27 rfl rfl d11
        have ra := run_string_add_sum (P := Try.prog) V (S ++ lebStr q) (lebStr at') s2
        unfold Oper.wp
        simpa [go_sem, updD, e24, e27, ra] using hws
      case o13 =>
        intro D a' V hD hdep hcl hav hws
        refine ⟨rfl, ?_⟩
        have e0 : a'.tmps[0]? = some (.slice (some ⟨b, off, none⟩) n c) := hav.oldAt 0 rfl
        unfold Oper.wp
        simpa [go_sem, updD, e0] using hws
      case o14 =>
        intro D a' V hD hdep hcl hav hws
        refine ⟨rfl, ?_⟩
        have e5 : a'.tmps[5]? = some (.int .i64 k) := hav.oldAt 5 rfl
        unfold Oper.wp
        simpa [go_sem, updD, e5] using hws
      case o15 =>
        intro D a' V hD hdep hcl hav hws
        refine ⟨rfl, ?_⟩
        have d13 : D 13 = true := hdep ⟨13, .data⟩ (by simp) rfl
        have e29 : a'.tmps[29]? = some (.slice (some ⟨b, off, none⟩) n c) := hav.val 13 _ 29 rfl rfl d13
        have d14 : D 14 = true := hdep ⟨14, .data⟩ (by simp) rfl
        have e30 : a'.tmps[30]? = some (.int .i64 k) := hav.val 14 _ 30 rfl rfl d14
        unfold Oper.wp
        simpa [go_sem, updD, e29, e30, hkn, hkn2] using hws
      case o16 =>
        intro D a' V hD hdep hcl hav hws
        refine ⟨rfl, ?_⟩
        have d15 : D 15 = true := hdep ⟨15, .data⟩ (by simp) rfl
        have e31 : a'.tmps[31]? = some (.pointer (some ⟨b, off + k * 2, none⟩)) := hav.val 15 _ 31 rfl rfl d15
        have c0' : V.cell? ⟨b, off + k * 2, none⟩ = some (.int .i64 ty) := (hws.cell (p := ⟨b, off + k * 2, none⟩) hbb).trans c0
        have c1' : V.cell? ⟨b, off + k * 2 + 1, none⟩ = some (.string d) := (hws.cell (p := ⟨b, off + k * 2 + 1, none⟩) hbb).trans c1
        unfold Oper.wp
        simpa [go_sem, updD, e31, c0', c1'] using hws
      case o17 =>
        intro D a' V hD hdep hcl hav hws
        refine ⟨rfl, ?_⟩
        have d16 : D 16 = true := hdep ⟨16, .data⟩ (by simp) rfl
        have e32 : a'.tmps[32]? = some (.agg #[.int .i64 ty, .string d]) := hav.val 16 _ 32 rfl rfl d16
        unfold Oper.wp
        simp [go_sem, e32]
        refine (CZ.out V).mono ?_
        rintro e V' ⟨rfl, hb⟩
        exact ⟨rfl, hws.trans (hb.mono hws.size)⟩
      case o18 =>
        intro D a' V hD hdep hcl hav hws
        refine ⟨rfl, ?_⟩
        have d17 : D 17 = true := hdep ⟨17, .data⟩ (by simp) rfl
        have e33 : a'.tmps[33]? = some (.int .i64 z) := hav.val 17 _ 33 rfl rfl d17
        unfold Oper.wp
        simpa [go_sem, updD, e33, hw3] using hws
      case o19 =>
        intro D a' V hD hdep hcl hav hws
        refine ⟨rfl, ?_⟩
        have d18 : D 18 = true := hdep ⟨18, .data⟩ (by simp) rfl
        have e34 : a'.tmps[34]? = some (.int .u64 z) := hav.val 18 _ 34 rfl rfl d18
        unfold Oper.wp
        simp [go_sem, e34]
        refine (rput_any z HUZ.out V).mono ?_
        rintro e V' ⟨rfl, hb⟩
        exact ⟨rfl, hws.trans (hb.mono hws.size)⟩
      case o20 =>
        intro D a' V hD hdep hcl hav hws
        refine ⟨rfl, ?_⟩
        have d12 : D 12 = true := hdep ⟨12, .data⟩ (by simp) rfl
        have e28 : a'.tmps[28]? = some (.string (S ++ lebStr q ++ lebStr at')) := hav.val 12 _ 28 rfl rfl d12
        have d19 : D 19 = true := hdep ⟨19, .data⟩ (by simp) rfl
        have e35 : a'.tmps[35]? = some (.string (lebStr z)) := hav.val 19 _ 35 rfl rfl d19
        have ra := run_string_add_sum (P := Try.prog) V (S ++ lebStr q ++ lebStr at') (lebStr z) s3
        unfold Oper.wp
        simpa [go_sem, updD, e28, e35, ra] using hws
      case o21 =>
        intro D a' V hD hdep hcl hav hws
        refine ⟨rfl, ?_⟩
        have d20 : D 20 = true := hdep ⟨20, .data⟩ (by simp) rfl
        have e36 : a'.tmps[36]? = some (.string (S ++ lebStr q ++ lebStr at' ++ lebStr z)) := hav.val 20 _ 36 rfl rfl d20
        unfold Oper.wp
        simpa [go_sem, updD, e36] using hws
      case fin =>
        intro a' V hav hws
        have ha' := hav.final rfl
        have BV := Lib.hid (HB.out.trans (hws.mono hzz))
        have c0' : V.cell? ⟨b, off + k * 2, none⟩ = some (.int .i64 ty) := (hws.cell (p := ⟨b, off + k * 2, none⟩) hbb).trans c0
        have c1' : V.cell? ⟨b, off + k * 2 + 1, none⟩ = some (.string d) := (hws.cell (p := ⟨b, off + k * 2 + 1, none⟩) hbb).trans c1
        clear hav hws c0 c1
        subst ha'
        simp only [putAll, Act.put, List.setIfInBounds_toArray, List.set_cons_succ, List.set_cons_zero]
        go_wp2_with fail
        refine (CZ.out V).mono ?_
        rintro e w5 ⟨rfl, hb5⟩
        have B5 := Lib.hid (BV.out.trans (hb5.mono BV.out.size))
        clear hb5 c0' c1'
        go_wp2_with fail
        go_roundw
        case rel => exact ⟨k + 1, by omega, by go_num, by have h1 := HS1.out; have h2 := HATT.out; rw [show 7 + cSum (L.take (k + 1)) = at' + z by omega]; go_num, by rw [HSN.out], B5.out⟩
        case measure => simp [intOf]; omega
    · obtain rfl : k = n := by omega
      rw [HD.out]
      go_wp2_with fail
      go_ret
      exact ⟨rfl, HB.out⟩
end Go.Proofs.Ytanbifhhoeaofaa

