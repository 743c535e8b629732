/- The document's Open; the sections of a container are just what the document says: the walks. No conditions. -/
import Derived.Test.YtanbifhhoeaofaaContRefIndex
import Derived.Test.YtanbifhhoeaofaaContWorks
import Derived.Test.YtanbifhhoeaofaaFrameRefGet
namespace Go.Proofs.Ytanbifhhoeaofaa
set_option linter.unusedVariables false
open Go Go.RowKit

/-- what frames answers -/
def FrP (r : Option (List Sec)) (w w' : World) (e : Ending) : Prop :=
  (∃ M pa c, r = some M ∧ e = .returned (.tuple #[.slice pa (List.length M) c, .bool true]) ∧ SecsAt w' pa M ∧ Below w.heap.size w w') ∨ (r = none ∧ e = .returned (.tuple #[.slice none 0 0, .bool false]) ∧ Below w.heap.size w w')
set_option maxRecDepth 100000 in
set_option maxHeartbeats 8000000 in
theorem rframes_any (s : ByteArray) (t : Nat) (w : World) (h7 : 7 ≤ t) (hts : t ≤ s.size) (hs : s.size ≤ 1048576) :
    Calls Try.prog 40 #[.string s, .int .i64 t] w fun e w' => FrP (cRead (s.extract 0 t) s.size 7) w w' e := by
  have hS : (s.extract 0 t).size = t := by rw [ByteArray.size_extract]; omega
  obtain ⟨S, hSS⟩ : ∃ S, s.extract 0 t = S := ⟨_, rfl⟩
  have FG := Lib.hid (fun (p : Nat) W => rfget_any (s.extract 0 t) p W (by rw [hS]; unfold maxLen; omega))
  simp only [congrArg (fun x => fGet x) hSS] at FG
  have HG := Lib.hid (fun (p : Nat) ty d tt h => fGet_only (s := s.extract 0 t) (at' := p) («to» := tt) (ty := ty) (d := d) h)
  rw [hSS] at HG hS ⊢
  have hr0 : cRead S s.size 7 = (cRead S s.size 7).map ([] ++ ·) := by simp
  have HR0 := Lib.hid hr0
  have HSZ := Lib.hid hS
  clear hr0 hSS hS
  obtain ⟨r, hr⟩ : ∃ r, cRead S s.size 7 = r := ⟨_, rfl⟩
  rw [hr] at HR0 ⊢
  have HRR := Lib.hid hr
  clear hr
  go_enter Try.func40, Try.ntmps40
  go_wp2_with fail
  go_loopw [6, 7] (fun v f wr => ∃ (p k : Nat) (M : List Sec), f = .int .i64 p ∧ 7 ≤ p ∧ p ≤ t ∧ t ≤ p + k ∧ 7 + cSum M = p ∧ r = (cRead S k p).map (M ++ ·) ∧ Below w.heap.size w wr ∧ SRow wr w.heap.size v M) (fun _ f _ => t - (intOf f).toNat)
  case atStart => exact ⟨7, s.size, [], rfl, by omega, h7, by omega, rfl, by rw [HRR.out]; exact HR0.out, Below.refl _ _, SRow.nil _ _⟩
  case round =>
    obtain ⟨p, k, M, rfl, hp7, hpt, hpk, hcs, hrd, hB, hrow⟩ := hrel
    have HRD := Lib.hid hrd
    have HB := Lib.hid hB
    have HROW := Lib.hid hrow
    have hzz := hB.size
    clear hrd hB hrow HR0
    by_cases hlt : p < t
    · have d3 : decide ((p : Int) < (t : Int)) = true := by simp; omega
      have FG1 := Lib.hid (FG.out p)
      obtain ⟨k', rfl⟩ : ∃ j, k = j + 1 := ⟨k - 1, by omega⟩
      obtain ⟨g, hg⟩ : ∃ g, fGet S p = g := ⟨_, rfl⟩
      rw [hg] at FG1
      have HGG := Lib.hid hg
      obtain ⟨⟨ty, d⟩, tt, er⟩ := g
      unfold FV at FG1
      simp only at FG1
      clear hg
      by_cases he : er = 0
      · subst he
        have hst := cRead_ok (k := k') (by rw [HSZ.out]; exact hlt) HGG.out
        obtain ⟨a', t', ha', ht', hat', hts', hfe, hex⟩ := HG.out p ty d tt HGG.out
        have hap : a' = p := by omega
        subst hap
        subst ht'
        rw [HSZ.out] at hts'
        have hsx : cSize ((ty : Int), d) = t' - a' := by
          have := congrArg ByteArray.size hex
          rw [ByteArray.size_extract, bStr_size, HSZ.out] at this
          rw [← fFrame_size]; simp only; omega
        have HN := Lib.hid (show r = (cRead S k' t').map ((M ++ [((ty : Int), d)]) ++ ·) by
          rw [HRD.out, hst, Int.toNat_natCast, Option.map_map]
          congr 1
          funext q
          simp)
        have HCS := Lib.hid (show 7 + cSum (M ++ [((ty : Int), d)]) = t' by rw [cSum_app, show cSum [((ty : Int), d)] = cSize ((ty : Int), d) by simp [cSum], hsx]; omega)
        have hml : M.length ≤ 1048576 := by have := data_le_cSum M; omega
        clear hst hex hsx hfe ha' HRD
        go_wp2_with fail
        with_reducible refine (FG1.out wr).mono ?_
        rintro e w4 ⟨rfl, hb4⟩
        have B4 := HB.out.trans (hb4.mono hzz)
        have JR := HROW.out.later hb4
        clear hb4 HROW HB
        have BX := B4.alloc B4.size (.cells #[.int .i64 (ty : Nat), .string d] 36)
        have XR := JR.later ((Below.refl _ w4).alloc (Nat.le_refl _) (.cells #[.int .i64 (ty : Nat), .string d] 36))
        have XS : twoS (w4.alloc (.cells #[.int .i64 (ty : Nat), .string d] 36)) w4.heap.size ((ty : Int), d) := heap_alloc_new w4 _
        have YB := Lib.hid (BX.alloc BX.size (.cells #[.int .i64 (ty : Nat), .string d] 36))
        have YR := Lib.hid (XR.later ((Below.refl _ _).alloc (Nat.le_refl _) (.cells #[.int .i64 (ty : Nat), .string d] 36)))
        have YS : twoS ((w4.alloc (.cells #[.int .i64 (ty : Nat), .string d] 36)).alloc (.cells #[.int .i64 (ty : Nat), .string d] 36)) (w4.heap.size + 1) ((ty : Int), d) := by
          have := heap_alloc_new (w4.alloc (.cells #[.int .i64 (ty : Nat), .string d] 36)) (.cells #[.int .i64 (ty : Nat), .string d] 36)
          rw [World.size_alloc] at this; exact this
        have YZ := Lib.hid YS
        clear BX XR JR B4 YS XS
        go_wp2_with (at_builtin; refine append_sec rfl (.tmp 25) (.tmp 27) rfl w.heap.size _ M rfl YR.out (w4.heap.size + 1) ((ty : Int), d) (Eq.trans (b := Value.slice (some ⟨w4.heap.size + 1, 0, none⟩) 1 1) rfl (by first | rfl | rw [World.size_alloc])) YZ.out (by omega) YB.out.size ?_; intro v' w7 hrow7 hgr7 hbl7; have ZB := Lib.hid (YB.out.trans hbl7); have ZR := Lib.hid hrow7; clear hgr7 hbl7 hrow7)
        exact ⟨⟨t', k', M ++ [((ty : Int), d)], rfl, by omega, hts', by omega, HCS.out, HN.out, ZB.out, ZR.out⟩, by simp [intOf]; omega⟩
      · have hst := cRead_no (k := k') (by rw [HSZ.out]; exact hlt) HGG.out he
        have HO : Hid (r = none) := Lib.hid (by rw [HRD.out, hst]; rfl)
        have de : ((er : Int) == 0) = false := by simp; omega
        clear hst he
        go_wp2_with fail
        with_reducible refine (FG1.out wr).mono ?_
        rintro e w4 ⟨rfl, hb4⟩
        have B4 := Lib.hid (HB.out.trans (hb4.mono hzz))
        clear hb4 HB
        go_wp2_with fail
        go_ret2
        exact .inr ⟨HO.out, rfl, B4.out.alloc B4.out.size _⟩
    · obtain rfl : p = t := by omega
      have hen : r = some M := by rw [HRD.out, cRead_end (by rw [HSZ.out]; exact Nat.le_refl _)]; simp
      obtain ⟨a, c, hv, hsec⟩ := HROW.out.secs
      subst hv
      have HM := Lib.hid hsec
      have HEN := Lib.hid hen
      clear hen hsec HRD FG HG HROW
      go_wp2_with fail
      go_ret2
      exact .inl ⟨M, a, c, HEN.out, rfl, HM.out, HB.out⟩
theorem num4_ext {s : ByteArray} (h : 8 ≤ s.size) : num4 (s.extract (s.size - 8) (s.size - 4)) 0 = num4 s (s.size - 8) := by
  have e : ∀ i, i < 4 → byteAt (s.extract (s.size - 8) (s.size - 4)) (0 + i) = byteAt s (s.size - 8 + i) := by
    intro i hi
    unfold byteAt
    rw [ext_l, List.getD_eq_getElem?_getD, List.getD_eq_getElem?_getD, List.getElem?_take_of_lt (by omega), List.getElem?_drop, Nat.zero_add]
  have e0 := e 0 (by omega)
  have e1 := e 1 (by omega)
  have e2 := e 2 (by omega)
  have e3 := e 3 (by omega)
  rw [Nat.add_zero, Nat.add_zero] at e0
  unfold num4
  rw [e0, e1, e2, e3]
theorem behind_iff {s : ByteArray} {M : List Sec} {p : Nat} (hp : p ≤ s.size) (hc : 7 + cSum M = p) : s.extract p s.size = bStr (cBehind M) ↔ s.extract p s.size = bStr (cIndex M) ++ strOf (crcTail (bStr (cIndex M)).data.toList) ++ bStr (bytes4 p ++ endL) := by
  have e : bStr (cIndex M) ++ strOf (crcTail (bStr (cIndex M)).data.toList) ++ bStr (bytes4 p ++ endL) = bStr (cBehind M) := by
    apply ba_ext
    simp only [app_l, bStr_l]
    unfold cBehind cEnd
    rw [hc]
    simp only [List.append_assoc]
    rfl
  rw [e]
set_option maxRecDepth 100000 in
set_option maxHeartbeats 8000000 in
theorem ropen_any (s : ByteArray) (w : World) (hs : s.size ≤ 1048576) :
    Calls Try.prog 17 #[.string s] w fun e w' => OpenP s w w' e := by
  have HNO := Lib.hid (cOpen_notOk (s := s))
  have dz : decide ((s.size : Int) > 1048576) = false := by simp; omega
  by_cases h15 : 15 ≤ s.size
  · have d15 : decide ((s.size : Int) < 15) = false := by simp; omega
    by_cases hmg : s.extract 0 7 = bStr magicL
    · have em := ba_lists hmg
      by_cases hen : s.extract (s.size - 4) s.size = bStr endL
      · have ee := ba_lists hen
        have hok : cOk s = true := by unfold cOk; rw [decide_eq_true hmg, decide_eq_true hen, decide_eq_true h15]; rfl
        have HOP := Lib.hid (cOpen_at hok)
        have hz4 : (s.extract (s.size - 8) (s.size - 4)).size = 4 := by rw [ByteArray.size_extract]; omega
        have RN := Lib.hid (fun W => rnumber_any (s.extract (s.size - 8) (s.size - 4)) W hz4)
        have hnn : num4 (s.extract (s.size - 8) (s.size - 4)) 0 = num4 s (s.size - 8) := num4_ext (by omega)
        rw [hnn] at RN
        have hq4 : num4 s (s.size - 8) < 4294967296 := by rw [← numK_4]; exact numK_lt s _ 4
        generalize num4 s (s.size - 8) = p at HOP hq4 RN
        unfold magicL at em
        unfold endL at ee
        clear hen hmg hok HNO hz4 hnn
        by_cases g1 : 7 ≤ p
        · by_cases g2 : p ≤ s.size - 8
          · have d1 : decide ((p : Int) < 7) = false := by simp; omega
            have d2 : decide ((p : Int) > (s.size : Int) - 8) = false := by simp; omega
            have FR := Lib.hid (fun W => rframes_any s p W g1 (by omega) hs)
            have ON := Lib.hid (fun h => cOpenAt_none (s := s) (t := p) ⟨g1, g2⟩ h)
            have OS := Lib.hid (fun L h => cOpenAt_some (s := s) (t := p) (L := L) ⟨g1, g2⟩ h)
            have HC := Lib.hid (fun M (h : cRead (s.extract 0 p) s.size 7 = some M) => show 7 + cSum M = p by
              have hS : (s.extract 0 p).size = p := by rw [ByteArray.size_extract]; omega
              obtain ⟨i1, _⟩ := cRead_only (by omega) (by omega) h
              have := congrArg ByteArray.size i1
              rw [ByteArray.size_extract, bStr_size, framesL_len] at this
              omega)
            generalize cRead (s.extract 0 p) s.size 7 = r at FR ON OS HC
            have hps : p ≤ s.size := by omega
            go_enter Try.func17, Try.ntmps17
            go_wp2_with fail
            refine (RN.out w).mono ?_
            rintro e w1 ⟨rfl, rfl⟩
            go_wp2_with fail
            refine (FR.out w).mono ?_
            rintro e w2 (⟨M, pa, c, hr, rfl, hse, hb⟩ | ⟨hr, rfl, hb⟩)
            · have HQ := Lib.hid (HOP.out.trans (OS.out M hr))
              have hcm := HC.out M hr
              have hml : M.length ≤ 1048576 := by have := data_le_cSum M; omega
              have B2 := Lib.hid hb
              have S2 := Lib.hid hse
              have OA := Lib.hid (rordered_any pa c M w2 hse (by unfold maxLen; omega))
              have IX := Lib.hid (fun W h => rindex_any pa c M W h (by omega))
              clear hr hb hse HOP OS ON HC FR RN
              by_cases ho : cOrd M = true
              · rw [ho] at OA
                rw [if_pos ho] at HQ
                have hil := cIndex_len (L := M) (by omega)
                have hxs : (bStr (cIndex M)).size ≤ 31457290 := by rw [bStr_size]; omega
                have hol := (cOrd_ok ho).2.2
                have RT := Lib.hid (fun W => rtail_any (bStr (cIndex M)) W (by omega))
                have FT := Lib.hid (fun W => rfoot_any p W hq4)
                have htl : (strOf (crcTail (bStr (cIndex M)).data.toList)).size = 4 := rfl
                have hft : (bStr (bytes4 p ++ endL)).size = 8 := rfl
                have HBH : Hid (s.extract p s.size = bStr (cBehind M) ↔ s.extract p s.size = bStr (cIndex M) ++ strOf (crcTail (bStr (cIndex M)).data.toList) ++ bStr (bytes4 p ++ endL)) := Lib.hid (behind_iff hps hcm)
                generalize bStr (cIndex M) = x at *
                generalize strOf (crcTail x.data.toList) = T at *
                generalize bStr (bytes4 p ++ endL) = G at *
                have s1 : x.size + T.size ≤ 9223372036854775807 := by omega
                have s2 : (x ++ T).size + G.size ≤ 9223372036854775807 := by rw [ByteArray.size_append]; omega
                clear ho hil hxs hol htl hft hcm
                by_cases hbe : s.extract p s.size = x ++ T ++ G
                · have HQ2 : Hid (cOpen s = (M, 0)) := Lib.hid (by rw [HQ.out, if_pos (HBH.out.2 hbe)])
                  have heq : ((s.extract p s.size).toList == (x ++ T ++ G).toList) = true := by rw [hbe]; simp
                  clear hbe HBH HQ
                  obtain ⟨n, hn⟩ : ∃ n, M.length = n := ⟨_, rfl⟩
                  have HN := Lib.hid hn
                  rw [hn] at OA IX hml ⊢
                  clear hn
                  go_wp2_with fail
                  refine OA.out.mono ?_
                  rintro e w3 ⟨rfl, hb⟩
                  have B3 := Lib.hid (B2.out.trans (hb.mono B2.out.size))
                  have S3 := Lib.hid (S2.out.later hb)
                  clear hb
                  go_wp2_with fail
                  refine (IX.out w3 S3.out).mono ?_
                  rintro e w4 ⟨rfl, hb⟩
                  have B4 := Lib.hid (B3.out.trans (hb.mono B3.out.size))
                  have S4 := Lib.hid (S3.out.later hb)
                  clear hb B3 S3 B2 S2 OA IX
                  go_wp2_with fail
                  refine wp_region_st (by kernel_rfl) (fun i => match i with | 0 => .string s | 1 => .int .i64 p | 2 => .string (s.extract p s.size) | 3 => .string x | 4 => .string x | 5 => .string T | 6 => .string (x ++ T) | 7 => .int .i64 p | 8 => .string G | 9 => .string (x ++ T ++ G) | 10 => .bool false | _ => undef)
                    (fun D V => Below w4.heap.size w4 V) rfl ⟨rfl, rfl, rfl, Nat.le_refl _, fun _ _ => rfl⟩ ⟨?o0, ?o1, ?o2, ?o3, ?o4, ?o5, ?o6, ?o7, ?o8, ?o9, ?o10, trivial⟩ ?fin
                  case o0 =>
                    intro D a' V hD hdep hcl hav hws
                    refine ⟨rfl, ?_⟩
                    have e0 : a'.tmps[0]? = some (.string s) := hav.oldAt 0 rfl
                    unfold Oper.wp
                    simpa [go_sem, updD, e0] using hws
                  case o1 =>
                    intro D a' V hD hdep hcl hav hws
                    refine ⟨rfl, ?_⟩
                    have e5 : a'.tmps[5]? = some (.int .i64 p) := hav.oldAt 5 rfl
                    unfold Oper.wp
                    simpa [go_sem, updD, e5] using hws
                  case o2 =>
                    intro D a' V hD hdep hcl hav hws
                    refine ⟨rfl, ?_⟩
                    have d0 : D 0 = true := hdep ⟨0, .data⟩ (by simp) rfl
                    have e55 : a'.tmps[55]? = some (.string s) := hav.val 0 _ 55 rfl rfl d0
                    have d1 : D 1 = true := hdep ⟨1, .data⟩ (by simp) rfl
                    have e56 : a'.tmps[56]? = some (.int .i64 p) := hav.val 1 _ 56 rfl rfl d1
                    unfold Oper.wp
                    simpa [go_sem, updD, e55, e56, hps] using hws
                  case o3 =>
                    intro D a' V hD hdep hcl hav hws
                    refine ⟨rfl, ?_⟩
                    have e8 : a'.tmps[8]? = some (.string x) := hav.oldAt 8 rfl
                    unfold Oper.wp
                    simpa [go_sem, updD, e8] using hws
                  case o4 =>
                    intro D a' V hD hdep hcl hav hws
                    refine ⟨rfl, ?_⟩
                    have e8 : a'.tmps[8]? = some (.string x) := hav.oldAt 8 rfl
                    unfold Oper.wp
                    simpa [go_sem, updD, e8] using hws
                  case o5 =>
                    intro D a' V hD hdep hcl hav hws
                    refine ⟨rfl, ?_⟩
                    have d4 : D 4 = true := hdep ⟨4, .data⟩ (by simp) rfl
                    have e59 : a'.tmps[59]? = some (.string x) := hav.val 4 _ 59 rfl rfl d4
                    unfold Oper.wp
                    simp [go_sem, e59]
                    refine (RT.out V).mono ?_
                    rintro e V' ⟨rfl, hb⟩
                    exact ⟨rfl, hws.trans (hb.mono hws.size)⟩
                  case o6 =>
                    intro D a' V hD hdep hcl hav hws
                    refine ⟨rfl, ?_⟩
                    have d3 : D 3 = true := hdep ⟨3, .data⟩ (by simp) rfl
                    have e58 : a'.tmps[58]? = some (.string x) := hav.val 3 _ 58 rfl rfl d3
                    have d5 : D 5 = true := hdep ⟨5, .data⟩ (by simp) rfl
                    have e60 : a'.tmps[60]? = some (.string T) := hav.val 5 _ 60 rfl rfl d5
                    have ra := run_string_add_sum (P := Try.prog) V x T s1
                    unfold Oper.wp
                    simpa [go_sem, updD, e58, e60, ra] using hws
                  case o7 =>
                    intro D a' V hD hdep hcl hav hws
                    refine ⟨rfl, ?_⟩
                    have e5 : a'.tmps[5]? = some (.int .i64 p) := hav.oldAt 5 rfl
                    unfold Oper.wp
                    simpa [go_sem, updD, e5] using hws
                  case o8 =>
                    intro D a' V hD hdep hcl hav hws
                    refine ⟨rfl, ?_⟩
                    have d7 : D 7 = true := hdep ⟨7, .data⟩ (by simp) rfl
                    have e62 : a'.tmps[62]? = some (.int .i64 p) := hav.val 7 _ 62 rfl rfl d7
                    unfold Oper.wp
                    simp [go_sem, e62]
                    refine (FT.out V).mono ?_
                    rintro e V' ⟨rfl, hb⟩
                    exact ⟨rfl, hws.trans (hb.mono hws.size)⟩
                  case o9 =>
                    intro D a' V hD hdep hcl hav hws
                    refine ⟨rfl, ?_⟩
                    have d6 : D 6 = true := hdep ⟨6, .data⟩ (by simp) rfl
                    have e61 : a'.tmps[61]? = some (.string (x ++ T)) := hav.val 6 _ 61 rfl rfl d6
                    have d8 : D 8 = true := hdep ⟨8, .data⟩ (by simp) rfl
                    have e63 : a'.tmps[63]? = some (.string G) := hav.val 8 _ 63 rfl rfl d8
                    have ra := run_string_add_sum (P := Try.prog) V (x ++ T) G s2
                    unfold Oper.wp
                    simpa [go_sem, updD, e61, e63, ra] using hws
                  case o10 =>
                    intro D a' V hD hdep hcl hav hws
                    refine ⟨rfl, ?_⟩
                    have d2 : D 2 = true := hdep ⟨2, .data⟩ (by simp) rfl
                    have e57 : a'.tmps[57]? = some (.string (s.extract p s.size)) := hav.val 2 _ 57 rfl rfl d2
                    have d9 : D 9 = true := hdep ⟨9, .data⟩ (by simp) rfl
                    have e64 : a'.tmps[64]? = some (.string (x ++ T ++ G)) := hav.val 9 _ 64 rfl rfl d9
                    unfold Oper.wp
                    simpa [go_sem, updD, e57, e64, heq] using hws
                  case fin =>
                    intro a' V hav hws
                    have ha' := hav.final rfl
                    have B5 := Lib.hid (B4.out.trans (hws.mono B4.out.size))
                    have S5 := Lib.hid (S4.out.later hws)
                    clear hav hws
                    subst ha'
                    simp only [putAll, Act.put, List.setIfInBounds_toArray, List.set_cons_succ, List.set_cons_zero]
                    go_wp2_with fail
                    go_ret2
                    refine ⟨⟨pa, c, ?_, ?_⟩, B5.out⟩
                    · rw [HQ2.out, HN.out]; rfl
                    · rw [HQ2.out]; exact S5.out
                · have HO : Hid (cOpen s = ([], 9) ∧ (9 : Int) = ((9 : Nat) : Int)) := Lib.hid ⟨by rw [HQ.out, if_neg (fun h => hbe (HBH.out.1 h))], rfl⟩
                  have heq := str_neq hbe
                  clear hbe HBH HQ
                  generalize M.length = n at *
                  go_wp2_with fail
                  refine OA.out.mono ?_
                  rintro e w3 ⟨rfl, hb⟩
                  have B3 := Lib.hid (B2.out.trans (hb.mono B2.out.size))
                  have S3 := Lib.hid (S2.out.later hb)
                  clear hb
                  go_wp2_with fail
                  refine (IX.out w3 S3.out).mono ?_
                  rintro e w4 ⟨rfl, hb⟩
                  have B4 := Lib.hid (B3.out.trans (hb.mono B3.out.size))
                  clear hb B3 S3 B2 S2 OA IX
                  go_wp2_with fail
                  refine wp_region_st (by kernel_rfl) (fun i => match i with | 0 => .string s | 1 => .int .i64 p | 2 => .string (s.extract p s.size) | 3 => .string x | 4 => .string x | 5 => .string T | 6 => .string (x ++ T) | 7 => .int .i64 p | 8 => .string G | 9 => .string (x ++ T ++ G) | 10 => .bool true | _ => undef)
                    (fun D V => Below w4.heap.size w4 V) rfl ⟨rfl, rfl, rfl, Nat.le_refl _, fun _ _ => rfl⟩ ⟨?o0, ?o1, ?o2, ?o3, ?o4, ?o5, ?o6, ?o7, ?o8, ?o9, ?o10, trivial⟩ ?fin
                  case o0 =>
                    intro D a' V hD hdep hcl hav hws
                    refine ⟨rfl, ?_⟩
                    have e0 : a'.tmps[0]? = some (.string s) := hav.oldAt 0 rfl
                    unfold Oper.wp
                    simpa [go_sem, updD, e0] using hws
                  case o1 =>
                    intro D a' V hD hdep hcl hav hws
                    refine ⟨rfl, ?_⟩
                    have e5 : a'.tmps[5]? = some (.int .i64 p) := hav.oldAt 5 rfl
                    unfold Oper.wp
                    simpa [go_sem, updD, e5] using hws
                  case o2 =>
                    intro D a' V hD hdep hcl hav hws
                    refine ⟨rfl, ?_⟩
                    have d0 : D 0 = true := hdep ⟨0, .data⟩ (by simp) rfl
                    have e55 : a'.tmps[55]? = some (.string s) := hav.val 0 _ 55 rfl rfl d0
                    have d1 : D 1 = true := hdep ⟨1, .data⟩ (by simp) rfl
                    have e56 : a'.tmps[56]? = some (.int .i64 p) := hav.val 1 _ 56 rfl rfl d1
                    unfold Oper.wp
                    simpa [go_sem, updD, e55, e56, hps] using hws
                  case o3 =>
                    intro D a' V hD hdep hcl hav hws
                    refine ⟨rfl, ?_⟩
                    have e8 : a'.tmps[8]? = some (.string x) := hav.oldAt 8 rfl
                    unfold Oper.wp
                    simpa [go_sem, updD, e8] using hws
                  case o4 =>
                    intro D a' V hD hdep hcl hav hws
                    refine ⟨rfl, ?_⟩
                    have e8 : a'.tmps[8]? = some (.string x) := hav.oldAt 8 rfl
                    unfold Oper.wp
                    simpa [go_sem, updD, e8] using hws
                  case o5 =>
                    intro D a' V hD hdep hcl hav hws
                    refine ⟨rfl, ?_⟩
                    have d4 : D 4 = true := hdep ⟨4, .data⟩ (by simp) rfl
                    have e59 : a'.tmps[59]? = some (.string x) := hav.val 4 _ 59 rfl rfl d4
                    unfold Oper.wp
                    simp [go_sem, e59]
                    refine (RT.out V).mono ?_
                    rintro e V' ⟨rfl, hb⟩
                    exact ⟨rfl, hws.trans (hb.mono hws.size)⟩
                  case o6 =>
                    intro D a' V hD hdep hcl hav hws
                    refine ⟨rfl, ?_⟩
                    have d3 : D 3 = true := hdep ⟨3, .data⟩ (by simp) rfl
                    have e58 : a'.tmps[58]? = some (.string x) := hav.val 3 _ 58 rfl rfl d3
                    have d5 : D 5 = true := hdep ⟨5, .data⟩ (by simp) rfl
                    have e60 : a'.tmps[60]? = some (.string T) := hav.val 5 _ 60 rfl rfl d5
                    have ra := run_string_add_sum (P := Try.prog) V x T s1
                    unfold Oper.wp
                    simpa [go_sem, updD, e58, e60, ra] using hws
                  case o7 =>
                    intro D a' V hD hdep hcl hav hws
                    refine ⟨rfl, ?_⟩
                    have e5 : a'.tmps[5]? = some (.int .i64 p) := hav.oldAt 5 rfl
                    unfold Oper.wp
                    simpa [go_sem, updD, e5] using hws
                  case o8 =>
                    intro D a' V hD hdep hcl hav hws
                    refine ⟨rfl, ?_⟩
                    have d7 : D 7 = true := hdep ⟨7, .data⟩ (by simp) rfl
                    have e62 : a'.tmps[62]? = some (.int .i64 p) := hav.val 7 _ 62 rfl rfl d7
                    unfold Oper.wp
                    simp [go_sem, e62]
                    refine (FT.out V).mono ?_
                    rintro e V' ⟨rfl, hb⟩
                    exact ⟨rfl, hws.trans (hb.mono hws.size)⟩
                  case o9 =>
                    intro D a' V hD hdep hcl hav hws
                    refine ⟨rfl, ?_⟩
                    have d6 : D 6 = true := hdep ⟨6, .data⟩ (by simp) rfl
                    have e61 : a'.tmps[61]? = some (.string (x ++ T)) := hav.val 6 _ 61 rfl rfl d6
                    have d8 : D 8 = true := hdep ⟨8, .data⟩ (by simp) rfl
                    have e63 : a'.tmps[63]? = some (.string G) := hav.val 8 _ 63 rfl rfl d8
                    have ra := run_string_add_sum (P := Try.prog) V (x ++ T) G s2
                    unfold Oper.wp
                    simpa [go_sem, updD, e61, e63, ra] using hws
                  case o10 =>
                    intro D a' V hD hdep hcl hav hws
                    refine ⟨rfl, ?_⟩
                    have d2 : D 2 = true := hdep ⟨2, .data⟩ (by simp) rfl
                    have e57 : a'.tmps[57]? = some (.string (s.extract p s.size)) := hav.val 2 _ 57 rfl rfl d2
                    have d9 : D 9 = true := hdep ⟨9, .data⟩ (by simp) rfl
                    have e64 : a'.tmps[64]? = some (.string (x ++ T ++ G)) := hav.val 9 _ 64 rfl rfl d9
                    unfold Oper.wp
                    simpa [go_sem, updD, e57, e64, heq] using hws
                  case fin =>
                    intro a' V hav hws
                    have ha' := hav.final rfl
                    have B5 := Lib.hid (B4.out.trans (hws.mono B4.out.size))
                    clear hav hws
                    subst ha'
                    simp only [putAll, Act.put, List.setIfInBounds_toArray, List.set_cons_succ, List.set_cons_zero]
                    go_wp2_with fail
                    go_ret2
                    exact OpenP.err HO.out B5.out
              · rw [show cOrd M = false by simpa using ho] at OA
                rw [if_neg ho] at HQ
                have HO : Hid (cOpen s = ([], 20) ∧ (20 : Int) = ((20 : Nat) : Int)) := Lib.hid ⟨HQ.out, rfl⟩
                clear ho HQ IX
                generalize M.length = n at *
                go_wp2_with fail
                refine OA.out.mono ?_
                rintro e w3 ⟨rfl, hb⟩
                have B3 := Lib.hid (B2.out.trans (hb.mono B2.out.size))
                clear hb
                go_wp2_with fail
                go_ret2
                exact OpenP.err HO.out B3.out
            · have HO : Hid (cOpen s = ([], 8) ∧ (8 : Int) = ((8 : Nat) : Int)) := Lib.hid ⟨HOP.out.trans (ON.out hr), rfl⟩
              have B2 := Lib.hid hb
              clear hr hb HOP OS ON HC FR RN
              go_wp2_with fail
              go_ret2
              exact OpenP.err HO.out B2.out
          · have HO : Hid (cOpen s = ([], 9) ∧ (9 : Int) = ((9 : Nat) : Int)) := Lib.hid ⟨by rw [HOP.out, cOpenAt_out (by omega)], rfl⟩
            have d1 : decide ((p : Int) < 7) = false := by simp; omega
            have d2 : decide ((p : Int) > (s.size : Int) - 8) = true := by simp; omega
            clear HOP
            go_enter Try.func17, Try.ntmps17
            go_wp2_with fail
            refine (RN.out w).mono ?_
            rintro e w1 ⟨rfl, rfl⟩
            go_wp2_with fail
            go_ret2
            exact OpenP.err HO.out (Below.refl _ _)
        · have HO : Hid (cOpen s = ([], 9) ∧ (9 : Int) = ((9 : Nat) : Int)) := Lib.hid ⟨by rw [HOP.out, cOpenAt_out (by omega)], rfl⟩
          have d1 : decide ((p : Int) < 7) = true := by simp; omega
          clear HOP g1
          go_enter Try.func17, Try.ntmps17
          go_wp2_with fail
          refine (RN.out w).mono ?_
          rintro e w1 ⟨rfl, rfl⟩
          go_wp2_with fail
          go_ret2
          exact OpenP.err HO.out (Below.refl _ _)
      · have ee := ba_unlike hen
        have HO : Hid (cOpen s = ([], 7) ∧ (7 : Int) = ((7 : Nat) : Int)) := Lib.hid ⟨HNO.out (by unfold cOk; rw [decide_eq_false hen]; simp), rfl⟩
        clear hen hmg
        unfold magicL at em
        unfold endL at ee
        go_enter Try.func17, Try.ntmps17
        go_wp2_with fail
        go_ret2
        exact OpenP.err HO.out (Below.refl _ _)
    · have em := ba_unlike hmg
      have HO : Hid (cOpen s = ([], 7) ∧ (7 : Int) = ((7 : Nat) : Int)) := Lib.hid ⟨HNO.out (by unfold cOk; rw [decide_eq_false hmg]; simp), rfl⟩
      clear hmg
      unfold magicL at em
      go_enter Try.func17, Try.ntmps17
      go_wp2_with fail
      go_ret2
      exact OpenP.err HO.out (Below.refl _ _)
  · have d15 : decide ((s.size : Int) < 15) = true := by simp; omega
    have HO : Hid (cOpen s = ([], 7) ∧ (7 : Int) = ((7 : Nat) : Int)) := Lib.hid ⟨HNO.out (by unfold cOk; rw [decide_eq_false h15]; rfl), rfl⟩
    go_enter Try.func17, Try.ntmps17
    go_wp2_with fail
    go_ret2
    exact OpenP.err HO.out (Below.refl _ _)
theorem ropen_as {s : ByteArray} {L : List Sec} {k : Nat} (h : cOpen s = (L, k)) (hs : s.size ≤ 1048576) (W : World) :
    Calls Try.prog 17 #[.string s] W fun e w' => ∃ pa c, e = .returned (.tuple #[.slice pa L.length c, .int .i64 k]) ∧ SecsAt w' pa L ∧ Below W.heap.size W w' := by
  refine (ropen_any s W hs).mono ?_
  rintro e w' ⟨⟨pa, c, rfl, hse⟩, hb⟩
  rw [h] at hse ⊢
  exact ⟨pa, c, rfl, hse, hb⟩
set_option maxRecDepth 100000 in
set_option maxHeartbeats 4000000 in
theorem walk_copens (s : ByteArray) (w : World) (hs : s.size ≤ maxLen) :
    Calls Try.prog 4 #[.string s] w fun e w' => e = .returned (.bool true) ∧ Below w.heap.size w w' := by
  by_cases h3 : 3000 < s.size
  · have d3 : decide ((s.size : Int) > 3000) = true := by simp; omega
    clear h3 hs
    go_enter Try.func4, Try.ntmps4
    go_wp2_with fail
    refine (cworks_any w).mono ?_
    rintro e w1 ⟨rfl, hb⟩
    have B1 := Lib.hid hb
    clear hb
    go_wp2_with fail
    go_ret
    exact ⟨rfl, B1.out⟩
  · have d3 : decide ((s.size : Int) > 3000) = false := by simp; omega
    obtain ⟨M, k, hO⟩ : ∃ M k, cOpen s = (M, k) := ⟨_, _, rfl⟩
    have OA := Lib.hid (fun W => copen_as hO (by omega) W)
    have OB := Lib.hid (fun W => ropen_as hO (by omega) W)
    have hml : M.length ≤ maxLen := by
      by_cases hk : k = 0
      · subst hk
        have := (cOpen_only hO).2.2
        have := data_le_cSum M
        unfold maxLen; omega
      · have hM : M = [] := by have := cOpen_err (s := s) (by rw [hO]; exact hk); rw [hO] at this; exact this
        rw [hM]; decide
    have CS := Lib.hid (fun pa pb ca cb W h1 h2 => rsameC_any pa pb ca cb M M W h1 h2 hml)
    rw [decide_eq_true (rfl : M = M)] at CS
    generalize M.length = n at OA OB CS
    clear h3 hs hO hml
    go_enter Try.func4, Try.ntmps4
    go_wp2_with fail
    refine (cworks_any w).mono ?_
    rintro e w1 ⟨rfl, hb⟩
    have B1 := Lib.hid hb
    clear hb
    go_wp2_with fail
    refine (OA.out w1).mono ?_
    rintro e w4 ⟨pa, ca, rfl, hse, hb⟩
    have B4 := Lib.hid (B1.out.trans (hb.mono B1.out.size))
    have M4 := Lib.hid hse
    clear hb hse B1
    go_wp2_with fail
    refine (OB.out w4).mono ?_
    rintro e w5 ⟨pb, cb, rfl, hse, hb⟩
    have B5 := Lib.hid (B4.out.trans (hb.mono B4.out.size))
    have M5 := Lib.hid (M4.out.later hb)
    have N5 := Lib.hid hse
    clear hb hse B4 M4
    go_wp2_with fail
    refine (CS.out pa pb ca cb w5 M5.out N5.out).mono ?_
    rintro e w6 ⟨rfl, hb⟩
    have B6 := Lib.hid (B5.out.trans (hb.mono B5.out.size))
    clear hb
    go_wp2_with fail
    go_ret
    exact ⟨rfl, B6.out⟩
end Go.Proofs.Ytanbifhhoeaofaa

