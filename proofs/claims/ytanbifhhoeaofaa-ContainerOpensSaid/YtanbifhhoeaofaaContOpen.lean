/- Open: the walk. No conditions. -/
import Derived.Test.YtanbifhhoeaofaaContBehind
import Derived.Test.YtanbifhhoeaofaaContCatch
import Derived.Test.YtanbifhhoeaofaaContRow
import Derived.Test.YtanbifhhoeaofaaFrameGet
import Derived.Laws.BitsAllLaws
import Derived.Test.YtanbifhhoeaofaaInv
namespace Go.Proofs.Ytanbifhhoeaofaa
set_option linter.unusedVariables false
open Go Go.RowKit

def OpenP (s : ByteArray) (w w' : World) (e : Ending) : Prop := (∃ pa c, e = .returned (.tuple #[.slice pa (cOpen s).1.length c, .int .i64 (cOpen s).2]) ∧ SecsAt w' pa (cOpen s).1) ∧ Below w.heap.size w w'
theorem OpenP.err {s : ByteArray} {w w' : World} {k : Nat} {z : Int} (h : cOpen s = ([], k) ∧ z = k) (hb : Below w.heap.size w w') : OpenP s w w' (.returned (.tuple #[.slice none 0 0, .int .i64 z])) := by
  refine ⟨⟨none, 0, ?_, ?_⟩, hb⟩
  · rw [h.1, h.2]; rfl
  · rw [h.1]; exact .inl rfl
theorem cOpen_notOk {s : ByteArray} (h : cOk s = false) : cOpen s = ([], 7) := by unfold cOpen; rw [h]; rfl
theorem ba_lists {a : ByteArray} {l : List UInt8} (h : a = bStr l) : (a.toList == l) = true := by rw [h, ByteArray.toList_eq]; simp [bStr]
theorem ba_unlike {a : ByteArray} {l : List UInt8} (h : a ≠ bStr l) : (a.toList == l) = false := by
  rw [beq_eq_false_iff_ne]
  intro e
  apply h
  rw [ByteArray.toList_eq] at e
  exact ba_ext e
def numK (s : ByteArray) (q : Nat) : Nat → Nat
  | 0 => 0
  | k + 1 => numK s q k + byteAt s (q + k) * 256 ^ k
theorem i64_or_nat (a b : Nat) (ha : a < 4611686018427387904) (hb : b < 4611686018427387904) : bits .or .i64 (a : Int) (b : Int) = ((a ||| b : Nat) : Int) := by
  have hx : a ||| b < 2 ^ 62 := Nat.or_lt_two_pow (by omega) (by omega)
  have o : ∀ c : Nat, c < 4611686018427387904 → (BitVec.ofInt 64 (c : Int)).toNat = c := fun c hc => by
    rw [BitVec.ofInt_natCast, BitVec.toNat_ofNat]; exact Nat.mod_eq_of_lt (by omega)
  show IntKind.i64.wrap ((BitVec.ofInt 64 (a : Int) ||| BitVec.ofInt 64 (b : Int)).toNat : Int) = _
  rw [BitVec.toNat_or, o a ha, o b hb, IntKind.wrap_i64]
  omega
theorem numK_lt (s : ByteArray) (q k : Nat) : numK s q k < 256 ^ k := by
  induction k with
  | zero => simp [numK]
  | succ k ih =>
    have : byteAt s (q + k) < 256 := UInt8.toNat_lt _
    rw [numK, Nat.pow_succ]
    have h2 : byteAt s (q + k) * 256 ^ k ≤ 255 * 256 ^ k := Nat.mul_le_mul_right _ (by omega)
    omega
theorem byteAt_get {s : ByteArray} {i : Nat} (h : i < s.size) : byteAt s i = s[i].toNat := by
  unfold byteAt
  rw [List.getD_eq_getElem?_getD, List.getElem?_eq_getElem (show i < s.data.toList.length from h)]
  rfl
theorem numK_or (s : ByteArray) (q k : Nat) (hk : k < 4) (hq : q + k < s.size) : bits .or .i64 ((numK s q k : Nat) : Int) (wrap64 (wrap64 ((s[q + k].toNat : Nat) : Int) * ((256 ^ k : Nat) : Int))) = ((numK s q (k + 1) : Nat) : Int) := by
  have hb : s[q + k].toNat < 256 := UInt8.toNat_lt _
  have hl := numK_lt s q k
  rw [numK, byteAt_get hq]
  generalize s[q + k].toNat = b at hb ⊢
  generalize numK s q k = a at hl ⊢
  have hp : 256 ^ k ≤ 256 ^ 3 := Nat.pow_le_pow_right (by omega) (by omega)
  have hm : b * 256 ^ k ≤ 255 * 256 ^ 3 := Nat.mul_le_mul (by omega) hp
  have w1 : wrap64 ((b : Nat) : Int) = (b : Int) := by unfold wrap64; omega
  have w2 : wrap64 ((b : Int) * ((256 ^ k : Nat) : Int)) = ((b * 256 ^ k : Nat) : Int) := by
    rw [← Int.natCast_mul]
    generalize b * 256 ^ k = m at hm ⊢
    unfold wrap64; omega
  rw [w1, w2, i64_or_nat a (b * 256 ^ k) (by omega) (by omega)]
  have e : 256 ^ k = 2 ^ (8 * k) := by rw [Nat.pow_mul]
  rw [e] at hl ⊢
  have := Nat.two_pow_add_eq_or_of_lt hl b
  rw [Nat.mul_comm b, Nat.or_comm, ← this, Nat.add_comm]
theorem numK_4 (s : ByteArray) (q : Nat) : numK s q 4 = num4 s q := by simp only [numK, num4, Nat.add_zero]; omega
def cOpenAt (s : ByteArray) (t : Nat) : List Sec × Nat :=
  if 7 ≤ t ∧ t ≤ s.size - 8 then (match cRead (s.extract 0 t) s.size 7 with
    | none => ([], 8)
    | some L => if cOrd L = true then (if s.extract t s.size = bStr (cBehind L) then (L, 0) else ([], 9)) else ([], 20))
  else ([], 9)
theorem cOpen_at {s : ByteArray} (h : cOk s = true) : cOpen s = cOpenAt s (num4 s (s.size - 8)) := by
  unfold cOpen cOpenAt
  rw [if_pos h]
  split
  · cases cRead (s.extract 0 (num4 s (s.size - 8))) s.size 7 <;> rfl
  · rfl
theorem cOpenAt_out {s : ByteArray} {t : Nat} (h : ¬ (7 ≤ t ∧ t ≤ s.size - 8)) : cOpenAt s t = ([], 9) := by unfold cOpenAt; rw [if_neg h]
theorem cOpenAt_none {s : ByteArray} {t : Nat} (h : 7 ≤ t ∧ t ≤ s.size - 8) (hr : cRead (s.extract 0 t) s.size 7 = none) : cOpenAt s t = ([], 8) := by unfold cOpenAt; rw [if_pos h, hr]
theorem cOpenAt_some {s : ByteArray} {t : Nat} {L : List Sec} (h : 7 ≤ t ∧ t ≤ s.size - 8) (hr : cRead (s.extract 0 t) s.size 7 = some L) : cOpenAt s t = if cOrd L = true then (if s.extract t s.size = bStr (cBehind L) then (L, 0) else ([], 9)) else ([], 20) := by unfold cOpenAt; rw [if_pos h, hr]
theorem cRead_ok {S : ByteArray} {k p ty : Nat} {d : ByteArray} {z : Int} (h : p < S.size) (hg : fGet S p = ((ty, d), z, 0)) : cRead S (k + 1) p = (cRead S k z.toNat).map (fun L => (((ty : Int), d) : Sec) :: L) := by
  rw [cRead, if_neg (by omega), hg]
  simp only [if_pos]
theorem cRead_no {S : ByteArray} {k p ty er : Nat} {d : ByteArray} {z : Int} (h : p < S.size) (hg : fGet S p = ((ty, d), z, er)) (he : er ≠ 0) : cRead S (k + 1) p = none := by
  rw [cRead, if_neg (by omega), hg]
  simp only
  rw [if_neg he]
theorem cRead_end {S : ByteArray} {k p : Nat} (h : S.size ≤ p) : cRead S k p = some [] := by
  cases k with
  | zero => rfl
  | succ k => rw [cRead, if_pos h]
set_option maxRecDepth 100000 in
set_option maxHeartbeats 8000000 in
theorem copen_any (s : ByteArray) (w : World) (hs : s.size ≤ 1048576) :
    Calls Try.prog 16 #[.string s] w fun e w' => OpenP s w w' e := by
  have hmf : ∀ (fn : Fn) (first cap : Array Value) (w : World), (Instr.makeFunc fn first cap).run Try.prog w = .ok (.func fn first cap) w := fun _ _ _ _ => rfl
  have hbV : Below w.heap.size w ((w.alloc (.cells #[.slice none 0 0] 22)).alloc (.cells #[.int .i64 0] 25)) := ((Below.refl _ w).alloc (Nat.le_refl _) _).alloc (by simp) _
  have b0 : Boxed ((w.alloc (.cells #[.slice none 0 0] 22)).alloc (.cells #[.int .i64 0] 25)) w.heap.size 22 (.slice none 0 0) := (Boxed.new w _ _).alloc _
  have b1 : Boxed ((w.alloc (.cells #[.slice none 0 0] 22)).alloc (.cells #[.int .i64 0] 25)) (w.heap.size + 1) 25 (.int .i64 0) := by
    have := Boxed.new (w.alloc (.cells #[.slice none 0 0] 22)) 25 (.int .i64 0)
    rw [World.size_alloc] at this; exact this
  have HNO := Lib.hid (cOpen_notOk (s := s))
  have dz : decide ((s.size : Int) ≤ 1048576) = true := by simp; omega
  by_cases h15 : 15 ≤ s.size
  · have d15 : decide ((s.size : Int) ≥ 15) = true := by simp; omega
    by_cases hmg : s.extract 0 7 = bStr magicL
    · have em := ba_lists hmg
      by_cases hen : s.extract (s.size - 4) s.size = bStr endL
      · have ee := ba_lists hen
        have hok : cOk s = true := by unfold cOk; rw [decide_eq_true hmg, decide_eq_true hen, decide_eq_true h15]; rfl
        have HOK := Lib.hid hok
        clear hen hmg hok HNO
        unfold magicL at em
        unfold endL at ee
        go_enter_defers Try.func16, Try.ntmps16
        generalize hV : (w.alloc (.cells #[.slice none 0 0] 22)).alloc (.cells #[.int .i64 0] 25) = V at b0 b1 hbV
        go_wp2_with fail
        refine (need_ok 4 _).mono ?_
        rintro e w1 ⟨rfl, rfl⟩
        go_wp2_with fail
        refine (need_ok 7 _).mono ?_
        rintro e w1 ⟨rfl, rfl⟩
        clear hV
        go_wp2_with fail
        go_loopw [5, 32] (fun a i wr => ∃ k : Nat, k ≤ 4 ∧ i = .int .i64 k ∧ a = .int .i64 (numK s (s.size - 8) k : Nat) ∧ V = wr) (fun _ i _ => 4 - (intOf i).toNat)
        case atStart => exact ⟨0, by omega, rfl, rfl, rfl⟩
        case round =>
          obtain ⟨k, hk, rfl, rfl, rfl⟩ := hrel
          by_cases hlt : k < 4
          · have hk0 : k = 0 ∨ k = 1 ∨ k = 2 ∨ k = 3 := by omega
            rcases hk0 with rfl | rfl | rfl | rfl
            · have hor : bits .or .i64 ((numK s (s.size - 8) 0 : Nat) : Int) (wrap64 (wrap64 ((s[s.size - 8].toNat : Nat) : Int))) = ((numK s (s.size - 8) (0 + 1) : Nat) : Int) := by have h := numK_or s (s.size - 8) 0 (by omega) (by omega); simpa using h
              go_wp2_with fail
              exact ⟨⟨1, by omega, rfl, by first | rfl | rw [hor], trivial⟩, by simp [intOf]⟩
            · have hor : bits .or .i64 ((numK s (s.size - 8) 1 : Nat) : Int) (wrap64 (wrap64 ((s[s.size - 8 + 1].toNat : Nat) : Int) * 256)) = ((numK s (s.size - 8) (1 + 1) : Nat) : Int) := numK_or s (s.size - 8) 1 (by omega) (by omega)
              go_wp2_with fail
              exact ⟨⟨2, by omega, rfl, by first | rfl | rw [hor], trivial⟩, by simp [intOf]⟩
            · have hor : bits .or .i64 ((numK s (s.size - 8) 2 : Nat) : Int) (wrap64 (wrap64 ((s[s.size - 8 + 2].toNat : Nat) : Int) * 65536)) = ((numK s (s.size - 8) (2 + 1) : Nat) : Int) := numK_or s (s.size - 8) 2 (by omega) (by omega)
              go_wp2_with fail
              exact ⟨⟨3, by omega, rfl, by first | rfl | rw [hor], trivial⟩, by simp [intOf]⟩
            · have hor : bits .or .i64 ((numK s (s.size - 8) 3 : Nat) : Int) (wrap64 (wrap64 ((s[s.size - 8 + 3].toNat : Nat) : Int) * 16777216)) = ((numK s (s.size - 8) (3 + 1) : Nat) : Int) := numK_or s (s.size - 8) 3 (by omega) (by omega)
              go_wp2_with fail
              exact ⟨⟨4, by omega, rfl, by first | rfl | rw [hor], trivial⟩, by simp [intOf]⟩
          · obtain rfl : k = 4 := by omega
            rw [numK_4]
            have HOP := Lib.hid (cOpen_at HOK.out)
            have hq4 : num4 s (s.size - 8) < 4294967296 := by rw [← numK_4]; exact numK_lt s _ 4
            generalize num4 s (s.size - 8) = t at HOP hq4 ⊢
            clear em ee d15 HOK
            by_cases g1 : 7 ≤ t
            · by_cases g2 : t ≤ s.size - 8
              · have d1 : decide ((t : Int) ≥ 7) = true := by simp; omega
                have d2 : decide ((t : Int) ≤ (s.size : Int) - 8) = true := by simp; omega
                have hS : (s.extract 0 t).size = t := by rw [ByteArray.size_extract]; omega
                obtain ⟨S, hSS⟩ : ∃ S, s.extract 0 t = S := ⟨_, rfl⟩
                have FG := Lib.hid (fun (p : Nat) W => fget_any (s.extract 0 t) p W (by rw [hS]; unfold maxLen; omega))
                simp only [congrArg (fun x => fGet x) hSS] at FG
                have ON := Lib.hid (fun h => cOpenAt_none (s := s) (t := t) ⟨g1, g2⟩ h)
                have OS := Lib.hid (fun L h => cOpenAt_some (s := s) (t := t) (L := L) ⟨g1, g2⟩ h)
                have HG := Lib.hid (fun (p : Nat) ty d tt h => fGet_only (s := s.extract 0 t) (at' := p) («to» := tt) (ty := ty) (d := d) h)
                have hts : t ≤ s.size := by omega
                go_wp2_with fail
                refine (need_ok 9 _).mono ?_
                rintro e w2 ⟨rfl, rfl⟩
                rw [hSS] at ON OS HG hS
                have hr0 : cRead S s.size 7 = (cRead S s.size 7).map ([] ++ ·) := by simp
                clear hSS
                have HR0 := Lib.hid hr0
                have K0 := Lib.hid b0
                have K1 := Lib.hid b1
                have KB := Lib.hid hbV
                have HSZ := Lib.hid hS
                clear hr0 b0 b1 hbV d1 d2 hS dz
                go_wp2_with fail
                go_loopw [7] (fun f wr => ∃ (p k : Nat) (M : List Sec) (v : Value), f = .int .i64 p ∧ 7 ≤ p ∧ p ≤ t ∧ t ≤ p + k ∧ 7 + cSum M = p ∧ cRead S s.size 7 = (cRead S k p).map (M ++ ·) ∧ Below w.heap.size w wr ∧ Boxed wr w.heap.size 22 v ∧ SRow wr w.heap.size v M ∧ Boxed wr (w.heap.size + 1) 25 (.int .i64 0)) (fun f _ => t - (intOf f).toNat)
                case atStart => exact ⟨7, s.size, [], .slice none 0 0, rfl, by omega, g1, by omega, rfl, HR0.out, KB.out, K0.out, SRow.nil _ _, K1.out⟩
                case round =>
                  obtain ⟨p, k, M, v, rfl, hp7, hpt, hpk, hcs, hrd, hB, hb0, hrow, hb1⟩ := hrel
                  have HRD := Lib.hid hrd
                  have HB := Lib.hid hB
                  have H0 := Lib.hid hb0
                  have H1 := Lib.hid hb1
                  have HROW := Lib.hid hrow
                  have hzz := hB.size
                  clear hrd hB hb0 hb1 hrow K0 K1 KB HR0
                  by_cases hlt : p < t
                  · have d3 : decide ((p : Int) < (t : Int)) = true := by simp; omega
                    have FG1 := Lib.hid (FG.out p)
                    obtain ⟨k', rfl⟩ : ∃ j, k = j + 1 := ⟨k - 1, by omega⟩
                    obtain ⟨g, hg⟩ : ∃ g, fGet S p = g := ⟨_, rfl⟩
                    rw [hg] at FG1
                    have HGG := Lib.hid hg
                    obtain ⟨⟨ty, d⟩, tt, er⟩ := g
                    unfold FV at FG1
                    simp only at FG1
                    clear hg
                    by_cases he : er = 0
                    · subst he
                      have hst := cRead_ok (k := k') (by rw [HSZ.out]; exact hlt) HGG.out
                      obtain ⟨a', t', ha', ht', hat', hts', hfe, hex⟩ := HG.out p ty d tt HGG.out
                      have hap : a' = p := by omega
                      subst hap
                      subst ht'
                      rw [HSZ.out] at hts'
                      have hsx : cSize ((ty : Int), d) = t' - a' := by
                        have := congrArg ByteArray.size hex
                        rw [ByteArray.size_extract, bStr_size, HSZ.out] at this
                        rw [← fFrame_size]; simp only; omega
                      have HN := Lib.hid (show cRead S s.size 7 = (cRead S k' t').map ((M ++ [((ty : Int), d)]) ++ ·) by
                        rw [HRD.out, hst, Int.toNat_natCast, Option.map_map]
                        congr 1
                        funext q
                        simp)
                      have HCS := Lib.hid (show 7 + cSum (M ++ [((ty : Int), d)]) = t' by rw [cSum_app, show cSum [((ty : Int), d)] = cSize ((ty : Int), d) by simp [cSum], hsx]; omega)
                      have hml : M.length ≤ 1048576 := by have := data_le_cSum M; omega
                      clear hst hex hsx hfe ha' HRD
                      go_wp2_with fail
                      with_reducible refine (FG1.out wr).mono ?_
                      rintro e w4 ⟨rfl, hb4⟩
                      have B4 := HB.out.trans (hb4.mono hzz)
                      have J0 : Boxed w4 w.heap.size 22 v := (hb4.block _ H0.out.lt).trans H0.out
                      have J1 : Boxed w4 (w.heap.size + 1) 25 (.int .i64 0) := (hb4.block _ H1.out.lt).trans H1.out
                      have JR := HROW.out.later hb4
                      clear hb4 H0 H1 HROW HB
                      go_wp2_with fail
                      have BX := B4.alloc B4.size (.cells #[.int .i64 (ty : Nat), .string d] 36)
                      have X0 := J0.alloc (.cells #[.int .i64 (ty : Nat), .string d] 36)
                      have X1 := J1.alloc (.cells #[.int .i64 (ty : Nat), .string d] 36)
                      have XR := JR.later ((Below.refl _ w4).alloc (Nat.le_refl _) (.cells #[.int .i64 (ty : Nat), .string d] 36))
                      have XS : twoS (w4.alloc (.cells #[.int .i64 (ty : Nat), .string d] 36)) w4.heap.size ((ty : Int), d) := heap_alloc_new w4 _
                      generalize w4.alloc (.cells #[.int .i64 (ty : Nat), .string d] 36) = wx at BX X0 X1 XR XS ⊢
                      generalize w4.heap.size = X at XS ⊢
                      obtain ⟨c0, c1⟩ := XS.cells
                      simp only at c0 c1
                      have hc := X0.cell
                      refine (need_ok 8 _).mono ?_
                      rintro e w5 ⟨rfl, rfl⟩
                      have YR := Lib.hid (XR.later ((Below.refl _ wx).alloc (Nat.le_refl _) (.cells #[.int .i64 (ty : Nat), .string d] 36)))
                      have Y0 := Lib.hid (X0.alloc (.cells #[.int .i64 (ty : Nat), .string d] 36))
                      have Y1 := Lib.hid (X1.alloc (.cells #[.int .i64 (ty : Nat), .string d] 36))
                      have YB := Lib.hid (BX.alloc BX.size (.cells #[.int .i64 (ty : Nat), .string d] 36))
                      have YS : twoS (wx.alloc (.cells #[.int .i64 (ty : Nat), .string d] 36)) wx.heap.size ((ty : Int), d) := heap_alloc_new wx _
                      have YZ := Lib.hid YS
                      clear BX X0 X1 XR XS J0 J1 JR B4 YS
                      go_wp2_with (at_builtin; refine append_sec rfl (.tmp 72) (.tmp 74) rfl w.heap.size v M rfl YR.out wx.heap.size ((ty : Int), d) rfl YZ.out (by omega) YB.out.size ?_; intro v' w7 hrow7 hgr7 hbl7; have z0 : Boxed w7 w.heap.size 22 v := (hgr7.block _ Y0.out.lt (Y0.out.not_row (by decide) YR.out)).trans Y0.out; have z1 : Boxed w7 (w.heap.size + 1) 25 (.int .i64 0) := (hgr7.block _ Y1.out.lt (Y1.out.not_row (by decide) YR.out)).trans Y1.out; have hc7 := z0.cell; have hf7 := z0.frozen; have Z0 := Lib.hid z0; have Z1 := Lib.hid z1; have ZB := Lib.hid (YB.out.trans hbl7); have ZR := Lib.hid hrow7; obtain ⟨av, cv, rfl, _⟩ := hrow7.secs; clear z0 z1 hgr7 hbl7 hrow7)
                      have hln : (M ++ [((ty : Int), d)]).length = M.length + 1 := by simp
                      have hnr := Z0.out.not_row (by decide) ZR.out
                      rw [hln] at ZR hnr
                      exact ⟨⟨t', k', M ++ [((ty : Int), d)], .slice av (M.length + 1) cv, rfl, by omega, hts', by omega, HCS.out, HN.out, ZB.out.setCell (p := ⟨w.heap.size, 0, none⟩) (Nat.le_refl _) _, Z0.out.set _, ZR.out.at (fun k hk => set_heap (fun e => hnr (by rw [hk, e]))), Z1.out.other (by omega) _⟩, by simp [intOf]; omega⟩
                    · have hst := cRead_no (k := k') (by rw [HSZ.out]; exact hlt) HGG.out he
                      have HO : Hid (cOpen s = ([], 8) ∧ (8 : Int) = ((8 : Nat) : Int)) := Lib.hid ⟨by rw [HOP.out]; exact ON.out (by rw [HRD.out, hst]; rfl), rfl⟩
                      have de : ((er : Int) == 0) = false := by simp; omega
                      clear hst he
                      go_wp2_with fail
                      with_reducible refine (FG1.out wr).mono ?_
                      rintro e w4 ⟨rfl, hb4⟩
                      have B4 := HB.out.trans (hb4.mono hzz)
                      have J0 : Boxed w4 w.heap.size 22 v := (hb4.block _ H0.out.lt).trans H0.out
                      have J1 : Boxed w4 (w.heap.size + 1) 25 (.int .i64 0) := (hb4.block _ H1.out.lt).trans H1.out
                      clear hb4 H0 H1 HROW HB
                      go_wp2_with fail
                      have BX := B4.alloc B4.size (.cells #[.int .i64 (ty : Nat), .string d] 36)
                      have X0 := J0.alloc (.cells #[.int .i64 (ty : Nat), .string d] 36)
                      have X1 := J1.alloc (.cells #[.int .i64 (ty : Nat), .string d] 36)
                      generalize w4.alloc (.cells #[.int .i64 (ty : Nat), .string d] 36) = wx at BX X0 X1 ⊢
                      refine (need_bad 8 _).mono ?_
                      rintro e w5 ⟨rfl, rfl⟩
                      go_wp2_with fail
                      refine leaves_cons (f := 37) (args := #[.pointer (some ⟨w.heap.size, 0, none⟩), .pointer (some ⟨w.heap.size + 1, 0, none⟩)]) (by simp) (by simp [go_sem]) ?_
                      have k2 := X0.set (.slice none 0 0)
                      have k3 := X1.other (B' := w.heap.size) (by omega) (.slice none 0 0)
                      refine (openCatch_panics ⟨w.heap.size, 0, none⟩ ⟨w.heap.size + 1, 0, none⟩ _ 0 8 [] wx X0.cell X0.frozen k3.cell k3.frozen).mono ?_
                      rintro e u' w'' ⟨rfl, rfl, rfl⟩
                      have k4 := k3.set (.int .i64 8)
                      have k5 := k2.other (B' := w.heap.size + 1) (by omega) (.int .i64 8)
                      have c4 := k4.cell
                      have c5 := k5.cell
                      simp [Leaves, settle, results, Try.results16, go_sem, c4, c5]
                      exact OpenP.err HO.out ((BX.setCell (p := ⟨w.heap.size, 0, none⟩) (Nat.le_refl _) _).setCell (p := ⟨w.heap.size + 1, 0, none⟩) (by simp) _)
                  · obtain rfl : p = t := by omega
                    have hd3 : decide ((p : Int) < (p : Int)) = false := by simp
                    have hen : cRead S s.size 7 = some M := by rw [HRD.out, cRead_end (by rw [HSZ.out]; exact Nat.le_refl _)]; simp
                    have HQ := Lib.hid (HOP.out.trans (OS.out M hen))
                    have hml : M.length ≤ 1048576 := by have := data_le_cSum M; omega
                    have hms : cSum M ≤ 1100000 := by omega
                    obtain ⟨a, c, rfl, hsec⟩ := HROW.out.secs
                    have HM := Lib.hid hsec
                    have OA := Lib.hid (fun W h => ordered_any a c M W h (by unfold maxLen; omega))
                    have BH := Lib.hid (fun W h => cbehind_any a c M W h hms)
                    clear hen HRD HOP OS ON HG FG hsec
                    have hc0 := H0.out.cell
                    by_cases ho : cOrd M = true
                    · rw [ho] at OA
                      rw [if_pos ho] at HQ
                      clear ho
                      by_cases hbh : s.extract p s.size = bStr (cBehind M)
                      · have HQ2 : Hid (cOpen s = (M, 0)) := Lib.hid (by rw [HQ.out, if_pos hbh])
                        have heq : ((s.extract p s.size).toList == (bStr (cBehind M)).toList) = true := by rw [hbh]; simp
                        have HNL : Hid (M.length = M.length) := Lib.hid rfl
                        obtain ⟨n, hn⟩ : ∃ n, M.length = n := ⟨_, rfl⟩
                        have HN := Lib.hid hn
                        rw [hn] at OA BH H0 hc0 hml
                        clear hbh HQ hn HNL
                        generalize bStr (cBehind M) = bh at BH heq
                        go_wp2_with fail
                        refine (OA.out wr HM.out).mono ?_
                        rintro e w4 ⟨rfl, hb4⟩
                        have B4 := HB.out.trans (hb4.mono hzz)
                        have J0 : Boxed w4 w.heap.size 22 (.slice a n c) := (hb4.block _ H0.out.lt).trans H0.out
                        have J1 : Boxed w4 (w.heap.size + 1) 25 (.int .i64 0) := (hb4.block _ H1.out.lt).trans H1.out
                        have J2 := HM.out.later hb4
                        have JR := Lib.hid (HROW.out.later hb4)
                        clear hb4 H0 H1 HB hc0 HM HROW
                        go_wp2_with fail
                        refine (need_ok 20 _).mono ?_
                        rintro e w5 ⟨rfl, rfl⟩
                        have hc4 := J0.cell
                        go_wp2_with fail
                        refine wp_region_st (by kernel_rfl) (fun i => match i with | 0 => .string s | 1 => .int .i64 p | 2 => .string (s.extract p s.size) | 3 => .slice a n c | 4 => .string bh | 5 => .bool true | 6 => .tuple #[] | _ => undef)
                          (fun D V => Below w4.heap.size w4 V) rfl ⟨rfl, rfl, rfl, Nat.le_refl _, fun _ _ => rfl⟩ ⟨?o0, ?o1, ?o2, ?o3, ?o4, ?o5, ?o6, trivial⟩ ?fin
                        case o0 =>
                          intro D a' V hD hdep hcl hav hws
                          refine ⟨rfl, ?_⟩
                          have e0 : a'.tmps[0]? = some (.string s) := hav.oldAt 0 rfl
                          unfold Oper.wp
                          simpa [go_sem, updD, e0] using hws
                        case o1 =>
                          intro D a' V hD hdep hcl hav hws
                          refine ⟨rfl, ?_⟩
                          have e0 : a'.tmps[5]? = some (.int .i64 p) := hav.oldAt 5 rfl
                          unfold Oper.wp
                          simpa [go_sem, updD, e0] using hws
                        case o2 =>
                          intro D a' V hD hdep hcl hav hws
                          refine ⟨rfl, ?_⟩
                          have d0 : D 0 = true := hdep ⟨0, .data⟩ (by simp) rfl
                          have d1 : D 1 = true := hdep ⟨1, .data⟩ (by simp) rfl
                          have e80 : a'.tmps[80]? = some (.string s) := hav.val 0 _ 80 rfl rfl d0
                          have e81 : a'.tmps[81]? = some (.int .i64 p) := hav.val 1 _ 81 rfl rfl d1
                          unfold Oper.wp
                          simpa [go_sem, updD, e80, e81, hts] using hws
                        case o3 =>
                          intro D a' V hD hdep hcl hav hws
                          refine ⟨rfl, ?_⟩
                          have e2 : a'.tmps[2]? = some (.pointer (some ⟨w.heap.size, 0, none⟩)) := hav.oldAt 2 rfl
                          have hc : V.cell? ⟨w.heap.size, 0, none⟩ = some (.slice a n c) := (hws.cell (p := ⟨w.heap.size, 0, none⟩) J0.lt).trans J0.cell
                          unfold Oper.wp
                          simpa [go_sem, updD, e2, hc] using hws
                        case o4 =>
                          intro D a' V hD hdep hcl hav hws
                          refine ⟨rfl, ?_⟩
                          have d3 : D 3 = true := hdep ⟨3, .data⟩ (by simp) rfl
                          have e83 : a'.tmps[83]? = some (.slice a n c) := hav.val 3 _ 83 rfl rfl d3
                          have hsec := J2.later hws
                          unfold Oper.wp
                          simp [go_sem, e83]
                          refine (BH.out V hsec).mono ?_
                          rintro e V' ⟨rfl, hb⟩
                          exact ⟨rfl, hws.trans (hb.mono hws.size)⟩
                        case o5 =>
                          intro D a' V hD hdep hcl hav hws
                          refine ⟨rfl, ?_⟩
                          have d2 : D 2 = true := hdep ⟨2, .data⟩ (by simp) rfl
                          have d4 : D 4 = true := hdep ⟨4, .data⟩ (by simp) rfl
                          have e82 : a'.tmps[82]? = some (.string (s.extract p s.size)) := hav.val 2 _ 82 rfl rfl d2
                          have e84 : a'.tmps[84]? = some (.string bh) := hav.val 4 _ 84 rfl rfl d4
                          unfold Oper.wp
                          simpa [go_sem, updD, e82, e84, heq] using hws
                        case o6 =>
                          intro D a' V hD hdep hcl hav hws
                          refine ⟨rfl, ?_⟩
                          have d5 : D 5 = true := hdep ⟨5, .data⟩ (by simp) rfl
                          have e85 : a'.tmps[85]? = some (.bool true) := hav.val 5 _ 85 rfl rfl d5
                          unfold Oper.wp
                          simp [go_sem, e85]
                          refine (need_ok 9 _).mono ?_
                          rintro e V' ⟨rfl, rfl⟩
                          exact ⟨rfl, hws⟩
                        case fin =>
                          intro a' V hav hws
                          have ha' := hav.final rfl
                          have JB := B4.trans (hws.mono B4.size)
                          have JR2 := Lib.hid (JR.out.later hws)
                          have L0 : Boxed V w.heap.size 22 (.slice a n c) := (hws.block _ J0.lt).trans J0
                          have L1 : Boxed V (w.heap.size + 1) 25 (.int .i64 0) := (hws.block _ J1.lt).trans J1
                          have q0 := L0.cell
                          have q1 := L0.frozen
                          have m0 := (L1.other (B' := w.heap.size) (by omega) (.slice a n c)).cell
                          have m1 := (L1.other (B' := w.heap.size) (by omega) (.slice a n c)).frozen
                          have M0 := Lib.hid ((L0.set (.slice a n c)).other (B' := w.heap.size + 1) (by omega) (.int .i64 0))
                          have M1 := Lib.hid ((L1.other (B' := w.heap.size) (by omega) (.slice a n c)).set (.int .i64 0))
                          have MB := Lib.hid ((JB.setCell (p := ⟨w.heap.size, 0, none⟩) (Nat.le_refl _) (.slice a n c)).setCell (p := ⟨w.heap.size + 1, 0, none⟩) (by simp) (.int .i64 0))
                          have nr0 := L0.not_row (by decide) JR2.out
                          have nr1 := L1.not_row (by decide) JR2.out
                          have MS := Lib.hid ((JR2.out.at (w' := V.setCell ⟨w.heap.size, 0, none⟩ (.slice a n c)) (fun k hk => set_heap (fun e => nr0 (by rw [hk, e])))).at (w' := (V.setCell ⟨w.heap.size, 0, none⟩ (.slice a n c)).setCell ⟨w.heap.size + 1, 0, none⟩ (.int .i64 0)) (fun k hk => set_heap (fun e => nr1 (by rw [hk, e]))))
                          clear hav hws JB L0 L1 nr0 nr1
                          subst ha'
                          simp only [putAll, Act.put, List.setIfInBounds_toArray, List.set_cons_succ, List.set_cons_zero]
                          go_wp2_with fail
                          refine leaves_cons (f := 37) (args := #[.pointer (some ⟨w.heap.size, 0, none⟩), .pointer (some ⟨w.heap.size + 1, 0, none⟩)]) (by simp) (by simp [go_sem]) ?_
                          refine (openCatch_idle _ _ _).mono ?_
                          rintro e u' w'' ⟨rfl, rfl, rfl⟩
                          have c4 := M0.out.cell
                          have c5 := M1.out.cell
                          simp [Leaves, settle, results, Try.results16, go_sem, c4, c5]
                          obtain ⟨a2, c2, hsl, hse⟩ := MS.out.secs
                          simp only [Value.slice.injEq] at hsl
                          obtain ⟨rfl, -, rfl⟩ := hsl
                          refine ⟨⟨a, c, ?_, ?_⟩, MB.out⟩
                          · rw [HQ2.out, HN.out]; rfl
                          · rw [HQ2.out]; exact hse
                      · have HO : Hid (cOpen s = ([], 9) ∧ (9 : Int) = ((9 : Nat) : Int)) := Lib.hid ⟨by rw [HQ.out, if_neg hbh], rfl⟩
                        have heq := str_neq hbh
                        generalize bStr (cBehind M) = bh at BH heq
                        clear HROW
                        generalize M.length = n at *
                        clear hbh HQ
                        go_wp2_with fail
                        refine (OA.out wr HM.out).mono ?_
                        rintro e w4 ⟨rfl, hb4⟩
                        have B4 := HB.out.trans (hb4.mono hzz)
                        have J0 : Boxed w4 w.heap.size 22 (.slice a n c) := (hb4.block _ H0.out.lt).trans H0.out
                        have J1 : Boxed w4 (w.heap.size + 1) 25 (.int .i64 0) := (hb4.block _ H1.out.lt).trans H1.out
                        have J2 := HM.out.later hb4
                        clear hb4 H0 H1 HB hc0 HM
                        go_wp2_with fail
                        refine (need_ok 20 _).mono ?_
                        rintro e w5 ⟨rfl, rfl⟩
                        have hc4 := J0.cell
                        go_wp2_with fail
                        refine wp_region_st (by kernel_rfl) (fun i => match i with | 0 => .string s | 1 => .int .i64 p | 2 => .string (s.extract p s.size) | 3 => .slice a n c | 4 => .string bh | 5 => .bool false | 6 => .tuple #[] | _ => undef)
                          (fun D V => Below w4.heap.size w4 V ∧ D 6 = false) rfl ⟨⟨rfl, rfl, rfl, Nat.le_refl _, fun _ _ => rfl⟩, rfl⟩ ⟨?o0, ?o1, ?o2, ?o3, ?o4, ?o5, ?o6, trivial⟩ ?fin
                        case o0 =>
                          intro D a' V hD hdep hcl hav hws
                          obtain ⟨hws, h6⟩ := hws
                          refine ⟨rfl, ?_⟩
                          have e0 : a'.tmps[0]? = some (.string s) := hav.oldAt 0 rfl
                          unfold Oper.wp
                          simpa [go_sem, updD, e0] using And.intro hws h6
                        case o1 =>
                          intro D a' V hD hdep hcl hav hws
                          obtain ⟨hws, h6⟩ := hws
                          refine ⟨rfl, ?_⟩
                          have e0 : a'.tmps[5]? = some (.int .i64 p) := hav.oldAt 5 rfl
                          unfold Oper.wp
                          simpa [go_sem, updD, e0] using And.intro hws h6
                        case o2 =>
                          intro D a' V hD hdep hcl hav hws
                          obtain ⟨hws, h6⟩ := hws
                          refine ⟨rfl, ?_⟩
                          have d0 : D 0 = true := hdep ⟨0, .data⟩ (by simp) rfl
                          have d1 : D 1 = true := hdep ⟨1, .data⟩ (by simp) rfl
                          have e80 : a'.tmps[80]? = some (.string s) := hav.val 0 _ 80 rfl rfl d0
                          have e81 : a'.tmps[81]? = some (.int .i64 p) := hav.val 1 _ 81 rfl rfl d1
                          unfold Oper.wp
                          simpa [go_sem, updD, e80, e81, hts] using And.intro hws h6
                        case o3 =>
                          intro D a' V hD hdep hcl hav hws
                          obtain ⟨hws, h6⟩ := hws
                          refine ⟨rfl, ?_⟩
                          have e2 : a'.tmps[2]? = some (.pointer (some ⟨w.heap.size, 0, none⟩)) := hav.oldAt 2 rfl
                          have hc : V.cell? ⟨w.heap.size, 0, none⟩ = some (.slice a n c) := (hws.cell (p := ⟨w.heap.size, 0, none⟩) J0.lt).trans J0.cell
                          unfold Oper.wp
                          simpa [go_sem, updD, e2, hc] using And.intro hws h6
                        case o4 =>
                          intro D a' V hD hdep hcl hav hws
                          obtain ⟨hws, h6⟩ := hws
                          refine ⟨rfl, ?_⟩
                          have d3 : D 3 = true := hdep ⟨3, .data⟩ (by simp) rfl
                          have e83 : a'.tmps[83]? = some (.slice a n c) := hav.val 3 _ 83 rfl rfl d3
                          have hsec := J2.later hws
                          unfold Oper.wp
                          simp [go_sem, e83]
                          refine (BH.out V hsec).mono ?_
                          rintro e V' ⟨rfl, hb⟩
                          exact ⟨rfl, hws.trans (hb.mono hws.size), h6⟩
                        case o5 =>
                          intro D a' V hD hdep hcl hav hws
                          obtain ⟨hws, h6⟩ := hws
                          refine ⟨rfl, ?_⟩
                          have d2 : D 2 = true := hdep ⟨2, .data⟩ (by simp) rfl
                          have d4 : D 4 = true := hdep ⟨4, .data⟩ (by simp) rfl
                          have e82 : a'.tmps[82]? = some (.string (s.extract p s.size)) := hav.val 2 _ 82 rfl rfl d2
                          have e84 : a'.tmps[84]? = some (.string bh) := hav.val 4 _ 84 rfl rfl d4
                          unfold Oper.wp
                          simpa [go_sem, updD, e82, e84, heq] using And.intro hws h6
                        case o6 =>
                          intro D a' V hD hdep hcl hav hws
                          obtain ⟨hws, h6⟩ := hws
                          refine ⟨rfl, ?_⟩
                          have d5 : D 5 = true := hdep ⟨5, .data⟩ (by simp) rfl
                          have e85 : a'.tmps[85]? = some (.bool false) := hav.val 5 _ 85 rfl rfl d5
                          have e2 : a'.tmps[2]? = some (.pointer (some ⟨w.heap.size, 0, none⟩)) := hav.oldAt 2 rfl
                          have e3 : a'.tmps[3]? = some (.pointer (some ⟨w.heap.size + 1, 0, none⟩)) := hav.oldAt 3 rfl
                          have hdf := hav.defers
                          simp only at hdf
                          have JB := B4.trans (hws.mono B4.size)
                          have L0 : Boxed V w.heap.size 22 (.slice a n c) := (hws.block _ J0.lt).trans J0
                          have L1 : Boxed V (w.heap.size + 1) 25 (.int .i64 0) := (hws.block _ J1.lt).trans J1
                          clear hav hws
                          obtain ⟨tm, df⟩ := a'
                          simp only at hdf e2 e3 e85
                          subst hdf
                          unfold Oper.wp
                          simp [go_sem, e85]
                          refine (need_bad 9 _).mono ?_
                          rintro e V' ⟨rfl, rfl⟩
                          show bodyPostD _ _ _ _ _ _
                          refine leaves_cons (f := 37) (args := #[.pointer (some ⟨w.heap.size, 0, none⟩), .pointer (some ⟨w.heap.size + 1, 0, none⟩)]) (by simp) (by simp [go_sem]) ?_
                          have k2 := L0.set (.slice none 0 0)
                          have k3 := L1.other (B' := w.heap.size) (by omega) (.slice none 0 0)
                          refine (openCatch_panics ⟨w.heap.size, 0, none⟩ ⟨w.heap.size + 1, 0, none⟩ _ 0 9 [] V L0.cell L0.frozen k3.cell k3.frozen).mono ?_
                          rintro e u' w'' ⟨rfl, rfl, rfl⟩
                          have k4 := k3.set (.int .i64 9)
                          have k5 := k2.other (B' := w.heap.size + 1) (by omega) (.int .i64 9)
                          have c4 := k4.cell
                          have c5 := k5.cell
                          simp [Leaves, settle, results, Try.results16, go_sem, c4, c5, e2, e3]
                          exact OpenP.err HO.out ((JB.setCell (p := ⟨w.heap.size, 0, none⟩) (Nat.le_refl _) _).setCell (p := ⟨w.heap.size + 1, 0, none⟩) (by simp) _)
                        case fin =>
                          intro a' V hav hws
                          simp at hws
                    · rw [show cOrd M = false by simpa using ho] at OA
                      rw [if_neg ho] at HQ
                      have HO : Hid (cOpen s = ([], 20) ∧ (20 : Int) = ((20 : Nat) : Int)) := Lib.hid ⟨HQ.out, rfl⟩
                      clear ho HQ HROW
                      generalize M.length = n at *
                      go_wp2_with fail
                      refine (OA.out wr HM.out).mono ?_
                      rintro e w4 ⟨rfl, hb4⟩
                      have B4 := HB.out.trans (hb4.mono hzz)
                      have J0 : Boxed w4 w.heap.size 22 (.slice a n c) := (hb4.block _ H0.out.lt).trans H0.out
                      have J1 : Boxed w4 (w.heap.size + 1) 25 (.int .i64 0) := (hb4.block _ H1.out.lt).trans H1.out
                      clear hb4 H0 H1 HB hc0
                      go_wp2_with fail
                      refine (need_bad 20 _).mono ?_
                      rintro e w5 ⟨rfl, rfl⟩
                      go_wp2_with fail
                      refine leaves_cons (f := 37) (args := #[.pointer (some ⟨w.heap.size, 0, none⟩), .pointer (some ⟨w.heap.size + 1, 0, none⟩)]) (by simp) (by simp [go_sem]) ?_
                      have k2 := J0.set (.slice none 0 0)
                      have k3 := J1.other (B' := w.heap.size) (by omega) (.slice none 0 0)
                      refine (openCatch_panics ⟨w.heap.size, 0, none⟩ ⟨w.heap.size + 1, 0, none⟩ _ 0 20 [] w4 J0.cell J0.frozen k3.cell k3.frozen).mono ?_
                      rintro e u' w'' ⟨rfl, rfl, rfl⟩
                      have k4 := k3.set (.int .i64 20)
                      have k5 := k2.other (B' := w.heap.size + 1) (by omega) (.int .i64 20)
                      have c4 := k4.cell
                      have c5 := k5.cell
                      simp [Leaves, settle, results, Try.results16, go_sem, c4, c5]
                      exact OpenP.err HO.out ((B4.setCell (p := ⟨w.heap.size, 0, none⟩) (Nat.le_refl _) _).setCell (p := ⟨w.heap.size + 1, 0, none⟩) (by simp) _)
              · have HO : Hid (cOpen s = ([], 9) ∧ (9 : Int) = ((9 : Nat) : Int)) := Lib.hid ⟨by rw [HOP.out, cOpenAt_out (by omega)], rfl⟩
                have d1 : decide ((t : Int) ≥ 7) = true := by simp; omega
                have d2 : decide ((t : Int) ≤ (s.size : Int) - 8) = false := by simp; omega
                clear HOP
                go_wp2_with fail
                refine (need_bad 9 _).mono ?_
                rintro e w2 ⟨rfl, rfl⟩
                go_wp2_with fail
                refine leaves_cons (f := 37) (args := #[.pointer (some ⟨w.heap.size, 0, none⟩), .pointer (some ⟨w.heap.size + 1, 0, none⟩)]) (by simp) (by simp [go_sem]) ?_
                have k2 := b0.set (.slice none 0 0)
                have k3 := b1.other (B' := w.heap.size) (by omega) (.slice none 0 0)
                refine (openCatch_panics ⟨w.heap.size, 0, none⟩ ⟨w.heap.size + 1, 0, none⟩ _ 0 9 [] V b0.cell b0.frozen k3.cell k3.frozen).mono ?_
                rintro e u' w'' ⟨rfl, rfl, rfl⟩
                have k4 := k3.set (.int .i64 9)
                have k5 := k2.other (B' := w.heap.size + 1) (by omega) (.int .i64 9)
                have c4 := k4.cell
                have c5 := k5.cell
                simp [Leaves, settle, results, Try.results16, go_sem, c4, c5]
                exact OpenP.err HO.out ((hbV.setCell (p := ⟨w.heap.size, 0, none⟩) (Nat.le_refl _) _).setCell (p := ⟨w.heap.size + 1, 0, none⟩) (by simp) _)
            · have HO : Hid (cOpen s = ([], 9) ∧ (9 : Int) = ((9 : Nat) : Int)) := Lib.hid ⟨by rw [HOP.out, cOpenAt_out (by omega)], rfl⟩
              have d1 : decide ((t : Int) ≥ 7) = false := by simp; omega
              clear HOP g1
              go_wp2_with fail
              refine (need_bad 9 _).mono ?_
              rintro e w2 ⟨rfl, rfl⟩
              go_wp2_with fail
              refine leaves_cons (f := 37) (args := #[.pointer (some ⟨w.heap.size, 0, none⟩), .pointer (some ⟨w.heap.size + 1, 0, none⟩)]) (by simp) (by simp [go_sem]) ?_
              have k2 := b0.set (.slice none 0 0)
              have k3 := b1.other (B' := w.heap.size) (by omega) (.slice none 0 0)
              refine (openCatch_panics ⟨w.heap.size, 0, none⟩ ⟨w.heap.size + 1, 0, none⟩ _ 0 9 [] V b0.cell b0.frozen k3.cell k3.frozen).mono ?_
              rintro e u' w'' ⟨rfl, rfl, rfl⟩
              have k4 := k3.set (.int .i64 9)
              have k5 := k2.other (B' := w.heap.size + 1) (by omega) (.int .i64 9)
              have c4 := k4.cell
              have c5 := k5.cell
              simp [Leaves, settle, results, Try.results16, go_sem, c4, c5]
              exact OpenP.err HO.out ((hbV.setCell (p := ⟨w.heap.size, 0, none⟩) (Nat.le_refl _) _).setCell (p := ⟨w.heap.size + 1, 0, none⟩) (by simp) _)
      · have ee := ba_unlike hen
        have HO : Hid (cOpen s = ([], 7) ∧ (7 : Int) = ((7 : Nat) : Int)) := Lib.hid ⟨HNO.out (by unfold cOk; rw [decide_eq_false hen]; simp), rfl⟩
        clear hen hmg
        unfold magicL at em
        unfold endL at ee
        go_enter_defers Try.func16, Try.ntmps16
        generalize hV : (w.alloc (.cells #[.slice none 0 0] 22)).alloc (.cells #[.int .i64 0] 25) = V at b0 b1 hbV
        go_wp2_with fail
        refine (need_ok 4 _).mono ?_
        rintro e w1 ⟨rfl, rfl⟩
        go_wp2_with fail
        refine (need_bad 7 _).mono ?_
        rintro e w2 ⟨rfl, rfl⟩
        go_wp2_with fail
        refine leaves_cons (f := 37) (args := #[.pointer (some ⟨w.heap.size, 0, none⟩), .pointer (some ⟨w.heap.size + 1, 0, none⟩)]) (by simp) (by simp [go_sem]) ?_
        clear hV
        have k2 := b0.set (.slice none 0 0)
        have k3 := b1.other (B' := w.heap.size) (by omega) (.slice none 0 0)
        refine (openCatch_panics ⟨w.heap.size, 0, none⟩ ⟨w.heap.size + 1, 0, none⟩ _ 0 7 [] V b0.cell b0.frozen k3.cell k3.frozen).mono ?_
        rintro e u' w'' ⟨rfl, rfl, rfl⟩
        have k4 := k3.set (.int .i64 7)
        have k5 := k2.other (B' := w.heap.size + 1) (by omega) (.int .i64 7)
        have c4 := k4.cell
        have c5 := k5.cell
        simp [Leaves, settle, results, Try.results16, go_sem, c4, c5]
        exact OpenP.err HO.out ((hbV.setCell (p := ⟨w.heap.size, 0, none⟩) (Nat.le_refl _) _).setCell (p := ⟨w.heap.size + 1, 0, none⟩) (by simp) _)
    · have em := ba_unlike hmg
      have HO : Hid (cOpen s = ([], 7) ∧ (7 : Int) = ((7 : Nat) : Int)) := Lib.hid ⟨HNO.out (by unfold cOk; rw [decide_eq_false hmg]; simp), rfl⟩
      clear hmg
      unfold magicL at em
      go_enter_defers Try.func16, Try.ntmps16
      generalize hV : (w.alloc (.cells #[.slice none 0 0] 22)).alloc (.cells #[.int .i64 0] 25) = V at b0 b1 hbV
      go_wp2_with fail
      refine (need_ok 4 _).mono ?_
      rintro e w1 ⟨rfl, rfl⟩
      go_wp2_with fail
      refine (need_bad 7 _).mono ?_
      rintro e w2 ⟨rfl, rfl⟩
      go_wp2_with fail
      refine leaves_cons (f := 37) (args := #[.pointer (some ⟨w.heap.size, 0, none⟩), .pointer (some ⟨w.heap.size + 1, 0, none⟩)]) (by simp) (by simp [go_sem]) ?_
      clear hV
      have k2 := b0.set (.slice none 0 0)
      have k3 := b1.other (B' := w.heap.size) (by omega) (.slice none 0 0)
      refine (openCatch_panics ⟨w.heap.size, 0, none⟩ ⟨w.heap.size + 1, 0, none⟩ _ 0 7 [] V b0.cell b0.frozen k3.cell k3.frozen).mono ?_
      rintro e u' w'' ⟨rfl, rfl, rfl⟩
      have k4 := k3.set (.int .i64 7)
      have k5 := k2.other (B' := w.heap.size + 1) (by omega) (.int .i64 7)
      have c4 := k4.cell
      have c5 := k5.cell
      simp [Leaves, settle, results, Try.results16, go_sem, c4, c5]
      exact OpenP.err HO.out ((hbV.setCell (p := ⟨w.heap.size, 0, none⟩) (Nat.le_refl _) _).setCell (p := ⟨w.heap.size + 1, 0, none⟩) (by simp) _)
  · have d15 : decide ((s.size : Int) ≥ 15) = false := by simp; omega
    have HO : Hid (cOpen s = ([], 7) ∧ (7 : Int) = ((7 : Nat) : Int)) := Lib.hid ⟨HNO.out (by unfold cOk; rw [decide_eq_false h15]; rfl), rfl⟩
    go_enter_defers Try.func16, Try.ntmps16
    generalize hV : (w.alloc (.cells #[.slice none 0 0] 22)).alloc (.cells #[.int .i64 0] 25) = V at b0 b1 hbV
    go_wp2_with fail
    refine (need_ok 4 _).mono ?_
    rintro e w1 ⟨rfl, rfl⟩
    go_wp2_with fail
    refine (need_bad 7 _).mono ?_
    rintro e w2 ⟨rfl, rfl⟩
    go_wp2_with fail
    refine leaves_cons (f := 37) (args := #[.pointer (some ⟨w.heap.size, 0, none⟩), .pointer (some ⟨w.heap.size + 1, 0, none⟩)]) (by simp) (by simp [go_sem]) ?_
    clear hV
    have k2 := b0.set (.slice none 0 0)
    have k3 := b1.other (B' := w.heap.size) (by omega) (.slice none 0 0)
    refine (openCatch_panics ⟨w.heap.size, 0, none⟩ ⟨w.heap.size + 1, 0, none⟩ _ 0 7 [] V b0.cell b0.frozen k3.cell k3.frozen).mono ?_
    rintro e u' w'' ⟨rfl, rfl, rfl⟩
    have k4 := k3.set (.int .i64 7)
    have k5 := k2.other (B' := w.heap.size + 1) (by omega) (.int .i64 7)
    have c4 := k4.cell
    have c5 := k5.cell
    simp [Leaves, settle, results, Try.results16, go_sem, c4, c5]
    exact OpenP.err HO.out ((hbV.setCell (p := ⟨w.heap.size, 0, none⟩) (Nat.le_refl _) _).setCell (p := ⟨w.heap.size + 1, 0, none⟩) (by simp) _)
end Go.Proofs.Ytanbifhhoeaofaa

