/- Sections in one, with an index, and how they are read: plain laws, no program in sight. No conditions. -/
import Derived.Test.YtanbifhhoeaofaaFramePlain
namespace Go.Proofs.Ytanbifhhoeaofaa
set_option linter.unusedVariables false
open Go Go.RowKit

abbrev Sec := Int × ByteArray
def dSum (L : List Sec) : Nat := (L.map fun x => x.2.size).sum
def fewC (L : List Sec) : Bool := decide (L.length ≤ 41) && decide (dSum L ≤ 3000)
/-- how many bytes a section's frame has -/
def cSize (x : Sec) : Nat := (fHead x.1 x.2).length + x.2.size + 4
def cSum (L : List Sec) : Nat := (L.map cSize).sum
theorem cSum_cons (x : Sec) (L : List Sec) : cSum (x :: L) = cSize x + cSum L := by simp [cSum]
theorem cSum_app (L M : List Sec) : cSum (L ++ M) = cSum L + cSum M := by simp [cSum]
theorem dSum_app (L M : List Sec) : dSum (L ++ M) = dSum L + dSum M := by simp [dSum]
def u64I (n : Int) : Nat := (n % 18446744073709551616).toNat
/-- sections, and where their frames begin -/
def placesL : Nat → List Sec → List (Nat × Sec)
  | _, [] => []
  | a, x :: L => (a, x) :: placesL (a + cSize x) L
def secP (p : Nat × Sec) : List UInt8 := lebL (u64I p.2.1) ++ lebL p.1 ++ lebL (cSize p.2)
def cIndex (L : List Sec) : List UInt8 := lebL L.length ++ ((placesL 7 L).map secP).flatten
def cEnd (L : List Sec) : Nat := 7 + cSum L
def endL : List UInt8 := [69, 78, 68, 46]
def magicL : List UInt8 := [77, 85, 84, 65, 82, 67, 1]
def cBehind (L : List Sec) : List UInt8 := cIndex L ++ crcTail (cIndex L) ++ bytes4 (cEnd L) ++ endL
def framesL (L : List Sec) : List UInt8 := (L.map fun x => fFrame x.1 x.2).flatten
def cBytes (L : List Sec) : List UInt8 := magicL ++ framesL L ++ cBehind L
def ordFrom : Int → List Sec → Bool
  | _, [] => true
  | p, x :: L => decide (p < x.1) && (decide (x.1 ≤ 255) && ordFrom x.1 L)
def cOrd (L : List Sec) : Bool := ordFrom 0 L && (decide (1 ≤ L.length) && decide (L.length ≤ 16))
def ctE (L : List Sec) : Nat := if cOrd L = true then 0 else 20
def ctS (L : List Sec) : ByteArray := if cOrd L = true then bStr (cBytes L) else ⟨#[]⟩

theorem placesL_len (a : Nat) (L : List Sec) : (placesL a L).length = L.length := by
  induction L generalizing a with
  | nil => rfl
  | cons x L ih => simp [placesL, ih]
theorem placesL_at (a : Nat) (L : List Sec) (k : Nat) {x : Sec} (h : L[k]? = some x) : (placesL a L)[k]? = some (a + cSum (L.take k), x) := by
  induction L generalizing a k with
  | nil => simp at h
  | cons y L ih =>
    cases k with
    | zero => simp at h; subst h; simp [placesL, cSum]
    | succ k =>
      have := ih (a + cSize y) k (by simpa using h)
      rw [placesL, List.getElem?_cons_succ, this, List.take_succ_cons, cSum_cons, Nat.add_assoc]
theorem fFrame_size (x : Sec) : (fFrame x.1 x.2).length = cSize x := fFrame_len ..
theorem framesL_len (L : List Sec) : (framesL L).length = cSum L := by
  induction L with
  | nil => rfl
  | cons x L ih =>
    have : framesL (x :: L) = fFrame x.1 x.2 ++ framesL L := by simp [framesL]
    rw [this, List.length_append, ih, cSum_cons, fFrame_size]
theorem framesL_cons (x : Sec) (L : List Sec) : framesL (x :: L) = fFrame x.1 x.2 ++ framesL L := by simp [framesL]
theorem framesL_app (L M : List Sec) : framesL (L ++ M) = framesL L ++ framesL M := by simp [framesL]
theorem ordFrom_at {p : Int} {L : List Sec} (h : ordFrom p L = true) : ∀ x ∈ L, p < x.1 ∧ x.1 ≤ 255 := by
  induction L generalizing p with
  | nil => intro x hx; cases hx
  | cons y L ih =>
    simp only [ordFrom, Bool.and_eq_true, decide_eq_true_eq] at h
    intro x hx
    rcases List.mem_cons.1 hx with rfl | hx
    · exact ⟨h.1, h.2.1⟩
    · have := ih h.2.2 x hx
      exact ⟨by omega, this.2⟩
theorem cOrd_ok {L : List Sec} (h : cOrd L = true) : (∀ x ∈ L, 0 < x.1 ∧ x.1 ≤ 255) ∧ 1 ≤ L.length ∧ L.length ≤ 16 := by
  simp only [cOrd, Bool.and_eq_true, decide_eq_true_eq] at h
  exact ⟨ordFrom_at h.1, h.2.1, h.2.2⟩
theorem dSum_mem {L : List Sec} {x : Sec} (h : x ∈ L) : x.2.size ≤ dSum L := by
  induction L with
  | nil => cases h
  | cons y L ih =>
    have e : dSum (y :: L) = y.2.size + dSum L := by simp [dSum]
    rcases List.mem_cons.1 h with rfl | h
    · omega
    · have := ih h; omega
theorem cSize_le {x : Sec} (h : x.2.size ≤ 1000000000) : cSize x ≤ 15 + x.2.size := by
  unfold cSize fHead
  have := lebL_len (m := x.2.size) (by unfold U64; omega)
  simp only [List.length_cons]
  omega
theorem cSize_pos (x : Sec) : 1 ≤ cSize x := by unfold cSize; omega
theorem cSum_le {L : List Sec} (h : ∀ x ∈ L, x.2.size ≤ 1000000000) : cSum L ≤ 15 * L.length + dSum L := by
  induction L with
  | nil => simp [cSum]
  | cons y L ih =>
    have e : dSum (y :: L) = y.2.size + dSum L := by simp [dSum]
    have := ih fun x hx => h x (List.mem_cons_of_mem _ hx)
    have := cSize_le (h y (List.mem_cons_self ..))
    rw [cSum_cons, e, List.length_cons]
    omega
theorem data_le_cSum (L : List Sec) : dSum L + 5 * L.length ≤ cSum L := by
  induction L with
  | nil => simp [dSum, cSum]
  | cons y L ih =>
    have e : dSum (y :: L) = y.2.size + dSum L := by simp [dSum]
    have e2 : y.2.size + 5 ≤ cSize y := by unfold cSize fHead; simp only [List.length_cons]; omega
    rw [cSum_cons, e, List.length_cons]
    omega
theorem u64I_u64 (n : Int) : U64 (u64I n) := by unfold U64 u64I; omega
theorem secP_len {p : Nat × Sec} (h1 : p.1 ≤ 1000000000) (h2 : cSize p.2 ≤ 1000000000) : (secP p).length ≤ 30 := by
  unfold secP
  have a1 := lebL_len (u64I_u64 p.2.1)
  have a2 := lebL_len (m := p.1) (by unfold U64; omega)
  have a3 := lebL_len (m := cSize p.2) (by unfold U64; omega)
  simp only [List.length_append]
  omega
theorem placesL_le {a : Nat} {L : List Sec} : ∀ p ∈ placesL a L, p.1 + cSize p.2 ≤ a + cSum L := by
  induction L generalizing a with
  | nil => intro p hp; cases hp
  | cons x L ih =>
    intro p hp
    rw [cSum_cons]
    rcases List.mem_cons.1 hp with rfl | hp
    · simp only; omega
    · have := ih p hp; omega
theorem flat_le (M : List (Nat × Sec)) (h : ∀ p ∈ M, (secP p).length ≤ 30) : (M.map secP).flatten.length ≤ 30 * M.length := by
  induction M with
  | nil => simp
  | cons p M ih =>
    have := ih fun q hq => h q (List.mem_cons_of_mem _ hq)
    have := h p (List.mem_cons_self ..)
    simp only [List.map_cons, List.flatten_cons, List.length_append, List.length_cons]
    omega
theorem pre_len {L : List Sec} (hs : cSum L ≤ 100000000) {pre : List (Nat × Sec)} (h : pre <+: placesL 7 L) : (lebL L.length ++ (pre.map secP).flatten).length ≤ 10 + 30 * L.length := by
  have hd := data_le_cSum L
  have h1 := lebL_len (m := L.length) (by unfold U64; omega)
  have h2 := flat_le pre fun p hp => by
    have := placesL_le p (h.subset hp)
    exact secP_len (by omega) (by omega)
  have h3 := h.length_le
  rw [placesL_len] at h3
  simp only [List.length_append]
  omega
theorem cIndex_len {L : List Sec} (hs : cSum L ≤ 100000000) : (cIndex L).length ≤ 10 + 30 * L.length := pre_len hs (List.prefix_refl _)
theorem cBehind_len (L : List Sec) : (cBehind L).length = (cIndex L).length + 12 := by
  unfold cBehind; simp only [List.length_append, crcTail_len]; rfl
theorem cBytes_len (L : List Sec) : (cBytes L).length = 7 + cSum L + ((cIndex L).length + 12) := by
  unfold cBytes; rw [List.length_append, List.length_append, framesL_len, cBehind_len]; rfl

/-- how sections are read, up to the end of the text -/
def cRead (S : ByteArray) : Nat → Nat → Option (List Sec)
  | 0, _ => some []
  | k + 1, p => if S.size ≤ p then some [] else if (fGet S p).2.2 = 0 then (cRead S k (fGet S p).2.1.toNat).map (((fGet S p).1.1, (fGet S p).1.2) :: ·) else none
def num4 (s : ByteArray) (p : Nat) : Nat := byteAt s p + 256 * byteAt s (p + 1) + 65536 * byteAt s (p + 2) + 16777216 * byteAt s (p + 3)
def cOk (s : ByteArray) : Bool := decide (15 ≤ s.size) && (decide (s.extract 0 7 = bStr magicL) && decide (s.extract (s.size - 4) s.size = bStr endL))
/-- what Open answers -/
def cOpen (s : ByteArray) : List Sec × Nat :=
  if cOk s = true then
    if 7 ≤ num4 s (s.size - 8) ∧ num4 s (s.size - 8) ≤ s.size - 8 then
      match cRead (s.extract 0 (num4 s (s.size - 8))) s.size 7 with
      | none => ([], 8)
      | some L => if cOrd L = true then (if s.extract (num4 s (s.size - 8)) s.size = bStr (cBehind L) then (L, 0) else ([], 9)) else ([], 20)
    else ([], 9)
  else ([], 7)
theorem cOpen_err {s : ByteArray} (h : (cOpen s).2 ≠ 0) : (cOpen s).1 = [] := by
  unfold cOpen at h ⊢
  split
  · rename_i h1
    rw [if_pos h1] at h
    split
    · rename_i h2
      rw [if_pos h2] at h
      split
      · rfl
      · rename_i L hL
        rw [hL] at h
        simp only at h
        split
        · rename_i h3
          rw [if_pos h3] at h
          split
          · rename_i h4
            rw [if_pos h4] at h
            exact absurd rfl h
          · rfl
        · rfl
    · rfl
  · rfl
/-- what is read was written just so -/
theorem cRead_only {S : ByteArray} : ∀ {k p : Nat} {L : List Sec}, p ≤ S.size → S.size ≤ p + k → cRead S k p = some L → S.extract p S.size = bStr (framesL L) ∧ ∀ x ∈ L, fE x.1 x.2 = 0 := by
  intro k
  induction k with
  | zero =>
    intro p L hp hk h
    simp only [cRead, Option.some.injEq] at h
    subst h
    refine ⟨?_, fun x hx => by cases hx⟩
    apply ba_ext
    rw [ext_l, show S.size - p = 0 by omega]
    rfl
  | succ k ih =>
    intro p L hp hk h
    rw [cRead] at h
    by_cases h1 : S.size ≤ p
    · rw [if_pos h1] at h
      simp only [Option.some.injEq] at h
      subst h
      refine ⟨?_, fun x hx => by cases hx⟩
      apply ba_ext
      rw [ext_l, show S.size - p = 0 by omega]
      rfl
    · rw [if_neg h1] at h
      obtain ⟨g, hg⟩ : ∃ g, fGet S p = g := ⟨_, rfl⟩
      rw [hg] at h
      obtain ⟨⟨ty, d⟩, to, e⟩ := g
      simp only at h
      by_cases he : e = 0
      · subst he
        rw [if_pos rfl] at h
        obtain ⟨a, t, ha, ht, hlt, hts, hfe, hx⟩ := fGet_only hg
        have hap : a = p := by omega
        subst hap
        rw [ht, Int.toNat_natCast] at h
        obtain ⟨M, hM, hL⟩ := Option.map_eq_some_iff.1 h
        subst hL
        obtain ⟨i1, i2⟩ := ih hts (by omega) hM
        refine ⟨?_, fun x hx => ?_⟩
        · apply ba_ext
          have e1 : (S.extract a t).data.toList = fFrame ty d := by rw [hx]; rfl
          have e2 : (S.extract t S.size).data.toList = framesL M := by rw [i1]; rfl
          rw [ext_l] at e1 e2 ⊢
          rw [show S.size - a = (t - a) + (S.size - t) by omega, List.take_add, e1, List.drop_drop, show a + (t - a) = t by omega, e2, bStr_l, framesL_cons]
        · rcases List.mem_cons.1 hx with rfl | hx
          · exact hfe
          · exact i2 x hx
      · rw [if_neg he] at h; cases h
/-- what is written is read back -/
theorem cRead_step {P : ByteArray} {x : Sec} {R : List UInt8} (hx : fE x.1 x.2 = 0) (k : Nat) : cRead (P ++ bStr (fFrame x.1 x.2 ++ R)) (k + 1) P.size = (cRead (P ++ bStr (fFrame x.1 x.2 ++ R)) k (P.size + (fFrame x.1 x.2).length)).map (x :: ·) := by
  have h := fGet_back hx P (bStr R)
  have e : P ++ bStr (fFrame x.1 x.2) ++ bStr R = P ++ bStr (fFrame x.1 x.2 ++ R) := by
    apply ba_ext
    rw [app_l, app_l, app_l, bStr_l, bStr_l, bStr_l, List.append_assoc]
  rw [e] at h
  have hk := fE_ok hx
  have hp : 0 < (fFrame x.1 x.2).length := by rw [fFrame_len]; omega
  have hsz : (P ++ bStr (fFrame x.1 x.2 ++ R)).size = P.size + ((fFrame x.1 x.2).length + R.length) := by
    rw [ByteArray.size_append, bStr_size, List.length_append]
  rw [cRead, if_neg (by omega), h]
  simp only [if_pos]
  rw [Int.toNat_natCast, show ((x.1.toNat : Nat) : Int) = x.1 by omega]
theorem cRead_back (L : List Sec) (hL : ∀ x ∈ L, fE x.1 x.2 = 0) : ∀ (P : ByteArray) (k : Nat), (framesL L).length ≤ k → cRead (P ++ bStr (framesL L)) k P.size = some L := by
  induction L with
  | nil =>
    intro P k _
    have hz : (P ++ bStr (framesL [])).size = P.size := by rw [ByteArray.size_append]; rfl
    cases k with
    | zero => rfl
    | succ k => rw [cRead, if_pos (by omega)]
  | cons x L ih =>
    intro P k hk
    have hx := hL x (List.mem_cons_self ..)
    rw [framesL_cons, List.length_append] at hk
    have hp : 0 < (fFrame x.1 x.2).length := by rw [fFrame_len]; omega
    obtain ⟨k, rfl⟩ : ∃ j, k = j + 1 := ⟨k - 1, by omega⟩
    rw [framesL_cons, cRead_step hx]
    have h := ih (fun y hy => hL y (List.mem_cons_of_mem _ hy)) (P ++ bStr (fFrame x.1 x.2)) k (by omega)
    have e : P ++ bStr (fFrame x.1 x.2) ++ bStr (framesL L) = P ++ bStr (fFrame x.1 x.2 ++ framesL L) := by
      apply ba_ext
      rw [app_l, app_l, app_l, bStr_l, bStr_l, bStr_l, List.append_assoc]
    rw [e, ByteArray.size_append, bStr_size] at h
    rw [h]
    rfl
/-- behind good frames, a place from which none is read -/
theorem cRead_bad (L : List Sec) (hL : ∀ x ∈ L, fE x.1 x.2 = 0) : ∀ (P : ByteArray) (R : List UInt8) (k : Nat), (framesL L).length < k → P.size + (framesL L).length < (P ++ bStr (framesL L ++ R)).size → (fGet (P ++ bStr (framesL L ++ R)) ((P.size + (framesL L).length : Nat) : Int)).2.2 ≠ 0 → cRead (P ++ bStr (framesL L ++ R)) k P.size = none := by
  induction L with
  | nil =>
    intro P R k hk hlt hbad
    obtain ⟨k, rfl⟩ : ∃ j, k = j + 1 := ⟨k - 1, by omega⟩
    have e : P.size + (framesL []).length = P.size := rfl
    rw [e] at hlt hbad
    rw [cRead, if_neg (by omega), if_neg hbad]
  | cons x L ih =>
    intro P R k hk hlt hbad
    have hx := hL x (List.mem_cons_self ..)
    have hp : 0 < (fFrame x.1 x.2).length := by rw [fFrame_len]; omega
    have e0 : P ++ bStr (framesL (x :: L) ++ R) = P ++ bStr (fFrame x.1 x.2 ++ (framesL L ++ R)) := by rw [framesL_cons, List.append_assoc]
    have e1 : P ++ bStr (fFrame x.1 x.2 ++ (framesL L ++ R)) = P ++ bStr (fFrame x.1 x.2) ++ bStr (framesL L ++ R) := by
      apply ba_ext
      rw [app_l, app_l, app_l, bStr_l, bStr_l, bStr_l, List.append_assoc]
    have e2 : (framesL (x :: L)).length = (fFrame x.1 x.2).length + (framesL L).length := by rw [framesL_cons, List.length_append]
    rw [e2] at hk hlt hbad
    obtain ⟨k, rfl⟩ : ∃ j, k = j + 1 := ⟨k - 1, by omega⟩
    rw [e0] at hlt hbad ⊢
    rw [cRead_step hx]
    have es : (P ++ bStr (fFrame x.1 x.2)).size = P.size + (fFrame x.1 x.2).length := by rw [ByteArray.size_append, bStr_size]
    rw [e1] at hlt hbad ⊢
    have h := ih (fun y hy => hL y (List.mem_cons_of_mem _ hy)) (P ++ bStr (fFrame x.1 x.2)) R k (by omega) (by rw [es]; omega) (by rw [es, Nat.add_assoc]; exact hbad)
    rw [es] at h
    rw [h]
    rfl
theorem num4_bytes {s : ByteArray} {A B : List UInt8} {n : Nat} (hn : n < 4294967296) (h : s.data.toList = A ++ (bytes4 n ++ B)) : num4 s A.length = n := by
  have e : ∀ i, i < 4 → byteAt s (A.length + i) = ((bytes4 n)[i]?.getD 0).toNat := by
    intro i hi
    unfold byteAt
    rw [h, List.getD_eq_getElem?_getD, List.getElem?_append_right (by omega), Nat.add_sub_cancel_left, List.getElem?_append_left (by rw [bytes4_len]; exact hi)]
  have e0 := e 0 (by omega)
  have e1 := e 1 (by omega)
  have e2 := e 2 (by omega)
  have e3 := e 3 (by omega)
  simp only [bytes4, List.getElem?_cons_zero, List.getElem?_cons_succ, Option.getD_some, Nat.add_zero] at e0 e1 e2 e3
  rw [ofNat_lt (by omega)] at e0 e1 e2 e3
  unfold num4
  rw [e0, e1, e2, e3]
  omega
theorem cOrd_fE {L : List Sec} (h : cOrd L = true) (hs : dSum L ≤ 1048576) : ∀ x ∈ L, fE x.1 x.2 = 0 := by
  intro x hx
  have h1 := (cOrd_ok h).1 x hx
  have h2 := dSum_mem hx
  unfold fE
  rw [if_neg (by omega), if_neg (by omega)]
/-- a text in a container's form, whatever stands for its frames: what Open looks at ahead of them -/
theorem cForm {F : List UInt8} {L : List Sec} {s : ByteArray} (hs : s = bStr (magicL ++ F ++ cBehind L)) (hF : F.length = cSum L) (hc : cSum L ≤ 4000000000) :
    cOk s = true ∧ num4 s (s.size - 8) = 7 + F.length ∧ (7 ≤ num4 s (s.size - 8) ∧ num4 s (s.size - 8) ≤ s.size - 8) ∧ s.extract 0 (7 + F.length) = bStr magicL ++ bStr F ∧ s.extract (7 + F.length) s.size = bStr (cBehind L) := by
  have hb := cBehind_len L
  have hml : magicL.length = 7 := rfl
  have hel : endL.length = 4 := rfl
  have hl : s.data.toList = magicL ++ F ++ cBehind L := by rw [hs]; rfl
  have hsz : s.size = 7 + F.length + ((cIndex L).length + 12) := by rw [hs, bStr_size, List.length_append, List.length_append, hb, hml]
  have hn : num4 s (s.size - 8) = 7 + F.length := by
    have e : s.data.toList = (magicL ++ F ++ (cIndex L ++ crcTail (cIndex L))) ++ (bytes4 (cEnd L) ++ endL) := by
      rw [hl]; unfold cBehind; simp only [List.append_assoc]
    have := num4_bytes (n := cEnd L) (by unfold cEnd; omega) e
    rw [show (magicL ++ F ++ (cIndex L ++ crcTail (cIndex L))).length = s.size - 8 by simp only [List.length_append, crcTail_len, hml]; omega] at this
    rw [this]; unfold cEnd; omega
  refine ⟨?_, hn, by rw [hn]; omega, ?_, ?_⟩
  · unfold cOk
    rw [Bool.and_eq_true, Bool.and_eq_true, decide_eq_true_eq, decide_eq_true_eq, decide_eq_true_eq]
    refine ⟨by omega, ?_, ?_⟩
    · exact ext_mid (p := []) (r := F ++ cBehind L) (by rw [hl]; simp only [List.nil_append, List.append_assoc]) rfl (by rw [hml])
    · refine ext_mid (p := magicL ++ F ++ (cIndex L ++ crcTail (cIndex L) ++ bytes4 (cEnd L))) (r := []) ?_ ?_ ?_
      · rw [hl]; unfold cBehind; simp only [List.append_assoc, List.append_nil]
      · simp only [List.length_append, crcTail_len, bytes4_len, hml]; omega
      · rw [hel]; omega
  · apply ba_ext
    rw [ext_l, hl, List.drop_zero, app_l, bStr_l, bStr_l, Nat.sub_zero]
    exact List.take_left' (by rw [List.length_append, hml])
  · exact ext_mid (p := magicL ++ F) (r := []) (by rw [hl, List.append_nil]) (by rw [List.length_append, hml]) (by rw [hb]; omega)
/-- what is sealed is opened -/
theorem cOpen_back {L : List Sec} (h : cOrd L = true) (hs : dSum L ≤ 1048576) : cOpen (bStr (cBytes L)) = (L, 0) := by
  have hfe := cOrd_fE h hs
  have hcs : cSum L ≤ 4000000000 := by
    have := cSum_le (L := L) fun x hx => by have := dSum_mem hx; omega
    have := (cOrd_ok h).2.2
    omega
  obtain ⟨h1, h2, h3, h4, h5⟩ := cForm (F := framesL L) (L := L) rfl (framesL_len L) hcs
  have hr := cRead_back L hfe (bStr magicL) (bStr (cBytes L)).size (by rw [bStr_size, cBytes_len, framesL_len]; omega)
  rw [show (bStr magicL).size = 7 from rfl, ← h4] at hr
  unfold cBytes at hr ⊢
  unfold cOpen
  rw [if_pos h1, if_pos h3, h2, hr]
  simp only
  rw [if_pos h, if_pos h5]
theorem cOk_parts {s : ByteArray} (h : cOk s = true) : 15 ≤ s.size ∧ s.extract 0 7 = bStr magicL ∧ s.extract (s.size - 4) s.size = bStr endL := by
  unfold cOk at h
  simpa only [Bool.and_eq_true, decide_eq_true_eq] using h
/-- what is opened was sealed just so -/
theorem cOpen_only {s : ByteArray} {L : List Sec} (h : cOpen s = (L, 0)) : cOrd L = true ∧ bStr (cBytes L) = s ∧ cSum L ≤ s.size := by
  unfold cOpen at h
  by_cases h1 : cOk s = true
  · rw [if_pos h1] at h
    obtain ⟨h15, hm, he⟩ := cOk_parts h1
    generalize num4 s (s.size - 8) = t at h
    by_cases h2 : 7 ≤ t ∧ t ≤ s.size - 8
    · rw [if_pos h2] at h
      obtain ⟨r, hr⟩ : ∃ r, cRead (s.extract 0 t) s.size 7 = r := ⟨_, rfl⟩
      rw [hr] at h
      cases r with
      | none => simp at h
      | some M =>
        simp only at h
        by_cases h3 : cOrd M = true
        · rw [if_pos h3] at h
          by_cases h4 : s.extract t s.size = bStr (cBehind M)
          · rw [if_pos h4] at h
            simp only [Prod.mk.injEq, and_true] at h
            subst h
            have hsz : (s.extract 0 t).size = t := by rw [ByteArray.size_extract]; omega
            obtain ⟨i1, i2⟩ := cRead_only (by rw [hsz]; exact h2.1) (by rw [hsz]; omega) hr
            have e1 : (s.extract 0 7).data.toList = magicL := by rw [hm]; rfl
            have e2 : ((s.extract 0 t).extract 7 t).data.toList = framesL M := by rw [hsz] at i1; rw [i1]; rfl
            have e3 : (s.extract t s.size).data.toList = cBehind M := by rw [h4]; rfl
            rw [ext_l] at e1 e3
            rw [ext_l, ext_l] at e2
            refine ⟨h3, ?_, ?_⟩
            · apply ba_ext
              rw [bStr_l]
              unfold cBytes
              rw [← e1, ← e2, ← e3]
              simp only [List.drop_zero, Nat.sub_zero]
              have h7 : (List.take t s.data.toList).drop 7 = (s.data.toList.drop 7).take (t - 7) := by rw [List.drop_take]
              rw [h7, List.take_take, Nat.min_self]
              rw [← List.take_add, show 7 + (t - 7) = t by omega]
              rw [List.take_of_length_le (l := List.drop t s.data.toList) (by rw [List.length_drop, ba_len]; omega), List.take_append_drop]
            · rw [← framesL_len, ← e2]
              simp only [List.drop_zero, Nat.sub_zero, List.length_take, List.length_drop, ba_len]
              omega
          · rw [if_neg h4] at h; simp at h
        · rw [if_neg h3] at h; simp at h
    · rw [if_neg h2] at h; simp at h
  · rw [if_neg h1] at h; simp at h
/-- a turned frame is found out -/
theorem cOpen_burst {L : List Sec} (h : cOrd L = true) (hs : dSum L ≤ 1048576) {n : Nat} {x : Sec} (hx : L[n]? = some x) {y : List UInt8} {at_ m : Nat} (hm : m < 2 ^ 32)
    (ht : Turned (x.2.data.toList ++ crcTail (fHead x.1 x.2 ++ x.2.data.toList)) y at_ m) :
    (y = x.2.data.toList ++ crcTail (fHead x.1 x.2 ++ x.2.data.toList)) ∨
    cOpen (bStr (magicL ++ (framesL (L.take n) ++ ((fHead x.1 x.2 ++ y) ++ framesL (L.drop (n + 1)))) ++ cBehind L)) = ([], 8) := by
  have hfe := cOrd_fE h hs
  have hxm := List.mem_of_getElem? hx
  have hxe := hfe x hxm
  have hcs : cSum L ≤ 4000000000 := by
    have := cSum_le (L := L) fun x hx => by have := dSum_mem hx; omega
    have := (cOrd_ok h).2.2
    omega
  have hsplit : L = L.take n ++ (x :: L.drop (n + 1)) := by
    obtain ⟨hlt, he⟩ := List.getElem?_eq_some_iff.1 hx
    rw [← he, List.getElem_cons_drop, List.take_append_drop]
  have hyl : y.length = x.2.size + 4 := by rw [ht.1, List.length_append, crcTail_len, ba_len]
  generalize hF : framesL (L.take n) ++ ((fHead x.1 x.2 ++ y) ++ framesL (L.drop (n + 1))) = F
  have hFl : F.length = cSum L := by
    have e : cSum L = cSum (L.take n) + (cSize x + cSum (L.drop (n + 1))) := by
      have := congrArg cSum hsplit
      rwa [cSum_app, cSum_cons] at this
    rw [← hF]
    simp only [List.length_append, framesL_len, hyl]
    rw [e]; unfold cSize; omega
  rcases fGet_turn hxe hm ht (bStr magicL ++ bStr (framesL (L.take n))) (bStr (framesL (L.drop (n + 1)))) with ⟨h1, _⟩ | ⟨h1, h2⟩
  · exact .inl h1
  · right
    obtain ⟨k1, k2, k3, k4, k5⟩ := cForm (F := F) (L := L) rfl hFl hcs
    have eS : bStr magicL ++ bStr F = bStr magicL ++ bStr (framesL (L.take n)) ++ bStr (fHead x.1 x.2 ++ y) ++ bStr (framesL (L.drop (n + 1))) := by
      apply ba_ext
      rw [← hF]
      simp only [app_l, bStr_l, List.append_assoc]
    have hr : cRead (bStr magicL ++ bStr F) (bStr (magicL ++ F ++ cBehind L)).size (bStr magicL).size = none := by
      have hb := cRead_bad (L.take n) (fun z hz => hfe z (List.mem_of_mem_take hz)) (bStr magicL) ((fHead x.1 x.2 ++ y) ++ framesL (L.drop (n + 1))) (bStr (magicL ++ F ++ cBehind L)).size
      rw [hF] at hb
      refine hb ?_ ?_ ?_
      · rw [bStr_size, ← hF]; simp only [List.length_append]; have : magicL.length = 7 := rfl; omega
      · rw [ByteArray.size_append, bStr_size, bStr_size, ← hF]; simp only [List.length_append, hyl]; omega
      · rw [eS]
        have es : (bStr magicL ++ bStr (framesL (L.take n))).size = (bStr magicL).size + (framesL (L.take n)).length := by rw [ByteArray.size_append, bStr_size]; rfl
        rw [← es, h2]
        simp [fNo]
    rw [show (bStr magicL).size = 7 from rfl, ← k4] at hr
    unfold cOpen
    rw [if_pos k1, if_pos k3, k2, hr]
theorem cBytes_one {L M : List Sec} (h : cOrd L = true) (hs : dSum L ≤ 1048576) (k : cOrd M = true) (ks : dSum M ≤ 1048576) (e : bStr (cBytes L) = bStr (cBytes M)) : L = M := by
  have h1 := cOpen_back h hs
  rw [e, cOpen_back k ks] at h1
  simp only [Prod.mk.injEq, and_true] at h1
  exact h1.symm
theorem cSmall {L : List Sec} (h : cOrd L = true) (hs : dSum L ≤ 3000) : cSum L ≤ 3240 ∧ (cBytes L).length ≤ 4000 := by
  have h1 := cSum_le (L := L) fun x hx => by have := dSum_mem hx; omega
  have h2 := (cOrd_ok h).2.2
  have h3 := cIndex_len (L := L) (by omega)
  rw [cBytes_len]
  omega
end Go.Proofs.Ytanbifhhoeaofaa

