/- The law's put, few; what items come to. No conditions. -/
import Derived.Test.YtpnljefgenniaaaItems
namespace Go.Proofs.Ytpnljefgenniaaa
set_option linter.unusedVariables false
open Go Go.RowKit

/-- the bytes of an item -/
def itmL (x : Itm) : List UInt8 :=
  if x.k = 0 then [UInt8.ofNat (x.n % 256).toNat] else if x.k = 1 then lebL x.u else if x.k = 3 then lebL (zigF x.n) else if x.k = 4 then lebL x.s.size ++ x.s.data.toList else if x.k = 5 then x.s.data.toList else []
def itmsL (I : Nat → Itm) : Nat → List UInt8
  | 0 => []
  | k + 1 => itmsL I k ++ itmL (I k)
def szs (I : Nat → Itm) : Nat → Nat
  | 0 => 0
  | k + 1 => szs I k + (I k).s.size
theorem szs_mono (I : Nat → Itm) {j k : Nat} (h : j ≤ k) : szs I j ≤ szs I k := by
  induction k with
  | zero => obtain rfl : j = 0 := by omega
            exact Nat.le_refl _
  | succ k ih =>
    by_cases e : j = k + 1
    · subst e; exact Nat.le_refl _
    · have := ih (by omega); simp only [szs]; omega
theorem szs_at (I : Nat → Itm) {j k : Nat} (h : j < k) : (I j).s.size ≤ szs I k := by
  have := szs_mono I (show j + 1 ≤ k by omega)
  simp only [szs] at this; omega
theorem itmL_len (x : Itm) (hn : I64 x.n) (hu : U64 x.u) (hs : x.s.size ≤ 10000000) : (itmL x).length ≤ x.s.size + 10 := by
  have h1 := lebL_len hu
  have h2 := lebL_len (zigF_u64 hn)
  have h3 := lebL_len (show U64 x.s.size by unfold U64; omega)
  have h4 : x.s.data.toList.length = x.s.size := by simp
  unfold itmL
  split
  · simp
  · split
    · omega
    · split
      · omega
      · split
        · rw [List.length_append]; omega
        · split
          · omega
          · simp
theorem itmsL_len (I : Nat → Itm) (hI : ∀ i, I64 (I i).n ∧ U64 (I i).u) (k : Nat) (hk : k ≤ 1000) (hs : szs I k ≤ 1000000) : (itmsL I k).length ≤ szs I k + 10 * k := by
  induction k with
  | zero => simp [itmsL, szs]
  | succ k ih =>
    have h0 := szs_mono I (show k ≤ k + 1 by omega)
    have h1 := szs_at I (show k < k + 1 by omega)
    have := ih (by omega) (by omega)
    have := itmL_len (I k) (hI k).1 (hI k).2 (by omega)
    simp only [itmsL, szs, List.length_append]; omega

theorem u8_conv (n : Int) : IntKind.u8.wrap n = ((UInt8.ofNat (n % 256).toNat).toNat : Int) := by
  rw [IntKind.wrap_u8, UInt8.toNat_ofNat']
  have : (n % 256).toNat < 256 := by omega
  rw [Nat.mod_eq_of_lt (by simpa using this)]; omega
set_option maxRecDepth 100000 in
set_option maxHeartbeats 4000000 in
theorem put_it (n p : Nat) (v : Value) (l : List UInt8) (k m : Int) (u : Nat) (s : ByteArray) (w : World) (h : WrAt w n p v l) (hm : I64 m) (hu : U64 u) (hle : l.length + s.size ≤ 10000000) :
    Calls Try.prog 15 #[.pointer (some ⟨p, 0, none⟩), .agg #[.int .i64 k, .int .i64 m, .int .u64 u, .string s]] w (Wrote n p v (l ++ itmL ⟨k, m, u, s⟩) w) := by
  have hb : Below w.heap.size w (w.alloc (.cells #[.int .i64 k, .int .i64 m, .int .u64 u, .string s] 30)) := (Below.refl _ _).alloc (Nat.le_refl _) _
  have H0 := Lib.hid h
  have H := Lib.hid (h.later hb)
  have HB := Lib.hid hb
  have HL := Lib.hid hle
  have hl1 : l.length ≤ 10000000 := by omega
  have hl2 : l.length + s.size ≤ 100000000 := by omega
  clear h hb hle
  by_cases h0 : k = 0
  · subst h0
    have HI := Lib.hid (show itmL ⟨0, m, u, s⟩ = [UInt8.ofNat (m % 256).toNat] by unfold itmL; rw [if_pos rfl])
    have hc := u8_conv m
    have hcm : m % 256 = ((UInt8.ofNat (m % 256).toNat).toNat : Int) := by rw [← hc, IntKind.wrap_u8]
    obtain ⟨b, hbq⟩ : ∃ b, UInt8.ofNat (m % 256).toNat = b := ⟨_, rfl⟩
    rw [hbq] at hc HI hcm
    have HCM := Lib.hid hcm
    clear hbq hcm hc
    go_enter Try.func15, Try.ntmps15
    go_wp2_with fail
    rw [HCM.out]
    refine (wbyte_any n p v l b _ H.out hl1).mono ?_
    rintro e w1 hW
    have HW := Lib.hid (hW.later H0.out HB.out)
    obtain ⟨rfl, _⟩ := hW
    go_wp2_with fail
    go_ret
    rw [HI.out]
    exact HW.out
  by_cases h1 : k = 1
  · subst h1
    have HI := Lib.hid (show itmL ⟨1, m, u, s⟩ = lebL u by unfold itmL; rw [if_neg (show ¬ ((1 : Int) = 0) by decide), if_pos rfl])
    clear h0
    go_enter Try.func15, Try.ntmps15
    go_wp2_with fail
    refine (wnum_any n p v l u _ H.out hu hl1).mono ?_
    rintro e w1 hW
    have HW := Lib.hid (hW.later H0.out HB.out)
    obtain ⟨rfl, _⟩ := hW
    go_wp2_with fail
    go_ret
    rw [HI.out]
    exact HW.out
  by_cases h3 : k = 3
  · subst h3
    have HI := Lib.hid (show itmL ⟨3, m, u, s⟩ = lebL (zigF m) by unfold itmL; rw [if_neg (show ¬ ((3 : Int) = 0) by decide), if_neg (show ¬ ((3 : Int) = 1) by decide), if_pos rfl])
    clear h0 h1
    go_enter Try.func15, Try.ntmps15
    go_wp2_with fail
    refine (wint_any n p v l m _ H.out hm hl1).mono ?_
    rintro e w1 hW
    have HW := Lib.hid (hW.later H0.out HB.out)
    obtain ⟨rfl, _⟩ := hW
    go_wp2_with fail
    go_ret
    rw [HI.out]
    exact HW.out
  by_cases h4 : k = 4
  · subst h4
    have HI := Lib.hid (show itmL ⟨4, m, u, s⟩ = lebL s.size ++ s.data.toList by unfold itmL; rw [if_neg (show ¬ ((4 : Int) = 0) by decide), if_neg (show ¬ ((4 : Int) = 1) by decide), if_neg (show ¬ ((4 : Int) = 3) by decide), if_pos rfl])
    clear h0 h1 h3
    go_enter Try.func15, Try.ntmps15
    go_wp2_with fail
    refine (wtext_any n p v l s _ H.out HL.out).mono ?_
    rintro e w1 hW
    have HW := Lib.hid (hW.later H0.out HB.out)
    obtain ⟨rfl, _⟩ := hW
    go_wp2_with fail
    go_ret
    rw [HI.out, ← List.append_assoc]
    exact HW.out
  by_cases h5 : k = 5
  · subst h5
    have HI := Lib.hid (show itmL ⟨5, m, u, s⟩ = s.data.toList by unfold itmL; rw [if_neg (show ¬ ((5 : Int) = 0) by decide), if_neg (show ¬ ((5 : Int) = 1) by decide), if_neg (show ¬ ((5 : Int) = 3) by decide), if_neg (show ¬ ((5 : Int) = 4) by decide), if_pos rfl])
    clear h0 h1 h3 h4
    go_enter Try.func15, Try.ntmps15
    go_wp2_with fail
    refine (wraw_any n p v l s _ H.out hl2).mono ?_
    rintro e w1 hW
    have HW := Lib.hid (hW.later H0.out HB.out)
    obtain ⟨rfl, _⟩ := hW
    go_wp2_with fail
    go_ret
    rw [HI.out]
    exact HW.out
  have HI := Lib.hid (show itmL ⟨k, m, u, s⟩ = [] by unfold itmL; simp only; rw [if_neg h0, if_neg h1, if_neg h3, if_neg h4, if_neg h5])
  have b0 : (k == 0) = false := by simpa using h0
  have b1 : (k == 1) = false := by simpa using h1
  have b3 : (k == 3) = false := by simpa using h3
  have b4 : (k == 4) = false := by simpa using h4
  have b5 : (k == 5) = false := by simpa using h5
  clear h0 h1 h3 h4 h5
  go_enter Try.func15, Try.ntmps15
  go_wp2_with fail
  go_ret
  rw [HI.out, List.append_nil]
  refine Wrote.later H0.out HB.out ⟨rfl, v, H.out, Ow.refl _ _ _, Fresh.refl _ _⟩
def fewB (I : Nat → Itm) (len : Nat) : Bool := decide (len ≤ 60) && decide (szs I len ≤ 1000)
theorem szs_reach (I : Nat → Itm) (len : Nat) (hs : ∀ i, i < len → (I i).s.size ≤ reachBytes) (k : Nat) (hk : k ≤ len) : szs I k ≤ k * 140737488351232 := by
  induction k with
  | zero => simp [szs]
  | succ k ih =>
    have h1 := ih (by omega)
    have h2 := hs k (by omega)
    unfold reachBytes at h2
    simp only [szs]; omega
theorem Items.cells {w : World} {a : Option Addr} {len : Nat} {I : Nat → Itm} (h : Items w a len I) (h0 : 0 < len) : ∃ b off, a = some ⟨b, off, none⟩ ∧ b < w.heap.size ∧ ∀ i, i < len → ∀ j, j < 4 → w.cell? ⟨b, off + i * 4 + j, none⟩ = (itmCells (I i))[j]? := by
  rcases h with h | h
  · omega
  · exact h
set_option maxRecDepth 100000 in
set_option maxHeartbeats 1600000 in
theorem few_in (b off len cap : Nat) (I : Nat → Itm) (w : World) (hc : ∀ i, i < len → ∀ j, j < 4 → w.cell? ⟨b, off + i * 4 + j, none⟩ = (itmCells (I i))[j]?) (hs : ∀ k, k ≤ len → szs I k ≤ k * 140737488351232) (hl : len ≤ 60) :
    Calls Try.prog 13 #[.slice (some ⟨b, off, none⟩) len cap] w fun e w' => e = .returned (.bool (decide (szs I len ≤ 1000))) ∧ w = w' := by
  have hd : decide ((60 : Int) < len) = false := by simp; omega
  have HS := Lib.hid hs
  have HC := Lib.hid hc
  clear hs hc
  go_enter Try.func13, Try.ntmps13
  go_wp2
  go_loop [3, 4] (fun n i => ∃ k : Nat, k ≤ len ∧ i = .int .i64 k ∧ n = .int .i64 (szs I k : Nat)) (fun _ i => len - (intOf i).toNat)
  case atStart => exact ⟨0, by omega, rfl, rfl⟩
  case round =>
    obtain ⟨k, hk, rfl, rfl⟩ := hrel
    obtain ⟨q, hq⟩ : ∃ q, szs I k = q := ⟨_, rfl⟩
    have hb := HS.out k hk
    rw [hq] at hb ⊢
    by_cases hlt : k < len
    · obtain ⟨z, hz⟩ : ∃ z, (I k).s = z := ⟨_, rfl⟩
      have hcell : w.cell? ⟨b, off + k * 4 + 3, none⟩ = some (.string z) := by rw [HC.out k hlt 3 (by decide), ← hz]; rfl
      have hb2 := HS.out (k + 1) (by omega)
      have hsn : szs I (k + 1) = q + z.size := by rw [← hq, ← hz]; rfl
      rw [hsn] at hb2
      have HN := Lib.hid hsn
      clear hsn hz hq
      go_wp2
      go_round
      case rel => exact ⟨k + 1, by omega, by go_num, by rw [HN.out]; go_num⟩
      case measure => simp [intOf]; omega
    · obtain rfl : k = len := by omega
      have HQ := Lib.hid hq
      clear hq
      go_wp2
      go_ret
      refine ⟨?_, rfl⟩
      have e : decide (szs I k ≤ 1000) = decide ((q : Int) ≤ 1000) := by rw [HQ.out]; rw [decide_eq_decide]; omega
      first | (rw [e]; rfl) | (rw [e]; simp)
set_option maxRecDepth 100000 in
theorem few_any (a : Option Addr) (len cap : Nat) (I : Nat → Itm) (w : World) (h : Items w a len I) (hs : ∀ i, i < len → (I i).s.size ≤ reachBytes) (hm : len ≤ maxLen) :
    Calls Try.prog 13 #[.slice a len cap] w fun e w' => e = .returned (.bool (fewB I len)) ∧ w = w' := by
  unfold maxLen at hm
  by_cases hl : len ≤ 60
  · have hf : fewB I len = decide (szs I len ≤ 1000) := by unfold fewB; rw [show decide (len ≤ 60) = true by simpa using hl]; rfl
    rw [hf]
    by_cases h0 : 0 < len
    · obtain ⟨b, off, rfl, _, hc⟩ := h.cells h0
      exact few_in b off len cap I w hc (szs_reach I len hs) hl
    · obtain rfl : len = 0 := by omega
      have he := Lib.hid (show decide (szs I 0 ≤ 1000) = true by rfl)
      rw [he.out]
      clear hs hf h
      go_enter Try.func13, Try.ntmps13
      go_wp2
      refine wp_loop_rounds 1 ?_
      rw [rounds_succ]; go_wp2
      go_ret
      exact ⟨rfl, rfl⟩
  · have hf := Lib.hid (show fewB I len = false by unfold fewB; rw [show decide (len ≤ 60) = false by simpa using hl]; rfl)
    rw [hf.out]
    have hd : decide ((60 : Int) < len) = true := by simp; omega
    clear hs h hl
    go_enter Try.func13, Try.ntmps13
    go_wp2
    go_ret
    exact ⟨rfl, rfl⟩
end Go.Proofs.Ytpnljefgenniaaa

