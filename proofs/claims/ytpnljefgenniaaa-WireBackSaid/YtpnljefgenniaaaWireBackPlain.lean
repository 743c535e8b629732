/- What is read where an item was written. No conditions. -/
import Derived.Test.YtpnljefgenniaaaWireWrite
namespace Go.Proofs.Ytpnljefgenniaaa
set_option linter.unusedVariables false
open Go Go.RowKit

theorem itmsL_split (I : Nat → Itm) {k len : Nat} (h : k < len) : ∃ R, itmsL I len = itmsL I k ++ itmL (I k) ++ R := by
  induction len with
  | zero => omega
  | succ len ih =>
    by_cases e : k = len
    · subst e; exact ⟨[], by simp [itmsL]⟩
    · obtain ⟨R, hR⟩ := ih (by omega)
      exact ⟨R ++ itmL (I len), by simp only [itmsL, hR, List.append_assoc]⟩
theorem rd_num (P Q : List UInt8) (n : Nat) (hn : U64 n) : gN (bStr (P ++ lebL n ++ Q)) P.length = n ∧ gT (bStr (P ++ lebL n ++ Q)) P.length = P.length + (lebL n).length ∧ gE (bStr (P ++ lebL n ++ Q)) P.length = 0 := by
  have h := leb_at (bStr P) n (bStr Q) hn
  rw [bs_leb, bs_add] at h
  rw [show (bStr P).size = P.length by rfl] at h
  exact ⟨h.1, by rw [h.2.1, ← bStr_leb]; rfl, h.2.2⟩
theorem rd_int (P Q : List UInt8) (n : Int) (hn : I64 n) : zN (bStr (P ++ lebL (zigF n) ++ Q)) P.length = n := by
  obtain ⟨h1, _, h3⟩ := rd_num P Q (zigF n) (zigF_u64 hn)
  unfold zN
  rw [if_pos h3, h1, zagF_zigF]
theorem bStr_extract (P M Q : List UInt8) : (bStr (P ++ M ++ Q)).extract P.length (P.length + M.length) = bStr M := by
  apply ByteArray.ext
  rw [ByteArray.data_extract]
  apply Array.ext'
  rw [Array.toList_extract]
  show List.extract (P ++ M ++ Q) _ _ = M
  simp [List.extract]
theorem rd_part (P M Q : List UInt8) : pS (bStr (P ++ M ++ Q)) P.length M.length = bStr M ∧ pT (bStr (P ++ M ++ Q)) P.length M.length = P.length + M.length ∧ pE (bStr (P ++ M ++ Q)) P.length M.length = 0 := by
  have hle : P.length + M.length ≤ (bStr (P ++ M ++ Q)).size := by rw [bStr_size]; simp only [List.length_append]; omega
  unfold pS pT pE
  rw [if_pos hle, if_pos hle, if_pos hle, bStr_extract]
  exact ⟨rfl, rfl, rfl⟩
theorem rd_raw (P M Q : List UInt8) : wS (bStr (P ++ M ++ Q)) P.length M.length = bStr M ∧ wT (bStr (P ++ M ++ Q)) P.length M.length = P.length + M.length ∧ wE (bStr (P ++ M ++ Q)) P.length M.length = 0 := by
  obtain ⟨h1, h2, h3⟩ := rd_part P M Q
  unfold wS wT wE
  rw [if_neg (by omega), if_neg (by omega), if_neg (by omega)]
  simp only [Int.toNat_natCast]
  exact ⟨h1, h2, h3⟩
theorem rd_byte (P Q : List UInt8) (b : UInt8) : bV (bStr (P ++ [b] ++ Q)) P.length 0 = b.toNat ∧ wT (bStr (P ++ [b] ++ Q)) P.length 1 = P.length + 1 ∧ wE (bStr (P ++ [b] ++ Q)) P.length 1 = 0 := by
  obtain ⟨h1, h2, h3⟩ := rd_raw P [b] Q
  have h2' : wT (bStr (P ++ [b] ++ Q)) P.length 1 = P.length + 1 := h2
  have h3' : wE (bStr (P ++ [b] ++ Q)) P.length 1 = 0 := h3
  refine ⟨?_, h2', h3'⟩
  unfold bV tk
  rw [if_pos ⟨rfl, h3'⟩]
  unfold byteAt
  show ((P ++ [b] ++ Q).getD P.length 0).toNat = b.toNat
  rw [List.append_assoc, List.getD_eq_getElem?_getD, List.getElem?_append_right (Nat.le_refl _), Nat.sub_self]
  rfl
theorem rd_text (P M Q : List UInt8) (hM : M.length ≤ 100000) : xS (bStr (P ++ (lebL M.length ++ M) ++ Q)) P.length M.length = bStr M ∧ xT (bStr (P ++ (lebL M.length ++ M) ++ Q)) P.length M.length = P.length + (lebL M.length ++ M).length ∧ xE (bStr (P ++ (lebL M.length ++ M) ++ Q)) P.length M.length = 0 := by
  have e : P ++ (lebL M.length ++ M) ++ Q = P ++ lebL M.length ++ (M ++ Q) := by simp only [List.append_assoc]
  have e2 : P ++ (lebL M.length ++ M) ++ Q = (P ++ lebL M.length) ++ M ++ Q := by simp only [List.append_assoc]
  obtain ⟨h1, h2, h3⟩ := rd_num P (M ++ Q) M.length (by unfold U64; omega)
  rw [← e] at h1 h2 h3
  obtain ⟨k1, k2, k3⟩ := rd_part (P ++ lebL M.length) M Q
  rw [← e2, List.length_append] at k1 k2 k3
  have hc : cE (bStr (P ++ (lebL M.length ++ M) ++ Q)) P.length M.length = 0 := by
    unfold cE; rw [h1, h3, if_neg (by omega)]
  unfold xS xT xE
  rw [if_pos hc, if_pos hc, if_pos hc, h1, h2]
  exact ⟨k1, by rw [k2, List.length_append]; omega, k3⟩
/-- moving on without an error -/
theorem mv_ok (a to : Nat) : mvA a 0 to 0 = to ∧ mvE 0 0 = 0 := ⟨rfl, rfl⟩
theorem tk_ok {α : Type} (x z : α) : tk 0 0 x z = x := rfl
/-- the readers' contracts at an item -/
theorem back_byte (r : Nat) (P Q : List UInt8) (b : UInt8) (w : World) (h : RdAt w r (bStr (P ++ [b] ++ Q)) P.length 0) (hs : (P ++ [b] ++ Q).length ≤ 1000000) :
    Calls Try.prog 24 #[.pointer (some ⟨r, 0, none⟩)] w fun e w' => e = .returned (.int .u8 b.toNat) ∧ RdAt w' r (bStr (P ++ [b] ++ Q)) (P ++ [b]).length 0 ∧ Only r w w' := by
  have h1 := rbyte_any r _ _ _ w h (by rw [bStr_size]; unfold maxLen; omega) (by rw [bStr_size]; simp only [List.length_append]; omega)
  obtain ⟨e1, e2, e3⟩ := rd_byte P Q b
  rw [e1, e2, e3] at h1
  rw [List.length_append]; exact h1
theorem back_num (r : Nat) (P Q : List UInt8) (n : Nat) (hn : U64 n) (w : World) (h : RdAt w r (bStr (P ++ lebL n ++ Q)) P.length 0) (hs : (P ++ lebL n ++ Q).length ≤ 1000000) :
    Calls Try.prog 25 #[.pointer (some ⟨r, 0, none⟩)] w fun e w' => e = .returned (.int .u64 n) ∧ RdAt w' r (bStr (P ++ lebL n ++ Q)) (P ++ lebL n).length 0 ∧ Only r w w' := by
  have h1 := rnum_any r _ _ _ w h (by rw [bStr_size]; unfold maxLen; omega) (by rw [bStr_size]; simp only [List.length_append]; omega)
  obtain ⟨e1, e2, e3⟩ := rd_num P Q n hn
  rw [e1, e2, e3] at h1
  rw [List.length_append]; exact h1
theorem back_int (r : Nat) (P Q : List UInt8) (n : Int) (hn : I64 n) (w : World) (h : RdAt w r (bStr (P ++ lebL (zigF n) ++ Q)) P.length 0) (hs : (P ++ lebL (zigF n) ++ Q).length ≤ 1000000) :
    Calls Try.prog 26 #[.pointer (some ⟨r, 0, none⟩)] w fun e w' => e = .returned (.int .i64 n) ∧ RdAt w' r (bStr (P ++ lebL (zigF n) ++ Q)) (P ++ lebL (zigF n)).length 0 ∧ Only r w w' := by
  have h1 := rint_any r _ _ _ w h (by rw [bStr_size]; unfold maxLen; omega) (by rw [bStr_size]; simp only [List.length_append]; omega)
  obtain ⟨e1, e2, e3⟩ := rd_num P Q (zigF n) (zigF_u64 hn)
  rw [e2, e3, rd_int P Q n hn] at h1
  rw [List.length_append]; exact h1
theorem back_text (r : Nat) (P Q : List UInt8) (s : ByteArray) (w : World) (h : RdAt w r (bStr (P ++ (lebL s.size ++ s.data.toList) ++ Q)) P.length 0) (hs : (P ++ (lebL s.size ++ s.data.toList) ++ Q).length ≤ 100000) :
    Calls Try.prog 27 #[.pointer (some ⟨r, 0, none⟩), .int .i64 s.size] w fun e w' => e = .returned (.string s) ∧ RdAt w' r (bStr (P ++ (lebL s.size ++ s.data.toList) ++ Q)) (P ++ (lebL s.size ++ s.data.toList)).length 0 ∧ Only r w w' := by
  have hz : s.data.toList.length = s.size := by simp
  have hle : s.data.toList.length ≤ 100000 := by simp only [List.length_append] at hs; omega
  have h1 := rtext_any r _ _ _ (s.size : Int) w h (by rw [bStr_size]; unfold maxLen; omega) (by rw [bStr_size]; simp only [List.length_append]; omega) ⟨by omega, by omega⟩
  obtain ⟨e1, e2, e3⟩ := rd_text P s.data.toList Q hle
  rw [hz] at e1 e2 e3
  rw [e1, e2, e3] at h1
  rw [List.length_append]; exact h1
theorem back_raw (r : Nat) (P Q : List UInt8) (s : ByteArray) (w : World) (h : RdAt w r (bStr (P ++ s.data.toList ++ Q)) P.length 0) (hs : (P ++ s.data.toList ++ Q).length ≤ 100000) :
    Calls Try.prog 28 #[.pointer (some ⟨r, 0, none⟩), .int .i64 s.size] w fun e w' => e = .returned (.string s) ∧ RdAt w' r (bStr (P ++ s.data.toList ++ Q)) (P ++ s.data.toList).length 0 ∧ Only r w w' := by
  have hz : s.data.toList.length = s.size := by simp
  have hle : s.data.toList.length ≤ 100000 := by simp only [List.length_append] at hs; omega
  have h1 := rraw_any r _ _ _ (s.size : Int) w h (by rw [bStr_size]; unfold maxLen; omega) (by rw [bStr_size]; simp only [List.length_append]; omega) (by omega)
  obtain ⟨e1, e2, e3⟩ := rd_raw P s.data.toList Q
  rw [hz] at e1 e2 e3
  rw [e1, e2, e3] at h1
  rw [List.length_append, hz]; exact h1
end Go.Proofs.Ytpnljefgenniaaa

