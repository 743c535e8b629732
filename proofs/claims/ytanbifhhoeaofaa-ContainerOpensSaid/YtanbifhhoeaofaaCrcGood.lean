/- crc.Tail and crc.Good at every text. No conditions. -/
import Derived.Test.YtanbifhhoeaofaaCrcSum
import Derived.Deep.RegionHeld3
import Derived.Deep.QuietTactic
import Derived.BigQuiet
namespace Go.Proofs.Ytanbifhhoeaofaa
set_option linter.unusedVariables false
open Go Go.RowKit

def strOf (l : List UInt8) : ByteArray := ⟨l.toArray⟩
theorem strOf_list (l : List UInt8) : (strOf l).data.toList = l := rfl
theorem conv4 (c : Nat) (hcl : c < 4294967296) (B : Nat) (W : World) (h0 : W.cell? ⟨B, 0, none⟩ = some (.int .u8 ((c : Int) % 256))) (h1 : W.cell? ⟨B, 1, none⟩ = some (.int .u8 ((c : Int) / 256 % 256))) (h2 : W.cell? ⟨B, 2, none⟩ = some (.int .u8 ((c : Int) / 65536 % 256))) (h3 : W.cell? ⟨B, 3, none⟩ = some (.int .u8 ((c : Int) / 16777216))) :
    (convert 61 9 (.slice (some ⟨B, 0, none⟩) 4 4)).run Try.prog W = .ok (.string (strOf (bytes4 c))) W := by
  have hc := run_convert_bytes_back (P := Try.prog) W 61 9 5 ⟨B, 0, none⟩ 4 (bytes4 c) Try.underlying61 Try.underlying5 Try.underlying9 (fun j hj => by
    rw [bytes4_len] at hj
    have e : ∀ x y : Nat, x < 256 → (x : Int) = ((UInt8.ofNat x).toNat : Int) := fun x _ hx => by rw [ofNat_lt hx]
    match j, hj with
    | 0, _ => rw [show ((⟨B, 0, none⟩ : Addr).add 0) = ⟨B, 0, none⟩ by rfl, h0]; simp only [bytes4, List.getElem_cons_zero]; rw [← e _ 0 (by omega)]; rfl
    | 1, _ => rw [show ((⟨B, 0, none⟩ : Addr).add 1) = ⟨B, 1, none⟩ by rfl, h1]; simp only [bytes4, List.getElem_cons_zero, List.getElem_cons_succ]; rw [← e _ 0 (by omega)]; rfl
    | 2, _ => rw [show ((⟨B, 0, none⟩ : Addr).add 2) = ⟨B, 2, none⟩ by rfl, h2]; simp only [bytes4, List.getElem_cons_zero, List.getElem_cons_succ]; rw [← e _ 0 (by omega)]; rfl
    | 3, _ => rw [show ((⟨B, 0, none⟩ : Addr).add 3) = ⟨B, 3, none⟩ by rfl, h3]; simp only [bytes4, List.getElem_cons_zero, List.getElem_cons_succ]; rw [← e _ 0 (by omega), show c / 16777216 % 256 = c / 16777216 by omega]; rfl)
  exact hc

set_option maxRecDepth 100000 in
set_option maxHeartbeats 1600000 in
theorem tail_any (s : ByteArray) (w : World) (hs : s.size ≤ 9223372036854775807) :
    Calls Try.prog 43 #[.string s] w fun e w' => e = .returned (.string (strOf (crcTail s.data.toList))) ∧ Below w.heap.size w w' := by
  obtain ⟨c, hc⟩ : ∃ c, crcSum s.data.toList = c := ⟨_, rfl⟩
  have hcl : c < 4294967296 := by rw [← hc]; exact crcSum_lt _
  have hcv := conv4 c hcl
  have HC := Lib.hid hc
  clear hc
  go_enter Try.func43, Try.ntmps43
  go_wp2_with (go_at_call 61; refine (sum_any s _ hs).mono ?_; rintro e w1 ⟨rfl, hb1⟩; rw [HC.out])
  go_ret
  exact ⟨by rw [crcTail, HC.out]; rfl, hb1.alloc hb1.size _⟩

theorem beq_str (a b : ByteArray) : (a.toList == b.toList) = decide (a.data.toList = b.data.toList) := by
  rw [Bool.eq_iff_iff, beq_iff_eq, decide_eq_true_eq]
  rw [ByteArray.toList_eq, ByteArray.toList_eq]
theorem good_str {s : ByteArray} {n : Nat} (h : s.size = n + 4) : crcGood s.data.toList = ((strOf (crcTail (List.take n s.data.toList))).toList == (s.extract n s.size).toList) := by
  rw [beq_str, strOf_list]
  unfold crcGood
  have hl : s.data.toList.length = n + 4 := by simpa using h
  have hx : (s.extract n s.size).data.toList = s.data.toList.drop n := by
    rw [ByteArray.data_extract, Array.toList_extract]
    simp only [List.extract]
    rw [List.take_of_length_le (by rw [List.length_drop, hl]; omega)]
  rw [hx, hl, show n + 4 - 4 = n by omega]
  simp
set_option maxRecDepth 100000 in
set_option maxHeartbeats 1600000 in
theorem good_neg (s : ByteArray) (d : Int) (hd : d = -4 ∨ d = -3 ∨ d = -2 ∨ d = -1) (e1 : (s.size : Int) - 4 = d) (w : World) (hs : s.size ≤ 3) :
    Calls Try.prog 59 #[.string s] w fun e w' => e = .returned (.bool false) ∧ Below w.heap.size w w' := by
  have hs' : (s.size : Int) = d + 4 := by omega
  have HS := Lib.hid hs'
  clear hs'
  rcases hd with rfl | rfl | rfl | rfl
  all_goals
    go_enter Try.func59, Try.ntmps59
    go_wp2
    go_quiet (fail)
    all_goals go_wp2
    all_goals go_ret
    all_goals exact ⟨rfl, (Below.refl _ _).trans ⟨rfl, rfl, rfl, Nat.le_refl _, fun _ _ => rfl⟩⟩
theorem good_short (s : ByteArray) (w : World) (hs : s.size < 4) :
    Calls Try.prog 59 #[.string s] w fun e w' => e = .returned (.bool false) ∧ Below w.heap.size w w' :=
  good_neg s _ (by omega) rfl w (by omega)
theorem cthen' {W w1 w2 : World} (h : Below W.heap.size W w1) (hb : Below w1.heap.size w1 w2) : Below W.heap.size W w2 ∧ W.heap.size ≤ w2.heap.size := ⟨cthen h hb, (cthen h hb).size⟩

set_option maxRecDepth 100000 in
set_option maxHeartbeats 1600000 in
theorem good_long (s : ByteArray) (w : World) (hs : 4 ≤ s.size) (hs2 : s.size ≤ 9223372036854775807) :
    Calls Try.prog 59 #[.string s] w fun e w' => e = .returned (.bool (crcGood s.data.toList)) ∧ Below w.heap.size w w' := by
  obtain ⟨n, hn⟩ : ∃ n, s.size = n + 4 := ⟨s.size - 4, by omega⟩
  have e1 : (s.size : Int) - 4 = n := by omega
  have hle : n ≤ s.size := by omega
  have HN := Lib.hid hn
  have HEX := Lib.hid (show (s.extract 0 n).size ≤ 9223372036854775807 by rw [ByteArray.size_extract]; omega)
  clear hn hs
  go_enter Try.func59, Try.ntmps59
  go_wp2
  have hb0 := Below.refl w.heap.size w
  go_region_held3 (fun w' => Below w.heap.size w w') (first | assumption | go_grown) ((go_at_call 43; refine (tail_any _ _ HEX.out).mono ?_; rintro e w1 ⟨rfl, hb1⟩; obtain ⟨hbl, hsz⟩ := cthen' (by first | assumption | go_grown) hb1; clear hb1))
  all_goals go_wp2
  all_goals go_ret
  all_goals exact ⟨by rw [good_str HN.out]; rfl, by assumption⟩
theorem good_any (s : ByteArray) (w : World) (hs2 : s.size ≤ 9223372036854775807) :
    Calls Try.prog 59 #[.string s] w fun e w' => e = .returned (.bool (crcGood s.data.toList)) ∧ Below w.heap.size w w' := by
  by_cases h : s.size < 4
  · have e : crcGood s.data.toList = false := by
      unfold crcGood; rw [show decide (4 ≤ s.data.toList.length) = false by simp; omega]; rfl
    rw [e]; exact good_short s w h
  · exact good_long s w (by omega) hs2
end Go.Proofs.Ytanbifhhoeaofaa

