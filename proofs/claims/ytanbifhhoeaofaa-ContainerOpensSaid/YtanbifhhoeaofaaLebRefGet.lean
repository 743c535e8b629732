/- The walks of the reference bytes, value and Get, and of the law LebGets. No conditions. -/
import Derived.Test.YtanbifhhoeaofaaLebRef
namespace Go.Proofs.Ytanbifhhoeaofaa
set_option linter.unusedVariables false
open Go Go.RowKit

set_option maxRecDepth 100000 in
set_option maxHeartbeats 2000000 in
theorem rbytes_any (s : ByteArray) (a : Nat) (w : World) (hs : s.size ≤ maxLen) (ha : a ≤ s.size) :
    Calls Try.prog 74 #[.string s, .int .i64 a] w fun e w' => e = .returned (.int .i64 (endAt 10 (bytesFrom s a) : Nat)) ∧ w = w' := by
  obtain ⟨l, hl⟩ : ∃ l, bytesFrom s a = l := ⟨_, rfl⟩
  have hlen : l.length = s.size - a := by rw [← hl]; exact bytesFrom_length s a
  have hget : ∀ j, (h : a + j < s.size) → l.getD j 0 = (s[a + j]'h).toNat := fun j h => by rw [← hl]; exact bytesFrom_getD s a j h
  have HL := Lib.hid hl
  have HLEN := Lib.hid hlen
  have HGET := Lib.hid hget
  clear hl hlen hget
  unfold maxLen at hs
  go_enter Try.func74, Try.ntmps74
  go_wp2_with fail
  go_loop [5] (fun i => ∃ k : Nat, k ≤ 10 ∧ a + k ≤ s.size ∧ i = .int .i64 k ∧ ∀ j, j < k → 128 ≤ l.getD j 0) (fun i => 10 - (intOf i).toNat)
  case atStart => exact ⟨0, by omega, by omega, rfl, fun j hj => by omega⟩
  case round =>
    obtain ⟨k, hk, hk2, rfl, hge⟩ := hrel
    have HGE := Lib.hid hge
    clear hge
    by_cases h10 : k < 10
    · by_cases hend : a + k < s.size
      · obtain ⟨b, hbb⟩ : ∃ b : Nat, s[a + k].toNat = b := ⟨_, rfl⟩
        have hb256 : b < 256 := by rw [← hbb]; exact (s[a + k]).toNat_lt
        have HLB : Hid (l.getD k 0 = b) := Lib.hid ((HGET.out k hend).trans hbb)
        by_cases hb : b < 128
        · have HE : Hid (endAt 10 (bytesFrom s a) = k + 1) := Lib.hid (by rw [HL.out]; exact endAt_at (by rw [HLEN.out]; omega) h10 HGE.out (by rw [HLB.out]; exact hb))
          go_wp2_with fail
          go_ret
          exact ⟨by rw [HE.out]; rfl, rfl⟩
        · go_wp2_with fail
          go_round
          case rel =>
            refine ⟨k + 1, by omega, by omega, by go_num, fun j hj => ?_⟩
            by_cases hjk : j < k
            · exact HGE.out j hjk
            · obtain rfl : j = k := by omega
              rw [HLB.out]; omega
          case measure => simp [intOf]; omega
      · have HE : Hid (endAt 10 (bytesFrom s a) = 0) := Lib.hid (by rw [HL.out]; exact endAt_short (k := k) (by rw [HLEN.out]; omega) h10 HGE.out)
        go_wp2_with fail
        go_ret
        exact ⟨by rw [HE.out]; rfl, rfl⟩
    · have HE : Hid (endAt 10 (bytesFrom s a) = 0) := Lib.hid (by rw [HL.out]; exact (endAt_none10 (fun j hj => ⟨by rw [HLEN.out]; omega, HGE.out j (by omega)⟩)).1)
      go_wp2_with fail
      go_ret
      exact ⟨by rw [HE.out]; rfl, rfl⟩

/-- what a text's bytes come to, modulo 2^64 -/
def valStr (s : ByteArray) : Nat := W64 (val (bytesFrom s 0))
theorem bytesFrom_step (s : ByteArray) (k : Nat) (h : k < s.size) : bytesFrom s k = s[k].toNat :: bytesFrom s (k + 1) := by
  unfold bytesFrom
  rw [List.drop_eq_getElem_cons (show k < s.data.toList.length from h)]
  rfl
theorem bytesFrom_end (s : ByteArray) (k : Nat) (h : s.size ≤ k) : bytesFrom s k = [] := by
  unfold bytesFrom; rw [List.drop_of_length_le (show s.data.toList.length ≤ k from h)]; rfl
theorem valstep (q b : Nat) : ((W64 (b % 128 + 128 * q) : Nat) : Int) = IntKind.u64.wrap (IntKind.u64.wrap ((W64 q : Nat) * 128) + (b : Int) % 128) := by
  rw [IntKind.wrap_u64, IntKind.wrap_u64]; unfold W64; omega
set_option maxRecDepth 100000 in
set_option maxHeartbeats 2000000 in
theorem rvalue_any (s : ByteArray) (w : World) (hs : s.size ≤ maxLen) :
    Calls Try.prog 75 #[.string s] w fun e w' => e = .returned (.int .u64 (valStr s : Nat)) ∧ w = w' := by
  unfold maxLen at hs
  go_enter Try.func75, Try.ntmps75
  go_wp2_with fail
  go_loop [3, 4] (fun n i => ∃ z : Int, -1 ≤ z ∧ z < s.size ∧ i = .int .i64 z ∧ n = .int .u64 (W64 (val (bytesFrom s (z + 1).toNat)) : Nat)) (fun _ i => (intOf i + 1).toNat)
  case atStart => exact ⟨(s.size : Int) - 1, by omega, by omega, rfl, by rw [bytesFrom_end s _ (by omega)]; rfl⟩
  case round =>
    obtain ⟨z, hz0, hz1, rfl, rfl⟩ := hrel
    obtain ⟨q, hq⟩ : ∃ q, val (bytesFrom s (z + 1).toNat) = q := ⟨_, rfl⟩
    rw [hq]
    have HQ := Lib.hid hq
    clear hq
    by_cases h0 : 0 ≤ z
    · obtain ⟨j, rfl⟩ := Int.eq_ofNat_of_zero_le h0
      have hj : j < s.size := by omega
      obtain ⟨b, hb⟩ : ∃ b : Nat, s[j].toNat = b := ⟨_, rfl⟩
      have hb256 : b < 256 := by rw [← hb]; exact (s[j]).toNat_lt
      have HS := Lib.hid (bytesFrom_step s j hj)
      have HV := Lib.hid (valstep q b)
      have HB := Lib.hid hb
      go_wp2_with fail
      go_round
      case rel =>
        refine ⟨(j : Int) - 1, by omega, by omega, rfl, ?_⟩
        rw [show ((j : Int) - 1 + 1).toNat = j by omega, HS.out, HB.out, val, show bytesFrom s (j + 1) = bytesFrom s ((j : Int) + 1).toNat by congr 1, HQ.out, HV.out]
      case measure => simp [intOf]
    · obtain rfl : z = -1 := by omega
      go_wp2_with fail
      go_ret
      exact ⟨by rw [valStr, ← HQ.out]; rfl, rfl⟩

theorem endAt_len (f : Nat) : ∀ l, endAt f l ≤ l.length := by
  induction f with
  | zero => intro l; simp [endAt]
  | succ f ih =>
    intro l
    cases l with
    | nil => simp [endAt]
    | cons b r =>
      have := ih r
      rw [endAt]
      split
      · simp
      · split <;> simp only [List.length_cons] <;> omega
theorem w64_u64 (n : Nat) : U64 (W64 n) := Nat.mod_lt _ (by omega)
theorem getF_case {l : List Nat} {k : Nat} (hb : ∀ x ∈ l, x < 256) (hk : endAt 10 l = k) (h0 : k ≠ 0) :
    k ≤ l.length ∧ ((digs (W64 (val (l.take k))) = l.take k ∧ getF l = (W64 (val (l.take k)), k, 0)) ∨ (digs (W64 (val (l.take k))) ≠ l.take k ∧ getF l = (0, 0, 3))) := by
  have hkl : k ≤ l.length := by
    subst hk
    have h := endAt_len 10 l
    exact h
  refine ⟨hkl, ?_⟩
  by_cases hbad : (1 < endAt 10 l ∧ l.getD (endAt 10 l - 1) 0 = 0) ∨ (endAt 10 l = 10 ∧ 1 < l.getD (endAt 10 l - 1) 0)
  · right
    have hg : getF l = (0, 0, 3) := by rw [getF, if_neg (by omega), if_pos hbad]
    refine ⟨fun hd => ?_, hg⟩
    have h2 := getF_digs (w64_u64 (val (l.take k))) (l.drop k)
    rw [hd, List.take_append_drop, hg] at h2
    simp at h2
  · left
    have hg : getF l = (val (l.take k), k, 0) := by rw [getF, if_neg (by omega), if_neg hbad, hk]
    obtain ⟨_, _, hd, hu⟩ := getF_only hb hg
    have hw : W64 (val (l.take k)) = val (l.take k) := Nat.mod_eq_of_lt hu
    rw [hw]
    exact ⟨hd, hg⟩
theorem extract_bytes (s : ByteArray) (a k : Nat) (h : a + k ≤ s.size) : bytesFrom (s.extract a (a + k)) 0 = (bytesFrom s a).take k := by
  unfold bytesFrom
  simp only [List.drop_zero, ByteArray.data_extract, Array.toList_extract, List.extract_eq_take_drop, Nat.add_sub_cancel_left, List.map_take]
theorem lebStr_of_digs {n : Nat} {t : ByteArray} : lebStr n = t ↔ digs n = bytesFrom t 0 := by
  constructor
  · intro h
    rw [← h]
    unfold bytesFrom lebStr
    simp only [List.drop_zero, List.map_map]
    rw [List.map_congr_left (g := id), List.map_id]
    intro x hx; have := digs_byte n x hx; simp only [Function.comp, UInt8.toNat_ofNat', id]; omega
  · intro h
    unfold lebStr
    rw [h]
    apply ByteArray.ext
    apply Array.toList_inj.1
    unfold bytesFrom
    simp only [List.drop_zero, List.map_map]
    rw [List.map_congr_left (g := id), List.map_id]
    intro x _; simp

set_option maxRecDepth 100000 in
set_option maxHeartbeats 2000000 in
theorem rget_in (s : ByteArray) (a : Nat) (w : World) (hs : s.size ≤ maxLen) (ha : a ≤ s.size) :
    Calls Try.prog 70 #[.string s, .int .i64 a] w fun e w' => Tells s a e ∧ Below w.heap.size w w' := by
  obtain ⟨l, hl⟩ : ∃ l, bytesFrom s a = l := ⟨_, rfl⟩
  have hlen : l.length = s.size - a := by rw [← hl]; exact bytesFrom_length s a
  have hbyte : ∀ x ∈ l, x < 256 := by rw [← hl]; exact bytesFrom_byte s a
  obtain ⟨k, hk⟩ : ∃ k, endAt 10 (bytesFrom s a) = k := ⟨_, rfl⟩
  have hk10 : k ≤ 10 := by rw [← hk]; exact endAt_le 10 _
  have HRB := Lib.hid (show ∀ w, Calls Try.prog 74 #[.string s, .int .i64 a] w fun e w' => e = .returned (.int .i64 (k : Nat)) ∧ w = w' by
    intro w; have := rbytes_any s a w hs ha; rw [hk] at this; exact this)
  have HS := Lib.hid hs
  have HL := Lib.hid hl
  have HK := Lib.hid hk
  have HLEN := Lib.hid hlen
  unfold maxLen at hs
  have f0 : (0 : Int) ≤ (a : Int) := by omega
  have f1 : (a : Int) ≤ (s.size : Int) := by omega
  by_cases h0 : k = 0
  · subst h0
    by_cases h10 : s.size - a < 10
    · have HT : Hid (Tells s a (.returned (.tuple #[.int .u64 0, .int .i64 a, .int .i64 2]))) := Lib.hid (by
        unfold Tells; rw [getF, if_pos hk, if_pos (by rw [hl, hlen]; exact h10)]; exact tup3 (a := 0) rfl (by simp) rfl)
      have h11 : (s.size : Int) - a < 10 := by omega
      clear hl hlen hbyte hk
      go_enter Try.func70, Try.ntmps70
      go_wp2_with fail
      refine (HRB.out _).mono ?_
      rintro e w1 ⟨rfl, rfl⟩
      go_wp2_with fail
      go_ret3
      exact ⟨HT.out, Below.refl _ _⟩
    · have HT : Hid (Tells s a (.returned (.tuple #[.int .u64 0, .int .i64 a, .int .i64 3]))) := Lib.hid (by
        unfold Tells; rw [getF, if_pos hk, if_neg (by rw [hl, hlen]; exact h10)]; exact tup3 (a := 0) rfl (by simp) rfl)
      have h11 : ¬ (s.size : Int) - a < 10 := by omega
      clear hl hlen hbyte hk
      go_enter Try.func70, Try.ntmps70
      go_wp2_with fail
      refine (HRB.out _).mono ?_
      rintro e w1 ⟨rfl, rfl⟩
      go_wp2_with fail
      go_ret3
      exact ⟨HT.out, Below.refl _ _⟩
  · obtain ⟨hkl, hcase⟩ := getF_case (l := bytesFrom s a) (by rw [hl]; exact hbyte) hk h0
    have hak : a + k ≤ s.size := by rw [hl] at hkl; omega
    obtain ⟨n, hn⟩ : ∃ n, W64 (val ((bytesFrom s a).take k)) = n := ⟨_, rfl⟩
    have hu : U64 n := by rw [← hn]; exact w64_u64 _
    obtain ⟨t, ht⟩ : ∃ t, s.extract a (a + k) = t := ⟨_, rfl⟩
    have hts : t.size ≤ maxLen := by rw [← ht]; simp; have := HS.out; omega
    have hv : valStr t = n := by rw [valStr, ← ht, extract_bytes s a k hak, hn]
    have hd : lebStr n = t ↔ digs n = (bytesFrom s a).take k := by rw [lebStr_of_digs, ← ht, extract_bytes s a k hak]
    have HRV := Lib.hid (show ∀ w, Calls Try.prog 75 #[.string t] w fun e w' => e = .returned (.int .u64 (n : Nat)) ∧ w = w' by
      intro w; have := rvalue_any t w hts; rw [hv] at this; exact this)
    have k0 : ((k : Int) == 0) = false := by simp; omega
    have f2 : (a : Int) ≤ (a : Int) + (k : Int) := by omega
    have f3 : (a : Int) + (k : Int) ≤ (s.size : Int) := by omega
    rw [hn] at hcase
    have hext := ht
    have hw := IntWalk.i64_in ((a : Int) + (k : Int)) (by omega)
    have f4 : a ≤ a + k := by omega
    have f5 : ((a : Int) + (k : Int)).toNat = a + k := by omega
    rcases hcase with ⟨hg1, hg2⟩ | ⟨hg1, hg2⟩
    · have HT : Hid (Tells s a (.returned (.tuple #[.int .u64 n, .int .i64 ((a : Int) + k), .int .i64 0]))) := Lib.hid (by
        unfold Tells; rw [hg2]; exact tup3 rfl rfl rfl)
      have hpe := hd.2 hg1
      have hne : (!((lebStr n).toList == t.toList)) = false := by rw [hpe]; simp
      have hne' : ((lebStr n).toList == t.toList) = true := by rw [hpe]; simp
      clear hpe hg1 hg2
      clear hl hlen hbyte hk hd hkl hn hv ht hts hs
      have RP := Lib.hid (fun w => rput_any n hu w)
      go_enter Try.func70, Try.ntmps70
      go_wp2_with fail
      refine (HRB.out _).mono ?_
      rintro e w1 ⟨rfl, rfl⟩
      go_wp2_with fail
      refine (HRV.out _).mono ?_
      rintro e w1 ⟨rfl, rfl⟩
      go_wp2_with fail
      go_region_held3 (fun w' => Below w.heap.size w w') (first | assumption | go_grown)
        (first | (go_at_call 36; refine (RP.out _).mono ?_; rintro e w2 ⟨rfl, hb3⟩; have hbl := later (by first | assumption | go_grown) hb3; clear hb3))
      all_goals go_wp2_with fail
      all_goals go_ret3
      all_goals exact ⟨HT.out, by first | assumption | go_grown⟩
    · have HT : Hid (Tells s a (.returned (.tuple #[.int .u64 0, .int .i64 a, .int .i64 3]))) := Lib.hid (by
        unfold Tells; rw [hg2]; exact tup3 (a := 0) rfl (by simp) rfl)
      have hne' : ((lebStr n).toList == t.toList) = false := str_ne (fun h => hg1 (hd.1 h))
      clear hg1 hg2
      clear hl hlen hbyte hk hd hkl hn hv ht hts hs
      have RP := Lib.hid (fun w => rput_any n hu w)
      go_enter Try.func70, Try.ntmps70
      go_wp2_with fail
      refine (HRB.out _).mono ?_
      rintro e w1 ⟨rfl, rfl⟩
      go_wp2_with fail
      refine (HRV.out _).mono ?_
      rintro e w1 ⟨rfl, rfl⟩
      go_wp2_with fail
      go_region_held3 (fun w' => Below w.heap.size w w') (first | assumption | go_grown)
        (first | (go_at_call 36; refine (RP.out _).mono ?_; rintro e w2 ⟨rfl, hb3⟩; have hbl := later (by first | assumption | go_grown) hb3; clear hb3))
      all_goals go_wp2_with fail
      all_goals go_ret3
      all_goals exact ⟨HT.out, by first | assumption | go_grown⟩

set_option maxHeartbeats 400000 in
theorem rget_out (s : ByteArray) (a : Int) (w : World) (hs : s.size ≤ maxLen) (ha : a < 0 ∨ (s.size : Int) < a) :
    Calls Try.prog 70 #[.string s, .int .i64 a] w fun e w' => e = .returned (.tuple #[.int .u64 0, .int .i64 a, .int .i64 1]) ∧ w = w' := by
  unfold maxLen at hs
  by_cases h : a < 0
  · go_enter Try.func70, Try.ntmps70
    go_wp2_with fail
    go_ret3
    exact ⟨rfl, rfl⟩
  · have h2 : (s.size : Int) < a := by omega
    clear ha
    go_enter Try.func70, Try.ntmps70
    go_wp2_with fail
    go_ret3
    exact ⟨rfl, rfl⟩
theorem rget_any (s : ByteArray) (a : Int) (w : World) (hs : s.size ≤ maxLen) :
    Calls Try.prog 70 #[.string s, .int .i64 a] w fun e w' => e = Got (lebGet s a) ∧ Below w.heap.size w w' := by
  by_cases h : a < 0 ∨ (s.size : Int) < a
  · rw [show lebGet s a = (0, a, 1) from by rw [lebGet, if_pos h]]
    exact (rget_out s a w hs h).mono fun e w' ⟨h1, h2⟩ => ⟨h1, h2 ▸ Below.refl _ _⟩
  · rw [lebGet, if_neg h]
    obtain ⟨n, rfl⟩ := Int.eq_ofNat_of_zero_le (show 0 ≤ a by omega)
    exact rget_in s n w hs (by omega)
end Go.Proofs.Ytanbifhhoeaofaa

