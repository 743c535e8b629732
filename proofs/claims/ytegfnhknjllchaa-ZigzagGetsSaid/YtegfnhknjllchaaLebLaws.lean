/- The walks of four laws of layer 1, which do without the document's answer. No conditions. -/
import Derived.Test.YtegfnhknjllchaaLebWorks
import Derived.Test.YtegfnhknjllchaaLebBack
import Derived.Deep.RegionHeld3
namespace Go.Proofs.Ytegfnhknjllchaa
set_option linter.unusedVariables false
open Go Go.RowKit
theorem ret_bool {b : Bool} (h : b = true) : Ending.returned (.bool b) = .returned (.bool true) := by rw [h]
theorem u64_of {x : Int} (h : (Lit.int .u64 x).wf = true) : ∃ n : Nat, x = n ∧ U64 n := by
  have hx : 0 ≤ x ∧ x ≤ 18446744073709551615 := by simpa [Lit.wf, IntKind.min, IntKind.max, IntKind.signed, IntKind.bits] using h
  exact ⟨x.toNat, by omega, by unfold U64; omega⟩
theorem lebStr_size (n : Nat) : (lebStr n).size = (digs n).length := by
  show ((digs n).map UInt8.ofNat).toArray.size = _
  simp
theorem bytesFrom_back (a : ByteArray) (n : Nat) (b : ByteArray) : bytesFrom (a ++ lebStr n ++ b) a.size = digs n ++ b.data.toList.map UInt8.toNat := by
  unfold bytesFrom lebStr
  simp only [ByteArray.data_append, Array.toList_append, List.append_assoc]
  rw [show a.size = a.data.toList.length by rfl, List.drop_left']
  · simp only [List.map_append, List.map_map]
    congr 1
    rw [List.map_congr_left (g := id), List.map_id]
    intro x hx
    have := digs_byte n x hx
    simp only [Function.comp, UInt8.toNat_ofNat', id]
    omega
  · rfl
theorem lebGet_back (a : ByteArray) {n : Nat} (hn : U64 n) (b : ByteArray) : lebGet (a ++ lebStr n ++ b) a.size = (n, (a.size : Int) + ((lebStr n).size : Nat), 0) := by
  have hsz : (a ++ lebStr n ++ b).size = a.size + (lebStr n).size + b.size := by simp
  rw [lebGet, if_neg (by rw [hsz]; omega), Int.toNat_natCast, bytesFrom_back, getF_digs hn, lebStr_size]
theorem got_back (a : ByteArray) {n : Nat} (hn : U64 n) (b : ByteArray) : Got (lebGet (a ++ lebStr n ++ b) a.size) = .returned (.tuple #[.int .u64 n, .int .i64 ((a.size : Int) + ((lebStr n).size : Nat)), .int .i64 0]) := by
  rw [lebGet_back a hn b]; rfl
set_option maxRecDepth 100000 in
set_option maxHeartbeats 2000000 in
theorem walk_back (n : Int) (a b : ByteArray) (w : World) (hn : (Lit.int .u64 n).wf = true) (ha : a.size ≤ maxLen) (hb : b.size ≤ maxLen) :
    Calls Try.prog 5 #[.int .u64 n, .string a, .string b] w fun e w' => e = .returned (.bool true) ∧ Below w.heap.size w w' := by
  obtain ⟨n, rfl, hn64⟩ := u64_of hn
  clear hn
  have hls : (lebStr n).size ≤ 10 := by rw [lebStr_size]; exact digs_len_10 hn64
  unfold maxLen at ha hb
  by_cases h : a.size ≤ 2000 ∧ b.size ≤ 2000
  · obtain ⟨h1, h2⟩ := h
    go_enter Try.func5, Try.ntmps5
    go_wp2_with fail
    refine (lebworks_any _).mono ?_
    rintro e w1 ⟨rfl, hb1⟩
    go_wp2_with fail
    refine (put_any n hn64 _).mono ?_
    rintro e w2 ⟨rfl, hb2⟩
    go_wp2_with fail
    refine (get_ex (got_back a hn64 b) (by simp [maxLen]; omega) _).mono ?_
    rintro e w3 ⟨rfl, rfl⟩
    go_wp2_with fail
    go_ret
    exact ⟨ret_bool (by simp), later hb1 hb2⟩
  · go_enter Try.func5, Try.ntmps5
    go_wp2_with fail
    refine (lebworks_any _).mono ?_
    rintro e w1 ⟨rfl, hb1⟩
    go_wp2_with fail
    all_goals first | (go_ret; exact ⟨rfl, hb1⟩) | (exfalso; omega)

theorem bytesFrom_byte (s : ByteArray) (k : Nat) : ∀ x ∈ bytesFrom s k, x < 256 := by
  intro x hx
  unfold bytesFrom at hx
  obtain ⟨b, _, rfl⟩ := List.mem_map.1 hx
  exact b.toNat_lt
theorem lebGet_only {s : ByteArray} {at' to : Int} {n : Nat} (h : lebGet s at' = (n, to, 0)) : ∃ a t : Nat, at' = a ∧ to = t ∧ a < t ∧ t ≤ s.size ∧ U64 n ∧ lebStr n = s.extract a t := by
  unfold lebGet at h
  by_cases hc : at' < 0 ∨ (s.size : Int) < at'
  · rw [if_pos hc] at h; simp at h
  · rw [if_neg hc] at h
    simp only [Prod.mk.injEq] at h
    obtain ⟨h1, h2, h3⟩ := h
    obtain ⟨k, hk⟩ : ∃ k, (getF (bytesFrom s at'.toNat)).2.1 = k := ⟨_, rfl⟩
    have hg : getF (bytesFrom s at'.toNat) = (n, k, 0) := by rw [← h1, ← hk, ← h3]
    obtain ⟨hk0, hkl, hd, hu⟩ := getF_only (bytesFrom_byte s _) hg
    rw [bytesFrom_length] at hkl
    rw [hk] at h2
    refine ⟨at'.toNat, at'.toNat + k, by omega, by omega, by omega, by omega, hu, ?_⟩
    unfold lebStr
    rw [hd]
    apply ByteArray.ext
    rw [ByteArray.data_extract]
    apply Array.toList_inj.1
    simp only [Array.toList_extract, List.extract_eq_take_drop, Nat.add_sub_cancel_left]
    unfold bytesFrom
    rw [← List.map_take, List.map_map]
    rw [List.map_congr_left (g := id), List.map_id]
    intro x _
    simp
theorem lebGet_err {s : ByteArray} {at' : Int} (h : (lebGet s at').2.2 ≠ 0) : (lebGet s at').1 = 0 ∧ (lebGet s at').2.1 = at' := by
  unfold lebGet at h ⊢
  split
  · exact ⟨rfl, rfl⟩
  · rename_i hc
    rw [if_neg hc] at h
    have := getF_err h
    exact ⟨this.1, by rw [this.2]; simp⟩

set_option maxRecDepth 100000 in
set_option maxHeartbeats 2000000 in
theorem walk_only (s : ByteArray) (at' : Int) (w : World) (hs : s.size ≤ maxLen) (ha : (Lit.int .i64 at').wf = true) :
    Calls Try.prog 6 #[.string s, .int .i64 at'] w fun e w' => e = .returned (.bool true) ∧ Below w.heap.size w w' := by
  have hs' : s.size ≤ 9223372036854775807 := by unfold maxLen at hs; omega
  by_cases h : s.size ≤ 2000
  · obtain ⟨⟨n, to, e⟩, hr⟩ : ∃ r, lebGet s at' = r := ⟨_, rfl⟩
    by_cases he : e = 0
    · subst he
      obtain ⟨a, t, rfl, rfl, hat, hts, hu, hstr⟩ := lebGet_only hr
      have HG := Lib.hid (show Got (lebGet s (a : Int)) = .returned (.tuple #[.int .u64 n, .int .i64 (t : Int), .int .i64 0]) by rw [hr]; rfl)
      have HSTR := Lib.hid hstr
      have HS := Lib.hid hs
      have f0 : (0 : Int) ≤ (a : Int) := by omega
      have f1 : (a : Int) ≤ (t : Int) := by omega
      have f2 : (t : Int) ≤ (s.size : Int) := by omega
      have f3 : a ≤ t := by omega
      clear hr hstr hs
      go_enter Try.func6, Try.ntmps6
      go_wp2_with fail
      refine (lebworks_any _).mono ?_
      rintro e w1 ⟨rfl, hb1⟩
      go_wp2_with fail
      refine (get_ex HG.out HS.out _).mono ?_
      rintro e w3 ⟨rfl, rfl⟩
      go_wp2_with fail
      go_region_held3 (fun w' => Below w1.heap.size w1 w') (first | assumption | go_grown)
        (first | (go_at_call 17; refine (put_ex HSTR.out hu _).mono ?_; rintro e w2 ⟨rfl, hb3⟩; have hbl := later (by first | assumption | go_grown) hb3; clear hb3))
      all_goals go_wp2_with fail
      all_goals go_ret
      all_goals exact ⟨ret_bool (by simp), later hb1 (by first | assumption | go_grown)⟩
    · have hr2 := lebGet_err (s := s) (at' := at') (by rw [hr]; exact he)
      rw [hr] at hr2
      obtain ⟨rfl, rfl⟩ := hr2
      simp only at hr ha
      have HG := Lib.hid (show Got (lebGet s to) = .returned (.tuple #[.int .u64 0, .int .i64 to, .int .i64 (e : Nat)]) by rw [hr]; rfl)
      have HS := Lib.hid hs
      have z1 : ((e : Int) == 0) = false := by simp; omega
      have z2 : ((e : Int) != 0) = true := by simp; omega
      clear hr hs he
      go_enter Try.func6, Try.ntmps6
      go_wp2_with fail
      refine (lebworks_any _).mono ?_
      rintro e w1 ⟨rfl, hb1⟩
      go_wp2_with fail
      refine (get_ex HG.out HS.out _).mono ?_
      rintro e w3 ⟨rfl, rfl⟩
      go_wp2_with fail
      go_ret
      exact ⟨ret_bool (by simp), hb1⟩
  · go_enter Try.func6, Try.ntmps6
    go_wp2_with fail
    refine (lebworks_any _).mono ?_
    rintro e w1 ⟨rfl, hb1⟩
    go_wp2_with fail
    go_ret
    exact ⟨rfl, hb1⟩

theorem lebStr_inj {m n : Nat} (h : lebStr m = lebStr n) : m = n := by
  apply digs_inj
  unfold lebStr at h
  have h' : (digs m).map UInt8.ofNat = (digs n).map UInt8.ofNat := by
    have := congrArg (fun b : ByteArray => b.data.toList) h
    simpa using this
  have h2 := congrArg (List.map UInt8.toNat) h'
  rw [List.map_map, List.map_map, List.map_congr_left (l := digs m) (g := id), List.map_congr_left (l := digs n) (g := id), List.map_id, List.map_id] at h2
  · exact h2
  · intro x hx; have := digs_byte n x hx; simp only [Function.comp, UInt8.toNat_ofNat', id]; omega
  · intro x hx; have := digs_byte m x hx; simp only [Function.comp, UInt8.toNat_ofNat', id]; omega

theorem str_ne {a b : ByteArray} (h : a ≠ b) : (a.toList == b.toList) = false := by
  rw [beq_eq_false_iff_ne, ByteArray.toList_eq, ByteArray.toList_eq]
  intro h2
  exact h (ByteArray.ext (Array.toList_inj.1 h2))
theorem lebStr_ne {m n : Nat} (h : m ≠ n) : ((lebStr m).toList == (lebStr n).toList) = false := str_ne (fun h2 => h (lebStr_inj h2))

set_option maxRecDepth 100000 in
set_option maxHeartbeats 2000000 in
theorem walk_order (m n : Int) (w : World) (hm : (Lit.int .u64 m).wf = true) (hn : (Lit.int .u64 n).wf = true) :
    Calls Try.prog 7 #[.int .u64 m, .int .u64 n] w fun e w' => e = .returned (.bool true) ∧ Below w.heap.size w w' := by
  obtain ⟨m, rfl, hm64⟩ := u64_of hm
  obtain ⟨n, rfl, hn64⟩ := u64_of hn
  clear hm hn
  have hlm := digs_len_10 hm64
  have hln := digs_len_10 hn64
  have HSZ := Lib.hid (lebStr_size m)
  by_cases hlt : m < n
  · have hmono := digs_len_mono (Nat.le_of_lt hlt)
    have hne : ((m : Int) == (n : Int)) = false := by simp; omega
    have hse := lebStr_ne (m := m) (n := n) (by omega)
    go_enter Try.func7, Try.ntmps7
    go_wp2_with fail
    refine (lebworks_any _).mono ?_
    rintro e w1 ⟨rfl, hb1⟩
    go_wp2_with fail
    refine (put_any m hm64 _).mono ?_
    rintro e w2 ⟨rfl, hb2⟩
    go_wp2_with fail
    refine (put_any n hn64 _).mono ?_
    rintro e w3 ⟨rfl, hb3⟩
    have hbb := later (later hb1 hb2) hb3
    go_wp2_with fail
    refine (size_any m hm64 _).mono ?_
    rintro e w4 ⟨rfl, hb4⟩
    go_wp2_with fail
    refine (size_any n hn64 _).mono ?_
    rintro e w5 ⟨rfl, hb5⟩
    replace hbb := later (later hbb hb4) hb5
    go_wp2_with fail
    refine (size_any m hm64 _).mono ?_
    rintro e w6 ⟨rfl, hb6⟩
    go_wp2_with fail
    go_ret
    exact ⟨ret_bool (by simp [HSZ.out]), later hbb hb6⟩
  · by_cases heq : m = n
    · subst heq
      go_enter Try.func7, Try.ntmps7
      go_wp2_with fail
      refine (lebworks_any _).mono ?_
      rintro e w1 ⟨rfl, hb1⟩
      go_wp2_with fail
      refine (put_any m hm64 _).mono ?_
      rintro e w2 ⟨rfl, hb2⟩
      go_wp2_with fail
      refine (put_any m hm64 _).mono ?_
      rintro e w3 ⟨rfl, hb3⟩
      have hbb := later (later hb1 hb2) hb3
      go_wp2_with fail
      refine (size_any m hm64 _).mono ?_
      rintro e w6 ⟨rfl, hb6⟩
      go_wp2_with fail
      go_ret
      exact ⟨ret_bool (by simp [HSZ.out]), later hbb hb6⟩
    · have hne : ((m : Int) == (n : Int)) = false := by simp; omega
      have hse := lebStr_ne (m := m) (n := n) (by omega)
      clear heq
      go_enter Try.func7, Try.ntmps7
      go_wp2_with fail
      refine (lebworks_any _).mono ?_
      rintro e w1 ⟨rfl, hb1⟩
      go_wp2_with fail
      refine (put_any m hm64 _).mono ?_
      rintro e w2 ⟨rfl, hb2⟩
      go_wp2_with fail
      refine (put_any n hn64 _).mono ?_
      rintro e w3 ⟨rfl, hb3⟩
      have hbb := later (later hb1 hb2) hb3
      go_wp2_with fail
      refine (size_any m hm64 _).mono ?_
      rintro e w6 ⟨rfl, hb6⟩
      go_wp2_with fail
      go_ret
      exact ⟨ret_bool (by simp [HSZ.out]), later hbb hb6⟩

theorem extract_prefix {m n : Nat} (hle : (lebStr m).size ≤ (lebStr n).size) (h : (lebStr n).extract 0 (lebStr m).size = lebStr m) : m = n := by
  apply digs_prefix
  rw [lebStr_size] at hle h
  rw [lebStr_size] at hle
  have h1 := congrArg (fun b : ByteArray => b.data.toList.map UInt8.toNat) h
  simp only [ByteArray.data_extract, Array.toList_extract, List.extract_eq_take_drop, lebStr, List.drop_zero, Nat.sub_zero, ← List.map_take, List.map_map] at h1
  rw [List.map_congr_left (g := id), List.map_congr_left (l := digs m) (g := id), List.map_id, List.map_id] at h1
  · rw [← h1]; exact List.take_prefix _ _
  · intro x hx; have := digs_byte m x hx; simp only [Function.comp, UInt8.toNat_ofNat', id]; omega
  · intro x hx; have := digs_byte n x (List.mem_of_mem_take hx); simp only [Function.comp, UInt8.toNat_ofNat', id]; omega

set_option maxRecDepth 100000 in
set_option maxHeartbeats 2000000 in
theorem walk_prefix (m n : Int) (w : World) (hm : (Lit.int .u64 m).wf = true) (hn : (Lit.int .u64 n).wf = true) :
    Calls Try.prog 8 #[.int .u64 m, .int .u64 n] w fun e w' => e = .returned (.bool true) ∧ Below w.heap.size w w' := by
  obtain ⟨m, rfl, hm64⟩ := u64_of hm
  obtain ⟨n, rfl, hn64⟩ := u64_of hn
  clear hm hn
  have HM := Lib.hid (lebStr_size m)
  have HN := Lib.hid (lebStr_size n)
  by_cases hgt : (lebStr n).size < (lebStr m).size
  · have hg2 : (digs n).length < (digs m).length := by rw [← HM.out, ← HN.out]; exact hgt
    go_enter Try.func8, Try.ntmps8
    go_wp2_with fail
    refine (lebworks_any _).mono ?_
    rintro e w1 ⟨rfl, hb1⟩
    go_wp2_with fail
    refine (put_any m hm64 _).mono ?_
    rintro e w2 ⟨rfl, hb2⟩
    go_wp2_with fail
    refine (put_any n hn64 _).mono ?_
    rintro e w3 ⟨rfl, hb3⟩
    have hbb := later (later hb1 hb2) hb3
    go_wp2_with fail
    refine (size_any m hm64 _).mono ?_
    rintro e w4 ⟨rfl, hb4⟩
    go_wp2_with fail
    refine (size_any n hn64 _).mono ?_
    rintro e w5 ⟨rfl, hb5⟩
    go_wp2_with fail
    go_ret
    exact ⟨ret_bool (by simp), later (later hbb hb4) hb5⟩
  · by_cases heq : m = n
    · subst heq
      go_enter Try.func8, Try.ntmps8
      go_wp2_with fail
      refine (lebworks_any _).mono ?_
      rintro e w1 ⟨rfl, hb1⟩
      go_wp2_with fail
      refine (put_any m hm64 _).mono ?_
      rintro e w2 ⟨rfl, hb2⟩
      go_wp2_with fail
      refine (put_any m hn64 _).mono ?_
      rintro e w3 ⟨rfl, hb3⟩
      have hbb := later (later hb1 hb2) hb3
      go_wp2_with fail
      go_ret
      exact ⟨ret_bool (by simp), hbb⟩
    · have hne : ((m : Int) == (n : Int)) = false := by simp; omega
      have hse : (((lebStr n).extract 0 (lebStr m).size).toList == (lebStr m).toList) = false := str_ne (fun h => heq (extract_prefix (by omega) h))
      clear heq
      go_enter Try.func8, Try.ntmps8
      go_wp2_with fail
      refine (lebworks_any _).mono ?_
      rintro e w1 ⟨rfl, hb1⟩
      go_wp2_with fail
      refine (put_any m hm64 _).mono ?_
      rintro e w2 ⟨rfl, hb2⟩
      go_wp2_with fail
      refine (put_any n hn64 _).mono ?_
      rintro e w3 ⟨rfl, hb3⟩
      have hbb := later (later hb1 hb2) hb3
      go_wp2_with fail
      go_ret
      exact ⟨ret_bool (by simp), hbb⟩
end Go.Proofs.Ytegfnhknjllchaa
