/- The walks of four laws of layer 1, which do without the document's answer. No conditions. -/
import Derived.Test.YtanbifhhoeaofaaLebWorks
import Derived.Test.YtanbifhhoeaofaaLebBack
import Derived.Deep.RegionHeld3
namespace Go.Proofs.Ytanbifhhoeaofaa
set_option linter.unusedVariables false
open Go Go.RowKit
theorem ret_bool {b : Bool} (h : b = true) : Ending.returned (.bool b) = .returned (.bool true) := by rw [h]
theorem u64_of {x : Int} (h : (Lit.int .u64 x).wf = true) : ∃ n : Nat, x = n ∧ U64 n := by
  have hx : 0 ≤ x ∧ x ≤ 18446744073709551615 := by simpa [Lit.wf, IntKind.min, IntKind.max, IntKind.signed, IntKind.bits] using h
  exact ⟨x.toNat, by omega, by unfold U64; omega⟩
theorem lebStr_size (n : Nat) : (lebStr n).size = (digs n).length := by
  show ((digs n).map UInt8.ofNat).toArray.size = _
  simp
theorem bytesFrom_back (a : ByteArray) (n : Nat) (b : ByteArray) : bytesFrom (a ++ lebStr n ++ b) a.size = digs n ++ b.data.toList.map UInt8.toNat := by
  unfold bytesFrom lebStr
  simp only [ByteArray.data_append, Array.toList_append, List.append_assoc]
  rw [show a.size = a.data.toList.length by rfl, List.drop_left']
  · simp only [List.map_append, List.map_map]
    congr 1
    rw [List.map_congr_left (g := id), List.map_id]
    intro x hx
    have := digs_byte n x hx
    simp only [Function.comp, UInt8.toNat_ofNat', id]
    omega
  · rfl
theorem lebGet_back (a : ByteArray) {n : Nat} (hn : U64 n) (b : ByteArray) : lebGet (a ++ lebStr n ++ b) a.size = (n, (a.size : Int) + ((lebStr n).size : Nat), 0) := by
  have hsz : (a ++ lebStr n ++ b).size = a.size + (lebStr n).size + b.size := by simp
  rw [lebGet, if_neg (by rw [hsz]; omega), Int.toNat_natCast, bytesFrom_back, getF_digs hn, lebStr_size]
theorem got_back (a : ByteArray) {n : Nat} (hn : U64 n) (b : ByteArray) : Got (lebGet (a ++ lebStr n ++ b) a.size) = .returned (.tuple #[.int .u64 n, .int .i64 ((a.size : Int) + ((lebStr n).size : Nat)), .int .i64 0]) := by
  rw [lebGet_back a hn b]; rfl
theorem bytesFrom_byte (s : ByteArray) (k : Nat) : ∀ x ∈ bytesFrom s k, x < 256 := by
  intro x hx
  unfold bytesFrom at hx
  obtain ⟨b, _, rfl⟩ := List.mem_map.1 hx
  exact b.toNat_lt
theorem lebGet_only {s : ByteArray} {at' to : Int} {n : Nat} (h : lebGet s at' = (n, to, 0)) : ∃ a t : Nat, at' = a ∧ to = t ∧ a < t ∧ t ≤ s.size ∧ U64 n ∧ lebStr n = s.extract a t := by
  unfold lebGet at h
  by_cases hc : at' < 0 ∨ (s.size : Int) < at'
  · rw [if_pos hc] at h; simp at h
  · rw [if_neg hc] at h
    simp only [Prod.mk.injEq] at h
    obtain ⟨h1, h2, h3⟩ := h
    obtain ⟨k, hk⟩ : ∃ k, (getF (bytesFrom s at'.toNat)).2.1 = k := ⟨_, rfl⟩
    have hg : getF (bytesFrom s at'.toNat) = (n, k, 0) := by rw [← h1, ← hk, ← h3]
    obtain ⟨hk0, hkl, hd, hu⟩ := getF_only (bytesFrom_byte s _) hg
    rw [bytesFrom_length] at hkl
    rw [hk] at h2
    refine ⟨at'.toNat, at'.toNat + k, by omega, by omega, by omega, by omega, hu, ?_⟩
    unfold lebStr
    rw [hd]
    apply ByteArray.ext
    rw [ByteArray.data_extract]
    apply Array.toList_inj.1
    simp only [Array.toList_extract, List.extract_eq_take_drop, Nat.add_sub_cancel_left]
    unfold bytesFrom
    rw [← List.map_take, List.map_map]
    rw [List.map_congr_left (g := id), List.map_id]
    intro x _
    simp
theorem lebGet_err {s : ByteArray} {at' : Int} (h : (lebGet s at').2.2 ≠ 0) : (lebGet s at').1 = 0 ∧ (lebGet s at').2.1 = at' := by
  unfold lebGet at h ⊢
  split
  · exact ⟨rfl, rfl⟩
  · rename_i hc
    rw [if_neg hc] at h
    have := getF_err h
    exact ⟨this.1, by rw [this.2]; simp⟩

theorem lebStr_inj {m n : Nat} (h : lebStr m = lebStr n) : m = n := by
  apply digs_inj
  unfold lebStr at h
  have h' : (digs m).map UInt8.ofNat = (digs n).map UInt8.ofNat := by
    have := congrArg (fun b : ByteArray => b.data.toList) h
    simpa using this
  have h2 := congrArg (List.map UInt8.toNat) h'
  rw [List.map_map, List.map_map, List.map_congr_left (l := digs m) (g := id), List.map_congr_left (l := digs n) (g := id), List.map_id, List.map_id] at h2
  · exact h2
  · intro x hx; have := digs_byte n x hx; simp only [Function.comp, UInt8.toNat_ofNat', id]; omega
  · intro x hx; have := digs_byte m x hx; simp only [Function.comp, UInt8.toNat_ofNat', id]; omega

theorem str_ne {a b : ByteArray} (h : a ≠ b) : (a.toList == b.toList) = false := by
  rw [beq_eq_false_iff_ne, ByteArray.toList_eq, ByteArray.toList_eq]
  intro h2
  exact h (ByteArray.ext (Array.toList_inj.1 h2))
theorem lebStr_ne {m n : Nat} (h : m ≠ n) : ((lebStr m).toList == (lebStr n).toList) = false := str_ne (fun h2 => h (lebStr_inj h2))

theorem extract_prefix {m n : Nat} (hle : (lebStr m).size ≤ (lebStr n).size) (h : (lebStr n).extract 0 (lebStr m).size = lebStr m) : m = n := by
  apply digs_prefix
  rw [lebStr_size] at hle h
  rw [lebStr_size] at hle
  have h1 := congrArg (fun b : ByteArray => b.data.toList.map UInt8.toNat) h
  simp only [ByteArray.data_extract, Array.toList_extract, List.extract_eq_take_drop, lebStr, List.drop_zero, Nat.sub_zero, ← List.map_take, List.map_map] at h1
  rw [List.map_congr_left (g := id), List.map_congr_left (l := digs m) (g := id), List.map_id, List.map_id] at h1
  · rw [← h1]; exact List.take_prefix _ _
  · intro x hx; have := digs_byte m x hx; simp only [Function.comp, UInt8.toNat_ofNat', id]; omega
  · intro x hx; have := digs_byte n x (List.mem_of_mem_take hx); simp only [Function.comp, UInt8.toNat_ofNat', id]; omega

end Go.Proofs.Ytanbifhhoeaofaa

