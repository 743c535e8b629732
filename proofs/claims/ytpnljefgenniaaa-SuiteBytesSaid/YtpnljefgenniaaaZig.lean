/- The walks of zigzag: Zig, Zag, Put, Get. No conditions. -/
import Derived.Test.YtpnljefgenniaaaLebRefGet
import Derived.Laws.EntriesVeiled
namespace Go.Proofs.Ytpnljefgenniaaa
set_option linter.unusedVariables false
open Go Go.RowKit
/-- the number without a sign that tells n -/
def zigF (n : Int) : Nat := if 0 ≤ n then (2 * n).toNat else (-2 * n - 1).toNat
/-- the number that is told by u -/
def zagF (u : Nat) : Int := if u % 2 = 0 then ((u / 2 : Nat) : Int) else -((u / 2 : Nat) : Int) - 1
def I64 (n : Int) : Prop := -9223372036854775808 ≤ n ∧ n ≤ 9223372036854775807
theorem zagF_zigF (n : Int) : zagF (zigF n) = n := by
  unfold zagF zigF; split <;> split <;> omega
theorem zigF_zagF (u : Nat) : zigF (zagF u) = u := by
  unfold zagF zigF; split <;> split <;> omega
theorem zigF_u64 {n : Int} (h : I64 n) : U64 (zigF n) := by
  unfold I64 at h; unfold U64 zigF; split <;> omega
theorem zagF_i64 {u : Nat} (h : U64 u) : I64 (zagF u) := by
  unfold U64 at h; unfold I64 zagF; split <;> omega

theorem bv_neg1 : BitVec.ofInt 64 (-1) = BitVec.allOnes 64 := by decide
theorem xor_ones (x : Nat) (hx : x < 18446744073709551616) : (BitVec.ofInt 64 (x : Int) ^^^ BitVec.allOnes 64).toNat = 18446744073709551615 - x := by
  rw [BitVec.xor_allOnes, BitVec.toNat_not, BitVec.ofInt_natCast, BitVec.toNat_ofNat, Nat.mod_eq_of_lt (by simpa using hx)]
theorem zig_neg (x : Nat) (h : U64 x) : bits BinOp.xor IntKind.u64 IntKind.u64.max (x : Int) = ((18446744073709551615 - x : Nat) : Int) := by
  show IntKind.u64.wrap ((BitVec.ofInt 64 IntKind.u64.max ^^^ BitVec.ofInt 64 (x : Int)).toNat : Int) = _
  rw [show BitVec.ofInt 64 IntKind.u64.max = BitVec.allOnes 64 by decide, BitVec.xor_comm, xor_ones x h, IntKind.wrap_u64]
  omega
theorem and_one (m : Nat) (h : U64 m) : bits BinOp.and IntKind.u64 (m : Int) 1 = ((m % 2 : Nat) : Int) := by
  have := bits_and_u64_nat m 1 h (by omega)
  rw [Nat.and_one_is_mod] at this
  exact this
theorem zag_val (m : Nat) (h : U64 m) : bits BinOp.xor IntKind.i64 (wrap64 ((m : Int) / 2)) (wrap64 (-wrap64 (bits BinOp.and IntKind.u64 (m : Int) 1))) = zagF m := by
  rw [and_one m h]
  have e1 : wrap64 ((m : Int) / 2) = ((m / 2 : Nat) : Int) := by unfold U64 at h; unfold wrap64; omega
  have hx : m / 2 < 18446744073709551616 := by unfold U64 at h; omega
  rw [e1]
  unfold zagF
  by_cases hm : m % 2 = 0
  · rw [if_pos hm, hm]
    have e2 : wrap64 (-wrap64 ((0 : Nat) : Int)) = 0 := by unfold wrap64; decide
    rw [e2]
    show IntKind.i64.wrap ((BitVec.ofInt 64 ((m / 2 : Nat) : Int) ^^^ BitVec.ofInt 64 0).toNat : Int) = _
    rw [show BitVec.ofInt 64 0 = 0#64 by decide, BitVec.xor_zero, BitVec.ofInt_natCast, BitVec.toNat_ofNat, Nat.mod_eq_of_lt (by simpa using hx), IntKind.wrap_i64]
    unfold U64 at h; omega
  · rw [if_neg hm, show m % 2 = 1 by omega]
    have e2 : wrap64 (-wrap64 ((1 : Nat) : Int)) = -1 := by unfold wrap64; decide
    rw [e2]
    show IntKind.i64.wrap ((BitVec.ofInt 64 ((m / 2 : Nat) : Int) ^^^ BitVec.ofInt 64 (-1)).toNat : Int) = _
    rw [bv_neg1, xor_ones _ hx, IntKind.wrap_i64]
    unfold U64 at h; omega

set_option maxRecDepth 100000 in
set_option maxHeartbeats 400000 in
theorem zag_any (m : Nat) (h : U64 m) (w : World) :
    Calls Try.prog 77 #[.int .u64 m] w fun e w' => e = .returned (.int .i64 (zagF m)) ∧ w = w' := by
  have hv := zag_val m h
  have HV := Lib.hid hv
  clear hv
  go_enter Try.func77, Try.ntmps77
  go_wp2_with fail
  go_ret
  exact ⟨congrArg (fun x => Ending.returned (.int .i64 x)) HV.out, rfl⟩

set_option maxRecDepth 100000 in
set_option maxHeartbeats 400000 in
theorem zig1_any (m r : Nat) (h : IntKind.u64.wrap ((m : Int) * 2) = (r : Int)) (w : World) :
    Calls Try.prog 84 #[.int .u64 m] w fun e w' => e = .returned (.int .u64 (r : Nat)) ∧ w = w' := by
  go_enter Try.func84, Try.ntmps84
  go_wp2_with fail
  go_ret
  exact ⟨rfl, rfl⟩
set_option maxRecDepth 100000 in
set_option maxHeartbeats 400000 in
theorem zig2_any (m q r : Nat) (h : IntKind.u64.wrap ((m : Int) * 2) = (q : Int)) (h2 : bits BinOp.xor IntKind.u64 IntKind.u64.max (q : Int) = (r : Int)) (w : World) :
    Calls Try.prog 85 #[.int .u64 m] w fun e w' => e = .returned (.int .u64 (r : Nat)) ∧ w = w' := by
  go_enter Try.func85, Try.ntmps85
  go_wp2_with fail
  go_ret
  exact ⟨rfl, rfl⟩
set_option maxRecDepth 100000 in
set_option maxHeartbeats 400000 in
theorem zig_any (n : Int) (h : I64 n) (w : World) :
    Calls Try.prog 80 #[.int .i64 n] w fun e w' => e = .returned (.int .u64 (zigF n : Nat)) ∧ Below w.heap.size w w' := by
  unfold I64 at h
  by_cases h0 : 0 ≤ n
  · obtain ⟨m, rfl⟩ := Int.eq_ofNat_of_zero_le h0
    have e1 : IntKind.u64.wrap (m : Int) = (m : Int) := by rw [IntKind.wrap_u64]; omega
    have e2 : (m : Int) / 9223372036854775808 = 0 := by omega
    have C := Lib.hid (zig1_any m (zigF m) (by rw [IntKind.wrap_u64, zigF, if_pos h0]; omega))
    clear h h0
    go_enter Try.func80, Try.ntmps80
    go_wp2_with fail
    refine (C.out _).mono ?_
    rintro e w1 ⟨rfl, rfl⟩
    go_wp2_with fail
    go_ret
    refine ⟨rfl, ?_⟩
    go_grown
  · obtain ⟨m, hm⟩ : ∃ m : Nat, n + 18446744073709551616 = m := ⟨(n + 18446744073709551616).toNat, by omega⟩
    have e1 : IntKind.u64.wrap n = (m : Int) := by rw [IntKind.wrap_u64]; omega
    have e2 : (m : Int) / 9223372036854775808 = 1 := by omega
    have C := Lib.hid (zig2_any m (2 * m - 18446744073709551616) (zigF n) (by rw [IntKind.wrap_u64]; omega) (by
      rw [zig_neg _ (by unfold U64; omega), zigF, if_neg h0]; omega))
    clear h h0 hm
    go_enter Try.func80, Try.ntmps80
    go_wp2_with fail
    refine (C.out _).mono ?_
    rintro e w1 ⟨rfl, rfl⟩
    go_wp2_with fail
    go_ret
    refine ⟨rfl, ?_⟩
    go_grown

set_option maxRecDepth 100000 in
set_option maxHeartbeats 400000 in
theorem zput_any (n : Int) (h : I64 n) (w : World) :
    Calls Try.prog 71 #[.int .i64 n] w fun e w' => e = .returned (.string (lebStr (zigF n))) ∧ Below w.heap.size w w' := by
  have hu := zigF_u64 h
  have Z := Lib.hid (zig_any n h)
  generalize zigF n = u at hu Z ⊢
  clear h
  go_enter Try.func71, Try.ntmps71
  go_wp2_with fail
  refine (Z.out _).mono ?_
  rintro e w1 ⟨rfl, hb1⟩
  go_wp2_with fail
  refine (put_any _ hu _).mono ?_
  rintro e w2 ⟨rfl, hb2⟩
  go_wp2_with fail
  go_ret
  exact ⟨rfl, later hb1 hb2⟩

/-- what a reading of a number with a sign answers -/
def zigGet (s : ByteArray) (a : Int) : Int × Int × Nat := if (lebGet s a).2.2 = 0 then (zagF (lebGet s a).1, (lebGet s a).2.1, 0) else (0, a, (lebGet s a).2.2)
def ZGot (r : Int × Int × Nat) : Ending := .returned (.tuple #[.int .i64 r.1, .int .i64 r.2.1, .int .i64 (r.2.2 : Nat)])
set_option maxRecDepth 100000 in
set_option maxHeartbeats 400000 in
theorem zget_any (s : ByteArray) (a : Int) (w : World) (hs : s.size ≤ maxLen) :
    Calls Try.prog 51 #[.string s, .int .i64 a] w fun e w' => e = ZGot (zigGet s a) ∧ w = w' := by
  obtain ⟨⟨n, to, er⟩, hr⟩ : ∃ r, lebGet s a = r := ⟨_, rfl⟩
  have HG := Lib.hid (show Got (lebGet s a) = .returned (.tuple #[.int .u64 n, .int .i64 to, .int .i64 (er : Nat)]) by rw [hr]; rfl)
  have HS := Lib.hid hs
  by_cases he : er = 0
  · subst he
    have hu : U64 n := by obtain ⟨_, _, _, _, _, _, hu, _⟩ := lebGet_only hr; exact hu
    have HZ := Lib.hid (show zigGet s a = (zagF n, to, 0) by rw [zigGet, hr, if_pos rfl])
    clear hr hs
    go_enter Try.func51, Try.ntmps51
    go_wp2_with fail
    refine (get_ex HG.out HS.out _).mono ?_
    rintro e w1 ⟨rfl, rfl⟩
    go_wp2_with fail
    refine (zag_any n hu _).mono ?_
    rintro e w1 ⟨rfl, rfl⟩
    go_wp2_with fail
    go_ret3
    exact ⟨by rw [HZ.out]; rfl, rfl⟩
  · have HZ := Lib.hid (show zigGet s a = (0, a, er) by rw [zigGet, hr, if_neg he])
    have z1 : ((er : Int) == 0) = false := by simp; omega
    have z2 : ((er : Int) != 0) = true := by simp; omega
    clear hr hs he
    go_enter Try.func51, Try.ntmps51
    go_wp2_with fail
    refine (get_ex HG.out HS.out _).mono ?_
    rintro e w1 ⟨rfl, rfl⟩
    go_wp2_with fail
    go_ret3
    exact ⟨by rw [HZ.out]; rfl, rfl⟩
end Go.Proofs.Ytpnljefgenniaaa

