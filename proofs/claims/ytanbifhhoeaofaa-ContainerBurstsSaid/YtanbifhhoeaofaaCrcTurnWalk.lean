/- The walk of the reference's Turn. No conditions. -/
import Derived.Test.YtanbifhhoeaofaaCrcRef
import Derived.Laws.IdiomStrings
namespace Go.Proofs.Ytanbifhhoeaofaa
set_option linter.unusedVariables false
open Go Go.RowKit

/-- block g holds the bytes l, which may be written -/
structure TB (w : World) (g : Nat) (l : List UInt8) : Prop where
  lt : g < w.heap.size
  cell : ∀ j (h : j < l.length), w.cell? ⟨g, j, none⟩ = some (bVal l[j])
  free : ∀ j, j < l.length → w.frozen? ⟨g, j, none⟩ = false
theorem TB.set {w : World} {g : Nat} {l : List UInt8} (h : TB w g l) (j : Nat) (x : UInt8) (hj : j < l.length) : TB (w.setCell ⟨g, j, none⟩ (bVal x)) g (l.set j x) := by
  refine ⟨by simpa using h.lt, fun i hi => ?_, fun i hi => ?_⟩
  · rw [List.length_set] at hi
    by_cases e : j = i
    · subst e; rw [List.getElem_set_self]; exact World.cell?_setCell_same _ _ _ (h.cell j hj)
    · rw [List.getElem_set_ne e]
      exact (World.cell?_setCell_other _ _ _ _ (by intro h2; exact e (by simpa using h2.symm))).trans (h.cell i hi)
  · have := h.free i (by simpa using hi); go_simp
theorem TB.at {w w' : World} {g : Nat} {l : List UInt8} (h : TB w g l) (hb : w'.heap[g]? = w.heap[g]?) : TB w' g l := by
  have hlt : g < w'.heap.size := by
    have h1 := h.lt
    rcases Nat.lt_or_ge g w'.heap.size with h2 | h2
    · exact h2
    · rw [Array.getElem?_eq_none h2, Array.getElem?_eq_getElem h1] at hb; cases hb
  exact ⟨hlt, fun o ho => by rw [World.cell?_of_block (w := w) (a := ⟨g, o, none⟩) hb]; exact h.cell o ho, fun o ho => by rw [World.frozen?_of_block (w := w) (a := ⟨g, o, none⟩) hb]; exact h.free o ho⟩
theorem TB.new (w : World) (s : ByteArray) (c : Nat) (hc : s.size ≤ c) (T : TypeId) : TB (w.drew.alloc (.cells (bytesRow s c) T ((bytesRow s c).size, (bytesRow s c).size + 1))) w.heap.size s.data.toList := by
  have hh : (w.drew.alloc (.cells (bytesRow s c) T ((bytesRow s c).size, (bytesRow s c).size + 1))).heap[w.heap.size]? = some (.cells (bytesRow s c) T ((bytesRow s c).size, (bytesRow s c).size + 1)) := heap_alloc_new w.drew _
  have hsz : (bytesRow s c).size = c := by unfold bytesRow; simp; omega
  refine ⟨by simp, fun j hj => ?_, fun j hj => ?_⟩
  · unfold World.cell?
    rw [hh]
    simp only [Option.isSome_none, Bool.false_eq_true, if_false]
    have hj' : j < s.data.size := by simpa using hj
    unfold bytesRow
    rw [Array.getElem?_append_left (by simpa using hj'), Array.getElem?_map, Array.getElem?_eq_getElem hj']
    rfl
  · unfold World.frozen?
    rw [hh]
    simp only [hsz]
    have hj' : j < s.size := by simpa using hj
    simp; omega
theorem TB.conv {w : World} {g : Nat} {l : List UInt8} (h : TB w g l) (c : Nat) : (convert 61 9 (.slice (some ⟨g, 0, none⟩) l.length c)).run Try.prog w = .ok (.string (bStr l)) w := by
  refine run_convert_bytes_back (P := Try.prog) w 61 9 5 ⟨g, 0, none⟩ c l Try.underlying61 Try.underlying5 Try.underlying9 fun j hj => ?_
  rw [show ((⟨g, 0, none⟩ : Addr).add j) = ⟨g, j, none⟩ by unfold Addr.add; split <;> simp_all]
  exact h.cell j hj
/-- the text behind k rounds -/
def TurnedK (s : ByteArray) (at_ m k : Nat) (l : List UInt8) : Prop := l.length = s.size ∧ num l = num s.data.toList ^^^ burst s.size at_ (m % 2 ^ k)
theorem TurnedK.zero (s : ByteArray) (at_ m : Nat) : TurnedK s at_ m 0 s.data.toList := ⟨by simp, by rw [burst_zero, Nat.xor_zero]⟩
theorem TurnedK.skip {s : ByteArray} {at_ m k : Nat} {l : List UInt8} (h : TurnedK s at_ m k l) (hs : 8 * s.size ≤ at_ + k ∨ m / 2 ^ k % 2 = 0) : TurnedK s at_ m (k + 1) l := ⟨h.1, by rw [burst_skip _ _ _ _ hs]; exact h.2⟩
theorem TurnedK.hit {s : ByteArray} {at_ m k K : Nat} {l : List UInt8} (h : TurnedK s at_ m k l) (hK : at_ + k = K) (hs : K < 8 * s.size) (hb : m / 2 ^ k % 2 = 1) (hl : K / 8 < l.length) : TurnedK s at_ m (k + 1) (l.set (K / 8) (l[K / 8] ^^^ UInt8.ofNat (2 ^ (K % 8)))) := by
  subst hK
  refine ⟨by rw [List.length_set]; exact h.1, ?_⟩
  rw [num_turn, burst_hit _ _ _ _ hs hb, h.2, Nat.xor_assoc]
theorem TurnedK.done {s : ByteArray} {at_ m : Nat} {l : List UInt8} (hm : m < 4294967296) (h : TurnedK s at_ m 32 l) : Turned s.data.toList l at_ m := by
  have e : m % 2 ^ 32 = m := Nat.mod_eq_of_lt hm
  have e2 : s.data.toList.length = s.size := by simp
  refine ⟨by rw [e2]; exact h.1, ?_⟩
  have := h.2
  rw [e] at this
  rw [e2]; exact this
theorem u8_turn (x : UInt8) (r : Nat) (hr : r < 8) : bits BinOp.xor IntKind.u8 (x.toNat : Int) ((2 ^ r : Nat) : Int) = ((x ^^^ UInt8.ofNat (2 ^ r)).toNat : Int) := by
  have h2 : 2 ^ r < 256 := Nat.pow_lt_pow_right (m := r) (n := 8) (by omega) hr
  rw [u8_xor_nat _ _ (u8lt x) h2, UInt8.toNat_xor, ofNat_lt h2]

/-- what Turn answers -/
def TurnsTo (s : ByteArray) (at_ m : Nat) (e : Ending) : Prop := ∃ l, Turned s.data.toList l at_ m ∧ e = .returned (.string (bStr l))
set_option maxRecDepth 100000 in
set_option maxHeartbeats 4000000 in
theorem turn_near (s : ByteArray) (a m : Nat) (w : World) (hs : s.size ≤ 100000) (ha : a < 8 * s.size) (hm : m < 4294967296) :
    Calls Try.prog 20 #[.string s, .int .i64 a, .int .u32 m] w fun e w' => TurnsTo s a m e ∧ Below w.heap.size w w' := by
  have hcv := run_bytes_of_string (P := Try.prog) w 9 61 5 s Try.underlying9 Try.underlying61 Try.underlying5
  have hcap := grownCap_ge w s.size 0 5
  generalize grownCap w s.size 0 5 = c at hcv hcap
  have hTB := TB.new w s c hcap 5
  have hB0 : Below w.heap.size w (w.drew.alloc (.cells (bytesRow s c) 5 ((bytesRow s c).size, (bytesRow s c).size + 1))) := ((Below.refl _ w).drew).alloc (Nat.le_refl _) _
  generalize hW0 : w.drew.alloc (.cells (bytesRow s c) 5 ((bytesRow s c).size, (bytesRow s c).size + 1)) = W0 at hcv hTB hB0
  have HT := Lib.hid hTB
  have HB := Lib.hid hB0
  clear hTB hB0 hW0
  go_enter Try.func20, Try.ntmps20
  go_wp2
  go_loopw [2, 8] (fun y i wr => ∃ k : Nat, k ≤ 32 ∧ i = .int .i64 k ∧ y = .int .u32 (m / 2 ^ k : Nat) ∧ ∃ l, TurnedK s a m k l ∧ TB wr w.heap.size l ∧ Below w.heap.size w wr) (fun _ i _ => 32 - (intOf i).toNat)
  case atStart => exact ⟨0, by omega, rfl, by simp, _, TurnedK.zero _ _ _, HT.out, HB.out⟩
  case round =>
    obtain ⟨k, hk, rfl, rfl, l, hT, hTB, hb⟩ := hrel
    have hlen := hT.1
    have HTK := Lib.hid hT
    have HTB := Lib.hid hTB
    have HBB := Lib.hid hb
    have HLEN := Lib.hid hlen
    clear hT hTB hb hlen hcv
    obtain ⟨q, hq⟩ : ∃ q, m / 2 ^ k = q := ⟨_, rfl⟩
    have hql : q < 4294967296 := by rw [← hq]; exact Nat.lt_of_le_of_lt (Nat.div_le_self _ _) hm
    have hpow : m / 2 ^ (k + 1) = q / 2 := by rw [Nat.pow_succ, ← Nat.div_div_eq_div_mul, hq]
    rw [hq]
    have HP := Lib.hid hpow
    have HQ := Lib.hid hq
    clear hq hpow
    by_cases hlt : k < 32
    · obtain ⟨K, hK⟩ : ∃ K, a + k = K := ⟨_, rfl⟩
      have hKi : (a : Int) + (k : Int) = (K : Int) := by omega
      have hK1 : K ≤ 800040 := by omega
      by_cases hbit : q % 2 = 1
      · have hb1 : ((q : Int) % 2 == 1) = true := by simp; omega
        have HBIT := Lib.hid hbit
        clear hbit
        by_cases hin : K < 8 * s.size
        · obtain ⟨d, hd⟩ : ∃ d, K / 8 = d := ⟨_, rfl⟩
          obtain ⟨r, hr⟩ : ∃ r, K % 8 = r := ⟨_, rfl⟩
          have hdl : d < l.length := by rw [HLEN.out]; omega
          have hdl2 : d < s.size := by rw [← HLEN.out]; exact hdl
          have hr8 : r < 8 := by omega
          have e1 : (K : Int) / 8 = (d : Int) := by omega
          have e2 : (K : Int) % 8 = (r : Int) := by omega
          have hc := HTB.out.cell d hdl
          have hf := HTB.out.free d hdl
          have hxor := u8_turn l[d] r hr8
          unfold bVal at hc
          have HK := Lib.hid hK
          have HD := Lib.hid hd
          have HR := Lib.hid hr
          clear hK hd hr
          go_wp2
          go_loop [10, 11] (fun y j => ∃ t : Nat, t ≤ r ∧ j = .int .i64 t ∧ y = .int .u8 (2 ^ t : Nat)) (fun _ j => r - (intOf j).toNat)
          case atStart => exact ⟨0, by omega, rfl, rfl⟩
          case round =>
            obtain ⟨t, ht, rfl, rfl⟩ := hrel
            by_cases htr : t < r
            · obtain ⟨p, hp⟩ : ∃ p, 2 ^ t = p := ⟨_, rfl⟩
              have hpl : p ≤ 64 := by rw [← hp]; exact show 2 ^ t ≤ 2 ^ 6 from Nat.pow_le_pow_right (by omega) (by omega)
              have hps : 2 ^ (t + 1) = 2 * p := by rw [Nat.pow_succ, hp]; omega
              have HPS := Lib.hid hps
              rw [hp]
              clear hps hp
              go_wp2
              go_round
              case rel => exact ⟨t + 1, by omega, by go_num, by rw [HPS.out]; go_num⟩
              case measure => simp [intOf]; omega
            · obtain rfl : t = r := by omega
              go_wp2
              go_roundw
              case rel =>
                refine ⟨k + 1, by omega, by go_num, by rw [HP.out]; go_num, _, HTK.out.hit HK.out hin (by rw [HQ.out]; exact HBIT.out) (by rw [HD.out]; exact hdl), ?_, HBB.out.setCell (p := ⟨w.heap.size, d, none⟩) (Nat.le_refl _) _⟩
                have := HTB.out.set d (l[d] ^^^ UInt8.ofNat (2 ^ t)) hdl
                simp only [HD.out, HR.out]
                rw [show (2 : Int) ^ t = ((2 ^ t : Nat) : Int) by simp, u8_turn l[d] t hr8]
                exact this
              case measure => simp [intOf]; omega
        · have hge : 8 * s.size ≤ K := by omega
          have HK := Lib.hid hK
          clear hK
          go_wp2
          go_roundw
          case rel => exact ⟨k + 1, by omega, by go_num, by rw [HP.out]; go_num, _, HTK.out.skip (.inl (by rw [HK.out]; exact hge)), HTB.out, HBB.out⟩
          case measure => simp [intOf]; omega
      · have hb1 : ((q : Int) % 2 == 1) = false := by simp; omega
        have hb0 : q % 2 = 0 := by omega
        have HBIT := Lib.hid hb0
        clear hbit hb0 hK
        go_wp2
        go_roundw
        case rel => exact ⟨k + 1, by omega, by go_num, by rw [HP.out]; go_num, _, HTK.out.skip (.inr (by rw [HQ.out]; exact HBIT.out)), HTB.out, HBB.out⟩
        case measure => simp [intOf]; omega
    · obtain rfl : k = 32 := by omega
      have hcv := HTB.out.conv c
      rw [HLEN.out] at hcv
      go_wp2
      go_ret
      exact ⟨⟨l, HTK.out.done hm, rfl⟩, HBB.out⟩
set_option maxRecDepth 100000 in
set_option maxHeartbeats 4000000 in
theorem turn_far (s : ByteArray) (a m : Nat) (w : World) (hs : s.size ≤ 100000) (ha : 8 * s.size ≤ a) (ha2 : a ≤ 9223372036854775807) (hm : m < 4294967296) :
    Calls Try.prog 20 #[.string s, .int .i64 a, .int .u32 m] w fun e w' => TurnsTo s a m e ∧ Below w.heap.size w w' := by
  have hcv := run_bytes_of_string (P := Try.prog) w 9 61 5 s Try.underlying9 Try.underlying61 Try.underlying5
  have hcap := grownCap_ge w s.size 0 5
  generalize grownCap w s.size 0 5 = c at hcv hcap
  have hTB := TB.new w s c hcap 5
  have hB0 : Below w.heap.size w (w.drew.alloc (.cells (bytesRow s c) 5 ((bytesRow s c).size, (bytesRow s c).size + 1))) := ((Below.refl _ w).drew).alloc (Nat.le_refl _) _
  generalize hW0 : w.drew.alloc (.cells (bytesRow s c) 5 ((bytesRow s c).size, (bytesRow s c).size + 1)) = W0 at hcv hTB hB0
  have HT := Lib.hid hTB
  have HB := Lib.hid hB0
  clear hTB hB0 hW0
  go_enter Try.func20, Try.ntmps20
  go_wp2
  go_loopw [2, 8] (fun y i wr => ∃ k : Nat, k ≤ 32 ∧ i = .int .i64 k ∧ y = .int .u32 (m / 2 ^ k : Nat) ∧ ∃ l, TurnedK s a m k l ∧ TB wr w.heap.size l ∧ Below w.heap.size w wr) (fun _ i _ => 32 - (intOf i).toNat)
  case atStart => exact ⟨0, by omega, rfl, by simp, _, TurnedK.zero _ _ _, HT.out, HB.out⟩
  case round =>
    obtain ⟨k, hk, rfl, rfl, l, hT, hTB, hb⟩ := hrel
    have hlen := hT.1
    have HTK := Lib.hid hT
    have HTB := Lib.hid hTB
    have HBB := Lib.hid hb
    have HLEN := Lib.hid hlen
    clear hT hTB hb hlen hcv
    obtain ⟨q, hq⟩ : ∃ q, m / 2 ^ k = q := ⟨_, rfl⟩
    have hql : q < 4294967296 := by rw [← hq]; exact Nat.lt_of_le_of_lt (Nat.div_le_self _ _) hm
    have hpow : m / 2 ^ (k + 1) = q / 2 := by rw [Nat.pow_succ, ← Nat.div_div_eq_div_mul, hq]
    rw [hq]
    have HP := Lib.hid hpow
    have HQ := Lib.hid hq
    clear hq hpow
    by_cases hlt : k < 32
    · by_cases hbit : q % 2 = 1
      · have hb1 : ((q : Int) % 2 == 1) = true := by simp; omega
        have HBIT := Lib.hid hbit
        clear hbit
        by_cases hov : a + k ≤ 9223372036854775807
        · obtain ⟨K, hK⟩ : ∃ K, a + k = K := ⟨_, rfl⟩
          have hKi : (a : Int) + (k : Int) = (K : Int) := by omega
          have hK1 : K ≤ 9223372036854775807 := by omega
          have hge : 8 * s.size ≤ K := by omega
          have HK := Lib.hid hK
          clear hK
          go_wp2
          go_roundw
          case rel => exact ⟨k + 1, by omega, by go_num, by rw [HP.out]; go_num, _, HTK.out.skip (.inl (by omega)), HTB.out, HBB.out⟩
          case measure => simp [intOf]; omega
        · obtain ⟨z, hz⟩ : ∃ z, wrap64 ((a : Int) + (k : Int)) = z := ⟨_, rfl⟩
          have hz0 : z < 0 := by rw [← hz]; unfold wrap64; omega
          have hz1 : decide (0 ≤ z) = false := by simp; omega
          go_wp2
          go_roundw
          case rel => exact ⟨k + 1, by omega, by go_num, by rw [HP.out]; go_num, _, HTK.out.skip (.inl (by omega)), HTB.out, HBB.out⟩
          case measure => simp [intOf]; omega
      · have hb1 : ((q : Int) % 2 == 1) = false := by simp; omega
        have hb0 : q % 2 = 0 := by omega
        have HBIT := Lib.hid hb0
        clear hbit hb0
        go_wp2
        all_goals go_roundw
        case rel => exact ⟨k + 1, by omega, by go_num, by rw [HP.out]; go_num, _, HTK.out.skip (.inr (by rw [HQ.out]; exact HBIT.out)), HTB.out, HBB.out⟩
        case measure => simp [intOf]; omega
    · obtain rfl : k = 32 := by omega
      have hcv := HTB.out.conv c
      rw [HLEN.out] at hcv
      go_wp2
      go_ret
      exact ⟨⟨l, HTK.out.done hm, rfl⟩, HBB.out⟩
theorem turn_any (s : ByteArray) (a m : Nat) (w : World) (hs : s.size ≤ 100000) (ha2 : a ≤ 9223372036854775807) (hm : m < 4294967296) :
    Calls Try.prog 20 #[.string s, .int .i64 a, .int .u32 m] w fun e w' => TurnsTo s a m e ∧ Below w.heap.size w w' := by
  by_cases ha : a < 8 * s.size
  · exact turn_near s a m w hs ha hm
  · exact turn_far s a m w hs (by omega) ha2 hm
end Go.Proofs.Ytanbifhhoeaofaa

