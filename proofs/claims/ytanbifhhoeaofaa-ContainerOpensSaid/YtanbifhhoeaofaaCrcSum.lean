/- crc.New, the sum of a text by a table, its tail, and whether a text is good. No conditions. -/
import Derived.Test.YtanbifhhoeaofaaCrcDo
import Derived.WalkSpells
import Derived.Laws.Rows
import Derived.Lib.SlBytesConst
import Derived.Deep.RegionWith
namespace Go.Proofs.Ytanbifhhoeaofaa
set_option linter.unusedVariables false
open Go Go.RowKit

theorem cthen {W w1 w2 : World} (h : Below W.heap.size W w1) (hb : Below w1.heap.size w1 w2) : Below W.heap.size W w2 := h.trans (hb.mono h.size)
theorem Lay.at {w w' : World} {b : Nat} (h : Lay w b) (hb : w'.heap[b]? = w.heap[b]?) : Lay w' b := by
  have hlt : b < w'.heap.size := by
    have h1 := h.lt
    rcases Nat.lt_or_ge b w'.heap.size with h2 | h2
    · exact h2
    · rw [Array.getElem?_eq_none h2, Array.getElem?_eq_getElem h1] at hb; cases hb
  exact ⟨hlt, fun o => by rw [World.frozen?_of_block (w := w) (a := ⟨b, o, none⟩) hb]; exact h.free o, fun i hi => by rw [World.cell?_of_block (w := w) (a := ⟨b, 3 + i, none⟩) hb]; exact h.slot i hi⟩
theorem Tab.at {w w' : World} {b : Nat} (h : Tab w b) (hb : w'.heap[b]? = w.heap[b]?) : Tab w' b := by
  have hc : ∀ o, w'.cell? ⟨b, o, none⟩ = w.cell? ⟨b, o, none⟩ := fun o => World.cell?_of_block (w := w) (a := ⟨b, o, none⟩) hb
  refine ⟨h.1.at hb, by rw [hc]; exact h.2.1, ?_⟩
  rcases h.2.2 with h0 | ⟨h0, hs⟩
  · exact .inl (by rw [hc]; exact h0)
  · exact .inr ⟨by rw [hc]; exact h0, fun i hi => by rw [hc]; exact hs i hi⟩
theorem Tab.later {w w' : World} {b : Nat} (h : Tab w b) (hb : Below w.heap.size w w') : Tab w' b := h.at (hb.block b h.1.lt)
theorem Tab.only {w w' : World} {b c : Nat} (h : Tab w b) (hb : Only c w w') (hc : b ≠ c) : Tab w' b := h.at (hb.block b h.1.lt hc)
theorem Tab.new (w : World) (cur : Array Value) (T : TypeId) (hs : cur.size = 259) (h0 : cur[0]? = some (.int .u32 0)) (h1 : cur[1]? = some (.int .i32 0)) : Tab (w.alloc (.cells cur T)) w.heap.size := by
  have hh := heap_alloc_new w (.cells cur T)
  have hc : ∀ o, (w.alloc (.cells cur T)).cell? ⟨w.heap.size, o, none⟩ = cur[o]? := fun o => by unfold World.cell?; rw [hh]; rfl
  refine ⟨⟨by simp, fun o => by unfold World.frozen?; rw [hh]; simp, fun i hi => ?_⟩, by rw [hc]; exact h1, .inl (by rw [hc]; exact h0)⟩
  rw [hc]
  exact ⟨cur[3 + i], Array.getElem?_eq_getElem (by omega)⟩

def tabZero : Array Value := #[.int .u32 0, .int .i32 0, .int .u32 0] ++ Array.replicate 256 (.int .u32 0)
theorem tabZero_run (w : World) : (zeroValue 114).run Try.prog w = .ok (.agg tabZero) w := by kernel_rfl
theorem tabZero_parts : ∃ cs : Array Value, (∀ w, (zeroValue 114).run Try.prog w = .ok (.agg cs) w) ∧ cs.size = 259 ∧ cs[0]? = some (.int .u32 0) ∧ cs[1]? = some (.int .i32 0) :=
  ⟨tabZero, tabZero_run, by kernel_rfl, by kernel_rfl, by kernel_rfl⟩

set_option maxRecDepth 100000 in
set_option maxHeartbeats 1600000 in
theorem new_any (w : World) :
    Calls Try.prog 71 #[] w fun e w' => e = .returned (.pointer (some ⟨w.heap.size, 0, none⟩)) ∧ Tab w' w.heap.size ∧ Below w.heap.size w w' ∧ w.heap.size + 1 = w'.heap.size := by
  go_enter Try.func71, Try.ntmps71
  obtain ⟨cs, hz, h1, h2, h3⟩ := tabZero_parts
  have H1 := Lib.hid h1
  have H2 := Lib.hid h2
  have H3 := Lib.hid h3
  clear h1 h2 h3
  go_wp2
  go_ret
  exact ⟨rfl, Tab.new w _ _ H1.out H2.out H3.out, (Below.refl _ _).alloc (Nat.le_refl _) _, by simp⟩

theorem crcRun_take (c : Nat) (s : ByteArray) (k : Nat) (h : k < s.size) : crcRun c (s.data.toList.take (k + 1)) = crcNext (crcRun c (s.data.toList.take k)) s[k].toNat := by
  rw [List.take_succ_eq_append_getElem (by simpa using h), crcRun_append]; rfl
theorem not32 (c : Nat) (h : c < 4294967296) : bits BinOp.xor IntKind.u32 IntKind.u32.max (c : Int) = ((c ^^^ 4294967295 : Nat) : Int) := by
  rw [Nat.xor_comm]
  exact u32_xor_nat 4294967295 c (by omega) h

set_option maxRecDepth 100000 in
set_option maxHeartbeats 1600000 in
theorem tsum_any (b : Nat) (s : ByteArray) (w : World) (hT : Tab w b) (hs : s.size ≤ 9223372036854775807) :
    Calls Try.prog 72 #[.pointer (some ⟨b, 0, none⟩), .string s] w fun e w' => e = .returned (.int .u32 (crcSum s.data.toList : Nat)) ∧ Tab w' b ∧ Only b w w' := by
  go_enter Try.func72, Try.ntmps72
  go_wp2
  go_loopw [5, 9] (fun c i wr => ∃ k : Nat, k ≤ s.size ∧ i = .int .i64 k ∧ c = .int .u32 (crcRun 4294967295 (s.data.toList.take k) : Nat) ∧ Tab wr b ∧ Only b w wr) (fun _ i _ => s.size - (intOf i).toNat)
  case atStart => exact ⟨0, by omega, rfl, rfl, hT, Only.refl _ _⟩
  case round =>
    obtain ⟨k, hk, rfl, rfl, hTr, ho⟩ := hrel
    obtain ⟨c, hc⟩ : ∃ c, crcRun 4294967295 (s.data.toList.take k) = c := ⟨_, rfl⟩
    have hcl : c < 4294967296 := by rw [← hc]; exact crcRun_lt (by decide) _
    by_cases hlt : k < s.size
    · have hsn := crcRun_take 4294967295 s k hlt
      rw [hc] at hsn ⊢
      have HN := Lib.hid hsn
      have HT := Lib.hid hTr
      have HO := Lib.hid ho
      clear hsn hc hTr ho hT
      go_wp2_with (go_at_call 76; refine (next_any b c _ _ HT.out hcl (u8lt _)).mono ?_; rintro e W ⟨rfl, hT2, ho2⟩)
      go_roundw
      case rel => exact ⟨k + 1, by omega, by go_num, by rw [HN.out], hT2, HO.out.trans ho2⟩
      case measure => simp [intOf]; omega
    · obtain rfl : k = s.size := by omega
      rw [hc]
      rw [List.take_of_length_le (by simp)] at hc
      have hn := not32 c hcl
      have HC := Lib.hid hc
      have HT := Lib.hid hTr
      have HO := Lib.hid ho
      clear hc hTr ho hT
      go_wp2
      go_ret
      exact ⟨by rw [crcSum, HC.out]; rfl, HT.out, HO.out⟩
set_option maxRecDepth 100000 in
set_option maxHeartbeats 1600000 in
theorem sum_any (s : ByteArray) (w : World) (hs : s.size ≤ 9223372036854775807) :
    Calls Try.prog 61 #[.string s] w fun e w' => e = .returned (.int .u32 (crcSum s.data.toList : Nat)) ∧ Below w.heap.size w w' := by
  go_enter Try.func61, Try.ntmps61
  go_wp2_with fail
  refine (new_any _).mono ?_
  rintro e w1 ⟨rfl, hT1, hb1, hz1⟩
  have HZ := Lib.hid hz1
  clear hz1
  go_wp2_with fail
  refine (tsum_any _ s _ hT1 hs).mono ?_
  rintro e w2 ⟨rfl, hT2, ho2⟩
  go_wp2_with fail
  go_ret
  exact ⟨rfl, hb1.trans (ho2.below (Nat.le_refl _) hb1.size)⟩
end Go.Proofs.Ytanbifhhoeaofaa

