/- The walk of crc's (*Table).fill: what each byte comes to. No conditions. -/
import Derived.Test.YtanbifhhoeaofaaCrcOnce
import Derived.Test.YtanbifhhoeaofaaCrcTurn
import Derived.Test.YtanbifhhoeaofaaOnly
import Derived.WalkKit
import Derived.Lib.Hide
import Derived.Laws.BitsAll
import Derived.Handy
namespace Go.Proofs.Ytanbifhhoeaofaa
set_option linter.unusedVariables false
open Go Go.RowKit

/-- block b is a table: its cells can be written; each of the 256 holds something -/
structure Lay (w : World) (b : Nat) : Prop where
  lt : b < w.heap.size
  free : ∀ o, w.frozen? ⟨b, o, none⟩ = false
  slot : ∀ i, i < 256 → ∃ x, w.cell? ⟨b, 3 + i, none⟩ = some x
theorem Lay.set {w : World} {b : Nat} (h : Lay w b) (o : Nat) (v : Value) : Lay (w.setCell ⟨b, o, none⟩ v) b := by
  refine ⟨by simpa using h.lt, fun o' => ?_, fun i hi => ?_⟩
  · have := h.free o'; go_simp
  · obtain ⟨x, hx⟩ := h.slot i hi
    exact cell?_setCell_some (w := w) (p := ⟨b, o, none⟩) (x := v) (q := ⟨b, 3 + i, none⟩) (v := x) hx
def stepped (w : World) (b k : Nat) : Prop := ∀ i, i < k → w.cell? ⟨b, 3 + i, none⟩ = some (.int .u32 (crcSteps 8 i : Nat))

theorem u32_step (c : Nat) (h : c < 4294967296) : bits BinOp.xor IntKind.u32 ((c : Int) / 2) (bits BinOp.and IntKind.u32 3988292384 (-(bits BinOp.and IntKind.u32 (c : Int) 1) % 4294967296)) = ((crcStep c : Nat) : Int) := by
  have h1 : bits BinOp.and IntKind.u32 (c : Int) 1 = ((c % 2 : Nat) : Int) := by
    have := u32_and_nat c 1 (by omega) (by omega)
    rw [Nat.and_one_is_mod] at this; exact this
  have hx : ∀ m : Nat, m < 4294967296 → bits BinOp.xor IntKind.u32 ((c : Int) / 2) (m : Int) = ((c / 2 ^^^ m : Nat) : Int) := fun m hm => by
    have := u32_xor_nat (c / 2) m (by omega) hm
    rw [← this]; congr 1
  rw [h1]
  unfold crcStep
  by_cases hc : c % 2 = 1
  · rw [if_pos hc, hc]
    have : bits BinOp.and IntKind.u32 3988292384 (-((1 : Nat) : Int) % 4294967296) = ((3988292384 : Nat) : Int) := by decide +kernel
    rw [this]; exact hx 3988292384 (by omega)
  · rw [if_neg hc, show c % 2 = 0 by omega]
    have : bits BinOp.and IntKind.u32 3988292384 (-((0 : Nat) : Int) % 4294967296) = ((0 : Nat) : Int) := by decide +kernel
    rw [this]; exact hx 0 (by omega)
set_option maxRecDepth 100000 in
set_option maxHeartbeats 2000000 in
theorem fill_any (b : Nat) (w : World) (hL : Lay w b) :
    Calls Try.prog 78 #[.pointer (some ⟨b, 0, none⟩)] w fun e w' => e = .returned (.tuple #[]) ∧ Lay w' b ∧ stepped w' b 256 ∧ (∀ o, o < 3 → w'.cell? ⟨b, o, none⟩ = w.cell? ⟨b, o, none⟩) ∧ Only b w w' := by
  go_enter Try.func78, Try.ntmps78
  go_wp2
  go_loopw [4] (fun i wr => ∃ k : Nat, k ≤ 256 ∧ i = .int .i64 k ∧ Lay wr b ∧ stepped wr b k ∧ (∀ o, o < 3 → wr.cell? ⟨b, o, none⟩ = w.cell? ⟨b, o, none⟩) ∧ Only b w wr) (fun i _ => 256 - (intOf i).toNat)
  case atStart => exact ⟨0, by omega, rfl, hL, fun i hi => by omega, fun _ _ => rfl, Only.refl _ _⟩
  case round =>
    obtain ⟨k, hk, rfl, hLr, hst, hsame, honly⟩ := hrel
    have HL := Lib.hid hLr
    have HS := Lib.hid hst
    have HE := Lib.hid hsame
    have HO := Lib.hid honly
    clear hLr hst hsame honly hL
    by_cases hlt : k < 256
    · go_wp2
      go_loop [3, 9] (fun c j => ∃ q : Nat, q ≤ 8 ∧ j = .int .i64 q ∧ c = .int .u32 (crcSteps q k : Nat)) (fun _ j => 8 - (intOf j).toNat)
      case atStart => exact ⟨0, by omega, rfl, rfl⟩
      case round =>
        obtain ⟨q, hq, rfl, rfl⟩ := hrel
        obtain ⟨c, hc⟩ : ∃ c, crcSteps q k = c := ⟨_, rfl⟩
        have hcl : c < 4294967296 := by rw [← hc]; exact crcSteps_lt q (by omega)
        have hst := u32_step c hcl
        have hsn := crcSteps_snoc q k
        rw [hc] at hsn ⊢
        have HN := Lib.hid hsn
        have HC := Lib.hid hc
        clear hsn hc
        obtain ⟨x, hx⟩ := HL.out.slot k hlt
        have hf := HL.out.free (3 + k)
        by_cases hlq : q < 8
        · clear hx hf
          go_wp2
          go_round
          case rel => exact ⟨q + 1, by omega, by go_num, by rw [HN.out]⟩
          case measure => simp [intOf]; omega
        · obtain rfl : q = 8 := by omega
          go_wp2
          go_roundw
          case rel =>
            refine ⟨k + 1, by omega, by go_num, HL.out.set _ _, ?_, ?_, HO.out.setCell _ _⟩
            · intro i hi
              by_cases e : i = k
              · subst e; rw [HC.out]; exact World.cell?_setCell_same _ _ _ hx
              · refine (World.cell?_setCell_other _ _ _ _ (by first | (simp; done) | (simp; omega))).trans (HS.out i (by omega))
            · intro o ho
              exact (World.cell?_setCell_other _ _ _ _ (by first | (simp; done) | (simp; omega))).trans (HE.out o ho)
          case measure => simp [intOf]; omega
    · obtain rfl : k = 256 := by omega
      go_wp2
      go_end0
      exact ⟨rfl, HL.out, HS.out, HE.out, HO.out⟩
end Go.Proofs.Ytanbifhhoeaofaa

