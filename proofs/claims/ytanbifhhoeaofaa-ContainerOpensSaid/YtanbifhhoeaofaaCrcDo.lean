/- sync.Once.Do with crc's (*Table).fill, and (*Table).Next: the table is filled once. No conditions. -/
import Derived.Test.YtanbifhhoeaofaaCrcFill
namespace Go.Proofs.Ytanbifhhoeaofaa
set_option linter.unusedVariables false
open Go Go.RowKit

set_option maxRecDepth 100000 in
set_option maxHeartbeats 1600000 in
theorem slow_any (b : Nat) (w : World) (hL : Lay w b) (h0 : w.cell? ⟨b, 0, none⟩ = some (.int .u32 0)) (h1 : w.cell? ⟨b, 1, none⟩ = some (.int .i32 0)) :
    Calls Try.prog 80 #[.pointer (some ⟨b, 0, none⟩), .func (.func 78) #[.pointer (some ⟨b, 0, none⟩)] #[]] w fun e w' => e = .returned (.tuple #[]) ∧
      Lay w' b ∧ stepped w' b 256 ∧ w'.cell? ⟨b, 0, none⟩ = some (.int .u32 1) ∧ w'.cell? ⟨b, 1, none⟩ = some (.int .i32 0) ∧ Only b w w' := by
  have f0 := hL.free 0
  have f1 := hL.free 1
  have HL := Lib.hid hL
  clear hL
  have hl := run_call_load (P := Try.prog) Try.func81 (by kernel_rfl) (by kernel_rfl) (by kernel_rfl) .u32 (by kernel_rfl) (w := w.setCell ⟨b, 1, none⟩ (.int .i32 1)) (a := ⟨b, 0, none⟩) (x := 0) ((World.cell?_setCell_other _ ⟨b, 1, none⟩ ⟨b, 0, none⟩ _ (by simp)).trans h0)
  have hnot : ∀ (x : Bool) (w : World), (Op.unary .not (.bool x)).run Try.prog w = .ok (.bool (!x)) w := fun _ _ => rfl
  go_enter_defers Try.func80, Try.ntmps80
  go_wp2_with (go_at_call 82; refine (lock_free ⟨b, 1, none⟩ _ (by go_simp) (by go_simp)).mono ?_; rintro e w' ⟨rfl, rfl⟩)
  go_wp2_with (first | (go_at_call 78; refine (fill_any b _ (HL.out.set _ _)).mono ?_; rintro e W ⟨rfl, hL2, hs2, he2, ho2⟩) | (go_at_call 79; go_in))
  have e0 : W.cell? ⟨b, 0, none⟩ = some (.int .u32 0) := (he2 0 (by omega)).trans ((World.cell?_setCell_other _ ⟨b, 1, none⟩ ⟨b, 0, none⟩ _ (by simp)).trans h0)
  have e1 : W.cell? ⟨b, 1, none⟩ = some (.int .i32 1) := (he2 1 (by omega)).trans (World.cell?_setCell_same _ _ _ h1)
  refine leaves_cons (f := 84) (args := #[.pointer (some ⟨b, 0, none⟩), .bool true]) (by simp) (by simp [go_sem]) ?_
  refine (store_deferred ⟨b, 0, none⟩ (.int .u32 0) .returning _ e0 (hL2.free 0)).mono ?_
  rintro e u' w'' ⟨rfl, rfl, rfl⟩
  have hLd : Lay W.drew b := ⟨hL2.lt, fun o => (World.frozen?_drew W _).trans (hL2.free o), fun i hi => by rw [World.cell?_drew]; exact hL2.slot i hi⟩
  refine leaves_cons (f := 83) (args := #[.pointer (some ⟨b, 1, none⟩)]) (by simp [settle]) (by simp [go_sem]) ?_
  refine (unlock_deferred ⟨b, 1, none⟩ _ _ ?_ ((hLd.set _ _).free 1)).mono ?_
  · refine (World.cell?_setCell_other _ ⟨b, 0, none⟩ ⟨b, 1, none⟩ _ (by simp)).trans ?_
    rw [World.cell?_drew]; exact e1
  rintro e u' w'' ⟨rfl, rfl, rfl⟩
  have k1 : (W.drew.setCell ⟨b, 0, none⟩ (.int .u32 1)).cell? ⟨b, 1, none⟩ = some (.int .i32 1) := by
    refine (World.cell?_setCell_other _ ⟨b, 0, none⟩ ⟨b, 1, none⟩ _ (by simp)).trans ?_
    rw [World.cell?_drew]; exact e1
  have fin : Lay ((W.drew.setCell ⟨b, 0, none⟩ (.int .u32 1)).setCell ⟨b, 1, none⟩ (.int .i32 0)) b ∧ stepped ((W.drew.setCell ⟨b, 0, none⟩ (.int .u32 1)).setCell ⟨b, 1, none⟩ (.int .i32 0)) b 256 ∧ ((W.drew.setCell ⟨b, 0, none⟩ (.int .u32 1)).setCell ⟨b, 1, none⟩ (.int .i32 0)).cell? ⟨b, 0, none⟩ = some (.int .u32 1) ∧ ((W.drew.setCell ⟨b, 0, none⟩ (.int .u32 1)).setCell ⟨b, 1, none⟩ (.int .i32 0)).cell? ⟨b, 1, none⟩ = some (.int .i32 0) ∧ Only b w ((W.drew.setCell ⟨b, 0, none⟩ (.int .u32 1)).setCell ⟨b, 1, none⟩ (.int .i32 0)) := by
    refine ⟨(hLd.set _ _).set _ _, fun i hi => ?_, ?_, World.cell?_setCell_same _ _ _ k1, (((((Only.refl b w).setCell 1 _).trans ho2).drew.setCell 0 _).setCell 1 _)⟩
    · refine (World.cell?_setCell_other _ ⟨b, 1, none⟩ ⟨b, 3 + i, none⟩ _ (by first | (simp; done) | (simp; omega))).trans ((World.cell?_setCell_other _ ⟨b, 0, none⟩ ⟨b, 3 + i, none⟩ _ (by simp)).trans ?_)
      rw [World.cell?_drew]; exact hs2 i hi
    · refine (World.cell?_setCell_other _ ⟨b, 1, none⟩ ⟨b, 0, none⟩ _ (by simp)).trans (World.cell?_setCell_same _ _ (.int .u32 1) (u := .int .u32 0) ?_)
      rw [World.cell?_drew]; exact e0
  generalize (W.drew.setCell ⟨b, 0, none⟩ (.int .u32 1)).setCell ⟨b, 1, none⟩ (.int .i32 0) = V at fin ⊢
  have FIN := Lib.hid fin
  clear fin
  simp [Leaves, settle, results, Try.results80]
  exact FIN.out

/-- block b is a table, empty or filled -/
def Tab (w : World) (b : Nat) : Prop := Lay w b ∧ w.cell? ⟨b, 1, none⟩ = some (.int .i32 0) ∧ (w.cell? ⟨b, 0, none⟩ = some (.int .u32 0) ∨ w.cell? ⟨b, 0, none⟩ = some (.int .u32 1) ∧ stepped w b 256)

set_option maxRecDepth 100000 in
set_option maxHeartbeats 1600000 in
theorem do_any (b : Nat) (w : World) (hT : Tab w b) :
    Calls Try.prog 77 #[.pointer (some ⟨b, 0, none⟩), .func (.func 78) #[.pointer (some ⟨b, 0, none⟩)] #[]] w fun e w' => e = .returned (.tuple #[]) ∧ Tab w' b ∧ stepped w' b 256 ∧ Only b w w' := by
  obtain ⟨hL, h1, h0 | ⟨h0, hs⟩⟩ := hT
  · have hl := run_call_load (P := Try.prog) Try.func81 (by kernel_rfl) (by kernel_rfl) (by kernel_rfl) .u32 (by kernel_rfl) h0
    have hnot : ∀ (x : Bool) (w : World), (Op.unary .not (.bool x)).run Try.prog w = .ok (.bool (!x)) w := fun _ _ => rfl
    go_enter Try.func77, Try.ntmps77
    go_wp2_with (first | (go_at_call 80; refine (slow_any b _ hL h0 h1).mono ?_; rintro e W ⟨rfl, k1, k2, k3, k4, k5⟩) | (go_at_call 79; go_in))
    go_end0
    exact ⟨rfl, ⟨k1, k4, .inr ⟨k3, k2⟩⟩, k2, k5⟩
  · have hl := run_call_load (P := Try.prog) Try.func81 (by kernel_rfl) (by kernel_rfl) (by kernel_rfl) .u32 (by kernel_rfl) h0
    have hnot : ∀ (x : Bool) (w : World), (Op.unary .not (.bool x)).run Try.prog w = .ok (.bool (!x)) w := fun _ _ => rfl
    have HS := Lib.hid hs
    clear hs
    go_enter Try.func77, Try.ntmps77
    go_wp2_with (go_at_call 79; go_in)
    go_end0
    exact ⟨rfl, ⟨hL, h1, .inr ⟨h0, HS.out⟩⟩, HS.out, Only.refl _ _⟩

set_option maxRecDepth 100000 in
set_option maxHeartbeats 1600000 in
theorem next_any (b c x : Nat) (w : World) (hT : Tab w b) (hc : c < 4294967296) (hx : x < 256) :
    Calls Try.prog 76 #[.pointer (some ⟨b, 0, none⟩), .int .u32 c, .int .u8 x] w fun e w' => e = .returned (.int .u32 (crcNext c x : Nat)) ∧ Tab w' b ∧ Only b w w' := by
  have hmf : ∀ (fn : Fn) (first cap : Array Value) (w : World), (Instr.makeFunc fn first cap).run Try.prog w = .ok (.func fn first cap) w := fun _ _ _ _ => rfl
  obtain ⟨m, hm⟩ : ∃ m, (c % 256) ^^^ x = m := ⟨_, rfl⟩
  have hml : m < 256 := by rw [← hm]; exact Nat.xor_lt_two_pow (n := 8) (by omega) hx
  have hix : bits BinOp.xor IntKind.u8 ((c : Int) % 256) (x : Int) = (m : Int) := by
    rw [← hm, ← u8_xor_nat (c % 256) x (by omega) hx]; congr 1
  obtain ⟨T, hTT⟩ : ∃ T, crcSteps 8 m = T := ⟨_, rfl⟩
  have hTl : T < 4294967296 := by rw [← hTT]; exact crcSteps_lt 8 (by omega)
  have hxr : bits BinOp.xor IntKind.u32 (T : Int) ((c : Int) / 256) = ((crcNext c x : Nat) : Int) := by
    rw [crcNext_table, hm, hTT, ← u32_xor_nat T (c / 256) hTl (by omega)]; congr 1
  have HT := Lib.hid hTT
  clear hm hTT
  go_enter Try.func76, Try.ntmps76
  go_wp2_with (go_at_call 77; refine (do_any b _ hT).mono ?_; rintro e W ⟨rfl, hT2, hs2, ho2⟩; have hcell := hs2 m hml; rw [HT.out] at hcell)
  go_ret
  exact ⟨rfl, hT2, ho2⟩
end Go.Proofs.Ytanbifhhoeaofaa

