/- wire's Reader: what each method reads, and where it stands then. No conditions. -/
import Derived.Test.YtanbifhhoeaofaaOnly
import Derived.Test.YtanbifhhoeaofaaZigRef
import Derived.Deep.QuietTactic
import Derived.BigQuiet
import Derived.Deep.RegionHeld3
namespace Go.Proofs.Ytanbifhhoeaofaa
set_option linter.unusedVariables false
open Go Go.RowKit

/-- block r is a reader of s, at the place a, with the error er -/
structure RdAt (w : World) (r : Nat) (s : ByteArray) (a er : Nat) : Prop where
  blk : w.heap[r]? = some (.cells #[.string s, .int .i64 a, .int .i64 er] 80 (0, 0))
theorem RdAt.lt {w : World} {r : Nat} {s : ByteArray} {a er : Nat} (h : RdAt w r s a er) : r < w.heap.size := (Array.getElem?_eq_some_iff.1 h.blk).1
theorem RdAt.c0 {w : World} {r : Nat} {s : ByteArray} {a er : Nat} (h : RdAt w r s a er) : w.cell? ⟨r, 0, none⟩ = some (.string s) := by simp [World.cell?, h.blk]
theorem RdAt.c1 {w : World} {r : Nat} {s : ByteArray} {a er : Nat} (h : RdAt w r s a er) : w.cell? ⟨r, 1, none⟩ = some (.int .i64 a) := by simp [World.cell?, h.blk]
theorem RdAt.c2 {w : World} {r : Nat} {s : ByteArray} {a er : Nat} (h : RdAt w r s a er) : w.cell? ⟨r, 2, none⟩ = some (.int .i64 er) := by simp [World.cell?, h.blk]
theorem RdAt.fr {w : World} {r : Nat} {s : ByteArray} {a er : Nat} (h : RdAt w r s a er) (o : Nat) : w.frozen? ⟨r, o, none⟩ = false := by simp [World.frozen?, h.blk]
theorem RdAt.at {w w' : World} {r : Nat} {s : ByteArray} {a er : Nat} (h : RdAt w r s a er) (hb : w'.heap[r]? = w.heap[r]?) : RdAt w' r s a er := ⟨hb.trans h.blk⟩
theorem RdAt.later {w w' : World} {r : Nat} {s : ByteArray} {a er : Nat} (h : RdAt w r s a er) (hb : Below w.heap.size w w') : RdAt w' r s a er := h.at (hb.block r h.lt)
theorem RdAt.new (w : World) (s : ByteArray) : RdAt (w.alloc (.cells #[.string s, .int .i64 0, .int .i64 0] 80)) w.heap.size s 0 0 := ⟨World.alloc_heap_new w _⟩
theorem set_blk {w : World} {r : Nat} {cur : Array Value} {T : TypeId} (h : w.heap[r]? = some (.cells cur T (0, 0))) (o : Nat) (v : Value) : (w.setCell ⟨r, o, none⟩ v).heap[r]? = some (.cells (cur.setIfInBounds o v) T (0, 0)) := by
  obtain ⟨hlt, hk⟩ := Array.getElem?_eq_some_iff.1 h
  show (w.heap.modify r _)[r]? = _
  rw [Array.getElem?_eq_getElem (by rw [Array.size_modify]; exact hlt), Array.getElem_modify_self, hk]
  rfl
theorem RdAt.set1 {w : World} {r : Nat} {s : ByteArray} {a er : Nat} (h : RdAt w r s a er) (a' : Nat) : RdAt (w.setCell ⟨r, 1, none⟩ (.int .i64 a')) r s a' er := ⟨set_blk h.blk 1 _⟩
theorem RdAt.set2 {w : World} {r : Nat} {s : ByteArray} {a er : Nat} (h : RdAt w r s a er) (er' : Nat) : RdAt (w.setCell ⟨r, 2, none⟩ (.int .i64 er')) r s a er' := ⟨set_blk h.blk 2 _⟩

set_option maxRecDepth 100000 in
theorem rof_any (s : ByteArray) (w : World) : Calls Try.prog 48 #[.string s] w fun e w' => e = .returned (.pointer (some ⟨w.heap.size, 0, none⟩)) ∧ w.alloc (.cells #[.string s, .int .i64 0, .int .i64 0] 80) = w' := by
  go_enter Try.func48, Try.ntmps48
  go_wp2
  go_ret
  exact ⟨rfl, rfl⟩
theorem rat_any (r : Nat) (s : ByteArray) (a er : Nat) (w : World) (h : RdAt w r s a er) : Calls Try.prog 54 #[.pointer (some ⟨r, 0, none⟩)] w fun e w' => e = .returned (.int .i64 a) ∧ w = w' := by
  have c1 := h.c1
  clear h
  go_enter Try.func54, Try.ntmps54
  go_wp2
  go_ret
  exact ⟨rfl, rfl⟩
/-- what End answers -/
def endF (s : ByteArray) (a er : Nat) : Nat := if er = 0 ∧ a < s.size then 5 else er
theorem rend_any (r : Nat) (s : ByteArray) (a er : Nat) (w : World) (h : RdAt w r s a er) : Calls Try.prog 64 #[.pointer (some ⟨r, 0, none⟩)] w fun e w' => e = .returned (.int .i64 (endF s a er : Nat)) ∧ Below w.heap.size w w' := by
  have c0 := h.c0
  have c1 := h.c1
  have c2 := h.c2
  clear h
  have hD : ∀ n, Below w.heap.size w (w.drewN n) := fun n => ⟨rfl, rfl, rfl, Nat.le_refl _, fun _ _ => rfl⟩
  by_cases h0 : er = 0
  · subst h0
    by_cases h1 : a < s.size
    · have he := Lib.hid (show endF s a 0 = 5 by unfold endF; rw [if_pos ⟨rfl, h1⟩])
      have hd : decide ((a : Int) < s.size) = true := by simp; omega
      have hd2 : decide (a < s.size) = true := by simp; omega
      go_enter Try.func64, Try.ntmps64
      go_wp2
      go_quiet (fail)
      go_wp2
      go_ret
      exact ⟨by rw [he.out]; rfl, hD _⟩
    · have he := Lib.hid (show endF s a 0 = 0 by unfold endF; rw [if_neg (by omega)])
      have hd : decide ((a : Int) < s.size) = false := by simp; omega
      have hd2 : decide (a < s.size) = false := by simp; omega
      go_enter Try.func64, Try.ntmps64
      go_wp2
      go_quiet (fail)
      go_wp2
      go_ret
      exact ⟨by rw [he.out]; rfl, hD _⟩
  · have he := Lib.hid (show endF s a er = er by unfold endF; rw [if_neg (by omega)])
    have hd : ((er : Int) == 0) = false := by simp; omega
    go_enter Try.func64, Try.ntmps64
    go_wp2
    go_quiet (fail)
    go_wp2
    go_ret
    exact ⟨by rw [he.out]; rfl, hD _⟩
/-- the place behind a move -/
def mvA (a er to er' : Nat) : Nat := if er = 0 ∧ er' = 0 then to else a
def mvE (er er' : Nat) : Nat := if er = 0 then er' else er
def okB (er er' : Nat) : Bool := decide (er = 0 ∧ er' = 0)
theorem rmove_any (r : Nat) (s : ByteArray) (a er to er' : Nat) (w : World) (h : RdAt w r s a er) : Calls Try.prog 67 #[.pointer (some ⟨r, 0, none⟩), .int .i64 to, .int .i64 er'] w fun e w' => e = .returned (.bool (okB er er')) ∧ RdAt w' r s (mvA a er to er') (mvE er er') ∧ Only r w w' := by
  have c0 := h.c0
  have c1 := h.c1
  have c2 := h.c2
  have f1 := h.fr 1
  have f2 := h.fr 2
  have H := Lib.hid h
  clear h
  by_cases h0 : er = 0
  · subst h0
    by_cases h1 : er' = 0
    · subst h1
      go_enter Try.func67, Try.ntmps67
      go_wp2
      go_ret
      exact ⟨rfl, (H.out.set2 0).set1 to, ((Only.refl _ _).setCell 2 _).setCell 1 _⟩
    · have hd : ((er' : Int) == 0) = false := by simp; omega
      have ha := Lib.hid (show mvA a 0 to er' = a by unfold mvA; rw [if_neg (by omega)])
      have hdd := Lib.hid (show okB 0 er' = false by unfold okB; simp; omega)
      clear h1
      go_enter Try.func67, Try.ntmps67
      go_wp2
      go_ret
      exact ⟨by rw [hdd.out]; rfl, by rw [ha.out]; exact H.out.set2 er', (Only.refl _ _).setCell 2 _⟩
  · have hd : ((er : Int) == 0) = false := by simp; omega
    have ha := Lib.hid (show mvA a er to er' = a by unfold mvA; rw [if_neg (by omega)])
    have hb := Lib.hid (show mvE er er' = er by unfold mvE; rw [if_neg h0])
    have hdd := Lib.hid (show okB er er' = false by unfold okB; simp; omega)
    clear h0
    go_enter Try.func67, Try.ntmps67
    go_wp2
    go_ret
    exact ⟨by rw [hdd.out]; rfl, by rw [ha.out, hb.out]; exact H.out, Only.refl _ _⟩
/-- took: the value, if the reader may go on -/
def tk {α : Type} (er er' : Nat) (x z : α) : α := if er = 0 ∧ er' = 0 then x else z
set_option maxRecDepth 100000 in
theorem tookI_any (r : Nat) (s : ByteArray) (a er to er' : Nat) (n : Int) (w : World) (h : RdAt w r s a er) : Calls Try.prog 66 #[.func (.func 67) #[.pointer (some ⟨r, 0, none⟩)] #[], .int .i64 n, .int .i64 to, .int .i64 er'] w fun e w' => e = .returned (.int .i64 (tk er er' n 0)) ∧ RdAt w' r s (mvA a er to er') (mvE er er') ∧ Only r w w' := by
  have H := Lib.hid h
  clear h
  by_cases h0 : er = 0 ∧ er' = 0
  · have ho := Lib.hid (show okB er er' = true by unfold okB; simpa using h0)
    have ht := Lib.hid (show tk er er' n 0 = n by unfold tk; rw [if_pos h0])
    clear h0
    go_enter Try.func66, Try.ntmps66
    go_wp2_with (go_at_call 67; refine (rmove_any r s a er to er' _ H.out).mono ?_; rintro e W ⟨rfl, hR, hO⟩; rw [ho.out])
    go_ret
    exact ⟨by rw [ht.out]; rfl, hR, hO⟩
  · have ho := Lib.hid (show okB er er' = false by unfold okB; simpa using h0)
    have ht := Lib.hid (show tk er er' n 0 = 0 by unfold tk; rw [if_neg h0])
    clear h0
    go_enter Try.func66, Try.ntmps66
    go_wp2_with (go_at_call 67; refine (rmove_any r s a er to er' _ H.out).mono ?_; rintro e W ⟨rfl, hR, hO⟩; rw [ho.out])
    go_ret
    exact ⟨by rw [ht.out]; rfl, hR, hO⟩
set_option maxRecDepth 100000 in
theorem tookS_any (r : Nat) (s : ByteArray) (a er to er' : Nat) (t : ByteArray) (w : World) (h : RdAt w r s a er) : Calls Try.prog 68 #[.func (.func 67) #[.pointer (some ⟨r, 0, none⟩)] #[], .string t, .int .i64 to, .int .i64 er'] w fun e w' => e = .returned (.string (tk er er' t ⟨#[]⟩)) ∧ RdAt w' r s (mvA a er to er') (mvE er er') ∧ Only r w w' := by
  have H := Lib.hid h
  clear h
  by_cases h0 : er = 0 ∧ er' = 0
  · have ho := Lib.hid (show okB er er' = true by unfold okB; simpa using h0)
    have ht := Lib.hid (show tk er er' t ⟨#[]⟩ = t by unfold tk; rw [if_pos h0])
    clear h0
    go_enter Try.func68, Try.ntmps68
    go_wp2_with (go_at_call 67; refine (rmove_any r s a er to er' _ H.out).mono ?_; rintro e W ⟨rfl, hR, hO⟩; rw [ho.out])
    go_ret
    exact ⟨by rw [ht.out]; rfl, hR, hO⟩
  · have ho := Lib.hid (show okB er er' = false by unfold okB; simpa using h0)
    have ht := Lib.hid (show tk er er' t ⟨#[]⟩ = ⟨#[]⟩ by unfold tk; rw [if_neg h0])
    clear h0
    go_enter Try.func68, Try.ntmps68
    go_wp2_with (go_at_call 67; refine (rmove_any r s a er to er' _ H.out).mono ?_; rintro e W ⟨rfl, hR, hO⟩; rw [ho.out])
    go_ret
    exact ⟨by rw [ht.out]; rfl, hR, hO⟩
end Go.Proofs.Ytanbifhhoeaofaa

