/- frame's cut: a reader of one frame, and what it has read: the four steps of Get. No conditions. -/
import Derived.Test.YtanbifhhoeaofaaFramePlain
import Derived.Test.YtanbifhhoeaofaaRend
import Derived.Deep.RegionWith
import Derived.Deep.QuietTactic
import Derived.BigQuiet
import Derived.Deep.RegionHeld3
namespace Go.Proofs.Ytanbifhhoeaofaa
set_option linter.unusedVariables false
open Go Go.RowKit

/-- but for blocks r, K, n, what was there is as it was -/
structure Only3 (r K n : Nat) (w w' : World) : Prop where
  os : w'.os = w.os
  tape : w'.tape = w.tape
  output : w'.output = w.output
  size : w.heap.size ≤ w'.heap.size
  block : ∀ k, k < w.heap.size → k ≠ r → k ≠ K → k ≠ n → w'.heap[k]? = w.heap[k]?
theorem Only3.refl (r K n : Nat) (w : World) : Only3 r K n w w := ⟨rfl, rfl, rfl, Nat.le_refl _, fun _ _ _ _ _ => rfl⟩
theorem Only3.trans {r K n : Nat} {u v w : World} (h : Only3 r K n u v) (k : Only3 r K n v w) : Only3 r K n u w :=
  ⟨k.os.trans h.os, k.tape.trans h.tape, k.output.trans h.output, Nat.le_trans h.size k.size, fun i hi h1 h2 h3 => (k.block i (Nat.lt_of_lt_of_le hi h.size) h1 h2 h3).trans (h.block i hi h1 h2 h3)⟩
theorem Only.three {r : Nat} {w w' : World} (h : Only r w w') (K n : Nat) : Only3 r K n w w' := ⟨h.os, h.tape, h.output, h.size, fun k hk h1 _ _ => h.block k hk h1⟩
theorem Only3.setK {r K n : Nat} {u w : World} (h : Only3 r K n u w) (o : Nat) (v : Value) : Only3 r K n u (w.setCell ⟨K, o, none⟩ v) :=
  h.trans ⟨rfl, rfl, rfl, by simp, fun k hk _ h2 _ => Below.heap_setCell w ⟨K, o, none⟩ v k h2⟩
theorem Only3.setN {r K n : Nat} {u w : World} (h : Only3 r K n u w) (o : Nat) (v : Value) : Only3 r K n u (w.setCell ⟨n, o, none⟩ v) :=
  h.trans ⟨rfl, rfl, rfl, by simp, fun k hk _ _ h3 => Below.heap_setCell w ⟨n, o, none⟩ v k h3⟩
theorem Only3.drewN {r K n : Nat} {u w : World} (h : Only3 r K n u w) (k : Nat) : Only3 r K n u (w.drewN k) := ⟨h.os, h.tape, h.output, h.size, h.block⟩
theorem Only3.pre {r K n : Nat} {u w : World} {k : Nat} (h : Only3 r K n (u.drewN k) w) : Only3 r K n u w := ⟨h.os, h.tape, h.output, h.size, h.block⟩
theorem Only3.below {N r K n : Nat} {w w' : World} (h : Only3 r K n w w') (h1 : N ≤ r) (h2 : N ≤ K) (h3 : N ≤ n) (h4 : N ≤ w.heap.size) : Below N w w' :=
  ⟨h.os, h.tape, h.output, h.size, fun k hk => h.block k (by omega) (by omega) (by omega) (by omega)⟩
theorem Below.three {r K n : Nat} {w w' : World} (h : Below w.heap.size w w') : Only3 r K n w w' := ⟨h.os, h.tape, h.output, h.size, fun k hk _ _ _ => h.block k hk⟩

theorem RdAt.past {w : World} {r b o : Nat} {v : Value} {s : ByteArray} {a er : Nat} (h : RdAt w r s a er) (hne : r ≠ b) : RdAt (w.setCell ⟨b, o, none⟩ v) r s a er := h.at (Below.heap_setCell w ⟨b, o, none⟩ v r hne)
/-- a cut: its box, the cut itself, its reader -/
structure CutAt (w : World) (r K Bc : Nat) (s : ByteArray) (a er ty : Nat) (d tl : ByteArray) : Prop where
  rd : RdAt w r s a er
  blk : w.heap[K]? = some (.cells #[.pointer (some ⟨r, 0, none⟩), .string s, .int .i64 ty, .string d, .string tl] 71 (0, 0))
  box : w.heap[Bc]? = some (.cells #[.pointer (some ⟨K, 0, none⟩)] 67 (0, 0))
  rK : r ≠ K
  rB : r ≠ Bc
  KB : K ≠ Bc
/-- a box of an int -/
def IntBox (w : World) (n : Nat) (x : Int) : Prop := w.heap[n]? = some (.cells #[.int .i64 x] 3 (0, 0))
theorem CutAt.b0 {w : World} {r K Bc : Nat} {s : ByteArray} {a er ty : Nat} {d tl : ByteArray} (h : CutAt w r K Bc s a er ty d tl) : w.cell? ⟨Bc, 0, none⟩ = some (.pointer (some ⟨K, 0, none⟩)) := by simp [World.cell?, h.box]
theorem CutAt.k0 {w : World} {r K Bc : Nat} {s : ByteArray} {a er ty : Nat} {d tl : ByteArray} (h : CutAt w r K Bc s a er ty d tl) : w.cell? ⟨K, 0, none⟩ = some (.pointer (some ⟨r, 0, none⟩)) := by simp [World.cell?, h.blk]
theorem CutAt.k1 {w : World} {r K Bc : Nat} {s : ByteArray} {a er ty : Nat} {d tl : ByteArray} (h : CutAt w r K Bc s a er ty d tl) : w.cell? ⟨K, 1, none⟩ = some (.string s) := by simp [World.cell?, h.blk]
theorem CutAt.k2 {w : World} {r K Bc : Nat} {s : ByteArray} {a er ty : Nat} {d tl : ByteArray} (h : CutAt w r K Bc s a er ty d tl) : w.cell? ⟨K, 2, none⟩ = some (.int .i64 ty) := by simp [World.cell?, h.blk]
theorem CutAt.k3 {w : World} {r K Bc : Nat} {s : ByteArray} {a er ty : Nat} {d tl : ByteArray} (h : CutAt w r K Bc s a er ty d tl) : w.cell? ⟨K, 3, none⟩ = some (.string d) := by simp [World.cell?, h.blk]
theorem CutAt.k4 {w : World} {r K Bc : Nat} {s : ByteArray} {a er ty : Nat} {d tl : ByteArray} (h : CutAt w r K Bc s a er ty d tl) : w.cell? ⟨K, 4, none⟩ = some (.string tl) := by simp [World.cell?, h.blk]
theorem CutAt.fr {w : World} {r K Bc : Nat} {s : ByteArray} {a er ty : Nat} {d tl : ByteArray} (h : CutAt w r K Bc s a er ty d tl) (o : Nat) : w.frozen? ⟨K, o, none⟩ = false := by simp [World.frozen?, h.blk]
theorem CutAt.ltK {w : World} {r K Bc : Nat} {s : ByteArray} {a er ty : Nat} {d tl : ByteArray} (h : CutAt w r K Bc s a er ty d tl) : K < w.heap.size := (Array.getElem?_eq_some_iff.1 h.blk).1
theorem CutAt.ltB {w : World} {r K Bc : Nat} {s : ByteArray} {a er ty : Nat} {d tl : ByteArray} (h : CutAt w r K Bc s a er ty d tl) : Bc < w.heap.size := (Array.getElem?_eq_some_iff.1 h.box).1
/-- the reader went on, nothing else -/
theorem CutAt.read {w w' : World} {r K Bc : Nat} {s : ByteArray} {a er ty a' er' : Nat} {d tl : ByteArray} (h : CutAt w r K Bc s a er ty d tl) (hr : RdAt w' r s a' er') (ho : Only r w w') : CutAt w' r K Bc s a' er' ty d tl :=
  ⟨hr, (ho.block K h.ltK h.rK.symm).trans h.blk, (ho.block Bc h.ltB h.rB.symm).trans h.box, h.rK, h.rB, h.KB⟩
theorem CutAt.later {w w' : World} {r K Bc : Nat} {s : ByteArray} {a er ty : Nat} {d tl : ByteArray} (h : CutAt w r K Bc s a er ty d tl) (hb : Below w.heap.size w w') : CutAt w' r K Bc s a er ty d tl := h.read (h.rd.later hb) (Below.only hb)
theorem CutAt.drewN {w : World} {r K Bc : Nat} {s : ByteArray} {a er ty : Nat} {d tl : ByteArray} (h : CutAt w r K Bc s a er ty d tl) (k : Nat) : CutAt (w.drewN k) r K Bc s a er ty d tl := ⟨h.rd.drewN k, h.blk, h.box, h.rK, h.rB, h.KB⟩
theorem CutAt.setTy {w : World} {r K Bc : Nat} {s : ByteArray} {a er ty : Nat} {d tl : ByteArray} (h : CutAt w r K Bc s a er ty d tl) (ty' : Nat) : CutAt (w.setCell ⟨K, 2, none⟩ (.int .i64 ty')) r K Bc s a er ty' d tl :=
  ⟨h.rd.past h.rK, set_blk h.blk 2 _, (Below.heap_setCell w ⟨K, 2, none⟩ _ Bc h.KB.symm).trans h.box, h.rK, h.rB, h.KB⟩
theorem CutAt.setD {w : World} {r K Bc : Nat} {s : ByteArray} {a er ty : Nat} {d tl : ByteArray} (h : CutAt w r K Bc s a er ty d tl) (d' : ByteArray) : CutAt (w.setCell ⟨K, 3, none⟩ (.string d')) r K Bc s a er ty d' tl :=
  ⟨h.rd.past h.rK, set_blk h.blk 3 _, (Below.heap_setCell w ⟨K, 3, none⟩ _ Bc h.KB.symm).trans h.box, h.rK, h.rB, h.KB⟩
theorem CutAt.setTl {w : World} {r K Bc : Nat} {s : ByteArray} {a er ty : Nat} {d tl : ByteArray} (h : CutAt w r K Bc s a er ty d tl) (tl' : ByteArray) : CutAt (w.setCell ⟨K, 4, none⟩ (.string tl')) r K Bc s a er ty d tl' :=
  ⟨h.rd.past h.rK, set_blk h.blk 4 _, (Below.heap_setCell w ⟨K, 4, none⟩ _ Bc h.KB.symm).trans h.box, h.rK, h.rB, h.KB⟩
theorem CutAt.setN {w : World} {r K Bc : Nat} {s : ByteArray} {a er ty : Nat} {d tl : ByteArray} (h : CutAt w r K Bc s a er ty d tl) {n : Nat} (v : Value) (h1 : n ≠ r) (h2 : n ≠ K) (h3 : n ≠ Bc) : CutAt (w.setCell ⟨n, 0, none⟩ v) r K Bc s a er ty d tl :=
  ⟨h.rd.past h1.symm, (Below.heap_setCell w ⟨n, 0, none⟩ _ K h2.symm).trans h.blk, (Below.heap_setCell w ⟨n, 0, none⟩ _ Bc h3.symm).trans h.box, h.rK, h.rB, h.KB⟩

/-- wrong: what is wrong, but for bytes that are left -/
def wrF (er : Nat) : Nat := if er = 5 then 0 else er
theorem endF_wr (s : ByteArray) (a er : Nat) : (if endF s a er = 5 then 0 else endF s a er) = wrF er := by
  unfold endF wrF
  split
  · rename_i h; rw [h.1]; rfl
  · rfl
set_option maxRecDepth 100000 in
set_option maxHeartbeats 1600000 in
theorem wrong_any (r K Bc : Nat) (s : ByteArray) (a er ty : Nat) (d tl : ByteArray) (w : World) (h : CutAt w r K Bc s a er ty d tl) :
    Calls Try.prog 51 #[.pointer (some ⟨K, 0, none⟩)] w fun e w' => e = .returned (.int .i64 (wrF er : Nat)) ∧ ∃ m, w' = w.drewN m := by
  have k0 := h.k0
  have HE := Lib.hid (rendq_any r s a er w h.rd)
  have hw := endF_wr s a er
  clear h
  generalize endF s a er = E at HE hw
  rw [← hw]
  clear hw
  by_cases h5 : E = 5
  · subst h5
    go_enter Try.func51, Try.ntmps51
    go_wp2_with fail
    refine HE.out.mono ?_
    rintro e w1 ⟨rfl, m, rfl⟩
    go_wp2_with fail
    go_ret
    exact ⟨rfl, _, rfl⟩
  · rw [if_neg h5]
    have hd : ((E : Int) == 5) = false := by simp; omega
    go_enter Try.func51, Try.ntmps51
    go_wp2_with fail
    refine HE.out.mono ?_
    rintro e w1 ⟨rfl, m, rfl⟩
    go_wp2_with fail
    go_ret
    exact ⟨rfl, _, rfl⟩
/-- what the drawn regions of the steps look up -/
def CutS (r K Bc : Nat) (w' : World) : Prop := w'.cell? ⟨Bc, 0, none⟩ = some (.pointer (some ⟨K, 0, none⟩)) ∧ w'.cell? ⟨K, 0, none⟩ = some (.pointer (some ⟨r, 0, none⟩)) ∧ (w'.frozen? ⟨K, 2, none⟩ = false ∧ w'.frozen? ⟨K, 3, none⟩ = false ∧ w'.frozen? ⟨K, 4, none⟩ = false) ∧ K ≠ Bc
theorem CutAt.look {w : World} {r K Bc : Nat} {s : ByteArray} {a er ty : Nat} {d tl : ByteArray} (h : CutAt w r K Bc s a er ty d tl) : CutS r K Bc w := ⟨h.b0, h.k0, ⟨h.fr 2, h.fr 3, h.fr 4⟩, h.KB⟩
theorem CutS.drew {r K Bc : Nat} {w : World} (h : CutS r K Bc w) : CutS r K Bc w.drew := h
theorem CutS.set {r K Bc : Nat} {w : World} (h : CutS r K Bc w) (o : Nat) (v : Value) (ho : 0 < o) : CutS r K Bc (w.setCell ⟨K, o, none⟩ v) := by
  obtain ⟨h1, h2, ⟨h3, h4, h5⟩, h6⟩ := h
  exact ⟨(World.cell?_setCell_other _ _ _ _ (by simp)).trans h1, (World.cell?_setCell_other _ _ _ _ (by first | (simp; done) | (simp; omega))).trans h2, ⟨by rw [World.frozen?_setCell]; exact h3, by rw [World.frozen?_setCell]; exact h4, by rw [World.frozen?_setCell]; exact h5⟩, h6⟩
theorem bV_le (s : ByteArray) (a er : Nat) : bV s a er ≤ 255 := by
  unfold bV tk byteAt; split
  · have := (s.data.toList.getD a 0).toNat_lt; omega
  · omega
set_option maxRecDepth 100000 in
set_option maxHeartbeats 4000000 in
theorem step1_any (r K Bc n : Nat) (s : ByteArray) (ty : Nat) (d tl : ByteArray) (w : World) (h : CutAt w r K Bc s 0 0 ty d tl) (hs : s.size ≤ maxLen) :
    Calls Try.prog 49 #[.pointer (some ⟨Bc, 0, none⟩)] w fun e w' => e = .returned (.int .i64 (wrF (mvE 0 (wE s 0 1)) : Nat)) ∧ CutAt w' r K Bc s (mvA 0 0 (wT s 0 1) (wE s 0 1)) (mvE 0 (wE s 0 1)) (bV s 0 0) d tl ∧ Only3 r K n w w' := by
  have hS := h.look
  have H := Lib.hid h
  have CB := Lib.hid (fun W h => rbyte_any r s 0 0 W h hs (Nat.zero_le _))
  clear h
  generalize mvA 0 0 (wT s 0 1) (wE s 0 1) = y at CB ⊢
  generalize mvE 0 (wE s 0 1) = z at CB ⊢
  have hx := bV_le s 0 0
  generalize bV s 0 0 = x at CB hx ⊢
  have hw1 : IntKind.i64.wrap (x : Int) = x := IntWalk.i64_in (x : Int) (by omega)
  have hw2 : wrap64 (x : Int) = x := IntWalk.wrap64_in (x : Int) (by omega)
  have HW := Lib.hid hw2
  clear hx
  have l0 : ∀ w', CutS r K Bc w' → w'.cell? ⟨Bc, 0, none⟩ = some (.pointer (some ⟨K, 0, none⟩)) := fun _ h => h.1
  have l1 : ∀ w', CutS r K Bc w' → w'.cell? ⟨K, 0, none⟩ = some (.pointer (some ⟨r, 0, none⟩)) := fun _ h => h.2.1
  have l2 : ∀ w', CutS r K Bc w' → w'.frozen? ⟨K, 2, none⟩ = false := fun _ h => h.2.2.1.1
  go_enter Try.func49, Try.ntmps49
  go_wp2_with fail
  go_region_held3 (fun w' => CutS r K Bc w') (first | assumption | exact CutS.drew (by assumption) | exact CutS.set (by assumption) 2 _ (by decide))
    ((go_at_call 50; (with_reducible refine (CB.out _ (H.out.rd.at (w' := w.drew) rfl)).mono ?_); rintro e w3 ⟨rfl, hR3, hO3⟩; have hC3 := (H.out.drewN 1).read hR3 hO3; have hS3 := hC3.look; have hk3 := hC3.k2))
  all_goals go_wp2_with fail
  have hC4 := hC3.setTy x
  have O4 : Only3 r K n w (w3.setCell ⟨K, 2, none⟩ (.int .i64 x)) := ((hO3.three K n).setK 2 _).pre (k := 1)
  generalize w3.setCell ⟨K, 2, none⟩ (.int .i64 x) = W4 at hC4 O4 ⊢
  refine (wrong_any r K Bc s y z x d tl _ hC4).mono ?_
  rintro e w5 ⟨rfl, m, rfl⟩
  have hC5 := Lib.hid (hC4.drewN m)
  have O5 := Lib.hid (O4.drewN m)
  clear hC4 O4
  go_wp2_with fail
  go_ret
  exact ⟨rfl, hC5.out, O5.out⟩
end Go.Proofs.Ytanbifhhoeaofaa

