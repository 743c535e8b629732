/- The walks of leb.digits, leb.Size and leb.Put: what they answer, at every number of 64 bits. No conditions. -/
import Derived.Test.YtanbifhhoeaofaaRows
import Derived.Test.YtanbifhhoeaofaaBox
import Derived.Test.YtanbifhhoeaofaaLebPlain
import Derived.Lib.Hide
import Derived.Shelf.Abstract
import Derived.WalkSpells
import Derived.Maps.AppendAt
namespace Go.Proofs.Ytanbifhhoeaofaa
set_option linter.unusedVariables false
open Go Go.RowKit Go.Shelf
attribute [local go_sem] Oper.semAt_some

theorem or128 : ∀ a : Fin 256, bits BinOp.or IntKind.u8 ((a.val : Nat) : Int) 128 = ((128 + a.val % 128 : Nat) : Int) := by decide +kernel
theorem or_more (m : Nat) : bits BinOp.or IntKind.u8 ((m : Int) % 256) 128 = ((128 + m % 128 : Nat) : Int) := by
  have h := or128 ⟨m % 256, by omega⟩
  simp only at h
  rw [show ((m : Int) % 256) = ((m % 256 : Nat) : Int) by omega, h]
  congr 1; omega
/-- the number that a box holds -/
def boxNat (B : Nat) (W : World) : Nat := match W.cell? ⟨B, 0, none⟩ with | some (.int _ m) => m.toNat | _ => 0
theorem boxNat_eq {W : World} {B : Nat} {t : TypeId} {m : Nat} (h : Boxed W B t (.int .u64 m)) : boxNat B W = m := by
  unfold boxNat; rw [h.cell]; simp

set_option maxRecDepth 100000 in
set_option maxHeartbeats 1000000 in
theorem digits_seq (n Bn : Nat) (m0 : Nat) (hm : U64 m0) (w : World) (hB : Boxed w Bn 49 (.int .u64 m0)) :
    SeqBox n Try.prog 73 Bn #[.pointer (some ⟨Bn, 0, none⟩)] (fun x : Nat => #[.int .u8 x]) (digs m0) w := by
  intro l J W hW hJb hY h0
  refine callsIn_of_wp Try.func73 rfl trivial ?_ rfl
  simp only [Try.ntmps73, List.size_toArray, List.length_cons, List.length_nil, Nat.reduceAdd, Nat.reduceSub, Array.replicate_succ, Array.replicate_zero, List.push_toArray, List.append_toArray, List.nil_append, List.cons_append]
  have hB0 : Boxed W Bn 49 (.int .u64 m0) := hW.trans hB
  gi_wp2_with fail
  gi_loopw [] (fun wr => ∃ (pre : List Nat) (m : Nat), U64 m ∧ Boxed wr Bn 49 (.int .u64 m) ∧ digs m0 = pre ++ digs m ∧ J pre wr) (fun wr => boxNat Bn wr)
  case atStart => exact ⟨[], m0, hm, hB0, rfl, h0⟩
  case round =>
    obtain ⟨pre, m, hm2, hb, hx, hJ⟩ := hrel
    have HX := Lib.hid hx
    clear hx
    by_cases hlt : m < 128
    · have hX := hY pre m wr hJ (by rw [HX.out, digs_lt hlt]; exact List.prefix_refl _)
      obtain ⟨fn, tmps, assign, body, hy, hR⟩ := hX
      have hc := hb.cell
      clear hY hJb hJ hW hB hB0 h0
      gi_wp2
      refine hR.mono ?_
      rintro e W3 ⟨rfl, hJ3, _⟩
      gi_wp2
      go_end0
      exact ⟨⟨_, rfl⟩, by rw [HX.out, digs_lt hlt]; exact hJ3⟩
    · have hX := hY pre (128 + m % 128) wr hJ (by rw [HX.out, digs_ge hlt]; exact ⟨digs (m / 128), by simp⟩)
      obtain ⟨fn, tmps, assign, body, hy, hR⟩ := hX
      have hc := hb.cell
      have hf := hb.frozen
      have hbits := or_more m
      obtain ⟨d, hd⟩ : ∃ d, 128 + m % 128 = d := ⟨_, rfl⟩
      rw [hd] at hbits hy hR
      have HD := Lib.hid hd
      have HB := Lib.hid hb
      clear hY hJ hW hB hB0 h0 hd
      gi_wp2
      refine hR.mono ?_
      rintro e W3 ⟨rfl, hJ3, hk3⟩
      have hb3 : Boxed W3 Bn 49 (.int .u64 m) := hk3.trans hb
      have hc3 := hb3.cell
      have hf3 := hb3.frozen
      clear hc hf hb hk3
      gi_wp2
      go_roundw
      case rel => exact ⟨pre ++ [d], m / 128, hm2.div 128, hb3.set _, by rw [HX.out, digs_ge hlt, HD.out]; simp, hJb _ _ _ hJ3⟩
      case measure =>
        have e := boxNat_eq (m := m / 128) (hb3.set (.int .u64 ((m / 128 : Nat) : Int)))
        rw [show ((m / 128 : Nat) : Int) = (m : Int) / 128 by omega] at e
        rw [boxNat_eq HB.out, e]; omega

/-- digits: the closure over a new box that holds n. -/
theorem digits_in (m : Nat) (w : World) (k : Nat) : CallsIn Fence.wide k Try.prog 63 #[.int .u64 m] w fun e w' => e = .returned (.func (.func 73) #[] #[.pointer (some ⟨w.heap.size, 0, none⟩)]) ∧ w.alloc (.cells #[.int .u64 m] 49) = w' := by
  refine callsIn_wide.2 ?_
  go_enter Try.func63, Try.ntmps63
  go_wp2
  go_ret
  exact ⟨rfl, rfl⟩

/-- a number's bytes -/
def lebStr (n : Nat) : ByteArray := ⟨((digs n).map UInt8.ofNat).toArray⟩
theorem infoByte : (Try.prog.info? 5).map (fun i => (i.zero, i.size, i.bytes)) = some (some (.int .u8 0), 1, 1) := by kernel_rfl

set_option maxRecDepth 100000 in
set_option maxHeartbeats 2000000 in
theorem put_in (m : Nat) (hm : U64 m) (w : World) :
    CallsIn Fence.wide 2 Try.prog 46 #[.int .u64 m] w fun e w' => e = .returned (.string (lebStr m)) ∧ Below w.heap.size w w' := by
  obtain ⟨i0, hi, hz0, hz1, hz2⟩ := info_parts infoByte
  have hlen := digs_len_10 hm
  refine callsIn_of_wp_marks Try.func46 rfl trivial ?_ rfl
  simp only [Try.ntmps46, List.size_toArray, List.length_cons, List.length_nil, Nat.reduceAdd, Nat.reduceSub, Array.replicate_succ, Array.replicate_zero, List.push_toArray, List.append_toArray, List.nil_append, List.cons_append]
  gi_wp2_with (refine ⟨trivial, ?_⟩; gi_at_call 63; refine (digits_in m _ _).mono ?_; rintro e w' ⟨rfl, rfl⟩)
  have hB0 : Below w.heap.size w ((w.alloc (.cells #[.slice none 0 0] 61)).alloc (.cells #[.int .u64 m] 49)) := ((Below.refl _ w).alloc (Nat.le_refl _) _).alloc (by simp) _
  have hbx : Boxed ((w.alloc (.cells #[.slice none 0 0] 61)).alloc (.cells #[.int .u64 m] 49)) (w.heap.size + 1) 49 (.int .u64 m) := by
    have := Boxed.new (w.alloc (.cells #[.slice none 0 0] 61)) 49 (.int .u64 m)
    rw [World.size_alloc] at this; exact this
  have bO := Boxed.new w 61 (.slice none 0 0)
  refine rangeBox (gf := 73) (Bn := w.heap.size + 1) (lb := #[.pointer (some ⟨w.heap.size + 1, 0, none⟩)]) rfl (enters_of Try.func73 (by kernel_rfl) rfl)
    (digits_seq _ _ m hm _ hbx) (by simp) ?hps
    (fun pre W => (∃ v, Boxed W w.heap.size 61 v ∧ W.ownsRow w.heap.size 5 1 v pre.length (pre.map fun x : Nat => Value.int .u8 x) ∧ True) ∧ Below w.heap.size w W ∧ ∃ u, Boxed W (w.heap.size + 1) 49 u)
    ?own ?box ⟨⟨_, bO.alloc _, World.ownsRow_nil _ _ _ _, trivial⟩, hB0, _, hbx⟩
    (fun x => { tmps := #[.int .u64 m, undef, .string ⟨#[]⟩, .pointer (some ⟨w.heap.size, 0, none⟩), .int .u8 x, .int .u64 m, .func (.func 73) #[] #[.pointer (some ⟨w.heap.size + 1, 0, none⟩)], .int .u8 x, undef, undef, undef, undef, undef, undef], defers := [] }) ?assign ?body ?done
  case hps => exact fun _ => rfl
  case own =>
    refine OwnFrom.and (Own.from (holdsRow_own w.heap.size w.heap.size 61 5 1 (fun pre : List Nat => pre.length) (fun pre : List Nat => pre.map fun x : Nat => Value.int .u8 x) (fun _ _ => True)) _) (OwnFrom.and (ownFrom_below (Nat.le_refl _) (by simp; omega)) ?_)
    rintro s A B row ⟨u, hs⟩ hg hr
    exact ⟨u, Own.from (boxed_own (w.heap.size + 1) 49 (fun _ : Unit => u)) _ () A B row hs hg hr⟩
  case box =>
    rintro pre W v ⟨⟨v', hv, hrow, _⟩, hB, u, hu⟩
    exact ⟨⟨v', hv.other (by omega) v, hrow.kept (grownBy_setCell' W _ v) (.inr (hu.not_row (by decide) hrow).symm), trivial⟩, hB.setCell (p := ⟨w.heap.size + 1, 0, none⟩) (by simp) v, v, hu.set v⟩
  case assign =>
    intro l x W K hK
    gi_wp2
    first | exact hK | simpa using hK
  case body =>
    rintro l pre x W ⟨⟨v, hv, hrow, _⟩, hB, u, hu⟩ hp
    have hle : pre.length + 1 ≤ 10 := by have := hp.length_le; simp at this; omega
    have hc := hv.cell
    have HU := Lib.hid hu
    clear hp hu hbx bO hB0 hlen
    gi_wp2_with (gi_at_builtin; refine wpListIn_append_own _ rfl _ _ 61 rfl w.heap.size 5 i0 (.int .u8 0) 1 1 Try.underlying61 hi hz0 hz1 hz2 rfl (by decide) _ _ _ rfl (hrow.alloc _) ⟨W.heap.size, 0, none⟩ 1 1 [.int .u8 x] rfl rfl (cell_one_new _ _ _) (by simp [Value.oneCell']) (by unfold maxLen; omega) (by omega) (by have := hB.size; simp; omega) ?_; intro v' w1 hown' hgrow _; obtain ⟨g', cap', rfl⟩ := ownsRow_succ hown'; obtain ⟨hv1, hv2, hr2, hk2, hb2⟩ := hv.appended (by decide) hrow hB.size (Nat.le_refl _) hown' hgrow; have hc1 := hv1.cell; have hf1 := hv1.frozen)
    have hu := HU.out
    have hne := hu.not_row (by decide) hrow
    refine ⟨hk2, ?_, ⟨_, hv2, by simpa using hr2, trivial⟩, hB.trans hb2, u, ?_⟩
    · exact (set_heap (by omega)).trans ((hgrow.block (w.heap.size + 1) (by have := hu.lt; simp only [World.size_alloc]; omega) hne).trans (Below.heap_alloc _ _ _ hu.lt))
    · exact (set_heap (by omega)).trans ((hgrow.block (w.heap.size + 1) (by have := hu.lt; simp only [World.size_alloc]; omega) hne).trans ((Below.heap_alloc _ _ _ hu.lt).trans hu))
  case done =>
    rintro D W hD ⟨⟨v, hv, hrow, _⟩, hB, _⟩ hK
    have hc := hv.cell
    obtain ⟨k, hk⟩ : ∃ k, (digs m).length = k + 1 := ⟨(digs m).length - 1, by have := digs_len_pos m; omega⟩
    have hrow' := hrow
    rw [hk] at hrow'
    obtain ⟨g, cap, rfl⟩ := ownsRow_succ hrow'
    have hcells : ∀ j (hj : j < ((digs m).map UInt8.ofNat).length), W.cell? ((⟨g, 0, none⟩ : Addr).add j) = some (.int .u8 (((digs m).map UInt8.ofNat)[j].toNat : Int)) := by
      intro j hj
      simp only [List.length_map] at hj
      refine hrow.cells (by simp [Value.ownBlock]) j _ ?_
      have hd := digs_byte m _ (List.getElem_mem hj)
      simp only [List.getElem?_map, List.getElem?_eq_getElem hj, Option.map_some, List.getElem_map, UInt8.toNat_ofNat']
      congr 2
      rw [Nat.mod_eq_of_lt (by simpa using hd)]
    have hconv := run_convert_bytes_back (P := Try.prog) W 61 9 5 ⟨g, 0, none⟩ cap ((digs m).map UInt8.ofNat) Try.underlying61 Try.underlying5 Try.underlying9 hcells
    rw [List.length_map, hk] at hconv
    clear hcells hrow hrow' hbx bO hB0 hv
    gi_wp2
    refine ⟨by simp, .inl ⟨_, _, rfl, run_takeDeferred hK, ?_⟩⟩
    exact ⟨_, results_tmp rfl _ _ _, rfl, hB.trans (belowK_b (w := w) (Nat.le_refl _) W D _ _ (by simp at hD; omega) hK rfl rfl)⟩

theorem put_any (m : Nat) (hm : U64 m) (w : World) :
    Calls Try.prog 46 #[.int .u64 m] w fun e w' => e = .returned (.string (lebStr m)) ∧ Below w.heap.size w w' := callsIn_wide.1 (put_in m hm w)
end Go.Proofs.Ytanbifhhoeaofaa

