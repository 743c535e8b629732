/- A list of bytes that a call owns: append of a byte, of a string; and its string. No conditions. -/
import Derived.Test.YtanbifhhoeaofaaRows
import Derived.WalkKit
import Derived.Lib.Hide
import Derived.Lib.AppendStr
import Derived.Laws.BytesArg
import Derived.Maps.AppendAt
import Derived.Deep.AppendLies
namespace Go.Proofs.Ytanbifhhoeaofaa
set_option linter.unusedVariables false
open Go Go.RowKit

def bVal (x : UInt8) : Value := .int .u8 (x.toNat : Int)
def bStr (l : List UInt8) : ByteArray := ⟨l.toArray⟩
/-- v is a list of bytes that the call owns: nil, or the head of a block from n on -/
def BRow (w : World) (n : Nat) (v : Value) (l : List UInt8) : Prop := w.ownsRow n 5 1 v l.length (l.map bVal)
theorem infoB : (Try.prog.info? 5).map (fun i => (i.zero, i.size, i.bytes)) = some (some (.int .u8 0), 1, 1) := by kernel_rfl
theorem BRow.nil (w : World) (n : Nat) : BRow w n (.slice none 0 0) [] := World.ownsRow_nil w n _ 1
theorem BRow.lt {w : World} {n : Nat} {v : Value} {l : List UInt8} (h : BRow w n v l) : ∀ k, v.ownBlock = some k → n ≤ k ∧ k < w.heap.size := World.ownsRow.lt h
theorem BRow.own {w : World} {n : Nat} {v : Value} {l : List UInt8} (h : BRow w n v l) : ∀ k, v.ownBlock = some k → n ≤ k := fun k hk => (World.ownsRow.lt h k hk).1
theorem BRow.at {w w' : World} {n : Nat} {v : Value} {l : List UInt8} (h : BRow w n v l) (hb : ∀ k, v.ownBlock = some k → w'.heap[k]? = w.heap[k]?) : BRow w' n v l := by
  refine ⟨h.1, ?_⟩
  rcases h.2 with hn | ⟨g, cap, cur, rfl, hg, hgg, rest⟩
  · exact .inl hn
  · exact .inr ⟨g, cap, cur, rfl, hg, by rw [hb g rfl]; exact hgg, rest⟩
theorem BRow.later {w w' : World} {n : Nat} {v : Value} {l : List UInt8} (h : BRow w n v l) (hb : Below w.heap.size w w') : BRow w' n v l := h.at fun k hk => hb.block k (h.lt k hk).2
theorem BRow.slice {w : World} {n : Nat} {v : Value} {l : List UInt8} (h : BRow w n v l) : ∃ a c, v = .slice a l.length c ∧ (a = none → l = []) := by
  rcases h.2 with ⟨rfl, h0⟩ | ⟨g, cap, cur, rfl, _⟩
  · have : l = [] := by simpa using h0
    subst this; exact ⟨none, 0, rfl, fun _ => rfl⟩
  · exact ⟨_, cap, rfl, fun h => by cases h⟩
theorem bVal_one (l : List UInt8) : ∀ u ∈ l.map bVal, u.oneCell' = true := by
  intro u hu; obtain ⟨x, _, rfl⟩ := List.mem_map.1 hu; rfl
/-- the string of such a list -/
theorem BRow.conv {w : World} {n : Nat} {v : Value} {l : List UInt8} (h : BRow w n v l) : (convert 61 9 v).run Try.prog w = .ok (.string (bStr l)) w := by
  rcases h.2 with ⟨rfl, h0⟩ | ⟨g, cap, cur, rfl, hg, hgg, hcap, hm, hsz, htake⟩
  · have : l = [] := by simpa using h0
    subst this
    exact run_convert_bytes_nil w 61 5 Try.underlying61 Try.underlying5 0 0 9 Try.underlying9
  · refine run_convert_bytes_back (P := Try.prog) w 61 9 5 ⟨g, 0, none⟩ cap l Try.underlying61 Try.underlying5 Try.underlying9 fun j hj => ?_
    refine World.ownsRow.cells h (g := g) rfl j _ ?_
    rw [List.getElem?_map, List.getElem?_eq_getElem hj]; rfl
/-- 'append(own, x)', x one byte, which stands in a new block -/
theorem append_byte {W : World} {ops : Array Oper} {rest : List Oper} {o : Oper} {act : Act} {Q : Exit → Act → World → Prop} (hgd : o.guard = none) (s x : Operand)
    (ho : o.op = .call { callee := .builtin .append, args := #[s, x], argTypes := #[61, 61] }) (n : Nat) (v : Value) (l : List UInt8) (hs : act.eval s = v) (hrow : BRow W n v l)
    (b : UInt8) (z : Int) (hz : z = (b.toNat : Int)) (hx : act.eval x = .slice (some ⟨W.heap.size, 0, none⟩) 1 1) (hn : n ≤ W.heap.size) (hle : l.length ≤ 100000000)
    (h : ∀ v' w', BRow w' n v' (l ++ [b]) → (W.alloc (.cells #[.int .u8 z] 5)).grownBy w' v.ownBlock → wpList Try.prog ops Q rest (act.put o.dst v') w') :
    wpList Try.prog ops Q (o :: rest) act (W.alloc (.cells #[.int .u8 z] 5)) := by
  obtain ⟨i0, hi, hz0, hz1, hz2⟩ := info_parts infoB
  subst hz
  refine wpList_append_own _ hgd s x 61 ho n 5 i0 (.int .u8 0) 1 1 Try.underlying61 hi hz0 hz1 hz2 rfl (by decide) v l.length (l.map bVal) hs (World.ownsRow.alloc hrow _) ⟨W.heap.size, 0, none⟩ 1 1 [bVal b] hx rfl (cell_one_new _ _ _) (by intro u hu; simp at hu; subst hu; rfl) (by unfold maxLen; omega) (by omega) (by simp; omega) (fun v' w' hown hg _ => h v' w' ?_ hg)
  unfold BRow
  simpa using hown
/-- 'append(own, s...)', s a string -/
theorem append_text {W : World} {ops : Array Oper} {rest : List Oper} {o : Oper} {act : Act} {Q : Exit → Act → World → Prop} (hgd : o.guard = none) (s x : Operand)
    (ho : o.op = .call { callee := .builtin .append, args := #[s, x], argTypes := #[61, 9] }) (n : Nat) (v : Value) (l : List UInt8) (hs : act.eval s = v) (hrow : BRow W n v l)
    (t : ByteArray) (hx : act.eval x = .string t) (hn : n ≤ W.heap.size) (hle : l.length + t.size ≤ 100000000)
    (h : ∀ v' w', BRow w' n v' (l ++ t.data.toList) → W.grownBy w' v.ownBlock → wpList Try.prog ops Q rest (act.put o.dst v') w') :
    wpList Try.prog ops Q (o :: rest) act W := by
  obtain ⟨i0, hi, hz0, hz1, hz2⟩ := info_parts infoB
  refine Lib.wpList_append_own_string _ hgd s x 61 9 ho n 5 i0 Try.underlying61 Try.underlying9 hi hz0 hz1 hz2 v l.length (l.map bVal) hs hrow t hx (by unfold maxLen; omega) (by omega) hn (fun v' w' hown hg _ => h v' w' ?_ hg)
  unfold BRow
  have e : Lib.strCells t = t.data.toList.map bVal := rfl
  rw [List.length_append, List.map_append, ← e]
  have e2 : t.data.toList.length = t.size := by simp
  rw [e2]
  exact hown
/-- 'append(own, x)' as a step of a region that draws its order: the byte stands in a block g0 of one cell -/
theorem step_append_byte {W : World} {ops : Array Oper} {o : Oper} {act : Act} {K : Act → World → Prop} {Q : Exit → Act → World → Prop} {E : Prop} (hgd : o.guard = none) (s x : Operand)
    (ho : o.op = .call { callee := .builtin .append, args := #[s, x], argTypes := #[61, 61] }) (n : Nat) (v : Value) (l : List UInt8) (hs : act.eval s = v) (hrow : BRow W n v l)
    (b : UInt8) (z : Int) (hz : z = (b.toNat : Int)) (g0 : Nat) (hx : act.eval x = .slice (some ⟨g0, 0, none⟩) 1 1) (hcell : W.cell? ⟨g0, 0, none⟩ = some (.int .u8 z)) (hn : n ≤ W.heap.size) (hle : l.length ≤ 100000000)
    (h : ∀ v' w', BRow w' n v' (l ++ [b]) → W.grownBy w' v.ownBlock → Below n W w' → K (act.put o.dst v') w') :
    if Region.wanted o (yielded ops act.tmps) = true then Oper.wp Try.prog o act W K Q else E := by
  obtain ⟨i0, hi, hz0, hz1, hz2⟩ := info_parts infoB
  subst hz
  have hw : Region.wanted o (yielded ops act.tmps) = true := by simp [Region.wanted, hgd]
  rw [if_pos hw]
  refine wp_append_lies W s x 61 ho n 5 i0 (.int .u8 0) 1 1 Try.underlying61 hi hz0 hz1 hz2 rfl (by decide) v l.length (l.map bVal) hs hrow ⟨g0, 0, none⟩ 1 1 [bVal b] hx rfl ?_ (by intro u hu; simp at hu; subst hu; rfl) (by decide) (by unfold maxLen; omega) (by omega) hn W.heap.size rfl (fun g cap w' hown hg _ _ => h _ w' ?_ hg ?_)
  · intro j u hj
    match j, hj with
    | 0, hj =>
      simp only [List.getElem?_cons_zero, Option.some.injEq] at hj
      subst hj; exact hcell
  · unfold BRow; simpa using hown
  · exact (Below.refl n W).grown hg hn hrow.own
theorem BRow.drew {w : World} {n : Nat} {v : Value} {l : List UInt8} (h : BRow w n v l) : BRow w.drew n v l := h.at fun _ _ => rfl
theorem BRow.alloc {w : World} {n : Nat} {v : Value} {l : List UInt8} (h : BRow w n v l) (o : Obj) : BRow (w.alloc o) n v l := h.at fun k hk => Below.heap_alloc _ _ _ (h.lt k hk).2
end Go.Proofs.Ytanbifhhoeaofaa

