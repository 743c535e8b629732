/- Lists of sections of a function's own; append. No conditions. -/
import Derived.Test.YtanbifhhoeaofaaCont1
import Derived.Laws.AppendOwn
namespace Go.Proofs.Ytanbifhhoeaofaa
set_option linter.unusedVariables false
open Go Go.RowKit

def secRow : List Sec → List Value
  | [] => []
  | x :: L => .int .i64 x.1 :: .string x.2 :: secRow L
theorem secRow_len (L : List Sec) : (secRow L).length = L.length * 2 := by
  induction L with
  | nil => rfl
  | cons x L ih => simp only [secRow, List.length_cons, ih]; omega
theorem secRow_snoc (L : List Sec) (x : Sec) : secRow (L ++ [x]) = secRow L ++ [.int .i64 x.1, .string x.2] := by
  induction L with
  | nil => rfl
  | cons y L ih => simp only [List.cons_append, secRow, ih]
theorem secRow_get : ∀ (L : List Sec) (i : Nat) (x : Sec), L[i]? = some x → (secRow L)[i * 2]? = some (.int .i64 x.1) ∧ (secRow L)[i * 2 + 1]? = some (.string x.2) := by
  intro L
  induction L with
  | nil => intro i x h; simp at h
  | cons y L ih =>
    intro i x h
    cases i with
    | zero => simp at h; subst h; exact ⟨rfl, rfl⟩
    | succ i =>
      obtain ⟨a, b⟩ := ih i x (by simpa using h)
      rw [show (i + 1) * 2 = i * 2 + 1 + 1 by omega]
      exact ⟨a, b⟩
abbrev SRow (w : World) (n₀ : Nat) (v : Value) (M : List Sec) : Prop := w.ownsRow n₀ 36 2 v M.length (secRow M)
theorem infoSec : (Try.prog.info? 36).map (fun i => (i.zero.map (fun z => z.cells.size), i.size, i.bytes)) = some (some 2, 2, 24) := by kernel_rfl
theorem zeroSec : ∃ (i : TypeInfo) (z : Value), Try.prog.info? 36 = some i ∧ i.zero = some z ∧ i.size = 2 ∧ i.bytes = 24 ∧ z.cells.size = 2 := by
  have h := infoSec
  cases h' : Try.prog.info? 36 with
  | none => rw [h'] at h; simp at h
  | some i =>
    rw [h'] at h
    simp only [Option.map_some, Option.some.injEq, Prod.mk.injEq] at h
    obtain ⟨h1, h2, h3⟩ := h
    cases hz : i.zero with
    | none => rw [hz] at h1; simp at h1
    | some z => rw [hz] at h1; exact ⟨i, z, rfl, hz, h2, h3, by simpa using h1⟩
theorem SRow.at {w w' : World} {n₀ : Nat} {v : Value} {M : List Sec} (h : SRow w n₀ v M) (hb : ∀ k, v.ownBlock = some k → w'.heap[k]? = w.heap[k]?) : SRow w' n₀ v M := by
  refine ⟨h.1, ?_⟩
  rcases h.2 with hn | ⟨g, cap, cur, rfl, hg, hgg, rest⟩
  · exact .inl hn
  · exact .inr ⟨g, cap, cur, rfl, hg, by rw [hb g rfl]; exact hgg, rest⟩
theorem SRow.lt {w : World} {n₀ : Nat} {v : Value} {M : List Sec} (h : SRow w n₀ v M) : ∀ k, v.ownBlock = some k → n₀ ≤ k ∧ k < w.heap.size := World.ownsRow.lt h
theorem SRow.later {w w' : World} {n₀ : Nat} {v : Value} {M : List Sec} (h : SRow w n₀ v M) (hb : Below w.heap.size w w') : SRow w' n₀ v M := h.at fun k hk => hb.block k (h.lt k hk).2
theorem SRow.nil (w : World) (n₀ : Nat) : SRow w n₀ (.slice none 0 0) [] := World.ownsRow_nil _ _ _ _
theorem add_mkS (b off k : Nat) : (⟨b, off, none⟩ : Addr).add k = ⟨b, off + k, none⟩ := by
  unfold Addr.add; split
  · next h => rw [h]; rfl
  · rfl
theorem SRow.secs {w : World} {n₀ : Nat} {v : Value} {M : List Sec} (h : SRow w n₀ v M) : ∃ a c, v = .slice a M.length c ∧ SecsAt w a M := by
  rcases h.2 with ⟨hv, h1⟩ | ⟨g, cap, cur, hv, hb, hg, hnc, hcm, hcur, htake⟩
  · have hk0 : M = [] := List.eq_nil_of_length_eq_zero h1
    exact ⟨none, 0, by rw [hv, hk0]; rfl, .inl hk0⟩
  · refine ⟨some ⟨g, 0, none⟩, cap, hv, ?_⟩
    refine .inr ⟨g, 0, rfl, (Array.getElem?_eq_some_iff.1 hg).1, fun i x hi => ?_⟩
    obtain ⟨a, b⟩ := secRow_get M i x hi
    have hc := World.ownsRow.cells h (g := g) (by rw [hv]; rfl)
    have e1 := hc _ _ a
    have e2 := hc _ _ b
    rw [add_mkS] at e1 e2
    rw [Nat.zero_add] at e1 e2 ⊢
    exact ⟨e1, e2⟩
def twoS (w : World) (g : Nat) (x : Sec) : Prop := w.heap[g]? = some (.cells #[.int .i64 x.1, .string x.2] 36 (0, 0))
theorem twoS.cells {w : World} {g : Nat} {x : Sec} (h : twoS w g x) : w.cell? ⟨g, 0, none⟩ = some (.int .i64 x.1) ∧ w.cell? ⟨g, 1, none⟩ = some (.string x.2) := by
  unfold World.cell?
  rw [show w.heap[g]? = _ from h]
  exact ⟨rfl, rfl⟩
theorem append_sec {w : World} {ops : Array Oper} {rest : List Oper} {o : Oper} {act : Act} {Q : Exit → Act → World → Prop} (hgd : o.guard = none) (s x : Operand)
    (ho : o.op = .call { callee := .builtin .append, args := #[s, x], argTypes := #[22, 22] }) (n₀ : Nat) (v : Value) (M : List Sec) (hs : act.eval s = v) (hown : SRow w n₀ v M)
    (g0 : Nat) (y : Sec) (hx : act.eval x = .slice (some ⟨g0, 0, none⟩) 1 1) (hg : twoS w g0 y) (hle : M.length + 1 ≤ 10000000) (hb : n₀ ≤ w.heap.size)
    (h : ∀ v' w', SRow w' n₀ v' (M ++ [y]) → w.grownBy w' v.ownBlock → Below n₀ w w' → wpList Try.prog ops Q rest (act.put o.dst v') w') : wpList Try.prog ops Q (o :: rest) act w := by
  obtain ⟨i, z, hi, hz, hsz, hby, hzs⟩ := zeroSec
  refine wpList_append_own _ hgd s x 22 ho n₀ 36 i z 2 24 Try.underlying22 hi hz hsz hby hzs (by decide) v M.length (secRow M) hs hown ⟨g0, 0, none⟩ 1 1 [.int .i64 y.1, .string y.2] hx rfl ?_ (fun u hu => ?_) (by unfold maxLen; omega) (by omega) hb (fun v' w' hown' hgr _ => h v' w' ?_ hgr ?_)
  · intro j u hj
    obtain ⟨c0, c1⟩ := hg.cells
    rw [add_mkS, Nat.zero_add]
    match j, hj with
    | 0, hj => simp at hj; subst hj; exact c0
    | 1, hj => simp at hj; subst hj; exact c1
  · simp only [List.mem_cons, List.not_mem_nil, or_false] at hu
    rcases hu with rfl | rfl <;> rfl
  · unfold SRow
    rw [secRow_snoc, List.length_append]
    exact hown'
  · exact (Below.refl n₀ w).grown hgr hb (fun k hk => (hown.lt k hk).1)
end Go.Proofs.Ytanbifhhoeaofaa

