/- ScoreOne: one mutant put behind a list, in whatever order: the invariant. No conditions. -/
import Derived.Test.YtbdmkgdgbpfhpaaW9
import Derived.Test.YtbdmkgdgbpfhpaaInv
import Derived.Deep.AppendLies
namespace Go.Proofs.Ytbdmkgdgbpfhpaa
set_option linter.unusedVariables false
open Go Go.RowKit

abbrev MRow (w : World) (n₀ : Nat) (v : Value) (n : Nat) (N : Nat → Mu) : Prop := w.ownsRow n₀ 39 8 v n (muRow N n)
theorem MRow.lt {w : World} {n₀ n : Nat} {v : Value} {N : Nat → Mu} (h : MRow w n₀ v n N) : ∀ k, v.ownBlock = some k → n₀ ≤ k ∧ k < w.heap.size := World.ownsRow.lt h
theorem MRow.at {w w' : World} {n₀ n : Nat} {v : Value} {N : Nat → Mu} (h : MRow w n₀ v n N) (hb : ∀ k, v.ownBlock = some k → w'.heap[k]? = w.heap[k]?) : MRow w' n₀ v n N := by
  refine ⟨h.1, ?_⟩
  rcases h.2 with hn | ⟨g, cap, cur, rfl, hg, hgg, rest⟩
  · exact .inl hn
  · exact .inr ⟨g, cap, cur, rfl, hg, by rw [hb g rfl]; exact hgg, rest⟩
theorem MRow.later {w w' : World} {n₀ n : Nat} {v : Value} {N : Nat → Mu} (h : MRow w n₀ v n N) (hb : Below w.heap.size w w') : MRow w' n₀ v n N := h.at fun k hk => hb.block k (h.lt k hk).2
theorem MRow.type {w : World} {n₀ n : Nat} {v : Value} {N : Nat → Mu} (h : MRow w n₀ v n N) {k : Nat} {cs : Array Value} (hk : w.heap[k]? = some (.cells cs 24 (0, 0))) : some k ≠ v.ownBlock := by
  intro e
  rcases h.2 with ⟨rfl, _⟩ | ⟨g, cap, cur, rfl, hg, hgg, rest⟩
  · simp [Value.ownBlock] at e
  · simp [Value.ownBlock] at e
    subst e
    rw [hk] at hgg
    simp at hgg
/-- 'append(own, src...)', at the operation -/
theorem wp_app {w : World} {o : Oper} {act : Act} {K : Act → World → Prop} {Q : Exit → Act → World → Prop} (s x : Operand)
    (ho : o.op = .call { callee := .builtin .append, args := #[s, x], argTypes := #[22, 22] }) (n₀ : Nat) (v : Value) (n : Nat) (N : Nat → Mu) (hs : act.eval s = v) (hown : MRow w n₀ v n N)
    (a : Option Addr) (m c : Nat) (M : Nat → Mu) (hx : act.eval x = .slice a m c) (hM : Muts w a m M) (hnil : a = none → m = 0 ∧ c = 0) (hle : n + m ≤ 2000) (hb : n₀ ≤ w.heap.size)
    (h : ∀ v' w', MRow w' n₀ v' (n + m) (both N M n) → w.grownBy w' v.ownBlock → (v'.ownBlock = v.ownBlock ∨ v'.ownBlock = some w.heap.size) → K (act.put o.dst v') w') : o.wp Try.prog act w K Q := by
  obtain ⟨i, z, hi, hz, hsz, hby, hzs⟩ := zero39
  cases a with
  | none =>
    obtain ⟨rfl, rfl⟩ := hnil rfl
    have hrun := run_append_owned_none (P := Try.prog) (w := w) n₀ 22 o.type 39 i 8 Try.underlying22 hi v n (muRow N n) hown
    unfold Oper.wp
    simp [execOp, ho, resolve, invoke, builtin, hs, hx, hrun, Result.andThen]
    refine h v w ?_ ⟨rfl, rfl, rfl, Nat.le_refl _, fun _ _ _ => rfl⟩ (.inl rfl)
    unfold MRow
    rw [← muRow_append, muRow_zero, List.append_nil]
    exact hown
  | some a =>
    obtain ⟨v', w', hr, h2, h3, _, h5⟩ := run_append_own_at (P := Try.prog) w n₀ 22 o.type 39 i z 8 88 Try.underlying22 hi hz hsz hby hzs (by decide) v n (muRow N n) hown a m c (muRow M m) (muRow_len M m) hM.row (muRow_one M m) (by unfold maxLen; omega) (by omega) hb
    unfold Oper.wp execOp
    simp only [ho, resolve, invoke, builtin, Sem.run_bind, Sem.run_pure, Result.andThen_ok, List.map_toArray, List.map_cons, List.map_nil, hs, hx, hr]
    refine h v' w' ?_ h3 ?_
    · unfold MRow; rw [← muRow_append]; exact h2
    · exact h5.imp (fun e => by rw [e]) (fun e => e)
end Go.Proofs.Ytbdmkgdgbpfhpaa
