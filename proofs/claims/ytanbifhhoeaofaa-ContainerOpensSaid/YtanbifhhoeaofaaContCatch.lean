/- The deferred closures of Seal and Open: where the frame panics with an error, and where it does not. No conditions. -/
import Derived.Test.YtanbifhhoeaofaaRows
import Derived.Tactics
import Derived.Tactics2
import Derived.Defers
import Derived.Recover
import Derived.Laws.Pointers
import Derived.WalkKit
import Derived.Below
namespace Go.Proofs.Ytanbifhhoeaofaa
set_option linter.unusedVariables false
open Go Go.RowKit

theorem assert_err (k : Int) (w : World) : (Instr.typeAssert (.iface 25 (.int .i64 k)) 20 25 true).run Try.prog w = .ok (.tuple #[.int .i64 k, .bool true]) w := by
  simp [Instr.typeAssert, go_sem]
theorem zero_err : (Try.prog.info? 25).map (·.zero) = some (some (.int .i64 0)) := by kernel_rfl
theorem assert_nil (w : World) : (Instr.typeAssert .nilIface 20 25 true).run Try.prog w = .ok (.tuple #[.int .i64 0, .bool false]) w := by
  have hz := zero_err
  simp [Instr.typeAssert, go_sem]
theorem sealCatch_panics (p q : Addr) (x : ByteArray) (y : Int) (k : Int) (older : List PanicEntry) (w : World) (hc : w.cell? p = some (.string x)) (hz : w.frozen? p = false) (hd : (w.setCell p (.string ⟨#[]⟩)).cell? q = some (.int .i64 y)) (hy : (w.setCell p (.string ⟨#[]⟩)).frozen? q = false) :
    CallsD Try.prog 21 #[.pointer (some p), .pointer (some q)] (.panicking ({ v := .iface 25 (.int .i64 k), recovered := false } :: older)) w fun e u' w' =>
      e = .returned (.tuple #[]) ∧ u' = .panicking ({ v := .iface 25 (.int .i64 k), recovered := true } :: older) ∧ w' = (w.setCell p (.string ⟨#[]⟩)).setCell q (.int .i64 k) := by
  refine callsD_of_wpS Try.func21 rfl fun c₀ cs hu => ?_
  simp only [Try.ntmps21, List.size_toArray, List.length_cons, List.length_nil, Nat.reduceAdd, Nat.reduceSub, Array.replicate_succ, Array.replicate_zero, List.push_toArray, List.append_toArray, List.nil_append, List.cons_append]
  apply wpS_seq
  apply wpS_region
  simp [wpOpsS, go_sem, recoverD, hu, Exit.thenS, assert_err]
  apply wpS_seq
  apply wpS_region
  simp [wpOpsS, go_sem, Exit.thenS]
  refine wpS_cond (t := true) (by simp [Act.eval]) ?_
  simp only [if_true]
  apply wpS_region
  simp [wpOpsS, go_sem, hc, hz, hd, hy, bodyPostS, results, Try.results21]
theorem sealCatch_idle (p q : Addr) (w : World) :
    CallsD Try.prog 21 #[.pointer (some p), .pointer (some q)] .returning w fun e u' w' => e = .returned (.tuple #[]) ∧ u' = .returning ∧ w' = w := by
  refine callsD_of_wpS Try.func21 rfl fun c₀ cs hu => ?_
  simp only [Try.ntmps21, List.size_toArray, List.length_cons, List.length_nil, Nat.reduceAdd, Nat.reduceSub, Array.replicate_succ, Array.replicate_zero, List.push_toArray, List.append_toArray, List.nil_append, List.cons_append]
  apply wpS_seq
  apply wpS_region
  simp [wpOpsS, go_sem, recoverD, hu, Exit.thenS, assert_nil]
  apply wpS_seq
  apply wpS_region
  simp [wpOpsS, go_sem, Exit.thenS]
  refine wpS_cond (t := false) (by simp [Act.eval]) ?_
  simp only [Bool.false_eq_true, if_false]
  refine wpS_of_wp (wp_skip ?_)
  cases c₀
  simp_all [bodyPostS, results, Try.results21]
theorem openCatch_panics (p q : Addr) (v : Value) (y : Int) (k : Int) (older : List PanicEntry) (w : World) (hc : w.cell? p = some (v)) (hz : w.frozen? p = false) (hd : (w.setCell p (.slice none 0 0)).cell? q = some (.int .i64 y)) (hy : (w.setCell p (.slice none 0 0)).frozen? q = false) :
    CallsD Try.prog 37 #[.pointer (some p), .pointer (some q)] (.panicking ({ v := .iface 25 (.int .i64 k), recovered := false } :: older)) w fun e u' w' =>
      e = .returned (.tuple #[]) ∧ u' = .panicking ({ v := .iface 25 (.int .i64 k), recovered := true } :: older) ∧ w' = (w.setCell p (.slice none 0 0)).setCell q (.int .i64 k) := by
  refine callsD_of_wpS Try.func37 rfl fun c₀ cs hu => ?_
  simp only [Try.ntmps37, List.size_toArray, List.length_cons, List.length_nil, Nat.reduceAdd, Nat.reduceSub, Array.replicate_succ, Array.replicate_zero, List.push_toArray, List.append_toArray, List.nil_append, List.cons_append]
  apply wpS_seq
  apply wpS_region
  simp [wpOpsS, go_sem, recoverD, hu, Exit.thenS, assert_err]
  apply wpS_seq
  apply wpS_region
  simp [wpOpsS, go_sem, Exit.thenS]
  refine wpS_cond (t := true) (by simp [Act.eval]) ?_
  simp only [if_true]
  apply wpS_region
  simp [wpOpsS, go_sem, hc, hz, hd, hy, bodyPostS, results, Try.results37]
theorem openCatch_idle (p q : Addr) (w : World) :
    CallsD Try.prog 37 #[.pointer (some p), .pointer (some q)] .returning w fun e u' w' => e = .returned (.tuple #[]) ∧ u' = .returning ∧ w' = w := by
  refine callsD_of_wpS Try.func37 rfl fun c₀ cs hu => ?_
  simp only [Try.ntmps37, List.size_toArray, List.length_cons, List.length_nil, Nat.reduceAdd, Nat.reduceSub, Array.replicate_succ, Array.replicate_zero, List.push_toArray, List.append_toArray, List.nil_append, List.cons_append]
  apply wpS_seq
  apply wpS_region
  simp [wpOpsS, go_sem, recoverD, hu, Exit.thenS, assert_nil]
  apply wpS_seq
  apply wpS_region
  simp [wpOpsS, go_sem, Exit.thenS]
  refine wpS_cond (t := false) (by simp [Act.eval]) ?_
  simp only [Bool.false_eq_true, if_false]
  refine wpS_of_wp (wp_skip ?_)
  cases c₀
  simp_all [bodyPostS, results, Try.results37]
end Go.Proofs.Ytanbifhhoeaofaa

