/-
  No cell of these rows narrows 'for every input' (looked for: loops, veiled, ifaces, maps, wideKeys, modest, calm, conditions, laid).
  DERIVED. THE GIVEN ROWS OF THIS SEAT. 7 by the template 'for every input the law returns true; each argument reads behind the call as it read before'; 0 by the template 'total and deterministic' (their statements: YtanbifhhoeaofaaTotals.lean).
  GIVEN WITH THE SEED: the statements are not yours to turn. If you find one false, say at which input.
  Laid BY PROGRAM, IN A SANDBOX (cutbox-rows.mjs): the forced cells as the released guide's own fill.sh prints them over the translation 6b33245d0b4c46d6… (all of the seat's roots in one cut). By AI agents, Wed Nov 11 2026. No macro, syntax, notation, axiom, sorry.
-/
import Derived.Test.YtanbifhhoeaofaaChecked
import GoSem.Claim
import GoSem.ClaimJoined
import GoSem.ClaimMapViews
import Derived.JoinedTies
import Derived.KernelRfl
namespace Go.Proofs.Ytanbifhhoeaofaa
/- THE CELL 'sum', in the pinned program and in every row, IS THE sha256 OF THE DUMP (.gsa) THAT YtanbifhhoeaofaaProg.lean LOADS. Nothing in Lean hashes anything: it is a label: what it is worth is what the hold of that sum in a sandbox is worth. -/
noncomputable def Try.pinned : Pinned := { name := "ytanbifhhoeaofaa", sum := "6b33245d0b4c46d60b0c25211a733cb03b0eb2472caa693d57b8520f9364a54c", checked := Try.checked }
namespace Rows
def none {H : Type} : Left H := { results := [], args := [] }

/-- 'offshootlaw07.ContainerSeals': WHATEVER THE INPUT: true; the input reads as it did. -/
def containerSealsSpec : ChangeSpec := { name := "containerSeals", fn := fun _ => fun
  | [d] => { results := [.lit (.bool true)], args := [d] }
  | _ => none }
def containerSealsRow : OpenClaim := { program := "ytanbifhhoeaofaa", sum := "6b33245d0b4c46d60b0c25211a733cb03b0eb2472caa693d57b8520f9364a54c", func := "offshoot/offshootlaw07.ContainerSeals", spec := "containerSeals", inPlace := ["sync/atomic.LoadUint32", "(*internal/sync.Mutex).Lock", "internal/race.Disable", "sync/atomic.CompareAndSwapInt32", "internal/race.Enable", "internal/race.Acquire", "(*internal/sync.Mutex).lockSlow", "internal/sync.runtime_canSpin", "internal/sync.runtime_doSpin", "internal/sync.throw", "internal/sync.runtime_nanotime", "internal/sync.runtime_SemacquireMutex", "sync/atomic.AddInt32", "(*internal/sync.Mutex).Unlock", "internal/race.ReleaseMerge", "(*internal/sync.Mutex).unlockSlow", "internal/sync.fatal", "internal/sync.runtime_Semrelease", "sync/atomic.StoreUint32"], unfollowed := true, recurses := true, apart := false }
def ContainerSealsSaid : Prop := containerSealsRow.holds Try.pinned (OpenSpec.ofChange containerSealsSpec)

/-- ITS FALSE NEIGHBOUR: 'it returns false'. Refute it at one input. -/
def containerSealsWrong : ChangeSpec := { name := "containerSeals", fn := fun _ => fun
  | [d] => { results := [.lit (.bool false)], args := [d] }
  | _ => none }
def ContainerSealsWrongFalsely : Prop := containerSealsRow.holds Try.pinned (OpenSpec.ofChange containerSealsWrong)

/-- 'offshootlaw07.ContainerOpens': WHATEVER THE INPUT: true; the input reads as it did. -/
def containerOpensSpec : ChangeSpec := { name := "containerOpens", fn := fun _ => fun
  | [d] => { results := [.lit (.bool true)], args := [d] }
  | _ => none }
def containerOpensRow : OpenClaim := { program := "ytanbifhhoeaofaa", sum := "6b33245d0b4c46d60b0c25211a733cb03b0eb2472caa693d57b8520f9364a54c", func := "offshoot/offshootlaw07.ContainerOpens", spec := "containerOpens", inPlace := ["sync/atomic.LoadUint32", "(*internal/sync.Mutex).Lock", "internal/race.Disable", "sync/atomic.CompareAndSwapInt32", "internal/race.Enable", "internal/race.Acquire", "(*internal/sync.Mutex).lockSlow", "internal/sync.runtime_canSpin", "internal/sync.runtime_doSpin", "internal/sync.throw", "internal/sync.runtime_nanotime", "internal/sync.runtime_SemacquireMutex", "sync/atomic.AddInt32", "(*internal/sync.Mutex).Unlock", "internal/race.ReleaseMerge", "(*internal/sync.Mutex).unlockSlow", "internal/sync.fatal", "internal/sync.runtime_Semrelease", "sync/atomic.StoreUint32"], unfollowed := true, recurses := true, apart := false }
def ContainerOpensSaid : Prop := containerOpensRow.holds Try.pinned (OpenSpec.ofChange containerOpensSpec)

/-- ITS FALSE NEIGHBOUR: 'it returns false'. Refute it at one input. -/
def containerOpensWrong : ChangeSpec := { name := "containerOpens", fn := fun _ => fun
  | [d] => { results := [.lit (.bool false)], args := [d] }
  | _ => none }
def ContainerOpensWrongFalsely : Prop := containerOpensRow.holds Try.pinned (OpenSpec.ofChange containerOpensWrong)

/-- 'offshootlaw07.ContainerBack': WHATEVER THE INPUT: true; the input reads as it did. -/
def containerBackSpec : ChangeSpec := { name := "containerBack", fn := fun _ => fun
  | [d] => { results := [.lit (.bool true)], args := [d] }
  | _ => none }
def containerBackRow : OpenClaim := { program := "ytanbifhhoeaofaa", sum := "6b33245d0b4c46d60b0c25211a733cb03b0eb2472caa693d57b8520f9364a54c", func := "offshoot/offshootlaw07.ContainerBack", spec := "containerBack", inPlace := ["sync/atomic.LoadUint32", "(*internal/sync.Mutex).Lock", "internal/race.Disable", "sync/atomic.CompareAndSwapInt32", "internal/race.Enable", "internal/race.Acquire", "(*internal/sync.Mutex).lockSlow", "internal/sync.runtime_canSpin", "internal/sync.runtime_doSpin", "internal/sync.throw", "internal/sync.runtime_nanotime", "internal/sync.runtime_SemacquireMutex", "sync/atomic.AddInt32", "(*internal/sync.Mutex).Unlock", "internal/race.ReleaseMerge", "(*internal/sync.Mutex).unlockSlow", "internal/sync.fatal", "internal/sync.runtime_Semrelease", "sync/atomic.StoreUint32"], unfollowed := true, recurses := true, apart := false }
def ContainerBackSaid : Prop := containerBackRow.holds Try.pinned (OpenSpec.ofChange containerBackSpec)

/-- ITS FALSE NEIGHBOUR: 'it returns false'. Refute it at one input. -/
def containerBackWrong : ChangeSpec := { name := "containerBack", fn := fun _ => fun
  | [d] => { results := [.lit (.bool false)], args := [d] }
  | _ => none }
def ContainerBackWrongFalsely : Prop := containerBackRow.holds Try.pinned (OpenSpec.ofChange containerBackWrong)

/-- 'offshootlaw07.ContainerOnly': WHATEVER THE INPUT: true; the input reads as it did. -/
def containerOnlySpec : ChangeSpec := { name := "containerOnly", fn := fun _ => fun
  | [d] => { results := [.lit (.bool true)], args := [d] }
  | _ => none }
def containerOnlyRow : OpenClaim := { program := "ytanbifhhoeaofaa", sum := "6b33245d0b4c46d60b0c25211a733cb03b0eb2472caa693d57b8520f9364a54c", func := "offshoot/offshootlaw07.ContainerOnly", spec := "containerOnly", inPlace := ["sync/atomic.LoadUint32", "(*internal/sync.Mutex).Lock", "internal/race.Disable", "sync/atomic.CompareAndSwapInt32", "internal/race.Enable", "internal/race.Acquire", "(*internal/sync.Mutex).lockSlow", "internal/sync.runtime_canSpin", "internal/sync.runtime_doSpin", "internal/sync.throw", "internal/sync.runtime_nanotime", "internal/sync.runtime_SemacquireMutex", "sync/atomic.AddInt32", "(*internal/sync.Mutex).Unlock", "internal/race.ReleaseMerge", "(*internal/sync.Mutex).unlockSlow", "internal/sync.fatal", "internal/sync.runtime_Semrelease", "sync/atomic.StoreUint32"], unfollowed := true, recurses := true, apart := false }
def ContainerOnlySaid : Prop := containerOnlyRow.holds Try.pinned (OpenSpec.ofChange containerOnlySpec)

/-- ITS FALSE NEIGHBOUR: 'it returns false'. Refute it at one input. -/
def containerOnlyWrong : ChangeSpec := { name := "containerOnly", fn := fun _ => fun
  | [d] => { results := [.lit (.bool false)], args := [d] }
  | _ => none }
def ContainerOnlyWrongFalsely : Prop := containerOnlyRow.holds Try.pinned (OpenSpec.ofChange containerOnlyWrong)

/-- 'offshootlaw07.ContainerBursts': WHATEVER THE INPUT: true; the input reads as it did. -/
def containerBurstsSpec : ChangeSpec := { name := "containerBursts", fn := fun _ => fun
  | [d1, d2, d3, d4] => { results := [.lit (.bool true)], args := [d1, d2, d3, d4] }
  | _ => none }
def containerBurstsRow : OpenClaim := { program := "ytanbifhhoeaofaa", sum := "6b33245d0b4c46d60b0c25211a733cb03b0eb2472caa693d57b8520f9364a54c", func := "offshoot/offshootlaw07.ContainerBursts", spec := "containerBursts", inPlace := ["sync/atomic.LoadUint32", "(*internal/sync.Mutex).Lock", "internal/race.Disable", "sync/atomic.CompareAndSwapInt32", "internal/race.Enable", "internal/race.Acquire", "(*internal/sync.Mutex).lockSlow", "internal/sync.runtime_canSpin", "internal/sync.runtime_doSpin", "internal/sync.throw", "internal/sync.runtime_nanotime", "internal/sync.runtime_SemacquireMutex", "sync/atomic.AddInt32", "(*internal/sync.Mutex).Unlock", "internal/race.ReleaseMerge", "(*internal/sync.Mutex).unlockSlow", "internal/sync.fatal", "internal/sync.runtime_Semrelease", "sync/atomic.StoreUint32"], unfollowed := true, recurses := true, apart := false }
def ContainerBurstsSaid : Prop := containerBurstsRow.holds Try.pinned (OpenSpec.ofChange containerBurstsSpec)

/-- ITS FALSE NEIGHBOUR: 'it returns false'. Refute it at one input. -/
def containerBurstsWrong : ChangeSpec := { name := "containerBursts", fn := fun _ => fun
  | [d1, d2, d3, d4] => { results := [.lit (.bool false)], args := [d1, d2, d3, d4] }
  | _ => none }
def ContainerBurstsWrongFalsely : Prop := containerBurstsRow.holds Try.pinned (OpenSpec.ofChange containerBurstsWrong)

/-- 'offshootlaw07.ContainerCut': WHATEVER THE INPUT: true; the input reads as it did. -/
def containerCutSpec : ChangeSpec := { name := "containerCut", fn := fun _ => fun
  | [d1, d2, d3] => { results := [.lit (.bool true)], args := [d1, d2, d3] }
  | _ => none }
def containerCutRow : OpenClaim := { program := "ytanbifhhoeaofaa", sum := "6b33245d0b4c46d60b0c25211a733cb03b0eb2472caa693d57b8520f9364a54c", func := "offshoot/offshootlaw07.ContainerCut", spec := "containerCut", inPlace := ["sync/atomic.LoadUint32", "(*internal/sync.Mutex).Lock", "internal/race.Disable", "sync/atomic.CompareAndSwapInt32", "internal/race.Enable", "internal/race.Acquire", "(*internal/sync.Mutex).lockSlow", "internal/sync.runtime_canSpin", "internal/sync.runtime_doSpin", "internal/sync.throw", "internal/sync.runtime_nanotime", "internal/sync.runtime_SemacquireMutex", "sync/atomic.AddInt32", "(*internal/sync.Mutex).Unlock", "internal/race.ReleaseMerge", "(*internal/sync.Mutex).unlockSlow", "internal/sync.fatal", "internal/sync.runtime_Semrelease", "sync/atomic.StoreUint32"], unfollowed := true, recurses := true, apart := false }
def ContainerCutSaid : Prop := containerCutRow.holds Try.pinned (OpenSpec.ofChange containerCutSpec)

/-- ITS FALSE NEIGHBOUR: 'it returns false'. Refute it at one input. -/
def containerCutWrong : ChangeSpec := { name := "containerCut", fn := fun _ => fun
  | [d1, d2, d3] => { results := [.lit (.bool false)], args := [d1, d2, d3] }
  | _ => none }
def ContainerCutWrongFalsely : Prop := containerCutRow.holds Try.pinned (OpenSpec.ofChange containerCutWrong)

/-- 'offshootlaw07.ContainerApart': WHATEVER THE INPUT: true; the input reads as it did. -/
def containerApartSpec : ChangeSpec := { name := "containerApart", fn := fun _ => fun
  | [d1, d2] => { results := [.lit (.bool true)], args := [d1, d2] }
  | _ => none }
def containerApartRow : OpenClaim := { program := "ytanbifhhoeaofaa", sum := "6b33245d0b4c46d60b0c25211a733cb03b0eb2472caa693d57b8520f9364a54c", func := "offshoot/offshootlaw07.ContainerApart", spec := "containerApart", inPlace := ["sync/atomic.LoadUint32", "(*internal/sync.Mutex).Lock", "internal/race.Disable", "sync/atomic.CompareAndSwapInt32", "internal/race.Enable", "internal/race.Acquire", "(*internal/sync.Mutex).lockSlow", "internal/sync.runtime_canSpin", "internal/sync.runtime_doSpin", "internal/sync.throw", "internal/sync.runtime_nanotime", "internal/sync.runtime_SemacquireMutex", "sync/atomic.AddInt32", "(*internal/sync.Mutex).Unlock", "internal/race.ReleaseMerge", "(*internal/sync.Mutex).unlockSlow", "internal/sync.fatal", "internal/sync.runtime_Semrelease", "sync/atomic.StoreUint32"], unfollowed := true, recurses := true, apart := false }
def ContainerApartSaid : Prop := containerApartRow.holds Try.pinned (OpenSpec.ofChange containerApartSpec)

/-- ITS FALSE NEIGHBOUR: 'it returns false'. Refute it at one input. -/
def containerApartWrong : ChangeSpec := { name := "containerApart", fn := fun _ => fun
  | [d1, d2] => { results := [.lit (.bool false)], args := [d1, d2] }
  | _ => none }
def ContainerApartWrongFalsely : Prop := containerApartRow.holds Try.pinned (OpenSpec.ofChange containerApartWrong)

/- THE SECOND FORM. 'bulk': how many values and letters a reading holds, each counted each time it is reached (what is shared counts as often as it is met; a slice's spare places count too). A statement '..UptoSaid' is the law's where the arguments, and the package variables that the reading takes, are together of bulk at most 1048576: NARROWER than '..Said'. Prove '..Said' where nothing that the law and all that it calls make is longer than what came in: it says more and counts as full. Else prove '..UptoSaid'. A law counts once. -/
mutual
def uptoBulk {H : Type} : DataW H → Nat
  | .lit (.string bytes) => bytes.length + 1
  | .lit _ => 1
  | .nil => 1
  | .ptr d => uptoBulk d + 1
  | .slice elems spare => uptoBulkAll elems + uptoBulkAll spare + 1
  | .agg parts => uptoBulkAll parts + 1
  | .iface _ d => uptoBulk d + 1
  | .map entries => uptoBulkEntries entries + 1
  | .held _ => 1
def uptoBulkAll {H : Type} : List (DataW H) → Nat
  | [] => 0
  | d :: r => uptoBulk d + uptoBulkAll r
def uptoBulkEntries {H : Type} : List (Lit × DataW H) → Nat
  | [] => 0
  | x :: r => uptoBulkEntry x + uptoBulkEntries r
def uptoBulkEntry {H : Type} : Lit × DataW H → Nat
  | (.string bytes, d) => bytes.length + uptoBulk d + 1
  | (_, d) => uptoBulk d + 1
 end
def uptoSmall : (H : Type) → List (DataW H) → Bool := fun _ ds => decide (uptoBulkAll ds ≤ 1048576)
def OpenSpec.upto (s : _root_.Go.ChangeSpec) : _root_.Go.OpenSpec := { _root_.Go.OpenSpec.ofChange s with cond := some uptoSmall }

/-- 'offshootlaw07.ContainerSeals', WHERE WHAT IT READS IS OF BULK AT MOST 1048576: true; the input reads as it did. -/
def containerSealsUptoRow : OpenClaim := { program := "ytanbifhhoeaofaa", sum := "6b33245d0b4c46d60b0c25211a733cb03b0eb2472caa693d57b8520f9364a54c", func := "offshoot/offshootlaw07.ContainerSeals", spec := "containerSeals", inPlace := ["sync/atomic.LoadUint32", "(*internal/sync.Mutex).Lock", "internal/race.Disable", "sync/atomic.CompareAndSwapInt32", "internal/race.Enable", "internal/race.Acquire", "(*internal/sync.Mutex).lockSlow", "internal/sync.runtime_canSpin", "internal/sync.runtime_doSpin", "internal/sync.throw", "internal/sync.runtime_nanotime", "internal/sync.runtime_SemacquireMutex", "sync/atomic.AddInt32", "(*internal/sync.Mutex).Unlock", "internal/race.ReleaseMerge", "(*internal/sync.Mutex).unlockSlow", "internal/sync.fatal", "internal/sync.runtime_Semrelease", "sync/atomic.StoreUint32"], unfollowed := true, recurses := true, apart := false, narrowed := true }
def ContainerSealsUptoSaid : Prop := containerSealsUptoRow.holds Try.pinned (OpenSpec.upto containerSealsSpec)

/-- 'offshootlaw07.ContainerOpens', WHERE WHAT IT READS IS OF BULK AT MOST 1048576: true; the input reads as it did. -/
def containerOpensUptoRow : OpenClaim := { program := "ytanbifhhoeaofaa", sum := "6b33245d0b4c46d60b0c25211a733cb03b0eb2472caa693d57b8520f9364a54c", func := "offshoot/offshootlaw07.ContainerOpens", spec := "containerOpens", inPlace := ["sync/atomic.LoadUint32", "(*internal/sync.Mutex).Lock", "internal/race.Disable", "sync/atomic.CompareAndSwapInt32", "internal/race.Enable", "internal/race.Acquire", "(*internal/sync.Mutex).lockSlow", "internal/sync.runtime_canSpin", "internal/sync.runtime_doSpin", "internal/sync.throw", "internal/sync.runtime_nanotime", "internal/sync.runtime_SemacquireMutex", "sync/atomic.AddInt32", "(*internal/sync.Mutex).Unlock", "internal/race.ReleaseMerge", "(*internal/sync.Mutex).unlockSlow", "internal/sync.fatal", "internal/sync.runtime_Semrelease", "sync/atomic.StoreUint32"], unfollowed := true, recurses := true, apart := false, narrowed := true }
def ContainerOpensUptoSaid : Prop := containerOpensUptoRow.holds Try.pinned (OpenSpec.upto containerOpensSpec)

/-- 'offshootlaw07.ContainerBack', WHERE WHAT IT READS IS OF BULK AT MOST 1048576: true; the input reads as it did. -/
def containerBackUptoRow : OpenClaim := { program := "ytanbifhhoeaofaa", sum := "6b33245d0b4c46d60b0c25211a733cb03b0eb2472caa693d57b8520f9364a54c", func := "offshoot/offshootlaw07.ContainerBack", spec := "containerBack", inPlace := ["sync/atomic.LoadUint32", "(*internal/sync.Mutex).Lock", "internal/race.Disable", "sync/atomic.CompareAndSwapInt32", "internal/race.Enable", "internal/race.Acquire", "(*internal/sync.Mutex).lockSlow", "internal/sync.runtime_canSpin", "internal/sync.runtime_doSpin", "internal/sync.throw", "internal/sync.runtime_nanotime", "internal/sync.runtime_SemacquireMutex", "sync/atomic.AddInt32", "(*internal/sync.Mutex).Unlock", "internal/race.ReleaseMerge", "(*internal/sync.Mutex).unlockSlow", "internal/sync.fatal", "internal/sync.runtime_Semrelease", "sync/atomic.StoreUint32"], unfollowed := true, recurses := true, apart := false, narrowed := true }
def ContainerBackUptoSaid : Prop := containerBackUptoRow.holds Try.pinned (OpenSpec.upto containerBackSpec)

/-- 'offshootlaw07.ContainerOnly', WHERE WHAT IT READS IS OF BULK AT MOST 1048576: true; the input reads as it did. -/
def containerOnlyUptoRow : OpenClaim := { program := "ytanbifhhoeaofaa", sum := "6b33245d0b4c46d60b0c25211a733cb03b0eb2472caa693d57b8520f9364a54c", func := "offshoot/offshootlaw07.ContainerOnly", spec := "containerOnly", inPlace := ["sync/atomic.LoadUint32", "(*internal/sync.Mutex).Lock", "internal/race.Disable", "sync/atomic.CompareAndSwapInt32", "internal/race.Enable", "internal/race.Acquire", "(*internal/sync.Mutex).lockSlow", "internal/sync.runtime_canSpin", "internal/sync.runtime_doSpin", "internal/sync.throw", "internal/sync.runtime_nanotime", "internal/sync.runtime_SemacquireMutex", "sync/atomic.AddInt32", "(*internal/sync.Mutex).Unlock", "internal/race.ReleaseMerge", "(*internal/sync.Mutex).unlockSlow", "internal/sync.fatal", "internal/sync.runtime_Semrelease", "sync/atomic.StoreUint32"], unfollowed := true, recurses := true, apart := false, narrowed := true }
def ContainerOnlyUptoSaid : Prop := containerOnlyUptoRow.holds Try.pinned (OpenSpec.upto containerOnlySpec)

/-- 'offshootlaw07.ContainerBursts', WHERE WHAT IT READS IS OF BULK AT MOST 1048576: true; the input reads as it did. -/
def containerBurstsUptoRow : OpenClaim := { program := "ytanbifhhoeaofaa", sum := "6b33245d0b4c46d60b0c25211a733cb03b0eb2472caa693d57b8520f9364a54c", func := "offshoot/offshootlaw07.ContainerBursts", spec := "containerBursts", inPlace := ["sync/atomic.LoadUint32", "(*internal/sync.Mutex).Lock", "internal/race.Disable", "sync/atomic.CompareAndSwapInt32", "internal/race.Enable", "internal/race.Acquire", "(*internal/sync.Mutex).lockSlow", "internal/sync.runtime_canSpin", "internal/sync.runtime_doSpin", "internal/sync.throw", "internal/sync.runtime_nanotime", "internal/sync.runtime_SemacquireMutex", "sync/atomic.AddInt32", "(*internal/sync.Mutex).Unlock", "internal/race.ReleaseMerge", "(*internal/sync.Mutex).unlockSlow", "internal/sync.fatal", "internal/sync.runtime_Semrelease", "sync/atomic.StoreUint32"], unfollowed := true, recurses := true, apart := false, narrowed := true }
def ContainerBurstsUptoSaid : Prop := containerBurstsUptoRow.holds Try.pinned (OpenSpec.upto containerBurstsSpec)

/-- 'offshootlaw07.ContainerCut', WHERE WHAT IT READS IS OF BULK AT MOST 1048576: true; the input reads as it did. -/
def containerCutUptoRow : OpenClaim := { program := "ytanbifhhoeaofaa", sum := "6b33245d0b4c46d60b0c25211a733cb03b0eb2472caa693d57b8520f9364a54c", func := "offshoot/offshootlaw07.ContainerCut", spec := "containerCut", inPlace := ["sync/atomic.LoadUint32", "(*internal/sync.Mutex).Lock", "internal/race.Disable", "sync/atomic.CompareAndSwapInt32", "internal/race.Enable", "internal/race.Acquire", "(*internal/sync.Mutex).lockSlow", "internal/sync.runtime_canSpin", "internal/sync.runtime_doSpin", "internal/sync.throw", "internal/sync.runtime_nanotime", "internal/sync.runtime_SemacquireMutex", "sync/atomic.AddInt32", "(*internal/sync.Mutex).Unlock", "internal/race.ReleaseMerge", "(*internal/sync.Mutex).unlockSlow", "internal/sync.fatal", "internal/sync.runtime_Semrelease", "sync/atomic.StoreUint32"], unfollowed := true, recurses := true, apart := false, narrowed := true }
def ContainerCutUptoSaid : Prop := containerCutUptoRow.holds Try.pinned (OpenSpec.upto containerCutSpec)

/-- 'offshootlaw07.ContainerApart', WHERE WHAT IT READS IS OF BULK AT MOST 1048576: true; the input reads as it did. -/
def containerApartUptoRow : OpenClaim := { program := "ytanbifhhoeaofaa", sum := "6b33245d0b4c46d60b0c25211a733cb03b0eb2472caa693d57b8520f9364a54c", func := "offshoot/offshootlaw07.ContainerApart", spec := "containerApart", inPlace := ["sync/atomic.LoadUint32", "(*internal/sync.Mutex).Lock", "internal/race.Disable", "sync/atomic.CompareAndSwapInt32", "internal/race.Enable", "internal/race.Acquire", "(*internal/sync.Mutex).lockSlow", "internal/sync.runtime_canSpin", "internal/sync.runtime_doSpin", "internal/sync.throw", "internal/sync.runtime_nanotime", "internal/sync.runtime_SemacquireMutex", "sync/atomic.AddInt32", "(*internal/sync.Mutex).Unlock", "internal/race.ReleaseMerge", "(*internal/sync.Mutex).unlockSlow", "internal/sync.fatal", "internal/sync.runtime_Semrelease", "sync/atomic.StoreUint32"], unfollowed := true, recurses := true, apart := false, narrowed := true }
def ContainerApartUptoSaid : Prop := containerApartUptoRow.holds Try.pinned (OpenSpec.upto containerApartSpec)

end Rows
end Go.Proofs.Ytanbifhhoeaofaa
