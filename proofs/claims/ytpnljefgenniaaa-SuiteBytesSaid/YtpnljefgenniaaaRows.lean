/-
  No cell of these rows narrows 'for every input' (looked for: loops, veiled, ifaces, maps, wideKeys, modest, calm, conditions, laid).
  DERIVED. THE GIVEN ROWS OF THIS SEAT. 9 by the template 'for every input the law returns true; each argument reads behind the call as it read before'; 0 by the template 'total and deterministic' (their statements: YtpnljefgenniaaaTotals.lean).
  GIVEN WITH THE SEED: the statements are not yours to turn. If you find one false, say at which input.
  Laid BY PROGRAM, IN A SANDBOX (cutbox-rows.mjs): the forced cells as the released guide's own fill.sh prints them over the translation 172b2fa1a2f87e5c… (all of the seat's roots in one cut). By AI agents, Wed Nov 11 2026. No macro, syntax, notation, axiom, sorry.
-/
import Derived.Test.YtpnljefgenniaaaChecked
import GoSem.Claim
import GoSem.ClaimJoined
import GoSem.ClaimMapViews
import Derived.JoinedTies
import Derived.KernelRfl
namespace Go.Proofs.Ytpnljefgenniaaa
/- THE CELL 'sum', in the pinned program and in every row, IS THE sha256 OF THE DUMP (.gsa) THAT YtpnljefgenniaaaProg.lean LOADS. Nothing in Lean hashes anything: it is a label: what it is worth is what the hold of that sum in a sandbox is worth. -/
noncomputable def Try.pinned : Pinned := { name := "ytpnljefgenniaaa", sum := "172b2fa1a2f87e5c6aa6d5d84f1f3684f5aee1729675e12df20111fc642e82ea", checked := Try.checked }
namespace Rows
def none {H : Type} : Left H := { results := [], args := [] }

/-- 'offshootlaw05.WireWrites': WHATEVER THE INPUT: true; the input reads as it did. -/
def wireWritesSpec : ChangeSpec := { name := "wireWrites", fn := fun _ => fun
  | [d] => { results := [.lit (.bool true)], args := [d] }
  | _ => none }
def wireWritesRow : OpenClaim := { program := "ytpnljefgenniaaa", sum := "172b2fa1a2f87e5c6aa6d5d84f1f3684f5aee1729675e12df20111fc642e82ea", func := "offshoot/offshootlaw05.WireWrites", spec := "wireWrites", unfollowed := true, recurses := true, apart := false }
def WireWritesSaid : Prop := wireWritesRow.holds Try.pinned (OpenSpec.ofChange wireWritesSpec)

/-- ITS FALSE NEIGHBOUR: 'it returns false'. Refute it at one input. -/
def wireWritesWrong : ChangeSpec := { name := "wireWrites", fn := fun _ => fun
  | [d] => { results := [.lit (.bool false)], args := [d] }
  | _ => none }
def WireWritesWrongFalsely : Prop := wireWritesRow.holds Try.pinned (OpenSpec.ofChange wireWritesWrong)

/-- 'offshootlaw05.WireJoins': WHATEVER THE INPUT: true; the input reads as it did. -/
def wireJoinsSpec : ChangeSpec := { name := "wireJoins", fn := fun _ => fun
  | [d1, d2] => { results := [.lit (.bool true)], args := [d1, d2] }
  | _ => none }
def wireJoinsRow : OpenClaim := { program := "ytpnljefgenniaaa", sum := "172b2fa1a2f87e5c6aa6d5d84f1f3684f5aee1729675e12df20111fc642e82ea", func := "offshoot/offshootlaw05.WireJoins", spec := "wireJoins", unfollowed := true, recurses := true, apart := false }
def WireJoinsSaid : Prop := wireJoinsRow.holds Try.pinned (OpenSpec.ofChange wireJoinsSpec)

/-- ITS FALSE NEIGHBOUR: 'it returns false'. Refute it at one input. -/
def wireJoinsWrong : ChangeSpec := { name := "wireJoins", fn := fun _ => fun
  | [d1, d2] => { results := [.lit (.bool false)], args := [d1, d2] }
  | _ => none }
def WireJoinsWrongFalsely : Prop := wireJoinsRow.holds Try.pinned (OpenSpec.ofChange wireJoinsWrong)

/-- 'offshootlaw05.WireReads': WHATEVER THE INPUT: true; the input reads as it did. -/
def wireReadsSpec : ChangeSpec := { name := "wireReads", fn := fun _ => fun
  | [d1, d2] => { results := [.lit (.bool true)], args := [d1, d2] }
  | _ => none }
def wireReadsRow : OpenClaim := { program := "ytpnljefgenniaaa", sum := "172b2fa1a2f87e5c6aa6d5d84f1f3684f5aee1729675e12df20111fc642e82ea", func := "offshoot/offshootlaw05.WireReads", spec := "wireReads", unfollowed := true, recurses := true, apart := false }
def WireReadsSaid : Prop := wireReadsRow.holds Try.pinned (OpenSpec.ofChange wireReadsSpec)

/-- ITS FALSE NEIGHBOUR: 'it returns false'. Refute it at one input. -/
def wireReadsWrong : ChangeSpec := { name := "wireReads", fn := fun _ => fun
  | [d1, d2] => { results := [.lit (.bool false)], args := [d1, d2] }
  | _ => none }
def WireReadsWrongFalsely : Prop := wireReadsRow.holds Try.pinned (OpenSpec.ofChange wireReadsWrong)

/-- 'offshootlaw05.WireWrong': WHATEVER THE INPUT: true; the input reads as it did. -/
def wireWrongSpec : ChangeSpec := { name := "wireWrong", fn := fun _ => fun
  | [d1, d2, d3] => { results := [.lit (.bool true)], args := [d1, d2, d3] }
  | _ => none }
def wireWrongRow : OpenClaim := { program := "ytpnljefgenniaaa", sum := "172b2fa1a2f87e5c6aa6d5d84f1f3684f5aee1729675e12df20111fc642e82ea", func := "offshoot/offshootlaw05.WireWrong", spec := "wireWrong", unfollowed := true, recurses := true, apart := false }
def WireWrongSaid : Prop := wireWrongRow.holds Try.pinned (OpenSpec.ofChange wireWrongSpec)

/-- ITS FALSE NEIGHBOUR: 'it returns false'. Refute it at one input. -/
def wireWrongWrong : ChangeSpec := { name := "wireWrong", fn := fun _ => fun
  | [d1, d2, d3] => { results := [.lit (.bool false)], args := [d1, d2, d3] }
  | _ => none }
def WireWrongWrongFalsely : Prop := wireWrongRow.holds Try.pinned (OpenSpec.ofChange wireWrongWrong)

/-- 'offshootlaw05.WireBack': WHATEVER THE INPUT: true; the input reads as it did. -/
def wireBackSpec : ChangeSpec := { name := "wireBack", fn := fun _ => fun
  | [d1, d2] => { results := [.lit (.bool true)], args := [d1, d2] }
  | _ => none }
def wireBackRow : OpenClaim := { program := "ytpnljefgenniaaa", sum := "172b2fa1a2f87e5c6aa6d5d84f1f3684f5aee1729675e12df20111fc642e82ea", func := "offshoot/offshootlaw05.WireBack", spec := "wireBack", unfollowed := true, recurses := true, apart := false }
def WireBackSaid : Prop := wireBackRow.holds Try.pinned (OpenSpec.ofChange wireBackSpec)

/-- ITS FALSE NEIGHBOUR: 'it returns false'. Refute it at one input. -/
def wireBackWrong : ChangeSpec := { name := "wireBack", fn := fun _ => fun
  | [d1, d2] => { results := [.lit (.bool false)], args := [d1, d2] }
  | _ => none }
def WireBackWrongFalsely : Prop := wireBackRow.holds Try.pinned (OpenSpec.ofChange wireBackWrong)

/-- 'offshootlaw15.SuiteChecks': WHATEVER THE INPUT: true; the input reads as it did. -/
def suiteChecksSpec : ChangeSpec := { name := "suiteChecks", fn := fun _ => fun
  | [d1, d2, d3, d4] => { results := [.lit (.bool true)], args := [d1, d2, d3, d4] }
  | _ => none }
def suiteChecksRow : OpenClaim := { program := "ytpnljefgenniaaa", sum := "172b2fa1a2f87e5c6aa6d5d84f1f3684f5aee1729675e12df20111fc642e82ea", func := "offshoot/offshootlaw15.SuiteChecks", spec := "suiteChecks", unfollowed := true, recurses := true, apart := false }
def SuiteChecksSaid : Prop := suiteChecksRow.holds Try.pinned (OpenSpec.ofChange suiteChecksSpec)

/-- ITS FALSE NEIGHBOUR: 'it returns false'. Refute it at one input. -/
def suiteChecksWrong : ChangeSpec := { name := "suiteChecks", fn := fun _ => fun
  | [d1, d2, d3, d4] => { results := [.lit (.bool false)], args := [d1, d2, d3, d4] }
  | _ => none }
def SuiteChecksWrongFalsely : Prop := suiteChecksRow.holds Try.pinned (OpenSpec.ofChange suiteChecksWrong)

/-- 'offshootlaw15.SuiteBytes': WHATEVER THE INPUT: true; the input reads as it did. -/
def suiteBytesSpec : ChangeSpec := { name := "suiteBytes", fn := fun _ => fun
  | [d1, d2, d3] => { results := [.lit (.bool true)], args := [d1, d2, d3] }
  | _ => none }
def suiteBytesRow : OpenClaim := { program := "ytpnljefgenniaaa", sum := "172b2fa1a2f87e5c6aa6d5d84f1f3684f5aee1729675e12df20111fc642e82ea", func := "offshoot/offshootlaw15.SuiteBytes", spec := "suiteBytes", unfollowed := true, recurses := true, apart := false }
def SuiteBytesSaid : Prop := suiteBytesRow.holds Try.pinned (OpenSpec.ofChange suiteBytesSpec)

/-- ITS FALSE NEIGHBOUR: 'it returns false'. Refute it at one input. -/
def suiteBytesWrong : ChangeSpec := { name := "suiteBytes", fn := fun _ => fun
  | [d1, d2, d3] => { results := [.lit (.bool false)], args := [d1, d2, d3] }
  | _ => none }
def SuiteBytesWrongFalsely : Prop := suiteBytesRow.holds Try.pinned (OpenSpec.ofChange suiteBytesWrong)

/-- 'offshootlaw15.SuiteBack': WHATEVER THE INPUT: true; the input reads as it did. -/
def suiteBackSpec : ChangeSpec := { name := "suiteBack", fn := fun _ => fun
  | [d1, d2, d3] => { results := [.lit (.bool true)], args := [d1, d2, d3] }
  | _ => none }
def suiteBackRow : OpenClaim := { program := "ytpnljefgenniaaa", sum := "172b2fa1a2f87e5c6aa6d5d84f1f3684f5aee1729675e12df20111fc642e82ea", func := "offshoot/offshootlaw15.SuiteBack", spec := "suiteBack", unfollowed := true, recurses := true, apart := false }
def SuiteBackSaid : Prop := suiteBackRow.holds Try.pinned (OpenSpec.ofChange suiteBackSpec)

/-- ITS FALSE NEIGHBOUR: 'it returns false'. Refute it at one input. -/
def suiteBackWrong : ChangeSpec := { name := "suiteBack", fn := fun _ => fun
  | [d1, d2, d3] => { results := [.lit (.bool false)], args := [d1, d2, d3] }
  | _ => none }
def SuiteBackWrongFalsely : Prop := suiteBackRow.holds Try.pinned (OpenSpec.ofChange suiteBackWrong)

/-- 'offshootlaw15.SuiteApart': WHATEVER THE INPUT: true; the input reads as it did. -/
def suiteApartSpec : ChangeSpec := { name := "suiteApart", fn := fun _ => fun
  | [d1, d2, d3, d4] => { results := [.lit (.bool true)], args := [d1, d2, d3, d4] }
  | _ => none }
def suiteApartRow : OpenClaim := { program := "ytpnljefgenniaaa", sum := "172b2fa1a2f87e5c6aa6d5d84f1f3684f5aee1729675e12df20111fc642e82ea", func := "offshoot/offshootlaw15.SuiteApart", spec := "suiteApart", unfollowed := true, recurses := true, apart := false }
def SuiteApartSaid : Prop := suiteApartRow.holds Try.pinned (OpenSpec.ofChange suiteApartSpec)

/-- ITS FALSE NEIGHBOUR: 'it returns false'. Refute it at one input. -/
def suiteApartWrong : ChangeSpec := { name := "suiteApart", fn := fun _ => fun
  | [d1, d2, d3, d4] => { results := [.lit (.bool false)], args := [d1, d2, d3, d4] }
  | _ => none }
def SuiteApartWrongFalsely : Prop := suiteApartRow.holds Try.pinned (OpenSpec.ofChange suiteApartWrong)

/- THE SECOND FORM. 'bulk': how many values and letters a reading holds, each counted each time it is reached (what is shared counts as often as it is met; a slice's spare places count too). A statement '..UptoSaid' is the law's where the arguments, and the package variables that the reading takes, are together of bulk at most 1048576: NARROWER than '..Said'. Prove '..Said' where nothing that the law and all that it calls make is longer than what came in: it says more and counts as full. Else prove '..UptoSaid'. A law counts once. -/
mutual
def uptoBulk {H : Type} : DataW H → Nat
  | .lit (.string bytes) => bytes.length + 1
  | .lit _ => 1
  | .nil => 1
  | .ptr d => uptoBulk d + 1
  | .slice elems spare => uptoBulkAll elems + uptoBulkAll spare + 1
  | .agg parts => uptoBulkAll parts + 1
  | .iface _ d => uptoBulk d + 1
  | .map entries => uptoBulkEntries entries + 1
  | .held _ => 1
def uptoBulkAll {H : Type} : List (DataW H) → Nat
  | [] => 0
  | d :: r => uptoBulk d + uptoBulkAll r
def uptoBulkEntries {H : Type} : List (Lit × DataW H) → Nat
  | [] => 0
  | x :: r => uptoBulkEntry x + uptoBulkEntries r
def uptoBulkEntry {H : Type} : Lit × DataW H → Nat
  | (.string bytes, d) => bytes.length + uptoBulk d + 1
  | (_, d) => uptoBulk d + 1
 end
def uptoSmall : (H : Type) → List (DataW H) → Bool := fun _ ds => decide (uptoBulkAll ds ≤ 1048576)
def OpenSpec.upto (s : _root_.Go.ChangeSpec) : _root_.Go.OpenSpec := { _root_.Go.OpenSpec.ofChange s with cond := some uptoSmall }

/-- 'offshootlaw05.WireWrites', WHERE WHAT IT READS IS OF BULK AT MOST 1048576: true; the input reads as it did. -/
def wireWritesUptoRow : OpenClaim := { program := "ytpnljefgenniaaa", sum := "172b2fa1a2f87e5c6aa6d5d84f1f3684f5aee1729675e12df20111fc642e82ea", func := "offshoot/offshootlaw05.WireWrites", spec := "wireWrites", unfollowed := true, recurses := true, apart := false, narrowed := true }
def WireWritesUptoSaid : Prop := wireWritesUptoRow.holds Try.pinned (OpenSpec.upto wireWritesSpec)

/-- 'offshootlaw05.WireJoins', WHERE WHAT IT READS IS OF BULK AT MOST 1048576: true; the input reads as it did. -/
def wireJoinsUptoRow : OpenClaim := { program := "ytpnljefgenniaaa", sum := "172b2fa1a2f87e5c6aa6d5d84f1f3684f5aee1729675e12df20111fc642e82ea", func := "offshoot/offshootlaw05.WireJoins", spec := "wireJoins", unfollowed := true, recurses := true, apart := false, narrowed := true }
def WireJoinsUptoSaid : Prop := wireJoinsUptoRow.holds Try.pinned (OpenSpec.upto wireJoinsSpec)

/-- 'offshootlaw05.WireReads', WHERE WHAT IT READS IS OF BULK AT MOST 1048576: true; the input reads as it did. -/
def wireReadsUptoRow : OpenClaim := { program := "ytpnljefgenniaaa", sum := "172b2fa1a2f87e5c6aa6d5d84f1f3684f5aee1729675e12df20111fc642e82ea", func := "offshoot/offshootlaw05.WireReads", spec := "wireReads", unfollowed := true, recurses := true, apart := false, narrowed := true }
def WireReadsUptoSaid : Prop := wireReadsUptoRow.holds Try.pinned (OpenSpec.upto wireReadsSpec)

/-- 'offshootlaw05.WireWrong', WHERE WHAT IT READS IS OF BULK AT MOST 1048576: true; the input reads as it did. -/
def wireWrongUptoRow : OpenClaim := { program := "ytpnljefgenniaaa", sum := "172b2fa1a2f87e5c6aa6d5d84f1f3684f5aee1729675e12df20111fc642e82ea", func := "offshoot/offshootlaw05.WireWrong", spec := "wireWrong", unfollowed := true, recurses := true, apart := false, narrowed := true }
def WireWrongUptoSaid : Prop := wireWrongUptoRow.holds Try.pinned (OpenSpec.upto wireWrongSpec)

/-- 'offshootlaw05.WireBack', WHERE WHAT IT READS IS OF BULK AT MOST 1048576: true; the input reads as it did. -/
def wireBackUptoRow : OpenClaim := { program := "ytpnljefgenniaaa", sum := "172b2fa1a2f87e5c6aa6d5d84f1f3684f5aee1729675e12df20111fc642e82ea", func := "offshoot/offshootlaw05.WireBack", spec := "wireBack", unfollowed := true, recurses := true, apart := false, narrowed := true }
def WireBackUptoSaid : Prop := wireBackUptoRow.holds Try.pinned (OpenSpec.upto wireBackSpec)

/-- 'offshootlaw15.SuiteChecks', WHERE WHAT IT READS IS OF BULK AT MOST 1048576: true; the input reads as it did. -/
def suiteChecksUptoRow : OpenClaim := { program := "ytpnljefgenniaaa", sum := "172b2fa1a2f87e5c6aa6d5d84f1f3684f5aee1729675e12df20111fc642e82ea", func := "offshoot/offshootlaw15.SuiteChecks", spec := "suiteChecks", unfollowed := true, recurses := true, apart := false, narrowed := true }
def SuiteChecksUptoSaid : Prop := suiteChecksUptoRow.holds Try.pinned (OpenSpec.upto suiteChecksSpec)

/-- 'offshootlaw15.SuiteBytes', WHERE WHAT IT READS IS OF BULK AT MOST 1048576: true; the input reads as it did. -/
def suiteBytesUptoRow : OpenClaim := { program := "ytpnljefgenniaaa", sum := "172b2fa1a2f87e5c6aa6d5d84f1f3684f5aee1729675e12df20111fc642e82ea", func := "offshoot/offshootlaw15.SuiteBytes", spec := "suiteBytes", unfollowed := true, recurses := true, apart := false, narrowed := true }
def SuiteBytesUptoSaid : Prop := suiteBytesUptoRow.holds Try.pinned (OpenSpec.upto suiteBytesSpec)

/-- 'offshootlaw15.SuiteBack', WHERE WHAT IT READS IS OF BULK AT MOST 1048576: true; the input reads as it did. -/
def suiteBackUptoRow : OpenClaim := { program := "ytpnljefgenniaaa", sum := "172b2fa1a2f87e5c6aa6d5d84f1f3684f5aee1729675e12df20111fc642e82ea", func := "offshoot/offshootlaw15.SuiteBack", spec := "suiteBack", unfollowed := true, recurses := true, apart := false, narrowed := true }
def SuiteBackUptoSaid : Prop := suiteBackUptoRow.holds Try.pinned (OpenSpec.upto suiteBackSpec)

/-- 'offshootlaw15.SuiteApart', WHERE WHAT IT READS IS OF BULK AT MOST 1048576: true; the input reads as it did. -/
def suiteApartUptoRow : OpenClaim := { program := "ytpnljefgenniaaa", sum := "172b2fa1a2f87e5c6aa6d5d84f1f3684f5aee1729675e12df20111fc642e82ea", func := "offshoot/offshootlaw15.SuiteApart", spec := "suiteApart", unfollowed := true, recurses := true, apart := false, narrowed := true }
def SuiteApartUptoSaid : Prop := suiteApartUptoRow.holds Try.pinned (OpenSpec.upto suiteApartSpec)

end Rows
end Go.Proofs.Ytpnljefgenniaaa
