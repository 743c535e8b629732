/-
  No cell of these rows narrows 'for every input' (looked for: loops, veiled, ifaces, maps, wideKeys, modest, calm, conditions, laid).
  DERIVED. THE GIVEN ROWS OF THIS SEAT. 5 by the template 'for every input the law returns true; each argument reads behind the call as it read before'; 0 by the template 'total and deterministic' (their statements: YtbdmkgdgbpfhpaaTotals.lean).
  GIVEN WITH THE SEED: the statements are not yours to turn. If you find one false, say at which input.
  Laid BY PROGRAM, IN A SANDBOX (cutbox-rows.mjs): the forced cells as the released guide's own fill.sh prints them over the translation 4ef676e113b4fdb8… (all of the seat's roots in one cut). By AI agents, Wed Nov 11 2026. No macro, syntax, notation, axiom, sorry.
-/
import Derived.Test.YtbdmkgdgbpfhpaaChecked
import GoSem.Claim
import GoSem.ClaimJoined
import GoSem.ClaimMapViews
import Derived.JoinedTies
import Derived.KernelRfl
namespace Go.Proofs.Ytbdmkgdgbpfhpaa
/- THE CELL 'sum', in the pinned program and in every row, IS THE sha256 OF THE DUMP (.gsa) THAT YtbdmkgdgbpfhpaaProg.lean LOADS. Nothing in Lean hashes anything: it is a label: what it is worth is what the hold of that sum in a sandbox is worth. -/
noncomputable def Try.pinned : Pinned := { name := "ytbdmkgdgbpfhpaa", sum := "4ef676e113b4fdb87b54a76be29ec408338a4463fe853adaedaaa84c5be3ac07", checked := Try.checked }
namespace Rows
def none {H : Type} : Left H := { results := [], args := [] }

/-- 'offshootlaw20.ScoreOf': WHATEVER THE INPUT: true; the input reads as it did. -/
def scoreOfSpec : ChangeSpec := { name := "scoreOf", fn := fun _ => fun
  | [d1, d2] => { results := [.lit (.bool true)], args := [d1, d2] }
  | _ => none }
def scoreOfRow : OpenClaim := { program := "ytbdmkgdgbpfhpaa", sum := "4ef676e113b4fdb87b54a76be29ec408338a4463fe853adaedaaa84c5be3ac07", func := "offshoot/offshootlaw20.ScoreOf", spec := "scoreOf", unfollowed := true, recurses := true, apart := false }
def ScoreOfSaid : Prop := scoreOfRow.holds Try.pinned (OpenSpec.ofChange scoreOfSpec)

/-- ITS FALSE NEIGHBOUR: 'it returns false'. Refute it at one input. -/
def scoreOfWrong : ChangeSpec := { name := "scoreOf", fn := fun _ => fun
  | [d1, d2] => { results := [.lit (.bool false)], args := [d1, d2] }
  | _ => none }
def ScoreOfWrongFalsely : Prop := scoreOfRow.holds Try.pinned (OpenSpec.ofChange scoreOfWrong)

/-- 'offshootlaw20.ScoreJoins': WHATEVER THE INPUT: true; the input reads as it did. -/
def scoreJoinsSpec : ChangeSpec := { name := "scoreJoins", fn := fun _ => fun
  | [d1, d2] => { results := [.lit (.bool true)], args := [d1, d2] }
  | _ => none }
def scoreJoinsRow : OpenClaim := { program := "ytbdmkgdgbpfhpaa", sum := "4ef676e113b4fdb87b54a76be29ec408338a4463fe853adaedaaa84c5be3ac07", func := "offshoot/offshootlaw20.ScoreJoins", spec := "scoreJoins", unfollowed := true, recurses := true, apart := false }
def ScoreJoinsSaid : Prop := scoreJoinsRow.holds Try.pinned (OpenSpec.ofChange scoreJoinsSpec)

/-- ITS FALSE NEIGHBOUR: 'it returns false'. Refute it at one input. -/
def scoreJoinsWrong : ChangeSpec := { name := "scoreJoins", fn := fun _ => fun
  | [d1, d2] => { results := [.lit (.bool false)], args := [d1, d2] }
  | _ => none }
def ScoreJoinsWrongFalsely : Prop := scoreJoinsRow.holds Try.pinned (OpenSpec.ofChange scoreJoinsWrong)

/-- 'offshootlaw20.ScoreAdds': WHATEVER THE INPUT: true; the input reads as it did. -/
def scoreAddsSpec : ChangeSpec := { name := "scoreAdds", fn := fun _ => fun
  | [d1, d2, d3] => { results := [.lit (.bool true)], args := [d1, d2, d3] }
  | _ => none }
def scoreAddsRow : OpenClaim := { program := "ytbdmkgdgbpfhpaa", sum := "4ef676e113b4fdb87b54a76be29ec408338a4463fe853adaedaaa84c5be3ac07", func := "offshoot/offshootlaw20.ScoreAdds", spec := "scoreAdds", unfollowed := true, recurses := true, apart := false }
def ScoreAddsSaid : Prop := scoreAddsRow.holds Try.pinned (OpenSpec.ofChange scoreAddsSpec)

/-- ITS FALSE NEIGHBOUR: 'it returns false'. Refute it at one input. -/
def scoreAddsWrong : ChangeSpec := { name := "scoreAdds", fn := fun _ => fun
  | [d1, d2, d3] => { results := [.lit (.bool false)], args := [d1, d2, d3] }
  | _ => none }
def ScoreAddsWrongFalsely : Prop := scoreAddsRow.holds Try.pinned (OpenSpec.ofChange scoreAddsWrong)

/-- 'offshootlaw20.ScoreMill': WHATEVER THE INPUT: true; the input reads as it did. -/
def scoreMillSpec : ChangeSpec := { name := "scoreMill", fn := fun _ => fun
  | [d] => { results := [.lit (.bool true)], args := [d] }
  | _ => none }
def scoreMillRow : OpenClaim := { program := "ytbdmkgdgbpfhpaa", sum := "4ef676e113b4fdb87b54a76be29ec408338a4463fe853adaedaaa84c5be3ac07", func := "offshoot/offshootlaw20.ScoreMill", spec := "scoreMill", unfollowed := true, recurses := true, apart := false }
def ScoreMillSaid : Prop := scoreMillRow.holds Try.pinned (OpenSpec.ofChange scoreMillSpec)

/-- ITS FALSE NEIGHBOUR: 'it returns false'. Refute it at one input. -/
def scoreMillWrong : ChangeSpec := { name := "scoreMill", fn := fun _ => fun
  | [d] => { results := [.lit (.bool false)], args := [d] }
  | _ => none }
def ScoreMillWrongFalsely : Prop := scoreMillRow.holds Try.pinned (OpenSpec.ofChange scoreMillWrong)

/-- 'offshootlaw20.ScoreOne': WHATEVER THE INPUT: true; the input reads as it did. -/
def scoreOneSpec : ChangeSpec := { name := "scoreOne", fn := fun _ => fun
  | [d1, d2] => { results := [.lit (.bool true)], args := [d1, d2] }
  | _ => none }
def scoreOneRow : OpenClaim := { program := "ytbdmkgdgbpfhpaa", sum := "4ef676e113b4fdb87b54a76be29ec408338a4463fe853adaedaaa84c5be3ac07", func := "offshoot/offshootlaw20.ScoreOne", spec := "scoreOne", unfollowed := true, recurses := true, apart := false }
def ScoreOneSaid : Prop := scoreOneRow.holds Try.pinned (OpenSpec.ofChange scoreOneSpec)

/-- ITS FALSE NEIGHBOUR: 'it returns false'. Refute it at one input. -/
def scoreOneWrong : ChangeSpec := { name := "scoreOne", fn := fun _ => fun
  | [d1, d2] => { results := [.lit (.bool false)], args := [d1, d2] }
  | _ => none }
def ScoreOneWrongFalsely : Prop := scoreOneRow.holds Try.pinned (OpenSpec.ofChange scoreOneWrong)

/- THE SECOND FORM. 'bulk': how many values and letters a reading holds, each counted each time it is reached (what is shared counts as often as it is met; a slice's spare places count too). A statement '..UptoSaid' is the law's where the arguments, and the package variables that the reading takes, are together of bulk at most 1048576: NARROWER than '..Said'. Prove '..Said' where nothing that the law and all that it calls make is longer than what came in: it says more and counts as full. Else prove '..UptoSaid'. A law counts once. -/
mutual
def uptoBulk {H : Type} : DataW H → Nat
  | .lit (.string bytes) => bytes.length + 1
  | .lit _ => 1
  | .nil => 1
  | .ptr d => uptoBulk d + 1
  | .slice elems spare => uptoBulkAll elems + uptoBulkAll spare + 1
  | .agg parts => uptoBulkAll parts + 1
  | .iface _ d => uptoBulk d + 1
  | .map entries => uptoBulkEntries entries + 1
  | .held _ => 1
def uptoBulkAll {H : Type} : List (DataW H) → Nat
  | [] => 0
  | d :: r => uptoBulk d + uptoBulkAll r
def uptoBulkEntries {H : Type} : List (Lit × DataW H) → Nat
  | [] => 0
  | x :: r => uptoBulkEntry x + uptoBulkEntries r
def uptoBulkEntry {H : Type} : Lit × DataW H → Nat
  | (.string bytes, d) => bytes.length + uptoBulk d + 1
  | (_, d) => uptoBulk d + 1
 end
def uptoSmall : (H : Type) → List (DataW H) → Bool := fun _ ds => decide (uptoBulkAll ds ≤ 1048576)
def OpenSpec.upto (s : _root_.Go.ChangeSpec) : _root_.Go.OpenSpec := { _root_.Go.OpenSpec.ofChange s with cond := some uptoSmall }

/-- 'offshootlaw20.ScoreOf', WHERE WHAT IT READS IS OF BULK AT MOST 1048576: true; the input reads as it did. -/
def scoreOfUptoRow : OpenClaim := { program := "ytbdmkgdgbpfhpaa", sum := "4ef676e113b4fdb87b54a76be29ec408338a4463fe853adaedaaa84c5be3ac07", func := "offshoot/offshootlaw20.ScoreOf", spec := "scoreOf", unfollowed := true, recurses := true, apart := false, narrowed := true }
def ScoreOfUptoSaid : Prop := scoreOfUptoRow.holds Try.pinned (OpenSpec.upto scoreOfSpec)

/-- 'offshootlaw20.ScoreJoins', WHERE WHAT IT READS IS OF BULK AT MOST 1048576: true; the input reads as it did. -/
def scoreJoinsUptoRow : OpenClaim := { program := "ytbdmkgdgbpfhpaa", sum := "4ef676e113b4fdb87b54a76be29ec408338a4463fe853adaedaaa84c5be3ac07", func := "offshoot/offshootlaw20.ScoreJoins", spec := "scoreJoins", unfollowed := true, recurses := true, apart := false, narrowed := true }
def ScoreJoinsUptoSaid : Prop := scoreJoinsUptoRow.holds Try.pinned (OpenSpec.upto scoreJoinsSpec)

/-- 'offshootlaw20.ScoreAdds', WHERE WHAT IT READS IS OF BULK AT MOST 1048576: true; the input reads as it did. -/
def scoreAddsUptoRow : OpenClaim := { program := "ytbdmkgdgbpfhpaa", sum := "4ef676e113b4fdb87b54a76be29ec408338a4463fe853adaedaaa84c5be3ac07", func := "offshoot/offshootlaw20.ScoreAdds", spec := "scoreAdds", unfollowed := true, recurses := true, apart := false, narrowed := true }
def ScoreAddsUptoSaid : Prop := scoreAddsUptoRow.holds Try.pinned (OpenSpec.upto scoreAddsSpec)

/-- 'offshootlaw20.ScoreMill', WHERE WHAT IT READS IS OF BULK AT MOST 1048576: true; the input reads as it did. -/
def scoreMillUptoRow : OpenClaim := { program := "ytbdmkgdgbpfhpaa", sum := "4ef676e113b4fdb87b54a76be29ec408338a4463fe853adaedaaa84c5be3ac07", func := "offshoot/offshootlaw20.ScoreMill", spec := "scoreMill", unfollowed := true, recurses := true, apart := false, narrowed := true }
def ScoreMillUptoSaid : Prop := scoreMillUptoRow.holds Try.pinned (OpenSpec.upto scoreMillSpec)

/-- 'offshootlaw20.ScoreOne', WHERE WHAT IT READS IS OF BULK AT MOST 1048576: true; the input reads as it did. -/
def scoreOneUptoRow : OpenClaim := { program := "ytbdmkgdgbpfhpaa", sum := "4ef676e113b4fdb87b54a76be29ec408338a4463fe853adaedaaa84c5be3ac07", func := "offshoot/offshootlaw20.ScoreOne", spec := "scoreOne", unfollowed := true, recurses := true, apart := false, narrowed := true }
def ScoreOneUptoSaid : Prop := scoreOneUptoRow.holds Try.pinned (OpenSpec.upto scoreOneSpec)

end Rows
end Go.Proofs.Ytbdmkgdgbpfhpaa
