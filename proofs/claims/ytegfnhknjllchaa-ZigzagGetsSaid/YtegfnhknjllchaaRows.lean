/-
  No cell of these rows narrows 'for every input' (looked for: loops, veiled, ifaces, maps, wideKeys, modest, calm, conditions, laid).
  DERIVED. THE GIVEN ROWS OF THIS SEAT. 12 by the template 'for every input the law returns true; each argument reads behind the call as it read before'; 0 by the template 'total and deterministic' (their statements: YtegfnhknjllchaaTotals.lean).
  GIVEN WITH THE SEED: the statements are not yours to turn. If you find one false, say at which input.
  Laid BY PROGRAM, IN A SANDBOX (cutbox-rows.mjs): the forced cells as the released guide's own fill.sh prints them over the translation b269fdc033630cc1… (all of the seat's roots in one cut). By AI agents, Wed Nov 11 2026. No macro, syntax, notation, axiom, sorry.
-/
import Derived.Test.YtegfnhknjllchaaChecked
import GoSem.Claim
import GoSem.ClaimJoined
import GoSem.ClaimMapViews
import Derived.JoinedTies
import Derived.KernelRfl
namespace Go.Proofs.Ytegfnhknjllchaa
/- THE CELL 'sum', in the pinned program and in every row, IS THE sha256 OF THE DUMP (.gsa) THAT YtegfnhknjllchaaProg.lean LOADS. Nothing in Lean hashes anything: it is a label: what it is worth is what the hold of that sum in a sandbox is worth. -/
noncomputable def Try.pinned : Pinned := { name := "ytegfnhknjllchaa", sum := "b269fdc033630cc1da5441873c77f09fbad2d67c4bfdc2a6dc991aea13de0166", checked := Try.checked }
namespace Rows
def none {H : Type} : Left H := { results := [], args := [] }

/-- 'offshootlaw01.LebPuts': WHATEVER THE INPUT: true; the input reads as it did. -/
def lebPutsSpec : ChangeSpec := { name := "lebPuts", fn := fun _ => fun
  | [d] => { results := [.lit (.bool true)], args := [d] }
  | _ => none }
def lebPutsRow : OpenClaim := { program := "ytegfnhknjllchaa", sum := "b269fdc033630cc1da5441873c77f09fbad2d67c4bfdc2a6dc991aea13de0166", func := "offshoot/offshootlaw01.LebPuts", spec := "lebPuts", unfollowed := true, recurses := true, apart := false }
def LebPutsSaid : Prop := lebPutsRow.holds Try.pinned (OpenSpec.ofChange lebPutsSpec)

/-- ITS FALSE NEIGHBOUR: 'it returns false'. Refute it at one input. -/
def lebPutsWrong : ChangeSpec := { name := "lebPuts", fn := fun _ => fun
  | [d] => { results := [.lit (.bool false)], args := [d] }
  | _ => none }
def LebPutsWrongFalsely : Prop := lebPutsRow.holds Try.pinned (OpenSpec.ofChange lebPutsWrong)

/-- 'offshootlaw01.LebGets': WHATEVER THE INPUT: true; the input reads as it did. -/
def lebGetsSpec : ChangeSpec := { name := "lebGets", fn := fun _ => fun
  | [d1, d2] => { results := [.lit (.bool true)], args := [d1, d2] }
  | _ => none }
def lebGetsRow : OpenClaim := { program := "ytegfnhknjllchaa", sum := "b269fdc033630cc1da5441873c77f09fbad2d67c4bfdc2a6dc991aea13de0166", func := "offshoot/offshootlaw01.LebGets", spec := "lebGets", unfollowed := true, recurses := true, apart := false }
def LebGetsSaid : Prop := lebGetsRow.holds Try.pinned (OpenSpec.ofChange lebGetsSpec)

/-- ITS FALSE NEIGHBOUR: 'it returns false'. Refute it at one input. -/
def lebGetsWrong : ChangeSpec := { name := "lebGets", fn := fun _ => fun
  | [d1, d2] => { results := [.lit (.bool false)], args := [d1, d2] }
  | _ => none }
def LebGetsWrongFalsely : Prop := lebGetsRow.holds Try.pinned (OpenSpec.ofChange lebGetsWrong)

/-- 'offshootlaw01.LebBack': WHATEVER THE INPUT: true; the input reads as it did. -/
def lebBackSpec : ChangeSpec := { name := "lebBack", fn := fun _ => fun
  | [d1, d2, d3] => { results := [.lit (.bool true)], args := [d1, d2, d3] }
  | _ => none }
def lebBackRow : OpenClaim := { program := "ytegfnhknjllchaa", sum := "b269fdc033630cc1da5441873c77f09fbad2d67c4bfdc2a6dc991aea13de0166", func := "offshoot/offshootlaw01.LebBack", spec := "lebBack", unfollowed := true, recurses := true, apart := false }
def LebBackSaid : Prop := lebBackRow.holds Try.pinned (OpenSpec.ofChange lebBackSpec)

/-- ITS FALSE NEIGHBOUR: 'it returns false'. Refute it at one input. -/
def lebBackWrong : ChangeSpec := { name := "lebBack", fn := fun _ => fun
  | [d1, d2, d3] => { results := [.lit (.bool false)], args := [d1, d2, d3] }
  | _ => none }
def LebBackWrongFalsely : Prop := lebBackRow.holds Try.pinned (OpenSpec.ofChange lebBackWrong)

/-- 'offshootlaw01.LebOnly': WHATEVER THE INPUT: true; the input reads as it did. -/
def lebOnlySpec : ChangeSpec := { name := "lebOnly", fn := fun _ => fun
  | [d1, d2] => { results := [.lit (.bool true)], args := [d1, d2] }
  | _ => none }
def lebOnlyRow : OpenClaim := { program := "ytegfnhknjllchaa", sum := "b269fdc033630cc1da5441873c77f09fbad2d67c4bfdc2a6dc991aea13de0166", func := "offshoot/offshootlaw01.LebOnly", spec := "lebOnly", unfollowed := true, recurses := true, apart := false }
def LebOnlySaid : Prop := lebOnlyRow.holds Try.pinned (OpenSpec.ofChange lebOnlySpec)

/-- ITS FALSE NEIGHBOUR: 'it returns false'. Refute it at one input. -/
def lebOnlyWrong : ChangeSpec := { name := "lebOnly", fn := fun _ => fun
  | [d1, d2] => { results := [.lit (.bool false)], args := [d1, d2] }
  | _ => none }
def LebOnlyWrongFalsely : Prop := lebOnlyRow.holds Try.pinned (OpenSpec.ofChange lebOnlyWrong)

/-- 'offshootlaw01.LebOrder': WHATEVER THE INPUT: true; the input reads as it did. -/
def lebOrderSpec : ChangeSpec := { name := "lebOrder", fn := fun _ => fun
  | [d1, d2] => { results := [.lit (.bool true)], args := [d1, d2] }
  | _ => none }
def lebOrderRow : OpenClaim := { program := "ytegfnhknjllchaa", sum := "b269fdc033630cc1da5441873c77f09fbad2d67c4bfdc2a6dc991aea13de0166", func := "offshoot/offshootlaw01.LebOrder", spec := "lebOrder", unfollowed := true, recurses := true, apart := false }
def LebOrderSaid : Prop := lebOrderRow.holds Try.pinned (OpenSpec.ofChange lebOrderSpec)

/-- ITS FALSE NEIGHBOUR: 'it returns false'. Refute it at one input. -/
def lebOrderWrong : ChangeSpec := { name := "lebOrder", fn := fun _ => fun
  | [d1, d2] => { results := [.lit (.bool false)], args := [d1, d2] }
  | _ => none }
def LebOrderWrongFalsely : Prop := lebOrderRow.holds Try.pinned (OpenSpec.ofChange lebOrderWrong)

/-- 'offshootlaw01.LebPrefix': WHATEVER THE INPUT: true; the input reads as it did. -/
def lebPrefixSpec : ChangeSpec := { name := "lebPrefix", fn := fun _ => fun
  | [d1, d2] => { results := [.lit (.bool true)], args := [d1, d2] }
  | _ => none }
def lebPrefixRow : OpenClaim := { program := "ytegfnhknjllchaa", sum := "b269fdc033630cc1da5441873c77f09fbad2d67c4bfdc2a6dc991aea13de0166", func := "offshoot/offshootlaw01.LebPrefix", spec := "lebPrefix", unfollowed := true, recurses := true, apart := false }
def LebPrefixSaid : Prop := lebPrefixRow.holds Try.pinned (OpenSpec.ofChange lebPrefixSpec)

/-- ITS FALSE NEIGHBOUR: 'it returns false'. Refute it at one input. -/
def lebPrefixWrong : ChangeSpec := { name := "lebPrefix", fn := fun _ => fun
  | [d1, d2] => { results := [.lit (.bool false)], args := [d1, d2] }
  | _ => none }
def LebPrefixWrongFalsely : Prop := lebPrefixRow.holds Try.pinned (OpenSpec.ofChange lebPrefixWrong)

/-- 'offshootlaw02.ZigzagTells': WHATEVER THE INPUT: true; the input reads as it did. -/
def zigzagTellsSpec : ChangeSpec := { name := "zigzagTells", fn := fun _ => fun
  | [d1, d2] => { results := [.lit (.bool true)], args := [d1, d2] }
  | _ => none }
def zigzagTellsRow : OpenClaim := { program := "ytegfnhknjllchaa", sum := "b269fdc033630cc1da5441873c77f09fbad2d67c4bfdc2a6dc991aea13de0166", func := "offshoot/offshootlaw02.ZigzagTells", spec := "zigzagTells", unfollowed := true, recurses := true, apart := false }
def ZigzagTellsSaid : Prop := zigzagTellsRow.holds Try.pinned (OpenSpec.ofChange zigzagTellsSpec)

/-- ITS FALSE NEIGHBOUR: 'it returns false'. Refute it at one input. -/
def zigzagTellsWrong : ChangeSpec := { name := "zigzagTells", fn := fun _ => fun
  | [d1, d2] => { results := [.lit (.bool false)], args := [d1, d2] }
  | _ => none }
def ZigzagTellsWrongFalsely : Prop := zigzagTellsRow.holds Try.pinned (OpenSpec.ofChange zigzagTellsWrong)

/-- 'offshootlaw02.ZigzagGets': WHATEVER THE INPUT: true; the input reads as it did. -/
def zigzagGetsSpec : ChangeSpec := { name := "zigzagGets", fn := fun _ => fun
  | [d1, d2] => { results := [.lit (.bool true)], args := [d1, d2] }
  | _ => none }
def zigzagGetsRow : OpenClaim := { program := "ytegfnhknjllchaa", sum := "b269fdc033630cc1da5441873c77f09fbad2d67c4bfdc2a6dc991aea13de0166", func := "offshoot/offshootlaw02.ZigzagGets", spec := "zigzagGets", unfollowed := true, recurses := true, apart := false }
def ZigzagGetsSaid : Prop := zigzagGetsRow.holds Try.pinned (OpenSpec.ofChange zigzagGetsSpec)

/-- ITS FALSE NEIGHBOUR: 'it returns false'. Refute it at one input. -/
def zigzagGetsWrong : ChangeSpec := { name := "zigzagGets", fn := fun _ => fun
  | [d1, d2] => { results := [.lit (.bool false)], args := [d1, d2] }
  | _ => none }
def ZigzagGetsWrongFalsely : Prop := zigzagGetsRow.holds Try.pinned (OpenSpec.ofChange zigzagGetsWrong)

/-- 'offshootlaw02.ZigzagEach': WHATEVER THE INPUT: true; the input reads as it did. -/
def zigzagEachSpec : ChangeSpec := { name := "zigzagEach", fn := fun _ => fun
  | [d1, d2] => { results := [.lit (.bool true)], args := [d1, d2] }
  | _ => none }
def zigzagEachRow : OpenClaim := { program := "ytegfnhknjllchaa", sum := "b269fdc033630cc1da5441873c77f09fbad2d67c4bfdc2a6dc991aea13de0166", func := "offshoot/offshootlaw02.ZigzagEach", spec := "zigzagEach", unfollowed := true, recurses := true, apart := false }
def ZigzagEachSaid : Prop := zigzagEachRow.holds Try.pinned (OpenSpec.ofChange zigzagEachSpec)

/-- ITS FALSE NEIGHBOUR: 'it returns false'. Refute it at one input. -/
def zigzagEachWrong : ChangeSpec := { name := "zigzagEach", fn := fun _ => fun
  | [d1, d2] => { results := [.lit (.bool false)], args := [d1, d2] }
  | _ => none }
def ZigzagEachWrongFalsely : Prop := zigzagEachRow.holds Try.pinned (OpenSpec.ofChange zigzagEachWrong)

/-- 'offshootlaw02.ZigzagBack': WHATEVER THE INPUT: true; the input reads as it did. -/
def zigzagBackSpec : ChangeSpec := { name := "zigzagBack", fn := fun _ => fun
  | [d1, d2, d3] => { results := [.lit (.bool true)], args := [d1, d2, d3] }
  | _ => none }
def zigzagBackRow : OpenClaim := { program := "ytegfnhknjllchaa", sum := "b269fdc033630cc1da5441873c77f09fbad2d67c4bfdc2a6dc991aea13de0166", func := "offshoot/offshootlaw02.ZigzagBack", spec := "zigzagBack", unfollowed := true, recurses := true, apart := false }
def ZigzagBackSaid : Prop := zigzagBackRow.holds Try.pinned (OpenSpec.ofChange zigzagBackSpec)

/-- ITS FALSE NEIGHBOUR: 'it returns false'. Refute it at one input. -/
def zigzagBackWrong : ChangeSpec := { name := "zigzagBack", fn := fun _ => fun
  | [d1, d2, d3] => { results := [.lit (.bool false)], args := [d1, d2, d3] }
  | _ => none }
def ZigzagBackWrongFalsely : Prop := zigzagBackRow.holds Try.pinned (OpenSpec.ofChange zigzagBackWrong)

/-- 'offshootlaw02.ZigzagOnly': WHATEVER THE INPUT: true; the input reads as it did. -/
def zigzagOnlySpec : ChangeSpec := { name := "zigzagOnly", fn := fun _ => fun
  | [d1, d2] => { results := [.lit (.bool true)], args := [d1, d2] }
  | _ => none }
def zigzagOnlyRow : OpenClaim := { program := "ytegfnhknjllchaa", sum := "b269fdc033630cc1da5441873c77f09fbad2d67c4bfdc2a6dc991aea13de0166", func := "offshoot/offshootlaw02.ZigzagOnly", spec := "zigzagOnly", unfollowed := true, recurses := true, apart := false }
def ZigzagOnlySaid : Prop := zigzagOnlyRow.holds Try.pinned (OpenSpec.ofChange zigzagOnlySpec)

/-- ITS FALSE NEIGHBOUR: 'it returns false'. Refute it at one input. -/
def zigzagOnlyWrong : ChangeSpec := { name := "zigzagOnly", fn := fun _ => fun
  | [d1, d2] => { results := [.lit (.bool false)], args := [d1, d2] }
  | _ => none }
def ZigzagOnlyWrongFalsely : Prop := zigzagOnlyRow.holds Try.pinned (OpenSpec.ofChange zigzagOnlyWrong)

/-- 'offshootlaw02.ZigzagNear': WHATEVER THE INPUT: true; the input reads as it did. -/
def zigzagNearSpec : ChangeSpec := { name := "zigzagNear", fn := fun _ => fun
  | [d1, d2] => { results := [.lit (.bool true)], args := [d1, d2] }
  | _ => none }
def zigzagNearRow : OpenClaim := { program := "ytegfnhknjllchaa", sum := "b269fdc033630cc1da5441873c77f09fbad2d67c4bfdc2a6dc991aea13de0166", func := "offshoot/offshootlaw02.ZigzagNear", spec := "zigzagNear", unfollowed := true, recurses := true, apart := false }
def ZigzagNearSaid : Prop := zigzagNearRow.holds Try.pinned (OpenSpec.ofChange zigzagNearSpec)

/-- ITS FALSE NEIGHBOUR: 'it returns false'. Refute it at one input. -/
def zigzagNearWrong : ChangeSpec := { name := "zigzagNear", fn := fun _ => fun
  | [d1, d2] => { results := [.lit (.bool false)], args := [d1, d2] }
  | _ => none }
def ZigzagNearWrongFalsely : Prop := zigzagNearRow.holds Try.pinned (OpenSpec.ofChange zigzagNearWrong)

/- THE SECOND FORM. 'bulk': how many values and letters a reading holds, each counted each time it is reached (what is shared counts as often as it is met; a slice's spare places count too). A statement '..UptoSaid' is the law's where the arguments, and the package variables that the reading takes, are together of bulk at most 1048576: NARROWER than '..Said'. Prove '..Said' where nothing that the law and all that it calls make is longer than what came in: it says more and counts as full. Else prove '..UptoSaid'. A law counts once. -/
mutual
def uptoBulk {H : Type} : DataW H → Nat
  | .lit (.string bytes) => bytes.length + 1
  | .lit _ => 1
  | .nil => 1
  | .ptr d => uptoBulk d + 1
  | .slice elems spare => uptoBulkAll elems + uptoBulkAll spare + 1
  | .agg parts => uptoBulkAll parts + 1
  | .iface _ d => uptoBulk d + 1
  | .map entries => uptoBulkEntries entries + 1
  | .held _ => 1
def uptoBulkAll {H : Type} : List (DataW H) → Nat
  | [] => 0
  | d :: r => uptoBulk d + uptoBulkAll r
def uptoBulkEntries {H : Type} : List (Lit × DataW H) → Nat
  | [] => 0
  | x :: r => uptoBulkEntry x + uptoBulkEntries r
def uptoBulkEntry {H : Type} : Lit × DataW H → Nat
  | (.string bytes, d) => bytes.length + uptoBulk d + 1
  | (_, d) => uptoBulk d + 1
 end
def uptoSmall : (H : Type) → List (DataW H) → Bool := fun _ ds => decide (uptoBulkAll ds ≤ 1048576)
def OpenSpec.upto (s : _root_.Go.ChangeSpec) : _root_.Go.OpenSpec := { _root_.Go.OpenSpec.ofChange s with cond := some uptoSmall }

/-- 'offshootlaw01.LebPuts', WHERE WHAT IT READS IS OF BULK AT MOST 1048576: true; the input reads as it did. -/
def lebPutsUptoRow : OpenClaim := { program := "ytegfnhknjllchaa", sum := "b269fdc033630cc1da5441873c77f09fbad2d67c4bfdc2a6dc991aea13de0166", func := "offshoot/offshootlaw01.LebPuts", spec := "lebPuts", unfollowed := true, recurses := true, apart := false, narrowed := true }
def LebPutsUptoSaid : Prop := lebPutsUptoRow.holds Try.pinned (OpenSpec.upto lebPutsSpec)

/-- 'offshootlaw01.LebGets', WHERE WHAT IT READS IS OF BULK AT MOST 1048576: true; the input reads as it did. -/
def lebGetsUptoRow : OpenClaim := { program := "ytegfnhknjllchaa", sum := "b269fdc033630cc1da5441873c77f09fbad2d67c4bfdc2a6dc991aea13de0166", func := "offshoot/offshootlaw01.LebGets", spec := "lebGets", unfollowed := true, recurses := true, apart := false, narrowed := true }
def LebGetsUptoSaid : Prop := lebGetsUptoRow.holds Try.pinned (OpenSpec.upto lebGetsSpec)

/-- 'offshootlaw01.LebBack', WHERE WHAT IT READS IS OF BULK AT MOST 1048576: true; the input reads as it did. -/
def lebBackUptoRow : OpenClaim := { program := "ytegfnhknjllchaa", sum := "b269fdc033630cc1da5441873c77f09fbad2d67c4bfdc2a6dc991aea13de0166", func := "offshoot/offshootlaw01.LebBack", spec := "lebBack", unfollowed := true, recurses := true, apart := false, narrowed := true }
def LebBackUptoSaid : Prop := lebBackUptoRow.holds Try.pinned (OpenSpec.upto lebBackSpec)

/-- 'offshootlaw01.LebOnly', WHERE WHAT IT READS IS OF BULK AT MOST 1048576: true; the input reads as it did. -/
def lebOnlyUptoRow : OpenClaim := { program := "ytegfnhknjllchaa", sum := "b269fdc033630cc1da5441873c77f09fbad2d67c4bfdc2a6dc991aea13de0166", func := "offshoot/offshootlaw01.LebOnly", spec := "lebOnly", unfollowed := true, recurses := true, apart := false, narrowed := true }
def LebOnlyUptoSaid : Prop := lebOnlyUptoRow.holds Try.pinned (OpenSpec.upto lebOnlySpec)

/-- 'offshootlaw01.LebOrder', WHERE WHAT IT READS IS OF BULK AT MOST 1048576: true; the input reads as it did. -/
def lebOrderUptoRow : OpenClaim := { program := "ytegfnhknjllchaa", sum := "b269fdc033630cc1da5441873c77f09fbad2d67c4bfdc2a6dc991aea13de0166", func := "offshoot/offshootlaw01.LebOrder", spec := "lebOrder", unfollowed := true, recurses := true, apart := false, narrowed := true }
def LebOrderUptoSaid : Prop := lebOrderUptoRow.holds Try.pinned (OpenSpec.upto lebOrderSpec)

/-- 'offshootlaw01.LebPrefix', WHERE WHAT IT READS IS OF BULK AT MOST 1048576: true; the input reads as it did. -/
def lebPrefixUptoRow : OpenClaim := { program := "ytegfnhknjllchaa", sum := "b269fdc033630cc1da5441873c77f09fbad2d67c4bfdc2a6dc991aea13de0166", func := "offshoot/offshootlaw01.LebPrefix", spec := "lebPrefix", unfollowed := true, recurses := true, apart := false, narrowed := true }
def LebPrefixUptoSaid : Prop := lebPrefixUptoRow.holds Try.pinned (OpenSpec.upto lebPrefixSpec)

/-- 'offshootlaw02.ZigzagTells', WHERE WHAT IT READS IS OF BULK AT MOST 1048576: true; the input reads as it did. -/
def zigzagTellsUptoRow : OpenClaim := { program := "ytegfnhknjllchaa", sum := "b269fdc033630cc1da5441873c77f09fbad2d67c4bfdc2a6dc991aea13de0166", func := "offshoot/offshootlaw02.ZigzagTells", spec := "zigzagTells", unfollowed := true, recurses := true, apart := false, narrowed := true }
def ZigzagTellsUptoSaid : Prop := zigzagTellsUptoRow.holds Try.pinned (OpenSpec.upto zigzagTellsSpec)

/-- 'offshootlaw02.ZigzagGets', WHERE WHAT IT READS IS OF BULK AT MOST 1048576: true; the input reads as it did. -/
def zigzagGetsUptoRow : OpenClaim := { program := "ytegfnhknjllchaa", sum := "b269fdc033630cc1da5441873c77f09fbad2d67c4bfdc2a6dc991aea13de0166", func := "offshoot/offshootlaw02.ZigzagGets", spec := "zigzagGets", unfollowed := true, recurses := true, apart := false, narrowed := true }
def ZigzagGetsUptoSaid : Prop := zigzagGetsUptoRow.holds Try.pinned (OpenSpec.upto zigzagGetsSpec)

/-- 'offshootlaw02.ZigzagEach', WHERE WHAT IT READS IS OF BULK AT MOST 1048576: true; the input reads as it did. -/
def zigzagEachUptoRow : OpenClaim := { program := "ytegfnhknjllchaa", sum := "b269fdc033630cc1da5441873c77f09fbad2d67c4bfdc2a6dc991aea13de0166", func := "offshoot/offshootlaw02.ZigzagEach", spec := "zigzagEach", unfollowed := true, recurses := true, apart := false, narrowed := true }
def ZigzagEachUptoSaid : Prop := zigzagEachUptoRow.holds Try.pinned (OpenSpec.upto zigzagEachSpec)

/-- 'offshootlaw02.ZigzagBack', WHERE WHAT IT READS IS OF BULK AT MOST 1048576: true; the input reads as it did. -/
def zigzagBackUptoRow : OpenClaim := { program := "ytegfnhknjllchaa", sum := "b269fdc033630cc1da5441873c77f09fbad2d67c4bfdc2a6dc991aea13de0166", func := "offshoot/offshootlaw02.ZigzagBack", spec := "zigzagBack", unfollowed := true, recurses := true, apart := false, narrowed := true }
def ZigzagBackUptoSaid : Prop := zigzagBackUptoRow.holds Try.pinned (OpenSpec.upto zigzagBackSpec)

/-- 'offshootlaw02.ZigzagOnly', WHERE WHAT IT READS IS OF BULK AT MOST 1048576: true; the input reads as it did. -/
def zigzagOnlyUptoRow : OpenClaim := { program := "ytegfnhknjllchaa", sum := "b269fdc033630cc1da5441873c77f09fbad2d67c4bfdc2a6dc991aea13de0166", func := "offshoot/offshootlaw02.ZigzagOnly", spec := "zigzagOnly", unfollowed := true, recurses := true, apart := false, narrowed := true }
def ZigzagOnlyUptoSaid : Prop := zigzagOnlyUptoRow.holds Try.pinned (OpenSpec.upto zigzagOnlySpec)

/-- 'offshootlaw02.ZigzagNear', WHERE WHAT IT READS IS OF BULK AT MOST 1048576: true; the input reads as it did. -/
def zigzagNearUptoRow : OpenClaim := { program := "ytegfnhknjllchaa", sum := "b269fdc033630cc1da5441873c77f09fbad2d67c4bfdc2a6dc991aea13de0166", func := "offshoot/offshootlaw02.ZigzagNear", spec := "zigzagNear", unfollowed := true, recurses := true, apart := false, narrowed := true }
def ZigzagNearUptoSaid : Prop := zigzagNearUptoRow.holds Try.pinned (OpenSpec.upto zigzagNearSpec)

end Rows
end Go.Proofs.Ytegfnhknjllchaa
