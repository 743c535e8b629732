/-
  DERIVED. GIVEN WITH THE SEED: THE CARDS: each row of YtgmjilingndloaaGreatDoorRows.lean that lists a variable, with what it lists TIED to the program's text (the seventh form; the later family's looks); each row that meets fmt, with fmt's text TOLD by the authors' own Lean function (tested against real Go, not proved from fmt's source: count such statements apart). THE CARD IS WHAT COUNTS. Prove the row's statement (the work); the ties are given (YtgmjilingndloaaGreatDoorTie.lean); close each card by the builder's one call (the guide's Derived/Test/ToyasCard.lean, 'card_holds'). Laid BY PROGRAM, IN A SANDBOX (cutbox-door.mjs). By AI agents, Wed Nov 11 2026. No macro, syntax, notation, axiom, sorry.
-/
import Derived.Test.YtgmjilingndloaaGreatDoorRows
import GoSem.ClaimSeven
namespace Go.Proofs.YtgmjilingndloaaGreatDoor
namespace Rows

/-- THE TIED CARD OF 'offshoottop.TopFuel'. -/
def topFuelCard : Claim7 := { stood := { row := topFuelRow, standIns := [], harness := (true, "6c86fafecea6cf7135f44186261f5fc2b3313bdb89d94a04f32b57df66918f7b"), looks := true }, kinds := [], alts := [], laidByText := true, laidKinds := [.data, .data, .data, .handle], laidTests := true, laidLooks := .later }
def TopFuelCardSaid : Prop := Claim7.holds Tryz.pinned (.plain (OpenSpec.ofChange topFuelSpec)) topFuelCard

/-- THE TIED CARD OF 'offshoottop.TopTests'. -/
def topTestsCard : Claim7 := { stood := { row := topTestsRow, standIns := [], harness := (true, "6c86fafecea6cf7135f44186261f5fc2b3313bdb89d94a04f32b57df66918f7b"), looks := true }, kinds := [], alts := [], laidByText := true, laidKinds := [.data, .data, .data, .handle], laidTests := true, laidLooks := .later }
def TopTestsCardSaid : Prop := Claim7.holds Tryz.pinned (.plain (OpenSpec.ofChange topTestsSpec)) topTestsCard

/-- THE SECOND FORM's CARD OF 'offshoottop.TopFuel'. -/
def topFuelUptoCard : Claim7 := { stood := { row := topFuelUptoRow, standIns := [], harness := (true, "6c86fafecea6cf7135f44186261f5fc2b3313bdb89d94a04f32b57df66918f7b"), looks := true }, kinds := [], alts := [], laidByText := true, laidKinds := [.data, .data, .data, .handle], laidTests := true, laidLooks := .later }
def TopFuelUptoCardSaid : Prop := Claim7.holds Tryz.pinned (.plain (OpenSpec.upto topFuelSpec)) topFuelUptoCard

/-- THE SECOND FORM's CARD OF 'offshoottop.TopTests'. -/
def topTestsUptoCard : Claim7 := { stood := { row := topTestsUptoRow, standIns := [], harness := (true, "6c86fafecea6cf7135f44186261f5fc2b3313bdb89d94a04f32b57df66918f7b"), looks := true }, kinds := [], alts := [], laidByText := true, laidKinds := [.data, .data, .data, .handle], laidTests := true, laidLooks := .later }
def TopTestsUptoCardSaid : Prop := Claim7.holds Tryz.pinned (.plain (OpenSpec.upto topTestsSpec)) topTestsUptoCard
end Rows
end Go.Proofs.YtgmjilingndloaaGreatDoor
