/-
  DERIVED. GIVEN WITH THE SEED: THE CARDS: each row of YtokhibhmlninnaaGreatDoorRows.lean that lists a variable, with what it lists TIED to the program's text (the seventh form; the later family's looks); each row that meets fmt, with fmt's text TOLD by the authors' own Lean function (tested against real Go, not proved from fmt's source: count such statements apart). THE CARD IS WHAT COUNTS. Prove the row's statement (the work); the ties are given (YtokhibhmlninnaaGreatDoorTie.lean); close each card by the builder's one call (the guide's Derived/Test/ToyasCard.lean, 'card_holds'). Laid BY PROGRAM, IN A SANDBOX (cutbox-door.mjs). By AI agents, Wed Nov 11 2026. No macro, syntax, notation, axiom, sorry.
-/
import Derived.Test.YtokhibhmlninnaaGreatDoorRows
import GoSem.ClaimSeven
namespace Go.Proofs.YtokhibhmlninnaaGreatDoor
namespace Rows

/-- THE TIED CARD OF 'trefoillaw06.CodecPuts'. -/
def codecPutsCard : Claim7 := { stood := { row := codecPutsRow, standIns := [], harness := (true, "830e59e6d2891fddccf0a456e90912535420824883b263d2432590ef3bd6dcdb"), looks := true }, kinds := [], alts := [], laidByText := true, laidKinds := [.data, .data, .data, .handle], laidTests := true, laidLooks := .later }
def CodecPutsCardSaid : Prop := Claim7.holds Tryz.pinned (.plain (OpenSpec.ofChange codecPutsSpec)) codecPutsCard

/-- THE TIED CARD OF 'trefoillaw06.CodecGets'. -/
def codecGetsCard : Claim7 := { stood := { row := codecGetsRow, standIns := [], harness := (true, "830e59e6d2891fddccf0a456e90912535420824883b263d2432590ef3bd6dcdb"), looks := true }, kinds := [], alts := [], laidByText := true, laidKinds := [.data, .data, .data, .handle], laidTests := true, laidLooks := .later }
def CodecGetsCardSaid : Prop := Claim7.holds Tryz.pinned (.plain (OpenSpec.ofChange codecGetsSpec)) codecGetsCard

/-- THE TIED CARD OF 'trefoillaw06.CodecBack'. -/
def codecBackCard : Claim7 := { stood := { row := codecBackRow, standIns := [], harness := (true, "830e59e6d2891fddccf0a456e90912535420824883b263d2432590ef3bd6dcdb"), looks := true }, kinds := [], alts := [], laidByText := true, laidKinds := [.data, .data, .data, .handle], laidTests := true, laidLooks := .later }
def CodecBackCardSaid : Prop := Claim7.holds Tryz.pinned (.plain (OpenSpec.ofChange codecBackSpec)) codecBackCard

/-- THE TIED CARD OF 'trefoillaw06.CodecOnly'. -/
def codecOnlyCard : Claim7 := { stood := { row := codecOnlyRow, standIns := [], harness := (true, "830e59e6d2891fddccf0a456e90912535420824883b263d2432590ef3bd6dcdb"), looks := true }, kinds := [], alts := [], laidByText := true, laidKinds := [.data, .data, .data, .handle], laidTests := true, laidLooks := .later }
def CodecOnlyCardSaid : Prop := Claim7.holds Tryz.pinned (.plain (OpenSpec.ofChange codecOnlySpec)) codecOnlyCard

/-- THE SECOND FORM's CARD OF 'trefoillaw06.CodecPuts'. -/
def codecPutsUptoCard : Claim7 := { stood := { row := codecPutsUptoRow, standIns := [], harness := (true, "830e59e6d2891fddccf0a456e90912535420824883b263d2432590ef3bd6dcdb"), looks := true }, kinds := [], alts := [], laidByText := true, laidKinds := [.data, .data, .data, .handle], laidTests := true, laidLooks := .later }
def CodecPutsUptoCardSaid : Prop := Claim7.holds Tryz.pinned (.plain (OpenSpec.upto codecPutsSpec)) codecPutsUptoCard

/-- THE SECOND FORM's CARD OF 'trefoillaw06.CodecGets'. -/
def codecGetsUptoCard : Claim7 := { stood := { row := codecGetsUptoRow, standIns := [], harness := (true, "830e59e6d2891fddccf0a456e90912535420824883b263d2432590ef3bd6dcdb"), looks := true }, kinds := [], alts := [], laidByText := true, laidKinds := [.data, .data, .data, .handle], laidTests := true, laidLooks := .later }
def CodecGetsUptoCardSaid : Prop := Claim7.holds Tryz.pinned (.plain (OpenSpec.upto codecGetsSpec)) codecGetsUptoCard

/-- THE SECOND FORM's CARD OF 'trefoillaw06.CodecBack'. -/
def codecBackUptoCard : Claim7 := { stood := { row := codecBackUptoRow, standIns := [], harness := (true, "830e59e6d2891fddccf0a456e90912535420824883b263d2432590ef3bd6dcdb"), looks := true }, kinds := [], alts := [], laidByText := true, laidKinds := [.data, .data, .data, .handle], laidTests := true, laidLooks := .later }
def CodecBackUptoCardSaid : Prop := Claim7.holds Tryz.pinned (.plain (OpenSpec.upto codecBackSpec)) codecBackUptoCard

/-- THE SECOND FORM's CARD OF 'trefoillaw06.CodecOnly'. -/
def codecOnlyUptoCard : Claim7 := { stood := { row := codecOnlyUptoRow, standIns := [], harness := (true, "830e59e6d2891fddccf0a456e90912535420824883b263d2432590ef3bd6dcdb"), looks := true }, kinds := [], alts := [], laidByText := true, laidKinds := [.data, .data, .data, .handle], laidTests := true, laidLooks := .later }
def CodecOnlyUptoCardSaid : Prop := Claim7.holds Tryz.pinned (.plain (OpenSpec.upto codecOnlySpec)) codecOnlyUptoCard
end Rows
end Go.Proofs.YtokhibhmlninnaaGreatDoor
