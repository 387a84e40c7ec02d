/-
  DERIVED. GIVEN WITH THE SEED: THE CARDS: each row of YtokhibhmlninnaaDoorRows.lean that lists a variable, with what it lists TIED to the program's text (the seventh form; the later family's looks); each row that meets fmt, with fmt's text TOLD by the authors' own Lean function (tested against real Go, not proved from fmt's source: count such statements apart). THE CARD IS WHAT COUNTS. Prove the row's statement (the work); the ties are given (YtokhibhmlninnaaDoorTie.lean); close each card by the builder's one call (the guide's Derived/Test/ToyasCard.lean, 'card_holds'). Laid BY PROGRAM, IN A SANDBOX (cutbox-door.mjs). By AI agents, Wed Nov 11 2026. No macro, syntax, notation, axiom, sorry.
-/
import Derived.Test.YtokhibhmlninnaaDoorRows
import GoSem.ClaimSeven
namespace Go.Proofs.YtokhibhmlninnaaDoor
namespace Rows

/-- THE TIED CARD OF 'trefoillaw06.CodecSpoilt'. -/
def codecSpoiltCard : Claim7 := { stood := { row := codecSpoiltRow, standIns := [], harness := (true, "541c96e0a0efede06ac911ff7f010ce6af4578f7ce8287013621074395cf289c"), looks := true }, kinds := [], alts := [], laidByText := true, laidKinds := [.data, .data, .data, .handle], laidTests := true, laidLooks := .later }
def CodecSpoiltCardSaid : Prop := Claim7.holds Tryd.pinned (.plain (OpenSpec.ofChange codecSpoiltSpec)) codecSpoiltCard

/-- THE TIED CARD OF 'trefoillaw06.CodecWhere'. -/
def codecWhereCard : Claim7 := { stood := { row := codecWhereRow, standIns := [], harness := (true, "541c96e0a0efede06ac911ff7f010ce6af4578f7ce8287013621074395cf289c"), looks := true }, kinds := [], alts := [], laidByText := true, laidKinds := [.data, .data, .data, .handle], laidTests := true, laidLooks := .later }
def CodecWhereCardSaid : Prop := Claim7.holds Tryd.pinned (.plain (OpenSpec.ofChange codecWhereSpec)) codecWhereCard

/-- THE TIED CARD OF 'trefoillaw06.CodecSizes'. -/
def codecSizesCard : Claim7 := { stood := { row := codecSizesRow, standIns := [], harness := (true, "541c96e0a0efede06ac911ff7f010ce6af4578f7ce8287013621074395cf289c"), looks := true }, kinds := [], alts := [], laidByText := true, laidKinds := [.data, .data, .data, .handle], laidTests := true, laidLooks := .later }
def CodecSizesCardSaid : Prop := Claim7.holds Tryd.pinned (.plain (OpenSpec.ofChange codecSizesSpec)) codecSizesCard

/-- THE SECOND FORM's CARD OF 'trefoillaw06.CodecSpoilt'. -/
def codecSpoiltUptoCard : Claim7 := { stood := { row := codecSpoiltUptoRow, standIns := [], harness := (true, "541c96e0a0efede06ac911ff7f010ce6af4578f7ce8287013621074395cf289c"), looks := true }, kinds := [], alts := [], laidByText := true, laidKinds := [.data, .data, .data, .handle], laidTests := true, laidLooks := .later }
def CodecSpoiltUptoCardSaid : Prop := Claim7.holds Tryd.pinned (.plain (OpenSpec.upto codecSpoiltSpec)) codecSpoiltUptoCard

/-- THE SECOND FORM's CARD OF 'trefoillaw06.CodecWhere'. -/
def codecWhereUptoCard : Claim7 := { stood := { row := codecWhereUptoRow, standIns := [], harness := (true, "541c96e0a0efede06ac911ff7f010ce6af4578f7ce8287013621074395cf289c"), looks := true }, kinds := [], alts := [], laidByText := true, laidKinds := [.data, .data, .data, .handle], laidTests := true, laidLooks := .later }
def CodecWhereUptoCardSaid : Prop := Claim7.holds Tryd.pinned (.plain (OpenSpec.upto codecWhereSpec)) codecWhereUptoCard

/-- THE SECOND FORM's CARD OF 'trefoillaw06.CodecSizes'. -/
def codecSizesUptoCard : Claim7 := { stood := { row := codecSizesUptoRow, standIns := [], harness := (true, "541c96e0a0efede06ac911ff7f010ce6af4578f7ce8287013621074395cf289c"), looks := true }, kinds := [], alts := [], laidByText := true, laidKinds := [.data, .data, .data, .handle], laidTests := true, laidLooks := .later }
def CodecSizesUptoCardSaid : Prop := Claim7.holds Tryd.pinned (.plain (OpenSpec.upto codecSizesSpec)) codecSizesUptoCard
end Rows
end Go.Proofs.YtokhibhmlninnaaDoor
