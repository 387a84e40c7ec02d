/-
  DERIVED. GIVEN WITH THE SEED: THE CARDS: each row of YtcofafiaedhgjaaDoorRows.lean that lists a variable, with what it lists TIED to the program's text (the seventh form; the later family's looks); each row that meets fmt, with fmt's text TOLD by the authors' own Lean function (tested against real Go, not proved from fmt's source: count such statements apart). THE CARD IS WHAT COUNTS. Prove the row's statement (the work); the ties are given (YtcofafiaedhgjaaDoorTie.lean); close each card by the builder's one call (the guide's Derived/Test/ToyasCard.lean, 'card_holds'). Laid BY PROGRAM, IN A SANDBOX (cutbox-door.mjs). By AI agents, Wed Nov 11 2026. No macro, syntax, notation, axiom, sorry.
-/
import Derived.Test.YtcofafiaedhgjaaDoorRows
import GoSem.ClaimSeven
namespace Go.Proofs.YtcofafiaedhgjaaDoor
namespace Rows

/-- THE TIED CARD OF 'trefoillaw03.CrcSums'. -/
def crcSumsCard : Claim7 := { stood := { row := crcSumsRow, standIns := [], harness := (true, "5bdbf710f5ef55a767f957ac4ba110c4a6d2a334c7d1a69107b8fa282775edf8"), looks := false }, kinds := [], alts := [], laidByText := true, laidKinds := [.data], laidTests := true, laidLooks := .later }
def CrcSumsCardSaid : Prop := Claim7.holds Tryd.pinned (.plain (OpenSpec.ofChange crcSumsSpec)) crcSumsCard

/-- THE TIED CARD OF 'trefoillaw03.CrcOpens'. -/
def crcOpensCard : Claim7 := { stood := { row := crcOpensRow, standIns := [], harness := (true, "5bdbf710f5ef55a767f957ac4ba110c4a6d2a334c7d1a69107b8fa282775edf8"), looks := false }, kinds := [], alts := [], laidByText := true, laidKinds := [.data], laidTests := true, laidLooks := .later }
def CrcOpensCardSaid : Prop := Claim7.holds Tryd.pinned (.plain (OpenSpec.ofChange crcOpensSpec)) crcOpensCard

/-- THE TIED CARD OF 'trefoillaw03.CrcMore'. -/
def crcMoreCard : Claim7 := { stood := { row := crcMoreRow, standIns := [], harness := (true, "5bdbf710f5ef55a767f957ac4ba110c4a6d2a334c7d1a69107b8fa282775edf8"), looks := false }, kinds := [], alts := [], laidByText := true, laidKinds := [.data], laidTests := true, laidLooks := .later }
def CrcMoreCardSaid : Prop := Claim7.holds Tryd.pinned (.plain (OpenSpec.ofChange crcMoreSpec)) crcMoreCard

/-- THE TIED CARD OF 'trefoillaw03.CrcTurned'. -/
def crcTurnedCard : Claim7 := { stood := { row := crcTurnedRow, standIns := [], harness := (true, "5bdbf710f5ef55a767f957ac4ba110c4a6d2a334c7d1a69107b8fa282775edf8"), looks := false }, kinds := [], alts := [], laidByText := true, laidKinds := [.data], laidTests := true, laidLooks := .later }
def CrcTurnedCardSaid : Prop := Claim7.holds Tryd.pinned (.plain (OpenSpec.ofChange crcTurnedSpec)) crcTurnedCard

/-- THE TIED CARD OF 'trefoillaw03.CrcBack'. -/
def crcBackCard : Claim7 := { stood := { row := crcBackRow, standIns := [], harness := (true, "5bdbf710f5ef55a767f957ac4ba110c4a6d2a334c7d1a69107b8fa282775edf8"), looks := false }, kinds := [], alts := [], laidByText := true, laidKinds := [.data], laidTests := true, laidLooks := .later }
def CrcBackCardSaid : Prop := Claim7.holds Tryd.pinned (.plain (OpenSpec.ofChange crcBackSpec)) crcBackCard

/-- THE TIED CARD OF 'trefoillaw03.CrcOne'. -/
def crcOneCard : Claim7 := { stood := { row := crcOneRow, standIns := [], harness := (true, "5bdbf710f5ef55a767f957ac4ba110c4a6d2a334c7d1a69107b8fa282775edf8"), looks := false }, kinds := [], alts := [], laidByText := true, laidKinds := [.data], laidTests := true, laidLooks := .later }
def CrcOneCardSaid : Prop := Claim7.holds Tryd.pinned (.plain (OpenSpec.ofChange crcOneSpec)) crcOneCard

/-- THE SECOND FORM's CARD OF 'trefoillaw03.CrcSums'. -/
def crcSumsUptoCard : Claim7 := { stood := { row := crcSumsUptoRow, standIns := [], harness := (true, "5bdbf710f5ef55a767f957ac4ba110c4a6d2a334c7d1a69107b8fa282775edf8"), looks := false }, kinds := [], alts := [], laidByText := true, laidKinds := [.data], laidTests := true, laidLooks := .later }
def CrcSumsUptoCardSaid : Prop := Claim7.holds Tryd.pinned (.plain (OpenSpec.upto crcSumsSpec)) crcSumsUptoCard

/-- THE SECOND FORM's CARD OF 'trefoillaw03.CrcOpens'. -/
def crcOpensUptoCard : Claim7 := { stood := { row := crcOpensUptoRow, standIns := [], harness := (true, "5bdbf710f5ef55a767f957ac4ba110c4a6d2a334c7d1a69107b8fa282775edf8"), looks := false }, kinds := [], alts := [], laidByText := true, laidKinds := [.data], laidTests := true, laidLooks := .later }
def CrcOpensUptoCardSaid : Prop := Claim7.holds Tryd.pinned (.plain (OpenSpec.upto crcOpensSpec)) crcOpensUptoCard

/-- THE SECOND FORM's CARD OF 'trefoillaw03.CrcMore'. -/
def crcMoreUptoCard : Claim7 := { stood := { row := crcMoreUptoRow, standIns := [], harness := (true, "5bdbf710f5ef55a767f957ac4ba110c4a6d2a334c7d1a69107b8fa282775edf8"), looks := false }, kinds := [], alts := [], laidByText := true, laidKinds := [.data], laidTests := true, laidLooks := .later }
def CrcMoreUptoCardSaid : Prop := Claim7.holds Tryd.pinned (.plain (OpenSpec.upto crcMoreSpec)) crcMoreUptoCard

/-- THE SECOND FORM's CARD OF 'trefoillaw03.CrcTurned'. -/
def crcTurnedUptoCard : Claim7 := { stood := { row := crcTurnedUptoRow, standIns := [], harness := (true, "5bdbf710f5ef55a767f957ac4ba110c4a6d2a334c7d1a69107b8fa282775edf8"), looks := false }, kinds := [], alts := [], laidByText := true, laidKinds := [.data], laidTests := true, laidLooks := .later }
def CrcTurnedUptoCardSaid : Prop := Claim7.holds Tryd.pinned (.plain (OpenSpec.upto crcTurnedSpec)) crcTurnedUptoCard

/-- THE SECOND FORM's CARD OF 'trefoillaw03.CrcBack'. -/
def crcBackUptoCard : Claim7 := { stood := { row := crcBackUptoRow, standIns := [], harness := (true, "5bdbf710f5ef55a767f957ac4ba110c4a6d2a334c7d1a69107b8fa282775edf8"), looks := false }, kinds := [], alts := [], laidByText := true, laidKinds := [.data], laidTests := true, laidLooks := .later }
def CrcBackUptoCardSaid : Prop := Claim7.holds Tryd.pinned (.plain (OpenSpec.upto crcBackSpec)) crcBackUptoCard

/-- THE SECOND FORM's CARD OF 'trefoillaw03.CrcOne'. -/
def crcOneUptoCard : Claim7 := { stood := { row := crcOneUptoRow, standIns := [], harness := (true, "5bdbf710f5ef55a767f957ac4ba110c4a6d2a334c7d1a69107b8fa282775edf8"), looks := false }, kinds := [], alts := [], laidByText := true, laidKinds := [.data], laidTests := true, laidLooks := .later }
def CrcOneUptoCardSaid : Prop := Claim7.holds Tryd.pinned (.plain (OpenSpec.upto crcOneSpec)) crcOneUptoCard
end Rows
end Go.Proofs.YtcofafiaedhgjaaDoor
