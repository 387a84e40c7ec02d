/-
  NARROWER THAN 'FOR EVERY INPUT', by the rows' own cells (each row's printed sentence says how): CrcSums: laid · CrcOpens: laid · CrcMore: laid · CrcTurned: laid · CrcBack: laid · CrcOne: laid.
  DERIVED. THE GIVEN ROWS OF THIS SEAT. 6 by the template 'for every input the law returns true; each argument reads behind the call as it read before'; 0 by the template 'total and deterministic' (their statements: YtcofafiaedhgjaaDoorTotals.lean).
  GIVEN WITH THE SEED: the statements are not yours to turn. If you find one false, say at which input.
  Laid BY PROGRAM, IN A SANDBOX (cutbox-rows.mjs): the forced cells as the released guide's own fill.sh prints them over the translation e97f82bd965593b6… (all of the seat's roots in one cut). By AI agents, Wed Nov 11 2026. No macro, syntax, notation, axiom, sorry.
-/
import Derived.Test.YtcofafiaedhgjaaDoorChecked
import GoSem.Claim
import GoSem.ClaimJoined
import GoSem.ClaimMapViews
import Derived.JoinedTies
import Derived.KernelRfl
namespace Go.Proofs.YtcofafiaedhgjaaDoor
/- THE CELL 'sum', in the pinned program and in every row, IS THE sha256 OF THE DUMP (.gsa) THAT YtcofafiaedhgjaaDoorProg.lean LOADS. Nothing in Lean hashes anything: it is a label: what it is worth is what the hold of that sum in a sandbox is worth. -/
noncomputable def Tryd.pinned : Pinned := { name := "ytcofafiaedhgjaadoor", sum := "e97f82bd965593b6ff336ac6b9d0e43dcd10bbc29eec6e957355ce09d709432b", checked := Tryd.checked }
namespace Rows
def none {H : Type} : Left H := { results := [], args := [] }

/- WHAT THE LISTED PACKAGE-LEVEL VARIABLES READ AS WHEN THE CALL BEGINS. Each datum BY PROGRAM (the guide's laid-datum.mjs) off the statement by which the dump's own 'gosem.cut.vars' lays the variable. In a bare row this is a premise. The card (YtcofafiaedhgjaaDoorCards.lean) ties it to the program's text. -/
def laid_trefoil_crc_table {H : Type} : DataW H := .agg [.lit (.int .u32 0), .lit (.int .u32 498536548), .lit (.int .u32 997073096), .lit (.int .u32 651767980), .lit (.int .u32 1994146192), .lit (.int .u32 1802195444), .lit (.int .u32 1303535960), .lit (.int .u32 1342533948), .lit (.int .u32 3988292384), .lit (.int .u32 4027552580), .lit (.int .u32 3604390888), .lit (.int .u32 3412177804), .lit (.int .u32 2607071920), .lit (.int .u32 2262029012), .lit (.int .u32 2685067896), .lit (.int .u32 3183342108)]

/-- 'trefoillaw03.CrcSums': WHATEVER THE INPUT: true; the input reads as it did. -/
def crcSumsSpec : ChangeSpec := { name := "crcSums", fn := fun _ => fun
  | [d] => { results := [.lit (.bool true)], args := [d] }
  | _ => none }
def crcSumsRow : OpenClaim := { program := "ytcofafiaedhgjaadoor", sum := "e97f82bd965593b6ff336ac6b9d0e43dcd10bbc29eec6e957355ce09d709432b", func := "trefoil/trefoillaw03.CrcSums", spec := "crcSums", named := ["trefoil/crc.table"], apart := false, laid := [("trefoil/crc.table", laid_trefoil_crc_table)] }
def CrcSumsSaid : Prop := crcSumsRow.holds Tryd.pinned (OpenSpec.ofChange crcSumsSpec)

/-- ITS FALSE NEIGHBOUR: 'it returns false'. Refute it at one input. -/
def crcSumsWrong : ChangeSpec := { name := "crcSums", fn := fun _ => fun
  | [d] => { results := [.lit (.bool false)], args := [d] }
  | _ => none }
def CrcSumsWrongFalsely : Prop := crcSumsRow.holds Tryd.pinned (OpenSpec.ofChange crcSumsWrong)

/-- 'trefoillaw03.CrcOpens': WHATEVER THE INPUT: true; the input reads as it did. -/
def crcOpensSpec : ChangeSpec := { name := "crcOpens", fn := fun _ => fun
  | [d] => { results := [.lit (.bool true)], args := [d] }
  | _ => none }
def crcOpensRow : OpenClaim := { program := "ytcofafiaedhgjaadoor", sum := "e97f82bd965593b6ff336ac6b9d0e43dcd10bbc29eec6e957355ce09d709432b", func := "trefoil/trefoillaw03.CrcOpens", spec := "crcOpens", named := ["trefoil/crc.table"], apart := false, laid := [("trefoil/crc.table", laid_trefoil_crc_table)] }
def CrcOpensSaid : Prop := crcOpensRow.holds Tryd.pinned (OpenSpec.ofChange crcOpensSpec)

/-- ITS FALSE NEIGHBOUR: 'it returns false'. Refute it at one input. -/
def crcOpensWrong : ChangeSpec := { name := "crcOpens", fn := fun _ => fun
  | [d] => { results := [.lit (.bool false)], args := [d] }
  | _ => none }
def CrcOpensWrongFalsely : Prop := crcOpensRow.holds Tryd.pinned (OpenSpec.ofChange crcOpensWrong)

/-- 'trefoillaw03.CrcMore': WHATEVER THE INPUT: true; the input reads as it did. -/
def crcMoreSpec : ChangeSpec := { name := "crcMore", fn := fun _ => fun
  | [d1, d2, d3] => { results := [.lit (.bool true)], args := [d1, d2, d3] }
  | _ => none }
def crcMoreRow : OpenClaim := { program := "ytcofafiaedhgjaadoor", sum := "e97f82bd965593b6ff336ac6b9d0e43dcd10bbc29eec6e957355ce09d709432b", func := "trefoil/trefoillaw03.CrcMore", spec := "crcMore", named := ["trefoil/crc.table"], apart := false, laid := [("trefoil/crc.table", laid_trefoil_crc_table)] }
def CrcMoreSaid : Prop := crcMoreRow.holds Tryd.pinned (OpenSpec.ofChange crcMoreSpec)

/-- ITS FALSE NEIGHBOUR: 'it returns false'. Refute it at one input. -/
def crcMoreWrong : ChangeSpec := { name := "crcMore", fn := fun _ => fun
  | [d1, d2, d3] => { results := [.lit (.bool false)], args := [d1, d2, d3] }
  | _ => none }
def CrcMoreWrongFalsely : Prop := crcMoreRow.holds Tryd.pinned (OpenSpec.ofChange crcMoreWrong)

/-- 'trefoillaw03.CrcTurned': WHATEVER THE INPUT: true; the input reads as it did. -/
def crcTurnedSpec : ChangeSpec := { name := "crcTurned", fn := fun _ => fun
  | [d1, d2, d3] => { results := [.lit (.bool true)], args := [d1, d2, d3] }
  | _ => none }
def crcTurnedRow : OpenClaim := { program := "ytcofafiaedhgjaadoor", sum := "e97f82bd965593b6ff336ac6b9d0e43dcd10bbc29eec6e957355ce09d709432b", func := "trefoil/trefoillaw03.CrcTurned", spec := "crcTurned", named := ["trefoil/crc.table"], apart := false, laid := [("trefoil/crc.table", laid_trefoil_crc_table)] }
def CrcTurnedSaid : Prop := crcTurnedRow.holds Tryd.pinned (OpenSpec.ofChange crcTurnedSpec)

/-- ITS FALSE NEIGHBOUR: 'it returns false'. Refute it at one input. -/
def crcTurnedWrong : ChangeSpec := { name := "crcTurned", fn := fun _ => fun
  | [d1, d2, d3] => { results := [.lit (.bool false)], args := [d1, d2, d3] }
  | _ => none }
def CrcTurnedWrongFalsely : Prop := crcTurnedRow.holds Tryd.pinned (OpenSpec.ofChange crcTurnedWrong)

/-- 'trefoillaw03.CrcBack': WHATEVER THE INPUT: true; the input reads as it did. -/
def crcBackSpec : ChangeSpec := { name := "crcBack", fn := fun _ => fun
  | [d1, d2] => { results := [.lit (.bool true)], args := [d1, d2] }
  | _ => none }
def crcBackRow : OpenClaim := { program := "ytcofafiaedhgjaadoor", sum := "e97f82bd965593b6ff336ac6b9d0e43dcd10bbc29eec6e957355ce09d709432b", func := "trefoil/trefoillaw03.CrcBack", spec := "crcBack", named := ["trefoil/crc.table"], apart := false, laid := [("trefoil/crc.table", laid_trefoil_crc_table)] }
def CrcBackSaid : Prop := crcBackRow.holds Tryd.pinned (OpenSpec.ofChange crcBackSpec)

/-- ITS FALSE NEIGHBOUR: 'it returns false'. Refute it at one input. -/
def crcBackWrong : ChangeSpec := { name := "crcBack", fn := fun _ => fun
  | [d1, d2] => { results := [.lit (.bool false)], args := [d1, d2] }
  | _ => none }
def CrcBackWrongFalsely : Prop := crcBackRow.holds Tryd.pinned (OpenSpec.ofChange crcBackWrong)

/-- 'trefoillaw03.CrcOne': WHATEVER THE INPUT: true; the input reads as it did. -/
def crcOneSpec : ChangeSpec := { name := "crcOne", fn := fun _ => fun
  | [d1, d2, d3] => { results := [.lit (.bool true)], args := [d1, d2, d3] }
  | _ => none }
def crcOneRow : OpenClaim := { program := "ytcofafiaedhgjaadoor", sum := "e97f82bd965593b6ff336ac6b9d0e43dcd10bbc29eec6e957355ce09d709432b", func := "trefoil/trefoillaw03.CrcOne", spec := "crcOne", named := ["trefoil/crc.table"], apart := false, laid := [("trefoil/crc.table", laid_trefoil_crc_table)] }
def CrcOneSaid : Prop := crcOneRow.holds Tryd.pinned (OpenSpec.ofChange crcOneSpec)

/-- ITS FALSE NEIGHBOUR: 'it returns false'. Refute it at one input. -/
def crcOneWrong : ChangeSpec := { name := "crcOne", fn := fun _ => fun
  | [d1, d2, d3] => { results := [.lit (.bool false)], args := [d1, d2, d3] }
  | _ => none }
def CrcOneWrongFalsely : Prop := crcOneRow.holds Tryd.pinned (OpenSpec.ofChange crcOneWrong)

/- THE SECOND FORM. 'bulk': how many values and letters a reading holds, each counted each time it is reached (what is shared counts as often as it is met; a slice's spare places count too). A statement '..UptoSaid' is the law's where the arguments, and the package variables that the reading takes, are together of bulk at most 1048576: NARROWER than '..Said'. Prove '..Said' where nothing that the law and all that it calls make is longer than what came in: it says more and counts as full. Else prove '..UptoSaid'. A law counts once. -/
mutual
def uptoBulk {H : Type} : DataW H → Nat
  | .lit (.string bytes) => bytes.length + 1
  | .lit _ => 1
  | .nil => 1
  | .ptr d => uptoBulk d + 1
  | .slice elems spare => uptoBulkAll elems + uptoBulkAll spare + 1
  | .agg parts => uptoBulkAll parts + 1
  | .iface _ d => uptoBulk d + 1
  | .map entries => uptoBulkEntries entries + 1
  | .held _ => 1
def uptoBulkAll {H : Type} : List (DataW H) → Nat
  | [] => 0
  | d :: r => uptoBulk d + uptoBulkAll r
def uptoBulkEntries {H : Type} : List (Lit × DataW H) → Nat
  | [] => 0
  | x :: r => uptoBulkEntry x + uptoBulkEntries r
def uptoBulkEntry {H : Type} : Lit × DataW H → Nat
  | (.string bytes, d) => bytes.length + uptoBulk d + 1
  | (_, d) => uptoBulk d + 1
 end
def uptoSmall : (H : Type) → List (DataW H) → Bool := fun _ ds => decide (uptoBulkAll ds ≤ 1048576)
def OpenSpec.upto (s : _root_.Go.ChangeSpec) : _root_.Go.OpenSpec := { _root_.Go.OpenSpec.ofChange s with cond := some uptoSmall }

/-- 'trefoillaw03.CrcSums', WHERE WHAT IT READS IS OF BULK AT MOST 1048576: true; the input reads as it did. -/
def crcSumsUptoRow : OpenClaim := { program := "ytcofafiaedhgjaadoor", sum := "e97f82bd965593b6ff336ac6b9d0e43dcd10bbc29eec6e957355ce09d709432b", func := "trefoil/trefoillaw03.CrcSums", spec := "crcSums", named := ["trefoil/crc.table"], apart := false, laid := [("trefoil/crc.table", laid_trefoil_crc_table)], narrowed := true }
def CrcSumsUptoSaid : Prop := crcSumsUptoRow.holds Tryd.pinned (OpenSpec.upto crcSumsSpec)

/-- 'trefoillaw03.CrcOpens', WHERE WHAT IT READS IS OF BULK AT MOST 1048576: true; the input reads as it did. -/
def crcOpensUptoRow : OpenClaim := { program := "ytcofafiaedhgjaadoor", sum := "e97f82bd965593b6ff336ac6b9d0e43dcd10bbc29eec6e957355ce09d709432b", func := "trefoil/trefoillaw03.CrcOpens", spec := "crcOpens", named := ["trefoil/crc.table"], apart := false, laid := [("trefoil/crc.table", laid_trefoil_crc_table)], narrowed := true }
def CrcOpensUptoSaid : Prop := crcOpensUptoRow.holds Tryd.pinned (OpenSpec.upto crcOpensSpec)

/-- 'trefoillaw03.CrcMore', WHERE WHAT IT READS IS OF BULK AT MOST 1048576: true; the input reads as it did. -/
def crcMoreUptoRow : OpenClaim := { program := "ytcofafiaedhgjaadoor", sum := "e97f82bd965593b6ff336ac6b9d0e43dcd10bbc29eec6e957355ce09d709432b", func := "trefoil/trefoillaw03.CrcMore", spec := "crcMore", named := ["trefoil/crc.table"], apart := false, laid := [("trefoil/crc.table", laid_trefoil_crc_table)], narrowed := true }
def CrcMoreUptoSaid : Prop := crcMoreUptoRow.holds Tryd.pinned (OpenSpec.upto crcMoreSpec)

/-- 'trefoillaw03.CrcTurned', WHERE WHAT IT READS IS OF BULK AT MOST 1048576: true; the input reads as it did. -/
def crcTurnedUptoRow : OpenClaim := { program := "ytcofafiaedhgjaadoor", sum := "e97f82bd965593b6ff336ac6b9d0e43dcd10bbc29eec6e957355ce09d709432b", func := "trefoil/trefoillaw03.CrcTurned", spec := "crcTurned", named := ["trefoil/crc.table"], apart := false, laid := [("trefoil/crc.table", laid_trefoil_crc_table)], narrowed := true }
def CrcTurnedUptoSaid : Prop := crcTurnedUptoRow.holds Tryd.pinned (OpenSpec.upto crcTurnedSpec)

/-- 'trefoillaw03.CrcBack', WHERE WHAT IT READS IS OF BULK AT MOST 1048576: true; the input reads as it did. -/
def crcBackUptoRow : OpenClaim := { program := "ytcofafiaedhgjaadoor", sum := "e97f82bd965593b6ff336ac6b9d0e43dcd10bbc29eec6e957355ce09d709432b", func := "trefoil/trefoillaw03.CrcBack", spec := "crcBack", named := ["trefoil/crc.table"], apart := false, laid := [("trefoil/crc.table", laid_trefoil_crc_table)], narrowed := true }
def CrcBackUptoSaid : Prop := crcBackUptoRow.holds Tryd.pinned (OpenSpec.upto crcBackSpec)

/-- 'trefoillaw03.CrcOne', WHERE WHAT IT READS IS OF BULK AT MOST 1048576: true; the input reads as it did. -/
def crcOneUptoRow : OpenClaim := { program := "ytcofafiaedhgjaadoor", sum := "e97f82bd965593b6ff336ac6b9d0e43dcd10bbc29eec6e957355ce09d709432b", func := "trefoil/trefoillaw03.CrcOne", spec := "crcOne", named := ["trefoil/crc.table"], apart := false, laid := [("trefoil/crc.table", laid_trefoil_crc_table)], narrowed := true }
def CrcOneUptoSaid : Prop := crcOneUptoRow.holds Tryd.pinned (OpenSpec.upto crcOneSpec)

end Rows
end Go.Proofs.YtcofafiaedhgjaaDoor
