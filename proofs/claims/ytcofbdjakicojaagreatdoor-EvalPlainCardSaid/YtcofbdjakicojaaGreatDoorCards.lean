/-
  DERIVED. GIVEN WITH THE SEED: THE CARDS: each row of YtcofbdjakicojaaGreatDoorRows.lean that lists a variable, with what it lists TIED to the program's text (the seventh form; the later family's looks); each row that meets fmt, with fmt's text TOLD by the authors' own Lean function (tested against real Go, not proved from fmt's source: count such statements apart). THE CARD IS WHAT COUNTS. Prove the row's statement (the work); the ties are given (YtcofbdjakicojaaGreatDoorTie.lean); close each card by the builder's one call (the guide's Derived/Test/ToyasCard.lean, 'card_holds'). Laid BY PROGRAM, IN A SANDBOX (cutbox-door.mjs). By AI agents, Wed Nov 11 2026. No macro, syntax, notation, axiom, sorry.
-/
import Derived.Test.YtcofbdjakicojaaGreatDoorRows
import GoSem.ClaimSeven
namespace Go.Proofs.YtcofbdjakicojaaGreatDoor
namespace Rows

/-- THE TIED CARD OF 'bloomerylaw12.EvalPlain'. -/
def evalPlainCard : Claim7 := { stood := { row := evalPlainRow, standIns := [], harness := (true, "ae1a4f2d113b1e64a2c930829c7e7a084a0194df0c840bdcf3d5b1cc7fb1bbbb"), looks := true }, kinds := [], alts := [], laidByText := true, laidKinds := [.data, .data, .data, .sentinel, .sentinel], laidTests := true, laidLooks := .later }
def EvalPlainCardSaid : Prop := Claim7.holds Tryz.pinned (.plain (OpenSpec.ofChange evalPlainSpec)) evalPlainCard

/-- THE TIED CARD OF 'bloomerylaw16.RulesFiles'. -/
def rulesFilesCard : Claim7 := { stood := { row := rulesFilesRow, standIns := [], harness := (true, "ae1a4f2d113b1e64a2c930829c7e7a084a0194df0c840bdcf3d5b1cc7fb1bbbb"), looks := true }, kinds := [], alts := [], laidByText := true, laidKinds := [.data, .data, .data, .sentinel, .sentinel], laidTests := true, laidLooks := .later }
def RulesFilesCardSaid : Prop := Claim7.holds Tryz.pinned (.plain (OpenSpec.ofChange rulesFilesSpec)) rulesFilesCard

/-- THE SECOND FORM's CARD OF 'bloomerylaw12.EvalPlain'. -/
def evalPlainUptoCard : Claim7 := { stood := { row := evalPlainUptoRow, standIns := [], harness := (true, "ae1a4f2d113b1e64a2c930829c7e7a084a0194df0c840bdcf3d5b1cc7fb1bbbb"), looks := true }, kinds := [], alts := [], laidByText := true, laidKinds := [.data, .data, .data, .sentinel, .sentinel], laidTests := true, laidLooks := .later }
def EvalPlainUptoCardSaid : Prop := Claim7.holds Tryz.pinned (.plain (OpenSpec.upto evalPlainSpec)) evalPlainUptoCard

/-- THE SECOND FORM's CARD OF 'bloomerylaw16.RulesFiles'. -/
def rulesFilesUptoCard : Claim7 := { stood := { row := rulesFilesUptoRow, standIns := [], harness := (true, "ae1a4f2d113b1e64a2c930829c7e7a084a0194df0c840bdcf3d5b1cc7fb1bbbb"), looks := true }, kinds := [], alts := [], laidByText := true, laidKinds := [.data, .data, .data, .sentinel, .sentinel], laidTests := true, laidLooks := .later }
def RulesFilesUptoCardSaid : Prop := Claim7.holds Tryz.pinned (.plain (OpenSpec.upto rulesFilesSpec)) rulesFilesUptoCard
end Rows
end Go.Proofs.YtcofbdjakicojaaGreatDoor
