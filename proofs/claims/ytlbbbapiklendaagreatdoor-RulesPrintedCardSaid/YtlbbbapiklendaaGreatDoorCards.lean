/-
  DERIVED. GIVEN WITH THE SEED: THE CARDS: each row of YtlbbbapiklendaaGreatDoorRows.lean that lists a variable, with what it lists TIED to the program's text (the seventh form; the later family's looks); each row that meets fmt, with fmt's text TOLD by the authors' own Lean function (tested against real Go, not proved from fmt's source: count such statements apart). THE CARD IS WHAT COUNTS. Prove the row's statement (the work); the ties are given (YtlbbbapiklendaaGreatDoorTie.lean); close each card by the builder's one call (the guide's Derived/Test/ToyasCard.lean, 'card_holds'). Laid BY PROGRAM, IN A SANDBOX (cutbox-door.mjs). By AI agents, Wed Nov 11 2026. No macro, syntax, notation, axiom, sorry.
-/
import Derived.Test.YtlbbbapiklendaaGreatDoorRows
import GoSem.ClaimSeven
namespace Go.Proofs.YtlbbbapiklendaaGreatDoor
namespace Rows

/-- THE TIED CARD OF 'bloomerylaw12.EvalSteps'. -/
def evalStepsCard : Claim7 := { stood := { row := evalStepsRow, standIns := [], harness := (true, "a0f50391272f28b61654be45a02363ee9459dc5b5afe122cd408f56c056a2982"), looks := true }, kinds := [], alts := [], laidByText := true, laidKinds := [.data, .data, .data, .sentinel, .sentinel], laidTests := true, laidLooks := .later }
def EvalStepsCardSaid : Prop := Claim7.holds Tryz.pinned (.plain (OpenSpec.ofChange evalStepsSpec)) evalStepsCard

/-- THE TIED CARD OF 'bloomerylaw16.RulesPrinted'. -/
def rulesPrintedCard : Claim7 := { stood := { row := rulesPrintedRow, standIns := [], harness := (true, "a0f50391272f28b61654be45a02363ee9459dc5b5afe122cd408f56c056a2982"), looks := true }, kinds := [], alts := [], laidByText := true, laidKinds := [.data, .data, .data, .sentinel, .sentinel], laidTests := true, laidLooks := .later }
def RulesPrintedCardSaid : Prop := Claim7.holds Tryz.pinned (.plain (OpenSpec.ofChange rulesPrintedSpec)) rulesPrintedCard

/-- THE SECOND FORM's CARD OF 'bloomerylaw12.EvalSteps'. -/
def evalStepsUptoCard : Claim7 := { stood := { row := evalStepsUptoRow, standIns := [], harness := (true, "a0f50391272f28b61654be45a02363ee9459dc5b5afe122cd408f56c056a2982"), looks := true }, kinds := [], alts := [], laidByText := true, laidKinds := [.data, .data, .data, .sentinel, .sentinel], laidTests := true, laidLooks := .later }
def EvalStepsUptoCardSaid : Prop := Claim7.holds Tryz.pinned (.plain (OpenSpec.upto evalStepsSpec)) evalStepsUptoCard

/-- THE SECOND FORM's CARD OF 'bloomerylaw16.RulesPrinted'. -/
def rulesPrintedUptoCard : Claim7 := { stood := { row := rulesPrintedUptoRow, standIns := [], harness := (true, "a0f50391272f28b61654be45a02363ee9459dc5b5afe122cd408f56c056a2982"), looks := true }, kinds := [], alts := [], laidByText := true, laidKinds := [.data, .data, .data, .sentinel, .sentinel], laidTests := true, laidLooks := .later }
def RulesPrintedUptoCardSaid : Prop := Claim7.holds Tryz.pinned (.plain (OpenSpec.upto rulesPrintedSpec)) rulesPrintedUptoCard
end Rows
end Go.Proofs.YtlbbbapiklendaaGreatDoor
