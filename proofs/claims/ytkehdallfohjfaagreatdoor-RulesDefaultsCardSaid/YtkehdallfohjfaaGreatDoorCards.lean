/-
  DERIVED. GIVEN WITH THE SEED: THE CARDS: each row of YtkehdallfohjfaaGreatDoorRows.lean that lists a variable, with what it lists TIED to the program's text (the seventh form; the later family's looks); each row that meets fmt, with fmt's text TOLD by the authors' own Lean function (tested against real Go, not proved from fmt's source: count such statements apart). THE CARD IS WHAT COUNTS. Prove the row's statement (the work); the ties are given (YtkehdallfohjfaaGreatDoorTie.lean); close each card by the builder's one call (the guide's Derived/Test/ToyasCard.lean, 'card_holds'). Laid BY PROGRAM, IN A SANDBOX (cutbox-door.mjs). By AI agents, Wed Nov 11 2026. No macro, syntax, notation, axiom, sorry.
-/
import Derived.Test.YtkehdallfohjfaaGreatDoorRows
import GoSem.ClaimSeven
namespace Go.Proofs.YtkehdallfohjfaaGreatDoor
namespace Rows

/-- THE TIED CARD OF 'bloomerylaw16.RulesDefaults'. -/
def rulesDefaultsCard : Claim7 := { stood := { row := rulesDefaultsRow, standIns := [], harness := (true, "3794a30fee7f930b927c2f6e240c5383827315da25a1ec83cc014b9df6835325"), looks := true }, kinds := [], alts := [], laidByText := true, laidKinds := [.data, .data, .data, .sentinel, .sentinel], laidTests := true, laidLooks := .later }
def RulesDefaultsCardSaid : Prop := Claim7.holds Tryz.pinned (.plain (OpenSpec.ofChange rulesDefaultsSpec)) rulesDefaultsCard

/-- THE TIED CARD OF 'bloomerylaw16.RulesPrinted'. -/
def rulesPrintedCard : Claim7 := { stood := { row := rulesPrintedRow, standIns := [], harness := (true, "3794a30fee7f930b927c2f6e240c5383827315da25a1ec83cc014b9df6835325"), looks := true }, kinds := [], alts := [], laidByText := true, laidKinds := [.data, .data, .data, .sentinel, .sentinel], laidTests := true, laidLooks := .later }
def RulesPrintedCardSaid : Prop := Claim7.holds Tryz.pinned (.plain (OpenSpec.ofChange rulesPrintedSpec)) rulesPrintedCard

/-- THE SECOND FORM's CARD OF 'bloomerylaw16.RulesDefaults'. -/
def rulesDefaultsUptoCard : Claim7 := { stood := { row := rulesDefaultsUptoRow, standIns := [], harness := (true, "3794a30fee7f930b927c2f6e240c5383827315da25a1ec83cc014b9df6835325"), looks := true }, kinds := [], alts := [], laidByText := true, laidKinds := [.data, .data, .data, .sentinel, .sentinel], laidTests := true, laidLooks := .later }
def RulesDefaultsUptoCardSaid : Prop := Claim7.holds Tryz.pinned (.plain (OpenSpec.upto rulesDefaultsSpec)) rulesDefaultsUptoCard

/-- THE SECOND FORM's CARD OF 'bloomerylaw16.RulesPrinted'. -/
def rulesPrintedUptoCard : Claim7 := { stood := { row := rulesPrintedUptoRow, standIns := [], harness := (true, "3794a30fee7f930b927c2f6e240c5383827315da25a1ec83cc014b9df6835325"), looks := true }, kinds := [], alts := [], laidByText := true, laidKinds := [.data, .data, .data, .sentinel, .sentinel], laidTests := true, laidLooks := .later }
def RulesPrintedUptoCardSaid : Prop := Claim7.holds Tryz.pinned (.plain (OpenSpec.upto rulesPrintedSpec)) rulesPrintedUptoCard
end Rows
end Go.Proofs.YtkehdallfohjfaaGreatDoor
