/-
  DERIVED. GIVEN WITH THE SEED: THE CARDS: each row of YthknljeffpbbmaaGreatDoorRows.lean that lists a variable, with what it lists TIED to the program's text (the seventh form; the later family's looks); each row that meets fmt, with fmt's text TOLD by the authors' own Lean function (tested against real Go, not proved from fmt's source: count such statements apart). THE CARD IS WHAT COUNTS. Prove the row's statement (the work); the ties are given (YthknljeffpbbmaaGreatDoorTie.lean); close each card by the builder's one call (the guide's Derived/Test/ToyasCard.lean, 'card_holds'). Laid BY PROGRAM, IN A SANDBOX (cutbox-door.mjs). By AI agents, Wed Nov 11 2026. No macro, syntax, notation, axiom, sorry.
-/
import Derived.Test.YthknljeffpbbmaaGreatDoorRows
import GoSem.ClaimSeven
namespace Go.Proofs.YthknljeffpbbmaaGreatDoor
namespace Rows

/-- THE TIED CARD OF 'bloomerylaw16.RulesOrders'. -/
def rulesOrdersCard : Claim7 := { stood := { row := rulesOrdersRow, standIns := [], harness := (true, "fd1ddee4605929704f304911bdb673dfaaec75c1c398e04fd43f21328df6f5b1"), looks := true }, kinds := [], alts := [], laidByText := true, laidKinds := [.data, .data, .data, .data, .sentinel, .sentinel, .pinned], laidTests := true, laidLooks := .later }
def RulesOrdersCardSaid : Prop := Claim7.holds Tryz.pinned (.plain (OpenSpec.ofChange rulesOrdersSpec)) rulesOrdersCard

/-- THE TIED CARD OF 'bloomerylaw16.RulesFits'. -/
def rulesFitsCard : Claim7 := { stood := { row := rulesFitsRow, standIns := [], harness := (true, "fd1ddee4605929704f304911bdb673dfaaec75c1c398e04fd43f21328df6f5b1"), looks := true }, kinds := [], alts := [], laidByText := true, laidKinds := [.data, .data, .data, .data, .sentinel, .sentinel, .pinned], laidTests := true, laidLooks := .later }
def RulesFitsCardSaid : Prop := Claim7.holds Tryz.pinned (.plain (OpenSpec.ofChange rulesFitsSpec)) rulesFitsCard

/-- THE SECOND FORM's CARD OF 'bloomerylaw16.RulesOrders'. -/
def rulesOrdersUptoCard : Claim7 := { stood := { row := rulesOrdersUptoRow, standIns := [], harness := (true, "fd1ddee4605929704f304911bdb673dfaaec75c1c398e04fd43f21328df6f5b1"), looks := true }, kinds := [], alts := [], laidByText := true, laidKinds := [.data, .data, .data, .data, .sentinel, .sentinel, .pinned], laidTests := true, laidLooks := .later }
def RulesOrdersUptoCardSaid : Prop := Claim7.holds Tryz.pinned (.plain (OpenSpec.upto rulesOrdersSpec)) rulesOrdersUptoCard

/-- THE SECOND FORM's CARD OF 'bloomerylaw16.RulesFits'. -/
def rulesFitsUptoCard : Claim7 := { stood := { row := rulesFitsUptoRow, standIns := [], harness := (true, "fd1ddee4605929704f304911bdb673dfaaec75c1c398e04fd43f21328df6f5b1"), looks := true }, kinds := [], alts := [], laidByText := true, laidKinds := [.data, .data, .data, .data, .sentinel, .sentinel, .pinned], laidTests := true, laidLooks := .later }
def RulesFitsUptoCardSaid : Prop := Claim7.holds Tryz.pinned (.plain (OpenSpec.upto rulesFitsSpec)) rulesFitsUptoCard
end Rows
end Go.Proofs.YthknljeffpbbmaaGreatDoor
