/-
  DERIVED. GIVEN WITH THE SEED: THE CARDS: each row of YtmmflgbhgjefmaaGreatDoorRows.lean that lists a variable, with what it lists TIED to the program's text (the seventh form; the later family's looks); each row that meets fmt, with fmt's text TOLD by the authors' own Lean function (tested against real Go, not proved from fmt's source: count such statements apart). THE CARD IS WHAT COUNTS. Prove the row's statement (the work); the ties are given (YtmmflgbhgjefmaaGreatDoorTie.lean); close each card by the builder's one call (the guide's Derived/Test/ToyasCard.lean, 'card_holds'). Laid BY PROGRAM, IN A SANDBOX (cutbox-door.mjs). By AI agents, Wed Nov 11 2026. No macro, syntax, notation, axiom, sorry.
-/
import Derived.Test.YtmmflgbhgjefmaaGreatDoorRows
import GoSem.ClaimSeven
namespace Go.Proofs.YtmmflgbhgjefmaaGreatDoor
namespace Rows

/-- THE TIED CARD OF 'bloomerylaw12.EvalPlain'. -/
def evalPlainCard : Claim7 := { stood := { row := evalPlainRow, standIns := [], harness := (true, "eb886bbb7c621ebf8f4eb2e3677c8373ba34b24c004a9af2eb1fe71e94b33a14"), looks := true }, kinds := [], alts := [], laidByText := true, laidKinds := [.data, .data, .data, .sentinel, .sentinel], laidTests := true, laidLooks := .later }
def EvalPlainCardSaid : Prop := Claim7.holds Tryz.pinned (.plain (OpenSpec.ofChange evalPlainSpec)) evalPlainCard

/-- THE TIED CARD OF 'bloomerylaw12.EvalLists'. -/
def evalListsCard : Claim7 := { stood := { row := evalListsRow, standIns := [], harness := (true, "eb886bbb7c621ebf8f4eb2e3677c8373ba34b24c004a9af2eb1fe71e94b33a14"), looks := true }, kinds := [], alts := [], laidByText := true, laidKinds := [.data, .data, .data, .sentinel, .sentinel], laidTests := true, laidLooks := .later }
def EvalListsCardSaid : Prop := Claim7.holds Tryz.pinned (.plain (OpenSpec.ofChange evalListsSpec)) evalListsCard

/-- THE SECOND FORM's CARD OF 'bloomerylaw12.EvalPlain'. -/
def evalPlainUptoCard : Claim7 := { stood := { row := evalPlainUptoRow, standIns := [], harness := (true, "eb886bbb7c621ebf8f4eb2e3677c8373ba34b24c004a9af2eb1fe71e94b33a14"), looks := true }, kinds := [], alts := [], laidByText := true, laidKinds := [.data, .data, .data, .sentinel, .sentinel], laidTests := true, laidLooks := .later }
def EvalPlainUptoCardSaid : Prop := Claim7.holds Tryz.pinned (.plain (OpenSpec.upto evalPlainSpec)) evalPlainUptoCard

/-- THE SECOND FORM's CARD OF 'bloomerylaw12.EvalLists'. -/
def evalListsUptoCard : Claim7 := { stood := { row := evalListsUptoRow, standIns := [], harness := (true, "eb886bbb7c621ebf8f4eb2e3677c8373ba34b24c004a9af2eb1fe71e94b33a14"), looks := true }, kinds := [], alts := [], laidByText := true, laidKinds := [.data, .data, .data, .sentinel, .sentinel], laidTests := true, laidLooks := .later }
def EvalListsUptoCardSaid : Prop := Claim7.holds Tryz.pinned (.plain (OpenSpec.upto evalListsSpec)) evalListsUptoCard
end Rows
end Go.Proofs.YtmmflgbhgjefmaaGreatDoor
