/-
  The closed facts of RulesFits' row, one by one (together they ask too much of the kernel's memory).
-/
import Derived.Test.YthknljeffpbbmaaGreatDoorMJoinO
namespace Go.Proofs.YthknljeffpbbmaaGreatDoor.pFits
open Go

theorem j1 : (Rows.rulesFitsRow.inPlace == Tryz.pinned.checked.prog.inPlace 4) = true := by kernel_rfl
theorem j2 : (Rows.rulesFitsRow.unfollowed == Tryz.pinned.checked.prog.unfollowed 4) = true := by kernel_rfl
theorem j3 : (Rows.rulesFitsRow.recurses == Tryz.pinned.checked.prog.recurses 4) = true := by kernel_rfl
theorem j4 : (Rows.rulesFitsRow.named == Tryz.pinned.checked.prog.varsNamed 4) = true := by kernel_rfl
theorem joined : joinedFacts Tryz.pinned.checked.prog 4 Tryz.f4 (OpenSpec.ofChange Rows.rulesFitsSpec).bare Rows.rulesFitsRow = true := by
  unfold joinedFacts
  rw [j1, j2, j3, j4]
  kernel_rfl
end Go.Proofs.YthknljeffpbbmaaGreatDoor.pFits
