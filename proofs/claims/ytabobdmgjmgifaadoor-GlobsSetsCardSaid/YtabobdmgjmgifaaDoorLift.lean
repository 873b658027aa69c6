/-
  What every row of this seat wants: the world of a witness, which holds the two tables of the library that the rows list; what the rows give of the package variable MaxLen.
-/
import Derived.Test.YtabobdmgjmgifaaDoorCards
import Derived.Test.YtabobdmgjmgifaaDoorTie
import Derived.Test.YtabobdmgjmgifaaDoorSplit
import Derived.ProofKit
import Derived.OpenShut
import Derived.Deep.DeepHandedRow
import Derived.Lib.LaidTab
namespace Go.Proofs.YtabobdmgjmgifaaDoor
open Go Go.ChangeShapes Go.WideShapes Go.ChangeAt Go.RowKit

theorem ownKnobNone : ownKnob Tryd.prog.godebug = none := by kernel_rfl

def layCells (ns : List Nat) : Obj → Obj
  | .cells _ t frozen => .cells (ns.map fun n => Value.int .u8 (n : Nat)).toArray t frozen
  | o => o
def layTables (h : Array Obj) : Array Obj :=
  (h.modify 1 (layCells Pinned.utf8FirstZ)).modify 2 (layCells [128, 191, 160, 191, 128, 159, 144, 191, 128, 143, 0, 0, 0, 0, 0, 0, 0, 0, 0, 0, 0, 0, 0, 0, 0, 0, 0, 0, 0, 0, 0, 0])
/-- A WORLD FOR THE WITNESS: the settled one, the tables holding what their initialisers lay. -/
noncomputable def laidWorld (os : Os) : World := { World.holding Tryd.prog os ⟨#[], #[], []⟩ with heap := layTables (World.holding Tryd.prog os ⟨#[], #[], []⟩).heap }

theorem std_of_shaped {W : World} (h : W.ShapedOpen Tryd.prog) : Std W := Tryd.laysM146.s1_3 W h

end Go.Proofs.YtabobdmgjmgifaaDoor
