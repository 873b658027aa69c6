/-
  What every row of this seat wants: the world of a witness, in which the listed variables hold what the program's text lays; what the rows give of the package variable ErrRange; how long what comes in is.
-/
import Derived.Test.YtmmflgbhgjefmaaGreatDoorCards
import Derived.Test.YtmmflgbhgjefmaaGreatDoorTie
import Derived.Test.YtmmflgbhgjefmaaGreatDoorLexB
import Derived.ProofKit
import Derived.OpenShut
import Derived.Deep.DeepHandedRow
import Derived.LaidLaws
import Derived.SizedLaws
import Derived.SliceStrings
import Derived.Carry
namespace Go.Proofs.YtmmflgbhgjefmaaGreatDoor
open Go Go.ChangeShapes Go.WideShapes Go.ChangeAt Go.RowKit

theorem ownKnobNone : ownKnob Tryz.prog.godebug = none := by kernel_rfl

def litVal : DataW Unit → Value
  | .lit (.int q n) => .int q n
  | _ => .bool false
def layAgg (d : DataW Unit) : Obj → Obj
  | .cells _ t frozen => .cells (match d with | .agg ps => (ps.map litVal).toArray | _ => #[]) t frozen
  | o => o
def errText : DataW Unit → ByteArray
  | .iface _ (.ptr (.agg [.lit (.string b)])) => ⟨b.toArray⟩
  | _ => ⟨#[]⟩
def layOne (v : Value) : Obj → Obj
  | .cells _ t frozen => .cells #[v] t frozen
  | o => o
noncomputable def lowE : Nat := (World.holding Tryz.prog default ⟨#[], #[], []⟩).heap.size
noncomputable def layAll (h : Array Obj) : Array Obj :=
  ((((h.modify 2 (layOne (.iface 189 (.pointer (some ⟨lowE, 0, none⟩))))).modify 1 (layOne (.iface 189 (.pointer (some ⟨lowE + 1, 0, none⟩))))).modify 3 (layAgg Rows.laid_internal_strconv_uint64pow10)).modify
    4 (layAgg Rows.laid_math_bits_deBruijn32tab)).modify 5 (layAgg Rows.laid_math_bits_deBruijn64tab)
/-- A WORLD FOR THE WITNESS. -/
noncomputable def laidWorld (os : Os) : World :=
  let w0 := World.holding Tryz.prog os ⟨#[.cells #[.string (errText Rows.laid_strconv_ErrRange)] 191, .cells #[.string (errText Rows.laid_strconv_ErrSyntax)] 191], #[], []⟩
  { w0 with heap := layAll w0.heap }

theorem laidVars_mem {P : Program} {w : World} : ∀ {l : List (String × DataW Unit)} {ps : List MemPlace}, DataW.LaidVars P w l ps → ∀ {n : String} {d : DataW Unit}, (n, d) ∈ l →
    ∃ g t cs fuel p, P.globalNamed n = some g ∧ (P.globals[g]?).map (·.type) = some t ∧ w.var? P n = some cs ∧ DataW.trod (fun _ => ()) P w 0 (fun _ => true) false fuel t cs.toList = some (d, p)
  | (n', d') :: r, ps, h, n, d, hm => by
    obtain ⟨g, t, cs, fuel, p, q, h1, h2, h3, h4, h5, -⟩ := h
    rcases List.mem_cons.1 hm with he | hm
    · cases he
      exact ⟨g, t, cs, fuel, p, h1, h2, h3, h4⟩
    · exact laidVars_mem h5 hm
theorem errNamed : Tryz.prog.globalNamed "strconv.ErrRange" = some 2 := by kernel_rfl
theorem errType : (Tryz.prog.globals[2]?).map (·.type) = some 128 := by kernel_rfl
theorem stdE_of_laid {W : World} {l : List (String × DataW Unit)} (h : laidMet Tryz.prog l W) (hm : ("strconv.ErrRange", Rows.laid_strconv_ErrRange) ∈ l) : StdE W := by
  obtain ⟨ps, hv, -, -⟩ := h
  obtain ⟨g, t, cs, fuel, p, h1, h2, h3, h4⟩ := laidVars_mem hv hm
  obtain rfl := Option.some.inj (errNamed.symm.trans h1)
  obtain rfl := Option.some.inj (errType.symm.trans h2)
  obtain ⟨fuel', u, v, hcs, -, -⟩ := iface_of_trod Tryz.underlying128 h4
  refine ⟨.iface u v, ?_, .inr ⟨u, v, rfl⟩⟩
  have := World.var?_cell errNamed h3 0
  obtain ⟨cs⟩ := cs
  simp only at hcs
  subst hcs
  simpa using this
end Go.Proofs.YtmmflgbhgjefmaaGreatDoor
