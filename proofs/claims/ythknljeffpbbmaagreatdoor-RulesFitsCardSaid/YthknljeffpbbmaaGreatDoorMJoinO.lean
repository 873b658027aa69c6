/-
  What every row of this seat wants: the world of a witness, in which the listed variables hold what the program's text lays; what the rows give of the package variables ErrRange and MaxLen.
  The closed facts of RulesOrders' row, one by one (together they ask too much of the kernel's memory).
-/
import Derived.ProofKit
import Derived.OpenShut
import Derived.Deep.DeepHandedRow
import Derived.LaidLaws
import Derived.SizedLaws
import Derived.SliceStrings
import Derived.Carry
import Derived.Lib.LaidTab
import Derived.Test.YthknljeffpbbmaaGreatDoorCards
import Derived.Test.YthknljeffpbbmaaGreatDoorTie
import Derived.Test.YthknljeffpbbmaaGreatDoorLexB
import Derived.Test.YthknljeffpbbmaaGreatDoorMTaken
namespace Go.Proofs.YthknljeffpbbmaaGreatDoor
open Go Go.ChangeShapes Go.WideShapes Go.ChangeAt Go.RowKit

theorem ownKnobNone : ownKnob Tryz.prog.godebug = none := by kernel_rfl

def litVal : DataW Unit → Value
  | .lit (.int q n) => .int q n
  | _ => .bool false
def layAgg (d : DataW Unit) : Obj → Obj
  | .cells _ t frozen => .cells (match d with | .agg ps => (ps.map litVal).toArray | _ => #[]) t frozen
  | o => o
def errText : DataW Unit → ByteArray
  | .iface _ (.ptr (.agg [.lit (.string b)])) => ⟨b.toArray⟩
  | _ => ⟨#[]⟩
def layOne (v : Value) : Obj → Obj
  | .cells _ t frozen => .cells #[v] t frozen
  | o => o
def layCells (ns : List Nat) : Obj → Obj
  | .cells _ t frozen => .cells (ns.map fun n => Value.int .u8 (n : Nat)).toArray t frozen
  | o => o
noncomputable def lowE : Nat := (World.holding Tryz.prog default ⟨#[], #[], []⟩).heap.size
noncomputable def layAll (h : Array Obj) : Array Obj :=
  ((((((h.modify 4 (layOne (.iface 263 (.pointer (some ⟨lowE, 0, none⟩))))).modify 3 (layOne (.iface 263 (.pointer (some ⟨lowE + 1, 0, none⟩))))).modify 5 (layAgg Rows.laid_internal_strconv_uint64pow10)).modify
    6 (layAgg Rows.laid_math_bits_deBruijn32tab)).modify 7 (layAgg Rows.laid_math_bits_deBruijn64tab)).modify 1 (layCells Pinned.utf8FirstZ)).modify 2 (layCells [128, 191, 160, 191, 128, 159, 144, 191, 128, 143, 0, 0, 0, 0, 0, 0, 0, 0, 0, 0, 0, 0, 0, 0, 0, 0, 0, 0, 0, 0, 0, 0])
/-- A WORLD FOR THE WITNESS. -/
noncomputable def laidWorld (os : Os) : World :=
  let w0 := World.holding Tryz.prog os ⟨#[.cells #[.string (errText Rows.laid_strconv_ErrRange)] 265, .cells #[.string (errText Rows.laid_strconv_ErrSyntax)] 265], #[], []⟩
  { w0 with heap := layAll w0.heap }

theorem laidVars_mem {P : Program} {w : World} : ∀ {l : List (String × DataW Unit)} {ps : List MemPlace}, DataW.LaidVars P w l ps → ∀ {n : String} {d : DataW Unit}, (n, d) ∈ l →
    ∃ g t cs fuel p, P.globalNamed n = some g ∧ (P.globals[g]?).map (·.type) = some t ∧ w.var? P n = some cs ∧ DataW.trod (fun _ => ()) P w 0 (fun _ => true) false fuel t cs.toList = some (d, p)
  | (n', d') :: r, ps, h, n, d, hm => by
    obtain ⟨g, t, cs, fuel, p, q, h1, h2, h3, h4, h5, -⟩ := h
    rcases List.mem_cons.1 hm with he | hm
    · cases he
      exact ⟨g, t, cs, fuel, p, h1, h2, h3, h4⟩
    · exact laidVars_mem h5 hm
theorem errNamed : Tryz.prog.globalNamed "strconv.ErrRange" = some 4 := by kernel_rfl
theorem errType : (Tryz.prog.globals[4]?).map (·.type) = some 212 := by kernel_rfl
theorem stdE_of_laid {W : World} {l : List (String × DataW Unit)} (h : laidMet Tryz.prog l W) (hm : ("strconv.ErrRange", Rows.laid_strconv_ErrRange) ∈ l) : StdE W := by
  obtain ⟨ps, hv, -, -⟩ := h
  obtain ⟨g, t, cs, fuel, p, h1, h2, h3, h4⟩ := laidVars_mem hv hm
  obtain rfl := Option.some.inj (errNamed.symm.trans h1)
  obtain rfl := Option.some.inj (errType.symm.trans h2)
  obtain ⟨fuel', u, v, hcs, -, -⟩ := iface_of_trod Tryz.underlying212 h4
  refine ⟨.iface u v, ?_, .inr ⟨u, v, rfl⟩⟩
  have := World.var?_cell errNamed h3 0
  obtain ⟨cs⟩ := cs
  simp only at hcs
  subst hcs
  simpa using this
theorem stdB_of_shaped {W : World} (h : W.ShapedOpen Tryz.prog) : StdB W :=
  cell_of_shapedOpen_int (zero := #[.int .i64 0]) (t := 3) h (of_decide_eq_true (by kernel_rfl)) (by kernel_rfl) rfl (by kernel_rfl) (by kernel_rfl) Tryz.underlying3
theorem laidOutAll : laidOutB Tryz.prog = true := by kernel_rfl
theorem back_any {t : TypeId} (hr : Tryz.prog.readableRec t = true) (ht : t < Tryz.prog.types.size) {H : Type} {enc : TypeId × Value → H} {W W' : World} {v : Value} {d : DataW H} {p : List MemPlace} (h : DataW.Trod enc Tryz.prog W 0 (fun _ => true) true t v d p) (hb : Below W.heap.size W W') (hlt : ∀ x ∈ p, x.block < W.heap.size) :
    DataW.Trod enc Tryz.prog W' 0 (fun b => decide (b < W.heap.size)) true t v d p := Below.trod laidOutAll hr ht h hb hlt
end Go.Proofs.YthknljeffpbbmaaGreatDoor
namespace Go.Proofs.YthknljeffpbbmaaGreatDoor.pOrders
open Go

theorem j1 : (Rows.rulesOrdersRow.inPlace == Tryz.pinned.checked.prog.inPlace 3) = true := by kernel_rfl
theorem j2 : (Rows.rulesOrdersRow.unfollowed == Tryz.pinned.checked.prog.unfollowed 3) = true := by kernel_rfl
theorem j3 : (Rows.rulesOrdersRow.recurses == Tryz.pinned.checked.prog.recurses 3) = true := by kernel_rfl
theorem j4 : (Rows.rulesOrdersRow.named == Tryz.pinned.checked.prog.varsNamed 3) = true := by kernel_rfl
theorem joined : joinedFacts Tryz.pinned.checked.prog 3 Tryz.f3 (OpenSpec.ofChange Rows.rulesOrdersSpec).bare Rows.rulesOrdersRow = true := by
  unfold joinedFacts
  rw [j1, j2, j3, j4]
  kernel_rfl
end Go.Proofs.YthknljeffpbbmaaGreatDoor.pOrders
