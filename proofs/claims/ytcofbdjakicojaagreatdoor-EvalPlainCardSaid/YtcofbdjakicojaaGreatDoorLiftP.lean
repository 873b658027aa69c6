/-
  What every row of this seat wants: the world of a witness, in which the listed variables hold what the program's text lays; what the rows give of the package variable ErrRange; how long what comes in is.
-/
import Derived.Test.YtcofbdjakicojaaGreatDoorCards
import Derived.Test.YtcofbdjakicojaaGreatDoorTie
import Derived.Test.YtcofbdjakicojaaGreatDoorMRefPart
import Derived.Test.YtcofbdjakicojaaGreatDoorMEvalPlain
import Derived.ProofKit
import Derived.OpenShut
import Derived.Deep.DeepHandedRow
import Derived.LaidLaws
import Derived.SizedLaws
import Derived.SliceStrings
import Derived.Carry
import Derived.Lib.LaidTab
namespace Go.Proofs.YtcofbdjakicojaaGreatDoor
open Go Go.ChangeShapes Go.WideShapes Go.ChangeAt Go.RowKit
theorem ownKnobNone : ownKnob Tryz.prog.godebug = none := by kernel_rfl
def litVal : DataW Unit → Value
 | .lit (.int q n) => .int q n
 | _ => .bool false
def Ry (d : DataW Unit) : Obj → Obj
 | .cells _ t frozen => .cells (match d with | .agg ps => (ps.map litVal).toArray | _ => #[]) t frozen
 | o => o
def errText : DataW Unit → ByteArray
 | .iface _ (.ptr (.agg [.lit (.string b)])) => ⟨b.toArray⟩
 | _ => ⟨#[]⟩
def layOne (v : Value) : Obj → Obj
 | .cells _ t frozen => .cells #[v] t frozen
 | o => o
noncomputable def lowE : Nat := (World.holding Tryz.prog default ⟨#[], #[], []⟩).heap.size
noncomputable def layAll (h : Array Obj) : Array Obj :=
 ((((h.modify 2 (layOne (.iface 222 (.pointer (some ⟨lowE, 0, none⟩))))).modify 1 (layOne (.iface 222 (.pointer (some ⟨lowE + 1, 0, none⟩))))).modify 3 (Ry Rows.laid_internal_strconv_uint64pow10)).modify
  4 (Ry Rows.laid_math_bits_deBruijn32tab)).modify 5 (Ry Rows.laid_math_bits_deBruijn64tab)
noncomputable def Jz (os : Os) : World :=
 let w0 := World.holding Tryz.prog os ⟨#[.cells #[.string (errText Rows.laid_strconv_ErrRange)] 224, .cells #[.string (errText Rows.laid_strconv_ErrSyntax)] 224], #[], []⟩
 { w0 with heap := layAll w0.heap }
theorem laidVars_mem {P : Program} {w : World} : ∀ {l : List (String × DataW Unit)} {ps : List MemPlace}, DataW.LaidVars P w l ps → ∀ {n : String} {d : DataW Unit}, (n, d) ∈ l →
  ∃ g t cs fuel p, P.globalNamed n = some g ∧ (P.globals[g]?).map (·.type) = some t ∧ w.var? P n = some cs ∧ DataW.trod (fun _ => ()) P w 0 (fun _ => true) false fuel t cs.toList = some (d, p)
 | (n', d') :: r, ps, h, n, d, hm => by
  obtain ⟨g, t, cs, fuel, p, q, h1, h2, h3, h4, h5, -⟩ := h;rcases List.mem_cons.1 hm with he | hm
  ·cases he;exact ⟨g, t, cs, fuel, p, h1, h2, h3, h4⟩
  ·exact laidVars_mem h5 hm
theorem errNamed : Tryz.prog.globalNamed "strconv.ErrRange" = some 2 := by kernel_rfl
theorem errType : (Tryz.prog.globals[2]?).map (·.type) = some 160 := by kernel_rfl
theorem Oo {W : World} {l : List (String × DataW Unit)} (h : laidMet Tryz.prog l W) (hm : ("strconv.ErrRange", Rows.laid_strconv_ErrRange) ∈ l) : Jc W := by
 obtain ⟨ps, hv, -, -⟩ := h;obtain ⟨g, t, cs, fuel, p, h1, h2, h3, h4⟩ := laidVars_mem hv hm;obtain rfl := Option.some.inj (errNamed.symm.trans h1);obtain rfl := Option.some.inj (errType.symm.trans h2);obtain ⟨fuel', u, v, aB, -, -⟩ := iface_of_trod Tryz.underlying160 h4;refine ⟨.iface u v, ?_, .inr ⟨u, v, rfl⟩⟩;have := World.var?_cell errNamed h3 0;obtain ⟨cs⟩ := cs;simp only at aB;subst aB
 simpa using this
theorem powNamed : Tryz.prog.globalNamed "internal/strconv.uint64pow10" = some 3 := by kernel_rfl
theorem powType : (Tryz.prog.globals[3]?).map (·.type) = some 232 := by kernel_rfl
theorem powTab : Rows.laid_internal_strconv_uint64pow10 = (Lib.tabData .u64 Lib.pow10Tab : DataW Unit) := by kernel_rfl
theorem Oq {W : World} {l : List (String × DataW Unit)} (h : laidMet Tryz.prog l W) (hm : ("internal/strconv.uint64pow10", Rows.laid_internal_strconv_uint64pow10) ∈ l) : Dq W := by
 obtain ⟨ps, hv, -, -⟩ := h;obtain ⟨g, t, cs, fuel, p, h1, h2, h3, h4⟩ := laidVars_mem hv hm;obtain rfl := Option.some.inj (powNamed.symm.trans h1);obtain rfl := Option.some.inj (powType.symm.trans h2);rw [powTab] at h4;unfold Dq Lib.TabIs;rw [h3, ← Lib.cells_of_tab Tryz.underlying232 Tryz.underlying158 (by kernel_rfl) (by kernel_rfl) h4]
theorem L4 {W : World} (h : W.ShapedOpen Tryz.prog) : StdB W :=
 cell_of_shapedOpen_int (zero := #[.int .i64 0]) (t := 3) h (of_decide_eq_true (by kernel_rfl)) (by kernel_rfl) rfl (by kernel_rfl) (by kernel_rfl) Tryz.underlying3
theorem laidOutAll : laidOutB Tryz.prog = true := by kernel_rfl
theorem back_any {t : TypeId} (hr : Tryz.prog.readableRec t = true) (ht : t < Tryz.prog.types.size) {H : Type} {enc : TypeId × Value → H} {W W' : World} {v : Value} {d : DataW H} {p : List MemPlace} (h : DataW.Trod enc Tryz.prog W 0 (fun _ => true) true t v d p) (hb : Below W.heap.size W W') (hlt : ∀ x ∈ p, x.block < W.heap.size) :
  DataW.Trod enc Tryz.prog W' 0 (fun b => decide (b < W.heap.size)) true t v d p := Below.trod laidOutAll hr ht h hb hlt
end Go.Proofs.YtcofbdjakicojaaGreatDoor