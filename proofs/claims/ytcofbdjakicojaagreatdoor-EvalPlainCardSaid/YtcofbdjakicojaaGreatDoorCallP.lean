/-
  The walk of the plain host's Call, at a call that it knows, with as many arguments as it wants, none of them named.
-/
import Derived.Test.YtcofbdjakicojaaGreatDoorCalls
import Derived.Test.YtcofbdjakicojaaGreatDoorMLimited
import Derived.Test.YtcofbdjakicojaaGreatDoorMOwnsN
import Derived.Test.YtcofbdjakicojaaGreatDoorMHeldSkip
import Derived.Test.YtcofbdjakicojaaGreatDoorMEvW
namespace Go.Proofs.YtcofbdjakicojaaGreatDoor
open Go Go.RowKit Go.Maps Go.WideMaps
structure CB (w W : World) (x : Array Value) : Prop where
 below : Below w.heap.size w W
 c : W.heap[w.heap.size + 1]? = some (.cells x 26 (0, 0))
 r : W.heap[w.heap.size + 1 + 1]? = some (.cells #[.int .i64 0, .int .i64 0, .string ⟨#[]⟩, .slice none 0 0, .slice none 0 0] 31 (0, 0))
theorem CB.later {w W W' : World} {x : Array Value} (h : CB w W x) (hb : Below W.heap.size W W') : CB w W' x :=
 ⟨h.below.trans (hb.mono h.below.size), stays h.c hb, stays h.r hb⟩
theorem CB.new {w W : World} {x : Array Value} (h : CB w W x) {n : Nat} (hn : w.heap.size + 3 ≤ n) {W' : World} (hb : Below n W W') : CB w W' x :=
 ⟨h.below.trans (hb.mono (by omega)), (hb.block _ (by omega)).trans h.c, (hb.block _ (by omega)).trans h.r⟩
theorem Ll (w : World) (o : Obj) (x : Array Value) : CB w (((w.alloc o).alloc (.cells x 26)).alloc (.cells #[.int .i64 0, .int .i64 0, .string ⟨#[]⟩, .slice none 0 0, .slice none 0 0] 31)) x := by
 obtain ⟨-, h2, h3, h4, -⟩ := C4 w o (.cells x 26) (.cells #[.int .i64 0, .int .i64 0, .string ⟨#[]⟩, .slice none 0 0, .slice none 0 0] 31);exact ⟨h4, h2, h3⟩
theorem zeroDoes (w : World) : (zeroValue 253).run Tryz.prog w = .ok (.agg #[.int .i64 0, .nilFunc]) w := by kernel_rfl
theorem callsKeys (b1 b2 b3 : Nat) : Gd Tryz.prog 9 (A2 b1 b2 b3) := by
 intro p hp;simp only [A2, callsHead, List.cons_append, List.nil_append, List.mem_cons, List.not_mem_nil, or_false] at hp;rcases hp with rfl | rfl | rfl | rfl | rfl | rfl | rfl | rfl | rfl <;> exact ⟨_, keyOf_string_mk Tryz.underlying9 (by decide)⟩
def Knows (name : ByteArray) (n : Int) (fn : Nat) : Prop := ∀ b1 b2 b3, (.string name, B3 n fn) ∈ A2 b1 b2 b3 ∧ ∀ v, (.string name, v) ∈ A2 b1 b2 b3 → v = B3 n fn
end Go.Proofs.YtcofbdjakicojaaGreatDoor