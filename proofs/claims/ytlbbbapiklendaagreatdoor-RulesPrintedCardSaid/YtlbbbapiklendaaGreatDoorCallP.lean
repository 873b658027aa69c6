/-
  The walk of the plain host's Call,at a call that it knows,with as many arguments as it wants,none of them named.
-/
import Derived.Test.YtlbbbapiklendaaGreatDoorCalls
import Derived.Test.YtlbbbapiklendaaGreatDoorMEh
namespace Go.Proofs.YtlbbbapiklendaaGreatDoor
open Go Go.RowKit Go.Maps Go.WideMaps
structure CB(w W:World)(x:Array Value):Prop where
 below:Below w.heap.size w W
 c:W.heap[w.heap.size+1]? = some (.cells x 201 (0,0))
 r:W.heap[w.heap.size+1+1]? = some (.cells #[.int .i64 0,.int .i64 0,.string ⟨#[]⟩,.slice none 0 0,.slice none 0 0] 53 (0,0))
theorem CB.later{w W W' x}(h:CB w W x)(hb:Below W.heap.size W W'):CB w W' x:=
 ⟨h.below.trans (hb.mono h.below.size),stays h.c hb,stays h.r hb⟩
theorem CB.new{w W x}(h:CB w W x){n}(hn:w.heap.size+3<=n){W'}(hb:Below n W W'):CB w W' x:=
 ⟨h.below.trans (hb.mono (by omega)),(hb.block _ (by omega)).trans h.c,(hb.block _ (by omega)).trans h.r⟩
theorem Uy(w o x):CB w (((w.alloc o).alloc (.cells x 201)).alloc (.cells #[.int .i64 0,.int .i64 0,.string ⟨#[]⟩,.slice none 0 0,.slice none 0 0] 53)) x:=by
 obtain⟨-,h2,h3,h4,-⟩:=Gg w o (.cells x 201) (.cells #[.int .i64 0,.int .i64 0,.string ⟨#[]⟩,.slice none 0 0,.slice none 0 0] 53);exact⟨h4,h2,h3⟩
theorem zeroDoes(w):(zeroValue 331).run Tryz.prog w = .ok (.agg #[.int .i64 0,.nilFunc]) w:=by kernel_rfl
theorem callsKeys(b1 b2 b3):J0 Tryz.prog 9 (Cm b1 b2 b3):=by
 intro p hp;simp only[Cm,Br,List.cons_append,List.nil_append,List.mem_cons,List.not_mem_nil,or_false] at hp;rcases hp with rfl|rfl|rfl|rfl|rfl|rfl|rfl|rfl|rfl<;>exact⟨_,keyOf_string_mk Tryz.underlying9 (by decide)⟩
end Go.Proofs.YtlbbbapiklendaaGreatDoor