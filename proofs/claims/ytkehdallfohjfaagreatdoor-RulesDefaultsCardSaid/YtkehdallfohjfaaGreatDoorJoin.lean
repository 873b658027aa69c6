/-
  The walk of the plain host's join,where what is joined isn't too long.
-/
import Derived.Test.YtkehdallfohjfaaGreatDoorMGreatX
import Derived.Test.YtkehdallfohjfaaGreatDoorMLoadGood
import Derived.Test.YtkehdallfohjfaaGreatDoorListsPlain
import Derived.Test.YtkehdallfohjfaaGreatDoorShelf
namespace Go.Proofs.YtkehdallfohjfaaGreatDoor
open Go Go.RowKit
def joinB(l:List ByteArray)(sep:ByteArray):ByteArray:=⟨(Lib.join (l.map (·.data.toList)) sep.data.toList).toArray⟩
theorem Mh(a cap ts sep w)(hst:B9 w a ts)(hcap:ts.length<=cap)(hlen:ts.length<=1000)(hsz:(joinB ts sep).size<=140737488355328):
  Calls Tryz.prog 41 #[.slice a ts.length cap,.string sep] w (fun e w'=>e = .returned (.string (joinB ts sep))/\Below w.heap.size w w'):=by
 cases ts with
 | nil=>
  refine(Tryz.strings_Join_none a cap sep w).mono ?_;rintro e w' ⟨rfl,hw⟩;rw[hw];exact⟨rfl,Below.refl _ _⟩
 | cons x r=>
  obtain⟨b,off,rfl,hc⟩:=hst 0 x rfl;refine Tryz.strings_Join b off cap (x::r) sep w (fun j y hj=>?_) ?_ (by omega) hcap hsz
  ·obtain⟨b',off',he,h⟩:=hst j y hj;cases he;exact h
  ·exact Ar hc
end Go.Proofs.YtkehdallfohjfaaGreatDoor