/-
  Plain law:what is joined,made lines of,sorted,and counted. No program in sight.
-/
import Derived.Test.YtkehdallfohjfaaGreatDoorMOwnLow
import Derived.Lib.Join
import Derived.Sort.KeysCollected
namespace Go.Proofs.YtkehdallfohjfaaGreatDoor
open Go Go.RowKit
theorem Nq(sep r):(Lib.joinTail sep r).length=r.length*sep.length+(r.map List.length).sum:=by
 induction r with
 | nil=>simp[Lib.joinTail]
 | cons x t ih=>
  have:Lib.joinTail sep (x::t)=(sep++x)++Lib.joinTail sep t:=(by simp[Lib.joinTail]);rw[this,List.length_append,ih];simp[Nat.add_mul];omega
theorem I6(sep l):(Lib.join l sep).length=(l.length - 1)*sep.length+(l.map List.length).sum:=by
 cases l with
 | nil=>simp[Lib.join_nil]
 | cons x r=>
  rw[Lib.join_cons,List.length_append,Nq];simp;omega
end Go.Proofs.YtkehdallfohjfaaGreatDoor