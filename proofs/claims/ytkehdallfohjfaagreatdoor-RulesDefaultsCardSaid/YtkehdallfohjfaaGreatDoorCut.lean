/-
  Plain law:a text cut at a sign. No program in sight.
-/
import Derived.Lib.Bytealg
import Derived.Lib.SplitLaws
namespace Go.Proofs.YtkehdallfohjfaaGreatDoor
end Go.Proofs.YtkehdallfohjfaaGreatDoor