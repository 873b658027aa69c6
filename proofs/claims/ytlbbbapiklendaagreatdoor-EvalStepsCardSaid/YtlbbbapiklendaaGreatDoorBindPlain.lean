/-
  What a declaration makes of a rule,in plain words;the order of its values plays no part. No program in sight.
-/
import Derived.Test.YtlbbbapiklendaaGreatDoorMSame12
import Derived.Test.YtlbbbapiklendaaGreatDoorMPathCut
namespace Go.Proofs.YtlbbbapiklendaaGreatDoor
open Go Go.RowKit
structure AttrP where
 name:ByteArray
 type:Int
 must:Bool
 dflt:Vl
structure TargetP where
 label:LabelP
 rule:ByteArray
 vals:List (ByteArray×Vl)
 deps:List LabelP
 seen:List ByteArray
end Go.Proofs.YtlbbbapiklendaaGreatDoor