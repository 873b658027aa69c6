/-
  The walk of the reference's Same: are two rows of texts the same?
-/
import Derived.Test.YtmmflgbhgjefmaaGreatDoorMOwnS
import Derived.Test.YtmmflgbhgjefmaaGreatDoorRegionHeld
import Derived.Deep.QuietTactic
import Derived.BigQuiet
namespace Go.Proofs.YtmmflgbhgjefmaaGreatDoor
open Go Go.RowKit

set_option maxRecDepth 100000 in
set_option maxHeartbeats 1000000 in
theorem same_any (a b : Option Addr) (ca cb : Nat) (l : List ByteArray) (w : World) (hl : l.length ≤ 4294967281) (hat : StrsAt w a l) (hbt : StrsAt w b l) :
    Calls Tryz.prog 12 #[.slice a l.length ca, .slice b l.length cb] w (fun e w' => e = .returned (.bool true) ∧ Below w.heap.size w w') := by
  go_enter Tryz.func12, Tryz.ntmps12
  go_wp2_with fail
  go_loopw [13] (fun i wr => ∃ (k n : Nat), i = .int .i64 k ∧ k ≤ l.length ∧ wr = w.drewN n) (fun i _ => l.length - (intOf i).toNat)
  case atStart => exact ⟨0, 0, rfl, Nat.zero_le _, rfl⟩
  case round =>
    obtain ⟨k, n, rfl, hk, rfl⟩ := hrel
    by_cases hlt : k < l.length
    · obtain ⟨b1, off1, rfl, hc1⟩ := hat.at hlt
      obtain ⟨b2, off2, rfl, hc2⟩ := hbt.at hlt
      generalize l[k] = x at hc1 hc2
      go_wp2_with fail
      go_quiet (fail)
      go_wp2_with fail
      go_roundw
      case rel => exact ⟨k + 1, n + nq, by go_num, by omega, rfl⟩
      case measure => simp only [intOf]; omega
    · go_wp2_with fail
      go_ret
      exact ⟨rfl, below_drewN (Below.refl _ _) n⟩
end Go.Proofs.YtmmflgbhgjefmaaGreatDoor
