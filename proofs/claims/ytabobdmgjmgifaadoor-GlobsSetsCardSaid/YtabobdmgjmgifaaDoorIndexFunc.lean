/-
  slices.IndexFunc and slices.ContainsFunc at strings: the first of a row of which a function says yes. The function may be any; what it does to the world is told by I.
-/
import Derived.Test.YtabobdmgjmgifaaDoorBase
namespace Go.Proofs.YtabobdmgjmgifaaDoor
open Go.RowKit

set_option maxRecDepth 100000 in
set_option maxHeartbeats 400000 in
theorem indexFunc_strs (g : FuncId) (lb : Array Value) (eg : ∀ args w, (callFunc g args).run Tryd.prog w = .ok (.enter g args) w) (a : Option Addr) (cap : Nat) (l : List ByteArray) (q : Nat → Bool) (I : Nat → World → Prop) (w : World)
    (hl : l.length ≤ 9223372036854775807) (h0 : I 0 w) (hI : ∀ k w', I k w' → StrsAt w' a l)
    (hg : ∀ k x w1, l[k]? = some x → I k w1 → (∀ j, j < k → q j = false) → Calls Tryd.prog g (#[.string x] ++ lb) w1 fun e w2 => e = .returned (.bool (q k)) ∧ I (k + 1) w2) :
    Calls Tryd.prog 46 #[.slice a l.length cap, .func (.func g) #[] lb] w (Found q l.length I) := by
  go_enter Tryd.func46, Tryd.ntmps46
  go_wp2
  go_loopw [8] (fun i wr => ∃ k : Nat, i = .int .i64 k ∧ k ≤ l.length ∧ I k wr ∧ ∀ j, j < k → q j = false) (fun i _ => l.length - (intOf i).toNat)
  case atStart => exact ⟨0, rfl, Nat.zero_le _, h0, fun j h => absurd h (Nat.not_lt_zero _)⟩
  case round =>
    obtain ⟨k, rfl, hk, hIk, hq⟩ := hrel
    by_cases hlt : k < l.length
    · obtain ⟨b, off, rfl, hc⟩ := (hI k wr hIk).at hlt
      have hcall := hg k _ wr (List.getElem?_eq_getElem hlt) hIk hq
      have HC := Lib.hid hcall
      clear hcall
      cases hqk : q k
      · have Hqk := Lib.hid hqk
        clear hqk
        have Hq := Lib.hid hq
        clear hq
        go_wp2_with fail
        refine HC.out.mono ?_
        rintro e w2 ⟨rfl, hI2⟩
        rw [Hqk.out]
        go_wp2
        go_roundw
        case rel => exact ⟨k + 1, by go_num, by omega, hI2, fun j hj => by by_cases h : j = k; (rw [h]; exact Hqk.out); exact Hq.out j (by omega)⟩
        case measure => simp only [intOf]; omega
      · have Hqk := Lib.hid hqk
        clear hqk
        have Hq := Lib.hid hq
        clear hq
        go_wp2_with fail
        refine HC.out.mono ?_
        rintro e w2 ⟨rfl, hI2⟩
        rw [Hqk.out]
        go_wp2
        go_ret
        exact .inl ⟨k, hlt, Hqk.out, Hq.out, rfl, hI2⟩
    · obtain rfl : k = l.length := by omega
      have Hq := Lib.hid hq
      clear hq
      go_wp2
      go_ret
      exact .inr ⟨Hq.out, rfl, hIk⟩

set_option maxRecDepth 100000 in
set_option maxHeartbeats 400000 in
theorem containsFunc_strs (g : FuncId) (lb : Array Value) (eg : ∀ args w, (callFunc g args).run Tryd.prog w = .ok (.enter g args) w) (a : Option Addr) (cap : Nat) (l : List ByteArray) (q : Nat → Bool) (I : Nat → World → Prop) (w : World)
    (hl : l.length ≤ 9223372036854775807) (h0 : I 0 w) (hI : ∀ k w', I k w' → StrsAt w' a l)
    (hg : ∀ k x w1, l[k]? = some x → I k w1 → (∀ j, j < k → q j = false) → Calls Tryd.prog g (#[.string x] ++ lb) w1 fun e w2 => e = .returned (.bool (q k)) ∧ I (k + 1) w2) :
    Calls Tryd.prog 25 #[.slice a l.length cap, .func (.func g) #[] lb] w (FoundB q l.length I) := by
  go_enter Tryd.func25, Tryd.ntmps25
  go_wp2_with fail
  refine (indexFunc_strs g lb eg a cap l q I w hl h0 hI hg).mono ?_
  rintro e w2 (⟨i, hi, hqi, hq, rfl, hI2⟩ | ⟨hq, rfl, hI2⟩)
  · have Hq := Lib.hid hq
    clear hq
    have Hqi := Lib.hid hqi
    clear hqi
    go_wp2
    go_ret
    exact .inl ⟨i, hi, Hqi.out, Hq.out, rfl, hI2⟩
  · have Hq := Lib.hid hq
    clear hq
    go_wp2
    go_ret
    exact .inr ⟨Hq.out, rfl, hI2⟩
end Go.Proofs.YtabobdmgjmgifaaDoor
