/-
  The walk of globs.plain: may a sign stand in a path's part?
-/
import Derived.Test.YtabobdmgjmgifaaDoorPathMay
namespace Go.Proofs.YtabobdmgjmgifaaDoor
open Go.RowKit

theorem plain_law (c : UInt8) : (pathOk [97, c, 97] && !(c == 47)) = psign c.toNat := by
  have key : ∀ n : Fin 256, (pathOk [97, UInt8.ofNat n.val, 97] && !(UInt8.ofNat n.val == 47)) = psign (UInt8.ofNat n.val).toNat := by decide +kernel
  have h := key ⟨c.toNat, UInt8.toNat_lt c⟩
  have e : UInt8.ofNat c.toNat = c := by simp
  rw [e] at h; exact h

theorem aca (c : UInt8) : (⟨#[97]⟩ ++ ⟨#[c]⟩ ++ ⟨#[97]⟩ : ByteArray) = ⟨#[97, c, 97]⟩ := by
  apply bytes_ext
  simp

set_option maxRecDepth 100000 in
set_option maxHeartbeats 400000 in
theorem plain_any (c : UInt8) (w : World) :
    Calls Tryd.prog 47 #[.int .u8 c.toNat] w (PBelow (psign c.toNat) w) := by
  have hcv : (convert 60 9 (.slice (some ⟨w.heap.size, 0, none⟩) 1 1)).run Tryd.prog (w.alloc (.cells #[.int .u8 c.toNat] 5)) = .ok (.string ⟨#[c]⟩) (w.alloc (.cells #[.int .u8 c.toNat] 5)) :=
    run_convert_bytes_back _ _ _ 5 ⟨w.heap.size, 0, none⟩ 1 [c] Tryd.underlying60 Tryd.underlying5 Tryd.underlying9 (fun j hj => by
      obtain rfl : j = 0 := by simp at hj; exact hj
      go_simp)
  go_enter Tryd.func47, Tryd.ntmps47
  go_wp2_with fail
  rw [aca]
  refine (pathMay_any _ _ (by show 3 ≤ _; omega)).mono ?_
  rintro e w' ⟨rfl, hb⟩
  have H := Lib.hid (plain_law c)
  have hb' : Below w.heap.size w w' := ((Below.refl _ w).alloc (Nat.le_refl _) _).trans (hb.mono (by simp))
  clear hb
  cases hp : pathOk [97, c, 97]
  · have Hp := Lib.hid hp
    clear hp
    go_wp2_with fail
    go_ret
    exact ⟨ret_bool (by rw [← H.out, Hp.out]; rfl), hb'⟩
  · have Hp := Lib.hid hp
    clear hp
    go_wp2_with fail
    go_ret
    refine ⟨ret_bool ?_, hb'⟩
    rw [← H.out, Hp.out]
    rw [Bool.true_and]
    by_cases h : c = 47
    · subst h; rfl
    · rw [beq_false_of_ne h]
      have h2 : ¬ (c.toNat : Int) = 47 := fun e => h (UInt8.toNat_inj.1 (by show c.toNat = 47; omega))
      simpa using h2
end Go.Proofs.YtabobdmgjmgifaaDoor
