/-
  The walk of bloomerylaw04.last: a text's last part.
-/
import Derived.Test.YtabobdmgjmgifaaDoorFixedPlain
import Derived.Lib.LastIndexByte
namespace Go.Proofs.YtabobdmgjmgifaaDoor
open Go Go.RowKit

theorem cutAt_last {c : UInt8} (x y : Bs) (h : c ∉ y) : cutAt c (x ++ c :: y) = cutAt c x ++ [y] := by
  induction x with
  | nil => rw [List.nil_append, cutAt_cons_hit, cutAt_none c y h]; rfl
  | cons z x ih =>
    by_cases hz : z = c
    · subst hz; rw [List.cons_append, cutAt_cons_hit, cutAt_cons_hit, ih]; rfl
    · obtain ⟨a, l, h1, h2⟩ := cutAt_cons_miss hz x
      rw [h2, List.cons_append, cutAt, if_neg hz, ih, h1]; rfl
theorem data_bang (s : ByteArray) (j : Nat) (h : j < s.size) : s.data[j]! = s[j] := getElem!_pos s.data j h
theorem last_cut (s : ByteArray) : (Lib.lastIndexByte s 47 = -1 ∧ cutAt 47 s.data.toList = [s.data.toList]) ∨ ∃ i : Nat, i < s.size ∧ Lib.lastIndexByte s 47 = i ∧ cutAt 47 s.data.toList = cutAt 47 (s.data.toList.take i) ++ [s.data.toList.drop (i + 1)] := by
  have hno : ∀ k, (∀ j, k ≤ j → j < s.size → ((s.data[j]!).toNat : Int) ≠ 47) → (47 : UInt8) ∉ s.data.toList.drop k := by
    intro k h hm
    obtain ⟨j, hj, e⟩ := List.mem_iff_getElem.1 hm
    rw [List.length_drop, len_data] at hj
    rw [List.getElem_drop] at e
    have hb := data_bang s (k + j) (by omega)
    have : s[k + j] = 47 := e
    refine h (k + j) (by omega) (by omega) ?_
    rw [hb, this]; rfl
  rcases Lib.lastIndexByte_spec s 47 with ⟨e, hn⟩ | ⟨i, hi, e, hc, hn⟩
  · left
    refine ⟨e, cutAt_none _ _ ?_⟩
    have := hno 0 (fun j _ h => hn j h)
    simpa using this
  · right
    refine ⟨i, hi, e, ?_⟩
    rw [data_bang s i hi] at hc
    have hc' : s[i] = 47 := UInt8.toNat_inj.1 (show (s[i]).toNat = 47 by omega)
    rw [← cutAt_last _ _ (hno (i + 1) (fun j h => hn j (by omega)))]
    refine congrArg _ ?_
    have : s.data.toList[i]'(by rw [len_data]; exact hi) = 47 := hc'
    rw [← this, ← List.drop_eq_getElem_cons, List.take_append_drop]

def PStrSame (q : Bs → Prop) (w : World) (e : Ending) (w' : World) : Prop := ∃ r : ByteArray, e = .returned (.string r) ∧ q r.data.toList ∧ w' = w

set_option maxRecDepth 100000 in
set_option maxHeartbeats 400000 in
theorem last_any (s : ByteArray) (w : World) (hs : s.size < 4294967281) :
    Calls Tryd.prog 20 #[.string s] w (PStrSame (fun r => ∃ a, cutAt 47 s.data.toList = a ++ [r]) w) := by
  go_enter Tryd.func20, Tryd.ntmps20
  go_wp2_with fail
  refine (Tryd.strings_LastIndexByte s 47 (by omega) _).mono ?_
  rintro e w1 ⟨rfl, rfl⟩
  rcases last_cut s with ⟨e, hc⟩ | ⟨i, hi, e, hc⟩
  · rw [e]
    have Hc : Hid (cutAt 47 s.data.toList = [] ++ [s.data.toList]) := Lib.hid hc
    clear hc e
    go_wp2_with fail
    go_ret
    exact ⟨_, rfl, ⟨_, Hc.out⟩, rfl⟩
  · rw [e]
    have Hc : Hid (cutAt 47 s.data.toList = cutAt 47 (s.data.toList.take i) ++ [(s.extract (i + 1) s.size).data.toList]) := Lib.hid (by rw [hc, drop_data])
    clear hc e
    go_wp2_with fail
    go_ret
    exact ⟨_, rfl, ⟨_, Hc.out⟩, rfl⟩

end Go.Proofs.YtabobdmgjmgifaaDoor
