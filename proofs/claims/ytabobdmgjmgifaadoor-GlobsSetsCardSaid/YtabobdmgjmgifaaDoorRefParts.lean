/-
  The walk of the reference's Parts: a text's pieces between strokes.
-/
import Derived.Test.YtabobdmgjmgifaaDoorSplit
import Derived.Test.YtabobdmgjmgifaaDoorRegionMix
import Derived.Laws.OwnMore
namespace Go.Proofs.YtabobdmgjmgifaaDoor
open Go Go.RowKit

theorem infoStr : (Tryd.prog.info? 9).map (fun i => (i.zero, i.size, i.bytes)) = some (some (.string ByteArray.empty), 1, 16) := by kernel_rfl

/-- A slice of the call's own, that holds these strings. -/
def OwnS (w : World) (base : Nat) (v : Value) (l : List ByteArray) : Prop := w.ownsRow base 9 1 v l.length (l.map Value.string)
theorem OwnS.strsAt {w : World} {base : Nat} {v : Value} {l : List ByteArray} (h : OwnS w base v l) : ∃ a cap, v = .slice a l.length cap ∧ StrsAt w a l ∧ l.length ≤ cap := by
  obtain ⟨h1, ⟨rfl, h2⟩ | ⟨g, cap, cur, rfl, h3, h4, h5, h6, h7, h8⟩⟩ := h
  · refine ⟨none, 0, by rw [h2], ?_, by omega⟩
    intro j x hx
    have := (List.getElem?_eq_some_iff.1 hx).1
    omega
  · refine ⟨_, cap, rfl, ?_, h5⟩
    intro j x hx
    have hj := (List.getElem?_eq_some_iff.1 hx).1
    refine ⟨g, 0, rfl, ?_⟩
    have h9 : (cur.toList.take (l.length * 1))[j]? = some (.string x) := by rw [h8, List.getElem?_map, hx]; rfl
    rw [List.getElem?_take_of_lt (by omega), Array.getElem?_toList] at h9
    unfold World.cell?
    simp only [h4, Nat.zero_add, Option.isSome_none, Bool.false_eq_true, if_false]
    exact h9

/-- What the pieces are, when the text's beginning has been cut. -/
theorem cutAt_snoc_hit (c : UInt8) (s : List UInt8) : cutAt c (s ++ [c]) = cutAt c s ++ [[]] := by
  induction s with
  | nil => simp [cutAt]
  | cons x t ih =>
    rw [List.cons_append]
    by_cases hx : x = c
    · rw [cutAt, if_pos hx, ih, cutAt, if_pos hx]; rfl
    · rw [cutAt, if_neg hx, ih, cutAt, if_neg hx]
      have hne := cutAt_ne c t
      cases h : cutAt c t with
      | nil => exact absurd h hne
      | cons a l => rfl
theorem cutAt_snoc_miss (c d : UInt8) (hd : d ≠ c) (s : List UInt8) : ∃ init last, cutAt c s = init ++ [last] ∧ cutAt c (s ++ [d]) = init ++ [last ++ [d]] := by
  induction s with
  | nil => exact ⟨[], [], rfl, by simp [cutAt, hd]⟩
  | cons x t ih =>
    obtain ⟨init, last, h1, h2⟩ := ih
    rw [List.cons_append]
    by_cases hx : x = c
    · exact ⟨[] :: init, last, by rw [cutAt, if_pos hx, h1]; rfl, by rw [cutAt, if_pos hx, h2]; rfl⟩
    · rw [cutAt, if_neg hx, h1, cutAt, if_neg hx, h2]
      cases init with
      | nil => exact ⟨[], x :: last, rfl, rfl⟩
      | cons a init => exact ⟨(x :: a) :: init, last, rfl, rfl⟩

theorem data_append (a b : ByteArray) : (a ++ b).data.toList = a.data.toList ++ b.data.toList := by simp
theorem one_data (s : ByteArray) (k : Nat) (h : k < s.size) : (s.extract k (k + 1)).data.toList = [s[k]] := by
  rw [Lib.extract_data, show k + 1 - k = 1 by omega, List.drop_eq_getElem_cons (by rw [len_data]; exact h)]; rfl
theorem below_drewN {B : Nat} {w w' : World} (h : Below B w w') (n : Nat) : Below B w (w'.drewN n) := ⟨h.os, h.tape, h.output, h.size, h.block⟩

def PParts (c : UInt8) (s : ByteArray) (w : World) (e : Ending) (w' : World) : Prop :=
  ∃ (l : List ByteArray) (v : Value), e = .returned v ∧ l.map (·.data.toList) = cutAt c s.data.toList ∧ OwnS w' w.heap.size v l ∧ Below w.heap.size w w'

set_option maxRecDepth 100000 in
set_option maxHeartbeats 1000000 in
theorem refParts_any (s : ByteArray) (w : World) (hs : s.size ≤ 4294967296) :
    Calls Tryd.prog 28 #[.string s] w (PParts 47 s w) := by
  obtain ⟨i0, hi, hz0, hz1, hz2⟩ := info_parts infoStr
  go_enter Tryd.func28, Tryd.ntmps28
  go_wp2_with fail
  go_loopw [3, 4] (fun v i wr => ∃ (k : Nat) (l : List ByteArray) (v' : Value), v = v' ∧ i = .int .i64 k ∧ k ≤ s.size ∧ OwnS wr w.heap.size v' l ∧ Below w.heap.size w wr ∧ Hid (l.map (·.data.toList) = cutAt 47 (s.data.toList.take k))) (fun _ i _ => s.size - (intOf i).toNat)
  case atStart =>
    refine ⟨0, [ByteArray.empty], _, rfl, rfl, Nat.zero_le _, ?_, (Below.refl _ w).alloc (Nat.le_refl _) _, rfl⟩
    exact World.ownsRow_lit (base := w.heap.size) (size := 1) w #[.string ByteArray.empty] 1 (Nat.le_refl _) (by decide) rfl
  case round =>
    obtain ⟨k, l, v, hv, rfl, hk, hown, hb, hcut⟩ := hrel
    have hv := hv.symm
    subst hv
    by_cases hlt : k < s.size
    · have Hk := Lib.hid (get_data s k hlt)
      have Htk : Hid (s.data.toList.take (k + 1) = s.data.toList.take k ++ [s[k]]) := Lib.hid (by rw [List.take_add_one, Hk.out]; rfl)
      have hlen : l.length ≤ k + 1 := by
        have h1 := congrArg List.length hcut.out
        rw [List.length_map, cutAt_length] at h1
        have h2 := List.count_le_length (a := (47 : UInt8)) (l := s.data.toList.take k)
        have h3 := List.length_take_le k s.data.toList
        omega
      cases hc : ((s[k].toNat : Int) == 47)
      · have Hne : Hid (s[k] ≠ 47) := Lib.hid (by intro h; rw [h] at hc; cases hc)
        obtain ⟨init, lastd, e1, e2⟩ := cutAt_snoc_miss 47 s[k] Hne.out (s.data.toList.take k)
        have hl : l.map (·.data.toList) = init ++ [lastd] := hcut.out.trans e1
        obtain ⟨li, la, rfl⟩ : ∃ li la, l = li ++ [la] := by
          rcases List.eq_nil_or_concat l with rfl | ⟨a, b, rfl⟩
          · simp at hl
          · exact ⟨a, b, by simp⟩
        have hown' : wr.ownsRow w.heap.size 9 1 v (li.length + 1) ((li.map Value.string) ++ [.string la]) := by
          have := hown; unfold OwnS at this; simpa using this
        obtain ⟨g, cap, rfl⟩ := ownsRow_succ hown'
        have hcell : wr.cell? ⟨g, li.length, none⟩ = some (.string la) := by rw [hown'.cellAt li.length (by omega)]; simp
        have hfr := hown'.frozenAt li.length
        have hla : la.size ≤ k := by
          have h1 := cutAt_len_le 47 (s.data.toList.take k) la.data.toList (by rw [← hcut.out]; simp)
          rw [len_data] at h1
          have h2 := List.length_take_le k s.data.toList
          omega
        have hcat : ¬ 9223372036854775807 < la.size + (min (k + 1) s.size - k) := by omega
        have hll : li.length ≤ k := by simp at hlen; omega
        clear hlen
        have Hown := Lib.hid hown'
        have E := Lib.hid (And.intro hl e2)
        clear hown hown' hcut hl e1 e2
        go_wp2_with fail
        refine wp_region_mix [17] (by kernel_rfl) (by kernel_rfl) ?_
        refine mix_quiet 17 (by decide) ?_
        simp only [List.take_succ_cons, List.take_zero, List.drop_succ_cons, List.drop_zero]
        repeat (first
          | go_big_quiet_step (fail)
          | quiet_step (fail))
        refine wpQuiet_nil ?_
        refine mix_heavy (by decide) (fun n K hK => ?_)
        go_wp2_with fail
        refine mix_end (fun m => ?_)
        go_wp2_with fail
        obtain ⟨hrow, hgr⟩ := Hown.out.stored li.length (.string (la ++ s.extract k (k + 1)))
        have hset : ((li.map Value.string) ++ [Value.string la]).set li.length (Value.string (la ++ s.extract k (k + 1))) = (li ++ [la ++ s.extract k (k + 1)]).map Value.string := by
          rw [List.set_append_right _ _ (by simp)]; simp
        rw [hset] at hrow
        have hle := (hrow.lt g rfl).1
        refine ⟨⟨k + 1, li ++ [la ++ s.extract k (k + 1)], _, rfl, by go_num, by omega, ?_, ?_, ?_⟩, by simp only [intOf]; omega⟩
        · unfold OwnS
          rw [List.length_append, List.length_singleton]
          exact hrow
        · exact below_drewN (((below_drewN hb n).setCell (p := ⟨g, li.length, none⟩) hle _)) m
        · refine Lib.hid ?_
          rw [Htk.out, E.out.2, List.map_append]
          have h1 := E.out.1
          rw [List.map_append] at h1
          have h2 := List.append_inj' h1 rfl
          rw [h2.1]
          simp only [List.map_cons, List.map_nil, List.cons.injEq, and_true] at h2 ⊢
          congr 2
          rw [← h2.2, data_append, one_data s k hlt]
      · have His : Hid (s[k] = 47) := Lib.hid (by have := (u8_eq_num (a := s[k]) (n := 47) (by omega)).symm.trans hc; simpa using this)
        have Hown := Lib.hid hown
        clear hown
        go_wp2_with (at_builtin; refine wpList_append_own _ rfl _ _ 28 rfl w.heap.size 9 i0 (.string ByteArray.empty) 1 16 Tryd.underlying28 hi hz0 hz1 hz2 rfl (by decide) _ _ _ rfl (Hown.out.alloc _) ⟨wr.heap.size, 0, none⟩ 1 1 [.string ByteArray.empty] rfl rfl ?c1 ?c2 ?c3 ?c4 ?c5 ?_)
        case c1 => exact fun _ _ h => h
        case c2 => simp [Value.oneCell']
        case c3 => unfold maxLen; omega
        case c4 => omega
        case c5 => have := hb.size; simp; omega
        intro v' w1 hown' hgrow _
        have Hown' := Lib.hid hown'
        have hb1 : Below w.heap.size w w1 := (hb.alloc hb.size _).grown hgrow (by have := hb.size; simp; omega) (fun g hg => (Hown.out.lt g hg).1)
        clear hown' hgrow
        go_wp2_with fail
        refine ⟨⟨k + 1, l ++ [ByteArray.empty], _, rfl, by go_num, by omega, ?_, hb1, ?_⟩, by simp only [intOf]; omega⟩
        · have := Hown'.out
          unfold OwnS
          rw [List.length_append, List.map_append]
          exact this
        · refine Lib.hid ?_
          rw [Htk.out, His.out, cutAt_snoc_hit, List.map_append, hcut.out]; rfl
    · have Hown := Lib.hid hown
      clear hown
      have hall : Hid (l.map (·.data.toList) = cutAt 47 s.data.toList) := Lib.hid (by rw [hcut.out, List.take_of_length_le (by rw [len_data]; omega)])
      go_wp2_with fail
      go_ret
      exact ⟨l, v, rfl, hall.out, Hown.out, hb⟩
end Go.Proofs.YtabobdmgjmgifaaDoor
