/-
  strings.SplitSeq at a separator of one sign: the iterator gives the text's pieces, one by one.
-/
import Derived.Test.YtabobdmgjmgifaaDoorRangeOver
import Derived.Test.YtabobdmgjmgifaaDoorCut
import Derived.Test.YtabobdmgjmgifaaDoorShelf
import Derived.Shelf.Abstract
import Derived.Shelf.RegionOpen
import Derived.OwnWalkIn
import Derived.TacticsInMore
import Derived.LoopNIn
import Derived.LoopIn
namespace Go.Proofs.YtabobdmgjmgifaaDoor
open Go Go.RowKit Go.Shelf
attribute [local go_sem] Oper.semAt_some

/-- The world behind SplitSeq: three boxes more. -/
def seqWorld (w : World) (s sep : ByteArray) : World := ((w.alloc (.cells #[.string s] 9)).alloc (.cells #[.string sep] 9)).alloc (.cells #[.int .i64 0] 3)

set_option maxRecDepth 100000 in
set_option maxHeartbeats 400000 in
theorem splitSeq_any (s sep : ByteArray) (w : World) :
    Calls Tryd.prog 48 #[.string s, .string sep] w fun e w' => e = .returned (.func (.func 84) #[] #[.pointer (some ⟨w.heap.size + 1, 0, none⟩), .pointer (some ⟨w.heap.size, 0, none⟩), .pointer (some ⟨w.heap.size + 2, 0, none⟩)]) ∧ w' = seqWorld w s sep := by
  go_enter Tryd.func48, Tryd.ntmps48
  go_wp2
  go_ret
  exact ⟨rfl, rfl⟩

/-- What the iterator does by itself: it turns its first box. What a round leaves it: its three boxes. -/
def SeqAb (B : Nat) (A A' : World) : Prop := ∃ v, A' = A.setCell ⟨B, 0, none⟩ v
def SeqKp (B : Nat) (A A' : World) : Prop := ∀ k, k < B + 3 → B ≤ k → A'.heap[k]? = A.heap[k]?
def SeqNx (c : UInt8) (s : ByteArray) (pre : List ByteArray) (x : ByteArray) : Prop := ((pre ++ [x]).map (·.data.toList)) <+: cutAt c s.data.toList

theorem SeqKp.cell {B : Nat} {A A' : World} (h : SeqKp B A A') {k : Nat} (h1 : k < B + 3) (h2 : B ≤ k) : A'.cell? ⟨k, 0, none⟩ = A.cell? ⟨k, 0, none⟩ := World.cell?_of_block (h k h1 h2)
theorem SeqKp.frozen {B : Nat} {A A' : World} (h : SeqKp B A A') {k : Nat} (h1 : k < B + 3) (h2 : B ≤ k) : A'.frozen? ⟨k, 0, none⟩ = A.frozen? ⟨k, 0, none⟩ := World.frozen?_of_block (h k h1 h2)

/-- How long the text in a box is. -/
def boxLen (W : World) (B : Nat) : Nat := match W.cell? ⟨B, 0, none⟩ with | some (.string s) => s.size | _ => 0
theorem boxLen_of {W : World} {B : Nat} {s : ByteArray} (h : W.cell? ⟨B, 0, none⟩ = some (.string s)) : boxLen W B = s.size := by unfold boxLen; rw [h]

set_option maxRecDepth 100000 in
set_option maxHeartbeats 1000000 in
theorem splitSeq_over (B : Nat) (s : ByteArray) (c : UInt8) (W : World) (hs : s.size ≤ 9223372036854775807)
    (h0 : W.cell? ⟨B, 0, none⟩ = some (.string s)) (hf : W.frozen? ⟨B, 0, none⟩ = false) (h1 : W.cell? ⟨B + 1, 0, none⟩ = some (.string ⟨#[c]⟩)) (h2 : W.cell? ⟨B + 2, 0, none⟩ = some (.int .i64 0)) :
    SeqOver Tryd.prog 84 #[.pointer (some ⟨B + 1, 0, none⟩), .pointer (some ⟨B, 0, none⟩), .pointer (some ⟨B + 2, 0, none⟩)] (fun x : ByteArray => #[.string x]) (SeqAb B) (SeqKp B) (SeqNx c s)
      (fun xs => xs.map (·.data.toList) = cutAt c s.data.toList) (fun pre => pre.map (·.data.toList) <+: cutAt c s.data.toList) W := by
  intro l J Jx hJ hJx hY hJ0
  refine callsIn_of_wp Tryd.func84 rfl trivial ?_ rfl
  simp only [Tryd.ntmps84, List.size_toArray, List.length_cons, List.length_nil, Nat.reduceAdd, Nat.reduceSub, Array.replicate_succ, Array.replicate_zero, List.push_toArray, List.append_toArray, List.nil_append, List.cons_append]
  gi_wp2
  gi_loopw [7, 8] (fun _ _ wr => ∃ (pre : List ByteArray) (cur : ByteArray), wr.cell? ⟨B, 0, none⟩ = some (.string cur) ∧ wr.frozen? ⟨B, 0, none⟩ = false ∧ wr.cell? ⟨B + 1, 0, none⟩ = some (.string ⟨#[c]⟩) ∧ wr.cell? ⟨B + 2, 0, none⟩ = some (.int .i64 0) ∧
      cur.size ≤ 9223372036854775807 ∧ Hid (pre.map (·.data.toList) ++ cutAt c cur.data.toList = cutAt c s.data.toList) ∧ J pre wr)
    (fun _ _ wr => boxLen wr B)
  case atStart => exact ⟨[], s, h0, hf, h1, h2, hs, rfl, hJ0⟩
  case round =>
    obtain ⟨pre, cur, h0, hf, h1, h2, hs, hcut, hJp⟩ := hrel
    have hge := Lib.indexByte_ge cur.data.toList c
    by_cases hm : Lib.indexByte cur.data.toList c < 0
    · have Hlast : Hid (cutAt c cur.data.toList = [cur.data.toList]) := Lib.hid (cutAt_indexByte_miss (by omega))
      obtain ⟨fn, tmps, assign, body, hy, hR⟩ := hY pre cur wr hJp (by unfold SeqNx; rw [← hcut.out, Hlast.out, List.map_append]; exact List.prefix_refl _)
      have HR := Lib.hid hR
      clear hR
      gi_wp2_with fail
      refine ⟨trivial, rfl, ?_⟩
      refine (callsIn_wide.2 (Tryd.strings_Index_one cur c _)).mono ?_
      rintro e w' ⟨rfl, rfl⟩
      gi_wp2_with fail
      refine ⟨rfl, ?_⟩
      refine HR.out.mono ?_
      have Hall : Hid ((pre ++ [cur]).map (·.data.toList) = cutAt c s.data.toList) := Lib.hid (by rw [← hcut.out, Hlast.out, List.map_append]; rfl)
      rintro e W' (⟨rfl, hJ', hk⟩ | ⟨rfl, hJx'⟩)
      · gi_wp2
        go_end0
        exact ⟨⟨_, rfl⟩, .inl ⟨_, Hall.out, hJ'⟩⟩
      · gi_wp2
        go_end0
        exact ⟨⟨_, rfl⟩, .inr ⟨_, by rw [Hall.out]; exact List.prefix_refl _, hJx'⟩⟩
    · obtain ⟨k, hk⟩ : ∃ k : Nat, Lib.indexByte cur.data.toList c = k := ⟨(Lib.indexByte cur.data.toList c).toNat, by omega⟩
      have Hk := Lib.hid hk
      clear hm hge hk
      have hkl : k < cur.size := by have := (indexByte_hit Hk.out).1; rw [len_data] at this; exact this
      have Hcut : Hid (cutAt c cur.data.toList = (cur.extract 0 k).data.toList :: cutAt c (cur.extract (k + 1) cur.size).data.toList) := Lib.hid (by
        rw [cutAt_indexByte Hk.out, drop_data, Lib.extract_data, List.drop_zero, Nat.sub_zero])
      obtain ⟨fn, tmps, assign, body, hy, hR⟩ := hY pre (cur.extract 0 k) wr hJp (by unfold SeqNx; rw [← hcut.out, Hcut.out, List.map_append, List.append_cons]; exact List.prefix_append _ _)
      have HR := Lib.hid hR
      clear hR
      gi_wp2_with fail
      refine ⟨trivial, rfl, ?_⟩
      refine (callsIn_wide.2 (Tryd.strings_Index_one cur c _)).mono ?_
      rintro e w' ⟨rfl, rfl⟩
      rw [Hk.out]
      gi_wp2_with fail
      refine ⟨rfl, ?_⟩
      have hk0 : decide ((k : Int) < 0) = false := by simp
      have Hnext : Hid ((pre ++ [cur.extract 0 k]).map (·.data.toList) ++ cutAt c (cur.extract (k + 1) cur.size).data.toList = cutAt c s.data.toList) := Lib.hid (by
        rw [← hcut.out, Hcut.out, List.map_append, List.append_assoc]; rfl)
      refine HR.out.mono ?_
      rintro e W' (⟨rfl, hJ', hkp⟩ | ⟨rfl, hJx'⟩)
      · have c0 := (hkp.cell (k := B) (by omega) (by omega)).trans h0
        have f0 := (hkp.frozen (k := B) (by omega) (by omega)).trans hf
        have c1 := (hkp.cell (k := B + 1) (by omega) (by omega)).trans h1
        have c2 := (hkp.cell (k := B + 2) (by omega) (by omega)).trans h2
        have HL : Hid (boxLen w' B = cur.size) := Lib.hid (boxLen_of h0)
        have hJ'' := hJ _ _ _ hJ' ⟨.string (cur.extract (k + 1) cur.size), rfl⟩
        clear h0 hf h1 h2 hkp
        have B0 : (W'.setCell ⟨B, 0, none⟩ (.string (cur.extract (k + 1) cur.size))).cell? ⟨B, 0, none⟩ = some (.string (cur.extract (k + 1) cur.size)) := by go_simp
        have B1 : (W'.setCell ⟨B, 0, none⟩ (.string (cur.extract (k + 1) cur.size))).cell? ⟨B + 1, 0, none⟩ = some (.string ⟨#[c]⟩) := by go_simp
        have B2 : (W'.setCell ⟨B, 0, none⟩ (.string (cur.extract (k + 1) cur.size))).cell? ⟨B + 2, 0, none⟩ = some (.int .i64 0) := by go_simp
        have F0 : (W'.setCell ⟨B, 0, none⟩ (.string (cur.extract (k + 1) cur.size))).frozen? ⟨B, 0, none⟩ = false := by go_simp
        have HB := Lib.hid (And.intro B0 (And.intro F0 (And.intro B1 B2)))
        clear B0 B1 B2 F0
        gi_wp2
        exact ⟨⟨pre ++ [cur.extract 0 k], _, HB.out.1, HB.out.2.1, HB.out.2.2.1, HB.out.2.2.2, by rw [ByteArray.size_extract]; omega, Hnext, hJ''⟩, by rw [boxLen_of HB.out.1, HL.out, ByteArray.size_extract]; omega⟩
      · gi_wp2
        refine bodyPost_ret (results_none rfl _ _ _) rfl ?_
        exact ⟨⟨_, rfl⟩, .inr ⟨_, by rw [← Hnext.out]; exact List.prefix_append _ _, hJx'⟩⟩
end Go.Proofs.YtabobdmgjmgifaaDoor
