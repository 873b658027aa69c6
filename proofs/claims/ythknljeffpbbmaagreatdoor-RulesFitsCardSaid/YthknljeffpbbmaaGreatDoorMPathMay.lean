/-
  strings.SplitSeq at a separator of one sign: the iterator gives the text's pieces, one by one.
  The walk of path.May: is a text a path?
-/
import Derived.Shelf.Abstract
import Derived.Shelf.RegionOpen
import Derived.OwnWalkIn
import Derived.TacticsInMore
import Derived.LoopNIn
import Derived.LoopIn
import Derived.Test.YthknljeffpbbmaaGreatDoorRangeOver
import Derived.Test.YthknljeffpbbmaaGreatDoorCut
import Derived.Test.YthknljeffpbbmaaGreatDoorShelf
import Derived.Test.YthknljeffpbbmaaGreatDoorMPathPart
namespace Go.Proofs.YthknljeffpbbmaaGreatDoor
open Go Go.RowKit Go.Shelf
attribute [local go_sem] Oper.semAt_some

/-- The world behind SplitSeq: three boxes more. -/
def seqWorld (w : World) (s sep : ByteArray) : World := ((w.alloc (.cells #[.string s] 9)).alloc (.cells #[.string sep] 9)).alloc (.cells #[.int .i64 0] 3)

set_option maxRecDepth 100000 in
set_option maxHeartbeats 400000 in
theorem splitSeq_any (s sep : ByteArray) (w : World) :
    Calls Tryz.prog 40 #[.string s, .string sep] w fun e w' => e = .returned (.func (.func 108) #[] #[.pointer (some ⟨w.heap.size + 1, 0, none⟩), .pointer (some ⟨w.heap.size, 0, none⟩), .pointer (some ⟨w.heap.size + 2, 0, none⟩)]) ∧ w' = seqWorld w s sep := by
  go_enter Tryz.func40, Tryz.ntmps40
  go_wp2
  go_ret
  exact ⟨rfl, rfl⟩

/-- What the iterator does by itself: it turns its first box. What a round leaves it: its three boxes. -/
def SeqAb (B : Nat) (A A' : World) : Prop := ∃ v, A' = A.setCell ⟨B, 0, none⟩ v
def SeqKp (B : Nat) (A A' : World) : Prop := ∀ k, k < B + 3 → B ≤ k → A'.heap[k]? = A.heap[k]?
def SeqNx (c : UInt8) (s : ByteArray) (pre : List ByteArray) (x : ByteArray) : Prop := ((pre ++ [x]).map (·.data.toList)) <+: cutAt c s.data.toList

theorem SeqKp.cell {B : Nat} {A A' : World} (h : SeqKp B A A') {k : Nat} (h1 : k < B + 3) (h2 : B ≤ k) : A'.cell? ⟨k, 0, none⟩ = A.cell? ⟨k, 0, none⟩ := World.cell?_of_block (h k h1 h2)
theorem SeqKp.frozen {B : Nat} {A A' : World} (h : SeqKp B A A') {k : Nat} (h1 : k < B + 3) (h2 : B ≤ k) : A'.frozen? ⟨k, 0, none⟩ = A.frozen? ⟨k, 0, none⟩ := World.frozen?_of_block (h k h1 h2)

/-- How long the text in a box is. -/
def boxLen (W : World) (B : Nat) : Nat := match W.cell? ⟨B, 0, none⟩ with | some (.string s) => s.size | _ => 0
theorem boxLen_of {W : World} {B : Nat} {s : ByteArray} (h : W.cell? ⟨B, 0, none⟩ = some (.string s)) : boxLen W B = s.size := by unfold boxLen; rw [h]

set_option maxRecDepth 100000 in
set_option maxHeartbeats 1000000 in
theorem splitSeq_over (B : Nat) (s : ByteArray) (c : UInt8) (W : World) (hs : s.size ≤ 9223372036854775807)
    (h0 : W.cell? ⟨B, 0, none⟩ = some (.string s)) (hf : W.frozen? ⟨B, 0, none⟩ = false) (h1 : W.cell? ⟨B + 1, 0, none⟩ = some (.string ⟨#[c]⟩)) (h2 : W.cell? ⟨B + 2, 0, none⟩ = some (.int .i64 0)) :
    SeqOver Tryz.prog 108 #[.pointer (some ⟨B + 1, 0, none⟩), .pointer (some ⟨B, 0, none⟩), .pointer (some ⟨B + 2, 0, none⟩)] (fun x : ByteArray => #[.string x]) (SeqAb B) (SeqKp B) (SeqNx c s)
      (fun xs => xs.map (·.data.toList) = cutAt c s.data.toList) (fun pre => pre.map (·.data.toList) <+: cutAt c s.data.toList) W := by
  intro l J Jx hJ hJx hY hJ0
  refine callsIn_of_wp Tryz.func108 rfl trivial ?_ rfl
  simp only [Tryz.ntmps108, List.size_toArray, List.length_cons, List.length_nil, Nat.reduceAdd, Nat.reduceSub, Array.replicate_succ, Array.replicate_zero, List.push_toArray, List.append_toArray, List.nil_append, List.cons_append]
  gi_wp2
  gi_loopw [7, 8] (fun _ _ wr => ∃ (pre : List ByteArray) (cur : ByteArray), wr.cell? ⟨B, 0, none⟩ = some (.string cur) ∧ wr.frozen? ⟨B, 0, none⟩ = false ∧ wr.cell? ⟨B + 1, 0, none⟩ = some (.string ⟨#[c]⟩) ∧ wr.cell? ⟨B + 2, 0, none⟩ = some (.int .i64 0) ∧
      cur.size ≤ 9223372036854775807 ∧ Hid (pre.map (·.data.toList) ++ cutAt c cur.data.toList = cutAt c s.data.toList) ∧ J pre wr)
    (fun _ _ wr => boxLen wr B)
  case atStart => exact ⟨[], s, h0, hf, h1, h2, hs, rfl, hJ0⟩
  case round =>
    obtain ⟨pre, cur, h0, hf, h1, h2, hs, hcut, hJp⟩ := hrel
    have hge := Lib.indexByte_ge cur.data.toList c
    by_cases hm : Lib.indexByte cur.data.toList c < 0
    · have Hlast : Hid (cutAt c cur.data.toList = [cur.data.toList]) := Lib.hid (cutAt_indexByte_miss (by omega))
      obtain ⟨fn, tmps, assign, body, hy, hR⟩ := hY pre cur wr hJp (by unfold SeqNx; rw [← hcut.out, Hlast.out, List.map_append]; exact List.prefix_refl _)
      have HR := Lib.hid hR
      clear hR
      gi_wp2_with fail
      refine ⟨trivial, rfl, ?_⟩
      refine (callsIn_wide.2 (Tryz.strings_Index_one cur c _)).mono ?_
      rintro e w' ⟨rfl, rfl⟩
      gi_wp2_with fail
      refine ⟨rfl, ?_⟩
      refine HR.out.mono ?_
      have Hall : Hid ((pre ++ [cur]).map (·.data.toList) = cutAt c s.data.toList) := Lib.hid (by rw [← hcut.out, Hlast.out, List.map_append]; rfl)
      rintro e W' (⟨rfl, hJ', hk⟩ | ⟨rfl, hJx'⟩)
      · gi_wp2
        go_end0
        exact ⟨⟨_, rfl⟩, .inl ⟨_, Hall.out, hJ'⟩⟩
      · gi_wp2
        go_end0
        exact ⟨⟨_, rfl⟩, .inr ⟨_, by rw [Hall.out]; exact List.prefix_refl _, hJx'⟩⟩
    · obtain ⟨k, hk⟩ : ∃ k : Nat, Lib.indexByte cur.data.toList c = k := ⟨(Lib.indexByte cur.data.toList c).toNat, by omega⟩
      have Hk := Lib.hid hk
      clear hm hge hk
      have hkl : k < cur.size := by have := (indexByte_hit Hk.out).1; rw [len_data] at this; exact this
      have Hcut : Hid (cutAt c cur.data.toList = (cur.extract 0 k).data.toList :: cutAt c (cur.extract (k + 1) cur.size).data.toList) := Lib.hid (by
        rw [cutAt_indexByte Hk.out, drop_data, Lib.extract_data, List.drop_zero, Nat.sub_zero])
      obtain ⟨fn, tmps, assign, body, hy, hR⟩ := hY pre (cur.extract 0 k) wr hJp (by unfold SeqNx; rw [← hcut.out, Hcut.out, List.map_append, List.append_cons]; exact List.prefix_append _ _)
      have HR := Lib.hid hR
      clear hR
      gi_wp2_with fail
      refine ⟨trivial, rfl, ?_⟩
      refine (callsIn_wide.2 (Tryz.strings_Index_one cur c _)).mono ?_
      rintro e w' ⟨rfl, rfl⟩
      rw [Hk.out]
      gi_wp2_with fail
      refine ⟨rfl, ?_⟩
      have hk0 : decide ((k : Int) < 0) = false := by simp
      have Hnext : Hid ((pre ++ [cur.extract 0 k]).map (·.data.toList) ++ cutAt c (cur.extract (k + 1) cur.size).data.toList = cutAt c s.data.toList) := Lib.hid (by
        rw [← hcut.out, Hcut.out, List.map_append, List.append_assoc]; rfl)
      refine HR.out.mono ?_
      rintro e W' (⟨rfl, hJ', hkp⟩ | ⟨rfl, hJx'⟩)
      · have c0 := (hkp.cell (k := B) (by omega) (by omega)).trans h0
        have f0 := (hkp.frozen (k := B) (by omega) (by omega)).trans hf
        have c1 := (hkp.cell (k := B + 1) (by omega) (by omega)).trans h1
        have c2 := (hkp.cell (k := B + 2) (by omega) (by omega)).trans h2
        have HL : Hid (boxLen w' B = cur.size) := Lib.hid (boxLen_of h0)
        have hJ'' := hJ _ _ _ hJ' ⟨.string (cur.extract (k + 1) cur.size), rfl⟩
        clear h0 hf h1 h2 hkp
        have B0 : (W'.setCell ⟨B, 0, none⟩ (.string (cur.extract (k + 1) cur.size))).cell? ⟨B, 0, none⟩ = some (.string (cur.extract (k + 1) cur.size)) := by go_simp
        have B1 : (W'.setCell ⟨B, 0, none⟩ (.string (cur.extract (k + 1) cur.size))).cell? ⟨B + 1, 0, none⟩ = some (.string ⟨#[c]⟩) := by go_simp
        have B2 : (W'.setCell ⟨B, 0, none⟩ (.string (cur.extract (k + 1) cur.size))).cell? ⟨B + 2, 0, none⟩ = some (.int .i64 0) := by go_simp
        have F0 : (W'.setCell ⟨B, 0, none⟩ (.string (cur.extract (k + 1) cur.size))).frozen? ⟨B, 0, none⟩ = false := by go_simp
        have HB := Lib.hid (And.intro B0 (And.intro F0 (And.intro B1 B2)))
        clear B0 B1 B2 F0
        gi_wp2
        exact ⟨⟨pre ++ [cur.extract 0 k], _, HB.out.1, HB.out.2.1, HB.out.2.2.1, HB.out.2.2.2, by rw [ByteArray.size_extract]; omega, Hnext, hJ''⟩, by rw [boxLen_of HB.out.1, HL.out, ByteArray.size_extract]; omega⟩
      · gi_wp2
        refine bodyPost_ret (results_none rfl _ _ _) rfl ?_
        exact ⟨⟨_, rfl⟩, .inr ⟨_, by rw [← Hnext.out]; exact List.prefix_append _ _, hJx'⟩⟩
end Go.Proofs.YthknljeffpbbmaaGreatDoor
namespace Go.Proofs.YthknljeffpbbmaaGreatDoor
open Go Go.RowKit Go.Shelf
attribute [local go_sem] Oper.semAt_some

/-- Is a text a path? -/
def pathOk (l : List UInt8) : Bool := decide ((cutAt 47 l).length ≤ 16) && (cutAt 47 l).all partOk

theorem cell_putObj {A : World} {k : Nat} {o : Obj} {a : Addr} (h : a.block ≠ k) : (A.putObj k o).cell? a = A.cell? a := World.cell?_of_block (World.putObj_heap_other h)
theorem frozen_putObj {A : World} {k : Nat} {o : Obj} {a : Addr} (h : a.block ≠ k) : (A.putObj k o).frozen? a = A.frozen? a := World.frozen?_of_block (World.putObj_heap_other h)
theorem below_putObj {B : Nat} {w A : World} (h : Below B w A) {k : Nat} (o : Obj) (hk : B ≤ k) : Below B w (A.putObj k o) :=
  ⟨h.os, h.tape, h.output, by have := h.size; simp [World.putObj]; exact this, fun j hj => (World.putObj_heap_other (by omega)).trans (h.block j hj)⟩

def MayI (R : Nat) (w : World) (pre : List ByteArray) (W : World) : Prop :=
  W.cell? ⟨R + 1, 0, none⟩ = some (.int .i64 pre.length) ∧ W.frozen? ⟨R + 1, 0, none⟩ = false ∧ W.cell? ⟨R, 0, none⟩ = some (.bool false) ∧ W.frozen? ⟨R, 0, none⟩ = false ∧ Below R w W ∧
    pre.length ≤ 16 ∧ (∀ x ∈ pre, partOk x.data.toList = true)
def MayX (R : Nat) (w : World) (s : List UInt8) (c : Code) (_ : List ByteArray) (W : World) : Prop :=
  c = .ret ∧ W.cell? ⟨R, 0, none⟩ = some (.bool false) ∧ Below R w W ∧ pathOk s = false

theorem pathOk_long {s : List UInt8} {pre : List (List UInt8)} (h : pre <+: cutAt 47 s) (hl : 16 < pre.length) : pathOk s = false := by
  have := h.length_le
  unfold pathOk
  rw [decide_eq_false (by omega)]; rfl
theorem pathOk_bad {s : List UInt8} {pre : List (List UInt8)} {x : List UInt8} (h : pre ++ [x] <+: cutAt 47 s) (hx : partOk x = false) : pathOk s = false := by
  obtain ⟨t, ht⟩ := h
  unfold pathOk
  rw [← ht]; simp [hx]
theorem pathOk_yes {s : List UInt8} {pre : List (List UInt8)} (h : pre = cutAt 47 s) (hl : pre.length ≤ 16) (hx : ∀ x ∈ pre, partOk x = true) : pathOk s = true := by
  unfold pathOk
  rw [← h, decide_eq_true hl]; simpa using hx

set_option maxRecDepth 100000 in
set_option maxHeartbeats 1000000 in
theorem pathMay_any (s : ByteArray) (w : World) (hs : s.size ≤ 9223372036854775807) :
    Calls Tryz.prog 17 #[.string s] w (PBelow (pathOk s.data.toList) w) := by
  refine (callsIn_wide (n := 1)).1 ?_
  refine callsIn_of_wp_marks Tryz.func17 rfl trivial ?_ rfl
  simp only [Tryz.ntmps17, List.size_toArray, List.length_cons, List.length_nil, Nat.reduceAdd, Nat.reduceSub, Array.replicate_succ, Array.replicate_zero, List.push_toArray, List.append_toArray, List.nil_append, List.cons_append]
  gi_wp2_with fail
  refine ⟨trivial, ?_⟩
  refine (callsIn_wide.2 (splitSeq_any s ⟨#[47]⟩ _)).mono ?_
  rintro e w' ⟨rfl, rfl⟩
  obtain ⟨W0, hW0⟩ : ∃ W0, W0 = seqWorld ((w.alloc (.cells #[.bool false] 4)).alloc (.cells #[.int .i64 0] 3)) s ⟨#[47]⟩ := ⟨_, rfl⟩
  have hz : W0.heap.size = w.heap.size + 5 := by rw [hW0]; simp [seqWorld]
  have facts : W0.cell? ⟨w.heap.size, 0, none⟩ = some (.bool false) ∧ W0.frozen? ⟨w.heap.size, 0, none⟩ = false ∧ W0.cell? ⟨w.heap.size + 1, 0, none⟩ = some (.int .i64 0) ∧ W0.frozen? ⟨w.heap.size + 1, 0, none⟩ = false ∧
      W0.cell? ⟨w.heap.size + 2, 0, none⟩ = some (.string s) ∧ W0.frozen? ⟨w.heap.size + 2, 0, none⟩ = false ∧ W0.cell? ⟨w.heap.size + 3, 0, none⟩ = some (.string ⟨#[47]⟩) ∧ W0.cell? ⟨w.heap.size + 4, 0, none⟩ = some (.int .i64 0) ∧ Below w.heap.size w W0 := by
    rw [hW0]
    unfold seqWorld
    refine ⟨by go_simp, by go_simp, by go_simp, by go_simp, by go_simp, by go_simp, by go_simp, by go_simp, ?_⟩
    exact (((((Below.refl _ w).alloc (Nat.le_refl _) _).alloc (by simp) _).alloc (by simp; omega) _).alloc (by simp; omega) _).alloc (by simp; omega) _
  rw [← hW0]
  have HW0 := Lib.hid hW0
  clear hW0
  simp only [World.size_alloc]
  obtain ⟨f0, f1, f2, f3, f4, f5, f6, f7, f8⟩ := facts
  gi_wp2
  refine wp_rangeOver (gf := 108) (lb := #[.pointer (some ⟨w.heap.size + 3, 0, none⟩), .pointer (some ⟨w.heap.size + 2, 0, none⟩), .pointer (some ⟨w.heap.size + 4, 0, none⟩)]) rfl (enters_of Tryz.func108 (by kernel_rfl) rfl)
    (encs := fun x : ByteArray => #[.string x]) (Ab := SeqAb (w.heap.size + 2)) (Kp := SeqKp (w.heap.size + 2)) (Nx := SeqNx 47 s) (S := fun xs => xs.map (·.data.toList) = cutAt 47 s.data.toList) (Sp := fun pre => pre.map (·.data.toList) <+: cutAt 47 s.data.toList)
    ?hseq ?hKt ?hKb ?hAb (fun _ => rfl) (MayI w.heap.size w) (MayX w.heap.size w s.data.toList) ?hI ?hIx ?hIA ?hIxA ?h0
    (fun x => { tmps := #[.string s, undef, .pointer (some ⟨w.heap.size, 0, none⟩), .pointer (some ⟨w.heap.size + 1, 0, none⟩), .string x, .string s, .func (.func 108) #[] #[.pointer (some ⟨w.heap.size + 3, 0, none⟩), .pointer (some ⟨w.heap.size + 2, 0, none⟩), .pointer (some ⟨w.heap.size + 4, 0, none⟩)], .string x, undef, undef, undef, undef, undef, undef, undef, undef, undef], defers := [] }) ?assign ?body ?done ?stop
  case hseq =>
    intro W hW
    exact splitSeq_over (w.heap.size + 2) s 47 W hs ((hW.cell (p := ⟨w.heap.size + 2, 0, none⟩) (by simp; omega)).trans f4) ((hW.frozen (p := ⟨w.heap.size + 2, 0, none⟩) (by simp; omega)).trans f5) ((hW.cell (p := ⟨w.heap.size + 3, 0, none⟩) (by simp; omega)).trans f6) ((hW.cell (p := ⟨w.heap.size + 4, 0, none⟩) (by simp; omega)).trans f7)
  case hKt => exact fun A B C h k j h1 h2 => (k j h1 h2).trans (h j h1 h2)
  case hKb => exact fun A k o hk j h1 h2 => World.putObj_heap_other (by omega)
  case hAb =>
    rintro A B ⟨v, rfl⟩ k o hk ho
    rw [Below.heap_setCell _ _ _ _ (by simp; omega)]; exact ho
  case hI =>
    rintro pre A k o ⟨h1, h2, h3, h4, h5, h6⟩ hk
    exact ⟨(cell_putObj (by simp; omega)).trans h1, (frozen_putObj (by simp; omega)).trans h2, (cell_putObj (by simp; omega)).trans h3, (frozen_putObj (by simp; omega)).trans h4, below_putObj h5 _ (by omega), h6⟩
  case hIx =>
    rintro c pre A k o ⟨h1, h3, h5, h6⟩ hk
    exact ⟨h1, (cell_putObj (by simp; omega)).trans h3, below_putObj h5 _ (by omega), h6⟩
  case hIA =>
    rintro pre A B ⟨h1, h2, h3, h4, h5, h6⟩ ⟨v, rfl⟩
    exact ⟨by go_simp, by go_simp, by go_simp, by go_simp, h5.setCell (p := ⟨w.heap.size + 2, 0, none⟩) (by simp) _, h6⟩
  case hIxA =>
    rintro c pre A B ⟨h1, h3, h5, h6⟩ ⟨v, rfl⟩
    exact ⟨h1, by go_simp, h5.setCell (p := ⟨w.heap.size + 2, 0, none⟩) (by simp) _, h6⟩
  case h0 =>
    intro W hW
    exact ⟨(hW.cell (p := ⟨w.heap.size + 1, 0, none⟩) (by simp; omega)).trans f2, (hW.frozen (p := ⟨w.heap.size + 1, 0, none⟩) (by simp; omega)).trans f3, (hW.cell (p := ⟨w.heap.size, 0, none⟩) (by simp; omega)).trans f0, (hW.frozen (p := ⟨w.heap.size, 0, none⟩) (by simp; omega)).trans f1,
      f8.trans (hW.mono (by omega)), Nat.zero_le _, fun x hx => by cases hx⟩
  case assign =>
    intro l x W K hK
    gi_wp2
    exact hK
  case body =>
    rintro l pre x W ⟨h1, h2, h3, h4, h5, h6, h7⟩ hnx hsz
    have H7 := Lib.hid h7
    clear h7
    have hsz' : w.heap.size + 6 < W.heap.size := by omega
    by_cases hn : pre.length < 16
    · gi_wp2_with fail
      refine ⟨trivial, rfl, ?_⟩
      refine (CallsIn.inRound l (callsIn_wide.2 (pathPart_any x _))).mono ?_
      rintro e W' ⟨rfl, hb⟩
      have two : Two W0.heap.size W W' := by
        intro k o hk ho
        rw [hb.block k (by simp; omega), Below.heap_setCell _ _ _ _ (by simp; omega)]; exact ho
      have kp : SeqKp (w.heap.size + 2) W W' := by
        intro k k1 k2
        rw [hb.block k (by simp; omega), Below.heap_setCell _ _ _ _ (by simp; omega)]
      have c1 : W'.cell? ⟨w.heap.size + 1, 0, none⟩ = some (.int .i64 (pre.length + 1)) := by
        rw [hb.cell (p := ⟨w.heap.size + 1, 0, none⟩) (by simp; omega)]; go_simp
      have d1 : W'.frozen? ⟨w.heap.size + 1, 0, none⟩ = false := by
        rw [hb.frozen (p := ⟨w.heap.size + 1, 0, none⟩) (by simp; omega)]; go_simp
      have c0 : W'.cell? ⟨w.heap.size, 0, none⟩ = some (.bool false) := by
        rw [hb.cell (p := ⟨w.heap.size, 0, none⟩) (by simp; omega)]; go_simp
      have d0 : W'.frozen? ⟨w.heap.size, 0, none⟩ = false := by
        rw [hb.frozen (p := ⟨w.heap.size, 0, none⟩) (by simp; omega)]; go_simp
      have bb : Below w.heap.size w W' := (h5.setCell (p := ⟨w.heap.size + 1, 0, none⟩) (by simp) _).trans (hb.mono (by simp; omega))
      have HT := Lib.hid two
      have HKp := Lib.hid kp
      clear two kp h1 h2 h3 h4 h5 hb
      cases hx : partOk x.data.toList
      · have Hx := Lib.hid hx
        clear hx
        gi_wp2_with fail
        refine ⟨fun k o hk ho => ?_, rfl, by go_simp, bb.setCell (p := ⟨w.heap.size, 0, none⟩) (by simp) _, pathOk_bad (pre := pre.map (·.data.toList)) (x := x.data.toList) (by simpa [SeqNx] using hnx) Hx.out⟩
        rw [Below.heap_setCell _ _ _ _ (by simp; omega)]
        exact HT.out k o hk ho
      · have Hx := Lib.hid hx
        clear hx
        gi_wp2_with fail
        exact ⟨HT.out, HKp.out, by simpa using c1, d1, c0, d0, bb, by simp; omega, fun y hy => by rcases List.mem_append.1 hy with h | h; (exact H7.out y h); (rw [List.mem_singleton.1 h]; exact Hx.out)⟩
    · gi_wp2_with fail
      refine ⟨trivial, ?_⟩
      gi_wp2_with fail
      refine ⟨fun k o hk ho => ?_, rfl, by go_simp, (h5.setCell (p := ⟨w.heap.size + 1, 0, none⟩) (by simp) _).setCell (p := ⟨w.heap.size, 0, none⟩) (by simp) _, pathOk_long (show (pre ++ [x]).map (fun y : ByteArray => y.data.toList) <+: cutAt 47 s.data.toList from hnx) (by simp; omega)⟩
      rw [Below.heap_setCell _ _ _ _ (by simp; omega), Below.heap_setCell _ _ _ _ (by simp; omega)]
      exact ho
  case done =>
    rintro D xs W hD hS ⟨h1, h2, h3, h4, h5, h6, h7⟩ hK
    have H7 := Lib.hid h7
    have HS := Lib.hid hS
    clear h7 hS
    gi_wp2_with fail
    have hK' : (W.setCell ⟨w.heap.size, 0, none⟩ (.bool true)).heap[D]? = some (.deferred (some [])) := by
      rw [Below.heap_setCell _ _ _ _ (by simp; omega)]; exact hK
    refine ⟨by simp, .inl ⟨_, _, rfl, run_takeDeferred hK', ?_⟩⟩
    have hc : ((W.setCell ⟨w.heap.size, 0, none⟩ (.bool true)).putObj D (.deferred none)).cell? ⟨w.heap.size, 0, none⟩ = some (.bool true) := by
      rw [cell_putObj (by simp; omega)]; go_simp
    refine ⟨.bool true, by simp [results, Tryz.results17, go_sem, hc], ret_bool (pathOk_yes HS.out (by simpa using h6) (by intro y hy; obtain ⟨x, hx, rfl⟩ := List.mem_map.1 hy; exact H7.out x hx)).symm, ?_⟩
    exact below_putObj (h5.setCell (p := ⟨w.heap.size, 0, none⟩) (by simp) _) _ (by omega)
  case stop =>
    rintro D c pre W hD hSp ⟨rfl, h3, h5, h6⟩ hK
    have H6 := Lib.hid h6
    have HS := Lib.hid hSp
    clear h6 hSp
    gi_wp2_with fail
    refine ⟨by simp, .inl ⟨_, _, rfl, run_takeDeferred hK, ?_⟩⟩
    have hc : (W.putObj D (.deferred none)).cell? ⟨w.heap.size, 0, none⟩ = some (.bool false) := by
      rw [cell_putObj (by simp; omega)]; exact h3
    exact ⟨.bool false, by simp [results, Tryz.results17, go_sem, hc], ret_bool H6.out.symm, below_putObj h5 _ (by omega)⟩
end Go.Proofs.YthknljeffpbbmaaGreatDoor
