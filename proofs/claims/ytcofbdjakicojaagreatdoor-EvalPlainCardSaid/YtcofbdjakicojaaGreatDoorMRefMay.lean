/-
  strings.SplitSeq at a separator of one sign: the iterator gives the text's pieces, one by one.
  The walk of path.May: is a text a path?
  Plain laws of paths: their parts, their directories, what lies below a directory. No program in sight.
  The walks of path.cut, Dir's part and Base: a path's directory and its last part.
  The walk of the reference's Parts: a text's pieces between strokes.
  The walks of the reference's May of paths, and of patterns.
-/
import Derived.Shelf.Abstract
import Derived.Shelf.RegionOpen
import Derived.OwnWalkIn
import Derived.TacticsInMore
import Derived.LoopNIn
import Derived.LoopIn
import Derived.Lib.LastIndexByte
import Derived.Laws.OwnMore
import Derived.Test.YtcofbdjakicojaaGreatDoorMRawMap
import Derived.Test.YtcofbdjakicojaaGreatDoorMScanR
import Derived.Test.YtcofbdjakicojaaGreatDoorShelf
import Derived.Test.YtcofbdjakicojaaGreatDoorMRefPart
import Derived.Test.YtcofbdjakicojaaGreatDoorMSix
import Derived.Test.YtcofbdjakicojaaGreatDoorMHeldSkip
namespace Go.Proofs.YtcofbdjakicojaaGreatDoor
open Go Go.RowKit Go.Shelf
open List renaming length_cons → lnC, length_nil → lnN
open Go.Lib renaming hid → Lq7
open Nat renaming le_refl → nlr, zero_le → nlz
set_option maxRecDepth 100000
set_option maxHeartbeats 16000000
attribute [local go_sem] Oper.semAt_some
def Jl (w : World) (s sep : ByteArray) : World := ((w.alloc (.cells #[.string s] 9)).alloc (.cells #[.string sep] 9)).alloc (.cells #[.int .i64 0] 3)
theorem Pe (s sep : ByteArray) (w : World) :
  Calls Tryz.prog 253 #[.string s, .string sep] w fun e w' => e = .returned (.func (.func 269) #[] #[.pointer (some ⟨w.heap.size + 1, 0, none⟩), .pointer (some ⟨w.heap.size, 0, none⟩), .pointer (some ⟨w.heap.size + 2, 0, none⟩)]) ∧ w' = Jl w s sep := by
 go_enter Tryz.func253, Tryz.ntmps253;go_wp2;go_ret;exact ⟨rfl, rfl⟩
def SeqAb (B : Nat) (A A' : World) : Prop := ∃ v, A' = A.setCell ⟨B, 0, none⟩ v
def Mp (B : Nat) (A A' : World) : Prop := ∀ k, k < B + 3 → B ≤ k → A'.heap[k]? = A.heap[k]?
def Q9 (c : UInt8) (s : ByteArray) (pre : List ByteArray) (x : ByteArray) : Prop := ((pre ++ [x]).map (·.data.toList)) <+: cutAt c s.data.toList
theorem Mp.cell {B : Nat} {A A' : World} (h : Mp B A A') {k : Nat} (h1 : k < B + 3) (h2 : B ≤ k) : A'.cell? ⟨k, 0, none⟩ = A.cell? ⟨k, 0, none⟩ := World.cell?_of_block (h k h1 h2)
theorem Mp.frozen {B : Nat} {A A' : World} (h : Mp B A A') {k : Nat} (h1 : k < B + 3) (h2 : B ≤ k) : A'.frozen? ⟨k, 0, none⟩ = A.frozen? ⟨k, 0, none⟩ := World.frozen?_of_block (h k h1 h2)
def Pf (W : World) (B : Nat) : Nat := match W.cell? ⟨B, 0, none⟩ with | some (.string s) => s.size | _ => 0
theorem Oc {W : World} {B : Nat} {s : ByteArray} (h : W.cell? ⟨B, 0, none⟩ = some (.string s)) : Pf W B = s.size := by unfold Pf; rw [h]
theorem M8 (B : Nat) (s : ByteArray) (c : UInt8) (W : World) (hs : s.size ≤ 9223372036854775807)
  (h0 : W.cell? ⟨B, 0, none⟩ = some (.string s)) (hf : W.frozen? ⟨B, 0, none⟩ = false) (h1 : W.cell? ⟨B + 1, 0, none⟩ = some (.string ⟨#[c]⟩)) (h2 : W.cell? ⟨B + 2, 0, none⟩ = some (.int .i64 0)) :
  Th Tryz.prog 269 #[.pointer (some ⟨B + 1, 0, none⟩), .pointer (some ⟨B, 0, none⟩), .pointer (some ⟨B + 2, 0, none⟩)] (fun x : ByteArray => #[.string x]) (SeqAb B) (Mp B) (Q9 c s)
   (fun xs => xs.map (·.data.toList) = cutAt c s.data.toList) (fun pre => pre.map (·.data.toList) <+: cutAt c s.data.toList) W := by
 intro l J Jx hJ hJx hY hJ0;refine callsIn_of_wp Tryz.func269 rfl trivial ?_ rfl;simp only [Tryz.ntmps269, List.size_toArray, lnC, lnN, Nat.reduceAdd, Nat.reduceSub, Array.replicate_succ, Array.replicate_zero, List.push_toArray, List.append_toArray, List.nil_append, List.cons_append]
 gi_wp2
 gi_loopw [7, 8] (fun _ _ wr => ∃ (pre : List ByteArray) (cur : ByteArray), wr.cell? ⟨B, 0, none⟩ = some (.string cur) ∧ wr.frozen? ⟨B, 0, none⟩ = false ∧ wr.cell? ⟨B + 1, 0, none⟩ = some (.string ⟨#[c]⟩) ∧ wr.cell? ⟨B + 2, 0, none⟩ = some (.int .i64 0) ∧
   cur.size ≤ 9223372036854775807 ∧ Hid (pre.map (·.data.toList) ++ cutAt c cur.data.toList = cutAt c s.data.toList) ∧ J pre wr)
  (fun _ _ wr => Pf wr B)
 case atStart => exact ⟨[], s, h0, hf, h1, h2, hs, rfl, hJ0⟩
 case round =>
  obtain ⟨pre, cur, h0, hf, h1, h2, hs, hcut, aH⟩ := hrel;have hge := Lib.indexByte_ge cur.data.toList c;by_cases hm : Lib.indexByte cur.data.toList c < 0
  ·have aB : Hid (cutAt c cur.data.toList = [cur.data.toList]) := Lq7 (Gt (by omega));obtain ⟨fn, tmps, assign, body, hy, hR⟩ := hY pre cur wr aH (by unfold Q9; rw [← hcut.out, aB.out, List.map_append]; exact List.prefix_refl _);have HR := Lq7 hR;clear hR
   gi_wp2_with fail
   refine ⟨trivial, rfl, ?_⟩;refine (callsIn_wide.2 (Tryz.strings_Index_one cur c _)).mono ?_;rintro e w' ⟨rfl, rfl⟩
   gi_wp2_with fail
   refine ⟨rfl, ?_⟩;refine HR.out.mono ?_;have aE : Hid ((pre ++ [cur]).map (·.data.toList) = cutAt c s.data.toList) := Lq7 (by rw [← hcut.out, aB.out, List.map_append]; rfl);rintro e W' (⟨rfl, hJ', hk⟩ | ⟨rfl, hJx'⟩)
   ·gi_wp2
    go_end0
    exact ⟨⟨_, rfl⟩, .inl ⟨_, aE.out, hJ'⟩⟩
   ·gi_wp2
    go_end0
    exact ⟨⟨_, rfl⟩, .inr ⟨_, by rw [aE.out]; exact List.prefix_refl _, hJx'⟩⟩
  ·obtain ⟨k, hk⟩ : ∃ k : Nat, Lib.indexByte cur.data.toList c = k := ⟨(Lib.indexByte cur.data.toList c).toNat, by omega⟩;have Hk := Lq7 hk;clear hm hge hk;have hkl : k < cur.size := (by have := (indexByte_hit Hk.out).1; rw [Af] at this; exact this);have aF : Hid (cutAt c cur.data.toList = (cur.extract 0 k).data.toList :: cutAt c (cur.extract (k + 1) cur.size).data.toList) := Lq7 (by
    rw [La Hk.out, Ek, Lib.extract_data, List.drop_zero, Nat.sub_zero])
   obtain ⟨fn, tmps, assign, body, hy, hR⟩ := hY pre (cur.extract 0 k) wr aH (by unfold Q9; rw [← hcut.out, aF.out, List.map_append, List.append_cons]; exact List.prefix_append _ _);have HR := Lq7 hR;clear hR
   gi_wp2_with fail
   refine ⟨trivial, rfl, ?_⟩;refine (callsIn_wide.2 (Tryz.strings_Index_one cur c _)).mono ?_;rintro e w' ⟨rfl, rfl⟩;rw [Hk.out]
   gi_wp2_with fail
   refine ⟨rfl, ?_⟩;have hk0 : decide ((k : Int) < 0) = false := (by simp);have aC : Hid ((pre ++ [cur.extract 0 k]).map (·.data.toList) ++ cutAt c (cur.extract (k + 1) cur.size).data.toList = cutAt c s.data.toList) := Lq7 (by
    rw [← hcut.out, aF.out, List.map_append, List.append_assoc]; rfl)
   refine HR.out.mono ?_;rintro e W' (⟨rfl, hJ', aG⟩ | ⟨rfl, hJx'⟩)
   ·have c0 := (aG.cell (k := B) (by omega) (by omega)).trans h0;have f0 := (aG.frozen (k := B) (by omega) (by omega)).trans hf;have c1 := (aG.cell (k := B + 1) (by omega) (by omega)).trans h1;have c2 := (aG.cell (k := B + 2) (by omega) (by omega)).trans h2;have HL : Hid (Pf w' B = cur.size) := Lq7 (Oc h0);have hJ'' := hJ _ _ _ hJ' ⟨.string (cur.extract (k + 1) cur.size), rfl⟩;clear h0 hf h1 h2 aG;have B0 : (W'.setCell ⟨B, 0, none⟩ (.string (cur.extract (k + 1) cur.size))).cell? ⟨B, 0, none⟩ = some (.string (cur.extract (k + 1) cur.size)) := (by go_simp);have B1 : (W'.setCell ⟨B, 0, none⟩ (.string (cur.extract (k + 1) cur.size))).cell? ⟨B + 1, 0, none⟩ = some (.string ⟨#[c]⟩) := (by go_simp);have B2 : (W'.setCell ⟨B, 0, none⟩ (.string (cur.extract (k + 1) cur.size))).cell? ⟨B + 2, 0, none⟩ = some (.int .i64 0) := (by go_simp);have F0 : (W'.setCell ⟨B, 0, none⟩ (.string (cur.extract (k + 1) cur.size))).frozen? ⟨B, 0, none⟩ = false := (by go_simp);have HB := Lq7 (And.intro B0 (And.intro F0 (And.intro B1 B2)));clear B0 B1 B2 F0
    gi_wp2
    exact ⟨⟨pre ++ [cur.extract 0 k], _, HB.out.1, HB.out.2.1, HB.out.2.2.1, HB.out.2.2.2, by rw [ByteArray.size_extract]; omega, aC, hJ''⟩, by rw [Oc HB.out.1, HL.out, ByteArray.size_extract]; omega⟩
   ·gi_wp2
    refine bodyPost_ret (results_none rfl _ _ _) rfl ?_;exact ⟨⟨_, rfl⟩, .inr ⟨_, by rw [← aC.out]; exact List.prefix_append _ _, hJx'⟩⟩
attribute [local go_sem] Oper.semAt_some
def Ay (l : List UInt8) : Bool := decide ((cutAt 47 l).length ≤ 16) && (cutAt 47 l).all By
theorem D5 {A : World} {k : Nat} {o : Obj} {a : Addr} (h : a.block ≠ k) : (A.putObj k o).cell? a = A.cell? a := World.cell?_of_block (World.putObj_heap_other h)
theorem Ih {A : World} {k : Nat} {o : Obj} {a : Addr} (h : a.block ≠ k) : (A.putObj k o).frozen? a = A.frozen? a := World.frozen?_of_block (World.putObj_heap_other h)
theorem Ed {B : Nat} {w A : World} (h : Below B w A) {k : Nat} (o : Obj) (hk : B ≤ k) : Below B w (A.putObj k o) :=
 ⟨h.os, h.tape, h.output, by have := h.size; simp [World.putObj]; exact this, fun j hj => (World.putObj_heap_other (by omega)).trans (h.block j hj)⟩
def MayI (R : Nat) (w : World) (pre : List ByteArray) (W : World) : Prop :=
 W.cell? ⟨R + 1, 0, none⟩ = some (.int .i64 pre.length) ∧ W.frozen? ⟨R + 1, 0, none⟩ = false ∧ W.cell? ⟨R, 0, none⟩ = some (.bool false) ∧ W.frozen? ⟨R, 0, none⟩ = false ∧ Below R w W ∧
  pre.length ≤ 16 ∧ (∀ x ∈ pre, By x.data.toList = true)
def MayX (R : Nat) (w : World) (s : List UInt8) (c : Code) (_ : List ByteArray) (W : World) : Prop :=
 c = .ret ∧ W.cell? ⟨R, 0, none⟩ = some (.bool false) ∧ Below R w W ∧ Ay s = false
theorem Qm {s : List UInt8} {pre : List (List UInt8)} (h : pre <+: cutAt 47 s) (hl : 16 < pre.length) : Ay s = false := by
 have := h.length_le;unfold Ay;rw [decide_eq_false (by omega)]; rfl
theorem Sb {s : List UInt8} {pre : List (List UInt8)} {x : List UInt8} (h : pre ++ [x] <+: cutAt 47 s) (hx : By x = false) : Ay s = false := by
 obtain ⟨t, ht⟩ := h;unfold Ay;rw [← ht]; simp [hx]
theorem Sc {s : List UInt8} {pre : List (List UInt8)} (h : pre = cutAt 47 s) (hl : pre.length ≤ 16) (hx : ∀ x ∈ pre, By x = true) : Ay s = true := by
 unfold Ay;rw [← h, decide_eq_true hl]; simpa using hx
theorem G1 (s : ByteArray) (w : World) (hs : s.size ≤ 9223372036854775807) :
  Calls Tryz.prog 246 #[.string s] w (Se (Ay s.data.toList) w) := by
 refine (callsIn_wide (n := 1)).1 ?_;refine callsIn_of_wp_marks Tryz.func246 rfl trivial ?_ rfl;simp only [Tryz.ntmps246, List.size_toArray, lnC, lnN, Nat.reduceAdd, Nat.reduceSub, Array.replicate_succ, Array.replicate_zero, List.push_toArray, List.append_toArray, List.nil_append, List.cons_append]
 gi_wp2_with fail
 refine ⟨trivial, ?_⟩;refine (callsIn_wide.2 (Pe s ⟨#[47]⟩ _)).mono ?_;rintro e w' ⟨rfl, rfl⟩;obtain ⟨W0, aB⟩ : ∃ W0, W0 = Jl ((w.alloc (.cells #[.bool false] 4)).alloc (.cells #[.int .i64 0] 3)) s ⟨#[47]⟩ := ⟨_, rfl⟩;have hz : W0.heap.size = w.heap.size + 5 := (by rw [aB]; simp [Jl]);have facts : W0.cell? ⟨w.heap.size, 0, none⟩ = some (.bool false) ∧ W0.frozen? ⟨w.heap.size, 0, none⟩ = false ∧ W0.cell? ⟨w.heap.size + 1, 0, none⟩ = some (.int .i64 0) ∧ W0.frozen? ⟨w.heap.size + 1, 0, none⟩ = false ∧
   W0.cell? ⟨w.heap.size + 2, 0, none⟩ = some (.string s) ∧ W0.frozen? ⟨w.heap.size + 2, 0, none⟩ = false ∧ W0.cell? ⟨w.heap.size + 3, 0, none⟩ = some (.string ⟨#[47]⟩) ∧ W0.cell? ⟨w.heap.size + 4, 0, none⟩ = some (.int .i64 0) ∧ Below w.heap.size w W0 := by
  rw [aB];unfold Jl;refine ⟨by go_simp, by go_simp, by go_simp, by go_simp, by go_simp, by go_simp, by go_simp, by go_simp, ?_⟩;exact (((((Below.refl _ w).alloc (nlr _) _).alloc (by simp) _).alloc (by simp; omega) _).alloc (by simp; omega) _).alloc (by simp; omega) _
 rw [← aB];have HW0 := Lq7 aB;clear aB;simp only [World.size_alloc];obtain ⟨f0, f1, f2, f3, f4, f5, f6, f7, f8⟩ := facts
 gi_wp2
 refine O6 (gf := 269) (lb := #[.pointer (some ⟨w.heap.size + 3, 0, none⟩), .pointer (some ⟨w.heap.size + 2, 0, none⟩), .pointer (some ⟨w.heap.size + 4, 0, none⟩)]) rfl (enters_of Tryz.func269 (by kernel_rfl) rfl)
  (encs := fun x : ByteArray => #[.string x]) (Ab := SeqAb (w.heap.size + 2)) (Kp := Mp (w.heap.size + 2)) (Nx := Q9 47 s) (S := fun xs => xs.map (·.data.toList) = cutAt 47 s.data.toList) (Sp := fun pre => pre.map (·.data.toList) <+: cutAt 47 s.data.toList)
  ?hseq ?hKt ?hKb ?hAb (fun _ => rfl) (MayI w.heap.size w) (MayX w.heap.size w s.data.toList) ?hI ?hIx ?hIA ?hIxA ?h0
  (fun x => { tmps := #[.string s, undef, .pointer (some ⟨w.heap.size, 0, none⟩), .pointer (some ⟨w.heap.size + 1, 0, none⟩), .string x, .string s, .func (.func 269) #[] #[.pointer (some ⟨w.heap.size + 3, 0, none⟩), .pointer (some ⟨w.heap.size + 2, 0, none⟩), .pointer (some ⟨w.heap.size + 4, 0, none⟩)], .string x, undef, undef, undef, undef, undef, undef, undef, undef, undef], defers := [] }) ?assign ?body ?done ?stop
 case hseq =>
  intro W hW;exact M8 (w.heap.size + 2) s 47 W hs ((hW.cell (p := ⟨w.heap.size + 2, 0, none⟩) (by simp; omega)).trans f4) ((hW.frozen (p := ⟨w.heap.size + 2, 0, none⟩) (by simp; omega)).trans f5) ((hW.cell (p := ⟨w.heap.size + 3, 0, none⟩) (by simp; omega)).trans f6) ((hW.cell (p := ⟨w.heap.size + 4, 0, none⟩) (by simp; omega)).trans f7)
 case hKt => exact fun A B C h k j h1 h2 => (k j h1 h2).trans (h j h1 h2)
 case hKb => exact fun A k o hk j h1 h2 => World.putObj_heap_other (by omega)
 case hAb =>
  rintro A B ⟨v, rfl⟩ k o hk ho;rw [Below.heap_setCell _ _ _ _ (by simp; omega)]; exact ho
 case hI =>
  rintro pre A k o ⟨h1, h2, h3, h4, h5, h6⟩ hk;exact ⟨(D5 (by simp; omega)).trans h1, (Ih (by simp; omega)).trans h2, (D5 (by simp; omega)).trans h3, (Ih (by simp; omega)).trans h4, Ed h5 _ (by omega), h6⟩
 case hIx =>
  rintro c pre A k o ⟨h1, h3, h5, h6⟩ hk;exact ⟨h1, (D5 (by simp; omega)).trans h3, Ed h5 _ (by omega), h6⟩
 case hIA =>
  rintro pre A B ⟨h1, h2, h3, h4, h5, h6⟩ ⟨v, rfl⟩;exact ⟨by go_simp, by go_simp, by go_simp, by go_simp, h5.setCell (p := ⟨w.heap.size + 2, 0, none⟩) (by simp) _, h6⟩
 case hIxA =>
  rintro c pre A B ⟨h1, h3, h5, h6⟩ ⟨v, rfl⟩;exact ⟨h1, by go_simp, h5.setCell (p := ⟨w.heap.size + 2, 0, none⟩) (by simp) _, h6⟩
 case h0 =>
  intro W hW;exact ⟨(hW.cell (p := ⟨w.heap.size + 1, 0, none⟩) (by simp; omega)).trans f2, (hW.frozen (p := ⟨w.heap.size + 1, 0, none⟩) (by simp; omega)).trans f3, (hW.cell (p := ⟨w.heap.size, 0, none⟩) (by simp; omega)).trans f0, (hW.frozen (p := ⟨w.heap.size, 0, none⟩) (by simp; omega)).trans f1,
   f8.trans (hW.mono (by omega)), nlz _, fun x hx => by cases hx⟩
 case assign =>
  intro l x W K hK
  gi_wp2
  exact hK
 case body =>
  rintro l pre x W ⟨h1, h2, h3, h4, h5, h6, h7⟩ aC hsz;have H7 := Lq7 h7;clear h7;have hsz' : w.heap.size + 6 < W.heap.size := (by omega);by_cases hn : pre.length < 16
  ·gi_wp2_with fail
   refine ⟨trivial, rfl, ?_⟩;refine (CallsIn.inRound l (callsIn_wide.2 (O5 x _))).mono ?_;rintro e W' ⟨rfl, hb⟩;have two : Two W0.heap.size W W' := by
    intro k o hk ho;rw [hb.block k (by simp; omega), Below.heap_setCell _ _ _ _ (by simp; omega)]; exact ho
   have kp : Mp (w.heap.size + 2) W W' := by
    intro k k1 k2;rw [hb.block k (by simp; omega), Below.heap_setCell _ _ _ _ (by simp; omega)]
   have c1 : W'.cell? ⟨w.heap.size + 1, 0, none⟩ = some (.int .i64 (pre.length + 1)) := by
    rw [hb.cell (p := ⟨w.heap.size + 1, 0, none⟩) (by simp; omega)]; go_simp
   have d1 : W'.frozen? ⟨w.heap.size + 1, 0, none⟩ = false := by
    rw [hb.frozen (p := ⟨w.heap.size + 1, 0, none⟩) (by simp; omega)]; go_simp
   have c0 : W'.cell? ⟨w.heap.size, 0, none⟩ = some (.bool false) := by
    rw [hb.cell (p := ⟨w.heap.size, 0, none⟩) (by simp; omega)]; go_simp
   have d0 : W'.frozen? ⟨w.heap.size, 0, none⟩ = false := by
    rw [hb.frozen (p := ⟨w.heap.size, 0, none⟩) (by simp; omega)]; go_simp
   have bb : Below w.heap.size w W' := (h5.setCell (p := ⟨w.heap.size + 1, 0, none⟩) (by simp) _).trans (hb.mono (by simp; omega));have HT := Lq7 two;have HKp := Lq7 kp;clear two kp h1 h2 h3 h4 h5 hb;cases hx : By x.data.toList
   ·have Hx := Lq7 hx;clear hx
    gi_wp2_with fail
    refine ⟨fun k o hk ho => ?_, rfl, by go_simp, bb.setCell (p := ⟨w.heap.size, 0, none⟩) (by simp) _, Sb (pre := pre.map (·.data.toList)) (x := x.data.toList) (by simpa [Q9] using aC) Hx.out⟩;rw [Below.heap_setCell _ _ _ _ (by simp; omega)];exact HT.out k o hk ho
   ·have Hx := Lq7 hx;clear hx
    gi_wp2_with fail
    exact ⟨HT.out, HKp.out, by simpa using c1, d1, c0, d0, bb, by simp; omega, fun y hy => by rcases List.mem_append.1 hy with h | h; (exact H7.out y h); (rw [List.mem_singleton.1 h]; exact Hx.out)⟩
  ·gi_wp2_with fail
   refine ⟨trivial, ?_⟩
   gi_wp2_with fail
   refine ⟨fun k o hk ho => ?_, rfl, by go_simp, (h5.setCell (p := ⟨w.heap.size + 1, 0, none⟩) (by simp) _).setCell (p := ⟨w.heap.size, 0, none⟩) (by simp) _, Qm (show (pre ++ [x]).map (fun y : ByteArray => y.data.toList) <+: cutAt 47 s.data.toList from aC) (by simp; omega)⟩;rw [Below.heap_setCell _ _ _ _ (by simp; omega), Below.heap_setCell _ _ _ _ (by simp; omega)];exact ho
 case done =>
  rintro D xs W hD hS ⟨h1, h2, h3, h4, h5, h6, h7⟩ hK;have H7 := Lq7 h7;have HS := Lq7 hS;clear h7 hS
  gi_wp2_with fail
  have hK' : (W.setCell ⟨w.heap.size, 0, none⟩ (.bool true)).heap[D]? = some (.deferred (some [])) := by
   rw [Below.heap_setCell _ _ _ _ (by simp; omega)]; exact hK
  refine ⟨by simp, .inl ⟨_, _, rfl, run_takeDeferred hK', ?_⟩⟩;have hc : ((W.setCell ⟨w.heap.size, 0, none⟩ (.bool true)).putObj D (.deferred none)).cell? ⟨w.heap.size, 0, none⟩ = some (.bool true) := by
   rw [D5 (by simp; omega)]; go_simp
  refine ⟨.bool true, by simp [results, Tryz.results246, go_sem, hc], Ar (Sc HS.out (by simpa using h6) (by intro y hy; obtain ⟨x, hx, rfl⟩ := List.mem_map.1 hy; exact H7.out x hx)).symm, ?_⟩;exact Ed (h5.setCell (p := ⟨w.heap.size, 0, none⟩) (by simp) _) _ (by omega)
 case stop =>
  rintro D c pre W hD aE ⟨rfl, h3, h5, h6⟩ hK;have H6 := Lq7 h6;have HS := Lq7 aE;clear h6 aE
  gi_wp2_with fail
  refine ⟨by simp, .inl ⟨_, _, rfl, run_takeDeferred hK, ?_⟩⟩;have hc : (W.putObj D (.deferred none)).cell? ⟨w.heap.size, 0, none⟩ = some (.bool false) := by
   rw [D5 (by simp; omega)]; exact h3
  exact ⟨.bool false, by simp [results, Tryz.results246, go_sem, hc], Ar H6.out.symm, Ed h5 _ (by omega)⟩
end Go.Proofs.YtcofbdjakicojaaGreatDoor
namespace Go.Proofs.YtcofbdjakicojaaGreatDoor
open Go Go.RowKit
open Go.Lib renaming hid → Lq7
open List renaming length_append → lnA, take_add_one → ltA, take_of_length_le → ltL, length_map → lnM, getElem?_eq_getElem → lgE
open Nat renaming le_refl → nlr, zero_le → nlz
set_option maxRecDepth 100000
set_option maxHeartbeats 16000000
theorem Ei (c : UInt8) (t : List UInt8) : cutAt c (c :: t) = [] :: cutAt c t := by simp [cutAt]
theorem Fi {c x : UInt8} (h : x ≠ c) (t : List UInt8) : ∃ a l, cutAt c t = a :: l ∧ cutAt c (x :: t) = (x :: a) :: l := by
 refine ⟨(cutAt c t).headD [], (cutAt c t).tail, (D7 c t).symm, ?_⟩;rw [cutAt, if_neg h]
def glue : List (List UInt8) → List UInt8
 | [] => []
 | x :: l => if l = [] then x else x ++ 47 :: glue l
theorem Rb (x : List UInt8) : glue [x] = x := by simp [glue]
theorem Vx (x y : List UInt8) (l : List (List UInt8)) : glue (x :: y :: l) = x ++ 47 :: glue (y :: l) := by
 rw [glue, if_neg (by simp)]
theorem Rc (s : List UInt8) : glue (cutAt 47 s) = s := by
 induction s with
 | nil => rfl
 | cons x t ih =>
  by_cases hx : x = 47
  ·subst hx;rw [Ei, glue, if_neg (cutAt_ne _ _), ih]; rfl
  ·obtain ⟨a, l, h1, h2⟩ := Fi hx t;rw [h1] at ih;rw [h2];cases l with
   | nil => rw [Rb] at ih ⊢; rw [ih]
   | cons y l => rw [Vx] at ih ⊢; rw [List.cons_append, ih]
def Jo (s : List UInt8) : List UInt8 := if Ay s then glue (cutAt 47 s).dropLast else []
def under (s d : List UInt8) : Bool := Ay s && (decide ((cutAt 47 d).length < (cutAt 47 s).length) && (cutAt 47 d).isPrefixOf (cutAt 47 s))
theorem Vy {s : List UInt8} (hl : (cutAt 47 s).length = 1) : Jo s = [] := by
 unfold Jo;split
 ·obtain ⟨x, hx⟩ := List.length_eq_one_iff.1 hl;rw [hx]; rfl
 ·rfl
theorem dirOf_up {s : List UInt8} (h : Ay s = true) : Jo s = glue (cutAt 47 s).dropLast := by unfold Jo; rw [if_pos h]
/-! What else the packages ask of paths. -/
theorem Ph (c : UInt8) (a b : List UInt8) : cutAt c (a ++ c :: b) = cutAt c a ++ cutAt c b := by
 induction a with
 | nil => rw [List.nil_append, Ei]; rfl
 | cons x t ih =>
  by_cases hx : x = c
  ·subst hx;rw [List.cons_append, Ei, Ei, ih, List.cons_append]
  ·obtain ⟨u, l, h1, h2⟩ := Fi hx (t ++ c :: b);obtain ⟨u', l', h3, h4⟩ := Fi hx t;rw [List.cons_append, h2, h4];rw [h1, h3, List.cons_append] at ih;injection ih with e1 e2;rw [e1, e2, List.cons_append]
def baseOf (s : List UInt8) : List UInt8 := if Ay s then (cutAt 47 s).getLast (cutAt_ne 47 s) else []
theorem path_one {s : List UInt8} (h : Ay s = true) (hl : (cutAt 47 s).length = 1) : baseOf s = s := by
 unfold baseOf;rw [if_pos h];obtain ⟨x, hx⟩ := List.length_eq_one_iff.1 hl;have h1 := Rc s;rw [hx, Rb] at h1;simp only [hx, List.getLast_singleton];exact h1
def underP (s d : List UInt8) : Bool := Ay s && (d.isEmpty || Ay d && under s d)
theorem cut_last {c : UInt8} (x y : List UInt8) (h : c ∉ y) : cutAt c (x ++ c :: y) = cutAt c x ++ [y] := by
 rw [Ph, Im c y h]
theorem data_bangP (s : ByteArray) (j : Nat) (h : j < s.size) : s.data[j]! = s[j] := getElem!_pos s.data j h
theorem last_cutP (s : ByteArray) : (Lib.lastIndexByte s 47 = -1 ∧ cutAt 47 s.data.toList = [s.data.toList]) ∨ ∃ i : Nat, i < s.size ∧ Lib.lastIndexByte s 47 = i ∧ cutAt 47 s.data.toList = cutAt 47 (s.data.toList.take i) ++ [s.data.toList.drop (i + 1)] := by
 have aE : ∀ k, (∀ j, k ≤ j → j < s.size → ((s.data[j]!).toNat : Int) ≠ 47) → (47 : UInt8) ∉ s.data.toList.drop k := by
  intro k h hm;obtain ⟨j, hj, e⟩ := List.mem_iff_getElem.1 hm;rw [List.length_drop, Af] at hj;rw [List.getElem_drop] at e;have hb := data_bangP s (k + j) (by omega);have : s[k + j] = 47 := e;refine h (k + j) (by omega) (by omega) ?_;rw [hb, this]; rfl
 rcases Lib.lastIndexByte_spec s 47 with ⟨e, hn⟩ | ⟨i, hi, e, hc, hn⟩
 ·left
  refine ⟨e, Im _ _ ?_⟩;have := aE 0 (fun j _ h => hn j h)
  simpa using this
 ·right
  refine ⟨i, hi, e, ?_⟩;rw [data_bangP s i hi] at hc;have hc' : s[i] = 47 := UInt8.toNat_inj.1 (show (s[i]).toNat = 47 by omega);rw [← cut_last _ _ (aE (i + 1) (fun j h => hn j (by omega)))];refine congrArg _ ?_;have : s.data.toList[i]'(by rw [Af]; exact hi) = 47 := hc';rw [← this, ← List.drop_eq_getElem_cons, List.take_append_drop]
theorem O3 {s : List UInt8} (h : Ay s = false) : Jo s = [] ∧ baseOf s = [] := by
 unfold Jo baseOf;rw [h];exact ⟨rfl, rfl⟩
theorem Ql {s : List UInt8} (h : Ay s = true) (hc : cutAt 47 s = [s]) : Jo s = [] ∧ baseOf s = s := by
 have hl : (cutAt 47 s).length = 1 := (by rw [hc]; rfl);exact ⟨Vy hl, path_one h hl⟩
theorem Tf {s a b : List UInt8} (h : Ay s = true) (hc : cutAt 47 s = cutAt 47 a ++ [b]) : Jo s = a ∧ baseOf s = b := by
 refine ⟨?_, ?_⟩
 ·rw [dirOf_up h, hc, List.dropLast_concat, Rc]
 ·unfold baseOf;rw [if_pos h];generalize hg : (cutAt 47 s).getLast (cutAt_ne 47 s) = z;have h2 := List.dropLast_concat_getLast (cutAt_ne 47 s);rw [hg, hc, List.dropLast_concat] at h2;exact List.singleton_inj.1 (List.append_cancel_left h2)
theorem J6 (s : ByteArray) (i : Nat) : (s.extract 0 i).data.toList = s.data.toList.take i := by simp [ByteArray.data_extract]
def PCut (s : ByteArray) (w : World) (e : Ending) (w' : World) : Prop := ∃ d b : ByteArray, e = .returned (.tuple #[.string d, .string b]) ∧ d.data.toList = Jo s.data.toList ∧ b.data.toList = baseOf s.data.toList ∧ Below w.heap.size w w'
theorem cut_any (s : ByteArray) (w : World) (hs : s.size < 4294967281) :
  Calls Tryz.prog 248 #[.string s] w (PCut s w) := by
 have HM := Lq7 (G1 s w (by omega));cases hok : Ay s.data.toList with
 | false =>
  rw [hok] at HM;have Hb := Lq7 (O3 hok);clear hok;go_enter Tryz.func248, Tryz.ntmps248;go_wp2_with fail;refine HM.out.mono ?_;rintro e w1 ⟨rfl, aB⟩;have aC := Lq7 aB;clear aB;go_wp2_with fail;exact bodyPost_ret (v := .tuple #[.string ⟨#[]⟩, .string ⟨#[]⟩]) (by simp [results, Tryz.results248, go_sem]) rfl ⟨_, _, rfl, Hb.out.1.symm, Hb.out.2.symm, aC.out⟩
 | true =>
  rw [hok] at HM;rcases last_cutP s with ⟨e, hc⟩ | ⟨i, hi, e, hc⟩
  ·have Hd := Lq7 (Ql hok hc);clear hok hc;go_enter Tryz.func248, Tryz.ntmps248;go_wp2_with fail;refine HM.out.mono ?_;rintro e' w1 ⟨rfl, aB⟩;have aC := Lq7 aB;clear aB;go_wp2_with fail;refine (Tryz.strings_LastIndexByte s 47 (by omega) _).mono ?_;rintro e' w2 ⟨rfl, hw⟩;have hw := hw.symm;subst hw;rw [e];go_wp2_with fail;exact bodyPost_ret (v := .tuple #[.string ⟨#[]⟩, .string s]) (by simp [results, Tryz.results248, go_sem]) rfl ⟨_, _, rfl, Hd.out.1.symm, Hd.out.2.symm, aC.out⟩
  ·have Hd := Lq7 (Tf hok hc);clear hok hc;go_enter Tryz.func248, Tryz.ntmps248;go_wp2_with fail;refine HM.out.mono ?_;rintro e' w1 ⟨rfl, aB⟩;have aC := Lq7 aB;clear aB;go_wp2_with fail;refine (Tryz.strings_LastIndexByte s 47 (by omega) _).mono ?_;rintro e' w2 ⟨rfl, hw⟩;have hw := hw.symm;subst hw;rw [e];go_wp2_with fail
   go_quiet (fail)
   go_wp2_with fail;exact bodyPost_ret (v := .tuple #[.string (s.extract 0 i), .string (s.extract (i + 1) s.size)]) (by simp [results, Tryz.results248, go_sem]) rfl ⟨_, _, rfl, by rw [Hd.out.1, J6], by rw [Hd.out.2, Ek], Bk aC.out nq⟩
theorem Mb (s : ByteArray) (w : World) (hs : s.size < 4294967281) :
  Calls Tryz.prog 234 #[.string s] w (fun e w' => ∃ b : ByteArray, e = .returned (.string b) ∧ b.data.toList = baseOf s.data.toList ∧ Below w.heap.size w w') := by
 have HC := Lq7 (cut_any s w hs);go_enter Tryz.func234, Tryz.ntmps234;go_wp2_with fail;refine HC.out.mono ?_;rintro e w1 ⟨d, b, rfl, hd, hb, aB⟩;have H1 := Lq7 (And.intro hb aB);clear hd hb aB;go_wp2_with fail;go_ret;exact ⟨_, rfl, H1.out.1, H1.out.2⟩
theorem Mg (c : UInt8) (s : List UInt8) : cutAt c (s ++ [c]) = cutAt c s ++ [[]] := by
 induction s with
 | nil => simp [cutAt]
 | cons x t ih =>
  rw [List.cons_append];by_cases hx : x = c
  ·rw [cutAt, if_pos hx, ih, cutAt, if_pos hx]; rfl
  ·rw [cutAt, if_neg hx, ih, cutAt, if_neg hx];have hne := cutAt_ne c t;cases h : cutAt c t with
   | nil => exact absurd h hne
   | cons a l => rfl
theorem Lc (c d : UInt8) (hd : d ≠ c) (s : List UInt8) : ∃ init last, cutAt c s = init ++ [last] ∧ cutAt c (s ++ [d]) = init ++ [last ++ [d]] := by
 induction s with
 | nil => exact ⟨[], [], rfl, by simp [cutAt, hd]⟩
 | cons x t ih =>
  obtain ⟨init, last, h1, h2⟩ := ih;rw [List.cons_append];by_cases hx : x = c
  ·exact ⟨[] :: init, last, by rw [cutAt, if_pos hx, h1]; rfl, by rw [cutAt, if_pos hx, h2]; rfl⟩
  ·rw [cutAt, if_neg hx, h1, cutAt, if_neg hx, h2];cases init with
   | nil => exact ⟨[], x :: last, rfl, rfl⟩
   | cons a init => exact ⟨(x :: a) :: init, last, rfl, rfl⟩
theorem Qz (a b : ByteArray) : (a ++ b).data.toList = a.data.toList ++ b.data.toList := by simp
theorem one_data (s : ByteArray) (k : Nat) (h : k < s.size) : (s.extract k (k + 1)).data.toList = [s[k]] := by
 rw [Lib.extract_data, show k + 1 - k = 1 by omega, List.drop_eq_getElem_cons (by rw [Af]; exact h)]; rfl
def PParts (c : UInt8) (s : ByteArray) (w : World) (e : Ending) (w' : World) : Prop :=
 ∃ (l : List ByteArray) (v : Value), e = .returned v ∧ l.map (·.data.toList) = cutAt c s.data.toList ∧ OwnS w' w.heap.size v l ∧ Below w.heap.size w w'
theorem Jh (s : ByteArray) (w : World) (hs : s.size ≤ 4294967296) :
  Calls Tryz.prog 50 #[.string s] w (PParts 47 s w) := by
 obtain ⟨i0, hi, hz0, hz1, hz2⟩ := info_parts infoStr;go_enter Tryz.func50, Tryz.ntmps50;go_wp2_with fail
 go_loopw [3, 4] (fun v i wr => ∃ (k : Nat) (l : List ByteArray) (v' : Value), v = v' ∧ i = .int .i64 k ∧ k ≤ s.size ∧ OwnS wr w.heap.size v' l ∧ Below w.heap.size w wr ∧ Hid (l.map (·.data.toList) = cutAt 47 (s.data.toList.take k))) (fun _ i _ => s.size - (intOf i).toNat)
 case atStart =>
  refine ⟨0, [ByteArray.empty], _, rfl, rfl, nlz _, ?_, (Below.refl _ w).alloc (nlr _) _, rfl⟩;exact World.ownsRow_lit (base := w.heap.size) (size := 1) w #[.string ByteArray.empty] 1 (nlr _) (by decide) rfl
 case round =>
  obtain ⟨k, l, v, hv, rfl, hk, hown, hb, hcut⟩ := hrel;have hv := hv.symm;subst hv;by_cases hlt : k < s.size
  ·have Hk := Lq7 (D1 s k hlt);have aH : Hid (s.data.toList.take (k + 1) = s.data.toList.take k ++ [s[k]]) := Lq7 (by rw [ltA, Hk.out]; rfl);have hlen : l.length ≤ k + 1 := by
    have h1 := congrArg List.length hcut.out;rw [lnM, F5] at h1;have h2 := List.count_le_length (a := (47 : UInt8)) (l := s.data.toList.take k);have h3 := List.length_take_le k s.data.toList;omega
   cases hc : ((s[k].toNat : Int) == 47)
   ·have Hne : Hid (s[k] ≠ 47) := Lq7 (by intro h; rw [h] at hc; cases hc);obtain ⟨init, lastd, e1, e2⟩ := Lc 47 s[k] Hne.out (s.data.toList.take k);have hl : l.map (·.data.toList) = init ++ [lastd] := hcut.out.trans e1;obtain ⟨li, la, rfl⟩ : ∃ li la, l = li ++ [la] := by
     rcases List.eq_nil_or_concat l with rfl | ⟨a, b, rfl⟩
     ·simp at hl
     ·exact ⟨a, b, by simp⟩
    have hown' : wr.ownsRow w.heap.size 9 1 v (li.length + 1) ((li.map Value.string) ++ [.string la]) := by
     have := hown; unfold OwnS at this; simpa using this
    obtain ⟨g, cap, rfl⟩ := ownsRow_succ hown';have hcell : wr.cell? ⟨g, li.length, none⟩ = some (.string la) := (by rw [hown'.cellAt li.length (by omega)]; simp);have hfr := hown'.frozenAt li.length;have hla : la.size ≤ k := by
     have h1 := I9 47 (s.data.toList.take k) la.data.toList (by rw [← hcut.out]; simp);rw [Af] at h1;have h2 := List.length_take_le k s.data.toList;omega
    have hcat : ¬ 9223372036854775807 < la.size + (min (k + 1) s.size - k) := (by omega);have hll : li.length ≤ k := (by simp at hlen; omega);clear hlen;have aB := Lq7 hown';have E := Lq7 (And.intro hl e2);clear hown hown' hcut hl e1 e2;go_wp2_with fail;refine Ik [17] (by kernel_rfl) (by kernel_rfl) ?_;refine N8 17 (by decide) ?_;simp only [List.take_succ_cons, List.take_zero, List.drop_succ_cons, List.drop_zero]
    repeat (first
     | go_big_quiet_step (fail)
     | quiet_step (fail))
    refine wpQuiet_nil ?_;refine N9 (by decide) (fun n K hK => ?_);go_wp2_with fail;refine Ti (fun m => ?_);go_wp2_with fail;obtain ⟨aE, hgr⟩ := aB.out.stored li.length (.string (la ++ s.extract k (k + 1)));have aF : ((li.map Value.string) ++ [Value.string la]).set li.length (Value.string (la ++ s.extract k (k + 1))) = (li ++ [la ++ s.extract k (k + 1)]).map Value.string := by
     rw [List.set_append_right _ _ (by simp)]; simp
    rw [aF] at aE;have hle := (aE.lt g rfl).1;refine ⟨⟨k + 1, li ++ [la ++ s.extract k (k + 1)], _, rfl, by go_num, by omega, ?_, ?_, ?_⟩, by simp only [intOf]; omega⟩
    ·unfold OwnS;rw [lnA, List.length_singleton];exact aE
    ·exact Bk (((Bk hb n).setCell (p := ⟨g, li.length, none⟩) hle _)) m
    ·refine Lq7 ?_;rw [aH.out, E.out.2, List.map_append];have h1 := E.out.1;rw [List.map_append] at h1;have h2 := List.append_inj' h1 rfl;rw [h2.1];simp only [List.map_cons, List.map_nil, List.cons.injEq, and_true] at h2 ⊢
     congr 2
     rw [← h2.2, Qz, one_data s k hlt]
   ·have His : Hid (s[k] = 47) := Lq7 (by have := (Na (a := s[k]) (n := 47) (by omega)).symm.trans hc; simpa using this);have aB := Lq7 hown;clear hown
    go_wp2_with (at_builtin; refine wpList_append_own _ rfl _ _ 29 rfl w.heap.size 9 i0 (.string ByteArray.empty) 1 16 Tryz.underlying29 hi hz0 hz1 hz2 rfl (by decide) _ _ _ rfl (aB.out.alloc _) ⟨wr.heap.size, 0, none⟩ 1 1 [.string ByteArray.empty] rfl rfl ?c1 ?c2 ?c3 ?c4 ?c5 ?_)
    case c1 => exact fun _ _ h => h
    case c2 => simp [Value.oneCell']
    case c3 => unfold maxLen; omega
    case c4 => omega
    case c5 => have := hb.size; simp; omega
    intro v' w1 hown' aC _;have Hown' := Lq7 hown';have hb1 : Below w.heap.size w w1 := (hb.alloc hb.size _).grown aC (by have := hb.size; simp; omega) (fun g hg => (aB.out.lt g hg).1);clear hown' aC;go_wp2_with fail;refine ⟨⟨k + 1, l ++ [ByteArray.empty], _, rfl, by go_num, by omega, ?_, hb1, ?_⟩, by simp only [intOf]; omega⟩
    ·have := Hown'.out;unfold OwnS;rw [lnA, List.map_append];exact this
    ·refine Lq7 ?_;rw [aH.out, His.out, Mg, List.map_append, hcut.out]; rfl
  ·have aB := Lq7 hown;clear hown;have aG : Hid (l.map (·.data.toList) = cutAt 47 s.data.toList) := Lq7 (by rw [hcut.out, ltL (by rw [Af]; omega)]);go_wp2_with fail;go_ret;exact ⟨l, v, rfl, aG.out, aB.out, hb⟩
theorem M4 {l : List ByteArray} {f : List UInt8 → Bool} {k : Nat} (h : k < l.length) : ((l.take (k + 1)).all fun x => f x.data.toList) = (((l.take k).all fun x => f x.data.toList) && f l[k].data.toList) := by
 rw [ltA, lgE h, List.all_append]; simp only [Option.toList_some, List.all_cons, List.all_nil, Bool.and_true]
theorem Ge (s : ByteArray) (w : World) (hs : s.size ≤ 4294967296) :
  Calls Tryz.prog 33 #[.string s] w (Se (Ay s.data.toList) w) := by
 go_enter Tryz.func33, Tryz.ntmps33;go_wp2_with fail;refine (Jh s w hs).mono ?_;rintro e w1 ⟨l, v, rfl, hcut, hown, hb⟩;obtain ⟨a, cap, rfl, hat, -⟩ := hown.strsAt;have aB := Lq7 hcut;have hlen : l.length ≤ 4294967297 := by
  have h1 := congrArg List.length hcut;rw [lnM, F5] at h1;have h2 := List.count_le_length (a := (47 : UInt8)) (l := s.data.toList);rw [Af] at h2;omega
 have Hsz : Hid (∀ x ∈ l, x.size ≤ s.size) := Lq7 (fun x hx => by
  have := I9 47 s.data.toList x.data.toList (by rw [← hcut]; exact List.mem_map_of_mem hx);rw [Af, Af] at this; exact this)
 clear hcut hown;go_wp2_with fail
 go_loop [4] (fun i => ∃ k : Nat, i = .int .i64 k ∧ k ≤ l.length ∧ Hid (((l.take k).all fun x => By x.data.toList) = true)) (fun i => l.length - (intOf i).toNat)
 case atStart => exact ⟨0, rfl, nlz _, rfl⟩
 case round =>
  obtain ⟨k, rfl, hk, hg⟩ := hrel;by_cases hlt : k < l.length
  ·obtain ⟨b, off, rfl, hc⟩ := hat.at hlt;go_wp2_with fail;refine (Qy _ _ (by have := Hsz.out _ (List.getElem_mem hlt); omega)).mono ?_;rintro e w2 ⟨rfl, hw2⟩;obtain rfl : w1 = w2 := hw2.symm;cases hp : By l[k].data.toList
   ·have Hf : Hid (Ay s.data.toList = false) := Lq7 (by
     unfold Ay;rw [← aB.out, Bool.and_eq_false_iff]
     right
     rw [List.all_eq_false];exact ⟨_, List.mem_map_of_mem (List.getElem_mem hlt), by simp [hp]⟩)
    clear hp;go_wp2_with fail;go_ret;exact ⟨Ar Hf.out.symm, hb⟩
   ·have Hg : Hid (((l.take (k + 1)).all fun x => By x.data.toList) = true) := Lq7 (by rw [M4 hlt, hg.out, hp]; rfl);clear hp;go_wp2_with fail;go_round
    case rel => exact ⟨k + 1, by go_num, by omega, Hg⟩
    case measure => simp only [intOf]; omega
  ·have Hf : Hid (Ay s.data.toList = decide ((l.length : Int) ≤ 16)) := Lq7 (by
    unfold Ay;have h1 := hg.out;rw [ltL (by omega)] at h1;rw [← aB.out, lnM, List.all_map, show (By ∘ fun x : ByteArray => x.data.toList) = fun x => By x.data.toList from rfl, h1, Bool.and_true, decide_eq_decide];omega)
   go_wp2_with fail;go_ret;exact ⟨Ar Hf.out.symm, hb⟩
end Go.Proofs.YtcofbdjakicojaaGreatDoor
