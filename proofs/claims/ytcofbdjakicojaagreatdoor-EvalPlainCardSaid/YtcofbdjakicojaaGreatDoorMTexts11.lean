/-
  The walk of the reference's keys at keys that rise: yes.
  The walk of the document's keys at any keys: do they rise? (Printed by keysX_gen.py.)
  The walks of the reference's node, nodes and Check at a value that may be: yes.
  The walks of the document's node, nodes and Check at any value: just what may be. (Printed by nodeX_gen.py.)
  The walk of the document's Texts of a value that may be: its texts, or none.
-/
import Derived.Sort.Walk0
import Derived.Test.YtcofbdjakicojaaGreatDoorMGreatX
import Derived.Test.YtcofbdjakicojaaGreatDoorMSix
import Derived.Test.YtcofbdjakicojaaGreatDoorMHeldSkip
namespace Go.Proofs.YtcofbdjakicojaaGreatDoor
open Go Go.RowKit
open Go.Lib renaming toList_data → Lq8, hid → Lq7
open List renaming getElem_toArray → lgA, getElem_cons_succ → lgB, getElem_cons_zero → lgC, setIfInBounds_toArray → laA, set_cons_zero → lsA, set_cons_succ → lsB, getElem?_eq_getElem → lgE, mem_of_getElem? → lgM, length_append → lnA, take_add_one → ltA, take_of_length_le → ltL, length_map → lnM, length_take → lnT
open Nat renaming le_refl → nlr, zero_le → nlz, add_zero → naz
open Go.Act renaming put → aP
set_option maxRecDepth 100000
set_option maxHeartbeats 16000000
theorem less_not {x y : ByteArray} (h : Op.bytesLess y.toList x.toList = true) : Op.bytesLess x.toList y.toList = false ∧ ¬ x.toList = y.toList := by
 rw [Go.Proofs.bytesLess_eq, decide_eq_true_eq] at h;refine ⟨?_, fun e => ?_⟩
 ·rw [Go.Proofs.bytesLess_eq, decide_eq_false_iff_not];exact List.lt_asymm h
 ·rw [e] at h;exact List.lt_irrefl _ h
theorem Cl {s : ByteArray} (h : s.toList.isEmpty = true) : s = ⟨#[]⟩ := by
 have h1 : s.toList = [] := (by simpa using h);rw [Lq8] at h1;exact bytes_ext h1
def Dh (b : Bool) (w : World) (e : Ending) (w' : World) : Prop := e = .returned (.bool b) ∧ Below w.heap.size w w'
def If (ks : List ByteArray) : Nat → Option ByteArray
 | 0 => none
 | j + 1 => ks[j]?
theorem Rr {ks : List ByteArray} (h : 0 < ks.length) : risesGo (If ks 0) (ks.drop 0) = (decide (ks[0].size ≤ 65536) && risesGo (If ks 1) (ks.drop 1)) := by
 rw [List.drop_eq_getElem_cons h, Eg];show (decide _ && true && risesGo (some ks[0]) (ks.drop 1)) = _;rw [Bool.and_true, If, lgE h]
theorem Rs {ks : List ByteArray} {j : Nat} (h : j + 1 < ks.length) : risesGo (If ks (j + 1)) (ks.drop (j + 1)) = (decide (ks[j + 1].size ≤ 65536) && Op.bytesLess (ks[j]'(by omega)).toList ks[j + 1].toList && risesGo (If ks (j + 2)) (ks.drop (j + 2))) := by
 rw [List.drop_eq_getElem_cons h, Eg, If, lgE (by omega), If, lgE h]
theorem not_less {x y : ByteArray} (h : Op.bytesLess y.toList x.toList = false) : Op.bytesLess x.toList y.toList = true ∨ x.toList = y.toList := by
 rw [Go.Proofs.bytesLess_eq, decide_eq_false_iff_not] at h;rw [Go.Proofs.bytesLess_eq, decide_eq_true_eq];rcases List.le_iff_lt_or_eq.1 (List.not_lt.1 h) with h1 | h1
 ·exact .inl h1
 ·exact .inr h1
theorem keysx_eq (k n1 : Int) (s : ByteArray) (ks : List ByteArray) (hl : ks.length ≤ 140737488355328) (hz : ∀ x ∈ ks, x.size ≤ 9223372036854775807) (a1 : Option Addr) (c1 : Nat) (a2 : Option Addr) (c2 : Nat) (w : World) (hk : Ax w a2 ks) :
  Calls Tryz.prog 68 #[.agg #[.int .i64 k, .int .i64 n1, .string s, .slice a1 ks.length c1, .slice a2 ks.length c2]] w (Dh (risesGo none ks) w) := by
 have aG : Below w.heap.size w (w.alloc (.cells #[.int .i64 k, .int .i64 n1, .string s, .slice a1 ks.length c1, .slice a2 ks.length c2] 31)) := (Below.refl _ w).alloc (nlr _) _;have H0 := Lq7 (And.intro (heap_alloc_new w (.cells #[.int .i64 k, .int .i64 n1, .string s, .slice a1 ks.length c1, .slice a2 ks.length c2] 31)) aG);have Hk := Lq7 hk;have Hz := Lq7 hz;clear hk aG hz;generalize hR : risesGo none ks = R;have HR := Lq7 hR;clear hR;go_enter Tryz.func68, Tryz.ntmps68;go_wp2_with fail;generalize World.alloc _ _ = W0 at H0 ⊢
 go_loopw [14] (fun i wr => ∃ j : Nat, i = .int .i64 j ∧ j ≤ ks.length ∧ Hid (risesGo (If ks j) (ks.drop j) = R) ∧ Hid (wr.heap[w.heap.size]? = some (.cells #[.int .i64 k, .int .i64 n1, .string s, .slice a1 ks.length c1, .slice a2 ks.length c2] 31 (0, 0)) ∧ Below w.heap.size w wr)) (fun i _ => ks.length - (intOf i).toNat)
 case atStart => exact ⟨0, rfl, nlz _, Lq7 (by rw [List.drop_zero]; exact HR.out), H0⟩
 case round =>
  obtain ⟨j, rfl, hj, aE, aB⟩ := hrel;obtain ⟨q0, q1, q2, q3, q4, q5, -⟩ := five_facts aB.out.1;by_cases hlt : j < ks.length
  ·have aJ : Below wr.heap.size wr wr.drew := (Below.refl _ wr).drew;have H2 := Lq7 (And.intro (stays aB.out.1 aJ) (aB.out.2.trans (aJ.mono aB.out.2.size)));cases j with
   | zero =>
    obtain ⟨b, off, aH, hc⟩ := (Hk.out.below H2.out.2).at hlt;subst aH;have hsz := Hz.out _ (List.getElem_mem hlt);have hg := aE.out;rw [Rr hlt] at hg;have Hg := Lq7 hg;clear hg aE;generalize ks[0] = x at hc hsz Hg;rw [naz] at hc;have hbl := block_of_cell hc;by_cases hbig : (65536 : Int) < x.size
    ·have aF : Hid (R = false) := Lq7 (by rw [← Hg.out, decide_eq_false (by omega)]; rfl);clear Hg hsz;go_wp2_with fail;refine Ae (.s 0 (.s 1 (.s 2 (.s 3 (.s 4 (.s 5 (.s 6 (.s 7 (.s 8 (.s 9 (.s 10 (.s 11 (.s 12 (.s 13 (.s 14 (.s 15 (.s 16 (.s 17 (.s 18 (.s 19 (.s 20 (.s 21 (.s 22 (.s 23 (.s 24 .nil))))))))))))))))))))))))) 99 (fun W' => Below wr.drew.heap.size wr.drew W') (by kernel_rfl) (by kernel_rfl) (fun c a d v w h => by cases d <;> exact h) (Below.refl _ _) ?_
     clear q0 q1 q2 q3 q4 q5 aB;generalize wr.drew = Wd at *;refine Aa (.pointer (some ⟨w.heap.size, 4, none⟩)) rfl rfl (fun W' hS => ?_) ?_
     ·obtain ⟨z0, z1, z2, z3, z4, z5, -⟩ := five_facts (stays H2.out.1 hS);clear hS;go_simp
     (try simp only [lgA, lgC, aP, laA, lsA, lsB]);refine Aa (.slice (some ⟨b, off, none⟩) ks.length c2) rfl rfl (fun W' hS => ?_) ?_
     ·obtain ⟨z0, z1, z2, z3, z4, z5, -⟩ := five_facts (stays H2.out.1 hS);clear hS;go_simp
     (try simp only [lgA, lgB, lgC, aP, laA, lsA, lsB]);refine Aa (.int .i64 (0 : Nat)) rfl rfl (fun W' hS => ?_) ?_
     ·go_simp
     (try simp only [lgA, lgB, lgC, aP, laA, lsA, lsB]);refine Aa (.pointer (some ⟨b, off, none⟩)) rfl rfl (fun W' hS => ?_) ?_
     ·go_simp
     (try simp only [lgA, lgB, lgC, aP, laA, lsA, lsB]);refine Aa (.string x) rfl rfl (fun W' hS => ?_) ?_
     ·have z0 := (hS.cell (p := ⟨b, off, none⟩) hbl).trans hc;clear hS;go_simp
     (try simp only [lgA, lgB, lgC, aP, laA, lsA, lsB]);refine Aa (.int .i64 x.size) rfl rfl (fun W' hS => ?_) ?_
     ·go_simp
     (try simp only [lgA, lgB, lgC, aP, laA, lsA, lsB]);refine Aa (.bool true) rfl rfl (fun W' hS => ?_) ?_
     ·go_simp
     (try simp only [lgA, lgB, lgC, aP, laA, lsA, lsB]);refine Aa (.bool true) rfl rfl (fun W' hS => ?_) ?_
     ·go_simp
     (try simp only [lgA, lgB, lgC, aP, laA, lsA, lsB]);refine Aj rfl rfl ?_;(try simp only [lgA, lgB, lgC, aP, laA, lsA, lsB]);refine Aj rfl rfl ?_;(try simp only [lgA, lgB, lgC, aP, laA, lsA, lsB]);refine Aj rfl rfl ?_;(try simp only [lgA, lgB, lgC, aP, laA, lsA, lsB]);refine Aj rfl rfl ?_;(try simp only [lgA, lgB, lgC, aP, laA, lsA, lsB]);refine Aj rfl rfl ?_;(try simp only [lgA, lgB, lgC, aP, laA, lsA, lsB]);refine Aj rfl rfl ?_;(try simp only [lgA, lgB, lgC, aP, laA, lsA, lsB]);refine Aj rfl rfl ?_;(try simp only [lgA, lgB, lgC, aP, laA, lsA, lsB]);refine Aj rfl rfl ?_;(try simp only [lgA, lgB, lgC, aP, laA, lsA, lsB]);refine Aj rfl rfl ?_;(try simp only [lgA, lgB, lgC, aP, laA, lsA, lsB]);refine Aj rfl rfl ?_;(try simp only [lgA, lgB, lgC, aP, laA, lsA, lsB]);refine Aj rfl rfl ?_;(try simp only [lgA, lgB, lgC, aP, laA, lsA, lsB]);refine Aj rfl rfl ?_;(try simp only [lgA, lgB, lgC, aP, laA, lsA, lsB]);refine Aj rfl rfl ?_;(try simp only [lgA, lgB, lgC, aP, laA, lsA, lsB]);refine Aj rfl rfl ?_;(try simp only [lgA, lgB, lgC, aP, laA, lsA, lsB]);refine Aj rfl rfl ?_;(try simp only [lgA, lgB, lgC, aP, laA, lsA, lsB]);refine Aj rfl rfl ?_;(try simp only [lgA, lgB, lgC, aP, laA, lsA, lsB]);refine Aa (.bool true) rfl rfl (fun W' hS => ?_) ?_
     ·go_simp
     (try simp only [lgA, lgB, lgC, aP, laA, lsA, lsB]);refine Ak ?_;(try simp only [lgA, lgB, lgC, aP, laA, lsA, lsB]);go_wp2_with fail;go_ret;exact ⟨congrArg (fun z => Ending.returned (Value.bool z)) aF.out.symm, H2.out.2⟩
    ·have aC : Hid (risesGo (If ks (0 + 1)) (ks.drop (0 + 1)) = R) := Lq7 (by have := Hg.out; rwa [decide_eq_true (by omega), Bool.true_and] at this);clear Hg hsz;go_wp2_with fail;refine Ae (.s 0 (.s 1 (.s 2 (.s 3 (.s 4 (.s 5 (.s 6 (.s 7 (.s 8 (.s 9 (.s 10 (.s 11 (.s 12 (.s 13 (.s 14 (.s 15 (.s 16 (.s 17 (.s 18 (.s 19 (.s 20 (.s 21 (.s 22 (.s 23 (.s 24 .nil))))))))))))))))))))))))) 99 (fun W' => Below wr.drew.heap.size wr.drew W') (by kernel_rfl) (by kernel_rfl) (fun c a d v w h => by cases d <;> exact h) (Below.refl _ _) ?_
     clear q0 q1 q2 q3 q4 q5 aB;generalize wr.drew = Wd at *;refine Aa (.pointer (some ⟨w.heap.size, 4, none⟩)) rfl rfl (fun W' hS => ?_) ?_
     ·obtain ⟨z0, z1, z2, z3, z4, z5, -⟩ := five_facts (stays H2.out.1 hS);clear hS;go_simp
     (try simp only [lgA, lgC, aP, laA, lsA, lsB]);refine Aa (.slice (some ⟨b, off, none⟩) ks.length c2) rfl rfl (fun W' hS => ?_) ?_
     ·obtain ⟨z0, z1, z2, z3, z4, z5, -⟩ := five_facts (stays H2.out.1 hS);clear hS;go_simp
     (try simp only [lgA, lgB, lgC, aP, laA, lsA, lsB]);refine Aa (.int .i64 (0 : Nat)) rfl rfl (fun W' hS => ?_) ?_
     ·go_simp
     (try simp only [lgA, lgB, lgC, aP, laA, lsA, lsB]);refine Aa (.pointer (some ⟨b, off, none⟩)) rfl rfl (fun W' hS => ?_) ?_
     ·go_simp
     (try simp only [lgA, lgB, lgC, aP, laA, lsA, lsB]);refine Aa (.string x) rfl rfl (fun W' hS => ?_) ?_
     ·have z0 := (hS.cell (p := ⟨b, off, none⟩) hbl).trans hc;clear hS;go_simp
     (try simp only [lgA, lgB, lgC, aP, laA, lsA, lsB]);refine Aa (.int .i64 x.size) rfl rfl (fun W' hS => ?_) ?_
     ·go_simp
     (try simp only [lgA, lgB, lgC, aP, laA, lsA, lsB]);refine Aa (.bool false) rfl rfl (fun W' hS => ?_) ?_
     ·go_simp
     (try simp only [lgA, lgB, lgC, aP, laA, lsA, lsB]);refine Aa (.bool false) rfl rfl (fun W' hS => ?_) ?_
     ·go_simp
     (try simp only [lgA, lgB, lgC, aP, laA, lsA, lsB]);refine Aa (.int .i64 (0 : Nat)) rfl rfl (fun W' hS => ?_) ?_
     ·go_simp
     (try simp only [lgA, lgB, lgC, aP, laA, lsA, lsB]);refine Aa (.bool false) rfl rfl (fun W' hS => ?_) ?_
     ·go_simp
     (try simp only [lgA, lgB, lgC, aP, laA, lsA, lsB]);refine Aa (.bool false) rfl rfl (fun W' hS => ?_) ?_
     ·go_simp
     (try simp only [lgA, lgB, lgC, aP, laA, lsA, lsB]);refine Aj rfl rfl ?_;(try simp only [lgA, lgB, lgC, aP, laA, lsA, lsB]);refine Aj rfl rfl ?_;(try simp only [lgA, lgB, lgC, aP, laA, lsA, lsB]);refine Aj rfl rfl ?_;(try simp only [lgA, lgB, lgC, aP, laA, lsA, lsB]);refine Aj rfl rfl ?_;(try simp only [lgA, lgB, lgC, aP, laA, lsA, lsB]);refine Aj rfl rfl ?_;(try simp only [lgA, lgB, lgC, aP, laA, lsA, lsB]);refine Aj rfl rfl ?_;(try simp only [lgA, lgB, lgC, aP, laA, lsA, lsB]);refine Aj rfl rfl ?_;(try simp only [lgA, lgB, lgC, aP, laA, lsA, lsB]);refine Aj rfl rfl ?_;(try simp only [lgA, lgB, lgC, aP, laA, lsA, lsB]);refine Aj rfl rfl ?_;(try simp only [lgA, lgB, lgC, aP, laA, lsA, lsB]);refine Aj rfl rfl ?_;(try simp only [lgA, lgB, lgC, aP, laA, lsA, lsB]);refine Aj rfl rfl ?_;(try simp only [lgA, lgB, lgC, aP, laA, lsA, lsB]);refine Aj rfl rfl ?_;(try simp only [lgA, lgB, lgC, aP, laA, lsA, lsB]);refine Aa (.bool false) rfl rfl (fun W' hS => ?_) ?_
     ·go_simp
     (try simp only [lgA, lgB, lgC, aP, laA, lsA, lsB]);refine Aa (.bool false) rfl rfl (fun W' hS => ?_) ?_
     ·go_simp
     (try simp only [lgA, lgB, lgC, aP, laA, lsA, lsB]);refine Ak ?_;(try simp only [lgA, lgB, lgC, aP, laA, lsA, lsB]);go_wp2_with fail;go_roundw
     case rel => exact ⟨0 + 1, by go_num, by omega, aC, H2⟩
     case measure => simp only [intOf]; omega
   | succ j =>
    obtain ⟨b, off, aH, hc⟩ := (Hk.out.below H2.out.2).at hlt;obtain ⟨b', off', hb', hc'⟩ := (Hk.out.below H2.out.2).at (k := j) (by omega);subst aH;cases hb';have hsz := Hz.out _ (List.getElem_mem hlt);have hg := aE.out;rw [Rs hlt] at hg;have Hg := Lq7 hg;clear hg aE;generalize ks[j + 1] = x at hc hsz Hg;generalize ks[j] = y at hc' Hg;have hbl := block_of_cell hc;have hjn : ((j + 1 : Nat) : Int) - 1 = (j : Int) := (by omega);have hpos : (0 : Int) < ((j + 1 : Nat) : Int) := (by omega);have hnn : ¬ ((j : Int) + 1 < 0) := (by omega);have hjl : ¬ ks.length ≤ j := (by omega);have hwr : IntKind.i64.wrap (j : Int) = (j : Int) := by
     simp [IntKind.wrap, IntKind.signed, IntKind.bits];omega
    by_cases hbig : (65536 : Int) < x.size
    ·have aF : Hid (R = false) := Lq7 (by rw [← Hg.out, decide_eq_false (by omega)]; rfl);clear Hg hsz;go_wp2_with fail;refine Ae (.s 0 (.s 1 (.s 2 (.s 3 (.s 4 (.s 5 (.s 6 (.s 7 (.s 8 (.s 9 (.s 10 (.s 11 (.s 12 (.s 13 (.s 14 (.s 15 (.s 16 (.s 17 (.s 18 (.s 19 (.s 20 (.s 21 (.s 22 (.s 23 (.s 24 .nil))))))))))))))))))))))))) 99 (fun W' => Below wr.drew.heap.size wr.drew W') (by kernel_rfl) (by kernel_rfl) (fun c a d v w h => by cases d <;> exact h) (Below.refl _ _) ?_
     clear q0 q1 q2 q3 q4 q5 aB;generalize wr.drew = Wd at *;refine Aa (.pointer (some ⟨w.heap.size, 4, none⟩)) rfl rfl (fun W' hS => ?_) ?_
     ·obtain ⟨z0, z1, z2, z3, z4, z5, -⟩ := five_facts (stays H2.out.1 hS);clear hS;go_simp
     (try simp only [lgA, lgC, aP, laA, lsA, lsB]);refine Aa (.slice (some ⟨b, off, none⟩) ks.length c2) rfl rfl (fun W' hS => ?_) ?_
     ·obtain ⟨z0, z1, z2, z3, z4, z5, -⟩ := five_facts (stays H2.out.1 hS);clear hS;go_simp
     (try simp only [lgA, lgB, lgC, aP, laA, lsA, lsB]);refine Aa (.int .i64 (j + 1 : Nat)) rfl rfl (fun W' hS => ?_) ?_
     ·go_simp
     (try simp only [lgA, lgB, lgC, aP, laA, lsA, lsB]);refine Aa (.pointer (some ⟨b, off + (j + 1), none⟩)) rfl rfl (fun W' hS => ?_) ?_
     ·go_simp
     (try simp only [lgA, lgB, lgC, aP, laA, lsA, lsB]);refine Aa (.string x) rfl rfl (fun W' hS => ?_) ?_
     ·have z0 := (hS.cell (p := ⟨b, off + (j + 1), none⟩) hbl).trans hc;clear hS;go_simp
     (try simp only [lgA, lgB, lgC, aP, laA, lsA, lsB]);refine Aa (.int .i64 x.size) rfl rfl (fun W' hS => ?_) ?_
     ·go_simp
     (try simp only [lgA, lgB, lgC, aP, laA, lsA, lsB]);refine Aa (.bool true) rfl rfl (fun W' hS => ?_) ?_
     ·go_simp
     (try simp only [lgA, lgB, lgC, aP, laA, lsA, lsB]);refine Aa (.bool true) rfl rfl (fun W' hS => ?_) ?_
     ·go_simp
     (try simp only [lgA, lgB, lgC, aP, laA, lsA, lsB]);refine Aj rfl rfl ?_;(try simp only [lgA, lgB, lgC, aP, laA, lsA, lsB]);refine Aj rfl rfl ?_;(try simp only [lgA, lgB, lgC, aP, laA, lsA, lsB]);refine Aj rfl rfl ?_;(try simp only [lgA, lgB, lgC, aP, laA, lsA, lsB]);refine Aj rfl rfl ?_;(try simp only [lgA, lgB, lgC, aP, laA, lsA, lsB]);refine Aj rfl rfl ?_;(try simp only [lgA, lgB, lgC, aP, laA, lsA, lsB]);refine Aj rfl rfl ?_;(try simp only [lgA, lgB, lgC, aP, laA, lsA, lsB]);refine Aj rfl rfl ?_;(try simp only [lgA, lgB, lgC, aP, laA, lsA, lsB]);refine Aj rfl rfl ?_;(try simp only [lgA, lgB, lgC, aP, laA, lsA, lsB]);refine Aj rfl rfl ?_;(try simp only [lgA, lgB, lgC, aP, laA, lsA, lsB]);refine Aj rfl rfl ?_;(try simp only [lgA, lgB, lgC, aP, laA, lsA, lsB]);refine Aj rfl rfl ?_;(try simp only [lgA, lgB, lgC, aP, laA, lsA, lsB]);refine Aj rfl rfl ?_;(try simp only [lgA, lgB, lgC, aP, laA, lsA, lsB]);refine Aj rfl rfl ?_;(try simp only [lgA, lgB, lgC, aP, laA, lsA, lsB]);refine Aj rfl rfl ?_;(try simp only [lgA, lgB, lgC, aP, laA, lsA, lsB]);refine Aj rfl rfl ?_;(try simp only [lgA, lgB, lgC, aP, laA, lsA, lsB]);refine Aj rfl rfl ?_;(try simp only [lgA, lgB, lgC, aP, laA, lsA, lsB]);refine Aa (.bool true) rfl rfl (fun W' hS => ?_) ?_
     ·go_simp
     (try simp only [lgA, lgB, lgC, aP, laA, lsA, lsB]);refine Ak ?_;(try simp only [lgA, lgB, lgC, aP, laA, lsA, lsB]);go_wp2_with fail;go_ret;exact ⟨congrArg (fun z => Ending.returned (Value.bool z)) aF.out.symm, H2.out.2⟩
    ·cases hless : Op.bytesLess y.toList x.toList
     ·have aF : Hid (R = false) := Lq7 (by rw [← Hg.out, hless, Bool.and_false]; rfl);clear Hg hsz;have hnl := not_less hless;clear hless;rcases hnl with aI | aI
      ·skip;go_wp2_with fail;refine Ae (.s 0 (.s 1 (.s 2 (.s 3 (.s 4 (.s 5 (.s 6 (.s 7 (.s 8 (.s 9 (.s 10 (.s 11 (.s 12 (.s 13 (.s 14 (.s 15 (.s 16 (.s 17 (.s 18 (.s 19 (.s 20 (.s 21 (.s 22 (.s 23 (.s 24 .nil))))))))))))))))))))))))) 99 (fun W' => Below wr.drew.heap.size wr.drew W') (by kernel_rfl) (by kernel_rfl) (fun c a d v w h => by cases d <;> exact h) (Below.refl _ _) ?_
       clear q0 q1 q2 q3 q4 q5 aB;generalize wr.drew = Wd at *;refine Aa (.pointer (some ⟨w.heap.size, 4, none⟩)) rfl rfl (fun W' hS => ?_) ?_
       ·obtain ⟨z0, z1, z2, z3, z4, z5, -⟩ := five_facts (stays H2.out.1 hS);clear hS;go_simp
       (try simp only [lgA, lgC, aP, laA, lsA, lsB]);refine Aa (.slice (some ⟨b, off, none⟩) ks.length c2) rfl rfl (fun W' hS => ?_) ?_
       ·obtain ⟨z0, z1, z2, z3, z4, z5, -⟩ := five_facts (stays H2.out.1 hS);clear hS;go_simp
       (try simp only [lgA, lgB, lgC, aP, laA, lsA, lsB]);refine Aa (.int .i64 (j + 1 : Nat)) rfl rfl (fun W' hS => ?_) ?_
       ·go_simp
       (try simp only [lgA, lgB, lgC, aP, laA, lsA, lsB]);refine Aa (.pointer (some ⟨b, off + (j + 1), none⟩)) rfl rfl (fun W' hS => ?_) ?_
       ·go_simp
       (try simp only [lgA, lgB, lgC, aP, laA, lsA, lsB]);refine Aa (.string x) rfl rfl (fun W' hS => ?_) ?_
       ·have z0 := (hS.cell (p := ⟨b, off + (j + 1), none⟩) hbl).trans hc;clear hS;go_simp
       (try simp only [lgA, lgB, lgC, aP, laA, lsA, lsB]);refine Aa (.int .i64 x.size) rfl rfl (fun W' hS => ?_) ?_
       ·go_simp
       (try simp only [lgA, lgB, lgC, aP, laA, lsA, lsB]);refine Aa (.bool false) rfl rfl (fun W' hS => ?_) ?_
       ·go_simp
       (try simp only [lgA, lgB, lgC, aP, laA, lsA, lsB]);refine Aa (.bool false) rfl rfl (fun W' hS => ?_) ?_
       ·go_simp
       (try simp only [lgA, lgB, lgC, aP, laA, lsA, lsB]);refine Aa (.int .i64 (j + 1 : Nat)) rfl rfl (fun W' hS => ?_) ?_
       ·go_simp
       (try simp only [lgA, lgB, lgC, aP, laA, lsA, lsB]);refine Aa (.bool true) rfl rfl (fun W' hS => ?_) ?_
       ·go_simp
       (try simp only [lgA, lgB, lgC, aP, laA, lsA, lsB]);refine Aa (.bool true) rfl rfl (fun W' hS => ?_) ?_
       ·go_simp
       (try simp only [lgA, lgB, lgC, aP, laA, lsA, lsB]);refine Aa (.pointer (some ⟨w.heap.size, 4, none⟩)) rfl rfl (fun W' hS => ?_) ?_
       ·obtain ⟨z0, z1, z2, z3, z4, z5, -⟩ := five_facts (stays H2.out.1 hS);clear hS;go_simp
       (try simp only [lgA, lgB, lgC, aP, laA, lsA, lsB]);refine Aa (.slice (some ⟨b, off, none⟩) ks.length c2) rfl rfl (fun W' hS => ?_) ?_
       ·obtain ⟨z0, z1, z2, z3, z4, z5, -⟩ := five_facts (stays H2.out.1 hS);clear hS;go_simp
       (try simp only [lgA, lgB, lgC, aP, laA, lsA, lsB]);refine Aa (.int .i64 (j + 1 : Nat)) rfl rfl (fun W' hS => ?_) ?_
       ·go_simp
       (try simp only [lgA, lgB, lgC, aP, laA, lsA, lsB]);refine Aa (.pointer (some ⟨b, off + (j + 1), none⟩)) rfl rfl (fun W' hS => ?_) ?_
       ·go_simp
       (try simp only [lgA, lgB, lgC, aP, laA, lsA, lsB]);refine Aa (.string x) rfl rfl (fun W' hS => ?_) ?_
       ·have z0 := (hS.cell (p := ⟨b, off + (j + 1), none⟩) hbl).trans hc;clear hS;go_simp
       (try simp only [lgA, lgB, lgC, aP, laA, lsA, lsB]);refine Aa (.pointer (some ⟨w.heap.size, 4, none⟩)) rfl rfl (fun W' hS => ?_) ?_
       ·obtain ⟨z0, z1, z2, z3, z4, z5, -⟩ := five_facts (stays H2.out.1 hS);clear hS;go_simp
       (try simp only [lgA, lgB, lgC, aP, laA, lsA, lsB]);refine Aa (.slice (some ⟨b, off, none⟩) ks.length c2) rfl rfl (fun W' hS => ?_) ?_
       ·obtain ⟨z0, z1, z2, z3, z4, z5, -⟩ := five_facts (stays H2.out.1 hS);clear hS;go_simp
       (try simp only [lgA, lgB, lgC, aP, laA, lsA, lsB]);refine Aa (.int .i64 (j + 1 : Nat)) rfl rfl (fun W' hS => ?_) ?_
       ·go_simp
       (try simp only [lgA, lgB, lgC, aP, laA, lsA, lsB]);refine Aa (.int .i64 j) rfl rfl (fun W' hS => ?_) ?_
       ·go_simp
       (try simp only [lgA, lgB, lgC, aP, laA, lsA, lsB]);refine Aa (.pointer (some ⟨b, off + j, none⟩)) rfl rfl (fun W' hS => ?_) ?_
       ·go_simp
       (try simp only [lgA, lgB, lgC, aP, laA, lsA, lsB]);refine Aa (.string y) rfl rfl (fun W' hS => ?_) ?_
       ·have z0 := (hS.cell (p := ⟨b, off + j, none⟩) hbl).trans hc';clear hS;go_simp
       (try simp only [lgA, lgB, lgC, aP, laA, lsA, lsB]);refine Aa (.bool true) rfl rfl (fun W' hS => ?_) ?_
       ·go_simp
       (try simp only [lgA, lgB, lgC, aP, laA, lsA, lsB]);refine Aa (.bool true) rfl rfl (fun W' hS => ?_) ?_
       ·go_simp
       (try simp only [lgA, lgB, lgC, aP, laA, lsA, lsB]);refine Aa (.bool true) rfl rfl (fun W' hS => ?_) ?_
       ·go_simp
       (try simp only [lgA, lgB, lgC, aP, laA, lsA, lsB]);refine Ak ?_;(try simp only [lgA, lgB, lgC, aP, laA, lsA, lsB]);go_wp2_with fail;go_ret;exact ⟨congrArg (fun z => Ending.returned (Value.bool z)) aF.out.symm, H2.out.2⟩
      ·have hl2 : (x.toList == y.toList) = true := (by rw [aI]; exact beq_self_eq_true _);go_wp2_with fail;refine Ae (.s 0 (.s 1 (.s 2 (.s 3 (.s 4 (.s 5 (.s 6 (.s 7 (.s 8 (.s 9 (.s 10 (.s 11 (.s 12 (.s 13 (.s 14 (.s 15 (.s 16 (.s 17 (.s 18 (.s 19 (.s 20 (.s 21 (.s 22 (.s 23 (.s 24 .nil))))))))))))))))))))))))) 99 (fun W' => Below wr.drew.heap.size wr.drew W') (by kernel_rfl) (by kernel_rfl) (fun c a d v w h => by cases d <;> exact h) (Below.refl _ _) ?_
       clear q0 q1 q2 q3 q4 q5 aB;generalize wr.drew = Wd at *;refine Aa (.pointer (some ⟨w.heap.size, 4, none⟩)) rfl rfl (fun W' hS => ?_) ?_
       ·obtain ⟨z0, z1, z2, z3, z4, z5, -⟩ := five_facts (stays H2.out.1 hS);clear hS;go_simp
       (try simp only [lgA, lgC, aP, laA, lsA, lsB]);refine Aa (.slice (some ⟨b, off, none⟩) ks.length c2) rfl rfl (fun W' hS => ?_) ?_
       ·obtain ⟨z0, z1, z2, z3, z4, z5, -⟩ := five_facts (stays H2.out.1 hS);clear hS;go_simp
       (try simp only [lgA, lgB, lgC, aP, laA, lsA, lsB]);refine Aa (.int .i64 (j + 1 : Nat)) rfl rfl (fun W' hS => ?_) ?_
       ·go_simp
       (try simp only [lgA, lgB, lgC, aP, laA, lsA, lsB]);refine Aa (.pointer (some ⟨b, off + (j + 1), none⟩)) rfl rfl (fun W' hS => ?_) ?_
       ·go_simp
       (try simp only [lgA, lgB, lgC, aP, laA, lsA, lsB]);refine Aa (.string x) rfl rfl (fun W' hS => ?_) ?_
       ·have z0 := (hS.cell (p := ⟨b, off + (j + 1), none⟩) hbl).trans hc;clear hS;go_simp
       (try simp only [lgA, lgB, lgC, aP, laA, lsA, lsB]);refine Aa (.int .i64 x.size) rfl rfl (fun W' hS => ?_) ?_
       ·go_simp
       (try simp only [lgA, lgB, lgC, aP, laA, lsA, lsB]);refine Aa (.bool false) rfl rfl (fun W' hS => ?_) ?_
       ·go_simp
       (try simp only [lgA, lgB, lgC, aP, laA, lsA, lsB]);refine Aa (.bool false) rfl rfl (fun W' hS => ?_) ?_
       ·go_simp
       (try simp only [lgA, lgB, lgC, aP, laA, lsA, lsB]);refine Aa (.int .i64 (j + 1 : Nat)) rfl rfl (fun W' hS => ?_) ?_
       ·go_simp
       (try simp only [lgA, lgB, lgC, aP, laA, lsA, lsB]);refine Aa (.bool true) rfl rfl (fun W' hS => ?_) ?_
       ·go_simp
       (try simp only [lgA, lgB, lgC, aP, laA, lsA, lsB]);refine Aa (.bool true) rfl rfl (fun W' hS => ?_) ?_
       ·go_simp
       (try simp only [lgA, lgB, lgC, aP, laA, lsA, lsB]);refine Aa (.pointer (some ⟨w.heap.size, 4, none⟩)) rfl rfl (fun W' hS => ?_) ?_
       ·obtain ⟨z0, z1, z2, z3, z4, z5, -⟩ := five_facts (stays H2.out.1 hS);clear hS;go_simp
       (try simp only [lgA, lgB, lgC, aP, laA, lsA, lsB]);refine Aa (.slice (some ⟨b, off, none⟩) ks.length c2) rfl rfl (fun W' hS => ?_) ?_
       ·obtain ⟨z0, z1, z2, z3, z4, z5, -⟩ := five_facts (stays H2.out.1 hS);clear hS;go_simp
       (try simp only [lgA, lgB, lgC, aP, laA, lsA, lsB]);refine Aa (.int .i64 (j + 1 : Nat)) rfl rfl (fun W' hS => ?_) ?_
       ·go_simp
       (try simp only [lgA, lgB, lgC, aP, laA, lsA, lsB]);refine Aa (.pointer (some ⟨b, off + (j + 1), none⟩)) rfl rfl (fun W' hS => ?_) ?_
       ·go_simp
       (try simp only [lgA, lgB, lgC, aP, laA, lsA, lsB]);refine Aa (.string x) rfl rfl (fun W' hS => ?_) ?_
       ·have z0 := (hS.cell (p := ⟨b, off + (j + 1), none⟩) hbl).trans hc;clear hS;go_simp
       (try simp only [lgA, lgB, lgC, aP, laA, lsA, lsB]);refine Aa (.pointer (some ⟨w.heap.size, 4, none⟩)) rfl rfl (fun W' hS => ?_) ?_
       ·obtain ⟨z0, z1, z2, z3, z4, z5, -⟩ := five_facts (stays H2.out.1 hS);clear hS;go_simp
       (try simp only [lgA, lgB, lgC, aP, laA, lsA, lsB]);refine Aa (.slice (some ⟨b, off, none⟩) ks.length c2) rfl rfl (fun W' hS => ?_) ?_
       ·obtain ⟨z0, z1, z2, z3, z4, z5, -⟩ := five_facts (stays H2.out.1 hS);clear hS;go_simp
       (try simp only [lgA, lgB, lgC, aP, laA, lsA, lsB]);refine Aa (.int .i64 (j + 1 : Nat)) rfl rfl (fun W' hS => ?_) ?_
       ·go_simp
       (try simp only [lgA, lgB, lgC, aP, laA, lsA, lsB]);refine Aa (.int .i64 j) rfl rfl (fun W' hS => ?_) ?_
       ·go_simp
       (try simp only [lgA, lgB, lgC, aP, laA, lsA, lsB]);refine Aa (.pointer (some ⟨b, off + j, none⟩)) rfl rfl (fun W' hS => ?_) ?_
       ·go_simp
       (try simp only [lgA, lgB, lgC, aP, laA, lsA, lsB]);refine Aa (.string y) rfl rfl (fun W' hS => ?_) ?_
       ·have z0 := (hS.cell (p := ⟨b, off + j, none⟩) hbl).trans hc';clear hS;go_simp
       (try simp only [lgA, lgB, lgC, aP, laA, lsA, lsB]);refine Aa (.bool true) rfl rfl (fun W' hS => ?_) ?_
       ·go_simp
       (try simp only [lgA, lgB, lgC, aP, laA, lsA, lsB]);refine Aa (.bool true) rfl rfl (fun W' hS => ?_) ?_
       ·go_simp
       (try simp only [lgA, lgB, lgC, aP, laA, lsA, lsB]);refine Aa (.bool true) rfl rfl (fun W' hS => ?_) ?_
       ·go_simp
       (try simp only [lgA, lgB, lgC, aP, laA, lsA, lsB]);refine Ak ?_;(try simp only [lgA, lgB, lgC, aP, laA, lsA, lsB]);go_wp2_with fail;go_ret;exact ⟨congrArg (fun z => Ending.returned (Value.bool z)) aF.out.symm, H2.out.2⟩
     ·have aC : Hid (risesGo (If ks (j + 1 + 1)) (ks.drop (j + 1 + 1)) = R) := Lq7 (by have := Hg.out; rwa [decide_eq_true (by omega), hless, Bool.true_and, Bool.true_and] at this);clear Hg hsz;obtain ⟨aI, hl2⟩ := less_not hless;go_wp2_with fail;refine Ae (.s 0 (.s 1 (.s 2 (.s 3 (.s 4 (.s 5 (.s 6 (.s 7 (.s 8 (.s 9 (.s 10 (.s 11 (.s 12 (.s 13 (.s 14 (.s 15 (.s 16 (.s 17 (.s 18 (.s 19 (.s 20 (.s 21 (.s 22 (.s 23 (.s 24 .nil))))))))))))))))))))))))) 99 (fun W' => Below wr.drew.heap.size wr.drew W') (by kernel_rfl) (by kernel_rfl) (fun c a d v w h => by cases d <;> exact h) (Below.refl _ _) ?_
      clear q0 q1 q2 q3 q4 q5 aB;generalize wr.drew = Wd at *;refine Aa (.pointer (some ⟨w.heap.size, 4, none⟩)) rfl rfl (fun W' hS => ?_) ?_
      ·obtain ⟨z0, z1, z2, z3, z4, z5, -⟩ := five_facts (stays H2.out.1 hS);clear hS;go_simp
      (try simp only [lgA, lgC, aP, laA, lsA, lsB]);refine Aa (.slice (some ⟨b, off, none⟩) ks.length c2) rfl rfl (fun W' hS => ?_) ?_
      ·obtain ⟨z0, z1, z2, z3, z4, z5, -⟩ := five_facts (stays H2.out.1 hS);clear hS;go_simp
      (try simp only [lgA, lgB, lgC, aP, laA, lsA, lsB]);refine Aa (.int .i64 (j + 1 : Nat)) rfl rfl (fun W' hS => ?_) ?_
      ·go_simp
      (try simp only [lgA, lgB, lgC, aP, laA, lsA, lsB]);refine Aa (.pointer (some ⟨b, off + (j + 1), none⟩)) rfl rfl (fun W' hS => ?_) ?_
      ·go_simp
      (try simp only [lgA, lgB, lgC, aP, laA, lsA, lsB]);refine Aa (.string x) rfl rfl (fun W' hS => ?_) ?_
      ·have z0 := (hS.cell (p := ⟨b, off + (j + 1), none⟩) hbl).trans hc;clear hS;go_simp
      (try simp only [lgA, lgB, lgC, aP, laA, lsA, lsB]);refine Aa (.int .i64 x.size) rfl rfl (fun W' hS => ?_) ?_
      ·go_simp
      (try simp only [lgA, lgB, lgC, aP, laA, lsA, lsB]);refine Aa (.bool false) rfl rfl (fun W' hS => ?_) ?_
      ·go_simp
      (try simp only [lgA, lgB, lgC, aP, laA, lsA, lsB]);refine Aa (.bool false) rfl rfl (fun W' hS => ?_) ?_
      ·go_simp
      (try simp only [lgA, lgB, lgC, aP, laA, lsA, lsB]);refine Aa (.int .i64 (j + 1 : Nat)) rfl rfl (fun W' hS => ?_) ?_
      ·go_simp
      (try simp only [lgA, lgB, lgC, aP, laA, lsA, lsB]);refine Aa (.bool true) rfl rfl (fun W' hS => ?_) ?_
      ·go_simp
      (try simp only [lgA, lgB, lgC, aP, laA, lsA, lsB]);refine Aa (.bool true) rfl rfl (fun W' hS => ?_) ?_
      ·go_simp
      (try simp only [lgA, lgB, lgC, aP, laA, lsA, lsB]);refine Aa (.pointer (some ⟨w.heap.size, 4, none⟩)) rfl rfl (fun W' hS => ?_) ?_
      ·obtain ⟨z0, z1, z2, z3, z4, z5, -⟩ := five_facts (stays H2.out.1 hS);clear hS;go_simp
      (try simp only [lgA, lgB, lgC, aP, laA, lsA, lsB]);refine Aa (.slice (some ⟨b, off, none⟩) ks.length c2) rfl rfl (fun W' hS => ?_) ?_
      ·obtain ⟨z0, z1, z2, z3, z4, z5, -⟩ := five_facts (stays H2.out.1 hS);clear hS;go_simp
      (try simp only [lgA, lgB, lgC, aP, laA, lsA, lsB]);refine Aa (.int .i64 (j + 1 : Nat)) rfl rfl (fun W' hS => ?_) ?_
      ·go_simp
      (try simp only [lgA, lgB, lgC, aP, laA, lsA, lsB]);refine Aa (.pointer (some ⟨b, off + (j + 1), none⟩)) rfl rfl (fun W' hS => ?_) ?_
      ·go_simp
      (try simp only [lgA, lgB, lgC, aP, laA, lsA, lsB]);refine Aa (.string x) rfl rfl (fun W' hS => ?_) ?_
      ·have z0 := (hS.cell (p := ⟨b, off + (j + 1), none⟩) hbl).trans hc;clear hS;go_simp
      (try simp only [lgA, lgB, lgC, aP, laA, lsA, lsB]);refine Aa (.pointer (some ⟨w.heap.size, 4, none⟩)) rfl rfl (fun W' hS => ?_) ?_
      ·obtain ⟨z0, z1, z2, z3, z4, z5, -⟩ := five_facts (stays H2.out.1 hS);clear hS;go_simp
      (try simp only [lgA, lgB, lgC, aP, laA, lsA, lsB]);refine Aa (.slice (some ⟨b, off, none⟩) ks.length c2) rfl rfl (fun W' hS => ?_) ?_
      ·obtain ⟨z0, z1, z2, z3, z4, z5, -⟩ := five_facts (stays H2.out.1 hS);clear hS;go_simp
      (try simp only [lgA, lgB, lgC, aP, laA, lsA, lsB]);refine Aa (.int .i64 (j + 1 : Nat)) rfl rfl (fun W' hS => ?_) ?_
      ·go_simp
      (try simp only [lgA, lgB, lgC, aP, laA, lsA, lsB]);refine Aa (.int .i64 j) rfl rfl (fun W' hS => ?_) ?_
      ·go_simp
      (try simp only [lgA, lgB, lgC, aP, laA, lsA, lsB]);refine Aa (.pointer (some ⟨b, off + j, none⟩)) rfl rfl (fun W' hS => ?_) ?_
      ·go_simp
      (try simp only [lgA, lgB, lgC, aP, laA, lsA, lsB]);refine Aa (.string y) rfl rfl (fun W' hS => ?_) ?_
      ·have z0 := (hS.cell (p := ⟨b, off + j, none⟩) hbl).trans hc';clear hS;go_simp
      (try simp only [lgA, lgB, lgC, aP, laA, lsA, lsB]);refine Aa (.bool false) rfl rfl (fun W' hS => ?_) ?_
      ·go_simp
      (try simp only [lgA, lgB, lgC, aP, laA, lsA, lsB]);refine Aa (.bool false) rfl rfl (fun W' hS => ?_) ?_
      ·go_simp
      (try simp only [lgA, lgB, lgC, aP, laA, lsA, lsB]);refine Aa (.bool false) rfl rfl (fun W' hS => ?_) ?_
      ·go_simp
      (try simp only [lgA, lgB, lgC, aP, laA, lsA, lsB]);refine Ak ?_;(try simp only [lgA, lgB, lgC, aP, laA, lsA, lsB]);go_wp2_with fail;go_roundw
      case rel => exact ⟨j + 1 + 1, by go_num, by omega, aC, H2⟩
      case measure => simp only [intOf]; omega
  ·have HRt : Hid (R = true) := Lq7 (by have := aE.out; rw [List.drop_of_length_le (by omega)] at this; exact this.symm);clear aE;go_wp2_with fail;go_ret;exact ⟨congrArg (fun z => Ending.returned (Value.bool z)) HRt.out.symm, aB.out.2⟩
theorem Ug (k n1 : Int) (s : ByteArray) (m : Nat) (ks : List ByteArray) (hm : m ≤ 140737488355328) (hl : ks.length ≤ 140737488355328) (hz : ∀ x ∈ ks, x.size ≤ 9223372036854775807) (a1 : Option Addr) (c1 : Nat) (a2 : Option Addr) (c2 : Nat) (w : World) (hk : Ax w a2 ks) :
  Calls Tryz.prog 68 #[.agg #[.int .i64 k, .int .i64 n1, .string s, .slice a1 m c1, .slice a2 ks.length c2]] w (Dh (decide (m = ks.length) && risesGo none ks) w) := by
 by_cases h : m = ks.length
 ·subst h;rw [decide_eq_true rfl, Bool.true_and];exact keysx_eq k n1 s ks hl hz a1 c1 a2 c2 w hk
 ·rw [decide_eq_false h, Bool.false_and];have aG : Below w.heap.size w (w.alloc (.cells #[.int .i64 k, .int .i64 n1, .string s, .slice a1 m c1, .slice a2 ks.length c2] 31)) := (Below.refl _ w).alloc (nlr _) _;have H0 := Lq7 (And.intro (heap_alloc_new w (.cells #[.int .i64 k, .int .i64 n1, .string s, .slice a1 m c1, .slice a2 ks.length c2] 31)) aG);clear hk aG hz;generalize ks.length = p at *;have h1 : ¬ (p : Int) = (m : Int) := (by omega);have h2 : ((p : Int) == (m : Int)) = false := (by simpa using h1);go_enter Tryz.func68, Tryz.ntmps68;go_wp2_with fail;go_ret;exact ⟨rfl, H0.out.2⟩
theorem node_told {k n : Int} {s : ByteArray} {l : List Vl} {ks : List ByteArray} (h : nodeOk k n s l ks = true) :
  (k = 0 ∧ n = 0 ∧ s = ⟨#[]⟩ ∧ l = [] ∧ ks = []) ∨ (k = 1 ∧ (n = 0 ∨ n = 1) ∧ s = ⟨#[]⟩ ∧ l = [] ∧ ks = []) ∨ (k = 2 ∧ s = ⟨#[]⟩ ∧ l = [] ∧ ks = []) ∨ (k = 3 ∧ n = 0 ∧ s.size ≤ 65536 ∧ l = [] ∧ ks = []) ∨
   (k = 4 ∧ n = 0 ∧ s = ⟨#[]⟩ ∧ l.length ≤ 1000 ∧ ks = []) ∨ (k = 5 ∧ n = 0 ∧ s = ⟨#[]⟩ ∧ l.length = ks.length ∧ risesL ks = true) := by
 unfold nodeOk at h;split at h
 ·rename_i hk
  simp only [Bool.and_eq_true, beq_iff_eq, List.isEmpty_iff] at h;exact .inl ⟨hk, h.1.1.1, Cl (by simpa using h.1.1.2), h.1.2, h.2⟩
 split at h
 ·rename_i hk
  simp only [Bool.and_eq_true, Bool.or_eq_true, beq_iff_eq, List.isEmpty_iff] at h;exact .inr (.inl ⟨hk, h.1.1.1, Cl (by simpa using h.1.1.2), h.1.2, h.2⟩)
 split at h
 ·rename_i hk
  simp only [Bool.and_eq_true, List.isEmpty_iff] at h;exact .inr (.inr (.inl ⟨hk, Cl (by simpa using h.1.1.2), h.1.2, h.2⟩))
 split at h
 ·rename_i hk
  simp only [Bool.and_eq_true, beq_iff_eq, decide_eq_true_eq, List.isEmpty_iff] at h;exact .inr (.inr (.inr (.inl ⟨hk, h.1.1.1, h.1.1.2, h.1.2, h.2⟩)))
 split at h
 ·rename_i hk
  simp only [Bool.and_eq_true, beq_iff_eq, decide_eq_true_eq, List.isEmpty_iff] at h;exact .inr (.inr (.inr (.inr (.inl ⟨hk, h.1.1.1, Cl (by simpa using h.1.1.2), h.1.2, h.2⟩))))
 split at h
 ·rename_i hk
  simp only [Bool.and_eq_true, beq_iff_eq, List.isEmpty_iff] at h;exact .inr (.inr (.inr (.inr (.inr ⟨hk, h.1.1.1, Cl (by simpa using h.1.1.2), h.1.2, h.2⟩))))
 ·cases h
def NodesC (v : Vl) : Prop := ∀ (F : Nat → Prop) (a1 : Option Addr) (c1 : Nat) (a2 : Option Addr) (c2 : Nat) (w : World), Ac F w a1 (valsD v.items) → Ac F w a2 (Aq v.keys) → nodesR v = true →
 Calls Tryz.prog 23 #[.agg #[.int .i64 v.kind, .int .i64 v.num, .string v.str, .slice a1 v.items.length c1, .slice a2 v.keys.length c2]] w (PYes w)
theorem Et {v : Vl} (h : checkV v = true) : cntV v ≤ 20000 ∧ dpV v ≤ 60 ∧ nodesR v = true := by
 unfold checkV at h;obtain ⟨h1, h2, h3⟩ := G8 v 1 20000 h;have h4 := (Fp v 1 20000 (by omega)).2.2 h;exact ⟨by omega, by omega, h2⟩
theorem nodex_0 (n1 : Int) (s : ByteArray) (m p : Nat) (hs9 : s.size ≤ 9223372036854775807) (hm9 : m ≤ 140737488355328) (hp9 : p ≤ 140737488355328) (a1 : Option Addr) (c1 : Nat) (a2 : Option Addr) (c2 : Nat) (w : World) (b : Bool) (hb : b = (decide (n1 = 0) && (s.toList == []) && decide (m = 0) && decide (p = 0))) :
  Calls Tryz.prog 48 #[.agg #[.int .i64 0, .int .i64 n1, .string s, .slice a1 m c1, .slice a2 p c2]] w (Dh b w) := by
 by_cases hn0 : n1 = 0
 ·subst hn0;by_cases hs0 : s.toList = []
  ·obtain rfl : s = ⟨#[]⟩ := Cl (by simp [hs0]);clear hs0;by_cases hm0 : m = 0
   ·subst hm0;by_cases hp0 : p = 0
    ·subst hp0;obtain rfl : b = true := (by rw [hb]; first | (simp_all; done) | (simp_all; intros; omega));clear hb;have HB := Lq7 ((Below.refl _ w).alloc (nlr _) (.cells #[.int .i64 0, .int .i64 0, .string ⟨#[]⟩, .slice a1 0 c1, .slice a2 0 c2] 31));go_enter Tryz.func48, Tryz.ntmps48;go_wp2_with fail;go_ret;exact ⟨rfl, HB.out⟩
    ·have aB : ¬ (p : Int) = 0 := (by omega);have aJ : ((p : Int) == 0) = false := (by simpa using aB);obtain rfl : b = false := (by rw [hb]; first | (simp_all; done) | (simp_all; intros; omega));clear hb;have HB := Lq7 ((Below.refl _ w).alloc (nlr _) (.cells #[.int .i64 0, .int .i64 0, .string ⟨#[]⟩, .slice a1 0 c1, .slice a2 p c2] 31));go_enter Tryz.func48, Tryz.ntmps48;go_wp2_with fail;go_ret;exact ⟨rfl, HB.out⟩
   ·have aC : ¬ (m : Int) = 0 := (by omega);have aH : ((m : Int) == 0) = false := (by simpa using aC);obtain rfl : b = false := (by rw [hb]; first | (simp_all; done) | (simp_all; intros; omega));clear hb;have HB := Lq7 ((Below.refl _ w).alloc (nlr _) (.cells #[.int .i64 0, .int .i64 0, .string ⟨#[]⟩, .slice a1 m c1, .slice a2 p c2] 31));go_enter Tryz.func48, Tryz.ntmps48;go_wp2_with fail;go_ret;exact ⟨rfl, HB.out⟩
  ·have hs : (s.toList == []) = false := (by simpa using hs0);obtain rfl : b = false := (by rw [hb]; first | (simp_all; done) | (simp_all; intros; omega));clear hb;have HB := Lq7 ((Below.refl _ w).alloc (nlr _) (.cells #[.int .i64 0, .int .i64 0, .string s, .slice a1 m c1, .slice a2 p c2] 31));go_enter Tryz.func48, Tryz.ntmps48;go_wp2_with fail;go_ret;exact ⟨rfl, HB.out⟩
 ·have hn : (n1 == 0) = false := (by simpa using hn0);obtain rfl : b = false := (by rw [hb]; first | (simp_all; done) | (simp_all; intros; omega));clear hb;have HB := Lq7 ((Below.refl _ w).alloc (nlr _) (.cells #[.int .i64 0, .int .i64 n1, .string s, .slice a1 m c1, .slice a2 p c2] 31));go_enter Tryz.func48, Tryz.ntmps48;go_wp2_with fail;go_ret;exact ⟨rfl, HB.out⟩
theorem nodex_1 (n1 : Int) (s : ByteArray) (m p : Nat) (hs9 : s.size ≤ 9223372036854775807) (hm9 : m ≤ 140737488355328) (hp9 : p ≤ 140737488355328) (a1 : Option Addr) (c1 : Nat) (a2 : Option Addr) (c2 : Nat) (w : World) (b : Bool) (hb : b = ((decide (n1 = 0) || decide (n1 = 1)) && (s.toList == []) && decide (m = 0) && decide (p = 0))) :
  Calls Tryz.prog 48 #[.agg #[.int .i64 1, .int .i64 n1, .string s, .slice a1 m c1, .slice a2 p c2]] w (Dh b w) := by
 by_cases h : n1 = 0
 ·subst h;by_cases hs0 : s.toList = []
  ·obtain rfl : s = ⟨#[]⟩ := Cl (by simp [hs0]);clear hs0;by_cases hm0 : m = 0
   ·subst hm0;by_cases hp0 : p = 0
    ·subst hp0;obtain rfl : b = true := (by rw [hb]; first | (simp_all; done) | (simp_all; intros; omega));clear hb;have HB := Lq7 ((Below.refl _ w).alloc (nlr _) (.cells #[.int .i64 1, .int .i64 0, .string ⟨#[]⟩, .slice a1 0 c1, .slice a2 0 c2] 31));go_enter Tryz.func48, Tryz.ntmps48;go_wp2_with fail;go_ret;exact ⟨rfl, HB.out⟩
    ·have aB : ¬ (p : Int) = 0 := (by omega);have aJ : ((p : Int) == 0) = false := (by simpa using aB);obtain rfl : b = false := (by rw [hb]; first | (simp_all; done) | (simp_all; intros; omega));clear hb;have HB := Lq7 ((Below.refl _ w).alloc (nlr _) (.cells #[.int .i64 1, .int .i64 0, .string ⟨#[]⟩, .slice a1 0 c1, .slice a2 p c2] 31));go_enter Tryz.func48, Tryz.ntmps48;go_wp2_with fail;go_ret;exact ⟨rfl, HB.out⟩
   ·have aC : ¬ (m : Int) = 0 := (by omega);have aH : ((m : Int) == 0) = false := (by simpa using aC);obtain rfl : b = false := (by rw [hb]; first | (simp_all; done) | (simp_all; intros; omega));clear hb;have HB := Lq7 ((Below.refl _ w).alloc (nlr _) (.cells #[.int .i64 1, .int .i64 0, .string ⟨#[]⟩, .slice a1 m c1, .slice a2 p c2] 31));go_enter Tryz.func48, Tryz.ntmps48;go_wp2_with fail;go_ret;exact ⟨rfl, HB.out⟩
  ·have hs : (s.toList == []) = false := (by simpa using hs0);obtain rfl : b = false := (by rw [hb]; first | (simp_all; done) | (simp_all; intros; omega));clear hb;have HB := Lq7 ((Below.refl _ w).alloc (nlr _) (.cells #[.int .i64 1, .int .i64 0, .string s, .slice a1 m c1, .slice a2 p c2] 31));go_enter Tryz.func48, Tryz.ntmps48;go_wp2_with fail;go_ret;exact ⟨rfl, HB.out⟩
 ·have hn : (n1 == 0) = false := (by simpa using h);by_cases h1 : n1 = 1
  ·subst h1;by_cases hs0 : s.toList = []
   ·obtain rfl : s = ⟨#[]⟩ := Cl (by simp [hs0]);clear hs0;by_cases hm0 : m = 0
    ·subst hm0;by_cases hp0 : p = 0
     ·subst hp0;obtain rfl : b = true := (by rw [hb]; first | (simp_all; done) | (simp_all; intros; omega));clear hb;have HB := Lq7 ((Below.refl _ w).alloc (nlr _) (.cells #[.int .i64 1, .int .i64 1, .string ⟨#[]⟩, .slice a1 0 c1, .slice a2 0 c2] 31));go_enter Tryz.func48, Tryz.ntmps48;go_wp2_with fail;go_ret;exact ⟨rfl, HB.out⟩
     ·have aB : ¬ (p : Int) = 0 := (by omega);have aJ : ((p : Int) == 0) = false := (by simpa using aB);obtain rfl : b = false := (by rw [hb]; first | (simp_all; done) | (simp_all; intros; omega));clear hb;have HB := Lq7 ((Below.refl _ w).alloc (nlr _) (.cells #[.int .i64 1, .int .i64 1, .string ⟨#[]⟩, .slice a1 0 c1, .slice a2 p c2] 31));go_enter Tryz.func48, Tryz.ntmps48;go_wp2_with fail;go_ret;exact ⟨rfl, HB.out⟩
    ·have aC : ¬ (m : Int) = 0 := (by omega);have aH : ((m : Int) == 0) = false := (by simpa using aC);obtain rfl : b = false := (by rw [hb]; first | (simp_all; done) | (simp_all; intros; omega));clear hb;have HB := Lq7 ((Below.refl _ w).alloc (nlr _) (.cells #[.int .i64 1, .int .i64 1, .string ⟨#[]⟩, .slice a1 m c1, .slice a2 p c2] 31));go_enter Tryz.func48, Tryz.ntmps48;go_wp2_with fail;go_ret;exact ⟨rfl, HB.out⟩
   ·have hs : (s.toList == []) = false := (by simpa using hs0);obtain rfl : b = false := (by rw [hb]; first | (simp_all; done) | (simp_all; intros; omega));clear hb;have HB := Lq7 ((Below.refl _ w).alloc (nlr _) (.cells #[.int .i64 1, .int .i64 1, .string s, .slice a1 m c1, .slice a2 p c2] 31));go_enter Tryz.func48, Tryz.ntmps48;go_wp2_with fail;go_ret;exact ⟨rfl, HB.out⟩
  ·have hn1 : (n1 == 1) = false := (by simpa using h1);obtain rfl : b = false := (by rw [hb]; first | (simp_all; done) | (simp_all; intros; omega));clear hb;have HB := Lq7 ((Below.refl _ w).alloc (nlr _) (.cells #[.int .i64 1, .int .i64 n1, .string s, .slice a1 m c1, .slice a2 p c2] 31));go_enter Tryz.func48, Tryz.ntmps48;go_wp2_with fail;go_ret;exact ⟨rfl, HB.out⟩
theorem nodex_2 (n1 : Int) (s : ByteArray) (m p : Nat) (hs9 : s.size ≤ 9223372036854775807) (hm9 : m ≤ 140737488355328) (hp9 : p ≤ 140737488355328) (a1 : Option Addr) (c1 : Nat) (a2 : Option Addr) (c2 : Nat) (w : World) (b : Bool) (hb : b = ((s.toList == []) && decide (m = 0) && decide (p = 0))) :
  Calls Tryz.prog 48 #[.agg #[.int .i64 2, .int .i64 n1, .string s, .slice a1 m c1, .slice a2 p c2]] w (Dh b w) := by
 by_cases hs0 : s.toList = []
 ·obtain rfl : s = ⟨#[]⟩ := Cl (by simp [hs0]);clear hs0;by_cases hm0 : m = 0
  ·subst hm0;by_cases hp0 : p = 0
   ·subst hp0;obtain rfl : b = true := (by rw [hb]; first | (simp_all; done) | (simp_all; intros; omega));clear hb;have HB := Lq7 ((Below.refl _ w).alloc (nlr _) (.cells #[.int .i64 2, .int .i64 n1, .string ⟨#[]⟩, .slice a1 0 c1, .slice a2 0 c2] 31));go_enter Tryz.func48, Tryz.ntmps48;go_wp2_with fail;go_ret;exact ⟨rfl, HB.out⟩
   ·have aB : ¬ (p : Int) = 0 := (by omega);have aJ : ((p : Int) == 0) = false := (by simpa using aB);obtain rfl : b = false := (by rw [hb]; first | (simp_all; done) | (simp_all; intros; omega));clear hb;have HB := Lq7 ((Below.refl _ w).alloc (nlr _) (.cells #[.int .i64 2, .int .i64 n1, .string ⟨#[]⟩, .slice a1 0 c1, .slice a2 p c2] 31));go_enter Tryz.func48, Tryz.ntmps48;go_wp2_with fail;go_ret;exact ⟨rfl, HB.out⟩
  ·have aC : ¬ (m : Int) = 0 := (by omega);have aH : ((m : Int) == 0) = false := (by simpa using aC);obtain rfl : b = false := (by rw [hb]; first | (simp_all; done) | (simp_all; intros; omega));clear hb;have HB := Lq7 ((Below.refl _ w).alloc (nlr _) (.cells #[.int .i64 2, .int .i64 n1, .string ⟨#[]⟩, .slice a1 m c1, .slice a2 p c2] 31));go_enter Tryz.func48, Tryz.ntmps48;go_wp2_with fail;go_ret;exact ⟨rfl, HB.out⟩
 ·have hs : (s.toList == []) = false := (by simpa using hs0);obtain rfl : b = false := (by rw [hb]; first | (simp_all; done) | (simp_all; intros; omega));clear hb;have HB := Lq7 ((Below.refl _ w).alloc (nlr _) (.cells #[.int .i64 2, .int .i64 n1, .string s, .slice a1 m c1, .slice a2 p c2] 31));go_enter Tryz.func48, Tryz.ntmps48;go_wp2_with fail;go_ret;exact ⟨rfl, HB.out⟩
theorem nodex_3 (n1 : Int) (s : ByteArray) (m p : Nat) (hs9 : s.size ≤ 9223372036854775807) (hm9 : m ≤ 140737488355328) (hp9 : p ≤ 140737488355328) (a1 : Option Addr) (c1 : Nat) (a2 : Option Addr) (c2 : Nat) (w : World) (b : Bool) (hb : b = (decide (n1 = 0) && decide (s.size ≤ 65536) && decide (m = 0) && decide (p = 0))) :
  Calls Tryz.prog 48 #[.agg #[.int .i64 3, .int .i64 n1, .string s, .slice a1 m c1, .slice a2 p c2]] w (Dh b w) := by
 by_cases hn0 : n1 = 0
 ·subst hn0;by_cases hsz : s.size ≤ 65536
  ·have hsz' : (s.size : Int) ≤ 65536 := (by omega);by_cases hm0 : m = 0
   ·subst hm0;by_cases hp0 : p = 0
    ·subst hp0;obtain rfl : b = true := (by rw [hb]; first | (simp_all; done) | (simp_all; intros; omega));clear hb;have HB := Lq7 ((Below.refl _ w).alloc (nlr _) (.cells #[.int .i64 3, .int .i64 0, .string s, .slice a1 0 c1, .slice a2 0 c2] 31));go_enter Tryz.func48, Tryz.ntmps48;go_wp2_with fail;go_ret;exact ⟨rfl, HB.out⟩
    ·have aB : ¬ (p : Int) = 0 := (by omega);have aJ : ((p : Int) == 0) = false := (by simpa using aB);obtain rfl : b = false := (by rw [hb]; first | (simp_all; done) | (simp_all; intros; omega));clear hb;have HB := Lq7 ((Below.refl _ w).alloc (nlr _) (.cells #[.int .i64 3, .int .i64 0, .string s, .slice a1 0 c1, .slice a2 p c2] 31));go_enter Tryz.func48, Tryz.ntmps48;go_wp2_with fail;go_ret;exact ⟨rfl, HB.out⟩
   ·have aC : ¬ (m : Int) = 0 := (by omega);have aH : ((m : Int) == 0) = false := (by simpa using aC);obtain rfl : b = false := (by rw [hb]; first | (simp_all; done) | (simp_all; intros; omega));clear hb;have HB := Lq7 ((Below.refl _ w).alloc (nlr _) (.cells #[.int .i64 3, .int .i64 0, .string s, .slice a1 m c1, .slice a2 p c2] 31));go_enter Tryz.func48, Tryz.ntmps48;go_wp2_with fail;go_ret;exact ⟨rfl, HB.out⟩
  ·have hsz' : ¬ (s.size : Int) ≤ 65536 := (by omega);obtain rfl : b = false := (by rw [hb]; first | (simp_all; done) | (simp_all; intros; omega));clear hb;have HB := Lq7 ((Below.refl _ w).alloc (nlr _) (.cells #[.int .i64 3, .int .i64 0, .string s, .slice a1 m c1, .slice a2 p c2] 31));go_enter Tryz.func48, Tryz.ntmps48;go_wp2_with fail;go_ret;exact ⟨rfl, HB.out⟩
 ·have hn : (n1 == 0) = false := (by simpa using hn0);obtain rfl : b = false := (by rw [hb]; first | (simp_all; done) | (simp_all; intros; omega));clear hb;have HB := Lq7 ((Below.refl _ w).alloc (nlr _) (.cells #[.int .i64 3, .int .i64 n1, .string s, .slice a1 m c1, .slice a2 p c2] 31));go_enter Tryz.func48, Tryz.ntmps48;go_wp2_with fail;go_ret;exact ⟨rfl, HB.out⟩
theorem nodex_4 (n1 : Int) (s : ByteArray) (m p : Nat) (hs9 : s.size ≤ 9223372036854775807) (hm9 : m ≤ 140737488355328) (hp9 : p ≤ 140737488355328) (a1 : Option Addr) (c1 : Nat) (a2 : Option Addr) (c2 : Nat) (w : World) (b : Bool) (hb : b = (decide (n1 = 0) && (s.toList == []) && decide (m ≤ 1000) && decide (p = 0))) :
  Calls Tryz.prog 48 #[.agg #[.int .i64 4, .int .i64 n1, .string s, .slice a1 m c1, .slice a2 p c2]] w (Dh b w) := by
 by_cases hn0 : n1 = 0
 ·subst hn0;by_cases hs0 : s.toList = []
  ·obtain rfl : s = ⟨#[]⟩ := Cl (by simp [hs0]);clear hs0;by_cases hml : m ≤ 1000
   ·have hml' : (m : Int) ≤ 1000 := (by omega);by_cases hp0 : p = 0
    ·subst hp0;obtain rfl : b = true := (by rw [hb]; first | (simp_all; done) | (simp_all; intros; omega));clear hb;have HB := Lq7 ((Below.refl _ w).alloc (nlr _) (.cells #[.int .i64 4, .int .i64 0, .string ⟨#[]⟩, .slice a1 m c1, .slice a2 0 c2] 31));go_enter Tryz.func48, Tryz.ntmps48;go_wp2_with fail;go_ret;exact ⟨rfl, HB.out⟩
    ·have aB : ¬ (p : Int) = 0 := (by omega);have aJ : ((p : Int) == 0) = false := (by simpa using aB);obtain rfl : b = false := (by rw [hb]; first | (simp_all; done) | (simp_all; intros; omega));clear hb;have HB := Lq7 ((Below.refl _ w).alloc (nlr _) (.cells #[.int .i64 4, .int .i64 0, .string ⟨#[]⟩, .slice a1 m c1, .slice a2 p c2] 31));go_enter Tryz.func48, Tryz.ntmps48;go_wp2_with fail;go_ret;exact ⟨rfl, HB.out⟩
   ·have hml' : ¬ (m : Int) ≤ 1000 := (by omega);obtain rfl : b = false := (by rw [hb]; first | (simp_all; done) | (simp_all; intros; omega));clear hb;have HB := Lq7 ((Below.refl _ w).alloc (nlr _) (.cells #[.int .i64 4, .int .i64 0, .string ⟨#[]⟩, .slice a1 m c1, .slice a2 p c2] 31));go_enter Tryz.func48, Tryz.ntmps48;go_wp2_with fail;go_ret;exact ⟨rfl, HB.out⟩
  ·have hs : (s.toList == []) = false := (by simpa using hs0);obtain rfl : b = false := (by rw [hb]; first | (simp_all; done) | (simp_all; intros; omega));clear hb;have HB := Lq7 ((Below.refl _ w).alloc (nlr _) (.cells #[.int .i64 4, .int .i64 0, .string s, .slice a1 m c1, .slice a2 p c2] 31));go_enter Tryz.func48, Tryz.ntmps48;go_wp2_with fail;go_ret;exact ⟨rfl, HB.out⟩
 ·have hn : (n1 == 0) = false := (by simpa using hn0);obtain rfl : b = false := (by rw [hb]; first | (simp_all; done) | (simp_all; intros; omega));clear hb;have HB := Lq7 ((Below.refl _ w).alloc (nlr _) (.cells #[.int .i64 4, .int .i64 n1, .string s, .slice a1 m c1, .slice a2 p c2] 31));go_enter Tryz.func48, Tryz.ntmps48;go_wp2_with fail;go_ret;exact ⟨rfl, HB.out⟩
theorem nodex_5 (n1 : Int) (s : ByteArray) (m p : Nat) (hs9 : s.size ≤ 9223372036854775807) (hm9 : m ≤ 140737488355328) (_hp9 : p ≤ 140737488355328) (a1 : Option Addr) (c1 : Nat) (a2 : Option Addr) (c2 : Nat) (w : World) (kb b : Bool) (hb : b = (decide (n1 = 0) && (s.toList == []) && decide (m ≤ 1000) && kb))
  (hk : ∀ W, Below w.heap.size w W → Calls Tryz.prog 68 #[.agg #[.int .i64 5, .int .i64 n1, .string s, .slice a1 m c1, .slice a2 p c2]] W (Dh kb W)) :
  Calls Tryz.prog 48 #[.agg #[.int .i64 5, .int .i64 n1, .string s, .slice a1 m c1, .slice a2 p c2]] w (Dh b w) := by
 have HK := Lq7 hk;clear hk;by_cases hn0 : n1 = 0
 ·subst hn0;by_cases hs0 : s.toList = []
  ·obtain rfl : s = ⟨#[]⟩ := Cl (by simp [hs0]);clear hs0;by_cases hml : m ≤ 1000
   ·have hml' : (m : Int) ≤ 1000 := (by omega);obtain rfl : b = kb := (by rw [hb]; simp_all);clear hb;have aE : Below w.heap.size w (w.alloc (.cells #[.int .i64 5, .int .i64 0, .string ⟨#[]⟩, .slice a1 m c1, .slice a2 p c2] 31)) := (Below.refl _ w).alloc (nlr _) _;have HB := Lq7 aE;have HK1 := Lq7 (HK.out _ aE);clear aE HK;go_enter Tryz.func48, Tryz.ntmps48;go_wp2_with fail;refine HK1.out.mono ?_;rintro e w1 ⟨rfl, aI⟩;have Hb1 := Lq7 (HB.out.trans (aI.mono HB.out.size));clear aI;go_wp2_with fail;go_ret;exact ⟨rfl, Hb1.out⟩
   ·have hml' : ¬ (m : Int) ≤ 1000 := (by omega);clear HK;obtain rfl : b = false := (by rw [hb]; first | (simp_all; done) | (simp_all; intros; omega));clear hb;have HB := Lq7 ((Below.refl _ w).alloc (nlr _) (.cells #[.int .i64 5, .int .i64 0, .string ⟨#[]⟩, .slice a1 m c1, .slice a2 p c2] 31));go_enter Tryz.func48, Tryz.ntmps48;go_wp2_with fail;go_ret;exact ⟨rfl, HB.out⟩
  ·have hs : (s.toList == []) = false := (by simpa using hs0);clear HK;obtain rfl : b = false := (by rw [hb]; first | (simp_all; done) | (simp_all; intros; omega));clear hb;have HB := Lq7 ((Below.refl _ w).alloc (nlr _) (.cells #[.int .i64 5, .int .i64 0, .string s, .slice a1 m c1, .slice a2 p c2] 31));go_enter Tryz.func48, Tryz.ntmps48;go_wp2_with fail;go_ret;exact ⟨rfl, HB.out⟩
 ·have hn : (n1 == 0) = false := (by simpa using hn0);clear HK;obtain rfl : b = false := (by rw [hb]; first | (simp_all; done) | (simp_all; intros; omega));clear hb;have HB := Lq7 ((Below.refl _ w).alloc (nlr _) (.cells #[.int .i64 5, .int .i64 n1, .string s, .slice a1 m c1, .slice a2 p c2] 31));go_enter Tryz.func48, Tryz.ntmps48;go_wp2_with fail;go_ret;exact ⟨rfl, HB.out⟩
theorem R6 (k n1 : Int) (s : ByteArray) (m p : Nat) (h0 : ¬ k = 0) (h1 : ¬ k = 1) (h2 : ¬ k = 2) (h3 : ¬ k = 3) (h4 : ¬ k = 4) (h5 : ¬ k = 5) (a1 : Option Addr) (c1 : Nat) (a2 : Option Addr) (c2 : Nat) (w : World) :
  Calls Tryz.prog 48 #[.agg #[.int .i64 k, .int .i64 n1, .string s, .slice a1 m c1, .slice a2 p c2]] w (Dh false w) := by
 have HB := Lq7 ((Below.refl _ w).alloc (nlr _) (.cells #[.int .i64 k, .int .i64 n1, .string s, .slice a1 m c1, .slice a2 p c2] 31));have e0 : (k == 0) = false := (by simpa using h0);have e1 : (k == 1) = false := (by simpa using h1);have e2 : (k == 2) = false := (by simpa using h2);have e3 : (k == 3) = false := (by simpa using h3);have e4 : (k == 4) = false := (by simpa using h4);have e5 : (k == 5) = false := (by simpa using h5);go_enter Tryz.func48, Tryz.ntmps48;go_wp2_with fail;go_ret;exact ⟨rfl, HB.out⟩
theorem D4 (s : ByteArray) : s.toList.isEmpty = (s.toList == []) := by cases s.toList <;> rfl
theorem len0 {α : Type} (l : List α) : l.isEmpty = decide (l.length = 0) := by cases l <;> simp
theorem Um (k n1 : Int) (s : ByteArray) (l : List Vl) (ks : List ByteArray) (hsm : smallV (.mk k n1 s l ks)) (F : Nat → Prop) (a1 : Option Addr) (c1 : Nat) (a2 : Option Addr) (c2 : Nat) (w : World) (hk : Ac F w a2 (Aq ks)) :
  Calls Tryz.prog 48 #[.agg #[.int .i64 k, .int .i64 n1, .string s, .slice a1 l.length c1, .slice a2 ks.length c2]] w (Dh (nodeOk k n1 s l ks) w) := by
 rw [smallV] at hsm;obtain ⟨⟨hs9, hin⟩, hm9, hp9, hz, -⟩ := hsm;by_cases h0 : k = 0
 ·subst h0;exact nodex_0 n1 s l.length ks.length hs9 hm9 hp9 a1 c1 a2 c2 w _ (by unfold nodeOk; rw [if_pos rfl, D4, len0, len0, show (n1 == 0) = decide (n1 = 0) from rfl])
 by_cases h1 : k = 1
 ·subst h1;exact nodex_1 n1 s l.length ks.length hs9 hm9 hp9 a1 c1 a2 c2 w _ (by unfold nodeOk; rw [if_neg (by decide), if_pos rfl, D4, len0, len0, show (n1 == 0) = decide (n1 = 0) from rfl, show (n1 == 1) = decide (n1 = 1) from rfl])
 by_cases h2 : k = 2
 ·subst h2;exact nodex_2 n1 s l.length ks.length hs9 hm9 hp9 a1 c1 a2 c2 w _ (by unfold nodeOk; rw [if_neg (by decide), if_neg (by decide), if_pos rfl, D4, len0, len0, hin, Bool.true_and])
 by_cases h3 : k = 3
 ·subst h3;exact nodex_3 n1 s l.length ks.length hs9 hm9 hp9 a1 c1 a2 c2 w _ (by unfold nodeOk; rw [if_neg (by decide), if_neg (by decide), if_neg (by decide), if_pos rfl, len0, len0, show (n1 == 0) = decide (n1 = 0) from rfl])
 by_cases h4 : k = 4
 ·subst h4;exact nodex_4 n1 s l.length ks.length hs9 hm9 hp9 a1 c1 a2 c2 w _ (by unfold nodeOk; rw [if_neg (by decide), if_neg (by decide), if_neg (by decide), if_neg (by decide), if_pos rfl, D4, len0, show (n1 == 0) = decide (n1 = 0) from rfl])
 by_cases h5 : k = 5
 ·subst h5;refine nodex_5 n1 s l.length ks.length hs9 hm9 hp9 a1 c1 a2 c2 w (decide (l.length = ks.length) && risesGo none ks) _ ?_ (fun W hb => Ug 5 n1 s l.length ks hm9 hp9 hz a1 c1 a2 c2 W (hk.below hb).strs);unfold nodeOk risesL;rw [if_neg (by decide), if_neg (by decide), if_neg (by decide), if_neg (by decide), if_neg (by decide), if_pos rfl, D4, show (n1 == 0) = decide (n1 = 0) from rfl, show (l.length == ks.length) = decide (l.length = ks.length) from rfl];by_cases hlk : l.length = ks.length
  ·rw [hlk];cases decide (n1 = 0) <;> cases (s.toList == []) <;> cases decide (ks.length ≤ 1000) <;> cases risesGo none ks <;> simp
  ·rw [decide_eq_false hlk];simp
 ·have hf : nodeOk k n1 s l ks = false := by
   unfold nodeOk;rw [if_neg h0, if_neg h1, if_neg h2, if_neg h3, if_neg h4, if_neg h5]
  rw [hf];exact R6 k n1 s l.length ks.length h0 h1 h2 h3 h4 h5 a1 c1 a2 c2 w
def Ou (v : Vl) : Prop := ∀ (F : Nat → Prop) (a1 : Option Addr) (c1 : Nat) (a2 : Option Addr) (c2 : Nat) (w : World), Ac F w a1 (valsD v.items) → Ac F w a2 (Aq v.keys) →
 Calls Tryz.prog 23 #[.agg #[.int .i64 v.kind, .int .i64 v.num, .string v.str, .slice a1 v.items.length c1, .slice a2 v.keys.length c2]] w (Dh (nodesR v) w)
theorem Qa (k n1 : Int) (s : ByteArray) (l : List Vl) (ks : List ByteArray) (hsm : smallV (.mk k n1 s l ks)) (hit : ∀ x ∈ l, Ou x) (F : Nat → Prop) (a1 : Option Addr) (c1 : Nat) (a2 : Option Addr) (c2 : Nat) (w : World) (hr1 : Ac F w a1 (valsD l)) (hr2 : Ac F w a2 (Aq ks)) :
  Calls Tryz.prog 23 #[.agg #[.int .i64 k, .int .i64 n1, .string s, .slice a1 l.length c1, .slice a2 ks.length c2]] w (Dh (nodesRs l && nodeOk k n1 s l ks) w) := by
 have aE : Below w.heap.size w (w.alloc (.cells #[.int .i64 k, .int .i64 n1, .string s, .slice a1 l.length c1, .slice a2 ks.length c2] 31)) := (Below.refl _ w).alloc (nlr _) _;have H0 := Lq7 (And.intro (heap_alloc_new w (.cells #[.int .i64 k, .int .i64 n1, .string s, .slice a1 l.length c1, .slice a2 ks.length c2] 31)) aE);have Hr := Lq7 hr1;have Hit := Lq7 hit;have HN := Lq7 (fun W (h : Below w.heap.size w W) => Um k n1 s l ks hsm F a1 c1 a2 c2 W (hr2.below h));have hl : l.length ≤ 140737488355328 := (by rw [smallV] at hsm; exact hsm.2.1);generalize nodeOk k n1 s l ks = nb at HN ⊢;generalize hR : (nodesRs l && nb) = R;have HR := Lq7 hR;clear hr1 hr2 hit aE hsm hR;go_enter Tryz.func23, Tryz.ntmps23;go_wp2_with fail;generalize World.alloc _ _ = W0 at H0 ⊢
 go_loopw [7] (fun i wr => ∃ j : Nat, i = .int .i64 j ∧ j ≤ l.length ∧ Hid ((nodesRs (l.drop j) && nb) = R) ∧ Hid (wr.heap[w.heap.size]? = some (.cells #[.int .i64 k, .int .i64 n1, .string s, .slice a1 l.length c1, .slice a2 ks.length c2] 31 (0, 0)) ∧ Below w.heap.size w wr)) (fun i _ => l.length - (intOf i).toNat)
 case atStart => exact ⟨0, rfl, nlz _, Lq7 (by rw [List.drop_zero]; exact HR.out), H0⟩
 case round =>
  obtain ⟨j, rfl, hj, hn, aG⟩ := hrel;obtain ⟨q0, q1, q2, q3, q4, q5, -⟩ := five_facts aG.out.1;by_cases hlt : j < l.length
  ·have aQ : l[j]? = some l[j] := lgE hlt;have hg := hn.out;rw [List.drop_eq_getElem_cons hlt, nodesRs] at hg;have Hg := Lq7 hg;clear hg hn;generalize l[j] = x at aQ Hg;have HC := Lq7 (Hit.out x (lgM aQ));obtain ⟨xk, xn, xs, xl, xks⟩ := x;obtain ⟨b, off, b1, e1, b2, e2, rfl, -, hbl, r0, r1, r2, r3, r4, aV, aW⟩ := (Hr.out.below aG.out.2).val aQ;have HK := Lq7 (HC.out F b1 e1 b2 e2 wr aV aW);clear aQ HC aV aW;generalize nodesR (.mk xk xn xs xl xks) = xb at HK Hg;go_wp2_with fail;refine HK.out.mono ?_;rintro e w2 ⟨rfl, aF⟩;have aM := Lq7 (And.intro (stays aG.out.1 aF) (aG.out.2.trans (aF.mono aG.out.2.size)));clear aF aG HK r0 r1 r2 r3 r4 q0 q1 q2 q3 q4 q5;cases xb with
   | false =>
    have aN : Hid (R = false) := Lq7 (by rw [← Hg.out]; rfl);clear Hg;go_wp2_with fail;go_ret;exact ⟨congrArg (fun z => Ending.returned (Value.bool z)) aN.out.symm, aM.out.2⟩
   | true =>
    have Hg2 : Hid ((nodesRs (l.drop (j + 1)) && nb) = R) := Lq7 (by have := Hg.out; rwa [Bool.true_and] at this);clear Hg;go_wp2_with fail;go_roundw
    case rel => exact ⟨j + 1, by go_num, by omega, Hg2, aM⟩
    case measure => simp only [intOf]; omega
  ·have aR := Lq7 (HN.out wr aG.out.2);have aU : Hid (nb = R) := Lq7 (by have := hn.out; rwa [List.drop_of_length_le (by omega), nodesRs, Bool.true_and] at this);clear HN hn;go_wp2_with fail;refine aR.out.mono ?_;rintro e w2 ⟨rfl, aF⟩;have Hb2 := Lq7 (aG.out.2.trans (aF.mono aG.out.2.size));clear aF;go_wp2_with fail;go_ret;exact ⟨congrArg (fun z => Ending.returned (Value.bool z)) aU.out, Hb2.out⟩
theorem R7 (v : Vl) : smallV v → Ou v :=
 Vl.rec (motive_1 := fun v => smallV v → Ou v) (motive_2 := fun l => smallVs l → ∀ x ∈ l, Ou x)
  (fun k n s l ks ih h F a1 c1 a2 c2 w hr1 hr2 => by
   have h' := h;rw [smallV] at h';rw [nodesR];exact Qa k n s l ks h (ih h'.2.2.2.2) F a1 c1 a2 c2 w hr1 hr2)
  (fun _ x hx => by cases hx)
  (fun v t hv ht h x hx => by
   rw [smallVs] at h;rcases List.mem_cons.1 hx with rfl | hx
   ·exact hv h.1
   ·exact ht h.2 x hx) v
theorem Jf (k n1 : Int) (s : ByteArray) (l : List Vl) (ks : List ByteArray) (hs : smallV (.mk k n1 s l ks)) (F : Nat → Prop) (a1 : Option Addr) (c1 : Nat) (a2 : Option Addr) (c2 : Nat) (w : World) (hr1 : Ac F w a1 (valsD l)) (hr2 : Ac F w a2 (Aq ks)) :
  Calls Tryz.prog 7 #[.agg #[.int .i64 k, .int .i64 n1, .string s, .slice a1 l.length c1, .slice a2 ks.length c2]] w (Dh (checkV (.mk k n1 s l ks)) w) := by
 rw [← Tz];have aE : Below w.heap.size w (w.alloc (.cells #[.int .i64 k, .int .i64 n1, .string s, .slice a1 l.length c1, .slice a2 ks.length c2] 31)) := (Below.refl _ w).alloc (nlr _) _;have H0 := Lq7 (And.intro (heap_alloc_new w (.cells #[.int .i64 k, .int .i64 n1, .string s, .slice a1 l.length c1, .slice a2 ks.length c2] 31)) aE);have HM := Lq7 (Uk _ hs F a1 c1 a2 c2 20000 _ (hr1.below aE) (hr2.below aE) (by omega) (by omega));have HD := Lq7 (fun W (h : Below w.heap.size w W) => Ul _ hs F a1 c1 a2 c2 60 W (hr1.below h) (hr2.below h) (by omega) (by omega));have HN := Lq7 (fun W (h : Below w.heap.size w W) => R7 _ hs F a1 c1 a2 c2 W (hr1.below h) (hr2.below h));have hR : checkR (.mk k n1 s l ks) = (decide (manyR (.mk k n1 s l ks) 20000 ≤ 20000) && decide (deepR (.mk k n1 s l ks) 60 ≤ 60) && nodesR (.mk k n1 s l ks)) := rfl;have hm := F3 (.mk k n1 s l ks) 20000 (by omega);have hd := F4 (.mk k n1 s l ks) 60 (by omega);have aC := hm.1;have aH := hm.2.1;have hd1 := hd.1;have hd2 := hd.2.1;clear aE hr1 hr2 hs hm hd;generalize checkR (.mk k n1 s l ks) = R at hR ⊢;generalize manyR (.mk k n1 s l ks) 20000 = cx at HM hR aC aH;generalize deepR (.mk k n1 s l ks) 60 = dx at HD hR hd1 hd2;generalize nodesR (.mk k n1 s l ks) = nx at HN hR;have HR := Lq7 hR;clear hR;go_enter Tryz.func7, Tryz.ntmps7;go_wp2_with fail;refine HM.out.mono ?_;rintro e w1 ⟨rfl, aI⟩;have H1 := Lq7 (And.intro (stays H0.out.1 aI) (H0.out.2.trans (aI.mono H0.out.2.size)));have aX := Lq7 (HD.out w1 H1.out.2);clear aI H0 HM HD;obtain ⟨q0, q1, q2, q3, q4, q5, -⟩ := five_facts H1.out.1;by_cases hcx : cx ≤ 20000
 case neg =>
  have aN : Hid (R = false) := Lq7 (by rw [HR.out, decide_eq_false hcx]; rfl);clear HR;go_wp2_with fail;go_ret;exact ⟨congrArg (fun z => Ending.returned (Value.bool z)) aN.out.symm, H1.out.2⟩
 go_wp2_with fail;refine aX.out.mono ?_;rintro e w2 ⟨rfl, aF⟩;have H2 := Lq7 (And.intro (stays H1.out.1 aF) (H1.out.2.trans (aF.mono H1.out.2.size)));have aR := Lq7 (HN.out w2 H2.out.2);clear aF H1 aX HN q0 q1 q2 q3 q4 q5;obtain ⟨q0, q1, q2, q3, q4, q5, -⟩ := five_facts H2.out.1;by_cases hdx : dx ≤ 60
 case neg =>
  have aN : Hid (R = false) := Lq7 (by rw [HR.out, decide_eq_false hdx, Bool.and_false]; rfl);clear HR;go_wp2_with fail;go_ret;exact ⟨congrArg (fun z => Ending.returned (Value.bool z)) aN.out.symm, H2.out.2⟩
 have aU : Hid (R = nx) := Lq7 (by rw [HR.out, decide_eq_true hcx, decide_eq_true hdx]; rfl);clear HR;go_wp2_with fail;refine aR.out.mono ?_;rintro e w3 ⟨rfl, aY⟩;have Hb3 := Lq7 (H2.out.2.trans (aY.mono H2.out.2.size));clear aY;go_wp2_with fail;go_ret;exact ⟨congrArg (fun z => Ending.returned (Value.bool z)) aU.out.symm, Hb3.out⟩
theorem Gb (k n1 : Int) (s : ByteArray) (l : List Vl) (ks : List ByteArray) (hck : checkV (.mk k n1 s l ks) = true) (F : Nat → Prop) (a1 : Option Addr) (c1 : Nat) (a2 : Option Addr) (c2 : Nat) (w : World) (hr1 : Ac F w a1 (valsD l)) (hr2 : Ac F w a2 (Aq ks)) :
  Calls Tryz.prog 7 #[.agg #[.int .i64 k, .int .i64 n1, .string s, .slice a1 l.length c1, .slice a2 ks.length c2]] w (PYes w) := by
 have h := Jf k n1 s l ks (Bf hck) F a1 c1 a2 c2 w hr1 hr2;rw [hck] at h;exact h
def PT11 (r : Option (List ByteArray)) (w : World) (e : Ending) (w' : World) : Prop := Below w.heap.size w w' ∧ match r with
 | some l => ∃ x, e = .returned (.tuple #[x, .bool true]) ∧ OwnS w' w.heap.size x l
 | none => ∃ x, e = .returned (.tuple #[x, .bool false])
theorem Vw {l : List Vl} (j : Nat) (h : ∀ x ∈ l.take j, x.kind = 3) {x : Vl} (hx : l[j]? = some x) (hk : x.kind = 3) : ∀ y ∈ l.take (j + 1), y.kind = 3 := by
 intro y hy;rw [ltA, hx, List.mem_append] at hy;rcases hy with hy | hy
 ·exact h y hy
 ·simp at hy;subst hy;exact hk
theorem Pg (n : Int) (s : ByteArray) (l : List Vl) (ks : List ByteArray) (hck : checkV (.mk 4 n s l ks) = true) (F : Nat → Prop) (a1 : Option Addr) (c1 : Nat) (a2 : Option Addr) (c2 : Nat) (w : World) (hr1 : Ac F w a1 (valsD l)) (hr2 : Ac F w a2 (Aq ks)) :
  Calls Tryz.prog 26 #[.agg #[.int .i64 4, .int .i64 n, .string s, .slice a1 l.length c1, .slice a2 ks.length c2]] w (PT11 (textsL (.mk 4 n s l ks)) w) := by
 have hl := (En hck).2.1;obtain ⟨n1, n2, n3, n4⟩ := F2 w (.cells #[.int .i64 4, .int .i64 n, .string s, .slice a1 l.length c1, .slice a2 ks.length c2] 31) (.cells #[] 9);have H0 := Lq7 (And.intro n1 (And.intro n2 n3));have HC := Lq7 (Gb 4 n s l ks hck F a1 c1 a2 c2 _ (hr1.below n3) (hr2.below n3));have Hr := Lq7 hr1;have aM : Hid ((∀ x ∈ l, x.kind = 3) → textsL (.mk 4 n s l ks) = some (l.map Vl.str)) := Lq7 (fun h => by
  unfold textsL;rw [if_pos ⟨rfl, hck, by rw [List.all_eq_true]; intro x hx; exact beq_iff_eq.2 (h x hx)⟩];rfl)
 have bA : Hid ((∃ x ∈ l, ¬ x.kind = 3) → textsL (.mk 4 n s l ks) = none) := Lq7 (fun ⟨x, hx, hk⟩ => by
  unfold textsL;rw [if_neg];rintro ⟨-, -, h⟩;rw [List.all_eq_true] at h;exact hk (beq_iff_eq.1 (h x hx)))
 clear hr1 hr2 hck n1 n2 n3 n4;generalize textsL (.mk 4 n s l ks) = R at aM bA ⊢;obtain ⟨i0, hi, hz0, hz1, hz2⟩ := info_parts infoStr;go_enter Tryz.func26, Tryz.ntmps26;go_wp2_with fail;refine HC.out.mono ?_;rintro e w1 ⟨rfl, aR⟩;have H1 := Lq7 (And.intro (stays H0.out.1 aR) (And.intro (stays H0.out.2.1 aR) (H0.out.2.2.trans (aR.mono H0.out.2.2.size))));have hs1 := here H1.out.2.1;clear aR H0 HC;obtain ⟨q0, q1, q2, q3, q4, q5, -⟩ := five_facts H1.out.1;go_wp2_with fail;clear q0 q1 q2 q3 q4 q5
 go_loopw [4, 19] (fun v i wr => ∃ (j : Nat) (aL : Option Addr) (cL : Nat), i = .int .i64 j ∧ v = .slice aL j cL ∧ j ≤ l.length ∧ Hid (∀ x ∈ l.take j, x.kind = 3) ∧ Hid (OwnS wr (w.heap.size + 1) (.slice aL j cL) ((l.take j).map Vl.str)) ∧ Hid (wr.heap[w.heap.size]? = some (.cells #[.int .i64 4, .int .i64 n, .string s, .slice a1 l.length c1, .slice a2 ks.length c2] 31 (0, 0)) ∧ Below w.heap.size w wr)) (fun _ i _ => l.length - (intOf i).toNat)
 case atStart =>
  refine ⟨0, some ⟨w.heap.size + 1, 0, none⟩, 0, rfl, rfl, nlz _, Lq7 (fun x hx => by simp at hx), Lq7 ?_, Lq7 ⟨H1.out.1, H1.out.2.2⟩⟩;refine ⟨by simp, .inr ⟨w.heap.size + 1, 0, #[], rfl, nlr _, H1.out.2.1, nlr _, nlz _, rfl, by simp⟩⟩
 case round =>
  obtain ⟨j, aL, cL, rfl, rfl, hj, aC, hown, aB⟩ := hrel;obtain ⟨q0, q1, q2, q3, q4, q5, -⟩ := five_facts aB.out.1;have hsw := here aB.out.1;by_cases hlt : j < l.length
  ·have aF : l[j]? = some l[j] := lgE hlt;generalize l[j] = x at aF;have aV : l.take (j + 1) = l.take j ++ [x] := (by rw [ltA, aF]; rfl);by_cases hk3 : x.kind = 3
   ·have aN := Lq7 (Vw j aC.out aF hk3);obtain ⟨xk, xn, xs, xl, xks⟩ := x;obtain rfl : xk = 3 := hk3;obtain ⟨b, off, b1, e1, b2, e2, rfl, -, hbl, r0, r1, r2, r3, r4, -, -⟩ := (Hr.out.below aB.out.2).val aF;have aU : Below wr.heap.size wr (wr.alloc (.cells #[.string xs] 9)) := (Below.refl _ wr).alloc (nlr _) _;have aQ := Lq7 (lit_one wr (.string xs) 9);have aG : Hid ((wr.alloc (.cells #[.string xs] 9)).ownsRow (w.heap.size + 1) 9 1 (.slice aL j cL) j (((l.take j).map Vl.str).map Value.string)) := Lq7 (by
     have := hown.out.below aU;unfold OwnS at this;rw [lnM, lnT, Nat.min_eq_left hj] at this;exact this)
    have aW : Hid (∀ g, (Value.slice aL j cL).ownBlock = some g → w.heap.size + 1 ≤ g) := Lq7 (fun g hg => (hown.out.block hg).1);have Htk : Hid ((l.take (j + 1)).map Vl.str = (l.take j).map Vl.str ++ [xs]) := Lq7 (by rw [aV, List.map_append]; rfl);have aJ := Lq7 (And.intro (stays aB.out.1 aU) (aB.out.2.trans (aU.mono aB.out.2.size)));clear aU hown aB aV aF aC
    go_wp2_with (at_builtin; refine wpList_append_own _ rfl _ _ 29 rfl (w.heap.size + 1) 9 i0 (.string ByteArray.empty) 1 16 Tryz.underlying29 hi hz0 hz1 hz2 rfl (by decide) (.slice aL j cL) j _ rfl aG.out ⟨wr.heap.size, 0, none⟩ 1 1 [.string xs] rfl rfl aQ.out ?_ ?_ ?_ ?_ ?_)
    ·simp [Value.oneCell']
    ·unfold maxLen; omega
    ·omega
    ·simp; omega
    intro v2 w2 aH aE _;have aI : Hid (OwnS w2 (w.heap.size + 1) v2 ((l.take (j + 1)).map Vl.str)) := Lq7 (by
     rw [Htk.out];unfold OwnS;rw [lnA, lnM, lnT, Nat.min_eq_left hj, List.map_append]
     simpa using aH)
    have aX := A9 aE (n := w.heap.size + 1) aW.out (by simp; omega);have aY := Lq7 (And.intro ((aX.block w.heap.size (by omega)).trans aJ.out.1) (aJ.out.2.trans (aX.mono (by omega))));obtain ⟨aL2, cL2, bB, -, -⟩ := aI.out.strsAt;rw [lnM, lnT, Nat.min_eq_left (by omega)] at bB;subst bB;clear aH aE aX aJ aG q0 q1 q2 q3 q4 q5 r0 r1 r2 r3 r4;go_wp2_with fail;go_roundw
    case rel => exact ⟨j + 1, aL2, cL2, by go_num, rfl, by omega, aN, aI, aY⟩
    case measure => simp only [intOf]; omega
   ·have hR : R = none := bA.out ⟨x, lgM aF, hk3⟩;obtain ⟨xk, xn, xs, xl, xks⟩ := x;have hk3' : ¬ xk = 3 := hk3;have hk3b : (xk == 3) = false := (by simpa using hk3');obtain ⟨b, off, b1, e1, b2, e2, rfl, -, hbl, r0, r1, r2, r3, r4, -, -⟩ := (Hr.out.below aB.out.2).val aF;have HR := Lq7 hR;have Hb := Lq7 (aB.out.2.alloc aB.out.2.size (.cells #[] 9));clear hR hk3 hown aB aF aV aC;go_wp2_with fail;refine bodyPost_ret (v := .tuple #[.slice (some ⟨wr.heap.size, 0, none⟩) 0 0, .bool false]) (by simp [results, Tryz.results26, go_sem]) rfl ?_;rw [HR.out];exact ⟨Hb.out, _, rfl⟩
  ·have hR : R = some (l.map Vl.str) := aM.out (fun x hx => by have := aC.out; rw [ltL (by omega)] at this; exact this x hx);have aZ : Hid (OwnS wr w.heap.size (.slice aL j cL) (l.map Vl.str)) := Lq7 (by have := hown.out.lower (Nat.le_add_right w.heap.size 1); rwa [ltL (by omega)] at this);have HR := Lq7 hR;clear hR hown aC;go_wp2_with fail;refine bodyPost_ret (v := .tuple #[.slice aL j cL, .bool true]) (by simp [results, Tryz.results26, go_sem]) rfl ?_;rw [HR.out];exact ⟨aB.out.2, _, rfl, aZ.out⟩
theorem M9 (k n : Int) (s : ByteArray) (l ks : Nat) (hk : ¬ k = 4) (a1 : Option Addr) (c1 : Nat) (a2 : Option Addr) (c2 : Nat) (w : World) :
  Calls Tryz.prog 26 #[.agg #[.int .i64 k, .int .i64 n, .string s, .slice a1 l c1, .slice a2 ks c2]] w (fun e w' => Below w.heap.size w w' ∧ ∃ x, e = .returned (.tuple #[x, .bool false])) := by
 obtain ⟨n1, n2, n3, n4⟩ := F2 w (.cells #[.int .i64 k, .int .i64 n, .string s, .slice a1 l c1, .slice a2 ks c2] 31) (.cells #[] 9);have H0 := Lq7 n3;have hkb : (k == 4) = false := (by simpa using hk);clear n1 n2 n3 n4;go_enter Tryz.func26, Tryz.ntmps26;go_wp2_with fail;exact bodyPost_ret (v := .tuple #[.slice (some ⟨w.heap.size + 1, 0, none⟩) 0 0, .bool false]) (by simp [results, Tryz.results26, go_sem]) rfl ⟨H0.out, _, rfl⟩
theorem Eh (k n : Int) (s : ByteArray) (l : List Vl) (ks : List ByteArray) (hck : checkV (.mk k n s l ks) = true) (F : Nat → Prop) (a1 : Option Addr) (c1 : Nat) (a2 : Option Addr) (c2 : Nat) (w : World) (hr1 : Ac F w a1 (valsD l)) (hr2 : Ac F w a2 (Aq ks)) :
  Calls Tryz.prog 26 #[.agg #[.int .i64 k, .int .i64 n, .string s, .slice a1 l.length c1, .slice a2 ks.length c2]] w (PT11 (textsL (.mk k n s l ks)) w) := by
 by_cases h4 : k = 4
 ·subst h4;exact Pg n s l ks hck F a1 c1 a2 c2 w hr1 hr2
 ·have hR : textsL (.mk k n s l ks) = none := by
   unfold textsL;rw [if_neg];rintro ⟨h, -⟩;exact h4 h
  rw [hR];exact M9 k n s l.length ks.length h4 a1 c1 a2 c2 w
end Go.Proofs.YtcofbdjakicojaaGreatDoor
