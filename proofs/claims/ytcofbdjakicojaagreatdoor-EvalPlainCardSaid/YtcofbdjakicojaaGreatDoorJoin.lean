/-
  The walk of the plain host's join, where what is joined isn't too long.
-/
import Derived.Test.YtcofbdjakicojaaGreatDoorMGreatX
import Derived.Test.YtcofbdjakicojaaGreatDoorMLimited
import Derived.Test.YtcofbdjakicojaaGreatDoorListsPlain
import Derived.Test.YtcofbdjakicojaaGreatDoorShelf
namespace Go.Proofs.YtcofbdjakicojaaGreatDoor
open List renaming getElem?_eq_getElem → lgE, take_add_one → ltA, take_of_length_le → ltL, length_map → lnM
open Nat renaming le_refl → nlr, lt_of_lt_of_le → nll, zero_le → nlz, zero_mul → nzm, add_zero → naz
open Go.Lib renaming hid → Lq7
set_option maxRecDepth 100000
set_option maxHeartbeats 16000000
open Go Go.RowKit
def sumS (l : List ByteArray) : Nat := (l.map ByteArray.size).sum
theorem Hi (l : List ByteArray) (j : Nat) (h : j < l.length) : sumS (l.take (j + 1)) = sumS (l.take j) + l[j].size := by
 unfold sumS;rw [ltA, lgE h, Option.toList_some, List.map_append, List.sum_append];simp
theorem sumS_le (l : List ByteArray) (j : Nat) : sumS (l.take j) ≤ sumS l := by
 unfold sumS
 conv => rhs; rw [← List.take_append_drop j l, List.map_append, List.sum_append]
 omega
def joinB (l : List ByteArray) (sep : ByteArray) : ByteArray := ⟨(Lib.join (l.map (·.data.toList)) sep.data.toList).toArray⟩
theorem Iw (l : List ByteArray) (sep : ByteArray) : (joinB l sep).size = (l.length - 1) * sep.size + sumS l := by
 have h := Es sep.data.toList (l.map (·.data.toList));rw [lnM, List.map_map, Af] at h;show (Lib.join (l.map (·.data.toList)) sep.data.toList).toArray.size = _;rw [List.size_toArray, h];unfold sumS
 congr 2
theorem Js (a : Option Addr) (cap : Nat) (ts : List ByteArray) (sep : ByteArray) (w : World) (hst : Ax w a ts) (hcap : ts.length ≤ cap) (hlen : ts.length ≤ 1000) (hsz : (joinB ts sep).size ≤ 140737488355328) :
  Calls Tryz.prog 237 #[.slice a ts.length cap, .string sep] w (fun e w' => e = .returned (.string (joinB ts sep)) ∧ Below w.heap.size w w') := by
 cases ts with
 | nil =>
  refine (Tryz.strings_Join_none a cap sep w).mono ?_;rintro e w' ⟨rfl, hw⟩;rw [hw];exact ⟨rfl, Below.refl _ _⟩
 | cons x r =>
  obtain ⟨b, off, rfl, hc⟩ := hst 0 x rfl;refine Tryz.strings_Join b off cap (x :: r) sep w (fun j y hj => ?_) ?_ (by omega) hcap hsz
  ·obtain ⟨b', off', he, h⟩ := hst j y hj;cases he;exact h
  ·exact block_of_cell hc
theorem Uf (F : Nat → Prop) (n n' : Int) (s s' : ByteArray) (l0 : List Vl) (ks0 : List ByteArray) (l : List Vl) (ks : List ByteArray) (ts : List ByteArray) (a : Option Addr) (cap : Nat) (w : World) (hF : ∀ b, F b → b < w.heap.size) (hr : Ac F w a (valsD [.mk 3 n s l0 ks0, .mk 4 n' s' l ks]))
  (hs : smallV (.mk 4 n' s' l ks)) (ht : textsL (.mk 4 n' s' l ks) = some ts) (hlen : ts.length ≤ 1000) (hfit : (ts.length - 1) * s.size + sumS ts ≤ 65536) :
  Calls Tryz.prog 226 #[.slice a 2 cap] w (Bl (.ok (Dr (joinB ts s))) w) := by
 obtain ⟨b, off, a1, c1, a2, c2, rfl, -, hbl, q0, q1, q2, q3, q4, -, -⟩ := hr.val (j := 0) rfl;obtain ⟨b', off', a3, c3, a4, c4, he, -, -, r0, r1, r2, r3, r4, aX, aY⟩ := hr.val (j := 1) rfl;cases he;simp only [nzm, naz, Nat.one_mul] at q0 q1 q2 q3 q4 r0 r1 r2 r3 r4;have aI : Below w.heap.size w (w.alloc (.cells #[.int .i64 0, .int .i64 0, .string ⟨#[]⟩, .slice none 0 0, .slice none 0 0] 31)) := (Below.refl _ w).alloc (nlr _) _;have Hc := Lq7 (C3 4 n' s' l ks hs F a3 c3 a4 c4 _ (fun b hb => nll (hF b hb) aI.size) (aX.below aI) (aY.below aI));have aN := Lq7 (And.intro (heap_alloc_new w (.cells #[.int .i64 0, .int .i64 0, .string ⟨#[]⟩, .slice none 0 0, .slice none 0 0] 31)) aI);have Ht := Lq7 ht;have Hr := Lq7 hr;clear aX aY aI ht hr hF hs;go_enter Tryz.func226, Tryz.ntmps226;go_wp2_with fail;refine Hc.out.mono ?_;rintro e w1 ⟨aQ, hq⟩;rw [Ht.out] at hq;obtain ⟨x, rfl, hown⟩ := hq;obtain ⟨aT, cT, rfl, hst, hcap⟩ := hown.strsAt;have aR := Lq7 hst;have aB : Below w.heap.size w w1 := aN.out.2.trans (aQ.mono aN.out.2.size);have aJ := stays aN.out.1 aQ;have aM := Lq7 aJ;have q0 := (aB.cell (p := ⟨b, off, none⟩) hbl).trans q0;have q2 := (aB.cell (p := ⟨b, off + 2, none⟩) hbl).trans q2;have aF := Lq7 aB;clear hst aQ aB hown Hc aN q1 q3 q4 r0 r1 r2 r3 r4 aJ;go_wp2_with fail;have hm : max (0 : Int) ((ts.length : Int) - 1) = ((ts.length - 1 : Nat) : Int) := (by omega);have hw : wrap64 ((s.size : Int) * max 0 ((ts.length : Int) - 1)) = (((ts.length - 1) * s.size : Nat) : Int) := by
  rw [hm, Int.mul_comm, ← Int.natCast_mul];exact IntWalk.wrap64_in _ ⟨by omega, by omega⟩
 rw [hw];clear hm hw;generalize hn0 : (ts.length - 1) * s.size = n0 at hfit ⊢
 go_loop [6, 38] (fun m i => ∃ j : Nat, i = .int .i64 j ∧ j ≤ ts.length ∧ m = .int .i64 ((n0 + sumS (ts.take j) : Nat) : Int)) (fun _ i => ts.length - (intOf i).toNat)
 case atStart => exact ⟨0, rfl, nlz _, rfl⟩
 case round =>
  obtain ⟨j, rfl, hj, rfl⟩ := hrel;by_cases hlt : j < ts.length
  ·obtain ⟨bK, oK, hak, hck⟩ := aR.out j _ (lgE hlt);subst hak;have hs1 := Hi ts j hlt;have hs2 := sumS_le ts (j + 1);generalize ts[j] = x at hck hs1;go_wp2_with fail;go_round
   case rel => exact ⟨j + 1, by go_num, by omega, by go_num⟩
   case measure => simp only [intOf]; omega
  ·have aZ : ts.take j = ts := ltL (by omega);rw [aZ];have hng : ¬ (65536 : Int) < ((n0 + sumS ts : Nat) : Int) := (by omega);go_wp2_with fail;have hjs : (joinB ts s).size ≤ 65536 := (by rw [Iw, hn0]; exact hfit);refine (Js aT cT ts s _ aR.out hcap hlen (by omega)).mono ?_;rintro e w2 ⟨rfl, aU⟩;have aC := Lq7 (stays aM.out aU);have aG := Lq7 (aF.out.trans (aU.mono aF.out.size));have bA : Am (joinB ts s) = .ok (Dr (joinB ts s)) := (by unfold Am; rw [if_neg (by omega)]);clear aU aR aM aF q0 q2 hng aZ;go_wp2_with fail;refine (Cm (joinB ts s) _ (by omega)).mono ?_;rw [bA];rintro e w3 ⟨aV, cs, rfl, bB⟩;obtain ⟨z1, f1, z2, f2, rfl, -, -⟩ := bB.val;have aE := Lq7 (stays aC.out aV);have aW := Lq7 (aG.out.trans (aV.mono aG.out.size));clear bB aV aC aG bA;obtain ⟨p0, p1, p2, p3, p4, p5, p6, p7, p8, p9, p10⟩ := five_facts aE.out;go_wp2_with fail;have aH := res_set (nlr _) aW.out aE.out (.int .i64 3) (.int .i64 0) (.string (joinB ts s)) (.slice z1 0 f1) (.slice z2 0 f2);generalize World.setCell _ _ _ = W9 at aH ⊢;obtain ⟨p0, p1, p2, p3, p4, p5, p6, p7, p8, p9, p10⟩ := five_facts aH.1;refine bodyPost_ret (v := .tuple #[.agg #[.int .i64 3, .int .i64 0, .string (joinB ts s), .slice z1 0 f1, .slice z2 0 f2], .int .i64 0]) (by simp [results, Tryz.results226, go_sem, p1, p2, p3, p4, p5]) rfl ?_;exact ⟨aH.2, _, rfl, Ah.val_mk (l := []) (ks := []) _ _ _ _ _ (Ac.nil _) (Ac.nil _)⟩
end Go.Proofs.YtcofbdjakicojaaGreatDoor