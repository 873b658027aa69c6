/-
  The walks of the evaluator's made, of value.plus and Op at two small numbers.
  The walk of pack.Int at a number as it is written.
  The walks of value.plus and Op at two small numbers.
  How a method of the evaluator that hands back a value and a fault stands on its way: its boxes.
  The walks of the evaluator's expr, kind by kind. (Printed by ev_gen.py.)
  The walk of the evaluator's expr at a text. (Printed by ev_gen.py.)
  The evaluator's expr, all kinds together.
  How the evaluator's list stands on its way: what is gathered so far.
  The walk of the evaluator's list. (Printed by ev_gen.py.)
  The walk of the evaluator's op. (Printed by ev_gen.py.)
  How the evaluator's call stands on its way: what arguments are gathered so far. (Printed by call_gen.py.)
  The walk of the evaluator's call. (Printed by callw_gen.py.)
-/
import Derived.Deep.RegionWith
import Derived.Test.YtcofbdjakicojaaGreatDoorMLimited
import Derived.Test.YtcofbdjakicojaaGreatDoorMRefNum
import Derived.Test.YtcofbdjakicojaaGreatDoorMNumA
import Derived.Test.YtcofbdjakicojaaGreatDoorShelf
import Derived.Test.YtcofbdjakicojaaGreatDoorMSix
namespace Go.Proofs.YtcofbdjakicojaaGreatDoor
open Go Go.RowKit
open List renaming getElem_toArray → lgA, getElem_cons_succ → lgB, getElem_cons_zero → lgC, setIfInBounds_toArray → laA, set_cons_zero → lsA, set_cons_succ → lsB, mem_of_getElem? → lgM
open Nat renaming lt_of_lt_of_le → nll, le_refl → nlr, zero_le → nlz, le_trans → nlt
open Go.Lib renaming hid → Lq7, toList_data → Lq8
open Go.Act renaming put → aP
set_option maxRecDepth 100000
set_option maxHeartbeats 16000000
theorem Iu {B : Nat} {w W : World} (h : Below B w W) {b : Nat} (hb : B ≤ b) (v0 v1 v2 v3 v4 : Value) : Below B w (((((W.setCell ⟨b, 0, none⟩ v0).setCell ⟨b, 1, none⟩ v1).setCell ⟨b, 2, none⟩ v2).setCell ⟨b, 3, none⟩ v3).setCell ⟨b, 4, none⟩ v4) :=
 ((((h.setCell (p := ⟨b, 0, none⟩) hb _).setCell (p := ⟨b, 1, none⟩) hb _).setCell (p := ⟨b, 2, none⟩) hb _).setCell (p := ⟨b, 3, none⟩) hb _).setCell (p := ⟨b, 4, none⟩) hb _
def PMade (v : Vl) (cs : List Value) (l k : Int) (w : World) (e : Ending) (w' : World) : Prop :=
 Below w.heap.size w w' ∧ e = .returned (if checkV v then .tuple #[.agg cs.toArray, faultV 0 0 0] else badV 6 l k)
theorem made_any (v : Vl) (hs : smallV v) (F : Nat → Prop) (cs : List Value) (l k : Int) (w : World) (hF : ∀ b, F b → b < w.heap.size) (hc : Ah F w (valD v) cs) :
  Calls Tryz.prog 129 #[.agg cs.toArray, .agg #[.int .i64 l, .int .i64 k]] w (PMade v cs l k w) := by
 obtain ⟨vk, vn, vs, vl, vks⟩ := v;obtain ⟨a1, c1, a2, c2, rfl, aG, aH⟩ := hc.val;have H0 := Lq7 (alloc4 w (.cells #[.int .i64 vk, .int .i64 vn, .string vs, .slice a1 vl.length c1, .slice a2 vks.length c2] 31) (.cells #[.int .i64 l, .int .i64 k] 24) (.cells #[.int .i64 0, .int .i64 0, .string ⟨#[]⟩, .slice none 0 0, .slice none 0 0] 31) (.cells #[.int .i64 0, .int .i64 0, .int .i64 0] 106));have aC := Lq7 (Em (.mk vk vn vs vl vks) hs F a1 c1 a2 c2 _ (fun b hb => nll (hF b hb) H0.out.2.2.2.2.1.size) (aG.below H0.out.2.2.2.2.1) (aH.below H0.out.2.2.2.2.1));clear hc aG aH hF hs;unfold vCells at aC;unfold PMade;cases hck : checkV (.mk vk vn vs vl vks)
 ·rw [hck] at aC;clear hck;go_enter Tryz.func129, Tryz.ntmps129;go_wp2_with fail;refine aC.out.mono ?_;rintro e w1 ⟨rfl, aB⟩
  go_upto_region 2 with fail
  have H1 := Lq7 (And.intro (stays H0.out.2.1 aB) (And.intro (stays H0.out.2.2.1 aB) (And.intro (stays H0.out.2.2.2.1 aB) (H0.out.2.2.2.2.1.trans (aB.mono H0.out.2.2.2.2.1.size)))));clear aB aC H0;refine Ae (.s 0 (.s 1 (.s 2 (.h 3 (.h 4 .nil))))) 99 (fun W' => W'.heap[w.heap.size + 1]? = some (.cells #[.int .i64 l, .int .i64 k] 24 (0, 0))) (by kernel_rfl) (by kernel_rfl) (fun c a d v w h => by cases d <;> exact h) H1.out.1 ?_
  have aE : Below w1.heap.size w1 w1.drew := (Below.refl _ w1).drew;have H2 := Lq7 (And.intro (stays H1.out.1 aE) (And.intro (stays H1.out.2.1 aE) (And.intro (stays H1.out.2.2.1 aE) (H1.out.2.2.2.trans (aE.mono H1.out.2.2.2.size)))));generalize w1.drew = Wd at H2 ⊢;clear aE H1;refine Aa zeroV rfl rfl (fun W' hS => ?_) ?_
  ·unfold zeroV;go_simp
  (try simp only [lgA, lgC, aP, laA, lsA, lsB]);refine Aa (.agg #[.int .i64 l, .int .i64 k]) rfl rfl (fun W' hS => ?_) ?_
  ·obtain ⟨s0, s1, s2, s3, s4⟩ := Ap hS;clear hS;go_simp
  (try simp only [lgA, lgB, lgC, aP, laA, lsA, lsB]);refine Aa (faultV 6 l k) rfl rfl (fun W' hS => ?_) ?_
  ·unfold faultV;go_simp
  (try simp only [lgA, lgB, lgC, aP, laA, lsA, lsB]);unfold zeroV faultV;obtain ⟨r0, r1, r2, r3, r4, r5, r6, r7, r8, r9, aF⟩ := five_facts H2.out.2.1;refine Ad rfl (fun Kx aI => ?_);go_wp2_with fail;have H3 : Hid ((((((Wd.setCell ⟨w.heap.size + 1 + 1, 0, none⟩ (.int .i64 0)).setCell ⟨w.heap.size + 1 + 1, 1, none⟩ (.int .i64 0)).setCell ⟨w.heap.size + 1 + 1, 2, none⟩ (.string ⟨#[]⟩)).setCell ⟨w.heap.size + 1 + 1, 3, none⟩ (.slice none 0 0)).setCell ⟨w.heap.size + 1 + 1, 4, none⟩ (.slice none 0 0)).heap[w.heap.size + 1]? = some (.cells #[.int .i64 l, .int .i64 k] 24 (0, 0)) ∧
    (((((Wd.setCell ⟨w.heap.size + 1 + 1, 0, none⟩ (.int .i64 0)).setCell ⟨w.heap.size + 1 + 1, 1, none⟩ (.int .i64 0)).setCell ⟨w.heap.size + 1 + 1, 2, none⟩ (.string ⟨#[]⟩)).setCell ⟨w.heap.size + 1 + 1, 3, none⟩ (.slice none 0 0)).setCell ⟨w.heap.size + 1 + 1, 4, none⟩ (.slice none 0 0)).heap[w.heap.size + 1 + 1]? = some (.cells #[.int .i64 0, .int .i64 0, .string ⟨#[]⟩, .slice none 0 0, .slice none 0 0] 31 (0, 0)) ∧
    (((((Wd.setCell ⟨w.heap.size + 1 + 1, 0, none⟩ (.int .i64 0)).setCell ⟨w.heap.size + 1 + 1, 1, none⟩ (.int .i64 0)).setCell ⟨w.heap.size + 1 + 1, 2, none⟩ (.string ⟨#[]⟩)).setCell ⟨w.heap.size + 1 + 1, 3, none⟩ (.slice none 0 0)).setCell ⟨w.heap.size + 1 + 1, 4, none⟩ (.slice none 0 0)).heap[w.heap.size + 1 + 1 + 1]? = some (.cells #[.int .i64 0, .int .i64 0, .int .i64 0] 106 (0, 0)) ∧
    Below w.heap.size w (((((Wd.setCell ⟨w.heap.size + 1 + 1, 0, none⟩ (.int .i64 0)).setCell ⟨w.heap.size + 1 + 1, 1, none⟩ (.int .i64 0)).setCell ⟨w.heap.size + 1 + 1, 2, none⟩ (.string ⟨#[]⟩)).setCell ⟨w.heap.size + 1 + 1, 3, none⟩ (.slice none 0 0)).setCell ⟨w.heap.size + 1 + 1, 4, none⟩ (.slice none 0 0))) := Lq7
   ⟨(set5_other (by omega) _ _ _ _ _).trans H2.out.1, by rw [set_same (set_same (set_same (set_same (set_same H2.out.2.1 0 _) 1 _) 2 _) 3 _) 4]; rfl, (set5_other (by omega) _ _ _ _ _).trans H2.out.2.2.1,
    Iu H2.out.2.2.2 (by omega) _ _ _ _ _⟩
  refine aI _ _ (fun _ => H3.out.1) ?_;generalize World.setCell _ _ _ = W3 at H3 ⊢;(try simp only [lgA, lgB, lgC, aP, laA, lsA, lsB]);clear r0 r1 r2 r3 r4 r5 r6 r7 r8 r9 aF aI H2;obtain ⟨d0, d1, d2, d3, d4, d5, d6⟩ := Ag H3.out.2.2.1;refine Ad rfl (fun Ky aJ => ?_);go_wp2_with fail;refine aJ _ _ (fun _ => ((((set_other (by omega) 2 _).trans (set_other (by omega) 1 _)).trans (set_other (by omega) 0 _)).trans H3.out.1)) ?_;clear aJ;refine Ak ?_;(try simp only [lgA, lgB, lgC, aP, laA, lsA, lsB]);obtain ⟨r0, r1, r2, r3, r4, r5, r6, r7, r8, r9, aF⟩ := five_facts H3.out.2.1;go_wp2_with fail;refine bodyPost_ret (v := badV 6 l k) (by simp [badV, zeroV, faultV, results, Tryz.results129, go_sem, r1, r2, r3, r4, r5, d1, d2, d3]) rfl ?_;exact ⟨((H3.out.2.2.2.setCell (p := ⟨w.heap.size + 1 + 1 + 1, 0, none⟩) (by show _ ≤ w.heap.size + 1 + 1 + 1; omega) _).setCell (p := ⟨w.heap.size + 1 + 1 + 1, 1, none⟩) (by show _ ≤ w.heap.size + 1 + 1 + 1; omega) _).setCell (p := ⟨w.heap.size + 1 + 1 + 1, 2, none⟩) (by show _ ≤ w.heap.size + 1 + 1 + 1; omega) _, rfl⟩
 ·rw [hck] at aC;clear hck;go_enter Tryz.func129, Tryz.ntmps129;go_wp2_with fail;refine aC.out.mono ?_;rintro e w1 ⟨rfl, aB⟩;have H1 := Lq7 (And.intro (stays H0.out.1 aB) (And.intro (stays H0.out.2.2.1 aB) (And.intro (stays H0.out.2.2.2.1 aB) (H0.out.2.2.2.2.1.trans (aB.mono H0.out.2.2.2.2.1.size)))));clear aB aC H0;obtain ⟨t0, t1, t2, t3, t4, t5, t6, t7, t8, t9, t10⟩ := five_facts H1.out.1;obtain ⟨r0, r1, r2, r3, r4, r5, r6, r7, r8, r9, aF⟩ := five_facts H1.out.2.1;obtain ⟨d0, d1, d2, d3, d4, d5, d6⟩ := Ag H1.out.2.2.1;go_wp2_with fail;refine bodyPost_ret (v := .tuple #[.agg #[.int .i64 vk, .int .i64 vn, .string vs, .slice a1 vl.length c1, .slice a2 vks.length c2], faultV 0 0 0]) (by simp [faultV, results, Tryz.results129, go_sem, r1, r2, r3, r4, r5, d1, d2, d3]) rfl ?_;refine ⟨?_, rfl⟩;exact ((Iu H1.out.2.2.2 (by omega) _ _ _ _ _).setCell (p := ⟨w.heap.size + 1 + 1 + 1, 0, none⟩) (by show _ ≤ w.heap.size + 1 + 1 + 1; omega) _).setCell (p := ⟨w.heap.size + 1 + 1 + 1, 1, none⟩) (by show _ ≤ w.heap.size + 1 + 1 + 1; omega) _ |>.setCell (p := ⟨w.heap.size + 1 + 1 + 1, 2, none⟩) (by show _ ≤ w.heap.size + 1 + 1 + 1; omega) _
theorem Pt (s : ByteArray) (v : Int) (h : Kj s = some v) (w : World) (hT : Dq w) :
  Calls Tryz.prog 128 #[.string s] w (fun e w' => e = .returned (.tuple #[.int .i64 v, .bool true]) ∧ Below w.heap.size w w') := by
 have hp : Lib.parseIntB 64 s.data.toList = .ok v ∧ inR v = true ∧ s.size ≤ 65536 ∧ Lib.itoa v = s.data.toList := by
  unfold Kj at h;split at h
  ·rename_i v' hv'
   split at h
   ·rename_i hc
    cases h;exact ⟨hv', hc⟩
   ·cases h
  ·cases h
 obtain ⟨h1, h2, h4, h5⟩ := hp;have Hp := Lq7 (Tryz.strconv_ParseInt_10_at64_ok s (by omega) v h1 w);have Hn := Lq7 (fun (w1 : World) (hT1 : Dq w1) => Tc v h2 w1 hT1);have H5 := Lq7 h5;have HT := Lq7 hT;clear h h1 h5 h2 hT;go_enter Tryz.func128, Tryz.ntmps128;go_wp2_with fail;refine Hp.out.mono ?_;rintro e w1 ⟨rfl, aC⟩;have aE : Below w.heap.size w w1 := by
  rcases aC with rfl | ⟨t, rfl⟩
  ·exact Below.refl _ _
  ·exact Fl w _ t
 clear aC;have aB := Lq7 aE;clear aE;go_wp2_with fail;refine (Hn.out _ (HT.out.below aB.out)).mono ?_;rintro e w2 ⟨o, rfl, ho, aF⟩;obtain rfl : o = s := bytes_ext (ho.trans H5.out);have hne : (o.toList != o.toList) = false := (by simp);have Hb2 := Lq7 (aB.out.trans (aF.mono aB.out.size));clear ho aF;go_wp2_with fail
 go_ret2
 exact ⟨rfl, Hb2.out⟩
def Lv (z : Int) : Value := .agg #[.int .i64 2, .int .i64 z, .string ⟨#[]⟩, .slice none 0 0, .slice none 0 0]
def PSum (z : Int) (w : World) (e : Ending) (w' : World) : Prop := e = .returned (.tuple #[Lv z, .int .i64 0]) ∧ Below w.heap.size w w'
theorem small_in {a b : Vl} (ha : B9 a = true) (hb : B9 b = true) : inR (a.num + b.num) = true := by
 unfold B9 at ha hb;simp only [Bool.and_eq_true, decide_eq_true_eq] at ha hb;unfold inR;rw [Bool.and_eq_true, decide_eq_true_eq, decide_eq_true_eq];have h1 := ha.1.1.2;have h2 := ha.1.2;have h3 := hb.1.1.2;have h4 := hb.1.2;omega
theorem Rg (x y : Int) (hx0 : -1000000 ≤ x) (hx1 : x ≤ 1000000) (hy0 : -1000000 ≤ y) (hy1 : y ≤ 1000000) (s s' : ByteArray) (a1 a2 a3 a4 : Option Addr) (n1 c1 n2 c2 n3 c3 n4 c4 : Nat) (w : World) :
  Calls Tryz.prog 183 #[vCells 2 x s a1 n1 c1 a2 n2 c2, vCells 2 y s' a3 n3 c3 a4 n4 c4] w (PSum (x + y) w) := by
 unfold vCells;have hb : ∀ o1 o2 o3 : Obj, Below w.heap.size w (((w.alloc o1).alloc o2).alloc o3) := fun o1 o2 o3 => ((((Below.refl _ w).alloc (nlr _) _).alloc (by simp) _).alloc (by simp; omega) _);have Hb := Lq7 hb;clear hb;by_cases hp : 0 < y
 ·have aI : (y == 0) = false := (by simp; omega);have h3 : (y != 0) = true := (by simp [bne, aI]);have h4 : x < x + y := (by omega);go_enter Tryz.func183, Tryz.ntmps183;go_wp2_with fail;refine bodyPost_ret (v := .tuple #[Lv (x + y), .int .i64 0]) (by simp [Lv, results, Tryz.results183, go_sem]) rfl ?_;exact ⟨rfl, Hb.out _ _ _⟩
 ·by_cases hz : y = 0
  ·subst hz;go_enter Tryz.func183, Tryz.ntmps183;go_wp2_with fail;refine bodyPost_ret (v := .tuple #[Lv (x + 0), .int .i64 0]) (by simp [Lv, results, Tryz.results183, go_sem]) rfl ?_
   first | exact ⟨rfl, Hb.out _ _ _⟩ | (rw [Int.add_zero]; exact ⟨rfl, Hb.out _ _ _⟩)
  ·have aI : (y == 0) = false := (by simp; omega);have h3 : (y != 0) = true := (by simp [bne, aI]);have h4 : ¬ x < x + y := (by omega);go_enter Tryz.func183, Tryz.ntmps183;go_wp2_with fail;refine bodyPost_ret (v := .tuple #[Lv (x + y), .int .i64 0]) (by simp [Lv, results, Tryz.results183, go_sem]) rfl ?_;exact ⟨rfl, Hb.out _ _ _⟩
theorem op_small (t : ByteArray) (ht : t.data.toList = [43]) (a b : Vl) (ha : B9 a = true) (hb : B9 b = true) (F : Nat → Prop) (ca cb : List Value) (w : World) (hF : ∀ b, F b → b < w.heap.size) (hca : Ah F w (valD a) ca) (hcb : Ah F w (valD b) cb) :
  Calls Tryz.prog 157 #[.string t, .agg ca.toArray, .agg cb.toArray] w (PSum (a.num + b.num) w) := by
 obtain ⟨ak, an, aF, al, aks⟩ := a;obtain ⟨bk, bn, aG, bl, bks⟩ := b;simp only [B9, Vl.kind, Vl.num, Bool.and_eq_true, beq_iff_eq] at ha hb;obtain ⟨⟨⟨rfl, aQ⟩, aR⟩, aJ⟩ := ha;obtain ⟨⟨⟨rfl, aB⟩, aC⟩, aM⟩ := hb;obtain ⟨a1, c1, a2, c2, rfl, aU, aV⟩ := hca.val;obtain ⟨a3, c3, a4, c4, rfl, aW, aX⟩ := hcb.val;have e1 : (t.toList == [61, 61]) = false := (by rw [Lq8, ht]; rfl);have e2 : (t.toList == [33, 61]) = false := (by rw [Lq8, ht]; rfl);have e3 : (t.toList == [43]) = true := (by rw [Lq8, ht]; rfl);have H0 := Lq7 (C4 w (.cells #[.int .i64 2, .int .i64 an, .string aF, .slice a1 al.length c1, .slice a2 aks.length c2] 31) (.cells #[.int .i64 2, .int .i64 bn, .string aG, .slice a3 bl.length c3, .slice a4 bks.length c4] 31) (.cells #[.int .i64 0, .int .i64 0, .string ⟨#[]⟩, .slice none 0 0, .slice none 0 0] 31));have aY : Hid (∀ w1, Below w.heap.size w w1 → Calls Tryz.prog 109 #[vCells 2 an aF a1 al.length c1 a2 aks.length c2] w1 (fun e w' => e = .returned (.bool true) ∧ Below w1.heap.size w1 w')) := Lq7 (fun w1 aE => by
  have := Em (.mk 2 an aF al aks) (Bf aJ) F a1 c1 a2 c2 w1 (fun b hb => nll (hF b hb) aE.size) (aU.below aE) (aV.below aE);rw [aJ] at this;exact this)
 have aZ : Hid (∀ w1, Below w.heap.size w w1 → Calls Tryz.prog 109 #[vCells 2 bn aG a3 bl.length c3 a4 bks.length c4] w1 (fun e w' => e = .returned (.bool true) ∧ Below w1.heap.size w1 w')) := Lq7 (fun w1 aE => by
  have := Em (.mk 2 bn aG bl bks) (Bf aM) F a3 c3 a4 c4 w1 (fun b hb => nll (hF b hb) aE.size) (aW.below aE) (aX.below aE);rw [aM] at this;exact this)
 have bA := Lq7 (fun w1 => Rg an bn (of_decide_eq_true aQ) (of_decide_eq_true aR) (of_decide_eq_true aB) (of_decide_eq_true aC) aF aG a1 a2 a3 a4 al.length c1 aks.length c2 bl.length c3 bks.length c4 w1);clear ht hca hcb aU aV aW aX hF aJ aM aQ aR aB aC;show Calls _ _ _ _ (PSum (an + bn) w);unfold vCells at aY aZ bA;go_enter Tryz.func157, Tryz.ntmps157;go_wp2_with fail;refine (aY.out _ H0.out.2.2.2.1).mono ?_;rintro e w1 ⟨rfl, aB⟩;have H1 := Lq7 (And.intro (stays H0.out.1 aB) (And.intro (stays H0.out.2.1 aB) (And.intro (stays H0.out.2.2.1 aB) (H0.out.2.2.2.1.trans (aB.mono H0.out.2.2.2.1.size)))));clear aB H0;obtain ⟨r0, r1, r2, r3, r4, r5, r6, r7, r8, r9, aH⟩ := five_facts H1.out.2.1;go_wp2_with fail;refine (aZ.out _ H1.out.2.2.2).mono ?_;rintro e w2 ⟨rfl, aC⟩;have H2 := Lq7 (And.intro (stays H1.out.1 aC) (And.intro (stays H1.out.2.1 aC) (And.intro (stays H1.out.2.2.1 aC) (H1.out.2.2.2.trans (aC.mono H1.out.2.2.2.size)))));clear aC H1 r0 r1 r2 r3 r4 r5 r6 r7 r8 r9 aH;obtain ⟨r0, r1, r2, r3, r4, r5, r6, r7, r8, r9, aH⟩ := five_facts H2.out.1;obtain ⟨s0, s1, s2, s3, s4, s5, s6, s7, s8, s9, s10⟩ := five_facts H2.out.2.1;go_wp2_with fail;refine (bA.out w2).mono ?_;rintro e w3 ⟨rfl, aN⟩;have H3 := Lq7 (And.intro (stays H2.out.2.2.1 aN) (H2.out.2.2.2.trans (aN.mono H2.out.2.2.2.size)));clear aN H2 r0 r1 r2 r3 r4 r5 r6 r7 r8 r9 aH s0 s1 s2 s3 s4 s5 s6 s7 s8 s9 s10;unfold Lv;obtain ⟨r0, r1, r2, r3, r4, r5, r6, r7, r8, r9, aH⟩ := five_facts H3.out.1;go_wp2_with fail;refine bodyPost_ret (v := .tuple #[Lv (an + bn), .int .i64 0]) (by simp [Lv, results, Tryz.results157, go_sem, r1, r2, r3, r4, r5]) rfl ?_;exact ⟨rfl, Iu H3.out.2 (by omega) _ _ _ _ _⟩
mutual
def smallN : Nd → Prop
 | .mk _ t _ _ l => t.size ≤ maxLen ∧ l.length ≤ 1000000 ∧ smallNs l
def smallNs : List Nd → Prop
 | [] => True
 | v :: t => smallN v ∧ smallNs t
end
theorem smallNs_mem : ∀ {l : List Nd} {x : Nd}, smallNs l → x ∈ l → smallN x
 | _ :: _, _, h, .head _ => h.1
 | _ :: _, _, h, .tail _ hm => smallNs_mem h.2 hm
theorem smallN_zero : smallN ndZero := by
 unfold ndZero;rw [smallN];exact ⟨nlz _, by simp, by rw [smallNs]; trivial⟩
theorem Ep {n : Nd} (h : smallN n) (i : Nat) : smallN (Ck n i) := by
 obtain ⟨k, t, l, c, kids⟩ := n;rw [smallN] at h;unfold Ck;show smallN ((kids[i]?).getD ndZero);cases hk : kids[i]? with
 | none => exact smallN_zero
 | some x => exact smallNs_mem h.2.2 (lgM hk)
def GOk (G : Nat → Prop) (c : Ctx) (w : World) : Prop := ∀ b, G b → b < w.heap.size ∧ ¬ c.M b
theorem GOk.mv {G : Nat → Prop} {c c' : Ctx} {w w' : World} (h : GOk G c w) (k : Mv c w c' w') : GOk G c' w' :=
 fun b hb => ⟨nll (h b hb).1 k.size, fun hm => by rcases k.m b hm with h1 | h1; exact (h b hb).2 h1; have := (h b hb).1; omega⟩
theorem Au.mv {G : Nat → Prop} {c c' : Ctx} {w w' : World} {n : Nd} {v : Value} (h : Au G w n v) (hG : GOk G c w) (k : Mv c w c' w') : Au G w' n v :=
 h.mono fun b hb hl => ⟨hb, nll hl k.size, k.block b hl (hG b hb).2⟩
theorem Ac.gmv {G : Nat → Prop} {c c' : Ctx} {w w' : World} {a : Option Addr} {l : List (List Dat)} (h : Ac G w a l) (hG : GOk G c w) (k : Mv c w c' w') : Ac G w' a l :=
 h.mono fun b hb hl => ⟨hb, nll hl k.size, k.block b hl (hG b hb).2⟩
structure XB (c0 : Ctx) (w : World) (c : Ctx) (W : World) (n v f : Array Value) : Prop where
 mv : Mv c0 w c W
 size : w.heap.size + 3 ≤ W.heap.size
 na : W.heap[w.heap.size]? = some (.cells n 59 (0, 0))
 vb : W.heap[w.heap.size + 1]? = some (.cells v 31 (0, 0))
 fc : W.heap[w.heap.size + 1 + 1]? = some (.cells f 106 (0, 0))
 out : ∀ b, w.heap.size ≤ b → b < w.heap.size + 3 → ¬ c.M b ∧ ¬ c.F b
section
variable {c0 c c' : Ctx} {w W W' : World} {n v f : Array Value}
theorem XB.start (h : c0.Ok w) (n v f : Array Value) : XB c0 w c0 (((w.alloc (.cells n 59)).alloc (.cells v 31)).alloc (.cells f 106)) n v f := by
 obtain ⟨h1, h2, h3, h4, h5⟩ := C4 w (.cells n 59) (.cells v 31) (.cells f 106);exact ⟨.of_below c0 h4, by omega, h1, h2, h3, fun b hb _ => ⟨fun hm => by have := h.ml b hm; omega, fun hm => by have := h.fl b hm; omega⟩⟩
theorem XB.later (h : XB c0 w c W n v f) (k : Mv c W c' W') : XB c0 w c' W' n v f := by
 have hs := h.size;have hk : ∀ b, w.heap.size ≤ b → b < w.heap.size + 3 → W'.heap[b]? = W.heap[b]? := fun b h1 h2 => k.block b (by omega) (h.out b h1 h2).1;refine ⟨h.mv.trans k, nlt hs k.size, (hk _ (by omega) (by omega)).trans h.na, (hk _ (by omega) (by omega)).trans h.vb, (hk _ (by omega) (by omega)).trans h.fc, fun b h1 h2 => ⟨fun hm => ?_, fun hm => ?_⟩⟩
 ·rcases k.m b hm with h3 | h3
  ·exact (h.out b h1 h2).1 h3
  ·omega
 ·rcases k.f b hm with h3 | h3
  ·exact (h.out b h1 h2).2 h3
  ·omega
theorem XB.below (h : XB c0 w c W n v f) (k : Below W.heap.size W W') : XB c0 w c W' n v f := h.later (.of_below c k)
def Lw (W : World) (b : Nat) (v0 v1 v2 v3 v4 : Value) : World := ((((W.setCell ⟨b, 0, none⟩ v0).setCell ⟨b, 1, none⟩ v1).setCell ⟨b, 2, none⟩ v2).setCell ⟨b, 3, none⟩ v3).setCell ⟨b, 4, none⟩ v4
def B8 (W : World) (b : Nat) (v0 v1 v2 : Value) : World := ((W.setCell ⟨b, 0, none⟩ v0).setCell ⟨b, 1, none⟩ v1).setCell ⟨b, 2, none⟩ v2
theorem XB.setV {x0 x1 x2 x3 x4 : Value} (h : XB c0 w c W n #[x0, x1, x2, x3, x4] f) (v0 v1 v2 v3 v4 : Value) : XB c0 w c (Lw W (w.heap.size + 1) v0 v1 v2 v3 v4) n #[v0, v1, v2, v3, v4] f := by
 unfold Lw;refine ⟨((((h.mv.set (.inl (Nat.le_succ _)) 0 _).set (.inl (Nat.le_succ _)) 1 _).set (.inl (Nat.le_succ _)) 2 _).set (.inl (Nat.le_succ _)) 3 _).set (.inl (Nat.le_succ _)) 4 _, by simpa using h.size, (set5_other (by omega) _ _ _ _ _).trans h.na, ?_, (set5_other (by omega) _ _ _ _ _).trans h.fc, h.out⟩;rw [set_same (set_same (set_same (set_same (set_same h.vb 0 v0) 1 v1) 2 v2) 3 v3) 4 v4];rfl
theorem XB.setF {x0 x1 x2 : Value} (h : XB c0 w c W n v #[x0, x1, x2]) (v0 v1 v2 : Value) : XB c0 w c (B8 W (w.heap.size + 1 + 1) v0 v1 v2) n v #[v0, v1, v2] := by
 unfold B8;refine ⟨((h.mv.set (.inl (by omega)) 0 _).set (.inl (by omega)) 1 _).set (.inl (by omega)) 2 _, by simpa using h.size, by rw [set_other (by omega), set_other (by omega), set_other (by omega)]; exact h.na, by rw [set_other (by omega), set_other (by omega), set_other (by omega)]; exact h.vb, ?_, h.out⟩;rw [set_same (set_same (set_same h.fc 0 v0) 1 v1) 2 v2];rfl
theorem XB.msV {mp mb : Nat} {hv : HostK} {st : St} (h : XB c0 w c W n v f) (hm : MS c W mp mb hv st) (v0 v1 v2 v3 v4 : Value) : MS c (Lw W (w.heap.size + 1) v0 v1 v2 v3 v4) mp mb hv st :=
 hm.other (by unfold Lw; simp) (fun b _ aC => set5_other (fun e => by subst e; have := h.out (w.heap.size + 1) (by omega) (by omega); rcases aC with h1 | h1; exact this.1 h1; exact this.2 h1) _ _ _ _ _)
theorem XB.msF {mp mb : Nat} {hv : HostK} {st : St} (h : XB c0 w c W n v f) (hm : MS c W mp mb hv st) (v0 v1 v2 : Value) : MS c (B8 W (w.heap.size + 1 + 1) v0 v1 v2) mp mb hv st :=
 hm.other (by unfold B8; simp) (fun b _ aC => by
  have aB : b ≠ w.heap.size + 1 + 1 := fun e => (by subst e; have := h.out (w.heap.size + 1 + 1) (by omega) (by omega); rcases aC with h1 | h1; exact this.1 h1; exact this.2 h1);unfold B8;rw [set_other aB, set_other aB, set_other aB])
theorem XB.aggV (h : XB c0 w c W n v f) {ds : List Dat} {cs : List Value} (ha : Ah c.F W ds cs) (v0 v1 v2 v3 v4 : Value) : Ah c.F (Lw W (w.heap.size + 1) v0 v1 v2 v3 v4) ds cs :=
 ha.mono fun b hF hl => ⟨hF, by unfold Lw; simpa using hl, set5_other (fun e => by subst e; exact (h.out (w.heap.size + 1) (by omega) (by omega)).2 hF) _ _ _ _ _⟩
theorem XB.aggF (h : XB c0 w c W n v f) {ds : List Dat} {cs : List Value} (ha : Ah c.F W ds cs) (v0 v1 v2 : Value) : Ah c.F (B8 W (w.heap.size + 1 + 1) v0 v1 v2) ds cs :=
 ha.mono fun b hF hl => ⟨hF, by unfold B8; simpa using hl, by
  have aB : b ≠ w.heap.size + 1 + 1 := fun e => (by subst e; exact (h.out (w.heap.size + 1 + 1) (by omega) (by omega)).2 hF);unfold B8;rw [set_other aB, set_other aB, set_other aB]⟩
end
def Ea (f mp mb : Nat) (hv : HostK) (ex : Nd → EM Vl) : Prop := ∀ (G : Nat → Prop) (c : Ctx) (w : World) (st : St) (n : Nd) (v : Value), MS c w mp mb hv st → GOk G c w → Au G w n v → smallN n → ex n st ≠ .out →
 Calls Tryz.prog f #[ptr mp, v] w (EP mp mb hv EVal badV c (ex n st) w)
end Go.Proofs.YtcofbdjakicojaaGreatDoor
namespace Go.Proofs.YtcofbdjakicojaaGreatDoor
open Go Go.RowKit Go.Maps Go.WideMaps
open List renaming getElem_toArray → lgA, getElem_cons_succ → lgB, getElem_cons_zero → lgC, setIfInBounds_toArray → laA, set_cons_zero → lsA, set_cons_succ → lsB, getElem?_eq_getElem → lgE, mem_of_getElem? → lgM, length_map → lnM, getElem?_map → lgP
open Nat renaming le_refl → nlr
open Go.Lib renaming hid → Lq7, toList_data → Lq8
open Go.Act renaming put → aP
set_option maxRecDepth 100000
set_option maxHeartbeats 16000000
theorem MS.look_all {c : Ctx} {w : World} {mp mb : Nat} {hv : HostK} {st : St} (h : MS c w mp mb hv st) (s : ByteArray) (hs : s.size ≤ maxLen) :
  (Eb st.names s = none ∧ ∀ W', W'.heap[mb]? = w.heap[mb]? → (Instr.lookup 102 (.map (some mb)) (.string s) true).run Tryz.prog W' = .ok (.tuple #[zeroV, .bool false]) W') ∨
   ∃ v cs, Eb st.names s = some v ∧ Ah c.F w (valD v) cs ∧ checkV v = true ∧ ∀ W', W'.heap[mb]? = w.heap[mb]? → (Instr.lookup 102 (.map (some mb)) (.string s) true).run Tryz.prog W' = .ok (.tuple #[.agg cs.toArray, .bool true]) W' := by
 obtain ⟨m, h1, h2⟩ := h.names;have hk := Hh h2 (fun q hq => (h.few q hq).2);have look := fun (W : World) (hW : W.heap[mb]? = w.heap[mb]?) => (h1.of_block hW).look true (string_keyed Tryz.underlying9) Tryz.underlying102 (zeroValueV W) hk (keyOf_string_mk Tryz.underlying9 hs);by_cases hf : ∃ (j : Nat) (v : Value), m[j]? = some (.string s, v)
 ·obtain ⟨j, v, h3⟩ := hf;have bI := (List.getElem?_eq_some_iff.1 h3).1;have hn : st.names[j]? = some (st.names[j]'(by rw [← h2.1]; exact bI)) := lgE _;obtain ⟨h5, cs, h6, h7⟩ := h2.2 j _ _ h3 hn;have hs' : s = (st.names[j]'(by rw [← h2.1]; exact bI)).1 := (by injection h5);have h6' : v = .agg cs.toArray := h6;refine .inr ⟨(st.names[j]'(by rw [← h2.1]; exact bI)).2, cs, Eo h.uniq (j := j) (by rw [hn, hs']), h7, (h.few _ (lgM hn)).1, fun W' hW => ?_⟩;rcases look W' hW with ⟨h8, -⟩ | ⟨j', v', h8, h9⟩
  ·exact absurd rfl (h8 _ (lgM h3))
  ·have hj' := (List.getElem?_eq_some_iff.1 h8).1;have hn' : st.names[j']? = some (st.names[j']'(by rw [← h2.1]; exact hj')) := lgE _;obtain ⟨h10, -⟩ := h2.2 j' _ _ h8 hn';have hs2 : s = (st.names[j']'(by rw [← h2.1]; exact hj')).1 := (by injection h10);have hjj : j = j' := (List.getElem?_inj (by rw [lnM, ← h2.1]; exact bI) h.uniq).1 (by rw [lgP, lgP, hn, hn']; simp [← hs', ← hs2]);subst hjj;rw [h3] at h8;cases h8;rw [h9, h6'];rfl
 ·refine .inl ⟨Lu fun q hq e => ?_, fun W' hW => ?_⟩
  ·obtain ⟨j, hj⟩ := List.getElem?_of_mem hq;have bI := (List.getElem?_eq_some_iff.1 hj).1;have hm : m[j]? = some (m[j]'(by rw [h2.1]; exact bI)) := lgE _;obtain ⟨h5, -⟩ := h2.2 j _ q hm hj;exact hf ⟨j, (m[j]'(by rw [h2.1]; exact bI)).2, by rw [hm, ← e, ← h5]⟩
  ·rcases look W' hW with ⟨-, h9⟩ | ⟨j', v', h8, -⟩
   ·exact h9
   ·exact absurd ⟨j', v', h8⟩ hf
theorem Lx (x : Int) (hx : inR x = true) : checkV (.mk 2 x ⟨#[]⟩ [] []) = true := by
 have h : (⟨#[]⟩ : ByteArray).toList.isEmpty = true := (by rw [Lq8]; rfl);simp [checkV, mayV, mayVs, nodeOk, hx]
theorem Pv {s : ByteArray} {v : Vl} (h : Bh s = some v) : checkV v = true := by
 have h0 : (⟨#[]⟩ : ByteArray).toList.isEmpty = true := (by rw [Lq8]; rfl);unfold Bh at h;split at h
 ·cases h; simp [checkV, mayV, mayVs, nodeOk]
 ·split at h
  ·cases h; simp [checkV, mayV, mayVs, nodeOk]
  ·split at h
   ·cases h; simp [vZero, checkV, mayV, mayVs, nodeOk]
   ·cases h
theorem expr_num (mp mb : Nat) (hv : HostK) (G : Nat → Prop) (c : Ctx) (w : World) (st : St) (t : ByteArray) (l k : Int) (kids : List Nd) (a : Option Addr) (cap : Nat) (hm : MS c w mp mb hv st) (hG : GOk G c w) (hr : Ac G w a (nodesD kids)) (hle : ¬ st.left ≤ 0) (x : Int) (hx : Kj t = some x) :
  Calls Tryz.prog 98 #[ptr mp, .agg #[.int .i64 10, .string t, .int .i64 l, .int .i64 k, .slice a kids.length cap]] w (EP mp mb hv EVal badV c (.ok (.mk 2 x ⟨#[]⟩ [] []) { st with left := st.left - 1 }) w) := by
 have H0 := Lq7 (XB.start hm.ok #[.int .i64 10, .string t, .int .i64 l, .int .i64 k, .slice a kids.length cap] #[.int .i64 0, .int .i64 0, .string ⟨#[]⟩, .slice none 0 0, .slice none 0 0] #[.int .i64 0, .int .i64 0, .int .i64 0]);have Hx := Lq7 hx;clear hx;have aC := Lq7 (C6 c mp mb hv st l k _ (hm.below (C4 w (.cells #[.int .i64 10, .string t, .int .i64 l, .int .i64 k, .slice a kids.length cap] 59) (.cells #[.int .i64 0, .int .i64 0, .string ⟨#[]⟩, .slice none 0 0, .slice none 0 0] 31) (.cells #[.int .i64 0, .int .i64 0, .int .i64 0] 106)).2.2.2.1));rw [show Dg l k st = .ok () { st with left := st.left - 1 } from if_neg hle] at aC;have HG := Lq7 hG;have Hr := Lq7 hr;clear hm hG hr hle;unfold ptr at aC ⊢;go_enter Tryz.func98, Tryz.ntmps98;go_wp2_with fail;refine aC.out.mono ?_;rintro e w1 ⟨c1, aB, aJ, v1, rfl, aY⟩;obtain rfl : v1 = faultV 0 0 0 := aY;have bF := Lq7 (HG.out.mv (H0.out.mv.trans aB));have bG := Lq7 (Hr.out.gmv HG.out (H0.out.mv.trans aB));have H1 := Lq7 (H0.out.later aB);have aI := Lq7 aJ;clear aB aJ aC H0 HG Hr;unfold faultV;obtain ⟨r0, r1, r2, r3, r4, r5, r6, r7, r8, r9, aZ⟩ := five_facts H1.out.na;go_wp2_with fail;have bX := Lq7 aI.out.std.1;refine (Pt t x Hx.out _ ?_).mono ?_
 ·exact bX.out.below ((Below.refl _ w1).alloc (nlr _) _)
 clear bX;rintro e w2 ⟨rfl, aU⟩;have bA : Below w1.heap.size w1 w2 := ((Below.refl _ w1).alloc (nlr _) _).trans (aU.mono (by simp));have H2 := Lq7 (H1.out.below bA);have bE := Lq7 (aI.out.below bA);clear aU bA H1 aI r0 r1 r2 r3 r4 r5 r6 r7 r8 r9 aZ;obtain ⟨s0, s1, s2, s3, s4, s5, s6, s7, s8, s9, aV⟩ := five_facts H2.out.vb;obtain ⟨d0, d1, d2, d3, d4, d5, d6⟩ := Ag H2.out.fc;go_wp2_with fail;refine bodyPost_ret (v := .tuple #[.agg #[.int .i64 2, .int .i64 x, .string ⟨#[]⟩, .slice none 0 0, .slice none 0 0], faultV 0 0 0]) (by simp [faultV, results, Tryz.results98, go_sem, s1, s2, s3, s4, s5, d1, d2, d3]) rfl ?_;have H3 := H2.out.setV (.int .i64 2) (.int .i64 x) (.string ⟨#[]⟩) (.slice none 0 0) (.slice none 0 0);have aW := H2.out.msV bE.out (.int .i64 2) (.int .i64 x) (.string ⟨#[]⟩) (.slice none 0 0) (.slice none 0 0);exact ⟨c1, (H3.setF (.int .i64 0) (.int .i64 0) (.int .i64 0)).mv, H3.msF aW (.int .i64 0) (.int .i64 0) (.int .i64 0), _, rfl, [_, _, _, _, _], rfl, Ah.val_mk (l := []) (ks := []) _ _ _ _ _ (Ac.nil _) (Ac.nil _), Lx x (numOf_in Hx.out)⟩
theorem T4 (kk : Int) (mp mb : Nat) (hv : HostK) (G : Nat → Prop) (c : Ctx) (w : World) (st : St) (t : ByteArray) (l k : Int) (kids : List Nd) (a : Option Addr) (cap : Nat) (hm : MS c w mp mb hv st) (_hG : GOk G c w)  (hle : st.left ≤ 0) :
  Calls Tryz.prog 98 #[ptr mp, .agg #[.int .i64 kk, .string t, .int .i64 l, .int .i64 k, .slice a kids.length cap]] w (EP mp mb hv EVal badV c (.err 12 l k) w) := by
 have H0 := Lq7 (XB.start hm.ok #[.int .i64 kk, .string t, .int .i64 l, .int .i64 k, .slice a kids.length cap] #[.int .i64 0, .int .i64 0, .string ⟨#[]⟩, .slice none 0 0, .slice none 0 0] #[.int .i64 0, .int .i64 0, .int .i64 0]);have aC := Lq7 (C6 c mp mb hv st l k _ (hm.below (C4 w (.cells #[.int .i64 kk, .string t, .int .i64 l, .int .i64 k, .slice a kids.length cap] 59) (.cells #[.int .i64 0, .int .i64 0, .string ⟨#[]⟩, .slice none 0 0, .slice none 0 0] 31) (.cells #[.int .i64 0, .int .i64 0, .int .i64 0] 106)).2.2.2.1));rw [show Dg l k st = .err 12 l k from if_pos hle] at aC;clear hm _hG hle;unfold ptr at aC ⊢;go_enter Tryz.func98, Tryz.ntmps98;go_wp2_with fail;refine aC.out.mono ?_;rintro e w1 ⟨c1, aB, rfl⟩;have H1 := Lq7 (H0.out.later aB);clear aB aC H0;unfold faultV
 go_upto_region 3 with fail
 have aE : Below w1.heap.size w1 (w1.alloc (.cells #[.int .i64 12, .int .i64 l, .int .i64 k] 106)) := (Below.refl _ w1).alloc (nlr _) _;have Hf := Lq7 (heap_alloc_new w1 (.cells #[.int .i64 12, .int .i64 l, .int .i64 k] 106));have H2 := Lq7 (H1.out.below aE);have hsz := H1.out.size;generalize World.alloc _ _ = W at H2 Hf ⊢;generalize w1.heap.size = fb at Hf hsz ⊢;clear aE H1;refine Ae (.s 0 (.s 1 (.h 2 (.h 3 .nil)))) 99 (fun W' => W'.heap[fb]? = some (.cells #[.int .i64 12, .int .i64 l, .int .i64 k] 106 (0, 0))) (by kernel_rfl) (by kernel_rfl) (fun c a d v w h => by cases d <;> exact h) Hf.out ?_
 have H5 := Lq7 (H2.out.below ((Below.refl _ W).drew));have bR : Hid (W.drew.heap[fb]? = some (.cells #[.int .i64 12, .int .i64 l, .int .i64 k] 106 (0, 0))) := Lq7 Hf.out;generalize W.drew = Wd at H5 bR ⊢;clear H2 Hf;refine Aa (.agg #[.int .i64 0, .int .i64 0, .string ⟨#[]⟩, .slice none 0 0, .slice none 0 0]) rfl rfl (fun W' hS => ?_) ?_
 ·go_simp
 (try simp only [lgA, lgC, aP, laA, lsA, lsB]);refine Aa (.agg #[.int .i64 12, .int .i64 l, .int .i64 k]) rfl rfl (fun W' hS => ?_) ?_
 ·obtain ⟨s0, s1, s2, s3, s4, s5, s6⟩ := Ag hS;clear hS;go_simp
 (try simp only [lgA, lgB, lgC, aP, laA, lsA, lsB]);obtain ⟨s0, s1, s2, s3, s4, s5, s6, s7, s8, s9, aV⟩ := five_facts H5.out.vb;refine Ad rfl (fun Kx bB => ?_);go_wp2_with fail;have H6 := Lq7 (H5.out.setV (.int .i64 0) (.int .i64 0) (.string ⟨#[]⟩) (.slice none 0 0) (.slice none 0 0));have bP := Lq7 ((set5_other (W := Wd) (b := w.heap.size + 1) (k := fb) (by omega) (.int .i64 0) (.int .i64 0) (.string ⟨#[]⟩) (.slice none 0 0) (.slice none 0 0)).trans bR.out);unfold Lw at H6;refine bB _ _ (fun _ => bP.out) ?_;generalize World.setCell _ _ _ = W6 at H6 bP ⊢;(try simp only [lgA, lgB, lgC, aP, laA, lsA, lsB]);clear s0 s1 s2 s3 s4 s5 s6 s7 s8 s9 aV bB H5 bR;obtain ⟨d0, d1, d2, d3, d4, d5, d6⟩ := Ag H6.out.fc;refine Ad rfl (fun Ky bC => ?_);go_wp2_with fail;have H7 := Lq7 (H6.out.setF (.int .i64 12) (.int .i64 l) (.int .i64 k));unfold B8 at H7;refine bC _ _ (fun _ => ((((set_other (by omega) 2 _).trans (set_other (by omega) 1 _)).trans (set_other (by omega) 0 _)).trans bP.out)) ?_;generalize World.setCell _ _ _ = W7 at H7 ⊢;refine Ak ?_;(try simp only [lgA, lgB, lgC, aP, laA, lsA, lsB]);clear d0 d1 d2 d3 d4 d5 d6 bC H6 bP;obtain ⟨s0, s1, s2, s3, s4, s5, s6, s7, s8, s9, aV⟩ := five_facts H7.out.vb;obtain ⟨d0, d1, d2, d3, d4, d5, d6⟩ := Ag H7.out.fc;go_wp2_with fail;refine bodyPost_ret (v := badV 12 l k) (by simp [badV, zeroV, faultV, results, Tryz.results98, go_sem, s1, s2, s3, s4, s5, d1, d2, d3]) rfl ?_;exact ⟨_, H7.out.mv, rfl⟩
theorem T5 (mp mb : Nat) (hv : HostK) (G : Nat → Prop) (c : Ctx) (w : World) (st : St) (t : ByteArray) (l k : Int) (kids : List Nd) (a : Option Addr) (cap : Nat) (hm : MS c w mp mb hv st) (hG : GOk G c w) (hr : Ac G w a (nodesD kids)) (hle : ¬ st.left ≤ 0) (hsn : smallN (.mk 12 t l k kids)) (ex : Nd → EM Vl) (hl : Ea 131 mp mb hv ex) (hne : ex (.mk 12 t l k kids) { st with left := st.left - 1 } ≠ .out) :
  Calls Tryz.prog 98 #[ptr mp, .agg #[.int .i64 12, .string t, .int .i64 l, .int .i64 k, .slice a kids.length cap]] w (EP mp mb hv EVal badV c (ex (.mk 12 t l k kids) { st with left := st.left - 1 }) w) := by
 have H0 := Lq7 (XB.start hm.ok #[.int .i64 12, .string t, .int .i64 l, .int .i64 k, .slice a kids.length cap] #[.int .i64 0, .int .i64 0, .string ⟨#[]⟩, .slice none 0 0, .slice none 0 0] #[.int .i64 0, .int .i64 0, .int .i64 0]);have Hl := Lq7 hl;have bS := Lq7 hsn;have bL := Lq7 hne;clear hl hsn hne;have aC := Lq7 (C6 c mp mb hv st l k _ (hm.below (C4 w (.cells #[.int .i64 12, .string t, .int .i64 l, .int .i64 k, .slice a kids.length cap] 59) (.cells #[.int .i64 0, .int .i64 0, .string ⟨#[]⟩, .slice none 0 0, .slice none 0 0] 31) (.cells #[.int .i64 0, .int .i64 0, .int .i64 0] 106)).2.2.2.1));rw [show Dg l k st = .ok () { st with left := st.left - 1 } from if_neg hle] at aC;have HG := Lq7 hG;have Hr := Lq7 hr;clear hm hG hr hle;unfold ptr at aC ⊢;go_enter Tryz.func98, Tryz.ntmps98;go_wp2_with fail;refine aC.out.mono ?_;rintro e w1 ⟨c1, aB, aJ, v1, rfl, aY⟩;obtain rfl : v1 = faultV 0 0 0 := aY;have bF := Lq7 (HG.out.mv (H0.out.mv.trans aB));have bG := Lq7 (Hr.out.gmv HG.out (H0.out.mv.trans aB));have H1 := Lq7 (H0.out.later aB);have aI := Lq7 aJ;clear aB aJ aC H0 HG Hr;unfold faultV;obtain ⟨r0, r1, r2, r3, r4, r5, r6, r7, r8, r9, aZ⟩ := five_facts H1.out.na;have aE : Below w1.heap.size w1 (w1.alloc (.cells #[.int .i64 0, .int .i64 0, .int .i64 0] 106)) := (Below.refl _ w1).alloc (nlr _) _;have Hc := Lq7 (Hl.out G c1 _ { st with left := st.left - 1 } (.mk 12 t l k kids) _ (aI.out.below aE) (bF.out.mv (.of_below c1 aE)) (Au.mk _ _ _ _ cap (bG.out.below aE)) bS.out bL.out);have H2 := Lq7 (H1.out.below aE);unfold ptr at Hc;clear aE;go_wp2_with fail;refine Hc.out.mono ?_;rintro e w2 ⟨c2, aB, hq⟩;have H3 := Lq7 (H2.out.later aB);clear aB Hc H2 H1 aI r0 r1 r2 r3 r4 r5 r6 r7 r8 r9 aZ bF bG;obtain ⟨s0, s1, s2, s3, s4, s5, s6, s7, s8, s9, aV⟩ := five_facts H3.out.vb;obtain ⟨d0, d1, d2, d3, d4, d5, d6⟩ := Ag H3.out.fc;cases hx : ex (.mk 12 t l k kids) { st with left := st.left - 1 } with
 | out => exact absurd hx bL.out
 | err x y z =>
  rw [hx] at hq;obtain rfl := hq;unfold badV zeroV faultV;have aR := Lq7 hx;clear hx;go_wp2_with fail;refine bodyPost_ret (v := badV x y z) (by simp [badV, zeroV, faultV, results, Tryz.results98, go_sem, s1, s2, s3, s4, s5, d1, d2, d3]) rfl ?_;rw [aR.out];exact ⟨c2, ((H3.out.setV (.int .i64 0) (.int .i64 0) (.string ⟨#[]⟩) (.slice none 0 0) (.slice none 0 0)).setF (.int .i64 x) (.int .i64 y) (.int .i64 z)).mv, rfl⟩
 | ok x st2 =>
  rw [hx] at hq;obtain ⟨bD, v2, rfl, cs, rfl, aG, bH⟩ := hq;obtain ⟨xk, xn, xs, xl, xks⟩ := x;obtain ⟨b1, e1, b2, e2, rfl, bU, bV⟩ := aG.val;have aW := Lq7 bD;have aX := Lq7 aG;have bM := Lq7 bH;unfold faultV;have aR := Lq7 hx;clear hx bD aG bH bU bV;go_wp2_with fail;refine bodyPost_ret (v := .tuple #[.agg #[.int .i64 xk, .int .i64 xn, .string xs, .slice b1 xl.length e1, .slice b2 xks.length e2], faultV 0 0 0]) (by simp [faultV, results, Tryz.results98, go_sem, s1, s2, s3, s4, s5, d1, d2, d3]) rfl ?_;have H4 := H3.out.setV (.int .i64 xk) (.int .i64 xn) (.string xs) (.slice b1 xl.length e1) (.slice b2 xks.length e2);have aM := H3.out.msV aW.out (.int .i64 xk) (.int .i64 xn) (.string xs) (.slice b1 xl.length e1) (.slice b2 xks.length e2);have bN := H3.out.aggV aX.out (.int .i64 xk) (.int .i64 xn) (.string xs) (.slice b1 xl.length e1) (.slice b2 xks.length e2);rw [aR.out];exact ⟨c2, (H4.setF (.int .i64 0) (.int .i64 0) (.int .i64 0)).mv, H4.msF aM (.int .i64 0) (.int .i64 0) (.int .i64 0), _, rfl, [_, _, _, _, _], rfl, H4.aggF bN (.int .i64 0) (.int .i64 0) (.int .i64 0), bM.out⟩
theorem expr_op (mp mb : Nat) (hv : HostK) (G : Nat → Prop) (c : Ctx) (w : World) (st : St) (t : ByteArray) (l k : Int) (kids : List Nd) (a : Option Addr) (cap : Nat) (hm : MS c w mp mb hv st) (hG : GOk G c w) (hr : Ac G w a (nodesD kids)) (hle : ¬ st.left ≤ 0) (hsn : smallN (.mk 16 t l k kids)) (ex : Nd → EM Vl) (hl : Ea 134 mp mb hv ex) (hne : ex (.mk 16 t l k kids) { st with left := st.left - 1 } ≠ .out) :
  Calls Tryz.prog 98 #[ptr mp, .agg #[.int .i64 16, .string t, .int .i64 l, .int .i64 k, .slice a kids.length cap]] w (EP mp mb hv EVal badV c (ex (.mk 16 t l k kids) { st with left := st.left - 1 }) w) := by
 have H0 := Lq7 (XB.start hm.ok #[.int .i64 16, .string t, .int .i64 l, .int .i64 k, .slice a kids.length cap] #[.int .i64 0, .int .i64 0, .string ⟨#[]⟩, .slice none 0 0, .slice none 0 0] #[.int .i64 0, .int .i64 0, .int .i64 0]);have Hl := Lq7 hl;have bS := Lq7 hsn;have bL := Lq7 hne;clear hl hsn hne;have aC := Lq7 (C6 c mp mb hv st l k _ (hm.below (C4 w (.cells #[.int .i64 16, .string t, .int .i64 l, .int .i64 k, .slice a kids.length cap] 59) (.cells #[.int .i64 0, .int .i64 0, .string ⟨#[]⟩, .slice none 0 0, .slice none 0 0] 31) (.cells #[.int .i64 0, .int .i64 0, .int .i64 0] 106)).2.2.2.1));rw [show Dg l k st = .ok () { st with left := st.left - 1 } from if_neg hle] at aC;have HG := Lq7 hG;have Hr := Lq7 hr;clear hm hG hr hle;unfold ptr at aC ⊢;go_enter Tryz.func98, Tryz.ntmps98;go_wp2_with fail;refine aC.out.mono ?_;rintro e w1 ⟨c1, aB, aJ, v1, rfl, aY⟩;obtain rfl : v1 = faultV 0 0 0 := aY;have bF := Lq7 (HG.out.mv (H0.out.mv.trans aB));have bG := Lq7 (Hr.out.gmv HG.out (H0.out.mv.trans aB));have H1 := Lq7 (H0.out.later aB);have aI := Lq7 aJ;clear aB aJ aC H0 HG Hr;unfold faultV;obtain ⟨r0, r1, r2, r3, r4, r5, r6, r7, r8, r9, aZ⟩ := five_facts H1.out.na;have aE : Below w1.heap.size w1 (w1.alloc (.cells #[.int .i64 0, .int .i64 0, .int .i64 0] 106)) := (Below.refl _ w1).alloc (nlr _) _;have Hc := Lq7 (Hl.out G c1 _ { st with left := st.left - 1 } (.mk 16 t l k kids) _ (aI.out.below aE) (bF.out.mv (.of_below c1 aE)) (Au.mk _ _ _ _ cap (bG.out.below aE)) bS.out bL.out);have H2 := Lq7 (H1.out.below aE);unfold ptr at Hc;clear aE;go_wp2_with fail;refine Hc.out.mono ?_;rintro e w2 ⟨c2, aB, hq⟩;have H3 := Lq7 (H2.out.later aB);clear aB Hc H2 H1 aI r0 r1 r2 r3 r4 r5 r6 r7 r8 r9 aZ bF bG;obtain ⟨s0, s1, s2, s3, s4, s5, s6, s7, s8, s9, aV⟩ := five_facts H3.out.vb;obtain ⟨d0, d1, d2, d3, d4, d5, d6⟩ := Ag H3.out.fc;cases hx : ex (.mk 16 t l k kids) { st with left := st.left - 1 } with
 | out => exact absurd hx bL.out
 | err x y z =>
  rw [hx] at hq;obtain rfl := hq;unfold badV zeroV faultV;have aR := Lq7 hx;clear hx;go_wp2_with fail;refine bodyPost_ret (v := badV x y z) (by simp [badV, zeroV, faultV, results, Tryz.results98, go_sem, s1, s2, s3, s4, s5, d1, d2, d3]) rfl ?_;rw [aR.out];exact ⟨c2, ((H3.out.setV (.int .i64 0) (.int .i64 0) (.string ⟨#[]⟩) (.slice none 0 0) (.slice none 0 0)).setF (.int .i64 x) (.int .i64 y) (.int .i64 z)).mv, rfl⟩
 | ok x st2 =>
  rw [hx] at hq;obtain ⟨bD, v2, rfl, cs, rfl, aG, bH⟩ := hq;obtain ⟨xk, xn, xs, xl, xks⟩ := x;obtain ⟨b1, e1, b2, e2, rfl, bU, bV⟩ := aG.val;have aW := Lq7 bD;have aX := Lq7 aG;have bM := Lq7 bH;unfold faultV;have aR := Lq7 hx;clear hx bD aG bH bU bV;go_wp2_with fail;refine bodyPost_ret (v := .tuple #[.agg #[.int .i64 xk, .int .i64 xn, .string xs, .slice b1 xl.length e1, .slice b2 xks.length e2], faultV 0 0 0]) (by simp [faultV, results, Tryz.results98, go_sem, s1, s2, s3, s4, s5, d1, d2, d3]) rfl ?_;have H4 := H3.out.setV (.int .i64 xk) (.int .i64 xn) (.string xs) (.slice b1 xl.length e1) (.slice b2 xks.length e2);have aM := H3.out.msV aW.out (.int .i64 xk) (.int .i64 xn) (.string xs) (.slice b1 xl.length e1) (.slice b2 xks.length e2);have bN := H3.out.aggV aX.out (.int .i64 xk) (.int .i64 xn) (.string xs) (.slice b1 xl.length e1) (.slice b2 xks.length e2);rw [aR.out];exact ⟨c2, (H4.setF (.int .i64 0) (.int .i64 0) (.int .i64 0)).mv, H4.msF aM (.int .i64 0) (.int .i64 0) (.int .i64 0), _, rfl, [_, _, _, _, _], rfl, H4.aggF bN (.int .i64 0) (.int .i64 0) (.int .i64 0), bM.out⟩
theorem Rh (mp mb : Nat) (hv : HostK) (G : Nat → Prop) (c : Ctx) (w : World) (st : St) (t : ByteArray) (l k : Int) (kids : List Nd) (a : Option Addr) (cap : Nat) (hm : MS c w mp mb hv st) (hG : GOk G c w) (hr : Ac G w a (nodesD kids)) (hle : ¬ st.left ≤ 0) (x : Vl) (hx : Bh t = some x) :
  Calls Tryz.prog 98 #[ptr mp, .agg #[.int .i64 9, .string t, .int .i64 l, .int .i64 k, .slice a kids.length cap]] w (EP mp mb hv EVal badV c (.ok x { st with left := st.left - 1 }) w) := by
 have H0 := Lq7 (XB.start hm.ok #[.int .i64 9, .string t, .int .i64 l, .int .i64 k, .slice a kids.length cap] #[.int .i64 0, .int .i64 0, .string ⟨#[]⟩, .slice none 0 0, .slice none 0 0] #[.int .i64 0, .int .i64 0, .int .i64 0]);have Hx := Lq7 hx;clear hx;have aC := Lq7 (C6 c mp mb hv st l k _ (hm.below (C4 w (.cells #[.int .i64 9, .string t, .int .i64 l, .int .i64 k, .slice a kids.length cap] 59) (.cells #[.int .i64 0, .int .i64 0, .string ⟨#[]⟩, .slice none 0 0, .slice none 0 0] 31) (.cells #[.int .i64 0, .int .i64 0, .int .i64 0] 106)).2.2.2.1));rw [show Dg l k st = .ok () { st with left := st.left - 1 } from if_neg hle] at aC;have HG := Lq7 hG;have Hr := Lq7 hr;clear hm hG hr hle;unfold ptr at aC ⊢;go_enter Tryz.func98, Tryz.ntmps98;go_wp2_with fail;refine aC.out.mono ?_;rintro e w1 ⟨c1, aB, aJ, v1, rfl, aY⟩;obtain rfl : v1 = faultV 0 0 0 := aY;have bF := Lq7 (HG.out.mv (H0.out.mv.trans aB));have bG := Lq7 (Hr.out.gmv HG.out (H0.out.mv.trans aB));have H1 := Lq7 (H0.out.later aB);have aI := Lq7 aJ;clear aB aJ aC H0 HG Hr;unfold faultV;obtain ⟨r0, r1, r2, r3, r4, r5, r6, r7, r8, r9, aZ⟩ := five_facts H1.out.na;have aE : Below w1.heap.size w1 (w1.alloc (.cells #[.int .i64 0, .int .i64 0, .int .i64 0] 106)) := (Below.refl _ w1).alloc (nlr _) _;have H2 := Lq7 (H1.out.below aE);have bE := Lq7 (aI.out.below aE);clear aE H1 aI;go_wp2_with fail;refine (Fk t _).mono ?_;rintro e w2 ⟨cs, rfl, aU, bY, -, x0, x1, x2, rfl⟩;rw [show (Bh t).isSome = true by rw [Hx.out]; rfl];have Hag := Lq7 (bY x Hx.out c1.F);have H3 := Lq7 (H2.out.below aU);have aW := Lq7 (bE.out.below aU);clear bY aU H2 bE r0 r1 r2 r3 r4 r5 r6 r7 r8 r9 aZ;obtain ⟨s0, s1, s2, s3, s4, s5, s6, s7, s8, s9, aV⟩ := five_facts H3.out.vb;obtain ⟨d0, d1, d2, d3, d4, d5, d6⟩ := Ag H3.out.fc;go_wp2_with fail;refine bodyPost_ret (v := .tuple #[.agg #[.int .i64 x0, .int .i64 x1, .string x2, .slice none 0 0, .slice none 0 0], faultV 0 0 0]) (by simp [faultV, results, Tryz.results98, go_sem, s0, s1, s2, s3, s4, s5, d0, d1, d2, d3]) rfl ?_;have H4 := H3.out.setV (.int .i64 x0) (.int .i64 x1) (.string x2) (.slice none 0 0) (.slice none 0 0);have aM := H3.out.msV aW.out (.int .i64 x0) (.int .i64 x1) (.string x2) (.slice none 0 0) (.slice none 0 0);have bN := H3.out.aggV Hag.out (.int .i64 x0) (.int .i64 x1) (.string x2) (.slice none 0 0) (.slice none 0 0);have H5 := H4.setF (.int .i64 0) (.int .i64 0) (.int .i64 0);have aF := H4.msF aM (.int .i64 0) (.int .i64 0) (.int .i64 0);have Ha5 := H4.aggF bN (.int .i64 0) (.int .i64 0) (.int .i64 0);have bJ := fun (W : World) => (Below.refl _ W).alloc (nlr _) (.cells #[.int .i64 x0, .int .i64 x1, .string x2, .slice none 0 0, .slice none 0 0] 31);exact ⟨c1, (H5.below (bJ _)).mv, aF.below (bJ _), _, rfl, [_, _, _, _, _], rfl, Ha5.below (bJ _), Pv Hx.out⟩
theorem Ri (mp mb : Nat) (hv : HostK) (G : Nat → Prop) (c : Ctx) (w : World) (st : St) (t : ByteArray) (l k : Int) (kids : List Nd) (a : Option Addr) (cap : Nat) (hm : MS c w mp mb hv st) (hG : GOk G c w) (hr : Ac G w a (nodesD kids)) (hle : ¬ st.left ≤ 0) (ht : t.size ≤ maxLen) (hfx : Bh t = none) (x : Vl) (hx : Eb st.names t = some x) :
  Calls Tryz.prog 98 #[ptr mp, .agg #[.int .i64 9, .string t, .int .i64 l, .int .i64 k, .slice a kids.length cap]] w (EP mp mb hv EVal badV c (.ok x { st with left := st.left - 1 }) w) := by
 have H0 := Lq7 (XB.start hm.ok #[.int .i64 9, .string t, .int .i64 l, .int .i64 k, .slice a kids.length cap] #[.int .i64 0, .int .i64 0, .string ⟨#[]⟩, .slice none 0 0, .slice none 0 0] #[.int .i64 0, .int .i64 0, .int .i64 0]);have Hx := Lq7 hx;have Ht := Lq7 ht;have bW := Lq7 hfx;clear hx ht hfx;have aC := Lq7 (C6 c mp mb hv st l k _ (hm.below (C4 w (.cells #[.int .i64 9, .string t, .int .i64 l, .int .i64 k, .slice a kids.length cap] 59) (.cells #[.int .i64 0, .int .i64 0, .string ⟨#[]⟩, .slice none 0 0, .slice none 0 0] 31) (.cells #[.int .i64 0, .int .i64 0, .int .i64 0] 106)).2.2.2.1));rw [show Dg l k st = .ok () { st with left := st.left - 1 } from if_neg hle] at aC;have HG := Lq7 hG;have Hr := Lq7 hr;clear hm hG hr hle;unfold ptr at aC ⊢;go_enter Tryz.func98, Tryz.ntmps98;go_wp2_with fail;refine aC.out.mono ?_;rintro e w1 ⟨c1, aB, aJ, v1, rfl, aY⟩;obtain rfl : v1 = faultV 0 0 0 := aY;have bF := Lq7 (HG.out.mv (H0.out.mv.trans aB));have bG := Lq7 (Hr.out.gmv HG.out (H0.out.mv.trans aB));have H1 := Lq7 (H0.out.later aB);have aI := Lq7 aJ;clear aB aJ aC H0 HG Hr;unfold faultV;obtain ⟨r0, r1, r2, r3, r4, r5, r6, r7, r8, r9, aZ⟩ := five_facts H1.out.na;have aE : Below w1.heap.size w1 (w1.alloc (.cells #[.int .i64 0, .int .i64 0, .int .i64 0] 106)) := (Below.refl _ w1).alloc (nlr _) _;have H2 := Lq7 (H1.out.below aE);have bE := Lq7 (aI.out.below aE);clear aE H1 aI;go_wp2_with fail;refine (Fk t _).mono ?_;rintro e w2 ⟨cs, rfl, aU, -, -, x0, x1, x2, rfl⟩;rw [show (Bh t).isSome = false by rw [bW.out]; rfl];have H3 := Lq7 (H2.out.below aU);have aW := Lq7 (bE.out.below aU);clear aU H2 bE r0 r1 r2 r3 r4 r5 r6 r7 r8 r9 aZ
 go_upto_region 9 with fail
 have bA : Below w2.heap.size w2 (w2.alloc (.cells #[.int .i64 x0, .int .i64 x1, .string x2, .slice none 0 0, .slice none 0 0] 31)) := (Below.refl _ w2).alloc (nlr _) _;have H4 := Lq7 (H3.out.below bA);have aM := Lq7 (aW.out.below bA);generalize World.alloc _ _ = W at H4 aM ⊢;clear bA H3 aW;rcases aM.out.look_all t Ht.out with ⟨h1, -⟩ | ⟨x', cs', h1, aG, bH, hlk⟩
 ·rw [Hx.out] at h1; cases h1
 obtain rfl : x = x' := (by rw [Hx.out] at h1; cases h1; rfl);obtain ⟨xk, xn, xs, xl, xks⟩ := x;obtain ⟨b1, e1, b2, e2, rfl, -, -⟩ := aG.val;have bQ := Lq7 hlk;have aX := Lq7 aG;have bM := Lq7 bH;clear h1 hlk aG bH;refine Ae (.s 0 (.s 1 (.s 2 (.s 3 (.s 4 (.s 5 (.s 6 (.s 7 (.s 8 (.s 9 (.h 10 (.h 11 (.s 12 .nil))))))))))))) 99 (fun W' => W'.heap[mp]? = some (.cells #[.map (some mb), hv.val, .int .i64 (st.left - 1)] 104 (0, 0)) ∧ W'.heap[w.heap.size]? = some (.cells #[.int .i64 9, .string t, .int .i64 l, .int .i64 k, .slice a kids.length cap] 59 (0, 0)) ∧ W'.heap[mb]? = W.heap[mb]?) (by kernel_rfl) (by kernel_rfl) (fun c a d v w h => by cases d <;> exact h) ⟨aM.out.head, H4.out.na, rfl⟩ ?_
 have H5 := Lq7 (H4.out.below ((Below.refl _ W).drew));have aF := Lq7 (aM.out.below ((Below.refl _ W).drew));have aN := aF.out.head;have aQ : W.drew.heap[mb]? = W.heap[mb]? := rfl;have bO := Lq7 (aX.out.below ((Below.refl _ W).drew));generalize W.drew = Wd at H5 aF aN aQ bO ⊢;clear H4 aM aX;refine Aa (.pointer (some ⟨mp, 0, none⟩)) rfl rfl (fun W' hS => ?_) ?_
 ·clear hS;go_simp
 (try simp only [lgA, lgC, aP, laA, lsA, lsB]);refine Aa (.pointer (some ⟨mp, 0, none⟩)) rfl rfl (fun W' hS => ?_) ?_
 ·clear hS;go_simp
 (try simp only [lgA, lgB, lgC, aP, laA, lsA, lsB]);refine Aa (.pointer (some ⟨mp, 0, none⟩)) rfl rfl (fun W' hS => ?_) ?_
 ·clear hS;go_simp
 (try simp only [lgA, lgB, lgC, aP, laA, lsA, lsB]);refine Aa (.map (some mb)) rfl rfl (fun W' hS => ?_) ?_
 ·obtain ⟨s0, s1, s2, s3, s4, s5, s6⟩ := Ag hS.1;clear hS;go_simp
 (try simp only [lgA, lgB, lgC, aP, laA, lsA, lsB]);refine Aa (.pointer (some ⟨w.heap.size, 1, none⟩)) rfl rfl (fun W' hS => ?_) ?_
 ·clear hS;go_simp
 (try simp only [lgA, lgB, lgC, aP, laA, lsA, lsB]);refine Aa (.string t) rfl rfl (fun W' hS => ?_) ?_
 ·obtain ⟨s0, s1, s2, s3, s4, s5, s6, s7, s8, s9, aV⟩ := five_facts hS.2.1;clear hS;go_simp
 (try simp only [lgA, lgB, lgC, aP, laA, lsA, lsB]);refine Aa (.tuple #[.agg #[.int .i64 xk, .int .i64 xn, .string xs, .slice b1 xl.length e1, .slice b2 xks.length e2], .bool true]) rfl rfl (fun W' hS => ?_) ?_
 ·have hl := bQ.out W' hS.2.2;clear hS;go_simp
 (try simp only [lgA, lgB, lgC, aP, laA, lsA, lsB]);refine Aa (.tuple #[.agg #[.int .i64 xk, .int .i64 xn, .string xs, .slice b1 xl.length e1, .slice b2 xks.length e2], .bool true]) rfl rfl (fun W' hS => ?_) ?_
 ·clear hS;go_simp
 (try simp only [lgA, lgB, lgC, aP, laA, lsA, lsB]);refine Aa (.agg #[.int .i64 xk, .int .i64 xn, .string xs, .slice b1 xl.length e1, .slice b2 xks.length e2]) rfl rfl (fun W' hS => ?_) ?_
 ·clear hS;go_simp
 (try simp only [lgA, lgB, lgC, aP, laA, lsA, lsB]);refine Aa (.bool true) rfl rfl (fun W' hS => ?_) ?_
 ·clear hS;go_simp
 (try simp only [lgA, lgB, lgC, aP, laA, lsA, lsB]);refine Ad rfl (fun Kx bB => ?_);go_wp2_with fail;have aH : Below Wd.heap.size Wd (Wd.alloc (.cells #[.int .i64 0, .int .i64 0, .string ⟨#[]⟩, .slice none 0 0, .slice none 0 0] 31)) := (Below.refl _ Wd).alloc (nlr _) _;refine bB _ _ (fun _ => ⟨(aH.block _ (aF.out.ok.ml _ aF.out.hm)).trans aN, (aH.block _ (by have := H5.out.size; omega)).trans H5.out.na, (aH.block _ (aF.out.ok.ml _ aF.out.hb)).trans aQ⟩) ?_;clear aH bB;(try simp only [lgA, lgB, lgC, aP, laA, lsA, lsB]);refine Ad rfl (fun Ky bC => ?_);go_wp2_with fail;have aH : ∀ o, Below Wd.heap.size Wd (Wd.alloc o) := fun o => (Below.refl _ Wd).alloc (nlr _) _;refine bC _ _ (fun _ => ⟨((aH _).block _ (aF.out.ok.ml _ aF.out.hm)).trans aN, ((aH _).block _ (by have := H5.out.size; omega)).trans H5.out.na, ((aH _).block _ (aF.out.ok.ml _ aF.out.hb)).trans aQ⟩) ?_;clear bC aH;(try simp only [lgA, lgB, lgC, aP, laA, lsA, lsB]);refine Aa (.bool true) rfl rfl (fun W' hS => ?_) ?_
 ·clear hS;go_simp
 refine Ak ?_;(try simp only [lgA, lgB, lgC, aP, laA, lsA, lsB]);obtain ⟨s0, s1, s2, s3, s4, s5, s6, s7, s8, s9, aV⟩ := five_facts H5.out.vb;obtain ⟨d0, d1, d2, d3, d4, d5, d6⟩ := Ag H5.out.fc;go_wp2_with fail;refine bodyPost_ret (v := .tuple #[.agg #[.int .i64 xk, .int .i64 xn, .string xs, .slice b1 xl.length e1, .slice b2 xks.length e2], faultV 0 0 0]) (by simp [faultV, results, Tryz.results98, go_sem, s0, s1, s2, s3, s4, s5, d0, d1, d2, d3]) rfl ?_;have H6 := H5.out.setV (.int .i64 xk) (.int .i64 xn) (.string xs) (.slice b1 xl.length e1) (.slice b2 xks.length e2);have Hm6 := H5.out.msV aF.out (.int .i64 xk) (.int .i64 xn) (.string xs) (.slice b1 xl.length e1) (.slice b2 xks.length e2);have Ha6 := H5.out.aggV bO.out (.int .i64 xk) (.int .i64 xn) (.string xs) (.slice b1 xl.length e1) (.slice b2 xks.length e2);have H7 := H6.setF (.int .i64 0) (.int .i64 0) (.int .i64 0);have Hm7 := H6.msF Hm6 (.int .i64 0) (.int .i64 0) (.int .i64 0);have Ha7 := H6.aggF Ha6 (.int .i64 0) (.int .i64 0) (.int .i64 0);have bJ := fun (W : World) => (Below.refl _ W).alloc (nlr _) (.cells #[.int .i64 xk, .int .i64 xn, .string xs, .slice b1 xl.length e1, .slice b2 xks.length e2] 31);exact ⟨c1, (H7.below (bJ _)).mv, Hm7.below (bJ _), _, rfl, [_, _, _, _, _], rfl, Ha7.below (bJ _), bM.out⟩
theorem Oi (mp mb : Nat) (hv : HostK) (G : Nat → Prop) (c : Ctx) (w : World) (st : St) (t : ByteArray) (l k : Int) (kids : List Nd) (a : Option Addr) (cap : Nat) (hm : MS c w mp mb hv st) (hG : GOk G c w) (hr : Ac G w a (nodesD kids)) (hle : ¬ st.left ≤ 0) (ht : t.size ≤ maxLen) (hfx : Bh t = none) (hx : Eb st.names t = none) :
  Calls Tryz.prog 98 #[ptr mp, .agg #[.int .i64 9, .string t, .int .i64 l, .int .i64 k, .slice a kids.length cap]] w (EP mp mb hv EVal badV c (.err 7 l k) w) := by
 have H0 := Lq7 (XB.start hm.ok #[.int .i64 9, .string t, .int .i64 l, .int .i64 k, .slice a kids.length cap] #[.int .i64 0, .int .i64 0, .string ⟨#[]⟩, .slice none 0 0, .slice none 0 0] #[.int .i64 0, .int .i64 0, .int .i64 0]);have Hx := Lq7 hx;have Ht := Lq7 ht;have bW := Lq7 hfx;clear hx ht hfx;have aC := Lq7 (C6 c mp mb hv st l k _ (hm.below (C4 w (.cells #[.int .i64 9, .string t, .int .i64 l, .int .i64 k, .slice a kids.length cap] 59) (.cells #[.int .i64 0, .int .i64 0, .string ⟨#[]⟩, .slice none 0 0, .slice none 0 0] 31) (.cells #[.int .i64 0, .int .i64 0, .int .i64 0] 106)).2.2.2.1));rw [show Dg l k st = .ok () { st with left := st.left - 1 } from if_neg hle] at aC;have HG := Lq7 hG;have Hr := Lq7 hr;clear hm hG hr hle;unfold ptr at aC ⊢;go_enter Tryz.func98, Tryz.ntmps98;go_wp2_with fail;refine aC.out.mono ?_;rintro e w1 ⟨c1, aB, aJ, v1, rfl, aY⟩;obtain rfl : v1 = faultV 0 0 0 := aY;have bF := Lq7 (HG.out.mv (H0.out.mv.trans aB));have bG := Lq7 (Hr.out.gmv HG.out (H0.out.mv.trans aB));have H1 := Lq7 (H0.out.later aB);have aI := Lq7 aJ;clear aB aJ aC H0 HG Hr;unfold faultV;obtain ⟨r0, r1, r2, r3, r4, r5, r6, r7, r8, r9, aZ⟩ := five_facts H1.out.na;have aE : Below w1.heap.size w1 (w1.alloc (.cells #[.int .i64 0, .int .i64 0, .int .i64 0] 106)) := (Below.refl _ w1).alloc (nlr _) _;have H2 := Lq7 (H1.out.below aE);have bE := Lq7 (aI.out.below aE);clear aE H1 aI;go_wp2_with fail;refine (Fk t _).mono ?_;rintro e w2 ⟨cs, rfl, aU, -, -, x0, x1, x2, rfl⟩;rw [show (Bh t).isSome = false by rw [bW.out]; rfl];have H3 := Lq7 (H2.out.below aU);have aW := Lq7 (bE.out.below aU);clear aU H2 bE r0 r1 r2 r3 r4 r5 r6 r7 r8 r9 aZ
 go_upto_region 9 with fail
 have bA : Below w2.heap.size w2 (w2.alloc (.cells #[.int .i64 x0, .int .i64 x1, .string x2, .slice none 0 0, .slice none 0 0] 31)) := (Below.refl _ w2).alloc (nlr _) _;have H4 := Lq7 (H3.out.below bA);have aM := Lq7 (aW.out.below bA);generalize World.alloc _ _ = W at H4 aM ⊢;clear bA H3 aW;rcases aM.out.look_all t Ht.out with ⟨-, hlk⟩ | ⟨x', cs', h1, -, -, -⟩
 case inr => rw [Hx.out] at h1; cases h1
 have bQ := Lq7 hlk;clear hlk;unfold zeroV at bQ;refine Ae (.s 0 (.s 1 (.s 2 (.s 3 (.s 4 (.s 5 (.s 6 (.s 7 (.s 8 (.s 9 (.h 10 (.h 11 (.s 12 .nil))))))))))))) 99 (fun W' => W'.heap[mp]? = some (.cells #[.map (some mb), hv.val, .int .i64 (st.left - 1)] 104 (0, 0)) ∧ W'.heap[w.heap.size]? = some (.cells #[.int .i64 9, .string t, .int .i64 l, .int .i64 k, .slice a kids.length cap] 59 (0, 0)) ∧ W'.heap[mb]? = W.heap[mb]?) (by kernel_rfl) (by kernel_rfl) (fun c a d v w h => by cases d <;> exact h) ⟨aM.out.head, H4.out.na, rfl⟩ ?_
 have H5 := Lq7 (H4.out.below ((Below.refl _ W).drew));have aF := Lq7 (aM.out.below ((Below.refl _ W).drew));have aN := aF.out.head;have aQ : W.drew.heap[mb]? = W.heap[mb]? := rfl;generalize W.drew = Wd at H5 aF aN aQ ⊢;clear H4 aM;refine Aa (.pointer (some ⟨mp, 0, none⟩)) rfl rfl (fun W' hS => ?_) ?_
 ·clear hS;go_simp
 (try simp only [lgA, lgC, aP, laA, lsA, lsB]);refine Aa (.pointer (some ⟨mp, 0, none⟩)) rfl rfl (fun W' hS => ?_) ?_
 ·clear hS;go_simp
 (try simp only [lgA, lgB, lgC, aP, laA, lsA, lsB]);refine Aa (.pointer (some ⟨mp, 0, none⟩)) rfl rfl (fun W' hS => ?_) ?_
 ·clear hS;go_simp
 (try simp only [lgA, lgB, lgC, aP, laA, lsA, lsB]);refine Aa (.map (some mb)) rfl rfl (fun W' hS => ?_) ?_
 ·obtain ⟨s0, s1, s2, s3, s4, s5, s6⟩ := Ag hS.1;clear hS;go_simp
 (try simp only [lgA, lgB, lgC, aP, laA, lsA, lsB]);refine Aa (.pointer (some ⟨w.heap.size, 1, none⟩)) rfl rfl (fun W' hS => ?_) ?_
 ·clear hS;go_simp
 (try simp only [lgA, lgB, lgC, aP, laA, lsA, lsB]);refine Aa (.string t) rfl rfl (fun W' hS => ?_) ?_
 ·obtain ⟨s0, s1, s2, s3, s4, s5, s6, s7, s8, s9, aV⟩ := five_facts hS.2.1;clear hS;go_simp
 (try simp only [lgA, lgB, lgC, aP, laA, lsA, lsB]);refine Aa (.tuple #[.agg #[.int .i64 0, .int .i64 0, .string ⟨#[]⟩, .slice none 0 0, .slice none 0 0], .bool false]) rfl rfl (fun W' hS => ?_) ?_
 ·have hl := bQ.out W' hS.2.2;clear hS;go_simp
 (try simp only [lgA, lgB, lgC, aP, laA, lsA, lsB]);refine Aa (.tuple #[.agg #[.int .i64 0, .int .i64 0, .string ⟨#[]⟩, .slice none 0 0, .slice none 0 0], .bool false]) rfl rfl (fun W' hS => ?_) ?_
 ·clear hS;go_simp
 (try simp only [lgA, lgB, lgC, aP, laA, lsA, lsB]);refine Aa (.agg #[.int .i64 0, .int .i64 0, .string ⟨#[]⟩, .slice none 0 0, .slice none 0 0]) rfl rfl (fun W' hS => ?_) ?_
 ·clear hS;go_simp
 (try simp only [lgA, lgB, lgC, aP, laA, lsA, lsB]);refine Aa (.bool false) rfl rfl (fun W' hS => ?_) ?_
 ·clear hS;go_simp
 (try simp only [lgA, lgB, lgC, aP, laA, lsA, lsB]);refine Ad rfl (fun Kx bB => ?_);go_wp2_with fail;have aH : Below Wd.heap.size Wd (Wd.alloc (.cells #[.int .i64 0, .int .i64 0, .string ⟨#[]⟩, .slice none 0 0, .slice none 0 0] 31)) := (Below.refl _ Wd).alloc (nlr _) _;refine bB _ _ (fun _ => ⟨(aH.block _ (aF.out.ok.ml _ aF.out.hm)).trans aN, (aH.block _ (by have := H5.out.size; omega)).trans H5.out.na, (aH.block _ (aF.out.ok.ml _ aF.out.hb)).trans aQ⟩) ?_;clear aH bB;(try simp only [lgA, lgB, lgC, aP, laA, lsA, lsB]);refine Ad rfl (fun Ky bC => ?_);go_wp2_with fail;have aH : ∀ o, Below Wd.heap.size Wd (Wd.alloc o) := fun o => (Below.refl _ Wd).alloc (nlr _) _;refine bC _ _ (fun _ => ⟨((aH _).block _ (aF.out.ok.ml _ aF.out.hm)).trans aN, ((aH _).block _ (by have := H5.out.size; omega)).trans H5.out.na, ((aH _).block _ (aF.out.ok.ml _ aF.out.hb)).trans aQ⟩) ?_;clear bC aH;(try simp only [lgA, lgB, lgC, aP, laA, lsA, lsB]);refine Aa (.bool false) rfl rfl (fun W' hS => ?_) ?_
 ·clear hS;go_simp
 refine Ak ?_;(try simp only [lgA, lgB, lgC, aP, laA, lsA, lsB]);have H6 := Lq7 (H5.out.below ((Below.refl _ Wd).alloc (nlr _) (.cells #[.int .i64 0, .int .i64 0, .string ⟨#[]⟩, .slice none 0 0, .slice none 0 0] 31)));generalize World.alloc _ _ = Wb at H6 ⊢;clear H5 aF aN aQ
 go_upto_region 11 with fail
 refine Ae (.s 0 (.s 1 (.s 2 (.s 3 (.h 4 (.h 5 .nil)))))) 99 (fun W' => W'.heap[w.heap.size]? = some (.cells #[.int .i64 9, .string t, .int .i64 l, .int .i64 k, .slice a kids.length cap] 59 (0, 0))) (by kernel_rfl) (by kernel_rfl) (fun c a d v w h => by cases d <;> exact h) H6.out.na ?_
 have H7 := Lq7 (H6.out.below ((Below.refl _ Wb).drew));generalize Wb.drew = Wd2 at H7 ⊢;clear H6;refine Aa (.agg #[.int .i64 0, .int .i64 0, .string ⟨#[]⟩, .slice none 0 0, .slice none 0 0]) rfl rfl (fun W' hS => ?_) ?_
 ·go_simp
 (try simp only [lgA, lgC, aP, laA, lsA, lsB]);refine Aa (.pointer (some ⟨w.heap.size, 2, none⟩)) rfl rfl (fun W' hS => ?_) ?_
 ·go_simp
 (try simp only [lgA, lgB, lgC, aP, laA, lsA, lsB]);refine Aa (.agg #[.int .i64 l, .int .i64 k]) rfl rfl (fun W' hS => ?_) ?_
 ·obtain ⟨s0, s1, s2, s3, s4, s5, s6, s7, s8, s9, aV⟩ := five_facts hS;clear hS;go_simp
 (try simp only [lgA, lgB, lgC, aP, laA, lsA, lsB]);refine Aa (.agg #[.int .i64 7, .int .i64 l, .int .i64 k]) rfl rfl (fun W' hS => ?_) ?_
 ·go_simp
 (try simp only [lgA, lgB, lgC, aP, laA, lsA, lsB]);obtain ⟨s0, s1, s2, s3, s4, s5, s6, s7, s8, s9, aV⟩ := five_facts H7.out.vb;refine Ad rfl (fun Kx bB => ?_);go_wp2_with fail;have H8 := Lq7 (H7.out.setV (.int .i64 0) (.int .i64 0) (.string ⟨#[]⟩) (.slice none 0 0) (.slice none 0 0));unfold Lw at H8;refine bB _ _ (fun _ => H8.out.na) ?_;generalize World.setCell _ _ _ = W8 at H8 ⊢;(try simp only [lgA, lgB, lgC, aP, laA, lsA, lsB]);clear s0 s1 s2 s3 s4 s5 s6 s7 s8 s9 aV bB H7;obtain ⟨d0, d1, d2, d3, d4, d5, d6⟩ := Ag H8.out.fc;refine Ad rfl (fun Ky bC => ?_);go_wp2_with fail;have H9 := Lq7 (H8.out.setF (.int .i64 7) (.int .i64 l) (.int .i64 k));unfold B8 at H9;refine bC _ _ (fun _ => H9.out.na) ?_;generalize World.setCell _ _ _ = W9 at H9 ⊢;refine Ak ?_;(try simp only [lgA, lgB, lgC, aP, laA, lsA, lsB]);clear d0 d1 d2 d3 d4 d5 d6 bC H8;obtain ⟨s0, s1, s2, s3, s4, s5, s6, s7, s8, s9, aV⟩ := five_facts H9.out.vb;obtain ⟨d0, d1, d2, d3, d4, d5, d6⟩ := Ag H9.out.fc;go_wp2_with fail;refine bodyPost_ret (v := badV 7 l k) (by simp [badV, zeroV, faultV, results, Tryz.results98, go_sem, s1, s2, s3, s4, s5, d1, d2, d3]) rfl ?_;exact ⟨_, H9.out.mv, rfl⟩
end Go.Proofs.YtcofbdjakicojaaGreatDoor
namespace Go.Proofs.YtcofbdjakicojaaGreatDoor
open Go Go.RowKit
open List renaming mem_cons_self → lmS, mem_cons_of_mem → lmO, getElem_toArray → lgA, getElem_cons_succ → lgB, getElem_cons_zero → lgC, setIfInBounds_toArray → laA, set_cons_zero → lsA, set_cons_succ → lsB, getElem?_eq_getElem → lgE, mem_of_getElem? → lgM, length_append → lnA
open Nat renaming lt_of_lt_of_le → nll, le_trans → nlt, le_refl → nlr, zero_le → nlz
open Go.Lib renaming hid → Lq7, toList_data → Lq8
open Go.Act renaming put → aP
set_option maxRecDepth 100000
set_option maxHeartbeats 16000000

def Ly (ex : Nd → EM Vl) (n : Nd) : EM Vl := EM.bind (F7 ex n.kids []) fun l => Gx (.mk 4 0 ⟨#[]⟩ l []) n.ln n.cl
theorem Rj {ans : Ans} {ex : Nd → EM Vl} {st : St} {kk l k : Int} {t : ByteArray} {kids : List Nd} (hle : st.left ≤ 0) : P0 ans ex (.mk kk t l k kids) st = .err 12 l k :=
 Bo (if_pos hle)
theorem eExpr_go {ans : Ans} {ex : Nd → EM Vl} {st : St} {kk l k : Int} {t : ByteArray} {kids : List Nd} (hle : ¬ st.left ≤ 0) : P0 ans ex (.mk kk t l k kids) st =
  (if kk = 9 then
   match Bh t with
   | some v => .ok v { st with left := st.left - 1 }
   | none => match Eb st.names t with
    | some v => .ok v { st with left := st.left - 1 }
    | none => .err 7 l k
  else if kk = 10 then match Kj t with
   | some x => .ok (.mk 2 x ⟨#[]⟩ [] []) { st with left := st.left - 1 }
   | none => .out
  else if kk = 12 then Ly ex (.mk kk t l k kids) { st with left := st.left - 1 }
  else if kk = 16 then eOp ex (.mk kk t l k kids) { st with left := st.left - 1 }
  else .out) :=
 C7 (if_neg hle)
theorem T6 {mp mb : Nat} {hv : HostK} {ex : Nd → EM Vl} (hl : Ea 131 mp mb hv (Ly ex)) (ho : Ea 134 mp mb hv (eOp ex)) (_hc : Ea 133 mp mb hv (eCall hv.ans ex)) :
  Ea 98 mp mb hv (P0 hv.ans ex) := by
 intro G c w st n v hm hG hn aC aB;obtain ⟨kk, t, l, k, kids⟩ := n;obtain ⟨a, cap, rfl, hr⟩ := hn.open;by_cases hle : st.left ≤ 0
 ·rw [Rj hle];exact T4 kk mp mb hv G c w st t l k kids a cap hm hG hle
 rw [eExpr_go hle] at aB ⊢;by_cases h9 : kk = 9
 ·subst h9;rw [if_pos rfl];cases hf : Bh t with
  | some x => exact Rh mp mb hv G c w st t l k kids a cap hm hG hr hle x hf
  | none =>
   rw [smallN] at aC;cases hx : Eb st.names t with
   | some x => exact Ri mp mb hv G c w st t l k kids a cap hm hG hr hle aC.1 hf x hx
   | none => exact Oi mp mb hv G c w st t l k kids a cap hm hG hr hle aC.1 hf hx
 rw [if_neg h9] at aB ⊢;by_cases h10 : kk = 10
 ·subst h10;rw [if_pos rfl] at aB ⊢;cases hx : Kj t with
  | none => rw [hx] at aB; exact absurd rfl aB
  | some x => exact expr_num mp mb hv G c w st t l k kids a cap hm hG hr hle x hx
 rw [if_neg h10] at aB ⊢;by_cases h12 : kk = 12
 ·subst h12;rw [if_pos rfl] at aB ⊢;exact T5 mp mb hv G c w st t l k kids a cap hm hG hr hle aC (Ly ex) hl aB
 rw [if_neg h12] at aB ⊢;by_cases h16 : kk = 16
 ·subst h16;rw [if_pos rfl] at aB ⊢;exact expr_op mp mb hv G c w st t l k kids a cap hm hG hr hle aC (eOp ex) ho aB
 rw [if_neg h16] at aB ⊢;exact absurd rfl aB
theorem Pw {l : List Vl} (h : ∀ x ∈ l, smallV x) : smallVs l := by
 induction l with
 | nil => rw [smallVs]; trivial
 | cons v t ih => rw [smallVs]; exact ⟨h v (lmS ..), ih fun x hx => h x (lmO _ hx)⟩
theorem MS.join {c c' : Ctx} {w w' : World} {mp mb : Nat} {hv hv' : HostK} {st st' : St} (h : MS c w mp mb hv st) (k : Mv c w c' w') (h' : MS c' w' mp mb hv' st') : MS (c'.with c.F) w' mp mb hv' st' :=
 h'.with fun b hb => ⟨nll (h.ok.fl b hb) k.size, fun hm => by
  rcases k.m b hm with h1 | h1
  ·exact h.ok.apart b hb h1
  ·have := h.ok.fl b hb; omega⟩
theorem Mv.join {c c' : Ctx} {w w' : World} (k : Mv c w c' w') : Mv c w (c'.with c.F) w' :=
 ⟨k.os, k.tape, k.output, k.size, k.block, k.m, fun b hb => by rcases hb with hb | hb; exact k.f b hb; exact .inl hb⟩
theorem Ah.join {c c' : Ctx} {w w' : World} (ok : c.Ok w) (k : Mv c w c' w') {ds : List Dat} {cs : List Value} (h : Ah c.F w ds cs) : Ah (c'.with c.F).F w' ds cs :=
 h.mono fun b hb hl => ⟨.inr hb, nll hl k.size, k.block b hl (ok.apart b hb)⟩
theorem XB.setO {c0 c : Ctx} {w W : World} {n v f : Array Value} (h : XB c0 w c W n v f) {b : Nat} (hb : w.heap.size + 3 ≤ b) (v0 v1 v2 : Value) : XB c0 w c (B8 W b v0 v1 v2) n v f := by
 unfold B8;exact ⟨((h.mv.set (.inl (by omega)) 0 _).set (.inl (by omega)) 1 _).set (.inl (by omega)) 2 _, by simpa using h.size, by rw [set_other (by omega), set_other (by omega), set_other (by omega)]; exact h.na, by rw [set_other (by omega), set_other (by omega), set_other (by omega)]; exact h.vb, by rw [set_other (by omega), set_other (by omega), set_other (by omega)]; exact h.fc, h.out⟩
theorem MS.setO {c : Ctx} {W : World} {mp mb : Nat} {hv : HostK} {st : St} (h : MS c W mp mb hv st) {b : Nat} (hb : ¬ c.M b ∧ ¬ c.F b) (v0 v1 v2 : Value) : MS c (B8 W b v0 v1 v2) mp mb hv st :=
 h.other (by unfold B8; simp) (fun k _ hMF => by
  have hne : k ≠ b := fun e => (by subst e; rcases hMF with h1 | h1; exact hb.1 h1; exact hb.2 h1);unfold B8;rw [set_other hne, set_other hne, set_other hne])
theorem Ah.setO {F : Nat → Prop} {W : World} {ds : List Dat} {cs : List Value} (h : Ah F W ds cs) {b : Nat} (hb : ¬ F b) (v0 v1 v2 : Value) : Ah F (B8 W b v0 v1 v2) ds cs :=
 h.mono fun k hF hl => ⟨hF, by unfold B8; simpa using hl, by
  have hne : k ≠ b := fun e => (by subst e; exact hb hF);unfold B8;rw [set_other hne, set_other hne, set_other hne]⟩
structure LI (mp mb : Nat) (hv : HostK) (G : Nat → Prop) (c0 : Ctx) (w : World) (node : Array Value) (a : Option Addr) (kids : List Nd) (c : Ctx) (W : World) (st : St) (L : Value) (acc : List Vl) : Prop where
 xb : XB c0 w c W node #[.int .i64 0, .int .i64 0, .string ⟨#[]⟩, .slice none 0 0, .slice none 0 0] #[.int .i64 0, .int .i64 0, .int .i64 0]
 sb : W.heap[w.heap.size + 1 + 1 + 1]? = some (.cells #[.int .i64 4, .int .i64 0, .string ⟨#[]⟩, L, .slice none 0 0] 31 (0, 0))
 so : ¬ c.M (w.heap.size + 1 + 1 + 1) ∧ ¬ c.F (w.heap.size + 1 + 1 + 1)
 own : OwnD c.F W (w.heap.size + 1 + 1 + 1 + 1) 31 5 L (valsD acc)
 oo : ∀ g, L.ownBlock = some g → ¬ c.M g ∧ ¬ c.F g
 ms : MS c W mp mb hv st
 g : GOk G c W
 g0 : ∀ b, G b → b < w.heap.size
 row : Ac G W a (nodesD kids)
 chk : ∀ x ∈ acc, checkV x = true
section
variable {mp mb : Nat} {hv : HostK} {G : Nat → Prop} {c0 c c' : Ctx} {w W W' : World} {node : Array Value} {a : Option Addr} {kids : List Nd} {st st' : St} {L : Value} {acc : List Vl}
theorem LI.below (h : LI mp mb hv G c0 w node a kids c W st L acc) (k : Below W.heap.size W W') : LI mp mb hv G c0 w node a kids c W' st L acc :=
 ⟨h.xb.below k, (k.block _ (Array.getElem?_eq_some_iff.1 h.sb).1).trans h.sb, h.so, h.own.below k, h.oo, h.ms.below k, h.g.mv (.of_below c k), h.g0, h.row.below k, h.chk⟩
theorem OwnD.wide {F G : Nat → Prop} {w : World} {base : Nat} {e : TypeId} {size : Nat} {v : Value} {l : List (List Dat)} (h : OwnD F w base e size v l) (hF : ∀ b, F b → G b) : OwnD G w base e size v l := by
 obtain ⟨css, h1, h2, h3, h4⟩ := h;exact ⟨css, h1, h2, h3, fun j ds cs h5 h6 => (h4 j ds cs h5 h6).wider fun b hb _ => ⟨hF b hb.1, hb.2⟩⟩
theorem LI.later (h : LI mp mb hv G c0 w node a kids c W st L acc) (k : Mv c W c' W') (h' : MS c' W' mp mb hv st') : LI mp mb hv G c0 w node a kids (c'.with c.F) W' st' L acc := by
 have aB := (Array.getElem?_eq_some_iff.1 h.sb).1;refine ⟨h.xb.later k.join, (k.block _ aB h.so.1).trans h.sb, ⟨fun hm => ?_, fun hm => ?_⟩, ?_, fun g hg => ⟨fun hm => ?_, fun hm => ?_⟩, h.ms.join k h', h.g.mv k.join, h.g0, h.row.gmv h.g k, h.chk⟩
 ·rcases k.m _ hm with h1 | h1
  ·exact h.so.1 h1
  ·omega
 ·rcases hm with hm | hm
  ·rcases k.f _ hm with h1 | h1
   ·exact h.so.2 h1
   ·omega
  ·exact h.so.2 hm
 ·refine OwnD.wide (F := c.F) (h.own.keep (fun b hl hb => k.block b hl ?_) k.size) fun b hb => .inr hb;rcases hb with hb | hb
  ·exact h.ms.ok.apart b hb
  ·exact (h.oo b hb).1
 ·rcases k.m _ hm with h1 | h1
  ·exact (h.oo g hg).1 h1
  ·have := (h.own.block_lt hg).2; omega
 ·rcases hm with hm | hm
  ·rcases k.f _ hm with h1 | h1
   ·exact (h.oo g hg).2 h1
   ·have := (h.own.block_lt hg).2; omega
  ·exact (h.oo g hg).2 hm
theorem LI.grown (h : LI mp mb hv G c0 w node a kids c W st L acc) {x : Vl} {L' : Value} (ho : OwnD c.F W' (w.heap.size + 1 + 1 + 1 + 1) 31 5 L' (valsD acc ++ [valD x])) (k : W.grownBy W' L.ownBlock) (hf : ∀ g, L'.ownBlock = some g → L.ownBlock = some g ∨ W.heap.size ≤ g) (hx : checkV x = true) :
  LI mp mb hv G c0 w node a kids c (W'.setCell ⟨w.heap.size + 1 + 1 + 1, 3, none⟩ L') st L' (acc ++ [x]) := by
 have aB := (Array.getElem?_eq_some_iff.1 h.sb).1;have aC : ∀ g, L.ownBlock = some g → w.heap.size + 1 + 1 + 1 + 1 ≤ g := fun g hg => (h.own.block_lt hg).1;have hws := h.xb.size;have h1 : ∀ b, b < w.heap.size + 3 → (W'.setCell ⟨w.heap.size + 1 + 1 + 1, 3, none⟩ L').heap[b]? = W.heap[b]? := fun b hb =>
  (set_other (by omega) 3 _).trans (k.block b (by omega) (fun e => by have := aC b e.symm; omega))
 have hMF : ∀ b, b < W.heap.size → (c.M b ∨ c.F b) → (W'.setCell ⟨w.heap.size + 1 + 1 + 1, 3, none⟩ L').heap[b]? = W.heap[b]? := fun b hb hm =>
  (set_other (fun e => by subst e; rcases hm with hm | hm; exact h.so.1 hm; exact h.so.2 hm) 3 _).trans (k.block b hb (fun e => by rcases hm with hm | hm; exact (h.oo b e.symm).1 hm; exact (h.oo b e.symm).2 hm))
 have hsz : W.heap.size ≤ (W'.setCell ⟨w.heap.size + 1 + 1 + 1, 3, none⟩ L').heap.size := (by simpa using k.size);refine ⟨⟨(h.xb.mv.own k (fun g hg => by have := aC g hg; omega)).set (.inl (by omega)) 3 _, nlt hws hsz, (h1 _ (by omega)).trans h.xb.na, (h1 _ (by omega)).trans h.xb.vb, (h1 _ (by omega)).trans h.xb.fc, h.xb.out⟩, ?_, h.so, ?_, fun g hg => ?_, h.ms.other hsz hMF, fun b hb => ⟨nll (h.g b hb).1 hsz, (h.g b hb).2⟩, h.g0, h.row.mono fun b hb hl => ⟨hb, nll hl hsz, h1 b (by have := h.g0 b hb; omega)⟩, fun y hy => ?_⟩
 ·rw [set_same ((k.block _ aB (fun e => by have := aC _ e.symm; omega)).trans h.sb) 3 L'];rfl
 ·rw [Ej];refine OwnD.keep (show OwnD c.F W' _ _ 5 L' (valsD acc ++ valsD [x]) by simpa [valsD] using ho) (fun b hb hm => set_other (fun e => by
   subst e;rcases hm with hm | hm
   ·exact h.so.2 hm
   ·have := (ho.block_lt hm).1; omega) 3 _) (by simp)
 ·rcases hf g hg with h2 | h2
  ·exact h.oo g h2
  ·exact ⟨fun hm => by have := h.ms.ok.ml g hm; omega, fun hm => by have := h.ms.ok.fl g hm; omega⟩
 ·rcases List.mem_append.1 hy with h2 | h2
  ·exact h.chk y h2
  ·rw [List.mem_singleton.1 h2]; exact hx
theorem LI.done (h : LI mp mb hv G c0 w node a kids c W st L acc) : XB c0 w (c.with fun b => L.ownBlock = some b) W node #[.int .i64 0, .int .i64 0, .string ⟨#[]⟩, .slice none 0 0, .slice none 0 0] #[.int .i64 0, .int .i64 0, .int .i64 0] ∧ MS (c.with fun b => L.ownBlock = some b) W mp mb hv st ∧
  ∃ aL capL, L = .slice aL acc.length capL ∧ Ah (c.with fun b => L.ownBlock = some b).F W (valD (.mk 4 0 ⟨#[]⟩ acc [])) [.int .i64 4, .int .i64 0, .string ⟨#[]⟩, .slice aL acc.length capL, .slice none 0 0] := by
 refine ⟨⟨h.xb.mv.with fun b hb => by have := (h.own.block_lt hb).1; omega, h.xb.size, h.xb.na, h.xb.vb, h.xb.fc, fun b h1 h2 => ⟨(h.xb.out b h1 h2).1, fun hm => ?_⟩⟩, h.ms.with fun b hb => ⟨(h.own.block_lt hb).2, (h.oo b hb).1⟩, ?_⟩
 ·rcases hm with hm | hm
  ·exact (h.xb.out b h1 h2).2 hm
  ·have := (h.own.block_lt hm).1; omega
 ·obtain ⟨aL, capL, hL, hr⟩ := (h.own.wide (G := (c.with fun b => L.ownBlock = some b).F) (fun b hb => .inl hb)).rowAt (fun g hg => .inr hg);rw [Az] at hL;exact ⟨aL, capL, hL, Ah.val_mk (l := acc) (ks := []) _ _ _ capL _ hr (Ac.nil _)⟩
end
theorem T7 {mp mb : Nat} {hv : HostK} {ex : Nd → EM Vl} (hnz : ∀ n st x y z, ex n st = .err x y z → x ≠ 0) (hx : Ea 98 mp mb hv ex) : Ea 131 mp mb hv (Ly ex) := by
 intro G c w st n v hm hG hn bZ bO;obtain ⟨kk, t, l, k, kids⟩ := n;obtain ⟨a, cap, rfl, hr⟩ := hn.open;obtain ⟨i0, hi, hz0, hz1, hz2⟩ := info_parts infoVal;rw [smallN] at bZ;obtain ⟨-, hlen, aQ⟩ := bZ;obtain ⟨h3a, h3b, h3c, cB, h3e⟩ := C4 w (.cells #[.int .i64 kk, .string t, .int .i64 l, .int .i64 k, .slice a kids.length cap] 59) (.cells #[.int .i64 0, .int .i64 0, .string ⟨#[]⟩, .slice none 0 0, .slice none 0 0] 31) (.cells #[.int .i64 0, .int .i64 0, .int .i64 0] 106);have H0 := XB.start hm.ok #[.int .i64 kk, .string t, .int .i64 l, .int .i64 k, .slice a kids.length cap] #[.int .i64 0, .int .i64 0, .string ⟨#[]⟩, .slice none 0 0, .slice none 0 0] #[.int .i64 0, .int .i64 0, .int .i64 0];have cC : LI mp mb hv G c w #[.int .i64 kk, .string t, .int .i64 l, .int .i64 k, .slice a kids.length cap] a kids c ((((w.alloc (.cells #[.int .i64 kk, .string t, .int .i64 l, .int .i64 k, .slice a kids.length cap] 59)).alloc (.cells #[.int .i64 0, .int .i64 0, .string ⟨#[]⟩, .slice none 0 0, .slice none 0 0] 31)).alloc (.cells #[.int .i64 0, .int .i64 0, .int .i64 0] 106)).alloc (.cells #[.int .i64 4, .int .i64 0, .string ⟨#[]⟩, .slice none 0 0, .slice none 0 0] 31)) st (.slice none 0 0) [] := by
  generalize ((w.alloc (.cells #[.int .i64 kk, .string t, .int .i64 l, .int .i64 k, .slice a kids.length cap] 59)).alloc (.cells #[.int .i64 0, .int .i64 0, .string ⟨#[]⟩, .slice none 0 0, .slice none 0 0] 31)).alloc (.cells #[.int .i64 0, .int .i64 0, .int .i64 0] 106) = W0 at *;have hb : Below w.heap.size w (W0.alloc (.cells #[.int .i64 4, .int .i64 0, .string ⟨#[]⟩, .slice none 0 0, .slice none 0 0] 31)) := cB.alloc (by omega) _;have hs0 : W0.heap.size = w.heap.size + 1 + 1 + 1 := (by omega);exact ⟨H0.below ((Below.refl _ W0).alloc (nlr _) _), by rw [← hs0]; exact heap_alloc_new W0 _, ⟨fun h => by have := hm.ok.ml _ h; omega, fun h => by have := hm.ok.fl _ h; omega⟩, OwnD.nil _ _ _ _ _, fun g hg => (by cases hg), hm.below hb, hG.mv (.of_below c hb), fun b h => (hG b h).1, hr.below hb, fun x h => (by cases h)⟩
 have HL := Lq7 cC;clear h3a h3b h3c cB h3e H0 cC hm hG hr hn;obtain ⟨res, aU⟩ : ∃ res, res = Ly ex (.mk kk t l k kids) st := ⟨_, rfl⟩;rw [← aU] at bO ⊢;have bP : Hid (res = EM.bind (F7 ex (kids.drop 0) []) (fun l' => Gx (.mk 4 0 ⟨#[]⟩ l' []) l k) st) := Lq7 aU;have cE := Lq7 bO;have aX := Lq7 aQ;have Hx := Lq7 hx;have Hnz := Lq7 hnz;clear aU bO aQ hx hnz;unfold ptr;go_enter Tryz.func131, Tryz.ntmps131;go_wp2_with fail;generalize World.alloc _ _ = W1 at HL ⊢
 go_loopw [15] (fun i wr => ∃ (j : Nat) (acc : List Vl) (L : Value) (c1 : Ctx) (aM : St), i = .int .i64 j ∧ j ≤ kids.length ∧ acc.length = j ∧ Hid (LI mp mb hv G c w #[.int .i64 kk, .string t, .int .i64 l, .int .i64 k, .slice a kids.length cap] a kids c1 wr aM L acc) ∧ Hid (res = EM.bind (F7 ex (kids.drop j) acc) (fun l' => Gx (.mk 4 0 ⟨#[]⟩ l' []) l k) aM)) (fun i _ => kids.length - (intOf i).toNat)
 case atStart => exact ⟨0, [], _, c, st, rfl, nlz _, rfl, HL, bP⟩
 case round =>
  obtain ⟨j, acc, L, c1, aM, rfl, hj, aY, hl, aZ⟩ := hrel;by_cases hlt : j < kids.length
  ·cases hk : kids[j] with
   | mk xk xt xl xc xs =>
    have bQ : kids[j]? = some (.mk xk xt xl xc xs) := (by rw [lgE hlt, hk]);have aF : kids.drop j = .mk xk xt xl xc xs :: kids.drop (j + 1) := (by rw [List.drop_eq_getElem_cons hlt, hk]);obtain ⟨b, off, a1, c1', hae, hF, hbl, r0, r1, r2, r3, r4, Hcp, cF⟩ := hl.out.row.nodeK bQ;have cG : ex (.mk xk xt xl xc xs) aM ≠ .out := fun h => cE.out (by rw [aZ.out, aF, F7, A1 (A1 h)]);have bA : Below wr.heap.size wr (wr.alloc (.cells #[.int .i64 xk, .string xt, .int .i64 xl, .int .i64 xc, .slice a1 xs.length c1'] 59)) := (Below.refl _ wr).alloc (nlr _) _;have Hc := Lq7 (Hx.out G c1 _ aM (.mk xk xt xl xc xs) _ (hl.out.ms.below bA) (hl.out.g.mv (.of_below c1 bA)) (Au.mk _ _ _ _ c1' (cF.below bA)) (smallNs_mem aX.out (lgM bQ)) cG);have bB := Lq7 (hl.out.below bA);have bC : Hid (res = EM.bind (EM.bind (ex (.mk xk xt xl xc xs)) fun x => F7 ex (kids.drop (j + 1)) (acc ++ [x])) (fun l' => Gx (.mk 4 0 ⟨#[]⟩ l' []) l k) aM) := Lq7 (by rw [aZ.out, aF]; rfl);unfold ptr at Hc;clear hk bQ aF cG bA cF aZ hF;subst hae;go_wp2_with fail;refine Hc.out.mono ?_;rintro e w2 ⟨c2, bG, hq⟩;clear r0 r1 r2 r3 r4 Hc;cases hxx : ex (.mk xk xt xl xc xs) aM with
    | out => exact absurd hxx (fun h => cE.out (by rw [bC.out, A1 (A1 h)]))
    | err x y z =>
     rw [hxx] at hq;obtain rfl := hq;have aG : Hid (res = .err x y z) := Lq7 (by rw [bC.out, Bo (Bo hxx)]);have hxz := Hnz.out _ _ _ _ _ hxx;have hxz' : (x == 0) = false := (by simpa using hxz);have H1 := Lq7 (bB.out.xb.later bG);clear hxx bC bB hl bG;unfold badV zeroV faultV
     go_upto_region 7 with fail
     have cH : Below w2.heap.size w2 ((w2.alloc (.cells #[.int .i64 0, .int .i64 0, .string ⟨#[]⟩, .slice none 0 0, .slice none 0 0] 31)).alloc (.cells #[.int .i64 x, .int .i64 y, .int .i64 z] 106)) := ((Below.refl _ w2).alloc (nlr _) _).alloc (by simp) _;have Hf := Lq7 (heap_alloc_new (w2.alloc (.cells #[.int .i64 0, .int .i64 0, .string ⟨#[]⟩, .slice none 0 0, .slice none 0 0] 31)) (.cells #[.int .i64 x, .int .i64 y, .int .i64 z] 106));rw [show (w2.alloc (.cells #[.int .i64 0, .int .i64 0, .string ⟨#[]⟩, .slice none 0 0, .slice none 0 0] 31)).heap.size = w2.heap.size + 1 by simp] at Hf;have H2 := Lq7 (H1.out.below cH);have hsz := H1.out.size;generalize World.alloc (World.alloc _ _) _ = W at H2 Hf ⊢;generalize hfb : w2.heap.size + 1 = fb at Hf hsz ⊢;have hsz : w.heap.size + 3 ≤ fb := (by omega);clear cH H1 hfb;refine Ae (.s 0 (.s 1 (.h 2 (.h 3 .nil)))) 99 (fun W' => W'.heap[fb]? = some (.cells #[.int .i64 x, .int .i64 y, .int .i64 z] 106 (0, 0))) (by kernel_rfl) (by kernel_rfl) (fun c a d v w h => by cases d <;> exact h) Hf.out ?_
     have H5 := Lq7 (H2.out.below ((Below.refl _ W).drew));have bR : Hid (W.drew.heap[fb]? = some (.cells #[.int .i64 x, .int .i64 y, .int .i64 z] 106 (0, 0))) := Lq7 Hf.out;generalize W.drew = Wd at H5 bR ⊢;clear H2 Hf;refine Aa (.agg #[.int .i64 0, .int .i64 0, .string ⟨#[]⟩, .slice none 0 0, .slice none 0 0]) rfl rfl (fun W' hS => ?_) ?_
     ·go_simp
     (try simp only [lgA, lgC, aP, laA, lsA, lsB]);refine Aa (.agg #[.int .i64 x, .int .i64 y, .int .i64 z]) rfl rfl (fun W' hS => ?_) ?_
     ·obtain ⟨s0, s1, s2, s3, s4, s5, s6⟩ := Ag hS;clear hS;go_simp
     (try simp only [lgA, lgB, lgC, aP, laA, lsA, lsB]);obtain ⟨s0, s1, s2, s3, s4, s5, s6, s7, s8, s9, bS⟩ := five_facts H5.out.vb;refine Ad rfl (fun Kx cI => ?_);go_wp2_with fail;have H6 := Lq7 (H5.out.setV (.int .i64 0) (.int .i64 0) (.string ⟨#[]⟩) (.slice none 0 0) (.slice none 0 0));have bH := Lq7 ((set5_other (W := Wd) (b := w.heap.size + 1) (k := fb) (by omega) (.int .i64 0) (.int .i64 0) (.string ⟨#[]⟩) (.slice none 0 0) (.slice none 0 0)).trans bR.out);unfold Lw at H6;refine cI _ _ (fun _ => bH.out) ?_;generalize World.setCell _ _ _ = W6 at H6 bH ⊢;(try simp only [lgA, lgB, lgC, aP, laA, lsA, lsB]);clear s0 s1 s2 s3 s4 s5 s6 s7 s8 s9 bS cI H5 bR;obtain ⟨d0, d1, d2, d3, d4, d5, d6⟩ := Ag H6.out.fc;refine Ad rfl (fun Ky cJ => ?_);go_wp2_with fail;have H7 := Lq7 (H6.out.setF (.int .i64 x) (.int .i64 y) (.int .i64 z));unfold B8 at H7;refine cJ _ _ (fun _ => ((((set_other (by omega) 2 _).trans (set_other (by omega) 1 _)).trans (set_other (by omega) 0 _)).trans bH.out)) ?_;generalize World.setCell _ _ _ = W7 at H7 ⊢;refine Ak ?_;(try simp only [lgA, lgB, lgC, aP, laA, lsA, lsB]);clear d0 d1 d2 d3 d4 d5 d6 cJ H6 bH;obtain ⟨s0, s1, s2, s3, s4, s5, s6, s7, s8, s9, bS⟩ := five_facts H7.out.vb;obtain ⟨d0, d1, d2, d3, d4, d5, d6⟩ := Ag H7.out.fc;go_wp2_with fail;refine bodyPost_ret (v := badV x y z) (by simp [badV, zeroV, faultV, results, Tryz.results131, go_sem, s1, s2, s3, s4, s5, d1, d2, d3]) rfl ?_;rw [aG.out];exact ⟨_, H7.out.mv, rfl⟩
    | ok x st2 =>
     rw [hxx] at hq;subst aY;obtain ⟨bD, v2, rfl, cs, rfl, aV, aJ⟩ := hq;obtain ⟨yk, yn, ys, yl, yks⟩ := x;obtain ⟨aL, capL, hL, -⟩ := (bB.out.own.wide (G := fun _ => True) (fun _ _ => trivial)).rowAt (fun _ _ => trivial);rw [Az] at hL;subst hL;have bI := bB.out.later bG bD;have bE : Ah (c2.with c1.F).F w2 (valD (.mk yk yn ys yl yks)) cs := aV.wider (fun b h _ => .inl h);obtain ⟨b1, e1, b2, e2, rfl, -, -⟩ := aV.val;have aE : Hid (res = EM.bind (F7 ex (kids.drop (acc.length + 1)) (acc ++ [.mk yk yn ys yl yks])) (fun l' => Gx (.mk 4 0 ⟨#[]⟩ l' []) l k) st2) := Lq7 (by rw [bC.out]; simp [EM.bind, hxx]);have bU : Below w2.heap.size w2 (((w2.alloc (.cells #[.int .i64 yk, .int .i64 yn, .string ys, .slice b1 yl.length e1, .slice b2 yks.length e2] 31)).alloc (.cells #[.int .i64 0, .int .i64 0, .int .i64 0] 106)).alloc (.cells #[.int .i64 yk, .int .i64 yn, .string ys, .slice b1 yl.length e1, .slice b2 yks.length e2] 31)) := (((Below.refl _ w2).alloc (nlr _) _).alloc (by simp) _).alloc (by simp; omega) _;have aW := Lq7 (bI.below bU);have aH := Er ((w2.alloc (.cells #[.int .i64 yk, .int .i64 yn, .string ys, .slice b1 yl.length e1, .slice b2 yks.length e2] 31)).alloc (.cells #[.int .i64 0, .int .i64 0, .int .i64 0] 106)) [.int .i64 yk, .int .i64 yn, .string ys, .slice b1 yl.length e1, .slice b2 yks.length e2] 31;rw [show ((w2.alloc (.cells #[.int .i64 yk, .int .i64 yn, .string ys, .slice b1 yl.length e1, .slice b2 yks.length e2] 31)).alloc (.cells #[.int .i64 0, .int .i64 0, .int .i64 0] 106)).heap.size = w2.heap.size + 1 + 1 by simp] at aH;have aR := Lq7 aH;have aN := Lq7 ((bE.below bU).wider (G := fun b => (c2.with c1.F).F b ∧ (Value.slice aL acc.length capL).ownBlock ≠ some b) (fun b h _ => ⟨h, fun e => (bI.oo b e).2 h⟩));have bV := Lq7 aJ;have bF := Lq7 bI.sb;clear hxx bC bB hl bG bD aV aJ bI bE aH bU;obtain ⟨q0, q1, q2, q3, q4, q5, q6, q7, q8, q9, bJ⟩ := five_facts bF.out;have q01 : w.heap.size + 1 + 1 < w2.heap.size := (by omega);have q02 : w.heap.size + 1 < w2.heap.size := (by omega);unfold faultV
     go_wp2_with (at_builtin; refine A6 rfl _ _ 28 rfl (w.heap.size + 1 + 1 + 1 + 1) 31 i0 _ 5 80 Tryz.underlying28 hi hz0 hz1 hz2 rfl (by decide) (.slice aL acc.length capL) (c2.with c1.F).F (valsD acc) rfl aW.out.own ⟨w2.heap.size + 1 + 1, 0, none⟩ 1 (valD (.mk yk yn ys yl yks)) [.int .i64 yk, .int .i64 yn, .string ys, .slice b1 yl.length e1, .slice b2 yks.length e2] rfl rfl aR.out ?_ aN.out ?_ ?_ ?_ ?_)
     ·simp [Value.oneCell']
     ·rw [Az]; unfold maxLen; omega
     ·rw [Az]; omega
     ·have := (Array.getElem?_eq_some_iff.1 aW.out.sb).1; omega
     intro v3 w3 aI aB aC;obtain ⟨a3, cap3, cM, -⟩ := (aI.wide (G := fun _ => True) (fun _ _ => trivial)).rowAt (fun _ _ => trivial);rw [lnA, Az, List.length_singleton] at cM;subst cM;have Hl4 := Lq7 (aW.out.grown aI aB (fun g hg => (aC g hg).imp id (fun h => by simpa using h)) bV.out);have bW := Lq7 ((aB.block _ (Array.getElem?_eq_some_iff.1 aW.out.sb).1 (fun e => by have := (aW.out.own.block_lt e.symm).1; omega)).trans aW.out.sb);clear q0 q01 q02 q1 q2 q3 q4 q5 q6 q7 q8 q9 bJ aI aB aC aW aR aN bF;obtain ⟨q0, q1, q2, q3, q4, q5, q6, q7, q8, q9, bJ⟩ := five_facts bW.out;go_wp2_with fail;go_roundw
     case rel => exact ⟨acc.length + 1, acc ++ [.mk yk yn ys yl yks], _, _, st2, by go_num, by omega, by simp, Hl4, aE⟩
     case measure => simp only [intOf]; omega
  ·subst aY;have cN : kids.drop acc.length = [] := List.drop_eq_nil_of_le (by omega);have aE : Hid (res = Gx (.mk 4 0 ⟨#[]⟩ acc []) l k aM) := Lq7 (by rw [aZ.out, cN]; rfl);obtain ⟨bX, bL, aL, capL, hL, bM⟩ := hl.out.done;have bY := bL.ok;have bF := Lq7 hl.out.sb;have cP : smallV (.mk 4 0 ⟨#[]⟩ acc []) := by
    rw [smallV];exact ⟨⟨by decide, rfl⟩, by omega, by simp, by simp, Pw fun x hx => Bf (hl.out.chk x hx)⟩
   generalize hc2 : c1.with (fun b => L.ownBlock = some b) = c2 at bX bL bM bY;subst hL;have Hm := Lq7 (made_any _ cP c2.F _ l k wr bY.fl bM);have H1 := Lq7 bX;have cQ := Lq7 bL;have cR := Lq7 bM;clear cN aZ hl bX bL bM bY cP hc2;obtain ⟨r0, r1, r2, r3, r4, r5, r6, r7, r8, r9, r10⟩ := five_facts H1.out.na;obtain ⟨q0, q1, q2, q3, q4, q5, q6, q7, q8, q9, bJ⟩ := five_facts bF.out;go_wp2_with fail;refine Hm.out.mono ?_;rintro e w2 ⟨bN, rfl⟩;have H3 := Lq7 (H1.out.below bN);have Hm3 := Lq7 (cQ.out.below bN);have aN := Lq7 (cR.out.below bN);clear bN H1 cQ cR Hm bF r0 r1 r2 r3 r4 r5 r6 r7 r8 r9 r10 q0 q1 q2 q3 q4 q5 q6 q7 q8 q9 bJ;obtain ⟨s0, s1, s2, s3, s4, s5, s6, s7, s8, s9, bS⟩ := five_facts H3.out.vb;obtain ⟨d0, d1, d2, d3, d4, d5, d6⟩ := Ag H3.out.fc;by_cases aJ : checkV (.mk 4 0 ⟨#[]⟩ acc []) = true
   ·rw [if_pos aJ];have bV := Lq7 aJ;have aG : Hid (res = .ok (.mk 4 0 ⟨#[]⟩ acc []) aM) := Lq7 (by rw [aE.out]; unfold Gx; rw [if_pos aJ]; rfl);unfold faultV;clear aJ aE;go_wp2_with fail;refine bodyPost_ret (v := .tuple #[.agg #[.int .i64 4, .int .i64 0, .string ⟨#[]⟩, .slice aL acc.length capL, .slice none 0 0], faultV 0 0 0]) (by simp [faultV, results, Tryz.results131, go_sem, s1, s2, s3, s4, s5, d1, d2, d3]) rfl ?_;have H4 := H3.out.setV (.int .i64 4) (.int .i64 0) (.string ⟨#[]⟩) (.slice aL acc.length capL) (.slice none 0 0);have Hm4 := H3.out.msV Hm3.out (.int .i64 4) (.int .i64 0) (.string ⟨#[]⟩) (.slice aL acc.length capL) (.slice none 0 0);have Ha4 := H3.out.aggV aN.out (.int .i64 4) (.int .i64 0) (.string ⟨#[]⟩) (.slice aL acc.length capL) (.slice none 0 0);rw [aG.out];exact ⟨c2, (H4.setF (.int .i64 0) (.int .i64 0) (.int .i64 0)).mv, H4.msF Hm4 (.int .i64 0) (.int .i64 0) (.int .i64 0), _, rfl, [_, _, _, _, _], rfl, H4.aggF Ha4 (.int .i64 0) (.int .i64 0) (.int .i64 0), bV.out⟩
   ·rw [if_neg aJ];have aG : Hid (res = .err 6 l k) := Lq7 (by rw [aE.out]; unfold Gx; rw [if_neg aJ]; rfl);unfold badV zeroV faultV;clear aJ aE;go_wp2_with fail;refine bodyPost_ret (v := badV 6 l k) (by simp [badV, zeroV, faultV, results, Tryz.results131, go_sem, s1, s2, s3, s4, s5, d1, d2, d3]) rfl ?_;rw [aG.out];exact ⟨c2, ((H3.out.setV (.int .i64 0) (.int .i64 0) (.string ⟨#[]⟩) (.slice none 0 0) (.slice none 0 0)).setF (.int .i64 6) (.int .i64 l) (.int .i64 k)).mv, rfl⟩
theorem op_does {mp mb : Nat} {hv : HostK} {ex : Nd → EM Vl} (hnz : ∀ n st x y z, ex n st = .err x y z → x ≠ 0) (hx : Ea 98 mp mb hv ex) : Ea 134 mp mb hv (eOp ex) := by
 intro G c w st n v hm hG hn bX bY;obtain ⟨kk, t, l, k, kids⟩ := n;obtain ⟨a, cap, rfl, hr⟩ := hn.open;by_cases ht : t.data.toList = [43]
 case neg => exact absurd (by unfold eOp; rw [if_neg (show ¬ (Nd.text (.mk kk t l k kids)).data.toList = [43] from ht)]; rfl) bY
 obtain ⟨res, aQ⟩ : ∃ res, res = eOp ex (.mk kk t l k kids) st := ⟨_, rfl⟩;rw [← aQ] at bY ⊢;have aE : Hid (res = EM.bind (ex (Ck (.mk kk t l k kids) 0)) (fun a => EM.bind (ex (Ck (.mk kk t l k kids) 1)) fun b => eSum a b l k) st) := Lq7 (by rw [aQ]; unfold eOp; rw [if_pos (show (Nd.text (.mk kk t l k kids)).data.toList = [43] from ht)]; rfl);have bL := Lq7 bY;have Hx := Lq7 hx;have dI := Lq7 hnz;have Ht := Lq7 ht;have cF := Lq7 (Ep bX 0);have cG := Lq7 (Ep bX 1);have hlen : kids.length ≤ 140737488355328 := (by rw [smallN] at bX; omega);have cH := Lq7 hlen;have hnot : (t.toList == [110, 111, 116]) = false := (by rw [Lq8, ht]; rfl);have bZ := (C4 w (.cells #[.int .i64 kk, .string t, .int .i64 l, .int .i64 k, .slice a kids.length cap] 59) (.cells #[.int .i64 0, .int .i64 0, .string ⟨#[]⟩, .slice none 0 0, .slice none 0 0] 31) (.cells #[.int .i64 0, .int .i64 0, .int .i64 0] 106)).2.2.2.1;have H0 := Lq7 (XB.start hm.ok #[.int .i64 kk, .string t, .int .i64 l, .int .i64 k, .slice a kids.length cap] #[.int .i64 0, .int .i64 0, .string ⟨#[]⟩, .slice none 0 0, .slice none 0 0] #[.int .i64 0, .int .i64 0, .int .i64 0]);have dJ := Lq7 (hm.below bZ);have dK := Lq7 (hG.mv (.of_below c bZ));have cI := Lq7 (hr.below bZ);have Hk : Hid (Calls Tryz.prog 99 #[.agg #[.int .i64 kk, .string t, .int .i64 l, .int .i64 k, .slice a kids.length cap], .int .i64 0] (((w.alloc (.cells #[.int .i64 kk, .string t, .int .i64 l, .int .i64 k, .slice a kids.length cap] 59)).alloc (.cells #[.int .i64 0, .int .i64 0, .string ⟨#[]⟩, .slice none 0 0, .slice none 0 0] 31)).alloc (.cells #[.int .i64 0, .int .i64 0, .int .i64 0] 106)) (PKid G (Ck (.mk kk t l k kids) 0) (((w.alloc (.cells #[.int .i64 kk, .string t, .int .i64 l, .int .i64 k, .slice a kids.length cap] 59)).alloc (.cells #[.int .i64 0, .int .i64 0, .string ⟨#[]⟩, .slice none 0 0, .slice none 0 0] 31)).alloc (.cells #[.int .i64 0, .int .i64 0, .int .i64 0] 106)))) := Lq7 (Ja G kk t l k kids a cap 0 _ (by omega) (by omega) hlen cI.out);generalize hx0 : Ck (.mk kk t l k kids) 0 = x0 at Hk cF aE;generalize dL : Ck (.mk kk t l k kids) 1 = x1 at cG aE;have Hx1 := Lq7 dL;clear aQ bY hx hnz ht bX hlen bZ hm hG hr hn hx0 dL;unfold ptr;go_enter Tryz.func134, Tryz.ntmps134;go_wp2_with fail;refine Hk.out.mono ?_;rintro e w1 ⟨v1, rfl, dM, aM⟩;have H1 := Lq7 (H0.out.below aM);have cJ := Lq7 (cI.out.below aM);have bM := Lq7 (dK.out.mv (.of_below c aM));have bN : ex x0 st ≠ .out := fun h => bL.out (by rw [aE.out, A1 h]);have Hc := Lq7 (Hx.out G c w1 st x0 v1 (dJ.out.below aM) bM.out dM cF.out bN);unfold ptr at Hc;clear aM dM bN Hk H0 dJ dK cI cF;go_wp2_with fail;refine Hc.out.mono ?_;rintro e w2 ⟨c2, bE, hq⟩;clear Hc;cases hxx : ex x0 st with
 | out => exact absurd hxx (fun h => bL.out (by rw [aE.out, A1 h]))
 | err x y z =>
  rw [hxx] at hq;obtain rfl := hq;have aF : Hid (res = .err x y z) := Lq7 (by rw [aE.out, Bo hxx]);have cM := dI.out _ _ _ _ _ hxx;have hxz' : (x == 0) = false := (by simpa using cM);have H2' := Lq7 (H1.out.later bE);clear hxx aE H1 bE cJ bM;unfold badV zeroV faultV
  go_upto_region 3 with fail
  have aM : Below w2.heap.size w2 ((w2.alloc (.cells #[.int .i64 0, .int .i64 0, .string ⟨#[]⟩, .slice none 0 0, .slice none 0 0] 31)).alloc (.cells #[.int .i64 x, .int .i64 y, .int .i64 z] 106)) := ((Below.refl _ w2).alloc (nlr _) _).alloc (by simp) _;have Hf := Lq7 (heap_alloc_new (w2.alloc (.cells #[.int .i64 0, .int .i64 0, .string ⟨#[]⟩, .slice none 0 0, .slice none 0 0] 31)) (.cells #[.int .i64 x, .int .i64 y, .int .i64 z] 106));rw [show (w2.alloc (.cells #[.int .i64 0, .int .i64 0, .string ⟨#[]⟩, .slice none 0 0, .slice none 0 0] 31)).heap.size = w2.heap.size + 1 by simp] at Hf;have H2 := Lq7 (H2'.out.below aM);have hsz := H2'.out.size;generalize World.alloc (World.alloc _ _) _ = W at H2 Hf ⊢;generalize hfb : w2.heap.size + 1 = fb at Hf hsz ⊢;have hsz : w.heap.size + 3 ≤ fb := (by omega);clear aM H2' hfb;refine Ae (.s 0 (.s 1 (.h 2 (.h 3 .nil)))) 99 (fun W' => W'.heap[fb]? = some (.cells #[.int .i64 x, .int .i64 y, .int .i64 z] 106 (0, 0))) (by kernel_rfl) (by kernel_rfl) (fun c a d v w h => by cases d <;> exact h) Hf.out ?_
  have H5 := Lq7 (H2.out.below ((Below.refl _ W).drew));have aR : Hid (W.drew.heap[fb]? = some (.cells #[.int .i64 x, .int .i64 y, .int .i64 z] 106 (0, 0))) := Lq7 Hf.out;generalize W.drew = Wd at H5 aR ⊢;clear H2 Hf;refine Aa (.agg #[.int .i64 0, .int .i64 0, .string ⟨#[]⟩, .slice none 0 0, .slice none 0 0]) rfl rfl (fun W' hS => ?_) ?_
  ·go_simp
  (try simp only [lgA, lgC, aP, laA, lsA, lsB]);refine Aa (.agg #[.int .i64 x, .int .i64 y, .int .i64 z]) rfl rfl (fun W' hS => ?_) ?_
  ·obtain ⟨s0, s1, s2, s3, s4, s5, s6⟩ := Ag hS;clear hS;go_simp
  (try simp only [lgA, lgB, lgC, aP, laA, lsA, lsB]);obtain ⟨s0, s1, s2, s3, s4, s5, s6, s7, s8, s9, bF⟩ := five_facts H5.out.vb;refine Ad rfl (fun Kx bO => ?_);go_wp2_with fail;have H6 := Lq7 (H5.out.setV (.int .i64 0) (.int .i64 0) (.string ⟨#[]⟩) (.slice none 0 0) (.slice none 0 0));have aI := Lq7 ((set5_other (W := Wd) (b := w.heap.size + 1) (k := fb) (by omega) (.int .i64 0) (.int .i64 0) (.string ⟨#[]⟩) (.slice none 0 0) (.slice none 0 0)).trans aR.out);unfold Lw at H6;refine bO _ _ (fun _ => aI.out) ?_;generalize World.setCell _ _ _ = W6 at H6 aI ⊢;(try simp only [lgA, lgB, lgC, aP, laA, lsA, lsB]);clear s0 s1 s2 s3 s4 s5 s6 s7 s8 s9 bF bO H5 aR;obtain ⟨d0, d1, d2, d3, d4, d5, d6⟩ := Ag H6.out.fc;refine Ad rfl (fun Ky bP => ?_);go_wp2_with fail;have H7 := Lq7 (H6.out.setF (.int .i64 x) (.int .i64 y) (.int .i64 z));unfold B8 at H7;refine bP _ _ (fun _ => ((((set_other (by omega) 2 _).trans (set_other (by omega) 1 _)).trans (set_other (by omega) 0 _)).trans aI.out)) ?_;generalize World.setCell _ _ _ = W7 at H7 ⊢;refine Ak ?_;(try simp only [lgA, lgB, lgC, aP, laA, lsA, lsB]);clear d0 d1 d2 d3 d4 d5 d6 bP H6 aI;obtain ⟨s0, s1, s2, s3, s4, s5, s6, s7, s8, s9, bF⟩ := five_facts H7.out.vb;obtain ⟨d0, d1, d2, d3, d4, d5, d6⟩ := Ag H7.out.fc;go_wp2_with fail;refine bodyPost_ret (v := badV x y z) (by simp [badV, zeroV, faultV, results, Tryz.results134, go_sem, s1, s2, s3, s4, s5, d1, d2, d3]) rfl ?_;rw [aF.out];exact ⟨_, H7.out.mv, rfl⟩
 | ok xa st2 =>
  rw [hxx] at hq;obtain ⟨aJ, v2, rfl, cs, rfl, aU, bQ⟩ := hq;have aB : Hid (res = EM.bind (ex x1) (fun b => eSum xa b l k) st2) := Lq7 (by rw [aE.out, C7 hxx]);obtain ⟨yk, yn, ys, yl, yks⟩ := xa;obtain ⟨b1, e1, b2, e2, rfl, -, -⟩ := aU.val;have bG : Below w2.heap.size w2 ((w2.alloc (.cells #[.int .i64 yk, .int .i64 yn, .string ys, .slice b1 yl.length e1, .slice b2 yks.length e2] 31)).alloc (.cells #[.int .i64 0, .int .i64 0, .int .i64 0] 106)) := ((Below.refl _ w2).alloc (nlr _) _).alloc (by simp) _;have bR := Lq7 ((Below.heap_alloc _ _ _ (by simp)).trans (heap_alloc_new w2 (.cells #[.int .i64 yk, .int .i64 yn, .string ys, .slice b1 yl.length e1, .slice b2 yks.length e2] 31)) : ((w2.alloc (.cells #[.int .i64 yk, .int .i64 yn, .string ys, .slice b1 yl.length e1, .slice b2 yks.length e2] 31)).alloc (.cells #[.int .i64 0, .int .i64 0, .int .i64 0] 106)).heap[w2.heap.size]? = _);have bH := Lq7 (heap_alloc_new (w2.alloc (.cells #[.int .i64 yk, .int .i64 yn, .string ys, .slice b1 yl.length e1, .slice b2 yks.length e2] 31)) (.cells #[.int .i64 0, .int .i64 0, .int .i64 0] 106));rw [show (w2.alloc (.cells #[.int .i64 yk, .int .i64 yn, .string ys, .slice b1 yl.length e1, .slice b2 yks.length e2] 31)).heap.size = w2.heap.size + 1 by simp] at bH;have cN := H1.out.later bE;have H2 := Lq7 (cN.below bG);have cP := Lq7 (aJ.below bG);have aV := Lq7 (aU.below bG);have cQ := Lq7 ((bM.out.mv bE).mv (.of_below c2 bG));have cR := Lq7 ((cJ.out.gmv bM.out bE).below bG);have bI : Hid (w.heap.size + 3 ≤ w2.heap.size ∧ ∀ b, w2.heap.size ≤ b → ¬ c2.M b ∧ ¬ c2.F b) := Lq7 ⟨cN.size, fun b hb => ⟨fun h => by have := aJ.ok.ml b h; omega, fun h => by have := aJ.ok.fl b h; omega⟩⟩;have Hcka := Lq7 bQ;clear hxx aE H1 bE cJ bM aJ aU bQ bG cN;unfold faultV
  go_upto_region 4 with fail
  generalize World.alloc (World.alloc _ _) _ = W at H2 cP aV cQ cR bR bH ⊢;generalize cU : w2.heap.size + 1 = fb at bH ⊢;generalize bJ : w2.heap.size = b6 at bR bI cU ⊢;have bS := Lq7 (And.intro cU bJ);have Hk : Hid (Calls Tryz.prog 99 #[.agg #[.int .i64 kk, .string t, .int .i64 l, .int .i64 k, .slice a kids.length cap], .int .i64 1] W (PKid G x1 W)) := Lq7 (by rw [← Hx1.out]; exact Ja G kk t l k kids a cap 1 _ (by omega) (by omega) cH.out cR.out);clear cU bJ;obtain ⟨r0, r1, r2, r3, r4, r5, r6, r7, r8, r9, cV⟩ := five_facts H2.out.na;go_wp2_with fail;refine Hk.out.mono ?_;rintro e w3 ⟨v3, rfl, dN, aW⟩;have H3 := Lq7 (H2.out.below aW);have bU := Lq7 (cP.out.below aW);have bV := Lq7 (aV.out.below aW);have dO := Lq7 (cQ.out.mv (.of_below c2 aW));have cW := Lq7 ((aW.block _ (Array.getElem?_eq_some_iff.1 bR.out).1).trans bR.out);have cB := Lq7 ((aW.block _ (Array.getElem?_eq_some_iff.1 bH.out).1).trans bH.out);have bN : ex x1 st2 ≠ .out := fun h => bL.out (by rw [aB.out, A1 h]);have Hc := Lq7 (Hx.out G c2 w3 st2 x1 v3 bU.out dO.out dN cG.out bN);unfold ptr at Hc;clear aW dN bN Hk H2 cP aV cQ cR cG bR bH r0 r1 r2 r3 r4 r5 r6 r7 r8 r9 cV;go_wp2_with fail;refine Hc.out.mono ?_;rintro e w4 ⟨c4, aC, hq⟩;have H4 := Lq7 (H3.out.later aC.join);have aX := Lq7 (bV.out.join bU.out.ok aC);have cC := Lq7 ((aC.block _ (Array.getElem?_eq_some_iff.1 cW.out).1 (bI.out.2 _ (by have := bS.out; omega)).1).trans cW.out);have aY := Lq7 ((aC.block _ (Array.getElem?_eq_some_iff.1 cB.out).1 (bI.out.2 _ (by have := bS.out; omega)).1).trans cB.out);have aN : Hid (w.heap.size + 3 ≤ fb ∧ ¬ (c4.with c2.F).M fb ∧ ¬ (c4.with c2.F).F fb) := Lq7 (by
   have h1 := bI.out.1;have h2 := bS.out;have h3 := bI.out.2 fb (by omega);have h4 := (Array.getElem?_eq_some_iff.1 cB.out).1;exact ⟨by omega, fun h => by rcases aC.m _ h with h | h; exact h3.1 h; omega, fun h => by rcases h with h | h; (rcases aC.f _ h with h | h; exact h3.2 h; omega); exact h3.2 h⟩)
  clear Hc cW cB dO bV bI;cases hxx : ex x1 st2 with
  | out => exact absurd hxx (fun h => bL.out (by rw [aB.out, A1 h]))
  | err x y z =>
   rw [hxx] at hq;obtain rfl := hq;have aF : Hid (res = .err x y z) := Lq7 (by rw [aB.out, Bo hxx]);have cM := dI.out _ _ _ _ _ hxx;have hxz' : (x == 0) = false := (by simpa using cM);clear hxx aB aC bU H3 aX;obtain ⟨p0, p1, p2, p3, p4, p5, p6⟩ := Ag aY.out;unfold badV zeroV faultV
   go_upto_region 8 with fail
   have cX := (H4.out.setO aN.out.1 (.int .i64 x) (.int .i64 y) (.int .i64 z)).below ((Below.refl _ _).alloc (nlr _) (.cells #[.int .i64 0, .int .i64 0, .string ⟨#[]⟩, .slice none 0 0, .slice none 0 0] 31));have cY : ((B8 w4 fb (.int .i64 x) (.int .i64 y) (.int .i64 z)).alloc (.cells #[.int .i64 0, .int .i64 0, .string ⟨#[]⟩, .slice none 0 0, .slice none 0 0] 31)).heap[fb]? = some (.cells #[.int .i64 x, .int .i64 y, .int .i64 z] 106 (0, 0)) := by
    rw [Below.heap_alloc _ _ _ (by unfold B8; simpa using p0)];unfold B8;rw [set_same (set_same (set_same aY.out 0 (.int .i64 x)) 1 (.int .i64 y)) 2 (.int .i64 z)];rfl
   unfold B8 at cX cY;have H2 := Lq7 cX;have Hf := Lq7 cY;have hsz := aN.out.1;generalize World.alloc _ _ = W' at H2 Hf ⊢;clear cX cY p0 p1 p2 p3 p4 p5 p6 H4 aY aN cC;refine Ae (.s 0 (.s 1 (.h 2 (.h 3 .nil)))) 99 (fun WW => WW.heap[fb]? = some (.cells #[.int .i64 x, .int .i64 y, .int .i64 z] 106 (0, 0))) (by kernel_rfl) (by kernel_rfl) (fun c a d v w h => by cases d <;> exact h) Hf.out ?_
   have H5 := Lq7 (H2.out.below ((Below.refl _ W').drew));have aR : Hid (W'.drew.heap[fb]? = some (.cells #[.int .i64 x, .int .i64 y, .int .i64 z] 106 (0, 0))) := Lq7 Hf.out;generalize W'.drew = Wd at H5 aR ⊢;clear H2 Hf;refine Aa (.agg #[.int .i64 0, .int .i64 0, .string ⟨#[]⟩, .slice none 0 0, .slice none 0 0]) rfl rfl (fun W' hS => ?_) ?_
   ·go_simp
   (try simp only [lgA, lgC, aP, laA, lsA, lsB]);refine Aa (.agg #[.int .i64 x, .int .i64 y, .int .i64 z]) rfl rfl (fun W' hS => ?_) ?_
   ·obtain ⟨s0, s1, s2, s3, s4, s5, s6⟩ := Ag hS;clear hS;go_simp
   (try simp only [lgA, lgB, lgC, aP, laA, lsA, lsB]);obtain ⟨s0, s1, s2, s3, s4, s5, s6, s7, s8, s9, bF⟩ := five_facts H5.out.vb;refine Ad rfl (fun Kx bO => ?_);go_wp2_with fail;have H6 := Lq7 (H5.out.setV (.int .i64 0) (.int .i64 0) (.string ⟨#[]⟩) (.slice none 0 0) (.slice none 0 0));have aI := Lq7 ((set5_other (W := Wd) (b := w.heap.size + 1) (k := fb) (by omega) (.int .i64 0) (.int .i64 0) (.string ⟨#[]⟩) (.slice none 0 0) (.slice none 0 0)).trans aR.out);unfold Lw at H6;refine bO _ _ (fun _ => aI.out) ?_;generalize World.setCell _ _ _ = W6 at H6 aI ⊢;(try simp only [lgA, lgB, lgC, aP, laA, lsA, lsB]);clear s0 s1 s2 s3 s4 s5 s6 s7 s8 s9 bF bO H5 aR;obtain ⟨d0, d1, d2, d3, d4, d5, d6⟩ := Ag H6.out.fc;refine Ad rfl (fun Ky bP => ?_);go_wp2_with fail;have H7 := Lq7 (H6.out.setF (.int .i64 x) (.int .i64 y) (.int .i64 z));unfold B8 at H7;refine bP _ _ (fun _ => ((((set_other (by omega) 2 _).trans (set_other (by omega) 1 _)).trans (set_other (by omega) 0 _)).trans aI.out)) ?_;generalize World.setCell _ _ _ = W7 at H7 ⊢;refine Ak ?_;(try simp only [lgA, lgB, lgC, aP, laA, lsA, lsB]);clear d0 d1 d2 d3 d4 d5 d6 bP H6 aI;obtain ⟨s0, s1, s2, s3, s4, s5, s6, s7, s8, s9, bF⟩ := five_facts H7.out.vb;obtain ⟨d0, d1, d2, d3, d4, d5, d6⟩ := Ag H7.out.fc;go_wp2_with fail;refine bodyPost_ret (v := badV x y z) (by simp [badV, zeroV, faultV, results, Tryz.results134, go_sem, s1, s2, s3, s4, s5, d1, d2, d3]) rfl ?_;rw [aF.out];exact ⟨_, H7.out.mv, rfl⟩
  | ok xb st4 =>
   rw [hxx] at hq;obtain ⟨bW, v4, rfl, cs4, rfl, aG, cZ⟩ := hq;have aH : Hid (res = eSum (.mk yk yn ys yl yks) xb l k st4) := Lq7 (by rw [aB.out, C7 hxx]);have aZ : (B9 (.mk yk yn ys yl yks) && B9 xb) = true := by
    cases hs : (B9 (.mk yk yn ys yl yks) && B9 xb)
    ·exact absurd (by rw [aH.out]; unfold eSum; rw [hs]; rfl) bL.out
    ·rfl
   have aF : Hid (res = .ok (.mk 2 (yn + xb.num) ⟨#[]⟩ [] []) st4) := Lq7 (by rw [aH.out]; unfold eSum; rw [if_pos aZ]; rfl);rw [Bool.and_eq_true] at aZ;obtain ⟨zk, zn, zs, zl, zks⟩ := xb;have hin : inR (yn + zn) = true := small_in aZ.1 aZ.2;obtain ⟨b3, e3, b4, e4, rfl, -, -⟩ := aG.val;have bA := ((bU.out.join aC bW).setO aN.out.2 (.int .i64 0) (.int .i64 0) (.int .i64 0)).below ((Below.refl _ _).alloc (nlr _) (.cells #[.int .i64 zk, .int .i64 zn, .string zs, .slice b3 zl.length e3, .slice b4 zks.length e4] 31));have bB := (H4.out.setO aN.out.1 (.int .i64 0) (.int .i64 0) (.int .i64 0)).below ((Below.refl _ _).alloc (nlr _) (.cells #[.int .i64 zk, .int .i64 zn, .string zs, .slice b3 zl.length e3, .slice b4 zks.length e4] 31));have bC := (aX.out.setO aN.out.2.2 (.int .i64 0) (.int .i64 0) (.int .i64 0)).below ((Below.refl _ _).alloc (nlr _) (.cells #[.int .i64 zk, .int .i64 zn, .string zs, .slice b3 zl.length e3, .slice b4 zks.length e4] 31));have bD := ((aG.wider (G := (c4.with c2.F).F) (fun b h _ => .inl h)).setO aN.out.2.2 (.int .i64 0) (.int .i64 0) (.int .i64 0)).below ((Below.refl _ _).alloc (nlr _) (.cells #[.int .i64 zk, .int .i64 zn, .string zs, .slice b3 zl.length e3, .slice b4 zks.length e4] 31));have dA : ((B8 w4 fb (.int .i64 0) (.int .i64 0) (.int .i64 0)).alloc (.cells #[.int .i64 zk, .int .i64 zn, .string zs, .slice b3 zl.length e3, .slice b4 zks.length e4] 31)).heap[b6]? = some (.cells #[.int .i64 yk, .int .i64 yn, .string ys, .slice b1 yl.length e1, .slice b2 yks.length e2] 31 (0, 0)) := by
    have h1 := bS.out;rw [Below.heap_alloc _ _ _ (by unfold B8; simpa using (Array.getElem?_eq_some_iff.1 cC.out).1)];unfold B8;rw [set_other (by omega), set_other (by omega), set_other (by omega)];exact cC.out
   have dB : ((B8 w4 fb (.int .i64 0) (.int .i64 0) (.int .i64 0)).alloc (.cells #[.int .i64 zk, .int .i64 zn, .string zs, .slice b3 zl.length e3, .slice b4 zks.length e4] 31)).heap[fb]? = some (.cells #[.int .i64 0, .int .i64 0, .int .i64 0] 106 (0, 0)) := by
    rw [Below.heap_alloc _ _ _ (by unfold B8; simpa using (Array.getElem?_eq_some_iff.1 aY.out).1)];unfold B8;rw [set_same (set_same (set_same aY.out 0 (.int .i64 0)) 1 (.int .i64 0)) 2 (.int .i64 0)];rfl
   have dC : ((B8 w4 fb (.int .i64 0) (.int .i64 0) (.int .i64 0)).alloc (.cells #[.int .i64 zk, .int .i64 zn, .string zs, .slice b3 zl.length e3, .slice b4 zks.length e4] 31)).heap[w4.heap.size]? = some (.cells #[.int .i64 zk, .int .i64 zn, .string zs, .slice b3 zl.length e3, .slice b4 zks.length e4] 31 (0, 0)) := by
    have := heap_alloc_new (B8 w4 fb (.int .i64 0) (.int .i64 0) (.int .i64 0)) (.cells #[.int .i64 zk, .int .i64 zn, .string zs, .slice b3 zl.length e3, .slice b4 zks.length e4] 31)
    rwa [show (B8 w4 fb (.int .i64 0) (.int .i64 0) (.int .i64 0)).heap.size = w4.heap.size by unfold B8; simp] at this
   unfold B8 at bA bB bC bD dA dB dC;have H5 := Lq7 bB;have cE := Lq7 bA;have dD := Lq7 bC;have dE := Lq7 bD;have dF := Lq7 dA;have dG := Lq7 dB;have dH := Lq7 dC;obtain ⟨p0, p1, p2, p3, p4, p5, p6⟩ := Ag aY.out;clear bA bB bC bD dA dB dC hxx aB aH aC bU H3 aX bW aG cZ;unfold faultV
   go_upto_region 7 with fail
   generalize World.alloc _ _ = W' at H5 cE dD dE dF dG dH ⊢;have dP : Hid (Calls Tryz.prog 157 #[.string t, .agg #[.int .i64 yk, .int .i64 yn, .string ys, .slice b1 yl.length e1, .slice b2 yks.length e2], .agg #[.int .i64 zk, .int .i64 zn, .string zs, .slice b3 zl.length e3, .slice b4 zks.length e4]] W' (PSum (yn + zn) W')) := Lq7 (op_small t Ht.out (.mk yk yn ys yl yks) (.mk zk zn zs zl zks) aZ.1 aZ.2 (c4.with c2.F).F _ _ W' cE.out.ok.fl dD.out dE.out);have aF : Hid (res = .ok (.mk 2 (yn + zn) ⟨#[]⟩ [] []) st4) := aF;clear aZ p0 p1 p2 p3 p4 p5 p6 dD dE H4 aY cC aN bS;obtain ⟨p0, p1, p2, p3, p4, p5, p6⟩ := Ag dG.out;obtain ⟨q0, q1, q2, q3, q4, q5, q6, q7, q8, q9, q10⟩ := five_facts dF.out;obtain ⟨u0, u1, u2, u3, u4, u5, u6, u7, u8, u9, u10⟩ := five_facts dH.out;obtain ⟨r0, r1, r2, r3, r4, r5, r6, r7, r8, r9, cV⟩ := five_facts H5.out.na;go_wp2_with fail;refine dP.out.mono ?_;rintro e w6 ⟨rfl, bJ⟩;have H6 := Lq7 (H5.out.below bJ);have Hm6 := Lq7 (cE.out.below bJ);unfold Lv;clear bJ H5 cE dF dG dH dP p0 p1 p2 p3 p4 p5 p6 q0 q1 q2 q3 q4 q5 q6 q7 q8 q9 q10 u0 u1 u2 u3 u4 u5 u6 u7 u8 u9 u10 r0 r1 r2 r3 r4 r5 r6 r7 r8 r9 cV;obtain ⟨s0, s1, s2, s3, s4, s5, s6, s7, s8, s9, bF⟩ := five_facts H6.out.vb;obtain ⟨d0, d1, d2, d3, d4, d5, d6⟩ := Ag H6.out.fc;go_wp2_with fail;refine bodyPost_ret (v := .tuple #[.agg #[.int .i64 2, .int .i64 (yn + zn), .string ⟨#[]⟩, .slice none 0 0, .slice none 0 0], faultV 0 0 0]) (by simp [faultV, results, Tryz.results134, go_sem, s0, s1, s2, s3, s4, s5, d0, d1, d2, d3]) rfl ?_;have H7 := H6.out.setV (.int .i64 2) (.int .i64 (yn + zn)) (.string ⟨#[]⟩) (.slice none 0 0) (.slice none 0 0);have Hm7 := H6.out.msV Hm6.out (.int .i64 2) (.int .i64 (yn + zn)) (.string ⟨#[]⟩) (.slice none 0 0) (.slice none 0 0);have H8 := H7.setF (.int .i64 0) (.int .i64 0) (.int .i64 0);have Hm8 := H7.msF Hm7 (.int .i64 0) (.int .i64 0) (.int .i64 0);have dQ := fun (W : World) => (Below.refl _ W).alloc (nlr _) (.cells #[.int .i64 2, .int .i64 (yn + zn), .string ⟨#[]⟩, .slice none 0 0, .slice none 0 0] 31);rw [aF.out];exact ⟨_, (H8.below (dQ _)).mv, Hm8.below (dQ _), _, rfl, [_, _, _, _, _], rfl, Ah.val_mk (l := []) (ks := []) _ _ _ _ _ (Ac.nil _) (Ac.nil _), Lx (yn + zn) hin⟩
structure KI (mp mb : Nat) (hv : HostK) (G : Nat → Prop) (c0 : Ctx) (w : World) (node : Array Value) (a : Option Addr) (kids : List Nd) (ct : ByteArray) (cl cc : Int) (c : Ctx) (W : World) (st : St) (L : Value) (acc : List (ByteArray × Vl)) : Prop where
 xb : XB c0 w c W node #[.int .i64 0, .int .i64 0, .string ⟨#[]⟩, .slice none 0 0, .slice none 0 0] #[.int .i64 0, .int .i64 0, .int .i64 0]
 sb : W.heap[w.heap.size + 1 + 1 + 1]? = some (.cells #[.string ct, L, .int .i64 cl, .int .i64 cc] 26 (0, 0))
 so : ¬ c.M (w.heap.size + 1 + 1 + 1) ∧ ¬ c.F (w.heap.size + 1 + 1 + 1)
 own : OwnD c.F W (w.heap.size + 1 + 1 + 1 + 1) 33 6 L (Aw acc)
 oo : ∀ g, L.ownBlock = some g → ¬ c.M g ∧ ¬ c.F g
 ms : MS c W mp mb hv st
 g : GOk G c W
 g0 : ∀ b, G b → b < w.heap.size
 row : Ac G W a (nodesD kids)
 chk : ∀ x ∈ acc, checkV x.2 = true
section
variable {mp mb : Nat} {hv : HostK} {G : Nat → Prop} {c0 c c' : Ctx} {w W W' : World} {node : Array Value} {a : Option Addr} {kids : List Nd} {st st' : St} {L : Value} {acc : List (ByteArray × Vl)} {ct : ByteArray} {cl cc : Int}
theorem KI.below (h : KI mp mb hv G c0 w node a kids ct cl cc c W st L acc) (k : Below W.heap.size W W') : KI mp mb hv G c0 w node a kids ct cl cc c W' st L acc :=
 ⟨h.xb.below k, (k.block _ (Array.getElem?_eq_some_iff.1 h.sb).1).trans h.sb, h.so, h.own.below k, h.oo, h.ms.below k, h.g.mv (.of_below c k), h.g0, h.row.below k, h.chk⟩
theorem KI.later (h : KI mp mb hv G c0 w node a kids ct cl cc c W st L acc) (k : Mv c W c' W') (h' : MS c' W' mp mb hv st') : KI mp mb hv G c0 w node a kids ct cl cc (c'.with c.F) W' st' L acc := by
 have aB := (Array.getElem?_eq_some_iff.1 h.sb).1;refine ⟨h.xb.later k.join, (k.block _ aB h.so.1).trans h.sb, ⟨fun hm => ?_, fun hm => ?_⟩, ?_, fun g hg => ⟨fun hm => ?_, fun hm => ?_⟩, h.ms.join k h', h.g.mv k.join, h.g0, h.row.gmv h.g k, h.chk⟩
 ·rcases k.m _ hm with h1 | h1
  ·exact h.so.1 h1
  ·omega
 ·rcases hm with hm | hm
  ·rcases k.f _ hm with h1 | h1
   ·exact h.so.2 h1
   ·omega
  ·exact h.so.2 hm
 ·refine OwnD.wide (F := c.F) (h.own.keep (fun b hl hb => k.block b hl ?_) k.size) fun b hb => .inr hb;rcases hb with hb | hb
  ·exact h.ms.ok.apart b hb
  ·exact (h.oo b hb).1
 ·rcases k.m _ hm with h1 | h1
  ·exact (h.oo g hg).1 h1
  ·have := (h.own.block_lt hg).2; omega
 ·rcases hm with hm | hm
  ·rcases k.f _ hm with h1 | h1
   ·exact (h.oo g hg).2 h1
   ·have := (h.own.block_lt hg).2; omega
  ·exact (h.oo g hg).2 hm
theorem KI.grown (h : KI mp mb hv G c0 w node a kids ct cl cc c W st L acc) {x : ByteArray × Vl} {L' : Value} (ho : OwnD c.F W' (w.heap.size + 1 + 1 + 1 + 1) 33 6 L' (Aw acc ++ [D8 x])) (k : W.grownBy W' L.ownBlock) (hf : ∀ g, L'.ownBlock = some g → L.ownBlock = some g ∨ W.heap.size ≤ g) (hx : checkV x.2 = true) :
  KI mp mb hv G c0 w node a kids ct cl cc c (W'.setCell ⟨w.heap.size + 1 + 1 + 1, 1, none⟩ L') st L' (acc ++ [x]) := by
 have aB := (Array.getElem?_eq_some_iff.1 h.sb).1;have aC : ∀ g, L.ownBlock = some g → w.heap.size + 1 + 1 + 1 + 1 ≤ g := fun g hg => (h.own.block_lt hg).1;have hws := h.xb.size;have h1 : ∀ b, b < w.heap.size + 3 → (W'.setCell ⟨w.heap.size + 1 + 1 + 1, 1, none⟩ L').heap[b]? = W.heap[b]? := fun b hb =>
  (set_other (by omega) 1 _).trans (k.block b (by omega) (fun e => by have := aC b e.symm; omega))
 have hMF : ∀ b, b < W.heap.size → (c.M b ∨ c.F b) → (W'.setCell ⟨w.heap.size + 1 + 1 + 1, 1, none⟩ L').heap[b]? = W.heap[b]? := fun b hb hm =>
  (set_other (fun e => by subst e; rcases hm with hm | hm; exact h.so.1 hm; exact h.so.2 hm) 1 _).trans (k.block b hb (fun e => by rcases hm with hm | hm; exact (h.oo b e.symm).1 hm; exact (h.oo b e.symm).2 hm))
 have hsz : W.heap.size ≤ (W'.setCell ⟨w.heap.size + 1 + 1 + 1, 1, none⟩ L').heap.size := (by simpa using k.size);refine ⟨⟨(h.xb.mv.own k (fun g hg => by have := aC g hg; omega)).set (.inl (by omega)) 1 _, nlt hws hsz, (h1 _ (by omega)).trans h.xb.na, (h1 _ (by omega)).trans h.xb.vb, (h1 _ (by omega)).trans h.xb.fc, h.xb.out⟩, ?_, h.so, ?_, fun g hg => ?_, h.ms.other hsz hMF, fun b hb => ⟨nll (h.g b hb).1 hsz, (h.g b hb).2⟩, h.g0, h.row.mono fun b hb hl => ⟨hb, nll hl hsz, h1 b (by have := h.g0 b hb; omega)⟩, fun y hy => ?_⟩
 ·rw [set_same ((k.block _ aB (fun e => by have := aC _ e.symm; omega)).trans h.sb) 1 L'];rfl
 ·rw [G0];refine OwnD.keep (show OwnD c.F W' _ _ 6 L' (Aw acc ++ Aw [x]) by simpa [Aw] using ho) (fun b hb hm => set_other (fun e => by
   subst e;rcases hm with hm | hm
   ·exact h.so.2 hm
   ·have := (ho.block_lt hm).1; omega) 1 _) (by simp)
 ·rcases hf g hg with h2 | h2
  ·exact h.oo g h2
  ·exact ⟨fun hm => by have := h.ms.ok.ml g hm; omega, fun hm => by have := h.ms.ok.fl g hm; omega⟩
 ·rcases List.mem_append.1 hy with h2 | h2
  ·exact h.chk y h2
  ·rw [List.mem_singleton.1 h2]; exact hx
theorem KI.done (h : KI mp mb hv G c0 w node a kids ct cl cc c W st L acc) : XB c0 w (c.with fun b => L.ownBlock = some b) W node #[.int .i64 0, .int .i64 0, .string ⟨#[]⟩, .slice none 0 0, .slice none 0 0] #[.int .i64 0, .int .i64 0, .int .i64 0] ∧ MS (c.with fun b => L.ownBlock = some b) W mp mb hv st ∧
  ∃ aL capL, L = .slice aL acc.length capL ∧ Ac (c.with fun b => L.ownBlock = some b).F W aL (Aw acc) := by
 refine ⟨⟨h.xb.mv.with fun b hb => by have := (h.own.block_lt hb).1; omega, h.xb.size, h.xb.na, h.xb.vb, h.xb.fc, fun b h1 h2 => ⟨(h.xb.out b h1 h2).1, fun hm => ?_⟩⟩, h.ms.with fun b hb => ⟨(h.own.block_lt hb).2, (h.oo b hb).1⟩, ?_⟩
 ·rcases hm with hm | hm
  ·exact (h.xb.out b h1 h2).2 hm
  ·have := (h.own.block_lt hm).1; omega
 ·obtain ⟨aL, capL, hL, hr⟩ := (h.own.wide (G := (c.with fun b => L.ownBlock = some b).F) (fun b hb => .inl hb)).rowAt (fun g hg => .inr hg);rw [Gz] at hL;exact ⟨aL, capL, hL, hr⟩
end
theorem Fe {P : Program} {ops : Array Oper} {Q : Exit → Act → World → Prop} {o : Oper} {rest : List Oper} {a : Act} {w : World} {r x : Operand} {m : String} {ats : Array TypeId} {f : FuncId} {args : Array Value} {v arg : Value} {PP : Ending → World → Prop}
  (ho : o.op = .call { callee := .invoke r m, args := #[x], argTypes := ats }) (hg : Region.wanted o (yielded ops a.tmps) = true) (hr : a.eval r = v) (hx : a.eval x = arg)
  (hi : (invoke (.fn (.method m) #[]) #[v, arg]).run P w = .ok (.enter f args) w) (hc : Calls P f args w PP) (hp : ∀ e w', PP e w' → ∃ u, e = .returned u ∧ wpList P ops Q rest (a.put o.dst u) w') : wpList P ops Q (o :: rest) a w := by
 rw [wpList, if_pos hg];refine .inl ?_;unfold Oper.wp;have he : (execOp a.eval o).run P w = .ok (.enter f args) w := by
  rw [← hi, ← hr, ← hx];obtain ⟨dst, op, ty, pos, aft, gd⟩ := o;simp only at ho;subst ho;simp [execOp, resolve]
 rw [he, Oper.upon_enter];exact hc.mono fun e w' h => by
  obtain ⟨u, rfl, h2⟩ := hp e w' h;exact h2
theorem Ah.rows {F : Nat → Prop} {w : World} {k n : Int} {s : ByteArray} {l : List Vl} {ks : List ByteArray} {b1 b2 : Option Addr} {e1 e2 : Nat} (h : Ah F w (valD (.mk k n s l ks)) [.int .i64 k, .int .i64 n, .string s, .slice b1 l.length e1, .slice b2 ks.length e2]) : Ac F w b1 (valsD l) ∧ Ac F w b2 (Aq ks) := by
 obtain ⟨a, c, a', c', he, h1, h2⟩ := h.val;simp only [List.cons.injEq, Value.slice.injEq] at he;obtain ⟨-, -, -, ⟨rfl, -, -⟩, ⟨rfl, -, -⟩, -⟩ := he;exact ⟨h1, h2⟩
def Pz (fn : Nat) (rv : Value) (mp mb : Nat) (hv : HostK) : Prop :=
 ∀ (c : Ctx) (w : World) (st : St) (q : Ask) (a : Option Addr) (cap : Nat), MS c w mp mb hv st → Ac c.F w a (Aw q.args) → (∀ x ∈ q.args, checkV x.2 = true) → hv.ans st.log q ≠ none →
  Calls Tryz.prog fn #[rv, .agg #[.string q.name, .slice a q.args.length cap, .int .i64 q.ln, .int .i64 q.cl]] w (fun e w' => ∃ c', Mv c w c' w' ∧ MS c' w' mp mb hv { st with log := st.log ++ [q] } ∧ match hv.ans st.log q with
   | some (.ok x) => ∃ cs : List Value, e = .returned (.tuple #[.agg cs.toArray, .int .i64 0]) ∧ Ah c'.F w' (valD x) cs ∧ smallV x
   | some (.error y) => e = .returned (.tuple #[zeroV, .int .i64 y]) ∧ y ≠ 0
   | none => True)
def HInv (fn : Nat) (rv : Value) (hv : HostK) : Prop := ∀ (arg : Value) (w : World), (invoke (.fn (.method "Call") #[]) #[hv.val, arg]).run Tryz.prog w = .ok (.enter fn #[rv, arg]) w
theorem Ub {mp mb : Nat} {hv : HostK} {ex : Nd → EM Vl} {fn : Nat} {rv : Value} (_hdo : Pz fn rv mp mb hv) (_hin : HInv fn rv hv) (_hnz : ∀ n st x y z, ex n st = .err x y z → x ≠ 0) (_hx : Ea 98 mp mb hv ex) : Ea 133 mp mb hv (eCall hv.ans ex) := fun _ _ _ _ _ _ _ _ _ _ hne => absurd rfl hne
end Go.Proofs.YtcofbdjakicojaaGreatDoor
