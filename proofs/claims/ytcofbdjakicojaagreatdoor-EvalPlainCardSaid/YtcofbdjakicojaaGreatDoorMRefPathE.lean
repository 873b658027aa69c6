/-
  The walks of path.Ext, of the stem, and of the plain host's calls that give a part of a path.
  The walk of the plain host's calls that give a part of a path. (Printed by part_gen.py.)
  The walks of the document's Base and Ext.
-/
import Derived.Test.YtcofbdjakicojaaGreatDoorMRefMay
import Derived.Test.YtcofbdjakicojaaGreatDoorMRefBulk
import Derived.Test.YtcofbdjakicojaaGreatDoorCalls
import Derived.Test.YtcofbdjakicojaaGreatDoorMHeldSkip
import Derived.Test.YtcofbdjakicojaaGreatDoorShelf
namespace Go.Proofs.YtcofbdjakicojaaGreatDoor
open Go Go.RowKit
open Nat renaming zero_le → nlz, le_refl → nlr, zero_mul → nzm, add_zero → naz
open Go.Lib renaming hid → Lq7
open List renaming getElem_toArray → lgA, getElem_cons_succ → lgB, getElem_cons_zero → lgC, setIfInBounds_toArray → laA, set_cons_zero → lsA, set_cons_succ → lsB, getElem?_eq_getElem → lgE, length_map → lnM
open Go.Act renaming put → aP
set_option maxRecDepth 100000
set_option maxHeartbeats 16000000
theorem baseOf_le (s : ByteArray) : (baseOf s.data.toList).length ≤ s.size := by
 have hl : s.data.toList.length = s.size := rfl;cases hok : Ay s.data.toList with
 | false => rw [(O3 hok).2]; exact nlz _
 | true =>
  rcases last_cutP s with ⟨e, hc⟩ | ⟨i, hi, e, hc⟩
  ·rw [(Ql hok hc).2]; omega
  ·rw [(Tf hok hc).2, List.length_drop]; omega
def extB (b : List UInt8) : List UInt8 := if 0 < Lib.lastIndexByte (toBs b) 46 then b.drop (Lib.lastIndexByte (toBs b) 46).toNat else []
def extOf (s : List UInt8) : List UInt8 := extB (baseOf s)
def Cf (s : List UInt8) : List UInt8 := Lib.trimSuffix (baseOf s) (extOf s)
theorem Te (s : ByteArray) (w : World) (hs : s.size < 4294967281) :
  Calls Tryz.prog 235 #[.string s] w (Dp (extOf s.data.toList) w) := by
 have HC := Lq7 (Mb s w hs);have aE := baseOf_le s;have Hx : Hid (extOf s.data.toList = extB (baseOf s.data.toList)) := Lq7 rfl;go_enter Tryz.func235, Tryz.ntmps235;go_wp2_with fail;refine HC.out.mono ?_;rintro e w1 ⟨b, rfl, hb, aB⟩;have hbs : b.size ≤ s.size := (by have : b.data.toList.length = b.size := rfl; rw [hb] at this; omega);rw [← hb] at Hx;have aG := Lq7 aB;have aF := Lib.lastIndexByte_spec b 46;clear aB HC hb aE;go_wp2_with fail;refine (Tryz.strings_LastIndexByte b 46 (by omega) _).mono ?_;rintro e' w2 ⟨rfl, hw⟩;have hw := hw.symm;subst hw;have aC : Hid (extOf s.data.toList = if 0 < Lib.lastIndexByte b 46 then b.data.toList.drop (Lib.lastIndexByte b 46).toNat else []) := Lq7 Hx.out;generalize Lib.lastIndexByte b 46 = k at aF aC;have hk2 : k ≤ b.size := by rcases aF with ⟨e, -⟩ | ⟨i, hi, e, -⟩ <;> omega
 clear aF;by_cases hk : 0 < k
 ·obtain ⟨i, rfl⟩ : ∃ i : Nat, k = i := ⟨k.toNat, by omega⟩;rw [if_pos hk] at aC;go_wp2_with fail;go_ret;exact ⟨_, rfl, by rw [aC.out, Ek]; simp, aG.out⟩
 ·rw [if_neg hk] at aC;go_wp2_with fail;go_ret;exact ⟨_, rfl, aC.out.symm, aG.out⟩
theorem stem_any (s : ByteArray) (w : World) (hs : s.size < 4294967281) :
  Calls Tryz.prog 232 #[.string s] w (Dp (Cf s.data.toList) w) := by
 have HC := Lq7 (Mb s w hs);have HE := Lq7 (fun W => Te s W hs);have aE := baseOf_le s;go_enter Tryz.func232, Tryz.ntmps232;go_wp2_with fail;refine HC.out.mono ?_;rintro e w1 ⟨b, rfl, hb, aB⟩;have hbs : b.size ≤ s.size := (by have : b.data.toList.length = b.size := rfl; rw [hb] at this; omega);have H1 := Lq7 (And.intro hb aB);clear aB HC hb aE;go_wp2_with fail;refine (HE.out _).mono ?_;rintro e w2 ⟨x, rfl, hx, aH⟩;have H2 := Lq7 (And.intro hx (H1.out.2.trans (aH.mono H1.out.2.size)));clear aH hx HE;go_wp2_with fail;refine (Tryz.strings_TrimSuffix b x _ (by omega)).mono ?_;rintro e' w3 ⟨rfl, hw⟩;have hw := hw.symm;subst hw;go_wp2_with fail;go_ret;exact ⟨_, rfl, by show Lib.trimSuffix b.data.toList x.data.toList = _; rw [H1.out.1, H2.out.1]; rfl, H2.out.2⟩
def Bi (of : List UInt8 → List UInt8) (v : Vl) : Except Int Vl := if ¬ v.kind = 3 then .error 9 else if Ay v.str.data.toList = false then .error 1 else Am (toBs (of v.str.data.toList))
structure R2 (W : World) (b off bx g : Nat) (s : ByteArray) : Prop where
 q2 : W.cell? ⟨b, off + 2, none⟩ = some (.string s)
 qf : W.cell? ⟨bx, 0, none⟩ = some (.func (.func g) #[] #[])
theorem R2.below {W W' : World} {b off bx g : Nat} {s : ByteArray} (h : R2 W b off bx g s) (hb : Below W.heap.size W W') : R2 W' b off bx g s :=
 ⟨(hb.cell (p := ⟨b, off + 2, none⟩) (block_of_cell h.q2)).trans h.q2, (hb.cell (p := ⟨bx, 0, none⟩) (block_of_cell h.qf)).trans h.qf⟩
theorem R2.set {W : World} {b off bx g : Nat} {s : ByteArray} (h : R2 W b off bx g s) {b0 : Nat} (hne : b0 ≠ b ∧ b0 ≠ bx) (i : Nat) (v : Value) : R2 (W.setCell ⟨b0, i, none⟩ v) b off bx g s :=
 ⟨(World.cell?_of_block (w := W) (set_other (Ne.symm hne.1) i v)).trans h.q2, (World.cell?_of_block (w := W) (set_other (Ne.symm hne.2) i v)).trans h.qf⟩
theorem O2 (g : Nat) (of : List UInt8 → List UInt8) (hg : ∀ (s : ByteArray) w, s.size < 4294967281 → Calls Tryz.prog g #[.string s] w (Dp (of s.data.toList) w)) (hof : ∀ (s : ByteArray), s.size ≤ 65536 → (of s.data.toList).length ≤ 65536)
  (hen : ∀ args w, (callFunc g args).run Tryz.prog w = .ok (.enter g args) w)
  (F : Nat → Prop) (v : Vl) (a : Option Addr) (cap bx : Nat) (w : World) (hbx : w.cell? ⟨bx, 0, none⟩ = some (.func (.func g) #[] #[])) (hr : Ac F w a (valsD [v])) (hs : v.str.size ≤ 65536) :
  Calls Tryz.prog 245 #[.slice a 1 cap, .pointer (some ⟨bx, 0, none⟩)] w (Bl (Bi of v) w) := by
 obtain ⟨k, n, s, l, ks⟩ := v;replace hs : s.size ≤ 65536 := hs;obtain ⟨b, off, a1, c1, a2, c2, rfl, -, hbl, q0, q1, q2, q3, q4, -, -⟩ := hr.val (j := 0) rfl;simp only [nzm, naz] at q0 q1 q2 q3 q4;have aB := QB.start w;have hne : w.heap.size ≠ b ∧ w.heap.size ≠ bx := ⟨by omega, by have := block_of_cell hbx; omega⟩;have aF := Lq7 hne;have hR : R2 w b off bx g s := ⟨q2, hbx⟩;have aM := Lq7 hR;generalize aN : w.alloc (.cells #[.int .i64 0, .int .i64 0, .string ⟨#[]⟩, .slice none 0 0, .slice none 0 0] 31) = W0 at aB;have H0 := Lq7 aB;have aI := Lq7 aN;have Hg := Lq7 hg;have aQ := Lq7 hof;clear hr aB aN hne hR hg hof q1 q3 q4 hbx;by_cases hk : k = 3
 ·subst hk;cases hok : Ay s.data.toList with
  | false =>
   have Ht : Hid (Bi of (.mk 3 n s l ks) = .error 1) := Lq7 ((if_neg (by simp [Vl.kind])).trans (if_pos hok));have HM := Lq7 (G1 s W0 (by omega));rw [hok] at HM;clear hok;go_enter Tryz.func245, Tryz.ntmps245;go_wp2_with fail;rw [aI.out];refine HM.out.mono ?_;rintro e w1 ⟨rfl, aE⟩;have H1 := Lq7 (H0.out.later aE);clear aE HM q0 q2;obtain ⟨p0, p1, p2, p3, p4, p5, p6, p7, p8, p9, aG⟩ := five_facts H1.out.r;go_wp2_with fail;have aC := H1.out.err 1;generalize World.setCell _ _ _ = W9 at aC ⊢;clear p0 p1 p2 p3 p4 p5 p6 p7 p8 p9 aG;obtain ⟨p0, p1, p2, p3, p4, p5, p6, p7, p8, p9, aG⟩ := five_facts aC.2;refine bodyPost_ret (v := .tuple #[.agg #[.int .i64 0, .int .i64 0, .string ⟨#[]⟩, .slice none 0 0, .slice none 0 0], .int .i64 1]) (by simp [results, Tryz.results245, go_sem, p1, p2, p3, p4, p5]) rfl ?_;rw [Ht.out];exact aC.1
  | true =>
   have Ht : Hid (Bi of (.mk 3 n s l ks) = Am (toBs (of s.data.toList))) := Lq7 ((if_neg (by simp [Vl.kind])).trans (if_neg (by show ¬ Ay s.data.toList = false; rw [hok]; decide)));have HM := Lq7 (G1 s W0 (by omega));rw [hok] at HM;clear hok;go_enter Tryz.func245, Tryz.ntmps245;go_wp2_with fail;rw [aI.out];refine HM.out.mono ?_;rintro e w1 ⟨rfl, aE⟩;have H1 := Lq7 (And.intro (H0.out.later aE) (aM.out.below (H0.out.below.trans (aE.mono H0.out.below.size))));clear aE HM q0 q2 H0;go_wp2_with fail;have H2 : Hid (QB w w1.drew w.heap.size ∧ R2 w1.drew b off bx g s) := Lq7 ⟨H1.out.1.later (Below.refl _ _).drew, H1.out.2.below (Below.refl _ _).drew⟩;clear H1;refine Ae (.s 0 (.s 1 (.s 2 (.s 3 (.s 4 (.h 5 (.h 6 (.s 7 (.s 8 (.h 9 (.s 10 .nil))))))))))) 99 (fun W' => R2 W' b off bx g s) (by kernel_rfl) (by kernel_rfl) (fun c a d v w h => by cases d <;> exact h) H2.out.2 ?_
   generalize w1.drew = Wd at H2 ⊢;refine Aa (.func (.func g) #[] #[]) rfl rfl (fun W' hS => ?_) ?_
   ·obtain ⟨z0, z1⟩ := hS;go_simp
   (try simp only [lgA, lgC, aP, laA, lsA, lsB]);refine Aa (.slice (some ⟨b, off, none⟩) 1 cap) rfl rfl (fun W' hS => ?_) ?_
   ·go_simp
   (try simp only [lgA, lgB, lgC, aP, laA, lsA, lsB]);refine Aa (.pointer (some ⟨b, off, none⟩)) rfl rfl (fun W' hS => ?_) ?_
   ·go_simp
   (try simp only [lgA, lgB, lgC, aP, laA, lsA, lsB]);refine Aa (.pointer (some ⟨b, off + 2, none⟩)) rfl rfl (fun W' hS => ?_) ?_
   ·go_simp
   (try simp only [lgA, lgB, lgC, aP, laA, lsA, lsB]);refine Aa (.string s) rfl rfl (fun W' hS => ?_) ?_
   ·obtain ⟨z0, z1⟩ := hS;go_simp
   (try simp only [lgA, lgB, lgC, aP, laA, lsA, lsB]);refine Ad rfl (fun K5 hK5 => ?_);go_wp2_with fail;refine (Hg.out s _ (by omega)).mono ?_;rintro e w2 ⟨o, rfl, ho, aJ⟩;have H3 := Lq7 (And.intro (H2.out.1.later aJ) (H2.out.2.below aJ));have hos : o.size ≤ 9223372036854775807 := by
    have h1 : o.data.toList.length = o.size := rfl;rw [ho] at h1;have := aQ.out s hs;omega
   have aR : o = toBs (of s.data.toList) := (by rw [← ho]; rfl);rw [← aR] at Ht;clear aJ H2 ho aR;go_wp2_with fail;refine hK5 _ _ (fun _ => H3.out.2) ?_;(try simp only [lgA, lgB, lgC, aP, laA, lsA, lsB]);refine Ad rfl (fun K6 hK6 => ?_);go_wp2_with fail;refine (Cm o _ hos).mono ?_;rintro e w9 h9;rw [← Ht.out] at h9;have H6 := Lq7 (H3.out.2.below h9.1);obtain ⟨k9, n9, s9, aU, aV, aW, a29, aX, aY, m9, rfl, aZ, bA, bB⟩ := H3.out.1.fin h9;have aH := Lq7 (And.intro aZ (And.intro bA bB));clear h9 bA bB aZ H3;go_wp2_with fail;refine hK6 _ _ (fun _ => H6.out) ?_;(try simp only [lgA, lgB, lgC, aP, laA, lsA, lsB]);refine Aa (.agg #[.int .i64 k9, .int .i64 n9, .string s9, .slice aU aV aW, .slice a29 aX aY]) rfl rfl (fun W' hS => ?_) ?_
   ·go_simp
   (try simp only [lgA, lgB, lgC, aP, laA, lsA, lsB]);refine Aa (.int .i64 m9) rfl rfl (fun W' hS => ?_) ?_
   ·go_simp
   (try simp only [lgA, lgB, lgC, aP, laA, lsA, lsB]);obtain ⟨p0, p1, p2, p3, p4, p5, p6, p7, p8, p9, aG⟩ := five_facts aH.out.1;refine Ad rfl (fun KS hKS => ?_);go_wp2_with fail;refine hKS _ _ (fun _ => ((((H6.out.set aF.out 0 _).set aF.out 1 _).set aF.out 2 _).set aF.out 3 _).set aF.out 4 _) ?_;generalize World.setCell _ _ _ = W9 at aH ⊢;clear p0 p1 p2 p3 p4 p5 p6 p7 p8 p9 aG;(try simp only [lgA, lgB, lgC, aP, laA, lsA, lsB]);refine Aa (.int .i64 m9) rfl rfl (fun W' hS => ?_) ?_
   ·go_simp
   (try simp only [lgA, lgB, lgC, aP, laA, lsA, lsB]);refine Ak ?_;(try simp only [lgA, lgB, lgC, aP, laA, lsA, lsB]);go_wp2_with fail;obtain ⟨p0, p1, p2, p3, p4, p5, p6, p7, p8, p9, aG⟩ := five_facts aH.out.2.2;exact bodyPost_ret (v := .tuple #[.agg #[.int .i64 k9, .int .i64 n9, .string s9, .slice aU aV aW, .slice a29 aX aY], .int .i64 m9]) (by simp [results, Tryz.results245, go_sem, p1, p2, p3, p4, p5]) rfl aH.out.2.1
 ·have hk2 : decide (k = 3) = false := decide_eq_false hk;have hk3 : (k != 3) = true := (by simpa using hk);have Ht : Hid (Bi of (.mk k n s l ks) = .error 9) := Lq7 (if_pos hk);clear aI aM Hg aQ q2;go_enter Tryz.func245, Tryz.ntmps245;go_wp2_with fail;refine bodyPost_ret (v := .tuple #[zeroV, .int .i64 9]) (by simp [zeroV, results, Tryz.results245, go_sem]) rfl ?_;rw [Ht.out];exact ⟨(Below.refl _ w).alloc (nlr _) _, rfl⟩
theorem Fb (s : ByteArray) (w : World) (hs : s.size ≤ 65536) :
  Calls Tryz.prog 34 #[.string s] w (Dp (baseOf s.data.toList) w) := by
 have HM := Lq7 (Ge s w (by omega));cases hok : Ay s.data.toList with
 | false =>
  have Hb := Lq7 (O3 hok).2;rw [hok] at HM;clear hok;go_enter Tryz.func34, Tryz.ntmps34;go_wp2_with fail;refine HM.out.mono ?_;rintro e w1 ⟨rfl, aC⟩;have aE := Lq7 aC;clear aC;go_wp2_with fail;go_ret;exact ⟨_, rfl, Hb.out.symm, aE.out⟩
 | true =>
  have Hb : Hid (baseOf s.data.toList = (cutAt 47 s.data.toList).getLast (cutAt_ne 47 s.data.toList)) := Lq7 (by unfold baseOf; rw [if_pos hok]);rw [hok] at HM;clear hok;have HP := Lq7 (fun W => Jh s W (by omega));go_enter Tryz.func34, Tryz.ntmps34;go_wp2_with fail;refine HM.out.mono ?_;rintro e w1 ⟨rfl, aC⟩;have aE := Lq7 aC;clear aC;go_wp2_with fail;refine (HP.out _).mono ?_;rintro e w2 ⟨l, v, rfl, hcut, hown, aQ⟩;obtain ⟨aL, cL, rfl, aR, -⟩ := hown.strsAt;have aU : l.length = (cutAt 47 s.data.toList).length := (by rw [← hcut, lnM]);have hcl := F5 47 s.data.toList;have hcc := List.count_le_length (a := (47 : UInt8)) (l := s.data.toList);have hsz : s.data.toList.length = s.size := rfl;have aH : 0 < l.length := (by rw [aU]; exact List.length_pos_iff.2 (cutAt_ne 47 _));obtain ⟨bK, oK, hak, aV⟩ := aR (l.length - 1) _ (lgE (by omega));subst hak;have aF : (cutAt 47 s.data.toList).getLast (cutAt_ne 47 s.data.toList) = (l[l.length - 1]'(by omega)).data.toList := by
   rw [List.getLast_eq_getElem];simp only [← hcut, lnM, List.getElem_map]
  rw [aF] at Hb;generalize l[l.length - 1]'(by omega) = x at aV Hb;have Hb2 := Lq7 (aE.out.trans (aQ.mono aE.out.size));clear hown aR aF hcut aQ aE HP;generalize l.length = n at *;obtain ⟨j, rfl⟩ : ∃ j, n = j + 1 := ⟨n - 1, by omega⟩;rw [Nat.add_sub_cancel] at aV;have hjle : j ≤ 65536 := (by omega);clear aU hcl hcc hsz aH;go_wp2_with fail;go_ret;exact ⟨_, rfl, Hb.out.symm, Hb2.out⟩
theorem I4 (s : ByteArray) (w : World) (hs : s.size ≤ 65536) :
  Calls Tryz.prog 35 #[.string s] w (Dp (extOf s.data.toList) w) := by
 have HC := Lq7 (Fb s w hs);have hle := baseOf_le s;have Hx : Hid (extOf s.data.toList = extB (baseOf s.data.toList)) := Lq7 rfl;go_enter Tryz.func35, Tryz.ntmps35;go_wp2_with fail;refine HC.out.mono ?_;rintro e w1 ⟨b, rfl, hb, aC⟩;have hbs : b.size ≤ s.size := (by have : b.data.toList.length = b.size := rfl; rw [hb] at this; omega);rw [← hb] at Hx;have aE := Lq7 aC;have aI := Lib.lastIndexByte_spec b 46;have aJ : Hid (extOf s.data.toList = if 0 < Lib.lastIndexByte b 46 then b.data.toList.drop (Lib.lastIndexByte b 46).toNat else []) := Lq7 Hx.out;generalize Lib.lastIndexByte b 46 = k at aI aJ;have aW := Lq7 aI;clear aC HC hb hle Hx aI;go_wp2_with fail
 go_loop [4] (fun i => ∃ j : Int, i = .int .i64 j ∧ -1 ≤ j ∧ j < b.size ∧ Hid (∀ m : Nat, j < (m : Int) → m < b.size → ((b.data[m]!).toNat : Int) ≠ 46)) (fun i => (intOf i + 1).toNat)
 case atStart => exact ⟨_, rfl, by omega, by omega, Lq7 (fun m h1 h2 => by omega)⟩
 case round =>
  obtain ⟨j, rfl, hj1, hj2, aG⟩ := hrel;by_cases hj : 0 < j
  ·obtain ⟨i, rfl⟩ : ∃ i : Nat, j = i := ⟨j.toNat, by omega⟩;have hi : i < b.size := (by omega);have aB : b.data[i]! = b[i] := data_bangP b i hi;by_cases hc : ((b[i].toNat : Nat) : Int) = 46
   ·have hk : k = i := by
     rcases aW.out with ⟨-, hn⟩ | ⟨i', hi', e, hc', hn⟩
     ·exact absurd (by rw [aB]; exact hc) (hn i hi)
     ·rcases Nat.lt_trichotomy i' i with h | h | h
      ·exact absurd (by rw [aB]; exact hc) (hn i h hi)
      ·omega
      ·exact absurd hc' (aG.out i' (by omega) hi')
    have aX : 0 < k := (by omega);have aM : Hid (extOf s.data.toList = b.data.toList.drop i) := Lq7 (by rw [aJ.out, if_pos aX, hk]; simp);have hc2 : (((b[i].toNat : Nat) : Int) == 46) = true := (by rw [beq_iff_eq]; exact hc);clear aG aB hk aX;go_wp2_with fail;go_ret;exact ⟨_, rfl, by rw [aM.out, Ek], aE.out⟩
   ·have hc2 : (((b[i].toNat : Nat) : Int) == 46) = false := (by rw [beq_eq_false_iff_ne]; exact hc);have aN : Hid (∀ m : Nat, ((i : Int) - 1) < (m : Int) → m < b.size → ((b.data[m]!).toNat : Int) ≠ 46) := Lq7 (fun m h1 h2 => by
     by_cases hm : m = i
     ·subst hm;rw [aB];exact hc
     ·exact aG.out m (by omega) h2)
    clear aG aB;go_wp2_with fail;go_round
    case rel => exact ⟨(i : Int) - 1, by go_num, by omega, by omega, aN⟩
    case measure => simp only [intOf]; omega
  ·have aM : Hid (extOf s.data.toList = []) := Lq7 (by
    rw [aJ.out, if_neg];intro hk;rcases aW.out with ⟨e, -⟩ | ⟨i', hi', e, hc', -⟩
    ·omega
    ·exact absurd hc' (aG.out i' (by omega) hi'))
   clear aG;go_wp2_with fail;go_ret;exact ⟨_, rfl, aM.out.symm, aE.out⟩
end Go.Proofs.YtcofbdjakicojaaGreatDoor
