/-
  The walk of the plain host's lines, where the texts aren't too long together.
-/
import Derived.Test.YtcofbdjakicojaaGreatDoorJoin
import Derived.Test.YtcofbdjakicojaaGreatDoorBuilder
namespace Go.Proofs.YtcofbdjakicojaaGreatDoor
open List renaming getElem?_eq_getElem → lgE, take_add_one → ltA, take_of_length_le → ltL
open Nat renaming le_refl → nlr, lt_of_lt_of_le → nll, zero_le → nlz, zero_mul → nzm, add_zero → naz
open Go.Lib renaming hid → Lq7
set_option maxRecDepth 100000
set_option maxHeartbeats 16000000
open Go Go.RowKit
def linesB (l : List ByteArray) : ByteArray := ⟨((l.map (fun s => s.data.toList ++ [10])).flatten).toArray⟩
def C5 (l : List ByteArray) : List UInt8 := (l.map (fun s => s.data.toList ++ [10])).flatten
theorem Kl (l : List ByteArray) (j : Nat) (h : j < l.length) : C5 (l.take (j + 1)) = C5 (l.take j) ++ (l[j] ++ (⟨#[10]⟩ : ByteArray)).data.toList := by
 unfold C5;rw [ltA, lgE h, Option.toList_some, List.map_append, List.flatten_append];simp
theorem Dv (l : List ByteArray) : (C5 l).length = totL l := J0 l
theorem S9 (l : List ByteArray) (j : Nat) : totL (l.take j) ≤ totL l := by
 unfold totL
 conv => rhs; rw [← List.take_append_drop j l, List.map_append, List.sum_append]
 omega
theorem Rz (F : Nat → Prop) (n' : Int) (s' : ByteArray) (l : List Vl) (ks : List ByteArray) (ts : List ByteArray) (a : Option Addr) (cap : Nat) (w : World) (hF : ∀ b, F b → b < w.heap.size) (hr : Ac F w a (valsD [.mk 4 n' s' l ks]))
  (hs : smallV (.mk 4 n' s' l ks)) (ht : textsL (.mk 4 n' s' l ks) = some ts) (hlen : ts.length ≤ 1000) (hfit : totL ts ≤ 65536) :
  Calls Tryz.prog 227 #[.slice a 1 cap] w (Bl (.ok (Dr (linesB ts))) w) := by
 obtain ⟨b, off, a3, c3, a4, c4, rfl, -, hbl, r0, r1, r2, r3, r4, bH, bI⟩ := hr.val (j := 0) rfl;simp only [nzm, naz] at r0 r1 r2 r3 r4;have aJ : Below w.heap.size w (w.alloc (.cells #[.int .i64 0, .int .i64 0, .string ⟨#[]⟩, .slice none 0 0, .slice none 0 0] 31)) := (Below.refl _ w).alloc (nlr _) _;have Hc := Lq7 (C3 4 n' s' l ks hs F a3 c3 a4 c4 _ (fun b hb => nll (hF b hb) aJ.size) (bH.below aJ) (bI.below aJ));have aM := Lq7 (And.intro (heap_alloc_new w (.cells #[.int .i64 0, .int .i64 0, .string ⟨#[]⟩, .slice none 0 0, .slice none 0 0] 31)) aJ);have Ht := Lq7 ht;clear bH bI aJ ht hr hF hs;go_enter Tryz.func227, Tryz.ntmps227;go_wp2_with fail;refine Hc.out.mono ?_;rintro e w1 ⟨aX, hq⟩;rw [Ht.out] at hq;obtain ⟨x, rfl, hown⟩ := hq;obtain ⟨aT, cT, rfl, bJ, hcap⟩ := hown.strsAt;have bL : Below w1.heap.size w1 (w1.alloc (.cells #[.pointer none, .slice none 0 0] 263)) := (Below.refl _ w1).alloc (nlr _) _;have Hst := Lq7 bJ;have aY := Lq7 bL;have aF := Lq7 (And.intro (stays aM.out.1 aX) (aM.out.2.trans (aX.mono aM.out.2.size)));have bM := Lq7 (Lib.fresh_isBuilder 263 5 w1);have hw1 : w.heap.size < w1.heap.size := here (stays aM.out.1 aX);clear bJ aX hown Hc aM r0 r1 r2 r3 r4 bL;go_wp2_with fail;generalize World.alloc _ _ = W at bM aY ⊢
 go_loopw [21] (fun i wr => ∃ j : Nat, i = .int .i64 j ∧ j ≤ ts.length ∧ Hid (Lib.IsBuilder 263 5 w1.heap.size w1.heap.size (Lib.byteCells (C5 (ts.take j))) wr) ∧ Hid (Below w1.heap.size w1 wr)) (fun i _ => ts.length - (intOf i).toNat)
 case atStart => exact ⟨0, rfl, nlz _, bM, aY⟩
 case round =>
  obtain ⟨j, rfl, hj, aN, aB⟩ := hrel;by_cases hlt : j < ts.length
  ·obtain ⟨bK, oK, hak, bN⟩ := (Hst.out.below aB.out) j _ (lgE hlt);subst hak;have bO := Nn ts j hlt;have hs2 := S9 ts (j + 1);have aZ := Kl ts j hlt;have bP := Dv (ts.take j);have aQ : (Lib.byteCells (C5 (ts.take j))).length = totL (ts.take j) := (by rw [← bP]; simp [Lib.byteCells]);generalize ts[j] = x at bN bO aZ;have bQ : (x ++ (⟨#[10]⟩ : ByteArray)).size = x.size + 1 := (by rw [ByteArray.size_append]; rfl);have Hc := Lq7 (Nb w1.heap.size w1.heap.size (Lib.byteCells (C5 (ts.take j))) (x ++ (⟨#[10]⟩ : ByteArray)) wr aN.out (by rw [aQ, bQ]; omega) aB.out.size);have Hs3 := Lq7 aZ;have aY := Lq7 aB.out;clear aZ aN aB;go_wp2_with fail;refine Hc.out.mono ?_;rintro e w2 ⟨rfl, aR, aU⟩;have aG : Lib.IsBuilder 263 5 w1.heap.size w1.heap.size (Lib.byteCells (C5 (ts.take (j + 1)))) w2 := by
    rw [Hs3.out, Lib.byteCells_append];exact .inr aR
   have bA := Lq7 aG;have bB := Lq7 (aY.out.trans aU);have bC := Lq7 (Tryz.Builder_Len w1.heap.size w1.heap.size _ w2 aG);have aV : (Lib.byteCells (C5 (ts.take (j + 1)))).length = totL (ts.take (j + 1)) := (by rw [← Dv]; simp [Lib.byteCells]);rw [aV] at bC;have hT : totL (ts.take (j + 1)) ≤ 65536 := (by omega);clear aR aU aG Hc aV bN bO hs2 bP aQ bQ;generalize totL (ts.take (j + 1)) = T at bC hT;go_wp2_with fail;refine bC.out.mono ?_;rintro e w3 ⟨rfl, bD⟩;have bD := bD.symm;subst bD;have hng : ¬ (65536 : Int) < (T : Int) := (by omega);go_wp2_with fail;go_roundw
   case rel => exact ⟨j + 1, by go_num, by omega, bA, bB⟩
   case measure => simp only [intOf]; omega
  ·have bR : ts.take j = ts := ltL (by omega);rw [bR] at aN;have aW := Lq7 (Tryz.Builder_String_any w1.heap.size w1.heap.size _ wr aN.out aB.out.size);have bE := Lq7 (And.intro (stays aF.out.1 aB.out) (aF.out.2.trans (aB.out.mono aF.out.2.size)));have hsz := aB.out.size;clear aN aB bR;go_wp2_with fail;refine aW.out.mono ?_;rintro e w2 ⟨rfl, bS⟩;have hb2' : Below w1.heap.size wr w2 := bS;have bU : (⟨(C5 ts).toArray⟩ : ByteArray) = linesB ts := rfl;rw [bU];have hls : (linesB ts).size ≤ 65536 := by
    have := Dv ts;show (C5 ts).toArray.size ≤ _;rw [List.size_toArray, this];exact hfit
   have bV : Am (linesB ts) = .ok (Dr (linesB ts)) := (by unfold Am; rw [if_neg (by omega)]);have aC : Hid (w2.heap[w.heap.size]? = some (.cells #[.int .i64 0, .int .i64 0, .string ⟨#[]⟩, .slice none 0 0, .slice none 0 0] 31 (0, 0))) := Lq7 ((hb2'.block _ hw1).trans bE.out.1);have aH : Hid (Below w.heap.size w w2) := Lq7 (bE.out.2.trans (hb2'.mono (by omega)));clear bS hb2' bU aW bE;go_wp2_with fail;refine (Cm (linesB ts) _ (by omega)).mono ?_;rw [bV];rintro e w3 ⟨bF, cs, rfl, bW⟩;obtain ⟨z1, f1, z2, f2, rfl, -, -⟩ := bW.val;have aE := Lq7 (stays aC.out bF);have bG := Lq7 (aH.out.trans (bF.mono aH.out.size));clear bW bF aC aH bV;obtain ⟨p0, p1, p2, p3, p4, p5, p6, p7, p8, p9, p10⟩ := five_facts aE.out;go_wp2_with fail;have aI := res_set (nlr _) bG.out aE.out (.int .i64 3) (.int .i64 0) (.string (linesB ts)) (.slice z1 0 f1) (.slice z2 0 f2);generalize World.setCell _ _ _ = W9 at aI ⊢;obtain ⟨p0, p1, p2, p3, p4, p5, p6, p7, p8, p9, p10⟩ := five_facts aI.1;refine bodyPost_ret (v := .tuple #[.agg #[.int .i64 3, .int .i64 0, .string (linesB ts), .slice z1 0 f1, .slice z2 0 f2], .int .i64 0]) (by simp [results, Tryz.results227, go_sem, p1, p2, p3, p4, p5]) rfl ?_;exact ⟨aI.2, _, rfl, Ah.val_mk (l := []) (ks := []) _ _ _ _ _ (Ac.nil _) (Ac.nil _)⟩
end Go.Proofs.YtcofbdjakicojaaGreatDoor