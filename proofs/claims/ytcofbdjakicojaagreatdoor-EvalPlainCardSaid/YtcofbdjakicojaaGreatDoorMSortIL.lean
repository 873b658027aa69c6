/-
  The walk of the document's sorted: texts put in one by one. (Printed by sortR_gen.py.)
  Texts put in one by one are the sorted texts.
-/
import Derived.Laws.OwnMore
import Derived.Sort.Walk0
import Derived.Test.YtcofbdjakicojaaGreatDoorMSix
import Derived.Test.YtcofbdjakicojaaGreatDoorListsPlain
import Derived.Test.YtcofbdjakicojaaGreatDoorMHeldSkip
namespace Go.Proofs.YtcofbdjakicojaaGreatDoor
open Go Go.RowKit
open List renaming getElem?_eq_getElem → lgE, length_cons → lnC, length_append → lnA, length_nil → lnN, take_add_one → ltA, take_of_length_le → ltL
open Nat renaming le_refl → nlr, zero_le → nlz
open Go.Lib renaming hid → Lq7, toList_data → Lq8
set_option maxRecDepth 100000
set_option maxHeartbeats 16000000
def insS (s : ByteArray) : Bool → List ByteArray → List ByteArray
 | dn, [] => if dn then [] else [s]
 | dn, x :: t => if !dn && (!Op.bytesLess x.toList s.toList && !(x.toList == s.toList)) then s :: x :: insS s true t else x :: insS s dn t
theorem Q3 (s : ByteArray) : ∀ (dn : Bool) (l : List ByteArray), (insS s dn l).length ≤ l.length + 1
 | true, [] => by simp [insS]
 | false, [] => by simp [insS]
 | dn, x :: t => by
  have h1 := Q3 s dn t;have h2 := insS_done s t;unfold insS;split
  ·simp only [lnC]; omega
  ·simp only [lnC]; omega
where
 insS_done (s : ByteArray) : ∀ (l : List ByteArray), (insS s true l).length ≤ l.length
  | [] => by simp [insS]
  | x :: t => by
   have := insS_done s t;simp only [insS, Bool.not_true, Bool.false_and, Bool.false_eq_true, if_false, lnC];omega
theorem lessS_ne {x s : ByteArray} (h : Op.bytesLess x.toList s.toList = true) : (x.toList == s.toList) = false := by
 cases hb : (x.toList == s.toList)
 ·rfl
 ·exfalso;have e : x.toList = s.toList := eq_of_beq hb;rw [e, Go.Proofs.bytesLess_eq, decide_eq_true_eq] at h;exact List.lt_irrefl _ h
def sortI (ts : List ByteArray) : List ByteArray := ts.foldl (fun l s => insS s false l) []
theorem Mi (ts : List ByteArray) (j : Nat) (h : j < ts.length) : sortI (ts.take (j + 1)) = insS ts[j] false (sortI (ts.take j)) := by
 unfold sortI;rw [ltA, lgE h, Option.toList_some, List.foldl_append];rfl
theorem sortI_len (ts : List ByteArray) : ∀ j, j ≤ ts.length → (sortI (ts.take j)).length ≤ j
 | 0, _ => by simp [sortI]
 | j + 1, h => by
  have h1 := sortI_len ts j (by omega);rw [Mi ts j (by omega)];have h2 := Q3 ts[j] false (sortI (ts.take j));omega
theorem M5 (a : Option Addr) (cap : Nat) (ts : List ByteArray) (w : World) (hl : ts.length ≤ 1000) (hat : Ax w a ts) :
  Calls Tryz.prog 29 #[.slice a ts.length cap] w (fun e w' => ∃ v, e = .returned v ∧ OwnS w' w.heap.size v (sortI ts) ∧ Below w.heap.size w w') := by
 obtain ⟨i0, hi, bE, bF, bG⟩ := info_parts infoStr;have Hat := Lq7 hat;clear hat;go_enter Tryz.func29, Tryz.ntmps29;go_wp2_with fail
 go_loopw [3, 13] (fun v i wr => ∃ (k : Nat) (v' : Value), v = v' ∧ i = .int .i64 k ∧ k ≤ ts.length ∧ Hid (OwnS wr w.heap.size v' (sortI (ts.take k))) ∧ Hid (Below w.heap.size w wr)) (fun _ i _ => ts.length - (intOf i).toNat)
 case atStart =>
  refine ⟨0, _, rfl, rfl, nlz _, Lq7 ?_, Lq7 ((Below.refl _ w).alloc (nlr _) _)⟩;exact World.ownsRow_lit (base := w.heap.size) (size := 1) w #[] 0 (nlr _) (by decide) rfl
 case round =>
  rename World => w0;obtain ⟨k, v, hv, rfl, hk, hown, hb⟩ := hrel;have hv := hv.symm;subst hv;have hlen := sortI_len ts k hk;by_cases hlt : k < ts.length
  ·obtain ⟨b, off, bY, hc⟩ := (Hat.out.below hb.out).at hlt;subst bY;have bU : Hid (sortI (ts.take (k + 1)) = insS ts[k] false (sortI (ts.take k))) := Lq7 (Mi ts k hlt);generalize ts[k] = s at hc bU;generalize sortI (ts.take k) = L at hown hlen bU;obtain ⟨aL, cL, rfl, bI, -⟩ := hown.out.strsAt;have bZ : Below w0.heap.size w0 (w0.alloc (.cells #[] 9)) := (Below.refl _ w0).alloc (nlr _) _;have HL := Lq7 (bI.below bZ);have bH := Lq7 bI;have cI : Hid (OwnS (w0.alloc (.cells #[] 9)) w0.heap.size (.slice (some ⟨w0.heap.size, 0, none⟩) 0 0) []) := Lq7 (World.ownsRow_lit (base := w0.heap.size) (size := 1) w0 #[] 0 (nlr _) (by decide) rfl);have cJ := Lq7 bZ;have bV : w.heap.size ≤ w0.heap.size := hb.out.size;clear bI bZ hown;go_wp2_with fail;generalize w0.alloc _ = W at HL cI cJ ⊢
   go_loopw [6, 7, 20] (fun v d i wr => ∃ (j : Nat) (o : List ByteArray) (v' : Value) (dn : Bool), v = v' ∧ d = .bool dn ∧ i = .int .i64 j ∧ j ≤ L.length ∧ o.length ≤ 2 * j ∧ OwnS wr w0.heap.size v' o ∧ Below w0.heap.size w0 wr ∧ Hid (Ax wr aL L) ∧ Hid (o ++ insS s dn (L.drop j) = insS s false L)) (fun _ _ i _ => L.length - (intOf i).toNat)
   case atStart => exact ⟨0, [], _, false, rfl, rfl, rfl, nlz _, nlz _, cI.out, cJ.out, HL, Lq7 rfl⟩
   case round =>
    obtain ⟨j, o, v, dn, hv, rfl, rfl, hj, ho, hown, aC, bI, hO⟩ := hrel;have hv := hv.symm;subst hv;have aB := Lq7 hown;clear hown;by_cases hlt2 : j < L.length
    ·obtain ⟨b2, off2, bY, hc2⟩ := bI.out.at hlt2;subst bY;have Hd : Hid (L.drop j = L[j] :: L.drop (j + 1)) := Lq7 (List.drop_eq_getElem_cons hlt2);generalize L[j] = x at hc2 Hd;cases dn
     ·cases hls : Op.bytesLess x.toList s.toList
      ·cases cB : (x.toList == s.toList)
       ·have HN : Hid (((o ++ [s]) ++ [x]) ++ insS s true (L.drop (j + 1)) = insS s false L) := Lq7 (by rw [← hO.out, Hd.out, insS, hls, cB]; simp)
        go_wp2_with (at_builtin; refine wpList_append_own _ rfl _ _ 29 rfl w0.heap.size 9 i0 (.string ByteArray.empty) 1 16 Tryz.underlying29 hi bE bF bG rfl (by decide) _ _ _ rfl (aB.out.alloc _) ⟨wr.heap.size, 0, none⟩ 1 1 [.string s] rfl rfl (lit_one _ _ _) ?c2 ?c3 ?c4 ?c5 ?_)
        case c2 => simp [Value.oneCell']
        case c3 => (try simp only [lnA, lnC, lnN]); unfold maxLen; omega
        case c4 => (try simp only [lnA, lnC, lnN]); omega
        case c5 => have := aC.size; simp; omega
        intro vz1 bW aM aE _;have aN : Hid (OwnS bW w0.heap.size vz1 (o ++ [s])) := Lq7 (by unfold OwnS; simpa [lnA, List.map_append, Nat.add_assoc] using aM);have aQ : Below w0.heap.size w0 bW := (aC.alloc aC.size _).grown aE (by have := aC.size; simp; omega) (fun g hg => (aB.out.lt g hg).1);have hLsz1 : Hid (Ax bW _ L) := Lq7 (bH.out.below aQ);clear aM aE
        go_wp2_with (at_builtin; refine wpList_append_own _ rfl _ _ 29 rfl w0.heap.size 9 i0 (.string ByteArray.empty) 1 16 Tryz.underlying29 hi bE bF bG rfl (by decide) _ _ _ rfl (aN.out.alloc _) ⟨bW.heap.size, 0, none⟩ 1 1 [.string x] rfl rfl (lit_one _ _ _) ?c2 ?c3 ?c4 ?c5 ?_)
        case c2 => simp [Value.oneCell']
        case c3 => (try simp only [lnA, lnC, lnN]); unfold maxLen; omega
        case c4 => (try simp only [lnA, lnC, lnN]); omega
        case c5 => have := aQ.size; simp; omega
        intro vz2 cC aR aF _;have aY : Hid (OwnS cC w0.heap.size vz2 ((o ++ [s]) ++ [x])) := Lq7 (by unfold OwnS; simpa [lnA, List.map_append, Nat.add_assoc] using aR);have bJ : Below w0.heap.size w0 cC := (aQ.alloc aQ.size _).grown aF (by have := aQ.size; simp; omega) (fun g hg => (aN.out.lt g hg).1);have bL : Hid (Ax cC _ L) := Lq7 (bH.out.below bJ);clear aR aF;go_wp2_with fail;go_roundw
        case rel => exact ⟨j + 1, ((o ++ [s]) ++ [x]), _, true, rfl, rfl, by go_num, by omega, by (try simp only [lnA, lnC, lnN]); omega, aY.out, bJ, bL, HN⟩
        case measure => simp only [intOf]; omega
       ·have HN : Hid ((o ++ [x]) ++ insS s false (L.drop (j + 1)) = insS s false L) := Lq7 (by rw [← hO.out, Hd.out, insS, hls, cB]; simp)
        go_wp2_with (at_builtin; refine wpList_append_own _ rfl _ _ 29 rfl w0.heap.size 9 i0 (.string ByteArray.empty) 1 16 Tryz.underlying29 hi bE bF bG rfl (by decide) _ _ _ rfl (aB.out.alloc _) ⟨wr.heap.size, 0, none⟩ 1 1 [.string x] rfl rfl (lit_one _ _ _) ?c2 ?c3 ?c4 ?c5 ?_)
        case c2 => simp [Value.oneCell']
        case c3 => (try simp only [lnA, lnC, lnN]); unfold maxLen; omega
        case c4 => (try simp only [lnA, lnC, lnN]); omega
        case c5 => have := aC.size; simp; omega
        intro vz3 cE aU aG _;have aZ : Hid (OwnS cE w0.heap.size vz3 (o ++ [x])) := Lq7 (by unfold OwnS; simpa [lnA, List.map_append, Nat.add_assoc] using aU);have bM : Below w0.heap.size w0 cE := (aC.alloc aC.size _).grown aG (by have := aC.size; simp; omega) (fun g hg => (aB.out.lt g hg).1);have bN : Hid (Ax cE _ L) := Lq7 (bH.out.below bM);clear aU aG;go_wp2_with fail;go_roundw
        case rel => exact ⟨j + 1, (o ++ [x]), _, false, rfl, rfl, by go_num, by omega, by (try simp only [lnA, lnC, lnN]); omega, aZ.out, bM, bN, HN⟩
        case measure => simp only [intOf]; omega
      ·have HN : Hid ((o ++ [x]) ++ insS s false (L.drop (j + 1)) = insS s false L) := Lq7 (by rw [← hO.out, Hd.out, insS, hls]; simp);have cB := lessS_ne hls
       go_wp2_with (at_builtin; refine wpList_append_own _ rfl _ _ 29 rfl w0.heap.size 9 i0 (.string ByteArray.empty) 1 16 Tryz.underlying29 hi bE bF bG rfl (by decide) _ _ _ rfl (aB.out.alloc _) ⟨wr.heap.size, 0, none⟩ 1 1 [.string x] rfl rfl (lit_one _ _ _) ?c2 ?c3 ?c4 ?c5 ?_)
       case c2 => simp [Value.oneCell']
       case c3 => (try simp only [lnA, lnC, lnN]); unfold maxLen; omega
       case c4 => (try simp only [lnA, lnC, lnN]); omega
       case c5 => have := aC.size; simp; omega
       intro vz4 cF aV aH _;have bA : Hid (OwnS cF w0.heap.size vz4 (o ++ [x])) := Lq7 (by unfold OwnS; simpa [lnA, List.map_append, Nat.add_assoc] using aV);have bO : Below w0.heap.size w0 cF := (aC.alloc aC.size _).grown aH (by have := aC.size; simp; omega) (fun g hg => (aB.out.lt g hg).1);have bP : Hid (Ax cF _ L) := Lq7 (bH.out.below bO);clear aV aH;go_wp2_with fail;go_roundw
       case rel => exact ⟨j + 1, (o ++ [x]), _, false, rfl, rfl, by go_num, by omega, by (try simp only [lnA, lnC, lnN]); omega, bA.out, bO, bP, HN⟩
       case measure => simp only [intOf]; omega
     ·have HN : Hid ((o ++ [x]) ++ insS s true (L.drop (j + 1)) = insS s false L) := Lq7 (by rw [← hO.out, Hd.out, insS]; simp)
      go_wp2_with (at_builtin; refine wpList_append_own _ rfl _ _ 29 rfl w0.heap.size 9 i0 (.string ByteArray.empty) 1 16 Tryz.underlying29 hi bE bF bG rfl (by decide) _ _ _ rfl (aB.out.alloc _) ⟨wr.heap.size, 0, none⟩ 1 1 [.string x] rfl rfl (lit_one _ _ _) ?c2 ?c3 ?c4 ?c5 ?_)
      case c2 => simp [Value.oneCell']
      case c3 => (try simp only [lnA, lnC, lnN]); unfold maxLen; omega
      case c4 => (try simp only [lnA, lnC, lnN]); omega
      case c5 => have := aC.size; simp; omega
      intro vz5 cG aW aI _;have bB : Hid (OwnS cG w0.heap.size vz5 (o ++ [x])) := Lq7 (by unfold OwnS; simpa [lnA, List.map_append, Nat.add_assoc] using aW);have bQ : Below w0.heap.size w0 cG := (aC.alloc aC.size _).grown aI (by have := aC.size; simp; omega) (fun g hg => (aB.out.lt g hg).1);have bR : Hid (Ax cG _ L) := Lq7 (bH.out.below bQ);clear aW aI;go_wp2_with fail;go_roundw
      case rel => exact ⟨j + 1, (o ++ [x]), _, true, rfl, rfl, by go_num, by omega, by (try simp only [lnA, lnC, lnN]); omega, bB.out, bQ, bR, HN⟩
      case measure => simp only [intOf]; omega
    ·have Hd : Hid (L.drop j = []) := Lq7 (List.drop_of_length_le (by omega));cases dn
     ·have HN : Hid (o ++ [s] = insS s false L) := Lq7 (by rw [← hO.out, Hd.out]; rfl)
      go_wp2_with (at_builtin; refine wpList_append_own _ rfl _ _ 29 rfl w0.heap.size 9 i0 (.string ByteArray.empty) 1 16 Tryz.underlying29 hi bE bF bG rfl (by decide) _ _ _ rfl (aB.out.alloc _) ⟨wr.heap.size, 0, none⟩ 1 1 [.string s] rfl rfl (lit_one _ _ _) ?c2 ?c3 ?c4 ?c5 ?_)
      case c2 => simp [Value.oneCell']
      case c3 => (try simp only [lnA, lnC, lnN]); unfold maxLen; omega
      case c4 => (try simp only [lnA, lnC, lnN]); omega
      case c5 => have := aC.size; simp; omega
      intro cM bX aX aJ _;have bC : Hid (OwnS bX w0.heap.size cM (o ++ [s])) := Lq7 (by unfold OwnS; simpa [lnA, List.map_append, Nat.add_assoc] using aX);have bS : Below w0.heap.size w0 bX := (aC.alloc aC.size _).grown aJ (by have := aC.size; simp; omega) (fun g hg => (aB.out.lt g hg).1);have hLsz6 : Hid (Ax bX _ L) := Lq7 (bH.out.below bS);clear aX aJ;have bD : Hid (OwnS bX w.heap.size cM (sortI (ts.take (k + 1)))) := Lq7 (by rw [bU.out, ← HN.out]; exact OwnS.lower bC.out bV);have cH := Lq7 (hb.out.trans (bS.mono bV));go_wp2_with fail;go_roundw
      case rel => exact ⟨k + 1, _, rfl, by go_num, by omega, bD, cH⟩
      case measure => simp only [intOf]; omega
     ·have HN : Hid (o = insS s false L) := Lq7 (by rw [← hO.out, Hd.out]; simp [insS]);have bD : Hid (OwnS wr w.heap.size _ (sortI (ts.take (k + 1)))) := Lq7 (by rw [bU.out, ← HN.out]; exact OwnS.lower aB.out bV);have cH := Lq7 (hb.out.trans (aC.mono bV));go_wp2_with fail;go_roundw
      case rel => exact ⟨k + 1, _, rfl, by go_num, by omega, bD, cH⟩
      case measure => simp only [intOf]; omega
  ·have hjl : ts.take k = ts := ltL (by omega);rw [hjl] at hown;go_wp2_with fail;go_ret;exact ⟨_, rfl, hown.out, hb.out⟩
  
theorem Kc (s : ByteArray) : ∀ l : List ByteArray, insS s true l = l
 | [] => rfl
 | x :: t => by
  unfold insS;rw [if_neg (by simp), Kc s t]
theorem insS_perm (s : ByteArray) : ∀ l : List ByteArray, (insS s false l).Perm (s :: l)
 | [] => List.Perm.refl _
 | x :: t => by
  unfold insS;split
  ·rw [Kc]
  ·exact ((insS_perm s t).cons x).trans (List.Perm.swap s x t)
def bLe (x y : ByteArray) : Prop := x.data.toList ≤ y.data.toList
theorem cond_lt {x s : ByteArray} (h : (!Op.bytesLess x.toList s.toList && !(x.toList == s.toList)) = true) : bLe s x := by
 rw [Bool.and_eq_true, Bool.not_eq_true', Bool.not_eq_true', Go.Proofs.bytesLess_eq, decide_eq_false_iff_not, Lq8, Lq8] at h;exact List.not_lt.1 h.1
theorem cond_ge {x s : ByteArray} (h : ¬ (!Op.bytesLess x.toList s.toList && !(x.toList == s.toList)) = true) : bLe x s := by
 unfold bLe;by_cases hlt : x.data.toList < s.data.toList
 ·exact List.le_of_lt hlt
 ·by_cases he : x.data.toList = s.data.toList
  ·rw [he];exact List.le_refl _
  ·exfalso;apply h;rw [Bool.and_eq_true, Bool.not_eq_true', Bool.not_eq_true', Go.Proofs.bytesLess_eq, decide_eq_false_iff_not, Lq8, Lq8, beq_eq_false_iff_ne];exact ⟨hlt, he⟩
theorem Tk (s : ByteArray) : ∀ l : List ByteArray, l.Pairwise bLe → (insS s false l).Pairwise bLe
 | [], _ => by simp [insS]
 | x :: t, h => by
  rw [List.pairwise_cons] at h;unfold insS;split
  ·rename_i hc
   rw [Bool.and_eq_true] at hc;have h1 := cond_lt hc.2;rw [Kc, List.pairwise_cons, List.pairwise_cons];refine ⟨fun y hy => ?_, h.1, h.2⟩;rcases List.mem_cons.1 hy with rfl | hy
   ·exact h1
   ·exact List.le_trans h1 (h.1 y hy)
  ·rename_i hc
   have h1 : bLe x s := cond_ge (fun e => hc (by rw [e]; rfl));rw [List.pairwise_cons];refine ⟨fun y hy => ?_, Tk s t h.2⟩;rcases List.mem_cons.1 ((insS_perm s t).mem_iff.1 hy) with rfl | hy
   ·exact h1
   ·exact h.1 y hy
theorem S0 (ts : List ByteArray) : ∀ acc : List ByteArray, acc.Pairwise bLe → (ts.foldl (fun l s => insS s false l) acc).Pairwise bLe ∧ (ts.foldl (fun l s => insS s false l) acc).Perm (ts ++ acc) := by
 induction ts with
 | nil => exact fun acc h => ⟨h, List.Perm.refl _⟩
 | cons s t ih =>
  intro acc h;have := ih (insS s false acc) (Tk s acc h);refine ⟨this.1, this.2.trans ?_⟩;exact (List.Perm.append_left t (insS_perm s acc)).trans List.perm_middle
theorem map_data_inj : ∀ {l m : List ByteArray}, l.map (·.data.toList) = m.map (·.data.toList) → l = m
 | [], [], _ => rfl
 | [], _ :: _, h => by simp at h
 | _ :: _, [], h => by simp at h
 | x :: t, y :: u, h => by
  rw [List.map_cons, List.map_cons, List.cons.injEq] at h;rw [bytes_ext h.1, map_data_inj h.2]
theorem sortI_eq (ts : List ByteArray) : sortI ts = sortL ts := by
 obtain ⟨h1, h2⟩ := S0 ts [] List.Pairwise.nil;rw [List.append_nil] at h2;apply map_data_inj;rw [I0];refine List.Perm.eq_of_pairwise (le := fun a b => leB a b = true) (fun a b _ _ h3 h4 => ?_) ?_ (List.pairwise_mergeSort ?_ ?_ _) ((h2.map _).trans (List.mergeSort_perm _ _).symm)
 ·unfold leB at h3 h4;exact List.le_antisymm (of_decide_eq_true h3) (of_decide_eq_true h4)
 ·rw [List.pairwise_map];exact h1.imp fun {a b} h => decide_eq_true (show a.data.toList ≤ b.data.toList from h)
 ·intro a b c h3 h4;unfold leB at h3 h4 ⊢;exact decide_eq_true (List.le_trans (of_decide_eq_true h3) (of_decide_eq_true h4))
 ·intro a b;unfold leB;rcases List.le_total a b with h | h
  ·rw [decide_eq_true h]; rfl
  ·rw [decide_eq_true h, Bool.or_true]
end Go.Proofs.YtcofbdjakicojaaGreatDoor
