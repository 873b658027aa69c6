/-
  What value.Print says of a value, in plain words; the walk of value.all.
  The walks of pack.Num, and of value.text at all but dicts.
  The walk of value.text at a dict; value.text and value.Print at any value.
  How long a value's text is at most; the walk of value.Print.
  The walk of the plain host's bulk: how many bytes the texts in a value have.
  The walk of the plain host's str: the text of a value.
  The walk of the plain host's strs: texts alone.
  The walk of the plain host's replace. (Printed by repl_gen.py.)
  The walk of the document's text of a value: none, bools, numbers, texts.
  The walk of the document's text of a value: lists and dicts. (Printed by textR_gen.py.)
  The walks of the document's text, all kinds, and Print of a value that may be.
  The walk of the document's replace.
  The walk of the document's bulk.
-/
import Derived.Lib.LaidTab
import Derived.Lib.ItoaNum
import Derived.Laws.OwnMore
import Derived.Lib.ItoaLen
import Derived.Lib.SplitLaws
import Derived.Test.YtcofbdjakicojaaGreatDoorMRefQuote
import Derived.Test.YtcofbdjakicojaaGreatDoorMGreatX
import Derived.Test.YtcofbdjakicojaaGreatDoorJoin
import Derived.Test.YtcofbdjakicojaaGreatDoorMEvalPlain
import Derived.Test.YtcofbdjakicojaaGreatDoorMNumA
import Derived.Test.YtcofbdjakicojaaGreatDoorMSix
import Derived.Test.YtcofbdjakicojaaGreatDoorMLimited
import Derived.Test.YtcofbdjakicojaaGreatDoorMHeldSkip
import Derived.Test.YtcofbdjakicojaaGreatDoorShelf
import Derived.Test.YtcofbdjakicojaaGreatDoorMTexts11
import Derived.Test.YtcofbdjakicojaaGreatDoorMScanR
namespace Go.Proofs.YtcofbdjakicojaaGreatDoor
open Go Go.RowKit
open List renaming getElem?_eq_getElem → lgE, mem_of_getElem? → lgM, length_append → lnA, take_add_one → ltA, take_of_length_le → ltL, length_map → lnM, length_take → lnT, getElem_toArray → lgA, getElem_cons_succ → lgB, getElem_cons_zero → lgC, setIfInBounds_toArray → laA, set_cons_zero → lsA, set_cons_succ → lsB, length_cons → lnC, length_nil → lnN, getElem?_map → lgP, mem_cons_self → lmS, mem_cons_of_mem → lmO
open Nat renaming le_refl → nlr, zero_le → nlz, add_zero → naz, lt_of_lt_of_le → nll, le_trans → nlt, zero_mul → nzm
open Go.Lib renaming hid → Lq7, toList_data → Lq8
open Go.Act renaming put → aP
set_option maxRecDepth 100000
set_option maxHeartbeats 16000000
def toBs (l : List UInt8) : ByteArray := ⟨l.toArray⟩
theorem Ic (l : List UInt8) : (toBs l).data.toList = l := rfl
def entriesL (ks : List ByteArray) (ts : List (List UInt8)) : List (List UInt8) := List.zipWith (fun k t => quoteL k.data.toList ++ [58, 32] ++ t) ks ts
mutual
def textV : Vl → List UInt8
 | .mk k n s l ks => if k = 1 then (if n = 1 then [116, 114, 117, 101] else [102, 97, 108, 115, 101]) else if k = 2 then Lib.itoa n else if k = 3 then quoteL s.data.toList
  else if k = 4 then [91] ++ Lib.join (textVs l) [44, 32] ++ [93] else if k = 5 then [123] ++ Lib.join (entriesL ks (textVs l)) [44, 32] ++ [125] else [110, 111, 110, 101]
def textVs : List Vl → List (List UInt8)
 | [] => []
 | v :: t => textV v :: textVs t
end
theorem textVs_map : ∀ l : List Vl, textVs l = l.map textV
 | [] => rfl
 | v :: t => by rw [textVs, textVs_map t, List.map_cons]
def printV (v : Vl) : List UInt8 := if checkV v then textV v else []
mutual
def prV : Vl → Prop
 | .mk k n s l ks => inR n = true ∧ s.size ≤ 65536 ∧ l.length ≤ 1000 ∧ ks.length ≤ 1000 ∧ (∀ x ∈ ks, x.size ≤ 65536) ∧ (k = 5 → l.length = ks.length) ∧ prVs l
def prVs : List Vl → Prop
 | [] => True
 | v :: t => prV v ∧ prVs t
end
theorem prVs_mem : ∀ {l : List Vl} {x : Vl}, prVs l → x ∈ l → prV x
 | _ :: _, _, h, .head _ => h.1
 | _ :: _, _, h, .tail _ hm => prVs_mem h.2 hm
theorem Ra {n : Int} {s : ByteArray} {l : List Vl} {ks : List ByteArray} (h : nodeOk 5 n s l ks = true) : l.length = ks.length := by
 unfold nodeOk at h;rw [if_neg (by decide), if_neg (by decide), if_neg (by decide), if_neg (by decide), if_neg (by decide), if_pos rfl] at h;simp only [Bool.and_eq_true, beq_iff_eq] at h;exact h.1.2
theorem may_pr (v : Vl) : ∀ d m, (mayV v d m).1 = true → prV v :=
 Vl.rec (motive_1 := fun v => ∀ d m, (mayV v d m).1 = true → prV v) (motive_2 := fun l => ∀ d m, (mayVs l d m).1 = true → prVs l)
  (fun k n s l ks ih d m h => by
   rw [mayV] at h;split at h
   ·cases h
   ·split at h
    ·rename_i hk
     obtain ⟨h1, h2, h3, h4⟩ := Gl hk;rw [prV];exact ⟨Ob hk, h1, h2, h3, h4, fun e => by subst e; exact Ra hk, ih _ _ h⟩
    ·cases h)
  (fun _ _ _ => by rw [prVs]; trivial)
  (fun v t hv ht d m h => by
   rw [mayVs] at h;split at h
   ·rename_i h1
    rw [prVs];exact ⟨hv _ _ h1, ht _ _ h⟩
   ·cases h) v
theorem G7 {v : Vl} (h : checkV v = true) : prV v := may_pr v _ _ h
def textMax : Nat := 140737488355328
def Jn (x : Vl) : Prop := prV x → (textV x).length ≤ textMax → ∀ (F : Nat → Prop) (a1 : Option Addr) (c1 : Nat) (a2 : Option Addr) (c2 : Nat) (w : World), (∀ b, F b → b < w.heap.size) → Dq w → Ac F w a1 (valsD x.items) → Ac F w a2 (Aq x.keys) →
 Calls Tryz.prog 251 #[vCells x.kind x.num x.str a1 x.items.length c1 a2 x.keys.length c2] w (Dp (textV x) w)
def PAll (l : List Vl) (w : World) (e : Ending) (w' : World) : Prop := ∃ v, e = .returned v ∧ OwnS w' w.heap.size v (l.map fun x => toBs (textV x)) ∧ Below w.heap.size w w'
theorem Ms (l : List Vl) (hl : l.length ≤ 1000) (hc : ∀ x ∈ l, Jn x ∧ prV x ∧ (textV x).length ≤ textMax) (F : Nat → Prop) (a : Option Addr) (cap : Nat) (w : World) (hF : ∀ b, F b → b < w.heap.size) (hT : Dq w) (hr : Ac F w a (valsD l)) :
  Calls Tryz.prog 259 #[.slice a l.length cap, .func (.func 251) #[] #[]] w (PAll l w) := by
 obtain ⟨i0, hi, hz0, hz1, hz2⟩ := info_parts infoStr;have hen : ∀ args w, (callFunc 251 args).run Tryz.prog w = .ok (.enter 251 args) w := enters_of Tryz.func251 (by kernel_rfl) rfl;have Hc := Lq7 hc;have HF := Lq7 hF;have HT := Lq7 hT;have Hr := Lq7 hr;clear hc hF hT hr;go_enter Tryz.func259, Tryz.ntmps259;go_wp2_with fail
 go_loopw [5, 10] (fun v i wr => ∃ (k : Nat) (v' : Value), v = v' ∧ i = .int .i64 k ∧ k ≤ l.length ∧ Hid (OwnS wr w.heap.size v' ((l.take k).map fun x => toBs (textV x))) ∧ Hid (Below w.heap.size w wr)) (fun _ i _ => l.length - (intOf i).toNat)
 case atStart => exact ⟨0, _, rfl, rfl, nlz _, Lq7 (OwnS.nil _ _), Lq7 (Below.refl _ _)⟩
 case round =>
  obtain ⟨k, v, hv, rfl, hk, hown, aH⟩ := hrel;have hv := hv.symm;subst hv;by_cases hlt : k < l.length
  ·cases hx : l[k] with
   | mk xk xn xs xl xks =>
    have aM : l[k]? = some (.mk xk xn xs xl xks) := (by rw [lgE hlt, hx]);have aW : (l.take (k + 1)).map (fun x => toBs (textV x)) = (l.take k).map (fun x => toBs (textV x)) ++ [toBs (textV (.mk xk xn xs xl xks))] := (by rw [ltA, aM]; simp);obtain ⟨b, off, a1, c1, a2, c2, hae, -, hbl, r0, r1, r2, r3, r4, aX, aY⟩ := (Hr.out.below aH.out).val aM;obtain ⟨aZ, bA, bB⟩ := Hc.out _ (lgM aM);have aG : Below wr.heap.size wr (wr.alloc (.cells #[.int .i64 xk, .int .i64 xn, .string xs, .slice a1 xl.length c1, .slice a2 xks.length c2] 31)) := (Below.refl _ wr).alloc (nlr _) _;have HX := Lq7 (aZ bA bB F a1 c1 a2 c2 _ (fun b hb => by have := HF.out b hb; have := aH.out.size; have := aG.size; omega) ((HT.out.below aH.out).below aG) (aX.below aG) (aY.below aG));unfold vCells at HX;have aE := Lq7 (hown.out.below aG);have aQ := Lq7 (aH.out.trans (aG.mono aH.out.size));have Htk := Lq7 aW;clear hx aM aW aX aY aZ bA bB aG hown;subst hae;go_wp2_with fail;refine HX.out.mono ?_;rintro e w1 ⟨o, rfl, ho, aR⟩;obtain rfl : o = toBs (textV (.mk xk xn xs xl xks)) := bytes_ext ho;have aB := Lq7 (aE.out.below aR);have aI := Lq7 (aQ.out.trans (aR.mono aQ.out.size));generalize toBs (textV (.mk xk xn xs xl xks)) = o at *;clear ho aR HX aE aQ;have aU : Below w1.heap.size w1 (w1.alloc (.cells #[.string o] 9)) := (Below.refl _ w1).alloc (nlr _) _;have Hn := Lq7 (And.intro (lit_one w1 (.string o) 9) (aB.out.below aU));have aN : ((l.take k).map fun x => toBs (textV x)).length = k := (by rw [lnM, lnT]; omega)
    go_wp2_with (at_builtin; refine Bb rfl _ _ 29 rfl w.heap.size 9 i0 (.string ByteArray.empty) 1 16 Tryz.underlying29 hi hz0 hz1 hz2 rfl (by decide) v _ _ rfl Hn.out.2 ⟨w1.heap.size, 0, none⟩ 1 1 [.string o] rfl rfl Hn.out.1 ?_ ?_ ?_ ?_ ?_)
    ·simp [Value.oneCell']
    ·rw [aN]; unfold maxLen; omega
    ·rw [aN]; omega
    ·have := aI.out.size; simp; omega
    intro v2 w2 aC bC _;have aF : OwnS w2 w.heap.size v2 ((l.take (k + 1)).map fun x => toBs (textV x)) := by
     rw [Htk.out];unfold OwnS;rw [lnA, List.map_append, List.map_map, aN]
     first | exact aC | (rw [List.map_take]; exact aC)
    have aJ := Lq7 aF;have Hb3 := Lq7 ((aI.out.trans (aU.mono aI.out.size)).trans (A9 bC (fun g e => (aB.out.block e).1) (by have := aI.out.size; simp; omega)));clear aC aF bC Hn aU aB aI aN;go_wp2_with fail;go_roundw
    case rel => exact ⟨k + 1, _, rfl, by go_num, by omega, aJ, Hb3⟩
    case measure => simp only [intOf]; omega
  ·have aV : Hid (OwnS wr w.heap.size v (l.map fun x => toBs (textV x))) := Lq7 (by have := hown.out; rwa [ltL (by omega)] at this);clear hown;go_wp2_with fail;go_ret;exact ⟨_, rfl, aV.out, aH.out⟩
theorem le_sum : ∀ {l : List Nat} {x : Nat}, x ∈ l → x ≤ l.sum
 | _ :: _, _, .head _ => by rw [List.sum_cons]; omega
 | _ :: _, _, .tail _ h => by have := le_sum h; rw [List.sum_cons]; omega
theorem Df {l : List (List UInt8)} {x : List UInt8} (sep : List UInt8) (h : x ∈ l) : x.length ≤ (Lib.join l sep).length := by
 rw [Es];have : x.length ≤ (l.map List.length).sum := le_sum (List.mem_map_of_mem h);omega
structure TB (w W : World) (x : Array Value) : Prop where
 below : Below w.heap.size w W
 v : W.heap[w.heap.size]? = some (.cells x 31 (0, 0))
theorem TB.later {w W W' : World} {x : Array Value} (h : TB w W x) (hb : Below W.heap.size W W') : TB w W' x := ⟨h.below.trans (hb.mono h.below.size), stays h.v hb⟩
theorem Vv (n : Int) (s : ByteArray) (l : List Vl) (ks : List ByteArray) (ih : ∀ x ∈ l, Jn x) : Jn (.mk 4 n s l ks) := by
 intro hp hmax F a1 c1 a2 c2 w hF hT aE aG;show Calls Tryz.prog 251 #[vCells 4 n s a1 l.length c1 a2 ks.length c2] w _;rw [prV] at hp;obtain ⟨-, -, hl, -, -, -, aJ⟩ := hp;have ht : textV (.mk 4 n s l ks) = [91] ++ Lib.join (textVs l) [44, 32] ++ [93] := rfl;rw [ht] at hmax ⊢;simp only [lnA, List.length_singleton] at hmax;have H0 : Hid (TB w (w.alloc (.cells #[.int .i64 4, .int .i64 n, .string s, .slice a1 l.length c1, .slice a2 ks.length c2] 31)) #[.int .i64 4, .int .i64 n, .string s, .slice a1 l.length c1, .slice a2 ks.length c2]) := Lq7 ⟨(Below.refl _ w).alloc (nlr _) _, heap_alloc_new w _⟩;have hT' := hT.below H0.out.below;have HA := Lq7 (Ms l hl (fun x hx => ⟨ih x hx, prVs_mem aJ hx, by
  have := Df [44, 32] (l := textVs l) (x := textV x) (by rw [textVs_map]; exact List.mem_map_of_mem hx);omega⟩) F a1 c1 _ (fun b hb => by have := hF b hb; have := H0.out.below.size; omega) hT' (aE.below H0.out.below))
 clear hF hT aE aG ih aJ hT';unfold vCells;go_enter Tryz.func251, Tryz.ntmps251;go_wp2_with fail;refine HA.out.mono ?_;rintro e w1 ⟨v, rfl, hown, aB⟩;obtain ⟨aT, cT, rfl, aM, hcap⟩ := hown.strsAt;have H1 := Lq7 (H0.out.later aB);have aF : (joinB (l.map fun x => toBs (textV x)) ⟨#[44, 32]⟩).data.toList = Lib.join (textVs l) [44, 32] := by
  show Lib.join ((l.map fun x => toBs (textV x)).map (·.data.toList)) [44, 32] = _;rw [List.map_map, textVs_map];rfl
 have aN : (joinB (l.map fun x => toBs (textV x)) ⟨#[44, 32]⟩).size ≤ 140737488355328 := by
  rw [← Af, aF];unfold textMax at hmax;omega
 have HJ := Lq7 (Js aT cT _ ⟨#[44, 32]⟩ w1 aM hcap (by rw [lnM]; exact hl) aN);generalize joinB (l.map fun x => toBs (textV x)) ⟨#[44, 32]⟩ = jb at HJ aF aN;have aQ := Lq7 aF;clear hown aB aM aF hcap HA H0;generalize (l.map fun x => toBs (textV x)).length = ll at HJ ⊢;go_wp2_with fail;refine HJ.out.mono ?_;rintro e w2 ⟨rfl, aR⟩;have H2 := Lq7 (H1.out.later aR);have z1 : ¬ 9223372036854775807 < jb.size + 1 := (by omega);have z2 : ¬ 9223372036854775807 < 1 + jb.size := (by omega);have z3 : ¬ 9223372036854775807 < 1 + jb.size + 1 := (by omega);have aH : Hid ((⟨#[91]⟩ ++ jb ++ ⟨#[93]⟩ : ByteArray).data.toList = [91] ++ Lib.join (textVs l) [44, 32] ++ [93]) := Lq7 (by
  rw [ByteArray.data_append, ByteArray.data_append, Array.toList_append, Array.toList_append, aQ.out])
 clear aR HJ H1 aQ;go_wp2_with fail;go_ret;exact ⟨_, rfl, aH.out, H2.out.below⟩
theorem S1 (k n : Int) (s : ByteArray) (l : List Vl) (ks : List ByteArray) (h4 : k ≠ 4) (h5 : k ≠ 5) : Jn (.mk k n s l ks) := by
 intro hp hmax F a1 c1 a2 c2 w hF hT aE aG;show Calls Tryz.prog 251 #[vCells k n s a1 l.length c1 a2 ks.length c2] w _;rw [prV] at hp;obtain ⟨hn, hs, -⟩ := hp;have aI : Below w.heap.size w (w.alloc (.cells #[.int .i64 k, .int .i64 n, .string s, .slice a1 l.length c1, .slice a2 ks.length c2] 31)) := (Below.refl _ w).alloc (nlr _) _;have aC := Lq7 aI;have HN := Lq7 (Tc n hn _ (hT.below aI));have HQ := Lq7 (N3 s (w.alloc (.cells #[.int .i64 k, .int .i64 n, .string s, .slice a1 l.length c1, .slice a2 ks.length c2] 31)) hs);clear hF hT aE aG aI hn hmax;unfold vCells;by_cases h1 : k = 1
 ·subst h1;by_cases hn1 : n = 1
  ·subst hn1;go_enter Tryz.func251, Tryz.ntmps251;go_wp2_with fail;go_ret;exact ⟨_, rfl, rfl, aC.out⟩
  ·have ht : Hid (textV (.mk 1 n s l ks) = [102, 97, 108, 115, 101]) := Lq7 (by rw [textV, if_pos rfl, if_neg hn1]);have hn1b : (n == 1) = false := (by simpa using hn1);go_enter Tryz.func251, Tryz.ntmps251;go_wp2_with fail;go_ret;exact ⟨_, rfl, ht.out.symm, aC.out⟩
 by_cases h2 : k = 2
 ·subst h2;go_enter Tryz.func251, Tryz.ntmps251;go_wp2_with fail;refine HN.out.mono ?_;rintro e w1 ⟨o, rfl, ho, aB⟩;have H1 := Lq7 (And.intro ho (aC.out.trans (aB.mono aC.out.size)));clear ho aB;go_wp2_with fail;go_ret;exact ⟨_, rfl, H1.out.1, H1.out.2⟩
 by_cases h3 : k = 3
 ·subst h3;go_enter Tryz.func251, Tryz.ntmps251;go_wp2_with fail;refine HQ.out.mono ?_;rintro e w1 ⟨o, rfl, ho, aB⟩;have H1 := Lq7 (And.intro ho (aC.out.trans (aB.mono aC.out.size)));clear ho aB;go_wp2_with fail;go_ret;exact ⟨_, rfl, H1.out.1, H1.out.2⟩
 ·have ht : Hid (textV (.mk k n s l ks) = [110, 111, 110, 101]) := Lq7 (by rw [textV, if_neg h1, if_neg h2, if_neg h3, if_neg h4, if_neg h5]);have e1 : (k == 1) = false := (by simpa using h1);have e2 : (k == 2) = false := (by simpa using h2);have e3 : (k == 3) = false := (by simpa using h3);have e4 : (k == 4) = false := (by simpa using h4);have e5 : (k == 5) = false := (by simpa using h5);go_enter Tryz.func251, Tryz.ntmps251;go_wp2_with fail;go_ret;exact ⟨_, rfl, ht.out.symm, aC.out⟩
def mixB (ks : List ByteArray) (l : List Vl) (i : Nat) : List ByteArray := ((entriesL ks (textVs l)).take i).map toBs ++ (l.drop i).map fun x => toBs (textV x)
theorem De {ks : List ByteArray} {l : List Vl} (h : l.length = ks.length) : (entriesL ks (textVs l)).length = l.length := by
 rw [entriesL, List.length_zipWith, textVs_map, lnM];omega
theorem Tl {ks : List ByteArray} {l : List Vl} (h : l.length = ks.length) {i : Nat} (hi : i ≤ l.length) : (mixB ks l i).length = l.length := by
 rw [mixB, lnA, lnM, lnM, lnT, List.length_drop, De h];omega
theorem mix_get {ks : List ByteArray} {l : List Vl} (h : l.length = ks.length) {i : Nat} {x : Vl} (hx : l[i]? = some x) : (mixB ks l i)[i]? = some (toBs (textV x)) := by
 have hi := (List.getElem?_eq_some_iff.1 hx).1;unfold mixB;have h1 : (((entriesL ks (textVs l)).take i).map toBs).length = i := (by rw [lnM, lnT, De h]; omega);rw [List.getElem?_append_right (by omega), h1, Nat.sub_self, lgP, List.getElem?_drop, naz, hx];rfl
theorem Od {ks : List ByteArray} {l : List Vl} {i : Nat} {x : Vl} {key : ByteArray} (hx : l[i]? = some x) (hk : ks[i]? = some key) : (entriesL ks (textVs l))[i]? = some (quoteL key.data.toList ++ [58, 32] ++ textV x) := by
 rw [entriesL, textVs_map, List.getElem?_zipWith, hk, lgP, hx];rfl
theorem mix_set {ks : List ByteArray} {l : List Vl} (h : l.length = ks.length) {i : Nat} {x : Vl} {key : ByteArray} (hx : l[i]? = some x) (hk : ks[i]? = some key) :
  (mixB ks l i).set i (toBs (quoteL key.data.toList ++ [58, 32] ++ textV x)) = mixB ks l (i + 1) := by
 have hi := (List.getElem?_eq_some_iff.1 hx).1;have h1 : (((entriesL ks (textVs l)).take i).map toBs).length = i := (by rw [lnM, lnT, De h]; omega);have hlx := (List.getElem?_eq_some_iff.1 hx).2;unfold mixB;rw [List.set_append_right _ _ (by omega), h1, Nat.sub_self, List.drop_eq_getElem_cons hi, List.map_cons, lsA, ltA, Od hx hk, Option.toList_some, List.map_append, List.append_assoc (List.map toBs _)];rfl
theorem mix_all {ks : List ByteArray} {l : List Vl} (h : l.length = ks.length) {i : Nat} (hi : l.length ≤ i) : mixB ks l i = (entriesL ks (textVs l)).map toBs := by
 unfold mixB;rw [ltL (by rw [De h]; exact hi), List.drop_eq_nil_of_le hi];simp
theorem Mq {ks : List ByteArray} {l : List Vl} (h : l.length = ks.length) {i : Nat} {x : Vl} (hx : l[i]? = some x) : ∃ key, ks[i]? = some key ∧ (quoteL key.data.toList).length + 2 + (textV x).length ≤ (Lib.join (entriesL ks (textVs l)) [44, 32]).length := by
 have hi := (List.getElem?_eq_some_iff.1 hx).1;have hk : ks[i]? = some (ks[i]'(by omega)) := lgE (by omega);refine ⟨_, hk, ?_⟩;have := Df [44, 32] (lgM (Od hx hk));simp only [lnA, lnC, lnN] at this;omega
theorem OwnS.froze {w : World} {base g n cap : Nat} {l : List ByteArray} {v : Value} (h : OwnS w base v l) (hv : v = .slice (some ⟨g, 0, none⟩) n cap) (i : Nat) : w.frozen? ⟨g, i, none⟩ = false := by
 subst hv;obtain ⟨-, ⟨h1, -⟩ | ⟨g', cp, cur, h1, -, h2, -⟩⟩ := h
 ·simp only [Value.slice.injEq, reduceCtorEq, false_and] at h1
 ·simp only [Value.slice.injEq, Option.some.injEq, Addr.mk.injEq] at h1;obtain ⟨⟨rfl, -⟩, -⟩ := h1;exact (Ao h2).2.2 i
theorem OwnS.off {w : World} {base g o n cap : Nat} {l : List ByteArray} (h : OwnS w base (.slice (some ⟨g, o, none⟩) n cap) l) : o = 0 := by
 obtain ⟨-, ⟨h1, -⟩ | ⟨g', cp, cur, h1, -⟩⟩ := h
 ·simp only [Value.slice.injEq, reduceCtorEq, false_and] at h1
 ·simp only [Value.slice.injEq, Option.some.injEq, Addr.mk.injEq] at h1;exact h1.1.2.1
theorem OwnS.put {w : World} {base g cap n : Nat} {l : List ByteArray} (h : OwnS w base (.slice (some ⟨g, 0, none⟩) n cap) l) (i : Nat) (s : ByteArray) : OwnS (w.setCell ⟨g, i, none⟩ (.string s)) base (.slice (some ⟨g, 0, none⟩) n cap) (l.set i s) := by
 have h0 := h;obtain ⟨h1, ⟨h2, -⟩ | ⟨g', cap', cur, h2, -⟩⟩ := h0
 ·cases h2
 ·injection h2 with e1 e2 e3;unfold OwnS at h ⊢;rw [List.length_set, List.map_set];rw [← e2] at h ⊢;exact (World.ownsRow.stored h i (.string s)).1
theorem Vt (n : Int) (s : ByteArray) (l : List Vl) (ks : List ByteArray) (ih : ∀ x ∈ l, Jn x) : Jn (.mk 5 n s l ks) := by
 intro hp hmax F a1 c1 a2 c2 w hF hT bA bB;show Calls Tryz.prog 251 #[vCells 5 n s a1 l.length c1 a2 ks.length c2] w _;rw [prV] at hp;obtain ⟨-, -, hl, -, aN, aI, bC⟩ := hp;have aQ := aI rfl;clear aI;have ht : textV (.mk 5 n s l ks) = [123] ++ Lib.join (entriesL ks (textVs l)) [44, 32] ++ [125] := (by rw [textV, if_neg (by decide), if_neg (by decide), if_neg (by decide), if_neg (by decide), if_pos rfl]);rw [ht] at hmax ⊢;simp only [lnA, List.length_singleton] at hmax;have H0 : Hid (TB w (w.alloc (.cells #[.int .i64 5, .int .i64 n, .string s, .slice a1 l.length c1, .slice a2 ks.length c2] 31)) #[.int .i64 5, .int .i64 n, .string s, .slice a1 l.length c1, .slice a2 ks.length c2]) := Lq7 ⟨(Below.refl _ w).alloc (nlr _) _, heap_alloc_new w _⟩;have hT' := hT.below H0.out.below;have HA := Lq7 (Ms l hl (fun x hx => ⟨ih x hx, prVs_mem bC hx, by
  obtain ⟨i, hi⟩ := List.getElem?_of_mem hx;obtain ⟨key, -, bD⟩ := Mq aQ hi;omega⟩) F a1 c1 _ (fun b hb => by have := hF b hb; have := H0.out.below.size; omega) hT' (bA.below H0.out.below))
 have Hk := Lq7 (bB.below H0.out.below).strs;have Hkz := Lq7 aN;have aF := Lq7 aQ;have Hit := Lq7 (fun i x (hx : l[i]? = some x) => Mq aQ hx);clear hF hT bA bB ih bC hT' aN aQ ht;unfold vCells;go_enter Tryz.func251, Tryz.ntmps251;go_wp2_with fail;refine HA.out.mono ?_;rintro e w1 ⟨v, rfl, hown, aX⟩;have hown : OwnS w1 (w.alloc (.cells #[.int .i64 5, .int .i64 n, .string s, .slice a1 l.length c1, .slice a2 ks.length c2] 31)).heap.size v (mixB ks l 0) := hown;obtain ⟨aT, cT, bE, -, -⟩ := hown.strsAt;rw [Tl aF.out (nlz _)] at bE;subst bE;have H1 := Lq7 (H0.out.later aX);have Hb1 := Lq7 aX;have aG := Lq7 hown;have hbs := H0.out.below.size;have hb0s := here H0.out.v;obtain ⟨q0, q1, q2, q3, q4, q5, -⟩ := five_facts H1.out.v;clear hown aX HA;go_wp2_with fail;clear q0 q1 q2 q3 q4 q5;generalize hW0 : w.alloc (.cells #[.int .i64 5, .int .i64 n, .string s, .slice a1 l.length c1, .slice a2 ks.length c2] 31) = W0 at *;clear hW0
 go_loopw [39] (fun i wr => ∃ k : Nat, i = .int .i64 k ∧ k ≤ l.length ∧ Hid (OwnS wr W0.heap.size (.slice aT l.length cT) (mixB ks l k)) ∧ Hid (Below W0.heap.size W0 wr)) (fun i _ => l.length - (intOf i).toNat)
 case atStart => exact ⟨0, rfl, nlz _, aG, Hb1⟩
 case round =>
  obtain ⟨k, rfl, hk, hown, aR⟩ := hrel;by_cases hlt : k < l.length
  ·have aU : l[k]? = some l[k] := lgE hlt;obtain ⟨key, aB, bD⟩ := Hit.out k _ aU;have hklt : k < ks.length := (List.getElem?_eq_some_iff.1 aB).1;obtain ⟨bK, oK, hak, hck⟩ := (Hk.out.below aR.out) k key aB;obtain ⟨aT', cT', hv', hst', -⟩ := hown.out.strsAt;rw [Tl aF.out hk] at hv';cases hv';obtain ⟨g, oT, haT, aY⟩ := hst' k _ (mix_get aF.out aU);subst haT hak;obtain rfl := hown.out.off;rw [Nat.zero_add] at aY;have bF := hown.out.block (g := g) rfl;have aN := Hkz.out key (lgM aB);have HN := Lq7 (mix_set aF.out aU aB);generalize hx : l[k] = x at *;have HQ := Lq7 (fun W => N3 key W aN);have hsz1 : (toBs (textV x)).size + (quoteL key.data.toList).length ≤ 140737488355328 := by
    rw [← Af, Ic];unfold textMax at hmax;omega
   generalize hq : textV x = tx at *;have aG := Lq7 hown.out;have aV := Lq7 aR.out;clear hx hq aU aB bD hst' hown aR hmax;go_wp2_with fail;refine Ae (.s 0 (.s 1 (.s 2 (.s 5 (.s 6 (.s 7 (.s 8 (.h 3 (.s 4 (.s 9 (.s 10 (.h 11 .nil)))))))))))) 11 (fun W' => W'.cell? ⟨g, k, none⟩ = some (.string (toBs tx))) (by kernel_rfl) (by kernel_rfl) (fun c a d v w h => by cases d <;> exact h) aY ?_
   have H2 : Hid (OwnS wr.drew W0.heap.size (.slice (some ⟨g, 0, none⟩) l.length cT) (mixB ks l k) ∧ Below W0.heap.size W0 wr.drew) := Lq7 ⟨aG.out.below (Below.refl _ _).drew, aV.out.drew⟩;have bG : g < wr.drew.heap.size := bF.2;have bH : wr.drew.cell? ⟨g, k, none⟩ = some (.string (toBs tx)) := (by rw [World.cell?_drew]; exact aY);generalize World.drew _ = Wd at H2 bG bH ⊢;refine Aa (.slice (some ⟨g, 0, none⟩) l.length cT) rfl rfl (fun W' hS => ?_) ?_
   ·go_simp
   (try simp only [lgA, lgC, aP, laA, lsA, lsB]);refine Aa (.int .i64 (k : Nat)) rfl rfl (fun W' hS => ?_) ?_
   ·go_simp
   (try simp only [lgA, lgB, lgC, aP, laA, lsA, lsB]);refine Aa (.string key) rfl rfl (fun W' hS => ?_) ?_
   ·go_simp
   (try simp only [lgA, lgB, lgC, aP, laA, lsA, lsB]);refine Aa (.slice (some ⟨g, 0, none⟩) l.length cT) rfl rfl (fun W' hS => ?_) ?_
   ·go_simp
   (try simp only [lgA, lgB, lgC, aP, laA, lsA, lsB]);refine Aa (.int .i64 (k : Nat)) rfl rfl (fun W' hS => ?_) ?_
   ·go_simp
   (try simp only [lgA, lgB, lgC, aP, laA, lsA, lsB]);refine Aa (.pointer (some ⟨g, k, none⟩)) rfl rfl (fun W' hS => ?_) ?_
   ·go_simp
   (try simp only [lgA, lgB, lgC, aP, laA, lsA, lsB]);refine Aa (.string (toBs tx)) rfl rfl (fun W' hS => ?_) ?_
   ·go_simp
   (try simp only [lgA, lgB, lgC, aP, laA, lsA, lsB]);refine Ad rfl (fun K hK => ?_);go_wp2_with fail;refine (HQ.out _).mono ?_;rintro e w3 ⟨q, rfl, hq, aJ⟩;have hqs : q.size = (quoteL key.data.toList).length := (by rw [← hq, Af]);have H3 := Lq7 (And.intro (H2.out.1.below aJ) (H2.out.2.trans (aJ.mono H2.out.2.size)));have hS3 : w3.cell? ⟨g, k, none⟩ = some (.string (toBs tx))  := (aJ.cell (p := ⟨g, k, none⟩) bG).trans bH;have hgw3 : g < w3.heap.size := (by have := aJ.size; omega);clear aJ H2;go_wp2_with fail;refine hK _ _ (fun _ => hS3) ?_;(try simp only [lgA, lgB, lgC, aP, laA, lsA, lsB]);refine Aa (.string (q ++ ⟨#[58, 32]⟩)) rfl rfl (fun W' hS => ?_) ?_
   ·go_simp;omega
   (try simp only [lgA, lgB, lgC, aP, laA, lsA, lsB]);refine Aa (.string (q ++ ⟨#[58, 32]⟩ ++ toBs tx)) rfl rfl (fun W' hS => ?_) ?_
   ·go_simp;omega
   (try simp only [lgA, lgB, lgC, aP, laA, lsA, lsB]);refine Aa (.pointer (some ⟨g, k, none⟩)) rfl rfl (fun W' hS => ?_) ?_
   ·go_simp
   (try simp only [lgA, lgB, lgC, aP, laA, lsA, lsB]);refine Ad rfl (fun K2 hK2 => ?_);have hfz : w3.frozen? ⟨g, k, none⟩ = false := H3.out.1.froze rfl k;have aH : (q ++ ⟨#[58, 32]⟩ ++ toBs tx : ByteArray) = toBs (quoteL key.data.toList ++ [58, 32] ++ tx) := bytes_ext (by
    rw [ByteArray.data_append, ByteArray.data_append, Array.toList_append, Array.toList_append, hq, Ic, Ic])
   have H4 : Hid (OwnS (w3.setCell ⟨g, k, none⟩ (.string (q ++ ⟨#[58, 32]⟩ ++ toBs tx))) W0.heap.size (.slice (some ⟨g, 0, none⟩) l.length cT) (mixB ks l (k + 1)) ∧ Below W0.heap.size W0 (w3.setCell ⟨g, k, none⟩ (.string (q ++ ⟨#[58, 32]⟩ ++ toBs tx)))) := Lq7 ⟨by
    have h1 := H3.out.1.put k (q ++ ⟨#[58, 32]⟩ ++ toBs tx);rw [aH, HN.out] at h1;rw [aH];exact h1, H3.out.2.setCell (p := ⟨g, k, none⟩) bF.1 _⟩
   clear HN aH H3 hq;go_wp2_with fail;refine hK2 _ _ (fun h => absurd rfl h) ?_;generalize World.setCell _ _ _ = W5 at H4 ⊢;(try simp only [lgA, lgB, lgC, aP, laA, lsA, lsB]);refine Ak ?_;(try simp only [lgA, lgB, lgC, aP, laA, lsA, lsB]);go_wp2_with fail;go_roundw
   case rel => exact ⟨k + 1, by go_num, by omega, Lq7 H4.out.1, Lq7 H4.out.2⟩
   case measure => simp only [intOf]; omega
  ·have aE : mixB ks l k = (entriesL ks (textVs l)).map toBs := mix_all aF.out (by omega);have aC := hown.out;rw [aE] at aC;obtain ⟨aT', cT', hv', hst', hcap'⟩ := aC.strsAt;have aM : ((entriesL ks (textVs l)).map toBs).length = l.length := (by rw [lnM, De aF.out]);rw [aM] at hv' hcap';cases hv';have aW : (joinB ((entriesL ks (textVs l)).map toBs) ⟨#[44, 32]⟩).data.toList = Lib.join (entriesL ks (textVs l)) [44, 32] := by
    show Lib.join (((entriesL ks (textVs l)).map toBs).map (·.data.toList)) [44, 32] = _;rw [List.map_map, show ((fun x : ByteArray => x.data.toList) ∘ toBs) = id from rfl, List.map_id]
   have bI : (joinB ((entriesL ks (textVs l)).map toBs) ⟨#[44, 32]⟩).size ≤ 140737488355328 := by
    rw [← Af, aW];unfold textMax at hmax;omega
   have HJ := Lq7 (Js aT cT _ ⟨#[44, 32]⟩ wr hst' (by rw [aM]; exact hcap') (by rw [aM]; exact hl) bI);rw [aM] at HJ;generalize joinB ((entriesL ks (textVs l)).map toBs) ⟨#[44, 32]⟩ = jb at HJ aW bI;have bJ := Lq7 aW;have aV := Lq7 aR.out;have hkl : ¬ k < ks.length := (by have := aF.out; omega);clear hown aC hst' hcap' aM aE aW;go_wp2_with fail;refine HJ.out.mono ?_;rintro e w2 ⟨rfl, bL⟩;have Hb2 := Lq7 (H0.out.below.trans ((aV.out.trans (bL.mono aV.out.size)).mono H0.out.below.size));have z1 : ¬ 9223372036854775807 < jb.size + 1 := (by omega);have z2 : ¬ 9223372036854775807 < 1 + jb.size := (by omega);have z3 : ¬ 9223372036854775807 < 1 + jb.size + 1 := (by omega);have aZ : Hid ((⟨#[123]⟩ ++ jb ++ ⟨#[125]⟩ : ByteArray).data.toList = [123] ++ Lib.join (entriesL ks (textVs l)) [44, 32] ++ [125]) := Lq7 (by
    rw [ByteArray.data_append, ByteArray.data_append, Array.toList_append, Array.toList_append, bJ.out])
   clear bL HJ bJ;go_wp2_with fail;go_ret;exact ⟨_, rfl, aZ.out, Hb2.out⟩
theorem Vu (v : Vl) : Jn v :=
 Vl.rec (motive_1 := fun v => Jn v) (motive_2 := fun l => ∀ x ∈ l, Jn x)
  (fun k n s l ks ih => by
   by_cases h4 : k = 4
   ·subst h4; exact Vv n s l ks ih
   ·by_cases h5 : k = 5
    ·subst h5; exact Vt n s l ks ih
    ·exact S1 k n s l ks h4 h5)
  (fun x hx => by cases hx)
  (fun v t hv ht x hx => by
   rcases List.mem_cons.1 hx with rfl | hx
   ·exact hv
   ·exact ht x hx) v
theorem Me (l : List UInt8) : (quoteL l).length ≤ 2 * l.length + 2 := by
 unfold quoteL;split
 ·simp
 ·rw [lnA, lnC, List.length_singleton, escL_len];have := Li l;omega
theorem N0 {α : Type} (f : α → Nat) (g : α → Int) (c : Nat) : ∀ l : List α, (∀ x ∈ l, (f x : Int) + c ≤ g x) → (((l.map f).sum : Nat) : Int) + l.length * c ≤ (l.map g).sum
 | [], _ => by simp
 | x :: t, h => by
  have h1 := h x (lmS ..);have h2 := N0 f g c t fun y hy => h y (lmO _ hy);rw [List.map_cons, List.sum_cons, List.map_cons, List.sum_cons, lnC]
  push_cast
  rw [Int.add_mul];omega
theorem cntVs_sum : ∀ l : List Vl, cntVs l = (l.map cntV).sum
 | [] => rfl
 | v :: t => by rw [cntVs, cntVs_sum t, List.map_cons, List.sum_cons]
theorem Tg (c : Int) : ∀ l : List Int, (l.map fun x => c * x).sum = c * l.sum
 | [] => by simp
 | x :: t => by rw [List.map_cons, List.sum_cons, Tg c t, List.sum_cons, Int.mul_add]
theorem Va (v : Vl) : prV v → ((textV v).length : Int) + 131080 ≤ 262200 * cntV v :=
 Vl.rec (motive_1 := fun v => prV v → ((textV v).length : Int) + 131080 ≤ 262200 * cntV v) (motive_2 := fun l => prVs l → ∀ x ∈ l, ((textV x).length : Int) + 131080 ≤ 262200 * cntV x)
  (fun k n s l ks ih hp => by
   rw [prV] at hp;obtain ⟨hn, hs, hl, -, hk, hlk, hps⟩ := hp;have hi := ih hps;have hc := Cy l;rw [cntV];have hsum := N0 (fun x => (textV x).length) (fun x => 262200 * cntV x) 131080 l hi;have he : (l.map fun x => 262200 * cntV x).sum = 262200 * cntVs l := by
    rw [cntVs_sum, ← Tg, List.map_map];rfl
   rw [he] at hsum;by_cases h1 : k = 1
   ·subst h1;rw [textV, if_pos rfl];split <;> simp <;> omega
   by_cases h2 : k = 2
   ·subst h2;rw [textV, if_neg (by decide), if_pos rfl];unfold inR at hn;simp only [Bool.and_eq_true, decide_eq_true_eq] at hn;have := Lib.itoa_length_le n hn.1 hn.2;omega
   by_cases h3 : k = 3
   ·subst h3;rw [textV, if_neg (by decide), if_neg (by decide), if_pos rfl];have := Me s.data.toList;rw [Af] at this;omega
   by_cases h4 : k = 4
   ·subst h4;rw [textV, if_neg (by decide), if_neg (by decide), if_neg (by decide), if_pos rfl];have hj := Es [44, 32] (textVs l);rw [textVs_map, lnM, List.map_map] at hj;rw [textVs_map, lnA, lnA, hj];have e : (l.map (List.length ∘ textV)).sum = (l.map fun x => (textV x).length).sum := rfl;rw [e];simp only [lnC, lnN];omega
   by_cases h5 : k = 5
   ·subst h5;have hlk := hlk rfl;rw [textV, if_neg (by decide), if_neg (by decide), if_neg (by decide), if_neg (by decide), if_pos rfl];have hj := Es [44, 32] (entriesL ks (textVs l));rw [De hlk] at hj;have aC : ∀ (ks : List ByteArray) (l : List Vl), l.length = ks.length → (∀ x ∈ ks, x.size ≤ 65536) → ((entriesL ks (textVs l)).map List.length).sum ≤ (l.map fun x => (textV x).length).sum + l.length * 131076 := by
     intro ks
     induction ks with
     | nil => intro l h _; simp [entriesL]
     | cons key t ih2 =>
      intro l h hz;cases l with
      | nil => simp at h
      | cons v r =>
       have h3 := ih2 r (by simpa using h) fun x hx => hz x (lmO _ hx);have h4 := hz key (lmS ..);have h5 := Me key.data.toList;rw [Af] at h5;rw [textVs, entriesL, List.zipWith_cons_cons, List.map_cons, List.sum_cons, List.map_cons, List.sum_cons, lnC, lnA, lnA];rw [entriesL] at h3;simp only [lnC, lnN];omega
    have h6 := aC ks l hlk hk;rw [lnA, lnA, hj];simp only [lnC, lnN];omega
   ·rw [textV, if_neg h1, if_neg h2, if_neg h3, if_neg h4, if_neg h5];simp only [lnC, lnN];omega)
  (fun _ x hx => by cases hx)
  (fun v t hv ht hp x hx => by
   rw [prVs] at hp;rcases List.mem_cons.1 hx with rfl | hx
   ·exact hv hp.1
   ·exact ht hp.2 x hx) v
theorem N1 {v : Vl} (h : checkV v = true) : cntV v ≤ 20000 := by
 unfold checkV at h;obtain ⟨h1, -, -⟩ := G8 v 1 20000 h;have h4 := (Fp v 1 20000 (by omega)).2.2 h;omega
theorem I3 {v : Vl} (h : checkV v = true) : (textV v).length ≤ 5300000000 := by
 have h1 := Va v (G7 h);have h2 := N1 h;omega
theorem Vb (v : Vl) (hs : smallV v) (F : Nat → Prop) (a1 : Option Addr) (c1 : Nat) (a2 : Option Addr) (c2 : Nat) (w : World) (hF : ∀ b, F b → b < w.heap.size) (hT : Dq w) (hr1 : Ac F w a1 (valsD v.items)) (hr2 : Ac F w a2 (Aq v.keys)) :
  Calls Tryz.prog 242 #[vCells v.kind v.num v.str a1 v.items.length c1 a2 v.keys.length c2] w (Dp (printV v) w) := by
 obtain ⟨k, n, s, l, ks⟩ := v;show Calls Tryz.prog 242 #[vCells k n s a1 l.length c1 a2 ks.length c2] w _;have H0 : Hid (TB w (w.alloc (.cells #[.int .i64 k, .int .i64 n, .string s, .slice a1 l.length c1, .slice a2 ks.length c2] 31)) #[.int .i64 k, .int .i64 n, .string s, .slice a1 l.length c1, .slice a2 ks.length c2]) := Lq7 ⟨(Below.refl _ w).alloc (nlr _) _, heap_alloc_new w _⟩;have aE : ∀ b, F b → b < (w.alloc (.cells #[.int .i64 k, .int .i64 n, .string s, .slice a1 l.length c1, .slice a2 ks.length c2] 31)).heap.size := fun b hb => (by have := hF b hb; have := H0.out.below.size; omega);have HC := Lq7 (Em (.mk k n s l ks) hs F a1 c1 a2 c2 _ aE (hr1.below H0.out.below) (hr2.below H0.out.below));have Hr := Lq7 (And.intro aE (And.intro (hT.below H0.out.below) (And.intro (hr1.below H0.out.below) (hr2.below H0.out.below))));unfold vCells at HC ⊢;clear hF hT hr1 hr2 hs aE;cases hck : checkV (.mk k n s l ks) with
 | false =>
  have Hp : Hid (printV (.mk k n s l ks) = []) := Lq7 (by unfold printV; rw [hck]; rfl);rw [hck] at HC;clear hck;go_enter Tryz.func242, Tryz.ntmps242;go_wp2_with fail;refine HC.out.mono ?_;rintro e w1 ⟨rfl, aB⟩;have H1 := Lq7 (H0.out.later aB);clear aB HC;go_wp2_with fail;go_ret;exact ⟨_, rfl, Hp.out.symm, H1.out.below⟩
 | true =>
  have Hp : Hid (printV (.mk k n s l ks) = textV (.mk k n s l ks)) := Lq7 (by unfold printV; rw [hck]; rfl);have aF := Lq7 hck;rw [hck] at HC;clear hck;go_enter Tryz.func242, Tryz.ntmps242;go_wp2_with fail;refine HC.out.mono ?_;rintro e w1 ⟨rfl, aB⟩;have H1 := Lq7 (H0.out.later aB);have HX := Lq7 (Vu (.mk k n s l ks) (G7 aF.out) (by have := I3 aF.out; unfold textMax; omega) F a1 c1 a2 c2 w1 (fun b hb => nll (Hr.out.1 b hb) aB.size) (Hr.out.2.1.below aB) (Hr.out.2.2.1.below aB) (Hr.out.2.2.2.below aB));obtain ⟨q0, q1, q2, q3, q4, q5, -⟩ := five_facts H1.out.v;unfold vCells at HX;clear aB HC Hr;go_wp2_with fail;refine HX.out.mono ?_;rintro e w2 ⟨o, rfl, ho, aG⟩;have H2 := Lq7 (And.intro ho (H1.out.later aG));clear ho aG HX;go_wp2_with fail;go_ret;exact ⟨_, rfl, H2.out.1.trans Hp.out.symm, H2.out.2.below⟩
mutual
def bulkV : Vl → Nat
 | .mk _ _ s l ks => s.size + sumS ks + bulkVs l
def bulkVs : List Vl → Nat
 | [] => 0
 | v :: t => bulkV v + bulkVs t
end
theorem Kd (l : List Vl) (j : Nat) (h : j < l.length) : bulkVs (l.take (j + 1)) = bulkVs (l.take j) + bulkV l[j] := by
 induction l generalizing j with
 | nil => simp at h
 | cons v t ih =>
  cases j with
  | zero => simp [bulkVs]
  | succ j =>
   have := ih j (by simpa using h);simp only [List.take_succ_cons, bulkVs, lgB];omega
theorem Nc (l : List Vl) (j : Nat) : bulkVs (l.take j) ≤ bulkVs l := by
 induction l generalizing j with
 | nil => simp [bulkVs]
 | cons v t ih =>
  cases j with
  | zero => simp [bulkVs]
  | succ j =>
   have := ih j;simp only [List.take_succ_cons, bulkVs];omega
theorem sumS_bound : ∀ ks : List ByteArray, (∀ x ∈ ks, x.size ≤ 65536) → sumS ks ≤ 65536 * ks.length
 | [], _ => by simp [sumS]
 | x :: t, h => by
  have h1 := sumS_bound t fun y hy => h y (lmO _ hy);have h2 := h x (lmS ..);unfold sumS at *;rw [List.map_cons, List.sum_cons, lnC];omega
theorem bulkV_le (v : Vl) : prV v → (bulkV v : Int) ≤ 65601536 * cntV v :=
 Vl.rec (motive_1 := fun v => prV v → (bulkV v : Int) ≤ 65601536 * cntV v) (motive_2 := fun l => prVs l → (bulkVs l : Int) ≤ 65601536 * cntVs l)
  (fun k n s l ks ih hp => by
   rw [prV] at hp;obtain ⟨-, hs, -, hkl, hk, -, hps⟩ := hp;have := ih hps;have := sumS_bound ks hk;rw [bulkV, cntV];omega)
  (fun _ => by simp [bulkVs, cntVs])
  (fun v t hv ht hp => by
   rw [prVs] at hp;have := hv hp.1;have := ht hp.2;rw [bulkVs, cntVs];omega) v
def Pj (x : Vl) : Prop := bulkV x ≤ textMax → smallV x → ∀ (F : Nat → Prop) (a1 : Option Addr) (c1 : Nat) (a2 : Option Addr) (c2 : Nat) (w : World), (∀ b, F b → b < w.heap.size) → Ac F w a1 (valsD x.items) → Ac F w a2 (Aq x.keys) →
 Calls Tryz.prog 241 #[vCells x.kind x.num x.str a1 x.items.length c1 a2 x.keys.length c2] w (fun e w' => e = .returned (.int .i64 (bulkV x : Nat)) ∧ Below w.heap.size w w')
theorem Tv (k n : Int) (s : ByteArray) (l : List Vl) (ks : List ByteArray) (ih : ∀ x ∈ l, Pj x) : Pj (.mk k n s l ks) := by
 intro hmax aB F a1 c1 a2 c2 w hF aJ aM;show Calls Tryz.prog 241 #[vCells k n s a1 l.length c1 a2 ks.length c2] w _;rw [bulkV] at hmax;rw [smallV] at aB;have hll := aB.2.1;have hkl := aB.2.2.1;unfold textMax at hmax;have H0 : Hid (TB w (w.alloc (.cells #[.int .i64 k, .int .i64 n, .string s, .slice a1 l.length c1, .slice a2 ks.length c2] 31)) #[.int .i64 k, .int .i64 n, .string s, .slice a1 l.length c1, .slice a2 ks.length c2]) := Lq7 ⟨(Below.refl _ w).alloc (nlr _) _, heap_alloc_new w _⟩;have Hk := Lq7 (aM.below H0.out.below).strs;have Hr := Lq7 (And.intro (aJ.below H0.out.below) (fun b (hb : F b) => nll (hF b hb) H0.out.below.size));have aN := Lq7 (And.intro ih (fun x (hx : x ∈ l) => smallVs_mem aB.2.2.2.2 hx));clear hF aJ aM ih aB;unfold vCells;go_enter Tryz.func241, Tryz.ntmps241;go_wp2_with fail;generalize hW0 : w.alloc (.cells #[.int .i64 k, .int .i64 n, .string s, .slice a1 l.length c1, .slice a2 ks.length c2] 31) = W0 at *;clear hW0
 go_loop [3, 14] (fun v i => ∃ j : Nat, i = .int .i64 j ∧ j ≤ ks.length ∧ v = .int .i64 ((s.size : Int) + (sumS (ks.take j) : Nat))) (fun _ i => ks.length - (intOf i).toNat)
 case atStart => exact ⟨0, rfl, nlz _, by simp [sumS]⟩
 case round =>
  obtain ⟨j, rfl, hj, rfl⟩ := hrel;by_cases hlt : j < ks.length
  ·obtain ⟨bK, oK, hak, hck⟩ := Hk.out j _ (lgE hlt);subst hak;have hs1 := Hi ks j hlt;have hs2 := sumS_le ks (j + 1);generalize ks[j] = x at hck hs1;go_wp2_with fail;go_round
   case rel => exact ⟨j + 1, by go_num, by omega, by go_num⟩
   case measure => simp only [intOf]; omega
  ·have hjl : ks.take j = ks := ltL (by omega);rw [hjl];obtain ⟨q0, q1, q2, q3, q4, q5, -⟩ := five_facts H0.out.v;go_wp2_with fail;clear q0 q1 q2 q3 q4 q5
   go_loopw [3, 26] (fun v i wr => ∃ j : Nat, i = .int .i64 j ∧ j ≤ l.length ∧ v = .int .i64 ((s.size : Int) + (sumS ks : Nat) + (bulkVs (l.take j) : Nat)) ∧ Hid (Below W0.heap.size W0 wr)) (fun _ i _ => l.length - (intOf i).toNat)
   case atStart => exact ⟨0, rfl, nlz _, by simp [bulkVs], Lq7 (Below.refl _ _)⟩
   case round =>
    obtain ⟨j2, rfl, hj2, rfl, aC⟩ := hrel;by_cases hlt2 : j2 < l.length
    ·cases hx : l[j2] with
     | mk xk xn xs xl xks =>
      have aF : l[j2]? = some (.mk xk xn xs xl xks) := (by rw [lgE hlt2, hx]);have hb1 := Kd l j2 hlt2;have hb2 := Nc l (j2 + 1);rw [hx] at hb1;obtain ⟨b, off, x1, y1, x2, y2, hae, -, hbl, r0, r1, r2, r3, r4, aQ, aR⟩ := (Hr.out.1.below aC.out).val aF;have aE : Below wr.heap.size wr (wr.alloc (.cells #[.int .i64 xk, .int .i64 xn, .string xs, .slice x1 xl.length y1, .slice x2 xks.length y2] 31)) := (Below.refl _ wr).alloc (nlr _) _;have HX := Lq7 (aN.out.1 _ (lgM aF) (by unfold textMax; omega) (aN.out.2 _ (lgM aF)) F x1 y1 x2 y2 _ (fun b hb => by have := Hr.out.2 b hb; have := aC.out.size; have := aE.size; omega) (aQ.below aE) (aR.below aE));unfold vCells at HX;have aG := Lq7 (aC.out.trans (aE.mono aC.out.size));clear hx aF aQ aR aE;subst hae;generalize hbv : bulkV (.mk xk xn xs xl xks) = bv at *;clear hbv;go_wp2_with fail;refine HX.out.mono ?_;rintro e w1 ⟨rfl, aU⟩;have Hb3 := Lq7 (aG.out.trans (aU.mono aG.out.size));clear aU HX aG r0 r1 r2 r3 r4;go_wp2_with fail;go_roundw
      case rel => exact ⟨j2 + 1, by go_num, by omega, by go_num, Hb3⟩
      case measure => simp only [intOf]; omega
    ·have aH : l.take j2 = l := ltL (by omega);have aI : Hid (bulkV (.mk k n s l ks) = s.size + sumS ks + bulkVs l) := Lq7 rfl;rw [aH];have Hb := Lq7 (H0.out.below.trans (aC.out.mono H0.out.below.size));go_wp2_with fail;go_ret;exact ⟨by rw [aI.out]; go_num, Hb.out⟩
theorem Tw (v : Vl) : Pj v :=
 Vl.rec (motive_1 := fun v => Pj v) (motive_2 := fun l => ∀ x ∈ l, Pj x) (fun k n s l ks ih => Tv k n s l ks ih) (fun x hx => by cases hx)
  (fun v t hv ht x hx => by
   rcases List.mem_cons.1 hx with rfl | hx
   ·exact hv
   ·exact ht x hx) v
structure QB (w W : World) (b : Nat) : Prop where
 below : Below w.heap.size w W
 r : W.heap[b]? = some (.cells #[.int .i64 0, .int .i64 0, .string ⟨#[]⟩, .slice none 0 0, .slice none 0 0] 31 (0, 0))
 lo : w.heap.size ≤ b
theorem QB.later {w W W' : World} {b : Nat} (h : QB w W b) (hb : Below W.heap.size W W') : QB w W' b := ⟨h.below.trans (hb.mono h.below.size), stays h.r hb, h.lo⟩
theorem QB.start (w : World) : QB w (w.alloc (.cells #[.int .i64 0, .int .i64 0, .string ⟨#[]⟩, .slice none 0 0, .slice none 0 0] 31)) w.heap.size := ⟨(Below.refl _ w).alloc (nlr _) _, heap_alloc_new w _, nlr _⟩
theorem QB.fin {r : Except Int Vl} {w W W' : World} {b : Nat} {e : Ending} (H : QB w W b) (h : Bl r W e W') : ∃ (k n : Int) (s : ByteArray) (a1 : Option Addr) (l1 c1 : Nat) (a2 : Option Addr) (l2 c2 : Nat) (m : Int),
  e = .returned (.tuple #[.agg #[.int .i64 k, .int .i64 n, .string s, .slice a1 l1 c1, .slice a2 l2 c2], .int .i64 m]) ∧
  W'.heap[b]? = some (.cells #[.int .i64 0, .int .i64 0, .string ⟨#[]⟩, .slice none 0 0, .slice none 0 0] 31 (0, 0)) ∧
  Bl r w (.returned (.tuple #[.agg #[.int .i64 k, .int .i64 n, .string s, .slice a1 l1 c1, .slice a2 l2 c2], .int .i64 m])) (((((W'.setCell ⟨b, 0, none⟩ (.int .i64 k)).setCell ⟨b, 1, none⟩ (.int .i64 n)).setCell ⟨b, 2, none⟩ (.string s)).setCell ⟨b, 3, none⟩ (.slice a1 l1 c1)).setCell ⟨b, 4, none⟩ (.slice a2 l2 c2)) ∧
  (((((W'.setCell ⟨b, 0, none⟩ (.int .i64 k)).setCell ⟨b, 1, none⟩ (.int .i64 n)).setCell ⟨b, 2, none⟩ (.string s)).setCell ⟨b, 3, none⟩ (.slice a1 l1 c1)).setCell ⟨b, 4, none⟩ (.slice a2 l2 c2)).heap[b]? = some (.cells #[.int .i64 k, .int .i64 n, .string s, .slice a1 l1 c1, .slice a2 l2 c2] 31 (0, 0)) := by
 obtain ⟨hb, hq⟩ := h;have H' := H.later hb;have hbW : b < W.heap.size := here H.r;cases r with
 | error n =>
  obtain rfl : e = _ := hq;exact ⟨0, 0, ⟨#[]⟩, none, 0, 0, none, 0, 0, n, rfl, H'.r, ⟨(res_set H'.lo H'.below H'.r _ _ _ _ _).2, rfl⟩, (res_set H'.lo H'.below H'.r _ _ _ _ _).1⟩
 | ok x =>
  obtain ⟨cs, rfl, bI⟩ := hq;obtain ⟨yk, yn, ys, yl, yks⟩ := x;have bB := bI;obtain ⟨z1, f1, z2, f2, rfl, -, -⟩ := bI.val;refine ⟨yk, yn, ys, z1, yl.length, f1, z2, yks.length, f2, 0, rfl, H'.r, ⟨(res_set H'.lo H'.below H'.r _ _ _ _ _).2, _, rfl, ?_⟩, (res_set H'.lo H'.below H'.r _ _ _ _ _).1⟩;exact bB.mono fun g hg hl => ⟨nlt H.below.size hg, by simpa using hl, by
   have : W.heap.size ≤ g := hg;rw [set_other (by omega), set_other (by omega), set_other (by omega), set_other (by omega), set_other (by omega)]⟩
theorem QB.err {w W : World} {b : Nat} (H : QB w W b) (n : Int) :
  Bl (.error n) w (.returned (.tuple #[.agg #[.int .i64 0, .int .i64 0, .string ⟨#[]⟩, .slice none 0 0, .slice none 0 0], .int .i64 n])) (((((W.setCell ⟨b, 0, none⟩ (.int .i64 0)).setCell ⟨b, 1, none⟩ (.int .i64 0)).setCell ⟨b, 2, none⟩ (.string ⟨#[]⟩)).setCell ⟨b, 3, none⟩ (.slice none 0 0)).setCell ⟨b, 4, none⟩ (.slice none 0 0)) ∧
  (((((W.setCell ⟨b, 0, none⟩ (.int .i64 0)).setCell ⟨b, 1, none⟩ (.int .i64 0)).setCell ⟨b, 2, none⟩ (.string ⟨#[]⟩)).setCell ⟨b, 3, none⟩ (.slice none 0 0)).setCell ⟨b, 4, none⟩ (.slice none 0 0)).heap[b]? = some (.cells #[.int .i64 0, .int .i64 0, .string ⟨#[]⟩, .slice none 0 0, .slice none 0 0] 31 (0, 0)) :=
 ⟨⟨(res_set H.lo H.below H.r _ _ _ _ _).2, rfl⟩, (res_set H.lo H.below H.r _ _ _ _ _).1⟩
structure V5 (w : World) (b off : Nat) (x0 x1 x2 x3 x4 : Value) : Prop where
 lt : b < w.heap.size
 q0 : w.cell? ⟨b, off, none⟩ = some x0
 q1 : w.cell? ⟨b, off + 1, none⟩ = some x1
 q2 : w.cell? ⟨b, off + 2, none⟩ = some x2
 q3 : w.cell? ⟨b, off + 3, none⟩ = some x3
 q4 : w.cell? ⟨b, off + 4, none⟩ = some x4
theorem V5.below {w w' : World} {b off : Nat} {x0 x1 x2 x3 x4 : Value} (h : V5 w b off x0 x1 x2 x3 x4) (hb : Below w.heap.size w w') : V5 w' b off x0 x1 x2 x3 x4 :=
 have k : ∀ i, w'.cell? ⟨b, i, none⟩ = w.cell? ⟨b, i, none⟩ := fun i => hb.cell (p := ⟨b, i, none⟩) h.lt
 ⟨nll h.lt hb.size, (k _).trans h.q0, (k _).trans h.q1, (k _).trans h.q2, (k _).trans h.q3, (k _).trans h.q4⟩
def Gq (v : Vl) : Except Int Vl := if v.kind = 3 then Am v.str else if checkV v = true ∧ 65536 < bulkV v then .error 6 else Am (toBs (printV v))
theorem Mr {v : Vl} (h : checkV v = true) : bulkV v ≤ textMax := by
 have h1 := bulkV_le v (G7 h);have h2 := N1 h;unfold textMax;omega
theorem I8 (v : Vl) : (toBs (printV v)).size ≤ 5300000000 := by
 unfold printV;cases h : checkV v with
 | true => exact I3 h
 | false => exact nlz _
theorem text_any (F : Nat → Prop) (v : Vl) (a : Option Addr) (cap : Nat) (w : World) (hF : ∀ b, F b → b < w.heap.size) (hT : Dq w) (hr : Ac F w a (valsD [v])) (hs : smallV v) :
  Calls Tryz.prog 229 #[.slice a 1 cap] w (Bl (Gq v) w) := by
 obtain ⟨k, n, s, l, ks⟩ := v;obtain ⟨b, off, a1, c1, a2, c2, rfl, -, hbl, q0, q1, q2, q3, q4, bC, bD⟩ := hr.val (j := 0) rfl;simp only [nzm, naz] at q0 q1 q2 q3 q4;have HV := Lq7 (V5.mk hbl q0 q1 q2 q3 q4);have aB := QB.start w;have bE := nlr w.heap.size;generalize aR : w.alloc (.cells #[.int .i64 0, .int .i64 0, .string ⟨#[]⟩, .slice none 0 0, .slice none 0 0] 31) = W0 at aB;have H0 := Lq7 aB;have bA := Lq7 aR;have bF : ∀ b, F b → b < W0.heap.size := fun b hb => (by have := hF b hb; have := H0.out.below.size; omega);have HC := Lq7 (Em (.mk k n s l ks) hs F a1 c1 a2 c2 _ bF (bC.below H0.out.below) (bD.below H0.out.below));have Hr := Lq7 (And.intro bF (And.intro (hT.below H0.out.below) (And.intro (bC.below H0.out.below) (bD.below H0.out.below))));have Hs := Lq7 hs;unfold vCells at HC;clear hF hT hr bC bD hs bF aB bE;by_cases hk : k = 3
 ·subst hk;have hss : s.size ≤ 9223372036854775807 := (by have := Hs.out; rw [smallV] at this; have := this.1.1; omega);have Ht : Hid (Gq (.mk 3 n s l ks) = Am s) := Lq7 (if_pos rfl);clear aR;go_enter Tryz.func229, Tryz.ntmps229;go_wp2_with fail;rw [bA.out];refine (Cm s _ hss).mono ?_;rintro e w9 h9;rw [← Ht.out] at h9;clear HC Hr q0 q1 q2 q3 q4;obtain ⟨k9, n9, s9, aU, aV, aW, a29, aX, aY, m9, rfl, aG, aH, aI⟩ := H0.out.fin h9;clear h9;have aE := Lq7 (And.intro aH aI);obtain ⟨p0, p1, p2, p3, p4, p5, p6, p7, p8, p9, aF⟩ := five_facts aG;clear aH aI aG;go_wp2_with fail;generalize World.setCell _ _ _ = W9 at aE ⊢;clear p0 p1 p2 p3 p4 p5 p6 p7 p8 p9 aF;obtain ⟨p0, p1, p2, p3, p4, p5, p6, p7, p8, p9, aF⟩ := five_facts aE.out.2;exact bodyPost_ret (v := .tuple #[.agg #[.int .i64 k9, .int .i64 n9, .string s9, .slice aU aV aW, .slice a29 aX aY], .int .i64 m9]) (by simp [results, Tryz.results229, go_sem, p1, p2, p3, p4, p5]) rfl aE.out.1
 ·have hk2 : decide (k = 3) = false := decide_eq_false hk;have hk3 : (k == 3) = false := (by rw [beq_eq_false_iff_ne]; exact hk);have Hp := Lq7 (fun W (hb : Below W0.heap.size W0 W) =>
   Vb (.mk k n s l ks) Hs.out F a1 c1 a2 c2 W (fun b h => nll (Hr.out.1 b h) hb.size) (Hr.out.2.1.below hb) (Hr.out.2.2.1.below hb) (Hr.out.2.2.2.below hb))
  unfold vCells at Hp;cases hck : checkV (.mk k n s l ks) with
  | false =>
   have Ht : Hid (Gq (.mk k n s l ks) = Am (toBs (printV (.mk k n s l ks)))) := Lq7 ((if_neg hk).trans (if_neg (by rw [hck]; simp)));rw [hck] at HC;clear hck aR;go_enter Tryz.func229, Tryz.ntmps229;go_wp2_with fail;rw [bA.out];refine HC.out.mono ?_;rintro e w1 ⟨rfl, aC⟩;have H1 := Lq7 (And.intro (H0.out.later aC) (And.intro (HV.out.below (H0.out.below.trans (aC.mono H0.out.below.size))) aC));clear aC H0 HC q0 q1 q2 q3 q4;obtain ⟨-, q0, q1, q2, q3, q4⟩ := H1.out.2.1;go_wp2_with fail;refine (Hp.out _ H1.out.2.2).mono ?_;rintro e w3 ⟨o, rfl, ho, aZ⟩;have H3 := Lq7 (H1.out.1.later aZ);have aJ : o = toBs (printV (.mk k n s l ks)) := (by rw [← ho]; rfl);have bG : o.size ≤ 9223372036854775807 := (by have := I8 (.mk k n s l ks); rw [aJ]; omega);rw [← aJ] at Ht;clear aZ Hp Hr H1 q0 q1 q2 q3 q4 ho aJ;go_wp2_with fail;refine (Cm o _ bG).mono ?_;rintro e w9 h9;rw [← Ht.out] at h9;obtain ⟨k9, n9, s9, aU, aV, aW, a29, aX, aY, m9, rfl, aG, aH, aI⟩ := H3.out.fin h9;clear h9;have aE := Lq7 (And.intro aH aI);obtain ⟨p0, p1, p2, p3, p4, p5, p6, p7, p8, p9, aF⟩ := five_facts aG;clear aH aI aG;go_wp2_with fail;generalize World.setCell _ _ _ = W9 at aE ⊢;clear p0 p1 p2 p3 p4 p5 p6 p7 p8 p9 aF;obtain ⟨p0, p1, p2, p3, p4, p5, p6, p7, p8, p9, aF⟩ := five_facts aE.out.2;exact bodyPost_ret (v := .tuple #[.agg #[.int .i64 k9, .int .i64 n9, .string s9, .slice aU aV aW, .slice a29 aX aY], .int .i64 m9]) (by simp [results, Tryz.results229, go_sem, p1, p2, p3, p4, p5]) rfl aE.out.1
  | true =>
   have bH := Lq7 hck;rw [hck] at HC;clear hck;have HB := Lq7 (fun W (hb : Below W0.heap.size W0 W) =>
    Tw (.mk k n s l ks) (Mr bH.out) Hs.out F a1 c1 a2 c2 W (fun b h => nll (Hr.out.1 b h) hb.size) (Hr.out.2.2.1.below hb) (Hr.out.2.2.2.below hb))
   have bJ : bulkV (.mk k n s l ks) ≤ 140737488355328 := Mr bH.out;unfold vCells at HB;by_cases hbk : 65536 < bulkV (.mk k n s l ks)
   ·have Ht : Hid (Gq (.mk k n s l ks) = .error 6) := Lq7 ((if_neg hk).trans (if_pos ⟨bH.out, hbk⟩));have aM : (65536 : Int) < ((bulkV (.mk k n s l ks) : Nat) : Int) := (by omega);generalize bulkV (.mk k n s l ks) = bv at aM HB bJ hbk;clear aR;go_enter Tryz.func229, Tryz.ntmps229;go_wp2_with fail;rw [bA.out];refine HC.out.mono ?_;rintro e w1 ⟨rfl, aC⟩;have H1 := Lq7 (And.intro (H0.out.later aC) (And.intro (HV.out.below (H0.out.below.trans (aC.mono H0.out.below.size))) aC));clear aC H0 HC q0 q1 q2 q3 q4;obtain ⟨-, q0, q1, q2, q3, q4⟩ := H1.out.2.1;go_wp2_with fail;refine (HB.out w1 H1.out.2.2).mono ?_;rintro e w2 ⟨rfl, aN⟩;have H2 := Lq7 (H1.out.1.later aN);clear aN HB H1 Hp Hr q0 q1 q2 q3 q4;obtain ⟨p0, p1, p2, p3, p4, p5, p6, p7, p8, p9, aF⟩ := five_facts H2.out.r;go_wp2_with fail;have aQ := H2.out.err 6;generalize World.setCell _ _ _ = W9 at aQ ⊢;clear p0 p1 p2 p3 p4 p5 p6 p7 p8 p9 aF;obtain ⟨p0, p1, p2, p3, p4, p5, p6, p7, p8, p9, aF⟩ := five_facts aQ.2;refine bodyPost_ret (v := .tuple #[.agg #[.int .i64 0, .int .i64 0, .string ⟨#[]⟩, .slice none 0 0, .slice none 0 0], .int .i64 6]) (by simp [results, Tryz.results229, go_sem, p1, p2, p3, p4, p5]) rfl ?_;rw [Ht.out];exact aQ.1
   ·have Ht : Hid (Gq (.mk k n s l ks) = Am (toBs (printV (.mk k n s l ks)))) := Lq7 ((if_neg hk).trans (if_neg (fun h => hbk h.2)));have aM : ¬ (65536 : Int) < ((bulkV (.mk k n s l ks) : Nat) : Int) := (by omega);generalize bulkV (.mk k n s l ks) = bv at aM HB bJ hbk;clear aR;go_enter Tryz.func229, Tryz.ntmps229;go_wp2_with fail;rw [bA.out];refine HC.out.mono ?_;rintro e w1 ⟨rfl, aC⟩;have H1 := Lq7 (And.intro (H0.out.later aC) (And.intro (HV.out.below (H0.out.below.trans (aC.mono H0.out.below.size))) aC));clear aC H0 HC q0 q1 q2 q3 q4;obtain ⟨-, q0, q1, q2, q3, q4⟩ := H1.out.2.1;go_wp2_with fail;refine (HB.out w1 H1.out.2.2).mono ?_;rintro e w2 ⟨rfl, aN⟩;have H2 := Lq7 (And.intro (H1.out.1.later aN) (And.intro (H1.out.2.1.below aN) (H1.out.2.2.trans (aN.mono H1.out.2.2.size))));clear aN HB H1 q0 q1 q2 q3 q4;obtain ⟨-, q0, q1, q2, q3, q4⟩ := H2.out.2.1;go_wp2_with fail;refine (Hp.out _ H2.out.2.2).mono ?_;rintro e w3 ⟨o, rfl, ho, aZ⟩;have H3 := Lq7 (H2.out.1.later aZ);have aJ : o = toBs (printV (.mk k n s l ks)) := (by rw [← ho]; rfl);have bG : o.size ≤ 9223372036854775807 := (by have := I8 (.mk k n s l ks); rw [aJ]; omega);rw [← aJ] at Ht;clear aZ Hp Hr H2 q0 q1 q2 q3 q4 ho aJ;go_wp2_with fail;refine (Cm o _ bG).mono ?_;rintro e w9 h9;rw [← Ht.out] at h9;obtain ⟨k9, n9, s9, aU, aV, aW, a29, aX, aY, m9, rfl, aG, aH, aI⟩ := H3.out.fin h9;clear h9;have aE := Lq7 (And.intro aH aI);obtain ⟨p0, p1, p2, p3, p4, p5, p6, p7, p8, p9, aF⟩ := five_facts aG;clear aH aI aG;go_wp2_with fail;generalize World.setCell _ _ _ = W9 at aE ⊢;clear p0 p1 p2 p3 p4 p5 p6 p7 p8 p9 aF;obtain ⟨p0, p1, p2, p3, p4, p5, p6, p7, p8, p9, aF⟩ := five_facts aE.out.2;exact bodyPost_ret (v := .tuple #[.agg #[.int .i64 k9, .int .i64 n9, .string s9, .slice aU aV aW, .slice a29 aX aY], .int .i64 m9]) (by simp [results, Tryz.results229, go_sem, p1, p2, p3, p4, p5]) rfl aE.out.1
def Jm (l : List Vl) : Option (List ByteArray) := if l.all (fun x => x.kind == 3) = true then some (l.map Vl.str) else none
def PStrs (r : Option (List ByteArray)) (w : World) (e : Ending) (w' : World) : Prop := Below w.heap.size w w' ∧ match r with
 | some l => ∃ x, e = .returned (.tuple #[x, .bool true]) ∧ OwnS w' w.heap.size x l
 | none => e = .returned (.tuple #[.slice none 0 0, .bool false])
theorem strs_any (F : Nat → Prop) (l : List Vl) (a : Option Addr) (cap : Nat) (w : World) (hr : Ac F w a (valsD l)) (hl1 : l.length ≤ 1000) :
  Calls Tryz.prog 243 #[.slice a l.length cap] w (PStrs (Jm l) w) := by
 have Hr := Lq7 hr;clear hr;obtain ⟨i0, hi, hz0, hz1, hz2⟩ := info_parts infoStr;go_enter Tryz.func243, Tryz.ntmps243;go_wp2_with fail
 go_loopw [4, 9] (fun v i wr => ∃ j : Nat, i = .int .i64 j ∧ j ≤ l.length ∧ Hid (OwnS wr w.heap.size v ((l.take j).map Vl.str)) ∧ Hid (Below w.heap.size w wr) ∧ Hid ((l.take j).all (fun x => x.kind == 3) = true)) (fun _ i _ => l.length - (intOf i).toNat)
 case atStart => exact ⟨0, rfl, nlz _, Lq7 (OwnS.nil _ _), Lq7 (Below.refl _ _), Lq7 rfl⟩
 case round =>
  obtain ⟨j, rfl, hj, hown, aJ, aB⟩ := hrel;by_cases hlt : j < l.length
  ·cases hx : l[j] with
   | mk xk xn xs xl xks =>
    have aR : l[j]? = some (.mk xk xn xs xl xks) := (by rw [lgE hlt, hx]);obtain ⟨b, off, b1, e1, b2, e2, hae, -, hbl, r0, r1, r2, r3, r4, -, -⟩ := (Hr.out.below aJ.out).val aR;have aM : l.take (j + 1) = l.take j ++ [.mk xk xn xs xl xks] := (by rw [ltA, aR]; rfl);subst hae;obtain ⟨aL, cL, rfl, -, -⟩ := hown.out.strsAt;rw [lnM, lnT, Nat.min_eq_left hj] at hown ⊢;clear hx aR;by_cases hk3 : xk = 3
    ·subst hk3;have aF : OwnS (wr.alloc (.cells #[.int .i64 3, .int .i64 xn, .string xs, .slice b1 xl.length e1, .slice b2 xks.length e2] 31)) w.heap.size (.slice aL j cL) ((l.take j).map Vl.str) := hown.out.below ((Below.refl _ _).alloc (nlr _) _);have aC := lit_one (wr.alloc (.cells #[.int .i64 3, .int .i64 xn, .string xs, .slice b1 xl.length e1, .slice b2 xks.length e2] 31)) (.string xs) 9;rw [show (wr.alloc (.cells #[.int .i64 3, .int .i64 xn, .string xs, .slice b1 xl.length e1, .slice b2 xks.length e2] 31)).heap.size = wr.heap.size + 1 by simp] at aC;have aN := Lq7 aC;have aQ : Hid (((wr.alloc (.cells #[.int .i64 3, .int .i64 xn, .string xs, .slice b1 xl.length e1, .slice b2 xks.length e2] 31)).alloc (.cells #[.string xs] 9)).ownsRow w.heap.size 9 1 (.slice aL j cL) j (((l.take j).map Vl.str).map Value.string)) := Lq7 (by
      have := aF.below ((Below.refl _ _).alloc (nlr _) (.cells #[.string xs] 9));unfold OwnS at this;rw [lnM, lnT, Nat.min_eq_left hj] at this;exact this)
     have aU : Hid (∀ g, (Value.slice aL j cL).ownBlock = some g → w.heap.size ≤ g) := Lq7 (fun g hg => (hown.out.block hg).1);have hall' : Hid ((l.take (j + 1)).all (fun x => x.kind == 3) = true) := Lq7 (by rw [aM, List.all_append, aB.out]; rfl);have Htk : Hid ((l.take (j + 1)).map Vl.str = (l.take j).map Vl.str ++ [xs]) := Lq7 (by rw [aM, List.map_append]; rfl);have hsz := aJ.out.size;clear aC aF aM hown aB
     go_wp2_with (at_builtin; refine wpList_append_own _ rfl _ _ 29 rfl w.heap.size 9 i0 (.string ByteArray.empty) 1 16 Tryz.underlying29 hi hz0 hz1 hz2 rfl (by decide) (.slice aL j cL) j _ rfl aQ.out ⟨wr.heap.size + 1, 0, none⟩ 1 1 [.string xs] rfl rfl aN.out ?_ ?_ ?_ ?_ ?_)
     ·simp [Value.oneCell']
     ·unfold maxLen; omega
     ·omega
     ·simp; omega
     intro v2 w2 aG aE _;have aH : Hid (OwnS w2 w.heap.size v2 ((l.take (j + 1)).map Vl.str)) := Lq7 (by
      rw [Htk.out];unfold OwnS;rw [lnA, lnM, lnT, Nat.min_eq_left hj, List.map_append]
      simpa using aG)
     have aV : Hid (Below w.heap.size w w2) := Lq7 ((aJ.out.trans ((((Below.refl _ wr).alloc (nlr _) _).alloc (by simp) _).mono hsz)).trans (A9 aE aU.out (by simp; omega)));obtain ⟨aL2, cL2, rfl, -, -⟩ := aH.out.strsAt;clear aG aE aJ;go_wp2_with fail;go_roundw
     case rel => exact ⟨j + 1, by go_num, by omega, aH, aV, hall'⟩
     case measure => simp only [intOf]; omega
    ·have hk3' : (xk != 3) = true := (by simpa using hk3);have hk3n : decide (xk = 3) = false := decide_eq_false hk3;have Hn : Hid (Jm l = none) := Lq7 (by
      refine if_neg ?_;intro h;rw [List.all_eq_true] at h;have hm : Vl.mk xk xn xs xl xks ∈ l := by
       have : Vl.mk xk xn xs xl xks ∈ l.take (j + 1) := (by rw [aM]; simp);exact List.mem_of_mem_take this
      have := h _ hm;exact hk3 (by simpa [Vl.kind] using this))
     clear aM;go_wp2_with fail;refine bodyPost_ret (v := .tuple #[.slice none 0 0, .bool false]) (by simp [results, Tryz.results243, go_sem]) rfl ?_;rw [Hn.out];exact ⟨aJ.out.trans ((Below.refl _ wr).alloc (nlr _) _ |>.mono aJ.out.size), rfl⟩
  ·have aI : l.take j = l := ltL (by omega);rw [aI] at hown aB;have aW : Hid (Jm l = some (l.map Vl.str)) := Lq7 (if_pos aB.out);have Hown' := Lq7 hown.out;obtain ⟨aL, cL, rfl, -, -⟩ := hown.out.strsAt;clear hown aB aI;go_wp2_with fail;refine bodyPost_ret (v := .tuple #[.slice aL (l.map Vl.str).length cL, .bool true]) (by simp [results, Tryz.results243, go_sem]) rfl ?_;rw [aW.out];exact ⟨aJ.out, _, rfl, Hown'.out⟩
def occL (a b : ByteArray) : Nat := if b.size = 1 then Lib.countByte a.data.toList b.data[0]! else Lib.countB a b
theorem Vi (a b : ByteArray) (w : World) (hB : StdB w) (ha : a.size ≤ 65536) (hb : 1 ≤ b.size) :
  Calls Tryz.prog 86 #[.string a, .string b] w (fun e w' => e = .returned (.int .i64 (occL a b : Nat)) ∧ w' = w) := by
 unfold occL;by_cases h : b.size = 1
 ·rw [if_pos h];obtain ⟨⟨l⟩⟩ := b
  match l, h with
  | [c], _ => exact Tryz.strings_Count_one a c w
 ·rw [if_neg h];obtain ⟨m, hm⟩ := hB;exact Tryz.strings_Count a b m w (by omega) hm (by omega)
theorem Tj (a b : ByteArray) (hb : 1 ≤ b.size) : occL a b ≤ a.size := by
 unfold occL;split
 ·exact List.count_le_length
 ·exact Lib.countB_le b hb _ a (nlr _)
def replB (a b c : ByteArray) : ByteArray := toBs (Lib.replaceAll a.data.toList b.data.toList c.data.toList)
def replaceL (a b c : ByteArray) : Except Int Vl := if b.size = 0 then .error 1 else if (65536 : Int) < a.size + occL a b * ((c.size : Int) - b.size) then .error 6 else Am (replB a b c)
def Du (l : List Vl) : Except Int Vl := match Jm l with | some [a, b, c] => replaceL a b c | _ => .error 9
theorem Jj (old new : List UInt8) : ∀ (k : Nat) (s : List UInt8), (Lib.replaceK old new k s).length ≤ s.length + k * new.length
 | 0, s => by simp [Lib.replaceK]
 | k + 1, s => by
  rw [Lib.replaceK];split
  ·omega
  ·have := Jj old new k (s.drop ((Lib.index s old).toNat + old.length));simp only [lnA, lnT, List.length_drop] at *;rw [Nat.add_mul];omega
theorem Mn (x y z : ByteArray) (hx : x.size ≤ 65536) (hy : 1 ≤ y.size) (hz : z.size ≤ 65536) : (replB x y z).size ≤ 9223372036854775807 := by
 have h0 : (replB x y z).size = (Lib.replaceAll x.data.toList y.data.toList z.data.toList).length := rfl;rw [h0];unfold Lib.replaceAll Lib.replace;have hxl : x.data.toList.length = x.size := rfl;have hzl : z.data.toList.length = z.size := rfl;split
 ·omega
 ·have hc : Lib.replaceNum x.data.toList y.data.toList (-1) ≤ 65536 := by
   have := Lib.countB_le y hy _ x (nlr _);unfold Lib.replaceNum;rw [if_pos (.inl (by decide))];exact nlt this hx
  have := Jj y.data.toList z.data.toList (Lib.replaceNum x.data.toList y.data.toList (-1)) x.data.toList;have := Nat.mul_le_mul hc (show z.data.toList.length ≤ 65536 by omega);omega
theorem Pb (a b c : ByteArray) (w : World) (hB : StdB w) (ha : a.size ≤ 65536) (hb : 1 ≤ b.size) (hc : c.size ≤ 65536) :
  Calls Tryz.prog 244 #[.string a, .string b, .string c] w (fun e w' => e = .returned (.string (replB a b c)) ∧ Below w.heap.size w w') := by
 obtain ⟨m, hm⟩ := hB;have h1 := Lib.countB_le b hb _ a (nlr _);have h2 : Lib.countB a b * c.size ≤ 65536 * 65536 := Nat.mul_le_mul (by omega) hc;exact Tryz.strings_ReplaceAll a b c m w (by omega) hm hb (by omega)
structure R3 (W : World) (b off : Nat) (x y z : ByteArray) : Prop where
 q0 : W.cell? ⟨b, off, none⟩ = some (.string x)
 q1 : W.cell? ⟨b, off + 1, none⟩ = some (.string y)
 q2 : W.cell? ⟨b, off + 2, none⟩ = some (.string z)
theorem R3.set {W : World} {b off : Nat} {x y z : ByteArray} (h : R3 W b off x y z) {b0 : Nat} (hne : b0 ≠ b) (i : Nat) (v : Value) : R3 (W.setCell ⟨b0, i, none⟩ v) b off x y z :=
 have k : ∀ j, (W.setCell ⟨b0, i, none⟩ v).cell? ⟨b, j, none⟩ = W.cell? ⟨b, j, none⟩ := fun _j => World.cell?_of_block (w := W) (set_other (Ne.symm hne) i v)
 ⟨(k _).trans h.q0, (k _).trans h.q1, (k _).trans h.q2⟩
structure RS (w W : World) (b0 b off : Nat) (x y z : ByteArray) : Prop where
 box : QB w W b0
 lt : b < W.heap.size
 ne : b0 ≠ b
 std : StdB W
 q0 : W.cell? ⟨b, off, none⟩ = some (.string x)
 q1 : W.cell? ⟨b, off + 1, none⟩ = some (.string y)
 q2 : W.cell? ⟨b, off + 2, none⟩ = some (.string z)
theorem RS.later {w W W' : World} {b0 b off : Nat} {x y z : ByteArray} (h : RS w W b0 b off x y z) (hb : Below W.heap.size W W') : RS w W' b0 b off x y z :=
 have k : ∀ i, W'.cell? ⟨b, i, none⟩ = W.cell? ⟨b, i, none⟩ := fun i => hb.cell (p := ⟨b, i, none⟩) h.lt
 ⟨h.box.later hb, nll h.lt hb.size, h.ne, h.std.below hb, (k _).trans h.q0, (k _).trans h.q1, (k _).trans h.q2⟩
theorem RS.three {w W : World} {b0 b off : Nat} {x y z : ByteArray} (h : RS w W b0 b off x y z) : R3 W b off x y z := ⟨h.q0, h.q1, h.q2⟩
theorem M6 (F : Nat → Prop) (v1 v2 v3 : Vl) (a : Option Addr) (cap : Nat) (w : World) (hB : StdB w) (hr : Ac F w a (valsD [v1, v2, v3])) (h1 : v1.str.size ≤ 65536) (h2 : v2.str.size ≤ 65536) (h3 : v3.str.size ≤ 65536) :
  Calls Tryz.prog 230 #[.slice a 3 cap] w (Bl (Du [v1, v2, v3]) w) := by
 have aC := QB.start w;generalize aX : w.alloc (.cells #[.int .i64 0, .int .i64 0, .string ⟨#[]⟩, .slice none 0 0, .slice none 0 0] 31) = W0 at aC;have H0 := Lq7 aC;have aV := Lq7 aX;have HC := Lq7 (strs_any F [v1, v2, v3] a cap W0 (hr.below H0.out.below) (by simp));have HB := Lq7 (hB.below H0.out.below);clear aC aX hr hB;cases hss : Jm [v1, v2, v3] with
 | none =>
  have Ht : Hid (Du [v1, v2, v3] = .error 9) := Lq7 (by unfold Du; rw [hss]);rw [hss] at HC;clear hss;go_enter Tryz.func230, Tryz.ntmps230;go_wp2_with fail;rw [aV.out];refine HC.out.mono ?_;rintro e w1 ⟨aG, rfl⟩;have H1 := Lq7 (H0.out.later aG);clear aG HC HB;obtain ⟨p0, p1, p2, p3, p4, p5, p6, p7, p8, p9, aE⟩ := five_facts H1.out.r;go_wp2_with fail;have aB := H1.out.err 9;generalize World.setCell _ _ _ = W9 at aB ⊢;clear p0 p1 p2 p3 p4 p5 p6 p7 p8 p9 aE;obtain ⟨p0, p1, p2, p3, p4, p5, p6, p7, p8, p9, aE⟩ := five_facts aB.2;refine bodyPost_ret (v := .tuple #[.agg #[.int .i64 0, .int .i64 0, .string ⟨#[]⟩, .slice none 0 0, .slice none 0 0], .int .i64 9]) (by simp [results, Tryz.results230, go_sem, p1, p2, p3, p4, p5]) rfl ?_;rw [Ht.out];exact aB.1
 | some ts =>
  have hts : ts = [v1.str, v2.str, v3.str] := by
   unfold Jm at hss;split at hss
   ·cases hss; rfl
   ·cases hss
  subst hts;have Ht : Hid (Du [v1, v2, v3] = replaceL v1.str v2.str v3.str) := Lq7 (by unfold Du; rw [hss]);rw [hss] at HC;clear hss;generalize v1.str = x at *;generalize v2.str = y at *;generalize v3.str = z at *;by_cases hy : y.size = 0
  ·obtain rfl : y = ⟨#[]⟩ := (by obtain ⟨⟨l⟩⟩ := y; match l, hy with | [], _ => rfl);have aM : Hid (Du [v1, v2, v3] = .error 1) := Lq7 (Ht.out.trans (if_pos rfl));go_enter Tryz.func230, Tryz.ntmps230;go_wp2_with fail;rw [aV.out];refine HC.out.mono ?_;rintro e w1 ⟨aG, xx, rfl, hown⟩;obtain ⟨aT, cT, rfl, aI, hcap⟩ := hown.strsAt;obtain ⟨b, off, rfl, q1⟩ := aI 1 _ rfl;have H1 := Lq7 (H0.out.later aG);clear aG HC HB aI hown;obtain ⟨p0, p1, p2, p3, p4, p5, p6, p7, p8, p9, aE⟩ := five_facts H1.out.r;go_wp2_with fail;have aB := H1.out.err 1;generalize World.setCell _ _ _ = W9 at aB ⊢;clear p0 p1 p2 p3 p4 p5 p6 p7 p8 p9 aE;obtain ⟨p0, p1, p2, p3, p4, p5, p6, p7, p8, p9, aE⟩ := five_facts aB.2;refine bodyPost_ret (v := .tuple #[.agg #[.int .i64 0, .int .i64 0, .string ⟨#[]⟩, .slice none 0 0, .slice none 0 0], .int .i64 1]) (by simp [results, Tryz.results230, go_sem, p1, p2, p3, p4, p5]) rfl ?_;rw [aM.out];exact aB.1
  ·have aY : ¬ y.data.toList = [] := fun h => hy (by have := congrArg List.length h; simpa using this);have hyn : (y.data.toList == []) = false := (by simpa using aY);have aW : ¬ y.toList = [] := (by rw [Lq8]; exact aY);have hyn2 : (y.toList == []) = false := (by simpa using aW);have hcl := Tj x y (by omega);have hm1 : ((occL x y : Nat) : Int) * ((z.size : Int) - y.size) ≤ 65536 * 65536 := by
    rcases Int.lt_or_le ((z.size : Int) - y.size) 0 with h | h
    ·exact Int.le_trans (Int.mul_nonpos_of_nonneg_of_nonpos (by omega) (by omega)) (by decide)
    ·exact Int.mul_le_mul (by omega) (by omega) h (by decide)
   have hm2 : -(65536 * 65536) ≤ ((occL x y : Nat) : Int) * ((z.size : Int) - y.size) := by
    rcases Int.lt_or_le ((z.size : Int) - y.size) 0 with h | h
    ·have := Int.mul_le_mul (a := ((occL x y : Nat) : Int)) (b := -((z.size : Int) - y.size)) (c := 65536) (d := 65536) (by omega) (by omega) (by omega) (by decide);rw [Int.mul_neg] at this;omega
    ·exact Int.le_trans (by decide) (Int.mul_nonneg (by omega) h)
   have aZ : wrap64 ((z.size : Int) - y.size) = (z.size : Int) - y.size := IntWalk.wrap64_in _ ⟨by omega, by omega⟩;have aF : Hid (replaceL x y z = if (65536 : Int) < x.size + ((occL x y : Nat) : Int) * ((z.size : Int) - y.size) then .error 6 else Am (replB x y z)) := Lq7 (if_neg hy);have aH := Lq7 (fun W hW => Vi x y W hW (by omega) (by omega));generalize hM : ((occL x y : Nat) : Int) * ((z.size : Int) - y.size) = M at hm1 hm2 aF;have aR : wrap64 M = M := IntWalk.wrap64_in _ ⟨by omega, by omega⟩;have bA : wrap64 ((x.size : Int) + M) = (x.size : Int) + M := IntWalk.wrap64_in _ ⟨by omega, by omega⟩;have HM := Lq7 hM;have Hw := Lq7 (And.intro aZ (And.intro aR bA));generalize occL x y = cn at HM aH hcl;clear hM aZ aR bA;have aN : ∃ B : Bool, Hid (B = decide ((65536 : Int) < x.size + M)) := ⟨_, Lq7 rfl⟩;obtain ⟨B, aQ⟩ := aN;go_enter Tryz.func230, Tryz.ntmps230;go_wp2_with fail;rw [aV.out];refine HC.out.mono ?_;rintro e w1 ⟨aG, xx, rfl, hown⟩;obtain ⟨aT, cT, rfl, aI, hcap⟩ := hown.strsAt;obtain ⟨b, off, rfl, q1⟩ := aI 1 _ rfl;obtain ⟨b', off', he, q0⟩ := aI 0 _ rfl;cases he;obtain ⟨b', off', he, q2⟩ := aI 2 _ rfl;cases he;rw [naz] at q0;have hne : w.heap.size ≠ b := by
    have := hown.block (g := b) rfl;have := H0.out.r;have := here this;omega
   have H1 : Hid (RS w w1 w.heap.size b off x y z) := Lq7 ⟨H0.out.later aG, block_of_cell q0, hne, HB.out.below aG, q0, q1, q2⟩;have hne := Lq7 hne;clear aG HC HB aI hown q0 q2;go_wp2_with fail;have H2 : Hid (RS w w1.drew w.heap.size b off x y z) := Lq7 (H1.out.later (Below.refl _ _).drew);refine Ae (.s 0 (.s 1 (.s 2 (.s 3 (.s 4 (.s 5 (.s 6 (.s 7 (.s 8 (.s 9 (.s 11 (.s 12 (.s 13 (.s 14 (.s 15 (.s 16 (.s 17 (.s 18 (.s 19 (.h 10 (.s 20 (.s 21 (.s 22 .nil))))))))))))))))))))))) 99 (fun W' => R3 W' b off x y z) (by kernel_rfl) (by kernel_rfl) (fun c a d v w h => by cases d <;> exact h) H2.out.three ?_
   generalize w1.drew = Wd at H2 ⊢;clear q1;refine Aa (.slice (some ⟨b, off, none⟩) 3 cT) rfl rfl (fun W' hS => ?_) ?_
   ·go_simp
   (try simp only [lgA, lgC, aP, laA, lsA, lsB]);refine Aa (.pointer (some ⟨b, off, none⟩)) rfl rfl (fun W' hS => ?_) ?_
   ·go_simp
   (try simp only [lgA, lgB, lgC, aP, laA, lsA, lsB]);refine Aa (.string x) rfl rfl (fun W' hS => ?_) ?_
   ·obtain ⟨z0, z1, z2⟩ := hS;go_simp
   (try simp only [lgA, lgB, lgC, aP, laA, lsA, lsB]);refine Aa (.int .i64 x.size) rfl rfl (fun W' hS => ?_) ?_
   ·go_simp
   (try simp only [lgA, lgB, lgC, aP, laA, lsA, lsB]);refine Aa (.slice (some ⟨b, off, none⟩) 3 cT) rfl rfl (fun W' hS => ?_) ?_
   ·go_simp
   (try simp only [lgA, lgB, lgC, aP, laA, lsA, lsB]);refine Aa (.pointer (some ⟨b, off, none⟩)) rfl rfl (fun W' hS => ?_) ?_
   ·go_simp
   (try simp only [lgA, lgB, lgC, aP, laA, lsA, lsB]);refine Aa (.string x) rfl rfl (fun W' hS => ?_) ?_
   ·obtain ⟨z0, z1, z2⟩ := hS;go_simp
   (try simp only [lgA, lgB, lgC, aP, laA, lsA, lsB]);refine Aa (.slice (some ⟨b, off, none⟩) 3 cT) rfl rfl (fun W' hS => ?_) ?_
   ·go_simp
   (try simp only [lgA, lgB, lgC, aP, laA, lsA, lsB]);refine Aa (.pointer (some ⟨b, off + 1, none⟩)) rfl rfl (fun W' hS => ?_) ?_
   ·go_simp
   (try simp only [lgA, lgB, lgC, aP, laA, lsA, lsB]);refine Aa (.string y) rfl rfl (fun W' hS => ?_) ?_
   ·obtain ⟨z0, z1, z2⟩ := hS;go_simp
   (try simp only [lgA, lgB, lgC, aP, laA, lsA, lsB]);refine Aa (.slice (some ⟨b, off, none⟩) 3 cT) rfl rfl (fun W' hS => ?_) ?_
   ·go_simp
   (try simp only [lgA, lgB, lgC, aP, laA, lsA, lsB]);refine Aa (.pointer (some ⟨b, off + 2, none⟩)) rfl rfl (fun W' hS => ?_) ?_
   ·go_simp
   (try simp only [lgA, lgB, lgC, aP, laA, lsA, lsB]);refine Aa (.string z) rfl rfl (fun W' hS => ?_) ?_
   ·obtain ⟨z0, z1, z2⟩ := hS;go_simp
   (try simp only [lgA, lgB, lgC, aP, laA, lsA, lsB]);refine Aa (.int .i64 z.size) rfl rfl (fun W' hS => ?_) ?_
   ·go_simp
   (try simp only [lgA, lgB, lgC, aP, laA, lsA, lsB]);refine Aa (.slice (some ⟨b, off, none⟩) 3 cT) rfl rfl (fun W' hS => ?_) ?_
   ·go_simp
   (try simp only [lgA, lgB, lgC, aP, laA, lsA, lsB]);refine Aa (.pointer (some ⟨b, off + 1, none⟩)) rfl rfl (fun W' hS => ?_) ?_
   ·go_simp
   (try simp only [lgA, lgB, lgC, aP, laA, lsA, lsB]);refine Aa (.string y) rfl rfl (fun W' hS => ?_) ?_
   ·obtain ⟨z0, z1, z2⟩ := hS;go_simp
   (try simp only [lgA, lgB, lgC, aP, laA, lsA, lsB]);refine Aa (.int .i64 y.size) rfl rfl (fun W' hS => ?_) ?_
   ·go_simp
   (try simp only [lgA, lgB, lgC, aP, laA, lsA, lsB]);refine Aa (.int .i64 ((z.size : Int) - y.size)) rfl rfl (fun W' hS => ?_) ?_
   ·go_simp;exact (IntWalk.i64_left _).trans Hw.out.1
   (try simp only [lgA, lgB, lgC, aP, laA, lsA, lsB]);refine Ad rfl (fun K10 aJ => ?_);go_wp2_with fail;refine (aH.out _ H2.out.std).mono ?_;rintro e w2 ⟨rfl, aR⟩;obtain rfl := aR.symm;go_wp2_with fail;refine aJ _ _ (fun _ => H2.out.three) ?_;(try simp only [lgA, lgB, lgC, aP, laA, lsA, lsB]);refine Aa (.int .i64 M) rfl rfl (fun W' hS => ?_) ?_
   ·have hm := HM.out;go_simp;exact (IntWalk.i64_left _).trans Hw.out.2.1
   (try simp only [lgA, lgB, lgC, aP, laA, lsA, lsB]);refine Aa (.int .i64 ((x.size : Int) + M)) rfl rfl (fun W' hS => ?_) ?_
   ·go_simp;exact (IntWalk.i64_left _).trans Hw.out.2.2
   (try simp only [lgA, lgB, lgC, aP, laA, lsA, lsB]);refine Aa (.bool B) rfl rfl (fun W' hS => ?_) ?_
   ·rw [aQ.out];go_simp
   (try simp only [lgA, lgB, lgC, aP, laA, lsA, lsB]);refine Ak ?_;(try simp only [lgA, lgB, lgC, aP, laA, lsA, lsB]);cases B with
   | true =>
    have aM : Hid (Du [v1, v2, v3] = .error 6) := Lq7 (Ht.out.trans (aF.out.trans (if_pos (of_decide_eq_true aQ.out.symm))));have H3 := Lq7 H2.out.box;clear H2 aQ aF Hw HM aH;obtain ⟨p0, p1, p2, p3, p4, p5, p6, p7, p8, p9, aE⟩ := five_facts H3.out.r;go_wp2_with fail;have aB := H3.out.err 6;generalize World.setCell _ _ _ = W9 at aB ⊢;clear p0 p1 p2 p3 p4 p5 p6 p7 p8 p9 aE;obtain ⟨p0, p1, p2, p3, p4, p5, p6, p7, p8, p9, aE⟩ := five_facts aB.2;refine bodyPost_ret (v := .tuple #[.agg #[.int .i64 0, .int .i64 0, .string ⟨#[]⟩, .slice none 0 0, .slice none 0 0], .int .i64 6]) (by simp [results, Tryz.results230, go_sem, p1, p2, p3, p4, p5]) rfl ?_;rw [aM.out];exact aB.1
   | false =>
    have aM : Hid (Du [v1, v2, v3] = Am (replB x y z)) := Lq7 (Ht.out.trans (aF.out.trans (if_neg (of_decide_eq_false aQ.out.symm))));have bB := Lq7 (fun W hW => Pb x y z W hW (by omega) (by omega) (by omega));have bC : (replB x y z).size ≤ 9223372036854775807 := Mn x y z (by omega) (by omega) (by omega);generalize replB x y z = R at aM bB bC;clear aQ aF Hw HM aH Ht;go_wp2_with fail;have H4 : Hid (RS w Wd.drew w.heap.size b off x y z) := Lq7 (H2.out.later (Below.refl _ _).drew);clear H2;refine Ae (.s 0 (.s 1 (.s 2 (.s 3 (.s 4 (.s 5 (.s 6 (.s 7 (.s 8 (.h 9 (.h 10 (.s 11 (.s 12 (.h 13 (.s 14 .nil))))))))))))))) 99 (fun W' => R3 W' b off x y z) (by kernel_rfl) (by kernel_rfl) (fun c a d v w h => by cases d <;> exact h) H4.out.three ?_
    generalize Wd.drew = We at H4 ⊢;refine Aa (.slice (some ⟨b, off, none⟩) 3 cT) rfl rfl (fun W' hS => ?_) ?_
    ·go_simp
    (try simp only [lgA, lgC, aP, laA, lsA, lsB]);refine Aa (.pointer (some ⟨b, off, none⟩)) rfl rfl (fun W' hS => ?_) ?_
    ·go_simp
    (try simp only [lgA, lgB, lgC, aP, laA, lsA, lsB]);refine Aa (.string x) rfl rfl (fun W' hS => ?_) ?_
    ·obtain ⟨z0, z1, z2⟩ := hS;go_simp
    (try simp only [lgA, lgB, lgC, aP, laA, lsA, lsB]);refine Aa (.slice (some ⟨b, off, none⟩) 3 cT) rfl rfl (fun W' hS => ?_) ?_
    ·go_simp
    (try simp only [lgA, lgB, lgC, aP, laA, lsA, lsB]);refine Aa (.pointer (some ⟨b, off + 1, none⟩)) rfl rfl (fun W' hS => ?_) ?_
    ·go_simp
    (try simp only [lgA, lgB, lgC, aP, laA, lsA, lsB]);refine Aa (.string y) rfl rfl (fun W' hS => ?_) ?_
    ·obtain ⟨z0, z1, z2⟩ := hS;go_simp
    (try simp only [lgA, lgB, lgC, aP, laA, lsA, lsB]);refine Aa (.slice (some ⟨b, off, none⟩) 3 cT) rfl rfl (fun W' hS => ?_) ?_
    ·go_simp
    (try simp only [lgA, lgB, lgC, aP, laA, lsA, lsB]);refine Aa (.pointer (some ⟨b, off + 2, none⟩)) rfl rfl (fun W' hS => ?_) ?_
    ·go_simp
    (try simp only [lgA, lgB, lgC, aP, laA, lsA, lsB]);refine Aa (.string z) rfl rfl (fun W' hS => ?_) ?_
    ·obtain ⟨z0, z1, z2⟩ := hS;go_simp
    (try simp only [lgA, lgB, lgC, aP, laA, lsA, lsB]);refine Ad rfl (fun K9 hK9 => ?_);go_wp2_with fail;refine (bB.out _ H4.out.std).mono ?_;rintro e w2 ⟨rfl, bD⟩;have H5 := Lq7 (H4.out.later bD);clear bD H4;go_wp2_with fail;refine hK9 _ _ (fun _ => H5.out.three) ?_;(try simp only [lgA, lgB, lgC, aP, laA, lsA, lsB]);refine Ad rfl (fun K10 aJ => ?_);go_wp2_with fail;refine (Cm R _ bC).mono ?_;rintro e w9 h9;rw [← aM.out] at h9;have H6 := Lq7 (H5.out.later h9.1);obtain ⟨k9, n9, s9, bE, bF, bG, a29, bH, bI, m9, rfl, bJ, bL, bM⟩ := H5.out.box.fin h9;have aU := Lq7 (And.intro bJ (And.intro bL bM));clear h9 bL bM bJ H5;go_wp2_with fail;refine aJ _ _ (fun _ => H6.out.three) ?_;(try simp only [lgA, lgB, lgC, aP, laA, lsA, lsB]);refine Aa (.agg #[.int .i64 k9, .int .i64 n9, .string s9, .slice bE bF bG, .slice a29 bH bI]) rfl rfl (fun W' hS => ?_) ?_
    ·go_simp
    (try simp only [lgA, lgB, lgC, aP, laA, lsA, lsB]);refine Aa (.int .i64 m9) rfl rfl (fun W' hS => ?_) ?_
    ·go_simp
    (try simp only [lgA, lgB, lgC, aP, laA, lsA, lsB]);obtain ⟨p0, p1, p2, p3, p4, p5, p6, p7, p8, p9, aE⟩ := five_facts aU.out.1;refine Ad rfl (fun KS hKS => ?_);go_wp2_with fail;refine hKS _ _ (fun _ => ((((H6.out.three.set hne.out 0 _).set hne.out 1 _).set hne.out 2 _).set hne.out 3 _).set hne.out 4 _) ?_;generalize World.setCell _ _ _ = W9 at aU ⊢;clear p0 p1 p2 p3 p4 p5 p6 p7 p8 p9 aE;(try simp only [lgA, lgB, lgC, aP, laA, lsA, lsB]);refine Aa (.int .i64 m9) rfl rfl (fun W' hS => ?_) ?_
    ·go_simp
    (try simp only [lgA, lgB, lgC, aP, laA, lsA, lsB]);refine Ak ?_;(try simp only [lgA, lgB, lgC, aP, laA, lsA, lsB]);go_wp2_with fail;obtain ⟨p0, p1, p2, p3, p4, p5, p6, p7, p8, p9, aE⟩ := five_facts aU.out.2.2;exact bodyPost_ret (v := .tuple #[.agg #[.int .i64 k9, .int .i64 n9, .string s9, .slice bE bF bG, .slice a29 bH bI], .int .i64 m9]) (by simp [results, Tryz.results230, go_sem, p1, p2, p3, p4, p5]) rfl aU.out.2.1
def Gh (x : Vl) : Prop := ∀ (F : Nat → Prop) (a1 : Option Addr) (c1 : Nat) (a2 : Option Addr) (c2 : Nat) (w : World), (∀ b, F b → b < w.heap.size) → Ac F w a1 (valsD x.items) → Ac F w a2 (Aq x.keys) →
 Calls Tryz.prog 49 #[vCells x.kind x.num x.str a1 x.items.length c1 a2 x.keys.length c2] w (Dp (textV x) w)
theorem Gi (k n : Int) (s : ByteArray) (l : List Vl) (ks : List ByteArray) (hk : k = 0 ∨ k = 1 ∨ k = 2 ∨ k = 3) (hn : inR n = true) (hs : s.size ≤ 65536) : Gh (.mk k n s l ks) := by
 intro F a1 c1 a2 c2 w hF hr1 hr2;show Calls Tryz.prog 49 #[vCells k n s a1 l.length c1 a2 ks.length c2] w _;have H0 : Hid (TB w (w.alloc (.cells #[.int .i64 k, .int .i64 n, .string s, .slice a1 l.length c1, .slice a2 ks.length c2] 31)) #[.int .i64 k, .int .i64 n, .string s, .slice a1 l.length c1, .slice a2 ks.length c2]) := Lq7 ⟨(Below.refl _ w).alloc (nlr _) _, heap_alloc_new w _⟩;clear hF hr1 hr2;unfold vCells;rcases hk with rfl | rfl | rfl | rfl
 ·have Ht : Hid (textV (.mk 0 n s l ks) = [110, 111, 110, 101]) := Lq7 (by rw [textV]; rfl);go_enter Tryz.func49, Tryz.ntmps49;go_wp2_with fail;go_ret;exact ⟨_, rfl, Ht.out.symm, H0.out.below⟩
 ·by_cases h1 : n = 1
  ·subst h1;have Ht : Hid (textV (.mk 1 1 s l ks) = [116, 114, 117, 101]) := Lq7 (by rw [textV]; rfl);go_enter Tryz.func49, Tryz.ntmps49;go_wp2_with fail;go_ret;exact ⟨_, rfl, Ht.out.symm, H0.out.below⟩
  ·have Ht : Hid (textV (.mk 1 n s l ks) = [102, 97, 108, 115, 101]) := Lq7 (by rw [textV, if_pos rfl, if_neg h1]);have h2 : (n == 1) = false := (by simpa using h1);go_enter Tryz.func49, Tryz.ntmps49;go_wp2_with fail;go_ret;exact ⟨_, rfl, Ht.out.symm, H0.out.below⟩
 ·have Ht : Hid (textV (.mk 2 n s l ks) = Lib.itoa n) := Lq7 (by rw [textV, if_neg (by decide), if_pos rfl]);have HN := Lq7 (Ss n hn);unfold NumC at HN;go_enter Tryz.func49, Tryz.ntmps49;go_wp2_with fail;refine (HN.out _).mono ?_;rintro e w1 ⟨o, rfl, ho, hb⟩;have H1 := Lq7 (And.intro ho (H0.out.below.trans (hb.mono H0.out.below.size)));clear ho hb;go_wp2_with fail;go_ret;exact ⟨_, rfl, H1.out.1.trans Ht.out.symm, H1.out.2⟩
 ·have Ht : Hid (textV (.mk 3 n s l ks) = quoteL s.data.toList) := Lq7 (by rw [textV, if_neg (by decide), if_neg (by decide), if_pos rfl]);have HQ := Lq7 (fun W => Gf s W hs);go_enter Tryz.func49, Tryz.ntmps49;go_wp2_with fail;refine (HQ.out _).mono ?_;rintro e w1 ⟨o, rfl, ho, hb⟩;have H1 := Lq7 (And.intro ho (H0.out.below.trans (hb.mono H0.out.below.size)));clear ho hb;go_wp2_with fail;go_ret;exact ⟨_, rfl, H1.out.1.trans Ht.out.symm, H1.out.2⟩
theorem C2 (its : List (List UInt8)) (sep : List UInt8) (j : Nat) : (Lib.join (its.take j) sep).length ≤ (Lib.join its sep).length := by
 rw [Es, Es];have h1 : ((its.take j).map List.length).sum ≤ (its.map List.length).sum := by
  conv => rhs; rw [← List.take_append_drop j its, List.map_append, List.sum_append]
  omega
 have h2 : ((its.take j).length - 1) * sep.length ≤ (its.length - 1) * sep.length := Nat.mul_le_mul_right _ (by rw [lnT]; omega);omega
theorem N6 (its : List (List UInt8)) (sep : List UInt8) (j : Nat) (h : j < its.length) : Lib.join (its.take (j + 1)) sep = if 0 < j then Lib.join (its.take j) sep ++ sep ++ its[j] else its[j] := by
 rw [ltA, lgE h, Option.toList_some, Nm, lnT, Nat.min_eq_left (Nat.le_of_lt h)]
theorem rtext_4 (n : Int) (s : ByteArray) (l : List Vl) (ks : List ByteArray) (hl : l.length ≤ 1000) (_hks : ks.length ≤ 1000) (hmax : (textV (.mk 4 n s l ks)).length ≤ textMax) (ih : ∀ x ∈ l, Gh x) : Gh (.mk 4 n s l ks) := by
 intro F a1 c1 a2 c2 w hF aQ aR;replace aQ : Ac F w a1 (valsD l) := aQ;replace aR : Ac F w a2 (Aq ks) := aR;show Calls Tryz.prog 49 #[vCells 4 n s a1 l.length c1 a2 ks.length c2] w _;have H0 : Hid (TB w (w.alloc (.cells #[.int .i64 4, .int .i64 n, .string s, .slice a1 l.length c1, .slice a2 ks.length c2] 31)) #[.int .i64 4, .int .i64 n, .string s, .slice a1 l.length c1, .slice a2 ks.length c2]) := Lq7 ⟨(Below.refl _ w).alloc (nlr _) _, heap_alloc_new w _⟩;have Hk := Lq7 (aR.below H0.out.below).strs;have Hr := Lq7 (And.intro (aQ.below H0.out.below) (fun b (hb : F b) => nll (hF b hb) H0.out.below.size));have Ht : Hid (textV (.mk 4 n s l ks) = [91] ++ Lib.join (textVs l) [44, 32] ++ [93]) := Lq7 (by rw [textV]; rfl);have aW : (Lib.join (textVs l) [44, 32]).length ≤ 140737488355328 := by
  have := Ht.out;unfold textMax at hmax;rw [this] at hmax;simp only [lnA, lnC, lnN] at hmax;omega
 have bO : (textVs l).length = l.length := (by rw [textVs_map, lnM]);have bP := Lq7 ih;generalize aI : textVs l = its at Ht aW bO;have aC := Lq7 aI;clear hF aQ aR ih aI hmax;unfold vCells;go_enter Tryz.func49, Tryz.ntmps49;go_wp2_with fail;generalize w.alloc _ = W0 at *
 go_loopw [3, 27] (fun v i wr => ∃ (j : Nat) (o : ByteArray), i = .int .i64 j ∧ j ≤ l.length ∧ v = .string o ∧ Hid (o.data.toList = Lib.join (its.take j) [44, 32]) ∧ Hid (Below W0.heap.size W0 wr)) (fun _ i _ => l.length - (intOf i).toNat)
 case atStart => exact ⟨0, _, rfl, nlz _, rfl, Lq7 rfl, Lq7 (Below.refl _ _)⟩
 case round =>
  obtain ⟨j, o, rfl, hj, rfl, ho, aB⟩ := hrel;have hos : o.size ≤ 140737488355328 := by
   have h1 : o.data.toList.length = o.size := rfl;rw [ho.out] at h1;have := C2 its [44, 32] j;omega
  have HT := Lq7 (H0.out.later aB.out);obtain ⟨q0, q1, q2, q3, q4, q5, -⟩ := five_facts HT.out.v;by_cases hlt : j < l.length
  ·cases hx : l[j] with
   | mk xk xn xs xl xks =>
    have aX : l[j]? = some (.mk xk xn xs xl xks) := (by rw [lgE hlt, hx]);have aU := Lq7 (N6 its [44, 32] j (by omega));obtain ⟨b, off, x1, y1, x2, y2, bQ, -, hbl, r0, r1, r2, r3, r4, bI, bJ⟩ := (Hr.out.1.below aB.out).val aX;have Hv := Lq7 (And.intro bI bJ);have HX := Lq7 (bP.out _ (lgM aX));have bL := Lq7 (V5.mk hbl r0 r1 r2 r3 r4);subst bQ;have aV : Hid ((l[j]'hlt) = .mk xk xn xs xl xks) := Lq7 hx;clear bI bJ hx aX;by_cases hj0 : j = 0
    ·skip;have aF : Hid (its[j]'(by omega) = textV (.mk xk xn xs xl xks)) := Lq7 (by
      simp only [← aC.out, textVs_map, List.getElem_map, aV.out])
     have aY : Hid (∀ z : List UInt8, z = its[j]'(by omega) → o.data.toList ++ z = Lib.join (its.take (j + 1)) [44, 32]) := Lq7 (fun z hz => by
      rw [aU.out, if_neg (by omega), hz, ho.out];simp [hj0, Lib.join_nil])
     have bR := C2 its [44, 32] (j + 1);have bS : o.data.toList.length = o.size := rfl;have aZ : ¬ (0 : Int) < (j : Int) := (by omega);subst hj0;simp only [nzm, naz] at r0 r1 r2 r3 r4;clear aU aC aV;have aJ := Lq7 (HX.out F x1 y1 x2 y2 wr (fun g hg => by have := Hr.out.2 g hg; have := aB.out.size; omega) Hv.out.1 Hv.out.2);unfold vCells at aJ;have aG := congrArg List.length aF.out;have bU : (textV (.mk xk xn xs xl xks)).length ≤ 140737488355328 := by
      rw [← aG];exact nlt (Df [44, 32] (List.getElem_mem _)) aW
     clear aG;go_wp2_with fail;refine aJ.out.mono ?_;rintro e w2 ⟨o2, rfl, aE, aM⟩;have bA : o2.size = (textV (.mk xk xn xs xl xks)).length := (by rw [← aE]; rfl);have bB := Lq7 (aB.out.trans (aM.mono aB.out.size));have bC := Lq7 (aY.out o2.data.toList (by rw [aF.out, aE]));clear aM aE q0 q1 q2 q3 q4 q5 r0 r1 r2 r3 r4;go_wp2_with fail;go_roundw
     case rel => exact ⟨0 + 1, _, by go_num, by omega, rfl, Lq7 (by rw [← bC.out]; simp), bB⟩
     case measure => simp only [intOf]; omega
    ·skip;have aF : Hid (its[j]'(by omega) = textV (.mk xk xn xs xl xks)) := Lq7 (by
      simp only [← aC.out, textVs_map, List.getElem_map, aV.out])
     have aY : Hid (∀ z : List UInt8, z = its[j]'(by omega) → o.data.toList ++ [44, 32] ++ z = Lib.join (its.take (j + 1)) [44, 32]) := Lq7 (fun z hz => by
      rw [aU.out, if_pos (by omega), hz, ho.out])
     have bR := C2 its [44, 32] (j + 1);have bS : o.data.toList.length = o.size := rfl;have aZ : (0 : Int) < (j : Int) := (by omega);clear aU aC aV;have aJ := Lq7 (HX.out F x1 y1 x2 y2 wr (fun g hg => by have := Hr.out.2 g hg; have := aB.out.size; omega) Hv.out.1 Hv.out.2);unfold vCells at aJ;have aG := congrArg List.length aF.out;have bU : (textV (.mk xk xn xs xl xks)).length ≤ 140737488355328 := by
      rw [← aG];exact nlt (Df [44, 32] (List.getElem_mem _)) aW
     clear aG;go_wp2_with fail;refine aJ.out.mono ?_;rintro e w2 ⟨o2, rfl, aE, aM⟩;have bA : o2.size = (textV (.mk xk xn xs xl xks)).length := (by rw [← aE]; rfl);have bB := Lq7 (aB.out.trans (aM.mono aB.out.size));have bC := Lq7 (aY.out o2.data.toList (by rw [aF.out, aE]));clear aM aE q0 q1 q2 q3 q4 q5 r0 r1 r2 r3 r4;go_wp2_with fail;go_roundw
     case rel => exact ⟨j + 1, _, by go_num, by omega, rfl, Lq7 (by rw [← bC.out]; simp), bB⟩
     case measure => simp only [intOf]; omega
  ·have bM : its.take j = its := ltL (by omega);have bD : Hid (textV (.mk 4 n s l ks) = [91] ++ o.data.toList ++ [93]) := Lq7 (by rw [Ht.out, ho.out, bM]);have Hb := Lq7 (H0.out.below.trans (aB.out.mono H0.out.below.size));clear ho bM aB;go_wp2_with fail;go_ret;exact ⟨_, rfl, by rw [bD.out, Av, Av], Hb.out⟩
theorem rtext_5 (n : Int) (s : ByteArray) (l : List Vl) (ks : List ByteArray) (hl : l.length ≤ 1000) (hks : ks.length ≤ 1000) (hlk : l.length = ks.length) (hkz : ∀ x ∈ ks, x.size ≤ 65536) (hmax : (textV (.mk 5 n s l ks)).length ≤ textMax) (ih : ∀ x ∈ l, Gh x) : Gh (.mk 5 n s l ks) := by
 intro F a1 c1 a2 c2 w hF aQ aR;replace aQ : Ac F w a1 (valsD l) := aQ;replace aR : Ac F w a2 (Aq ks) := aR;show Calls Tryz.prog 49 #[vCells 5 n s a1 l.length c1 a2 ks.length c2] w _;have H0 : Hid (TB w (w.alloc (.cells #[.int .i64 5, .int .i64 n, .string s, .slice a1 l.length c1, .slice a2 ks.length c2] 31)) #[.int .i64 5, .int .i64 n, .string s, .slice a1 l.length c1, .slice a2 ks.length c2]) := Lq7 ⟨(Below.refl _ w).alloc (nlr _) _, heap_alloc_new w _⟩;have Hk := Lq7 (aR.below H0.out.below).strs;have Hr := Lq7 (And.intro (aQ.below H0.out.below) (fun b (hb : F b) => nll (hF b hb) H0.out.below.size));have Ht : Hid (textV (.mk 5 n s l ks) = [123] ++ Lib.join (entriesL ks (textVs l)) [44, 32] ++ [125]) := Lq7 (by rw [textV]; rfl);have aW : (Lib.join (entriesL ks (textVs l)) [44, 32]).length ≤ 140737488355328 := by
  have := Ht.out;unfold textMax at hmax;rw [this] at hmax;simp only [lnA, lnC, lnN] at hmax;omega
 have bO : (entriesL ks (textVs l)).length = l.length := (by unfold entriesL; rw [List.length_zipWith, textVs_map, lnM]; omega);have bP := Lq7 ih;generalize aI : entriesL ks (textVs l) = its at Ht aW bO;have aC := Lq7 aI;clear hF aQ aR ih aI hmax;have cB := Lq7 hlk;have cC := Lq7 hkz;clear hlk hkz;unfold vCells;go_enter Tryz.func49, Tryz.ntmps49;go_wp2_with fail;generalize w.alloc _ = W0 at *
 go_loopw [3, 27] (fun v i wr => ∃ (j : Nat) (o : ByteArray), i = .int .i64 j ∧ j ≤ l.length ∧ v = .string o ∧ Hid (o.data.toList = Lib.join (its.take j) [44, 32]) ∧ Hid (Below W0.heap.size W0 wr)) (fun _ i _ => l.length - (intOf i).toNat)
 case atStart => exact ⟨0, _, rfl, nlz _, rfl, Lq7 rfl, Lq7 (Below.refl _ _)⟩
 case round =>
  obtain ⟨j, o, rfl, hj, rfl, ho, aB⟩ := hrel;have hos : o.size ≤ 140737488355328 := by
   have h1 : o.data.toList.length = o.size := rfl;rw [ho.out] at h1;have := C2 its [44, 32] j;omega
  have HT := Lq7 (H0.out.later aB.out);obtain ⟨q0, q1, q2, q3, q4, q5, -⟩ := five_facts HT.out.v;by_cases hlt : j < l.length
  ·cases hx : l[j] with
   | mk xk xn xs xl xks =>
    have aX : l[j]? = some (.mk xk xn xs xl xks) := (by rw [lgE hlt, hx]);have aU := Lq7 (N6 its [44, 32] j (by omega));obtain ⟨b, off, x1, y1, x2, y2, bQ, -, hbl, r0, r1, r2, r3, r4, bI, bJ⟩ := (Hr.out.1.below aB.out).val aX;have Hv := Lq7 (And.intro bI bJ);have HX := Lq7 (bP.out _ (lgM aX));have bL := Lq7 (V5.mk hbl r0 r1 r2 r3 r4);subst bQ;have aV : Hid ((l[j]'hlt) = .mk xk xn xs xl xks) := Lq7 hx;clear bI bJ hx aX;by_cases hj0 : j = 0
    ·skip;have bN : j < ks.length := (by have := cB.out; omega);obtain ⟨bk, ok, bV, bH⟩ := (Hk.out.below aB.out).at bN;subst bV;have aF : Hid (its[j]'(by omega) = quoteL ks[j].data.toList ++ [58, 32] ++ textV (.mk xk xn xs xl xks)) := Lq7 (by
      simp only [← aC.out, entriesL, List.getElem_zipWith, textVs_map, List.getElem_map, aV.out])
     have aN := cC.out _ (List.getElem_mem bN);generalize ks[j] = key at bH aF aN;have aY : Hid (∀ z : List UInt8, z = its[j]'(by omega) → o.data.toList ++ z = Lib.join (its.take (j + 1)) [44, 32]) := Lq7 (fun z hz => by
      rw [aU.out, if_neg (by omega), hz, ho.out];simp [hj0, Lib.join_nil])
     have bR := C2 its [44, 32] (j + 1);have bS : o.data.toList.length = o.size := rfl;have aZ : ¬ (0 : Int) < (j : Int) := (by omega);subst hj0;simp only [nzm, naz] at r0 r1 r2 r3 r4;simp only [naz] at bH;clear aU aC aV;have HQ := Lq7 (fun W => Gf key W aN);have bW : (textV (.mk 5 n s l ks)).length ≤ 140737488355500 := (by rw [Ht.out]; simp only [lnA, lnC, lnN]; omega);have aG := congrArg List.length aF.out;simp only [lnA, lnC, lnN] at aG;have bU : (quoteL key.data.toList).length + 2 + (textV (.mk xk xn xs xl xks)).length ≤ 140737488355328 := by
      rw [← aG];exact nlt (Df [44, 32] (List.getElem_mem _)) aW
     clear bW aG;go_wp2_with fail;refine (HQ.out _).mono ?_;rintro e w1 ⟨oq, rfl, bE, aH⟩;have bX : oq.size = (quoteL key.data.toList).length := (by rw [← bE]; rfl);have bY := Lq7 (HT.out.later aH);have bF := Lq7 (bL.out.below aH);have bG := Lq7 (aB.out.trans (aH.mono aB.out.size));have bZ := Lq7 bE;clear q0 q1 q2 q3 q4 q5 r0 r1 r2 r3 r4 bE HT bL bH;obtain ⟨q0, q1, q2, q3, q4, q5, -⟩ := five_facts bY.out.v;obtain ⟨-, r0, r1, r2, r3, r4⟩ := bF.out;(try simp only [nzm, naz] at r0 r1 r2 r3 r4);have aJ := Lq7 (HX.out F x1 y1 x2 y2 w1 (fun g hg => by have := Hr.out.2 g hg; have := bG.out.size; omega) (Hv.out.1.below aH) (Hv.out.2.below aH));unfold vCells at aJ;clear aH;go_wp2_with fail;refine aJ.out.mono ?_;rintro e w2 ⟨o2, rfl, aE, aM⟩;have bA : o2.size = (textV (.mk xk xn xs xl xks)).length := (by rw [← aE]; rfl);have bB := Lq7 (bG.out.trans (aM.mono bG.out.size));have bC := Lq7 (aY.out (oq.data.toList ++ [58, 32] ++ o2.data.toList) (by rw [aF.out, bZ.out, aE]));clear aM aE q0 q1 q2 q3 q4 q5 r0 r1 r2 r3 r4;go_wp2_with fail;go_roundw
     case rel => exact ⟨0 + 1, _, by go_num, by omega, rfl, Lq7 (by rw [← bC.out]; simp), bB⟩
     case measure => simp only [intOf]; omega
    ·skip;have bN : j < ks.length := (by have := cB.out; omega);obtain ⟨bk, ok, bV, bH⟩ := (Hk.out.below aB.out).at bN;subst bV;have aF : Hid (its[j]'(by omega) = quoteL ks[j].data.toList ++ [58, 32] ++ textV (.mk xk xn xs xl xks)) := Lq7 (by
      simp only [← aC.out, entriesL, List.getElem_zipWith, textVs_map, List.getElem_map, aV.out])
     have aN := cC.out _ (List.getElem_mem bN);generalize ks[j] = key at bH aF aN;have aY : Hid (∀ z : List UInt8, z = its[j]'(by omega) → o.data.toList ++ [44, 32] ++ z = Lib.join (its.take (j + 1)) [44, 32]) := Lq7 (fun z hz => by
      rw [aU.out, if_pos (by omega), hz, ho.out])
     have bR := C2 its [44, 32] (j + 1);have bS : o.data.toList.length = o.size := rfl;have aZ : (0 : Int) < (j : Int) := (by omega);clear aU aC aV;have HQ := Lq7 (fun W => Gf key W aN);have bW : (textV (.mk 5 n s l ks)).length ≤ 140737488355500 := (by rw [Ht.out]; simp only [lnA, lnC, lnN]; omega);have aG := congrArg List.length aF.out;simp only [lnA, lnC, lnN] at aG;have bU : (quoteL key.data.toList).length + 2 + (textV (.mk xk xn xs xl xks)).length ≤ 140737488355328 := by
      rw [← aG];exact nlt (Df [44, 32] (List.getElem_mem _)) aW
     clear bW aG;go_wp2_with fail;refine (HQ.out _).mono ?_;rintro e w1 ⟨oq, rfl, bE, aH⟩;have bX : oq.size = (quoteL key.data.toList).length := (by rw [← bE]; rfl);have bY := Lq7 (HT.out.later aH);have bF := Lq7 (bL.out.below aH);have bG := Lq7 (aB.out.trans (aH.mono aB.out.size));have bZ := Lq7 bE;clear q0 q1 q2 q3 q4 q5 r0 r1 r2 r3 r4 bE HT bL bH;obtain ⟨q0, q1, q2, q3, q4, q5, -⟩ := five_facts bY.out.v;obtain ⟨-, r0, r1, r2, r3, r4⟩ := bF.out;(try simp only [nzm, naz] at r0 r1 r2 r3 r4);have aJ := Lq7 (HX.out F x1 y1 x2 y2 w1 (fun g hg => by have := Hr.out.2 g hg; have := bG.out.size; omega) (Hv.out.1.below aH) (Hv.out.2.below aH));unfold vCells at aJ;clear aH;go_wp2_with fail;refine aJ.out.mono ?_;rintro e w2 ⟨o2, rfl, aE, aM⟩;have bA : o2.size = (textV (.mk xk xn xs xl xks)).length := (by rw [← aE]; rfl);have bB := Lq7 (bG.out.trans (aM.mono bG.out.size));have bC := Lq7 (aY.out (oq.data.toList ++ [58, 32] ++ o2.data.toList) (by rw [aF.out, bZ.out, aE]));clear aM aE q0 q1 q2 q3 q4 q5 r0 r1 r2 r3 r4;go_wp2_with fail;go_roundw
     case rel => exact ⟨j + 1, _, by go_num, by omega, rfl, Lq7 (by rw [← bC.out]; simp), bB⟩
     case measure => simp only [intOf]; omega
  ·have bM : its.take j = its := ltL (by omega);have bD : Hid (textV (.mk 5 n s l ks) = [123] ++ o.data.toList ++ [125]) := Lq7 (by rw [Ht.out, ho.out, bM]);have Hb := Lq7 (H0.out.below.trans (aB.out.mono H0.out.below.size));clear ho bM aB;go_wp2_with fail;go_ret;exact ⟨_, rfl, by rw [bD.out, Av, Av], Hb.out⟩
theorem Qx {l : List Vl} {x : Vl} (hx : x ∈ l) : ∃ t ∈ textVs l, t = textV x := ⟨textV x, by rw [textVs_map]; exact List.mem_map_of_mem hx, rfl⟩
theorem Sm {n : Int} {s : ByteArray} {l : List Vl} {ks : List ByteArray} {x : Vl} (hx : x ∈ l) : (textV x).length ≤ (textV (.mk 4 n s l ks)).length := by
 obtain ⟨t, ht, rfl⟩ := Qx hx;have h1 := Df [44, 32] ht;have h2 : textV (.mk 4 n s l ks) = [91] ++ Lib.join (textVs l) [44, 32] ++ [93] := (by rw [textV]; rfl);rw [h2];simp only [lnA, lnC, lnN];omega
theorem Sn {n : Int} {s : ByteArray} {l : List Vl} {ks : List ByteArray} (hlk : l.length = ks.length) {x : Vl} (hx : x ∈ l) : (textV x).length ≤ (textV (.mk 5 n s l ks)).length := by
 obtain ⟨j, hj, rfl⟩ := List.getElem_of_mem hx;have hj2 : j < (entriesL ks (textVs l)).length := (by unfold entriesL; rw [List.length_zipWith, textVs_map, lnM]; omega);have h1 := Df [44, 32] (List.getElem_mem hj2);have h3 : (entriesL ks (textVs l))[j] = quoteL (ks[j]'(by omega)).data.toList ++ [58, 32] ++ textV l[j] := by
  simp only [entriesL, List.getElem_zipWith, textVs_map, List.getElem_map]
 rw [h3] at h1;have h2 : textV (.mk 5 n s l ks) = [123] ++ Lib.join (entriesL ks (textVs l)) [44, 32] ++ [125] := (by rw [textV]; rfl);rw [h2];simp only [lnA, lnC, lnN] at h1 ⊢;omega
theorem node_kind {k n : Int} {s : ByteArray} {l : List Vl} {ks : List ByteArray} (h : nodeOk k n s l ks = true) : k = 0 ∨ k = 1 ∨ k = 2 ∨ k = 3 ∨ k = 4 ∨ k = 5 := by
 rcases node_told h with ⟨h, -⟩ | ⟨h, -⟩ | ⟨h, -⟩ | ⟨h, -⟩ | ⟨h, -⟩ | ⟨h, -⟩ <;> omega
theorem Vc (v : Vl) : nodesR v = true → prV v → (textV v).length ≤ textMax → Gh v :=
 Vl.rec (motive_1 := fun v => nodesR v = true → prV v → (textV v).length ≤ textMax → Gh v) (motive_2 := fun l => ∀ x ∈ l, nodesR x = true → prV x → (textV x).length ≤ textMax → Gh x)
  (fun k n s l ks ih hn hp hm => by
   rw [nodesR, Bool.and_eq_true] at hn;have hp' := hp;rw [prV] at hp';obtain ⟨p1, p2, p3, p4, p5, p6, p7⟩ := hp';have hits : ∀ (hle : ∀ x ∈ l, (textV x).length ≤ (textV (.mk k n s l ks)).length), ∀ x ∈ l, Gh x := fun hle x hx => by
    obtain ⟨j, hj⟩ := List.getElem?_of_mem hx;exact ih x hx (Km hn.1 hj) (prVs_mem p7 hx) (nlt (hle x hx) hm)
   rcases node_kind hn.2 with h | h | h | h | h | h
   ·exact Gi k n s l ks (.inl h) p1 p2
   ·exact Gi k n s l ks (.inr (.inl h)) p1 p2
   ·exact Gi k n s l ks (.inr (.inr (.inl h))) p1 p2
   ·exact Gi k n s l ks (.inr (.inr (.inr h))) p1 p2
   ·subst h;exact rtext_4 n s l ks p3 p4 hm (hits fun x hx => Sm hx)
   ·subst h;exact rtext_5 n s l ks p3 p4 (p6 rfl) p5 hm (hits fun x hx => Sn (p6 rfl) hx))
  (fun x hx => by cases hx)
  (fun v t hv ht x hx => by
   rcases List.mem_cons.1 hx with rfl | hx
   ·exact hv
   ·exact ht x hx) v
theorem So (k n : Int) (s : ByteArray) (l : List Vl) (ks : List ByteArray) (hck : checkV (.mk k n s l ks) = true) (F : Nat → Prop) (a1 : Option Addr) (c1 : Nat) (a2 : Option Addr) (c2 : Nat) (w : World) (hF : ∀ b, F b → b < w.heap.size) (hr1 : Ac F w a1 (valsD l)) (hr2 : Ac F w a2 (Aq ks)) :
  Calls Tryz.prog 31 #[.agg #[.int .i64 k, .int .i64 n, .string s, .slice a1 l.length c1, .slice a2 ks.length c2]] w (Dp (printV (.mk k n s l ks)) w) := by
 have aB : Below w.heap.size w (w.alloc (.cells #[.int .i64 k, .int .i64 n, .string s, .slice a1 l.length c1, .slice a2 ks.length c2] 31)) := (Below.refl _ w).alloc (nlr _) _;have H0 := Lq7 (And.intro (heap_alloc_new w (.cells #[.int .i64 k, .int .i64 n, .string s, .slice a1 l.length c1, .slice a2 ks.length c2] 31)) aB);have HC := Lq7 (Gb k n s l ks hck F a1 c1 a2 c2 _ (hr1.below aB) (hr2.below aB));have hle : (textV (.mk k n s l ks)).length ≤ textMax := (by have := I3 hck; unfold textMax; omega);have HT := Lq7 (fun W (h : Below w.heap.size w W) => Vc _ (Et hck).2.2 (G7 hck) hle F a1 c1 a2 c2 W (fun b hb => nll (hF b hb) h.size) (hr1.below h) (hr2.below h));have hp : printV (.mk k n s l ks) = textV (.mk k n s l ks) := (by unfold printV; rw [if_pos hck]);rw [hp];clear aB hr1 hr2 hck hF hp hle;generalize textV (.mk k n s l ks) = T at HT ⊢;go_enter Tryz.func31, Tryz.ntmps31;go_wp2_with fail;refine HC.out.mono ?_;rintro e w1 ⟨rfl, aC⟩;have H1 := Lq7 (And.intro (stays H0.out.1 aC) (H0.out.2.trans (aC.mono H0.out.2.size)));have aE := Lq7 (HT.out w1 H1.out.2);unfold vCells at aE;clear aC H0 HC HT;obtain ⟨q0, q1, q2, q3, q4, q5, -⟩ := five_facts H1.out.1;go_wp2_with fail;refine aE.out.mono ?_;rintro e w2 ⟨o, rfl, ho, aF⟩;have H2 := Lq7 (And.intro ho (H1.out.2.trans (aF.mono H1.out.2.size)));clear ho aF H1 aE;go_wp2_with fail;go_ret;exact ⟨_, rfl, H2.out.1, H2.out.2⟩
def Gg (a b s : List UInt8) : List UInt8 := Fz a b s.length s
theorem N5 {a : List UInt8} (ha : a ≠ []) (b : List UInt8) {f : Nat} {s : List UInt8} (h : s.length ≤ f) : Fz a b f s = Gg a b s := by
 unfold Gg;rw [G6 a b ha f s h, G6 a b ha _ s (nlr _)]
theorem rep_hit {a : List UInt8} (ha : a ≠ []) (b : List UInt8) {s : List UInt8} (hp : a.isPrefixOf s = true) : Gg a b s = b ++ Gg a b (s.drop a.length) := by
 have hal : 1 ≤ a.length := List.length_pos_iff.2 ha;cases s with
 | nil =>
  cases a with
  | nil => exact absurd rfl ha
  | cons x t => cases hp
 | cons c t =>
  have h1 : Gg a b (c :: t) = Fz a b (t.length + 1) (c :: t) := rfl;rw [h1, Fz, if_pos hp, N5 ha b (by rw [List.length_drop, lnC]; omega)]
theorem Q1 {a : List UInt8} (ha : a ≠ []) (b : List UInt8) {c : UInt8} {t : List UInt8} (hp : ¬ a.isPrefixOf (c :: t) = true) : Gg a b (c :: t) = c :: Gg a b t := by
 have h1 : Gg a b (c :: t) = Fz a b (t.length + 1) (c :: t) := rfl;rw [h1, Fz, if_neg hp, N5 ha b (nlr _)]
theorem rep_all (x y z : ByteArray) (hy : 1 ≤ y.size) : toBs (Gg y.data.toList z.data.toList x.data.toList) = replB x y z := by
 unfold replB Gg;rw [scan_all];intro h;have h1 : y.data.toList.length = 0 := (by rw [h]; rfl);have h2 : y.data.toList.length = y.size := rfl;omega
theorem Mh (x y z : ByteArray) (w : World) (hx : x.size ≤ 200) (hy1 : 1 ≤ y.size) (hy : y.size ≤ 65536) (hz : z.size ≤ 200) :
  Calls Tryz.prog 32 #[.string x, .string y, .string z] w (fun e w' => e = .returned (.string (replB x y z)) ∧ Below w.heap.size w w') := by
 have aM : y.data.toList ≠ [] := by
  intro h;have h1 : y.data.toList.length = 0 := (by rw [h]; rfl);have h2 : y.data.toList.length = y.size := rfl;omega
 have aH := Lq7 aM;have hxl : x.data.toList.length = x.size := rfl;clear aM;go_enter Tryz.func32, Tryz.ntmps32;go_wp2_with fail
 go_loop [7, 8] (fun v i => ∃ (k : Nat) (o : ByteArray), i = .int .i64 k ∧ k ≤ x.size ∧ v = .string o ∧ o.size ≤ k * 200 ∧ Hid (o.data.toList ++ Gg y.data.toList z.data.toList (x.data.toList.drop k) = Gg y.data.toList z.data.toList x.data.toList)) (fun _ i => x.size - (intOf i).toNat)
 case atStart => exact ⟨0, _, rfl, nlz _, rfl, nlr _, Lq7 rfl⟩
 case round =>
  obtain ⟨k, o, rfl, hk, rfl, hos, ho⟩ := hrel;have hos2 : o.size ≤ 40000 := (by omega);by_cases hlt : k < x.size
  ·have aB := Lq7 (N4 x k hlt);have aI : (x.extract k (k + 1)).size = 1 := by
    have : (x.extract k (k + 1)).data.toList.length = (x.extract k (k + 1)).size := rfl;rw [aB.out] at this;exact this.symm
   have aC : Hid (x.data.toList.drop k = x[k] :: x.data.toList.drop (k + 1)) := Lq7 (by rw [List.drop_eq_getElem_cons (by rw [hxl]; exact hlt)]; rfl);by_cases hfit : k + y.size ≤ x.size
   ·have aG : Hid ((x.extract k (k + y.size)).data.toList = (x.data.toList.drop k).take y.size) := Lq7 (by rw [Lib.extract_data]; simp);by_cases heq : (x.extract k (k + y.size)).data.toList = y.data.toList
    ·have Hp : Hid (y.data.toList.isPrefixOf (x.data.toList.drop k) = true) := Lq7 (by
      rw [List.isPrefixOf_iff_prefix, ← heq, aG.out];exact List.take_prefix _ _)
     have hxe : x.extract k (k + y.size) = y := bytes_ext heq;have aE : Hid ((o ++ z).data.toList ++ Gg y.data.toList z.data.toList (x.data.toList.drop (k + y.size)) = Gg y.data.toList z.data.toList x.data.toList) := Lq7 (by
      rw [← ho.out, rep_hit aH.out _ Hp.out, Av, List.drop_drop, List.append_assoc];rfl)
     have aF : (o ++ z).size ≤ (k + y.size) * 200 := (by rw [ByteArray.size_append]; omega);have hgo : (k : Int) + ((y.size : Int) - 1) + 1 = ((k + y.size : Nat) : Int) := (by omega);clear ho aC aG Hp aB aI heq;go_wp2_with fail;go_round
     case rel => exact ⟨k + y.size, _, by go_num, hfit, rfl, aF, aE⟩
     case measure => simp only [intOf]; omega
    ·have Hp : Hid (¬ y.data.toList.isPrefixOf (x.data.toList.drop k) = true) := Lq7 (by
      rw [List.isPrefixOf_iff_prefix];intro h;apply heq;rw [aG.out];exact (List.prefix_iff_eq_take.1 h).symm)
     have aE : Hid ((o ++ x.extract k (k + 1)).data.toList ++ Gg y.data.toList z.data.toList (x.data.toList.drop (k + 1)) = Gg y.data.toList z.data.toList x.data.toList) := Lq7 (by
      have hp := Hp.out;rw [aC.out] at hp;rw [← ho.out, aC.out, Q1 aH.out _ hp, Av, aB.out, List.append_assoc];rfl)
     have aF : (o ++ x.extract k (k + 1)).size ≤ (k + 1) * 200 := (by rw [ByteArray.size_append, aI]; omega);have he1 : ((x.extract k (k + y.size)).data.toList == y.data.toList) = false := (by rw [beq_eq_false_iff_ne]; exact heq);have he2 : ((x.extract k (k + y.size)).toList == y.toList) = false := (by rw [Lq8, Lq8]; exact he1);clear ho aC aG Hp aB heq;go_wp2_with fail;go_round
     case rel => exact ⟨k + 1, _, by go_num, hlt, rfl, aF, aE⟩
     case measure => simp only [intOf]; omega
   ·have Hp : Hid (¬ y.data.toList.isPrefixOf (x.data.toList.drop k) = true) := Lq7 (by
     rw [List.isPrefixOf_iff_prefix];intro h;have h1 := h.length_le;have h2 : y.data.toList.length = y.size := rfl;rw [List.length_drop] at h1;omega)
    have aE : Hid ((o ++ x.extract k (k + 1)).data.toList ++ Gg y.data.toList z.data.toList (x.data.toList.drop (k + 1)) = Gg y.data.toList z.data.toList x.data.toList) := Lq7 (by
     have hp := Hp.out;rw [aC.out] at hp;rw [← ho.out, aC.out, Q1 aH.out _ hp, Av, aB.out, List.append_assoc];rfl)
    have aF : (o ++ x.extract k (k + 1)).size ≤ (k + 1) * 200 := (by rw [ByteArray.size_append, aI]; omega);clear ho aC Hp aB;go_wp2_with fail;go_round
    case rel => exact ⟨k + 1, _, by go_num, hlt, rfl, aF, aE⟩
    case measure => simp only [intOf]; omega
  ·have aN : x.data.toList.drop k = [] := List.drop_eq_nil_of_le (by omega);have aJ : Hid (o = replB x y z) := Lq7 (by
    have h1 := ho.out;rw [aN] at h1;rw [← rep_all x y z hy1, ← h1];have h2 : Gg y.data.toList z.data.toList [] = [] := rfl;rw [h2, List.append_nil];rfl)
   clear ho aN;go_wp2_with fail;go_ret;exact ⟨by rw [aJ.out]; rfl, Below.refl _ w⟩
def Mf (x : Vl) : Prop := ∀ n0 : Nat, n0 + bulkV x ≤ 65536 → smallV x → ∀ (F : Nat → Prop) (a1 : Option Addr) (c1 : Nat) (a2 : Option Addr) (c2 : Nat) (w : World), (∀ b, F b → b < w.heap.size) → Ac F w a1 (valsD x.items) → Ac F w a2 (Aq x.keys) →
 Calls Tryz.prog 30 #[vCells x.kind x.num x.str a1 x.items.length c1 a2 x.keys.length c2, .int .i64 n0] w (fun e w' => e = .returned (.int .i64 ((n0 + bulkV x : Nat) : Int)) ∧ Below w.heap.size w w')
theorem Sr (k n : Int) (s : ByteArray) (l : List Vl) (ks : List ByteArray) (ih : ∀ x ∈ l, Mf x) : Mf (.mk k n s l ks) := by
 intro n0 hmax aB F a1 c1 a2 c2 w hF aJ aM;show Calls Tryz.prog 30 #[vCells k n s a1 l.length c1 a2 ks.length c2, .int .i64 n0] w _;rw [bulkV] at hmax;rw [smallV] at aB;have hll := aB.2.1;have hkl := aB.2.2.1;have H0 : Hid (TB w (w.alloc (.cells #[.int .i64 k, .int .i64 n, .string s, .slice a1 l.length c1, .slice a2 ks.length c2] 31)) #[.int .i64 k, .int .i64 n, .string s, .slice a1 l.length c1, .slice a2 ks.length c2]) := Lq7 ⟨(Below.refl _ w).alloc (nlr _) _, heap_alloc_new w _⟩;have Hk := Lq7 (aM.below H0.out.below).strs;have Hr := Lq7 (And.intro (aJ.below H0.out.below) (fun b (hb : F b) => nll (hF b hb) H0.out.below.size));have aN := Lq7 (And.intro ih (fun x (hx : x ∈ l) => smallVs_mem aB.2.2.2.2 hx));clear hF aJ aM ih aB;unfold vCells;go_enter Tryz.func30, Tryz.ntmps30;go_wp2_with fail;generalize hW0 : w.alloc (.cells #[.int .i64 k, .int .i64 n, .string s, .slice a1 l.length c1, .slice a2 ks.length c2] 31) = W0 at *;clear hW0
 go_loop [1, 17] (fun v i => ∃ j : Nat, i = .int .i64 j ∧ j ≤ ks.length ∧ v = .int .i64 (((n0 : Int) + s.size) + (sumS (ks.take j) : Nat))) (fun _ i => ks.length - (intOf i).toNat)
 case atStart => exact ⟨0, rfl, nlz _, by simp [sumS]⟩
 case round =>
  obtain ⟨j, rfl, hj, rfl⟩ := hrel;by_cases hlt : j < ks.length
  ·obtain ⟨bK, oK, hak, hck⟩ := Hk.out j _ (lgE hlt);subst hak;have hs1 := Hi ks j hlt;have hs2 := sumS_le ks (j + 1);generalize ks[j] = x at hck hs1;go_wp2_with fail;go_round
   case rel => exact ⟨j + 1, by go_num, by omega, by go_num⟩
   case measure => simp only [intOf]; omega
  ·have hjl : ks.take j = ks := ltL (by omega);rw [hjl];obtain ⟨q0, q1, q2, q3, q4, q5, -⟩ := five_facts H0.out.v;go_wp2_with fail;clear q0 q1 q2 q3 q4 q5
   go_loopw [1, 29] (fun v i wr => ∃ j : Nat, i = .int .i64 j ∧ j ≤ l.length ∧ v = .int .i64 (((n0 + s.size + sumS ks + bulkVs (l.take j) : Nat) : Int)) ∧ Hid (Below W0.heap.size W0 wr)) (fun _ i _ => l.length - (intOf i).toNat)
   case atStart => exact ⟨0, rfl, nlz _, by simp [bulkVs], Lq7 (Below.refl _ _)⟩
   case round =>
    obtain ⟨j2, rfl, hj2, rfl, aC⟩ := hrel;by_cases hlt2 : j2 < l.length
    ·cases hx : l[j2] with
     | mk xk xn xs xl xks =>
      have aF : l[j2]? = some (.mk xk xn xs xl xks) := (by rw [lgE hlt2, hx]);have hb1 := Kd l j2 hlt2;have hb2 := Nc l (j2 + 1);rw [hx] at hb1;obtain ⟨b, off, x1, y1, x2, y2, hae, -, hbl, r0, r1, r2, r3, r4, aQ, aR⟩ := (Hr.out.1.below aC.out).val aF;have aE : Below wr.heap.size wr (wr.alloc (.cells #[.int .i64 xk, .int .i64 xn, .string xs, .slice x1 xl.length y1, .slice x2 xks.length y2] 31)) := (Below.refl _ wr).alloc (nlr _) _;have HX := Lq7 (aN.out.1 _ (lgM aF) (n0 + s.size + sumS ks + bulkVs (l.take j2)) (by omega) (aN.out.2 _ (lgM aF)) F x1 y1 x2 y2 _ (fun b hb => by have := Hr.out.2 b hb; have := aC.out.size; have := aE.size; omega) (aQ.below aE) (aR.below aE));unfold vCells at HX;have aG := Lq7 (aC.out.trans (aE.mono aC.out.size));clear hx aF aQ aR aE;subst hae;generalize hbv : bulkV (.mk xk xn xs xl xks) = bv at *;clear hbv;go_wp2_with fail;refine HX.out.mono ?_;rintro e w1 ⟨rfl, aU⟩;have Hb3 := Lq7 (aG.out.trans (aU.mono aG.out.size));clear aU HX aG r0 r1 r2 r3 r4;go_wp2_with fail;go_roundw
      case rel => exact ⟨j2 + 1, by go_num, by omega, by go_num, Hb3⟩
      case measure => simp only [intOf]; omega
    ·have aH : l.take j2 = l := ltL (by omega);have aI : Hid (bulkV (.mk k n s l ks) = s.size + sumS ks + bulkVs l) := Lq7 rfl;rw [aH];have Hb := Lq7 (H0.out.below.trans (aC.out.mono H0.out.below.size));go_wp2_with fail;go_ret;exact ⟨by rw [aI.out, ← Nat.add_assoc, ← Nat.add_assoc]; rfl, Hb.out⟩
theorem Vd (v : Vl) : Mf v :=
 Vl.rec (motive_1 := fun v => Mf v) (motive_2 := fun l => ∀ x ∈ l, Mf x) (fun k n s l ks ih => Sr k n s l ks ih) (fun x hx => by cases hx)
  (fun v t hv ht x hx => by
   rcases List.mem_cons.1 hx with rfl | hx
   ·exact hv
   ·exact ht x hx) v
end Go.Proofs.YtcofbdjakicojaaGreatDoor
