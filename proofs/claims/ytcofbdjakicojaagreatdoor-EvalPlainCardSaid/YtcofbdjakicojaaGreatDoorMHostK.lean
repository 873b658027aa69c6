/-
  The evaluator's expr, however deep; its errors have a number.
  The walk of the evaluator's block: statements, one behind the other.
  The walks of the evaluator's statement, kind by kind. (Printed by stmt_gen.py.)
  The walk of the evaluator's each: For over a list.
  The walk of the evaluator's statement at an if. (Printed by if_gen.py.)
  The evaluator's statement, however deep.
  The chapter's example, in plain words: its tree; what comes of it with 14 steps, and with 13.
  The plain host among hosts: its method Call is found.
-/
import Derived.Test.YtcofbdjakicojaaGreatDoorMEvW
import Derived.Test.YtcofbdjakicojaaGreatDoorMGreatX
namespace Go.Proofs.YtcofbdjakicojaaGreatDoor
open Go Go.RowKit
open List renaming getElem?_eq_getElem → lgE, mem_of_getElem? → lgM, length_cons → lnC, length_nil → lnN
open Nat renaming le_refl → nlr, zero_le → nlz
open Go.Lib renaming hid → Lq7
set_option maxRecDepth 100000
set_option maxHeartbeats 16000000
def ENz {α : Type} (m : EM α) : Prop := ∀ st x y z, m st = .err x y z → x ≠ 0
theorem ENz.bind {α β : Type} {m : EM α} {g : α → EM β} (hm : ENz m) (hg : ∀ a, ENz (g a)) : ENz (EM.bind m g) := by
 intro st x y z h;cases hms : m st with
 | ok a st' => rw [C7 hms] at h; exact hg _ _ _ _ _ h
 | err a b c => rw [Bo hms] at h; cases h; exact hm _ _ _ _ hms
 | out => rw [A1 hms] at h; cases h
theorem ENz.pure {α : Type} (x : α) : ENz (EM.pure x) := fun _ _ _ _ h => by cases h
theorem ENz.out {α : Type} : ENz (eOut : EM α) := fun _ _ _ _ h => by cases h
theorem ENz.fail {α : Type} {e : Int} (he : e ≠ 0) (l c : Int) : ENz (eFail e l c : EM α) := fun _ _ _ _ h => by cases h; exact he
theorem ENz.step (l c : Int) : ENz (Dg l c) := fun st x y z h => by
 unfold Dg at h;split at h
 ·cases h; decide
 ·cases h
theorem ENz.put (s : ByteArray) (v : Vl) (l c : Int) : ENz (Gw s v l c) := fun st x y z h => by
 unfold Gw at h;split at h
 ·cases h; decide
 ·cases h
theorem ENz.made (v : Vl) (l c : Int) : ENz (Gx v l c) := by
 unfold Gx;split
 ·exact .pure _
 ·exact .fail (by decide) _ _
theorem ENz.items {ex : Nd → EM Vl} (hx : ∀ n, ENz (ex n)) : ∀ (l : List Nd) (acc : List Vl), ENz (F7 ex l acc)
 | [], acc => .pure acc
 | n :: t, acc => .bind (hx n) fun x => ENz.items hx t (acc ++ [x])
theorem ENz.sum (a b : Vl) (l c : Int) : ENz (eSum a b l c) := by
 unfold eSum;split
 ·exact .pure _
 ·exact .out
theorem ENz.op {ex : Nd → EM Vl} (hx : ∀ n, ENz (ex n)) (n : Nd) : ENz (eOp ex n) := by
 unfold eOp;split
 ·exact .bind (hx _) fun a => .bind (hx _) fun b => .sum a b _ _
 ·exact .out
theorem ENz.args {ex : Nd → EM Vl} (hx : ∀ n, ENz (ex n)) : ∀ (l : List Nd) (acc : List (ByteArray × Vl)), ENz (eArgs ex l acc)
 | [], acc => .pure acc
 | n :: t, acc => .bind (hx _) fun x => ENz.args hx t (acc ++ [(n.text, x)])
def Kg (ans : Ans) : Prop := ∀ log q y, ans log q = some (.error y) → y ≠ 0
theorem ENz.ask {ans : Ans} (h : Kg ans) (q : Ask) : ENz (eAsk ans q) := fun st x y z he => by
 unfold eAsk at he;split at he
 ·cases he
 ·next hq => cases he; exact h _ _ _ hq
 ·split at he
  ·cases he
  ·cases he; decide
theorem ENz.expr {ans : Ans} (_ha : Kg ans) {ex : Nd → EM Vl} (hx : ∀ n, ENz (ex n)) (n : Nd) : ENz (P0 ans ex n) := by
 refine .bind (.step _ _) fun _ => ?_;intro st x y z h;split at h
 ·split at h
  ·cases h
  ·dsimp only at h
   split at h
   ·cases h
   ·cases h; decide
 ·split at h
  ·split at h <;> cases h
  ·split at h
   ·exact ENz.bind (ENz.items hx n.kids []) (fun l => ENz.made _ _ _) st x y z h
   ·split at h
    ·exact ENz.op hx n st x y z h
    ·cases h
theorem ENz.exprs {ans : Ans} (ha : Kg ans) : ∀ (f : Nat) (n : Nd), ENz (Oj ans f n)
 | 0, _ => .out
 | f + 1, n => ENz.expr ha (ENz.exprs ha f) n
theorem Eq {mp mb : Nat} {hv : HostK} {fn : Nat} {rv : Value} (hdo : Pz fn rv mp mb hv) (hin : HInv fn rv hv) (ha : Kg hv.ans) : ∀ f, Ea 98 mp mb hv (Oj hv.ans f)
 | 0 => fun _ _ _ _ _ _ _ _ _ _ hne => absurd rfl hne
 | f + 1 => T6 (T7 (ENz.exprs ha f) (Eq hdo hin ha f)) (op_does (ENz.exprs ha f) (Eq hdo hin ha f)) (Ub hdo hin (ENz.exprs ha f) (Eq hdo hin ha f))
def Kh (f mp mb : Nat) (hv : HostK) (sm : Nd → EM Unit) : Prop := ∀ (G : Nat → Prop) (c : Ctx) (w : World) (st : St) (n : Nd) (v : Value), MS c w mp mb hv st → GOk G c w → Au G w n v → smallN n → sm n st ≠ .out →
 Calls Tryz.prog f #[ptr mp, v] w (EP mp mb hv Ls faultV c (sm n st) w)
structure XF (c0 : Ctx) (w : World) (c : Ctx) (W : World) (b : Nat) (f : Array Value) : Prop where
 mv : Mv c0 w c W
 fc : W.heap[b]? = some (.cells f 106 (0, 0))
 new : w.heap.size ≤ b
 out : ¬ c.M b ∧ ¬ c.F b
section
variable {c0 c c' : Ctx} {w W W' : World} {b : Nat} {f : Array Value}
theorem XF.later (h : XF c0 w c W b f) (k : Mv c W c' W') : XF c0 w c' W' b f := by
 have hl := (Array.getElem?_eq_some_iff.1 h.fc).1;refine ⟨h.mv.trans k, (k.block b hl h.out.1).trans h.fc, h.new, fun hm => ?_, fun hm => ?_⟩
 ·rcases k.m b hm with h3 | h3
  ·exact h.out.1 h3
  ·omega
 ·rcases k.f b hm with h3 | h3
  ·exact h.out.2 h3
  ·omega
theorem XF.below (h : XF c0 w c W b f) (k : Below W.heap.size W W') : XF c0 w c W' b f := h.later (.of_below c k)
theorem XF.setF {x0 x1 x2 : Value} (h : XF c0 w c W b #[x0, x1, x2]) (v0 v1 v2 : Value) : XF c0 w c (B8 W b v0 v1 v2) b #[v0, v1, v2] := by
 unfold B8;refine ⟨((h.mv.set (.inl h.new) 0 _).set (.inl h.new) 1 _).set (.inl h.new) 2 _, ?_, h.new, h.out⟩;rw [set_same (set_same (set_same h.fc 0 v0) 1 v1) 2 v2];rfl
end
theorem Lz {mp mb : Nat} {hv : HostK} {sm : Nd → EM Unit} (hnz : ∀ n, ENz (sm n)) (hs : Kh 62 mp mb hv sm) (G : Nat → Prop) (c : Ctx) (w : World) (st : St) (l : List Nd) (a : Option Addr) (cap : Nat)
  (hm : MS c w mp mb hv st) (hG : GOk G c w) (hr : Ac G w a (nodesD l)) (hsn : smallNs l) (hlen : l.length ≤ 1000000) (hne : Cd sm l st ≠ .out) :
  Calls Tryz.prog 44 #[ptr mp, .slice a l.length cap] w (EP mp mb hv Ls faultV c (Cd sm l st) w) := by
 have aJ : Below w.heap.size w (w.alloc (.cells #[.int .i64 0, .int .i64 0, .int .i64 0] 106)) := (Below.refl _ w).alloc (nlr _) _;have H0 : Hid (XF c w c (w.alloc (.cells #[.int .i64 0, .int .i64 0, .int .i64 0] 106)) w.heap.size #[.int .i64 0, .int .i64 0, .int .i64 0]) := Lq7 ⟨.of_below c aJ, heap_alloc_new w _, nlr _, fun h => by have := hm.ok.ml _ h; omega, fun h => by have := hm.ok.fl _ h; omega⟩;have aZ : Hid (MS c (w.alloc (.cells #[.int .i64 0, .int .i64 0, .int .i64 0] 106)) mp mb hv st ∧ GOk G c (w.alloc (.cells #[.int .i64 0, .int .i64 0, .int .i64 0] 106)) ∧ Ac G (w.alloc (.cells #[.int .i64 0, .int .i64 0, .int .i64 0] 106)) a (nodesD l)) := Lq7 ⟨hm.below aJ, hG.mv (.of_below c aJ), hr.below aJ⟩;obtain ⟨res, aF⟩ : ∃ res, res = Cd sm l st := ⟨_, rfl⟩;rw [← aF] at hne ⊢;have aV : Hid (res = Cd sm (l.drop 0) st) := Lq7 aF;have bA := Lq7 hne;have Hs := Lq7 hs;have Hnz := Lq7 hnz;have Hsn := Lq7 hsn;clear aF hne hs hnz hsn aJ hm hG hr;unfold ptr;go_enter Tryz.func44, Tryz.ntmps44;go_wp2_with fail;generalize World.alloc _ _ = W1 at H0 aZ ⊢
 go_loopw [10] (fun i wr => ∃ (j : Nat) (c1 : Ctx) (aC : St), i = .int .i64 j ∧ j ≤ l.length ∧ Hid (XF c w c1 wr w.heap.size #[.int .i64 0, .int .i64 0, .int .i64 0]) ∧ Hid (MS c1 wr mp mb hv aC ∧ GOk G c1 wr ∧ Ac G wr a (nodesD l)) ∧ Hid (res = Cd sm (l.drop j) aC)) (fun i _ => l.length - (intOf i).toNat)
 case atStart => exact ⟨0, c, st, rfl, nlz _, H0, aZ, aV⟩
 case round =>
  obtain ⟨j, c1, aC, rfl, hj, hf, aE, aM⟩ := hrel;by_cases hlt : j < l.length
  ·cases hk : l[j] with
   | mk xk xt xl xc xs =>
    have aW : l[j]? = some (.mk xk xt xl xc xs) := (by rw [lgE hlt, hk]);have aB : l.drop j = .mk xk xt xl xc xs :: l.drop (j + 1) := (by rw [List.drop_eq_getElem_cons hlt, hk]);obtain ⟨b, off, a1, c1', hae, -, hbl, r0, r1, r2, r3, r4, Hcp, bB⟩ := aE.out.2.2.nodeK aW;have bC : sm (.mk xk xt xl xc xs) aC ≠ .out := fun h => bA.out (by rw [aM.out, aB, Cd, A1 h]);have aG : Below wr.heap.size wr (wr.alloc (.cells #[.int .i64 xk, .string xt, .int .i64 xl, .int .i64 xc, .slice a1 xs.length c1'] 59)) := (Below.refl _ wr).alloc (nlr _) _;have Hc := Lq7 (Hs.out G c1 _ aC (.mk xk xt xl xc xs) _ (aE.out.1.below aG) (aE.out.2.1.mv (.of_below c1 aG)) (Au.mk _ _ _ _ c1' (bB.below aG)) (smallNs_mem Hsn.out (lgM aW)) bC);have aX := Lq7 (hf.out.below aG);have aH : Hid (GOk G c1 (wr.alloc (.cells #[.int .i64 xk, .string xt, .int .i64 xl, .int .i64 xc, .slice a1 xs.length c1'] 59)) ∧ Ac G (wr.alloc (.cells #[.int .i64 xk, .string xt, .int .i64 xl, .int .i64 xc, .slice a1 xs.length c1'] 59)) a (nodesD l)) := Lq7 ⟨aE.out.2.1.mv (.of_below c1 aG), aE.out.2.2.below aG⟩;have aN : Hid (res = EM.bind (sm (.mk xk xt xl xc xs)) (fun _ => Cd sm (l.drop (j + 1))) aC) := Lq7 (by rw [aM.out, aB]; rfl);unfold ptr at Hc;clear hk aW aB bC aG bB aM hf aE;subst hae;go_wp2_with fail;refine Hc.out.mono ?_;rintro e w2 ⟨c2, aQ, hq⟩;clear r0 r1 r2 r3 r4 Hc;have H2 := Lq7 (aX.out.later aQ);obtain ⟨d0, d1, d2, d3, d4, d5, d6⟩ := Ag H2.out.fc;cases hxx : sm (.mk xk xt xl xc xs) aC with
    | out => exact absurd hxx (fun h => bA.out (by rw [aN.out, A1 h]))
    | err x y z =>
     rw [hxx] at hq;obtain rfl := hq;have aI : Hid (res = .err x y z) := Lq7 (by rw [aN.out, Bo hxx]);have hxz := Hnz.out _ _ _ _ _ hxx;have hxz' : (x == 0) = false := (by simpa using hxz);clear hxx aN aX aH aQ;unfold faultV;go_wp2_with fail;refine bodyPost_ret (v := faultV x y z) (by simp [faultV, results, Tryz.results44, go_sem, d0, d1, d2, d3]) rfl ?_;rw [aI.out];exact ⟨c2, ((H2.out.setF (.int .i64 x) (.int .i64 y) (.int .i64 z)).below ((Below.refl _ _).alloc (nlr _) _)).mv, rfl⟩
    | ok u st2 =>
     rw [hxx] at hq;obtain ⟨aR, v2, rfl, hv2⟩ := hq;obtain rfl : v2 = faultV 0 0 0 := hv2;have aY : Hid (res = Cd sm (l.drop (j + 1)) st2) := Lq7 (by rw [aN.out, C7 hxx]);have aU : Below w2.heap.size w2 (w2.alloc (.cells #[.int .i64 0, .int .i64 0, .int .i64 0] 106)) := (Below.refl _ w2).alloc (nlr _) _;have H3 := Lq7 (H2.out.below aU);have Hm3 := Lq7 (And.intro (aR.below aU) (And.intro ((aH.out.1.mv aQ).mv (.of_below c2 aU)) ((aH.out.2.gmv aH.out.1 aQ).below aU)));clear hxx aN aX aH aQ aR aU H2 d0 d1 d2 d3 d4 d5 d6;unfold faultV;go_wp2_with fail;go_roundw
     case rel => exact ⟨j + 1, c2, st2, by go_num, by omega, H3, Hm3, aY⟩
     case measure => simp only [intOf]; omega
  ·have bD : l.drop j = [] := List.drop_eq_nil_of_le (by omega);have aI : Hid (res = .ok () aC) := Lq7 (by rw [aM.out, bD]; rfl);have H1 := Lq7 hf.out;have aH := Lq7 aE.out.1;obtain ⟨d0, d1, d2, d3, d4, d5, d6⟩ := Ag H1.out.fc;clear bD aM hf aE;go_wp2_with fail;refine bodyPost_ret (v := faultV 0 0 0) (by simp [faultV, results, Tryz.results44, go_sem, d1, d2, d3]) rfl ?_;rw [aI.out];exact ⟨c1, (H1.out.setF (.int .i64 0) (.int .i64 0) (.int .i64 0)).mv, aH.out.setO H1.out.out (.int .i64 0) (.int .i64 0) (.int .i64 0), _, rfl, rfl⟩
structure XS (c0 : Ctx) (w : World) (c : Ctx) (W : World) (n f : Array Value) : Prop where
 fx : XF c0 w c W (w.heap.size + 1) f
 na : W.heap[w.heap.size]? = some (.cells n 59 (0, 0))
 no : ¬ c.M w.heap.size ∧ ¬ c.F w.heap.size
section
variable {c0 c c' : Ctx} {w W W' : World} {n f : Array Value}
theorem XS.start (h : c0.Ok w) (n f : Array Value) : XS c0 w c0 ((w.alloc (.cells n 59)).alloc (.cells f 106)) n f := by
 have hb : Below w.heap.size w ((w.alloc (.cells n 59)).alloc (.cells f 106)) := ((Below.refl _ w).alloc (nlr _) _).alloc (by simp) _;have h1 := heap_alloc_new (w.alloc (.cells n 59)) (.cells f 106);rw [show (w.alloc (.cells n 59)).heap.size = w.heap.size + 1 by simp] at h1;exact ⟨⟨.of_below c0 hb, h1, by omega, fun h2 => by have := h.ml _ h2; omega, fun h2 => by have := h.fl _ h2; omega⟩, (Below.heap_alloc _ _ _ (by simp)).trans (heap_alloc_new w _), fun h2 => by have := h.ml _ h2; omega, fun h2 => by have := h.fl _ h2; omega⟩
theorem XS.later (h : XS c0 w c W n f) (k : Mv c W c' W') : XS c0 w c' W' n f := by
 have hl := (Array.getElem?_eq_some_iff.1 h.na).1;refine ⟨h.fx.later k, (k.block _ hl h.no.1).trans h.na, fun hm => ?_, fun hm => ?_⟩
 ·rcases k.m _ hm with h3 | h3
  ·exact h.no.1 h3
  ·omega
 ·rcases k.f _ hm with h3 | h3
  ·exact h.no.2 h3
  ·omega
theorem XS.below (h : XS c0 w c W n f) (k : Below W.heap.size W W') : XS c0 w c W' n f := h.later (.of_below c k)
end
theorem T8 {mp mb : Nat} {hv : HostK} (G : Nat → Prop) (c : Ctx) (w : World) (st : St) (t : ByteArray) (l k : Int) (kids : List Nd) (a : Option Addr) (cap : Nat) (hm : MS c w mp mb hv st) (hG : GOk G c w) (hr : Ac G w a (nodesD kids)) (kk : Int) (hle : st.left ≤ 0) :
  Calls Tryz.prog 62 #[ptr mp, .agg #[.int .i64 kk, .string t, .int .i64 l, .int .i64 k, .slice a kids.length cap]] w (EP mp mb hv Ls faultV c (.err 12 l k) w) := by
 have aF : Below w.heap.size w ((w.alloc (.cells #[.int .i64 kk, .string t, .int .i64 l, .int .i64 k, .slice a kids.length cap] 59)).alloc (.cells #[.int .i64 0, .int .i64 0, .int .i64 0] 106)) := ((Below.refl _ w).alloc (nlr _) _).alloc (by simp) _;have H0 := Lq7 (XS.start hm.ok #[.int .i64 kk, .string t, .int .i64 l, .int .i64 k, .slice a kids.length cap] #[.int .i64 0, .int .i64 0, .int .i64 0]);have aG := Lq7 (C6 c mp mb hv st l k _ (hm.below aF));have aM := Lq7 (hG.mv (.of_below c aF));have aR := Lq7 (hr.below aF);rw [show Dg l k st = .err 12 l k from if_pos hle] at aG;clear hm hG hr hle aF;unfold ptr at aG ⊢;go_enter Tryz.func62, Tryz.ntmps62;go_wp2_with fail;refine aG.out.mono ?_;rintro e w1 ⟨c1, aC, rfl⟩;have H1 := Lq7 (H0.out.later aC);clear aC aG H0;unfold faultV;obtain ⟨d0, d1, d2, d3, d4, d5, d6⟩ := Ag H1.out.fx.fc;go_wp2_with fail;refine bodyPost_ret (v := faultV 12 l k) (by simp [faultV, results, Tryz.results62, go_sem, d0, d1, d2, d3]) rfl ?_;exact ⟨c1, ((H1.out.fx.setF (.int .i64 12) (.int .i64 l) (.int .i64 k)).below ((Below.refl _ _).alloc (nlr _) _)).mv, rfl⟩
theorem stmt_for {mp mb : Nat} {hv : HostK} (G : Nat → Prop) (c : Ctx) (w : World) (st : St) (t : ByteArray) (l k : Int) (kids : List Nd) (a : Option Addr) (cap : Nat) (hm : MS c w mp mb hv st) (hG : GOk G c w) (hr : Ac G w a (nodesD kids)) (hle : ¬ st.left ≤ 0) (hsn : smallN (.mk 4 t l k kids)) (ea : Nd → EM Unit) (he : Kh 101 mp mb hv ea) (hne : ea (.mk 4 t l k kids) { st with left := st.left - 1 } ≠ .out) :
  Calls Tryz.prog 62 #[ptr mp, .agg #[.int .i64 4, .string t, .int .i64 l, .int .i64 k, .slice a kids.length cap]] w (EP mp mb hv Ls faultV c (ea (.mk 4 t l k kids) { st with left := st.left - 1 }) w) := by
 have aF : Below w.heap.size w ((w.alloc (.cells #[.int .i64 4, .string t, .int .i64 l, .int .i64 k, .slice a kids.length cap] 59)).alloc (.cells #[.int .i64 0, .int .i64 0, .int .i64 0] 106)) := ((Below.refl _ w).alloc (nlr _) _).alloc (by simp) _;have H0 := Lq7 (XS.start hm.ok #[.int .i64 4, .string t, .int .i64 l, .int .i64 k, .slice a kids.length cap] #[.int .i64 0, .int .i64 0, .int .i64 0]);have aG := Lq7 (C6 c mp mb hv st l k _ (hm.below aF));have aM := Lq7 (hG.mv (.of_below c aF));have aR := Lq7 (hr.below aF);have He := Lq7 he;have Hsn := Lq7 hsn;have aU := Lq7 hne;clear he hsn hne;rw [show Dg l k st = .ok () { st with left := st.left - 1 } from if_neg hle] at aG;clear hm hG hr hle aF;unfold ptr at aG ⊢;go_enter Tryz.func62, Tryz.ntmps62;go_wp2_with fail;refine aG.out.mono ?_;rintro e w0 ⟨c0, aC, aV, v0, rfl, bF⟩;obtain rfl : v0 = faultV 0 0 0 := bF;have aH : Below w0.heap.size w0 (w0.alloc (.cells #[.int .i64 0, .int .i64 0, .int .i64 0] 106)) := (Below.refl _ w0).alloc (nlr _) _;have H1 := Lq7 ((H0.out.later aC).below aH);have aW := Lq7 (aV.below aH);have aX := Lq7 ((aM.out.mv aC).mv (.of_below c0 aH));have aY := Lq7 ((aR.out.gmv aM.out aC).below aH);clear aC aV aG H0 aM aR aH;unfold faultV;obtain ⟨r0, r1, r2, r3, r4, r5, r6, r7, r8, r9, aZ⟩ := five_facts H1.out.na;have Hc := Lq7 (He.out G c0 _ { st with left := st.left - 1 } (.mk 4 t l k kids) _ aW.out aX.out (Au.mk _ _ _ _ cap aY.out) Hsn.out aU.out);unfold ptr at Hc;go_wp2_with fail;refine Hc.out.mono ?_;rintro e w2 ⟨c2, aC, hq⟩;have H3 := Lq7 (H1.out.later aC);clear aC Hc H1 aW r0 r1 r2 r3 r4 r5 r6 r7 r8 r9 aZ aX aY;obtain ⟨d0, d1, d2, d3, d4, d5, d6⟩ := Ag H3.out.fx.fc;cases hx : ea (.mk 4 t l k kids) { st with left := st.left - 1 } with
 | out => exact absurd hx aU.out
 | err x y z =>
  rw [hx] at hq;obtain rfl := hq;unfold faultV;have aB := Lq7 hx;clear hx;go_wp2_with fail;refine bodyPost_ret (v := faultV x y z) (by simp [faultV, results, Tryz.results62, go_sem, d1, d2, d3]) rfl ?_;rw [aB.out];exact ⟨c2, (H3.out.fx.setF (.int .i64 x) (.int .i64 y) (.int .i64 z)).mv, rfl⟩
 | ok u st2 =>
  rw [hx] at hq;obtain ⟨aI, v2, rfl, hv2⟩ := hq;obtain rfl : v2 = faultV 0 0 0 := hv2;have Hm3 := Lq7 aI;unfold faultV;have aB := Lq7 hx;clear hx aI;go_wp2_with fail;refine bodyPost_ret (v := faultV 0 0 0) (by simp [faultV, results, Tryz.results62, go_sem, d1, d2, d3]) rfl ?_;rw [aB.out];exact ⟨c2, (H3.out.fx.setF (.int .i64 0) (.int .i64 0) (.int .i64 0)).mv, Hm3.out.setO H3.out.fx.out (.int .i64 0) (.int .i64 0) (.int .i64 0), _, rfl, rfl⟩
theorem Px {mp mb : Nat} {hv : HostK} (G : Nat → Prop) (c : Ctx) (w : World) (st : St) (t : ByteArray) (l k : Int) (kids : List Nd) (a : Option Addr) (cap : Nat) (hm : MS c w mp mb hv st) (hG : GOk G c w) (hr : Ac G w a (nodesD kids)) (hle : ¬ st.left ≤ 0) (hsn : smallN (.mk 2 t l k kids)) (ex : Nd → EM Vl) (hnz : ∀ n, ENz (ex n)) (hx : Ea 98 mp mb hv ex) (hne : EM.bind (ex (Ck (.mk 2 t l k kids) 0)) (fun v => Gw t v l k) { st with left := st.left - 1 } ≠ .out) :
  Calls Tryz.prog 62 #[ptr mp, .agg #[.int .i64 2, .string t, .int .i64 l, .int .i64 k, .slice a kids.length cap]] w (EP mp mb hv Ls faultV c (EM.bind (ex (Ck (.mk 2 t l k kids) 0)) (fun v => Gw t v l k) { st with left := st.left - 1 }) w) := by
 have aF : Below w.heap.size w ((w.alloc (.cells #[.int .i64 2, .string t, .int .i64 l, .int .i64 k, .slice a kids.length cap] 59)).alloc (.cells #[.int .i64 0, .int .i64 0, .int .i64 0] 106)) := ((Below.refl _ w).alloc (nlr _) _).alloc (by simp) _;have H0 := Lq7 (XS.start hm.ok #[.int .i64 2, .string t, .int .i64 l, .int .i64 k, .slice a kids.length cap] #[.int .i64 0, .int .i64 0, .int .i64 0]);have aG := Lq7 (C6 c mp mb hv st l k _ (hm.below aF));have aM := Lq7 (hG.mv (.of_below c aF));have aR := Lq7 (hr.below aF);have Hx := Lq7 hx;have bG := Lq7 (Ep hsn 0);have hlen : kids.length ≤ 140737488355328 ∧ t.size ≤ maxLen := (by rw [smallN] at hsn; exact ⟨by omega, hsn.1⟩);have bA := Lq7 hlen;have Hnz := Lq7 hnz;obtain ⟨res, aN⟩ : ∃ res, res = EM.bind (ex (Ck (.mk 2 t l k kids) 0)) (fun v => Gw t v l k) { st with left := st.left - 1 } := ⟨_, rfl⟩;rw [← aN] at hne ⊢;have aB := Lq7 aN;have aU := Lq7 hne;clear hx hsn hlen hnz aN hne;rw [show Dg l k st = .ok () { st with left := st.left - 1 } from if_neg hle] at aG;clear hm hG hr hle aF;unfold ptr at aG ⊢;go_enter Tryz.func62, Tryz.ntmps62;go_wp2_with fail;refine aG.out.mono ?_;rintro e w0 ⟨c0, aC, aV, v0, rfl, bF⟩;obtain rfl : v0 = faultV 0 0 0 := bF;have aH : Below w0.heap.size w0 (w0.alloc (.cells #[.int .i64 0, .int .i64 0, .int .i64 0] 106)) := (Below.refl _ w0).alloc (nlr _) _;have H1 := Lq7 ((H0.out.later aC).below aH);have aW := Lq7 (aV.below aH);have aX := Lq7 ((aM.out.mv aC).mv (.of_below c0 aH));have aY := Lq7 ((aR.out.gmv aM.out aC).below aH);clear aC aV aG H0 aM aR aH;unfold faultV;obtain ⟨r0, r1, r2, r3, r4, r5, r6, r7, r8, r9, aZ⟩ := five_facts H1.out.na;have Hk : Hid (Calls Tryz.prog 99 #[.agg #[.int .i64 2, .string t, .int .i64 l, .int .i64 k, .slice a kids.length cap], .int .i64 0] (w0.alloc (.cells #[.int .i64 0, .int .i64 0, .int .i64 0] 106)) (PKid G (Ck (.mk 2 t l k kids) 0) (w0.alloc (.cells #[.int .i64 0, .int .i64 0, .int .i64 0] 106)))) := Lq7 (Ja G 2 t l k kids a cap 0 _ (by omega) (by omega) bA.out.1 aY.out);generalize hx0 : Ck (.mk 2 t l k kids) 0 = x0 at Hk bG aB;clear hx0;go_wp2_with fail;refine Hk.out.mono ?_;rintro e w1 ⟨v1, rfl, bH, bD⟩;have bI : ex x0 { st with left := st.left - 1 } ≠ .out := fun h => aU.out (by rw [aB.out, A1 h]);have Hc := Lq7 (Hx.out G c0 w1 { st with left := st.left - 1 } x0 v1 (aW.out.below bD) (aX.out.mv (.of_below c0 bD)) bH bG.out bI);have H2 := Lq7 (H1.out.below bD);unfold ptr at Hc;clear bD bH bI Hk H1 aW aX aY bG r0 r1 r2 r3 r4 r5 r6 r7 r8 r9 aZ;go_wp2_with fail;refine Hc.out.mono ?_;rintro e w2 ⟨c2, aC, hq⟩;have H3 := Lq7 (H2.out.later aC);clear aC Hc H2;obtain ⟨d0, d1, d2, d3, d4, d5, d6⟩ := Ag H3.out.fx.fc;obtain ⟨r0, r1, r2, r3, r4, r5, r6, r7, r8, r9, aZ⟩ := five_facts H3.out.na;cases hxx : ex x0 { st with left := st.left - 1 } with
 | out => exact absurd hxx (fun h => aU.out (by rw [aB.out, A1 h]))
 | err x y z =>
  rw [hxx] at hq;obtain rfl := hq;have aJ : Hid (res = .err x y z) := Lq7 (by rw [aB.out, Bo hxx]);have hxz := Hnz.out _ _ _ _ _ hxx;have hxz' : (x == 0) = false := (by simpa using hxz);clear hxx aB;have d01 : w.heap.size < w2.heap.size := (by omega);unfold badV zeroV faultV;go_wp2_with fail;refine bodyPost_ret (v := faultV x y z) (by simp [faultV, results, Tryz.results62, go_sem, d0, d01, d1, d2, d3]) rfl ?_;rw [aJ.out];have hbe := fun (W : World) => ((Below.refl _ W).alloc (nlr _) (.cells #[.int .i64 0, .int .i64 0, .string ⟨#[]⟩, .slice none 0 0, .slice none 0 0] 31)).alloc (by simp) (.cells #[.int .i64 x, .int .i64 y, .int .i64 z] 106);exact ⟨c2, ((H3.out.fx.setF (.int .i64 x) (.int .i64 y) (.int .i64 z)).below (hbe _)).mv, rfl⟩
 | ok xa st2 =>
  rw [hxx] at hq;obtain ⟨aI, v2, rfl, cs, rfl, aQ, bB⟩ := hq;have aE : Hid (res = Gw t xa l k st2) := Lq7 (by rw [aB.out, C7 hxx]);have bE : ∀ o1 o2, Below w2.heap.size w2 ((w2.alloc o1).alloc o2) := fun o1 o2 => ((Below.refl _ w2).alloc (nlr _) _).alloc (by simp) _;obtain ⟨b1, e1, b2, e2, hcs, -, -⟩ : ∃ a c a' c', cs = [.int .i64 xa.kind, .int .i64 xa.num, .string xa.str, .slice a xa.items.length c, .slice a' xa.keys.length c'] ∧ True ∧ True := by
   obtain ⟨yk, yn, ys, yl, yks⟩ := xa;obtain ⟨b1, e1, b2, e2, h, -, -⟩ := aQ.val;exact ⟨b1, e1, b2, e2, h, trivial, trivial⟩
  subst hcs;have Hp := Lq7 (S5 c2 mp mb hv st2 t xa _ l k _ (aI.below (bE (.cells #[.int .i64 xa.kind, .int .i64 xa.num, .string xa.str, .slice b1 xa.items.length e1, .slice b2 xa.keys.length e2] 31) (.cells #[.int .i64 0, .int .i64 0, .int .i64 0] 106))) bA.out.2 (aQ.below (bE _ _)) bB);have H4 := Lq7 (H3.out.below (bE (.cells #[.int .i64 xa.kind, .int .i64 xa.num, .string xa.str, .slice b1 xa.items.length e1, .slice b2 xa.keys.length e2] 31) (.cells #[.int .i64 0, .int .i64 0, .int .i64 0] 106)));unfold ptr at Hp;clear hxx aB aI aQ bB bE H3;unfold faultV;go_wp2_with fail;refine Hp.out.mono ?_;rintro e w4 ⟨c4, aC, hq⟩;have H5 := Lq7 (H4.out.later aC);clear aC Hp H4 d0 d1 d2 d3 d4 d5 d6 r0 r1 r2 r3 r4 r5 r6 r7 r8 r9 aZ;obtain ⟨d0, d1, d2, d3, d4, d5, d6⟩ := Ag H5.out.fx.fc;cases hpx : Gw t xa l k st2 with
  | out => exact absurd hpx (fun h => aU.out (by rw [aE.out, h]))
  | err x y z =>
   rw [hpx] at hq;obtain rfl := hq;have aJ : Hid (res = .err x y z) := Lq7 (by rw [aE.out, hpx]);clear hpx aE;unfold faultV;go_wp2_with fail;refine bodyPost_ret (v := faultV x y z) (by simp [faultV, results, Tryz.results62, go_sem, d1, d2, d3]) rfl ?_;rw [aJ.out];exact ⟨c4, (H5.out.fx.setF (.int .i64 x) (.int .i64 y) (.int .i64 z)).mv, rfl⟩
  | ok u st4 =>
   rw [hpx] at hq;obtain ⟨bC, v4, rfl, hv4⟩ := hq;obtain rfl : v4 = faultV 0 0 0 := hv4;have aJ : Hid (res = .ok u st4) := Lq7 (by rw [aE.out, hpx]);have Hm5 := Lq7 bC;clear hpx aE bC;unfold faultV;go_wp2_with fail;refine bodyPost_ret (v := faultV 0 0 0) (by simp [faultV, results, Tryz.results62, go_sem, d1, d2, d3]) rfl ?_;rw [aJ.out];exact ⟨c4, (H5.out.fx.setF (.int .i64 0) (.int .i64 0) (.int .i64 0)).mv, Hm5.out.setO H5.out.fx.out (.int .i64 0) (.int .i64 0) (.int .i64 0), _, rfl, rfl⟩
theorem T9 (a b c d e : Value) (w : World) : (Instr.field 59 (.agg #[a, b, c, d, e]) 3).run Tryz.prog w = .ok e w := by kernel_rfl
theorem ENz.block {sm : Nd → EM Unit} (hs : ∀ n, ENz (sm n)) : ∀ l : List Nd, ENz (Cd sm l)
 | [] => .pure ()
 | n :: t => .bind (hs n) fun _ => ENz.block hs t
theorem Ua {mp mb : Nat} {hv : HostK} {ex : Nd → EM Vl} {sm : Nd → EM Unit} (hnz : ∀ n, ENz (ex n)) (hsz : ∀ n, ENz (sm n)) (hx : Ea 98 mp mb hv ex) (hs : Kh 62 mp mb hv sm) : Kh 101 mp mb hv (eFor ex sm) := by
 intro G c w st n v hm hG hn bB bX;obtain ⟨kk, t, l, k, kids⟩ := n;obtain ⟨a, cap, rfl, hr⟩ := hn.open;obtain ⟨res, aV⟩ : ∃ res, res = eFor ex sm (.mk kk t l k kids) st := ⟨_, rfl⟩;rw [← aV] at bX ⊢;have bY := Lq7 (Ep bB 0);have cQ := Lq7 (Ep bB 1);have hlen : kids.length ≤ 140737488355328 ∧ t.size ≤ maxLen := (by rw [smallN] at bB; exact ⟨by omega, bB.1⟩);have bC := Lq7 hlen;have bQ : Below w.heap.size w ((w.alloc (.cells #[.int .i64 kk, .string t, .int .i64 l, .int .i64 k, .slice a kids.length cap] 59)).alloc (.cells #[.int .i64 0, .int .i64 0, .int .i64 0] 106)) := ((Below.refl _ w).alloc (nlr _) _).alloc (by simp) _;have H0 := Lq7 (XS.start hm.ok #[.int .i64 kk, .string t, .int .i64 l, .int .i64 k, .slice a kids.length cap] #[.int .i64 0, .int .i64 0, .int .i64 0]);have bR := Lq7 (hm.below bQ);have bZ := Lq7 (hG.mv (.of_below c bQ));have cB := Lq7 (hr.below bQ);have Hk : Hid (Calls Tryz.prog 99 #[.agg #[.int .i64 kk, .string t, .int .i64 l, .int .i64 k, .slice a kids.length cap], .int .i64 0] ((w.alloc (.cells #[.int .i64 kk, .string t, .int .i64 l, .int .i64 k, .slice a kids.length cap] 59)).alloc (.cells #[.int .i64 0, .int .i64 0, .int .i64 0] 106)) (PKid G (Ck (.mk kk t l k kids) 0) ((w.alloc (.cells #[.int .i64 kk, .string t, .int .i64 l, .int .i64 k, .slice a kids.length cap] 59)).alloc (.cells #[.int .i64 0, .int .i64 0, .int .i64 0] 106)))) := Lq7 (Ja G kk t l k kids a cap 0 _ (by omega) (by omega) hlen.1 cB.out);have aE : Hid (res = EM.bind (ex (Ck (.mk kk t l k kids) 0)) (fun v => if v.kind = 4 then Ie sm (.mk kk t l k kids) (Ck (.mk kk t l k kids) 1).kids v.items else eFail 9 (Ck (.mk kk t l k kids) 0).ln (Ck (.mk kk t l k kids) 0).cl) st) := Lq7 aV;generalize hx0 : Ck (.mk kk t l k kids) 0 = x0 at Hk bY aE;obtain ⟨xk, xt, xl, xc, xs⟩ := x0;have bD := Lq7 bX;have Hx := Lq7 hx;have Hs := Lq7 hs;have Hnz := Lq7 hnz;have cR := Lq7 hsz;clear aV bX hx hs hnz hsz bB hlen bQ hm hG hr hn hx0;unfold ptr;go_enter Tryz.func101, Tryz.ntmps101;go_wp2_with fail;refine Hk.out.mono ?_;rintro e w1 ⟨v1, rfl, cC, bE⟩;obtain ⟨a1, c1, rfl, bF⟩ := cC.open;have Hcp1 := Lq7 (Au.cap cC);have cE : Below w1.heap.size w1 (w1.alloc (.cells #[.int .i64 xk, .string xt, .int .i64 xl, .int .i64 xc, .slice a1 xs.length c1] 59)) := (Below.refl _ w1).alloc (nlr _) _;have aG := bE.trans (cE.mono bE.size);have cU : ex (.mk xk xt xl xc xs) st ≠ .out := fun h => bD.out (by rw [aE.out, A1 h]);have Hc := Lq7 (Hx.out G c _ st (.mk xk xt xl xc xs) _ (bR.out.below aG) (bZ.out.mv (.of_below c aG)) (Au.mk _ _ _ _ c1 (bF.below cE)) bY.out cU);have H2 := Lq7 (H0.out.below aG);have cF := Lq7 (bZ.out.mv (.of_below c aG));have cV := Lq7 (cB.out.below aG);have cG := Lq7 (heap_alloc_new w1 (.cells #[.int .i64 xk, .string xt, .int .i64 xl, .int .i64 xc, .slice a1 xs.length c1] 59));have cW : Hid (¬ c.M w1.heap.size ∧ ¬ c.F w1.heap.size) := Lq7 ⟨fun h => by have := bR.out.ok.ml _ h; have := bE.size; omega, fun h => by have := bR.out.ok.fl _ h; have := bE.size; omega⟩;unfold ptr at Hc;clear bE cE aG cC bF cU Hk H0 bR bZ cB bY;go_wp2_with fail;refine Hc.out.mono ?_;rintro e w2 ⟨c2, aB, hq⟩;have H3 := Lq7 (H2.out.later aB);have bS := Lq7 ((aB.block _ (Array.getElem?_eq_some_iff.1 cG.out).1 cW.out.1).trans cG.out);have HG3 := Lq7 (cF.out.mv aB);have Hr3 := Lq7 (cV.out.gmv cF.out aB);clear aB Hc H2 cF cV cG;generalize w1.heap.size = b5 at bS cW ⊢;obtain ⟨d0, d1, d2, d3, d4, d5, d6⟩ := Ag H3.out.fx.fc;have bU : w.heap.size < w2.heap.size := (by omega);have cH : w.heap.size + 1 < w2.heap.size + 1 := (by omega);cases hxx : ex (.mk xk xt xl xc xs) st with
 | out => exact absurd hxx (fun h => bD.out (by rw [aE.out, A1 h]))
 | err x y z =>
  rw [hxx] at hq;obtain rfl := hq;have aC : Hid (res = .err x y z) := Lq7 (by rw [aE.out, Bo hxx]);have bG := Hnz.out _ _ _ _ _ hxx;have hxz' : (x == 0) = false := (by simpa using bG);clear hxx aE;unfold badV zeroV faultV;go_wp2_with fail;refine bodyPost_ret (v := faultV x y z) (by simp [faultV, results, Tryz.results101, go_sem, d0, cH, d1, d2, d3]) rfl ?_;rw [aC.out];have cI := fun (W : World) => ((Below.refl _ W).alloc (nlr _) (.cells #[.int .i64 0, .int .i64 0, .string ⟨#[]⟩, .slice none 0 0, .slice none 0 0] 31)).alloc (by simp) (.cells #[.int .i64 x, .int .i64 y, .int .i64 z] 106);exact ⟨c2, ((H3.out.fx.setF (.int .i64 x) (.int .i64 y) (.int .i64 z)).below (cI _)).mv, rfl⟩
 | ok xa st2 =>
  rw [hxx] at hq;obtain ⟨bH, v2, rfl, cs, rfl, bI, aW⟩ := hq;obtain ⟨yk, yn, ys, yl, yks⟩ := xa;have aF : Hid (res = (if yk = 4 then Ie sm (.mk kk t l k kids) (Ck (.mk kk t l k kids) 1).kids yl else eFail 9 xl xc) st2) := Lq7 (by rw [aE.out, C7 hxx]; rfl);obtain ⟨b1, e1, b2, e2, rfl, cX, -⟩ := bI.val;have aX : Below w2.heap.size w2 ((w2.alloc (.cells #[.int .i64 yk, .int .i64 yn, .string ys, .slice b1 yl.length e1, .slice b2 yks.length e2] 31)).alloc (.cells #[.int .i64 0, .int .i64 0, .int .i64 0] 106)) := ((Below.refl _ w2).alloc (nlr _) _).alloc (by simp) _;have H4 := Lq7 (H3.out.below aX);have Hx7 := Lq7 ((aX.block _ (Array.getElem?_eq_some_iff.1 bS.out).1).trans bS.out);have cY := Lq7 (And.intro (bH.below aX) (And.intro (HG3.out.mv (.of_below c2 aX)) (And.intro (Hr3.out.below aX) (And.intro (fun b (h : c2.F b) => h) (cX.below aX)))));have Hck := Lq7 aW;have hyl : yl.length ≤ 140737488355328 := by
   have h := Bf aW;rw [smallV] at h;exact h.2.1
  clear hxx aE bH bI aW cX aX;obtain ⟨q0, q1, q2, q3, q4, q5, q6, q7, q8, q9, cZ⟩ := five_facts bS.out;have dA : b5 < w2.heap.size + 1 := (by omega);by_cases hk4 : yk = 4
  ·subst hk4;have aN : Hid (res = Ie sm (.mk kk t l k kids) (Ck (.mk kk t l k kids) 1).kids (yl.drop 0) st2) := Lq7 (by rw [aF.out, if_pos rfl]; rfl);generalize dB : Ck (.mk kk t l k kids) 1 = x1 at cQ aN;have Hx1 := Lq7 dB;obtain ⟨uk, ut, ul, uc, body⟩ := x1;clear dB aF;unfold faultV;go_wp2_with fail;generalize World.alloc (World.alloc _ _) _ = W at H4 cY Hx7 ⊢
   go_loopw [35] (fun i wr => ∃ (j : Nat) (c3 : Ctx) (aY : St), i = .int .i64 j ∧ j ≤ yl.length ∧ Hid (XS c w c3 wr #[.int .i64 kk, .string t, .int .i64 l, .int .i64 k, .slice a kids.length cap] #[.int .i64 0, .int .i64 0, .int .i64 0]) ∧ Hid (MS c3 wr mp mb hv aY ∧ GOk G c3 wr ∧ Ac G wr a (nodesD kids) ∧ (∀ b, c2.F b → c3.F b) ∧ Ac c2.F wr b1 (valsD yl)) ∧ Hid (res = Ie sm (.mk kk t l k kids) body (yl.drop j) aY)) (fun i _ => yl.length - (intOf i).toNat)
   case atStart => exact ⟨0, c2, st2, rfl, nlz _, H4, cY, aN⟩
   case round =>
    obtain ⟨j, c3, aY, rfl, hj, bJ, hl, bV⟩ := hrel;by_cases hlt : j < yl.length
    ·cases hk : yl[j] with
     | mk zk zn zs zm zks =>
      have cJ : yl[j]? = some (.mk zk zn zs zm zks) := (by rw [lgE hlt, hk]);have aQ : yl.drop j = (.mk zk zn zs zm zks) :: yl.drop (j + 1) := (by rw [List.drop_eq_getElem_cons hlt, hk]);obtain ⟨b, off, a3, c3', a4, c4', hae, -, hbl, r0, r1, r2, r3, r4, bF, dC⟩ := hl.out.2.2.2.2.val cJ;have aR : Below wr.heap.size wr (wr.alloc (.cells #[.int .i64 zk, .int .i64 zn, .string zs, .slice a3 zm.length c3', .slice a4 zks.length c4'] 31)) := (Below.refl _ wr).alloc (nlr _) _;have dD : Ah c3.F wr (valD (.mk zk zn zs zm zks)) [.int .i64 zk, .int .i64 zn, .string zs, .slice a3 zm.length c3', .slice a4 zks.length c4'] := (Ah.val_mk (l := zm) (ks := zks) _ _ _ c3' c4' bF dC).wider (fun b h _ => hl.out.2.2.2.1 b h);have Hp := Lq7 (S5 c3 mp mb hv aY t (.mk zk zn zs zm zks) _ l k _ (hl.out.1.below aR) bC.out.2 (dD.below aR) (Ki Hck.out _ (lgM cJ)));have bL : Hid (res = EM.bind (Gw t (.mk zk zn zs zm zks) l k) (fun _ => EM.bind (Cd sm body) fun _ => Ie sm (.mk kk t l k kids) body (yl.drop (j + 1))) aY) := Lq7 (by rw [bV.out, aQ]; rfl);have H1 := Lq7 (bJ.out.below aR);have aI := Lq7 (And.intro (hl.out.1.below aR) (And.intro (hl.out.2.1.mv (.of_below c3 aR)) (And.intro (hl.out.2.2.1.below aR) (And.intro hl.out.2.2.2.1 (hl.out.2.2.2.2.below aR)))));obtain ⟨n0, n1, n2, n3, n4, n5, n6, n7, n8, n9, cM⟩ := five_facts bJ.out.na;clear hk cJ aQ aR dD bF dC bV bJ hl d0 d1 d2 d3 d4 d5 d6 bU cH q0 q1 q2 q3 q4 q5 q6 q7 q8 q9 cZ dA;subst hae;unfold ptr at Hp;go_wp2_with fail;refine Hp.out.mono ?_;rintro e w4 ⟨c4, aB, hq⟩;have H5 := Lq7 (H1.out.later aB.join);clear Hp H1 r0 r1 r2 r3 r4 n0 n1 n2 n3 n4 n5 n6 n7 n8 n9 cM;obtain ⟨d0, d1, d2, d3, d4, d5, d6⟩ := Ag H5.out.fx.fc;cases hpx : Gw t (.mk zk zn zs zm zks) l k aY with
      | out => exact absurd hpx (fun h => bD.out (by rw [bL.out, A1 h]))
      | err x y z =>
       rw [hpx] at hq;obtain rfl := hq;have aC : Hid (res = .err x y z) := Lq7 (by rw [bL.out, Bo hpx]);have bG := ENz.put _ _ _ _ _ _ _ _ hpx;have hxz' : (x == 0) = false := (by simpa using bG);clear hpx bL aI aB;unfold faultV;go_wp2_with fail;refine bodyPost_ret (v := faultV x y z) (by simp [faultV, results, Tryz.results101, go_sem, d0, d1, d2, d3]) rfl ?_;rw [aC.out];exact ⟨_, ((H5.out.fx.setF (.int .i64 x) (.int .i64 y) (.int .i64 z)).below ((Below.refl _ _).alloc (nlr _) _)).mv, rfl⟩
      | ok u st4 =>
       rw [hpx] at hq;obtain ⟨bM, v4, rfl, hv4⟩ := hq;obtain rfl : v4 = faultV 0 0 0 := hv4;have aH : Hid (res = EM.bind (Cd sm body) (fun _ => Ie sm (.mk kk t l k kids) body (yl.drop (j + 1))) st4) := Lq7 (by rw [bL.out, C7 hpx]);have aZ : Below w4.heap.size w4 (w4.alloc (.cells #[.int .i64 0, .int .i64 0, .int .i64 0] 106)) := (Below.refl _ w4).alloc (nlr _) _;have dE : GOk c2.F c3 _ := fun b h => ⟨aI.out.1.ok.fl b (aI.out.2.2.2.1 b h), aI.out.1.ok.apart b (aI.out.2.2.2.1 b h)⟩;have aM := Lq7 (And.intro ((aI.out.1.join aB bM).below aZ) (And.intro ((aI.out.2.1.mv aB.join).mv (.of_below _ aZ)) (And.intro ((aI.out.2.2.1.gmv aI.out.2.1 aB).below aZ) (And.intro (show ∀ b, c2.F b → (c4.with c3.F).F b from fun b h => Or.inr (aI.out.2.2.2.1 b h)) ((aI.out.2.2.2.2.gmv dE aB).below aZ)))));have H6 := Lq7 (H5.out.below aZ);have Hk : Hid (Calls Tryz.prog 99 #[.agg #[.int .i64 kk, .string t, .int .i64 l, .int .i64 k, .slice a kids.length cap], .int .i64 1] (w4.alloc (.cells #[.int .i64 0, .int .i64 0, .int .i64 0] 106)) (PKid G (.mk uk ut ul uc body) (w4.alloc (.cells #[.int .i64 0, .int .i64 0, .int .i64 0] 106)))) := Lq7 (by rw [← Hx1.out]; exact Ja G kk t l k kids a cap 1 _ (by omega) (by omega) bC.out.1 aM.out.2.2.1);clear hpx bL aI aB bM aZ dE H5 d0 d1 d2 d3 d4 d5 d6;generalize c4.with c3.F = c6 at aM H6;obtain ⟨n0, n1, n2, n3, n4, n5, n6, n7, n8, n9, cM⟩ := five_facts H6.out.na;unfold faultV;go_wp2_with fail;refine Hk.out.mono ?_;rintro e w5 ⟨v5, rfl, dF, aU⟩;obtain ⟨a5, bN, rfl, dG⟩ := dF.open;have bO : Cd sm body st4 ≠ .out := fun h => bD.out (by rw [aH.out, A1 h]);have bW := cQ.out;rw [smallN] at bW;have cN := Lq7 (Lz cR.out Hs.out G c6 w5 st4 body a5 bN (aM.out.1.below aU) (aM.out.2.1.mv (.of_below c6 aU)) dG bW.2.2 bW.2.1 bO);have H7 := Lq7 (H6.out.below aU);have aJ := Lq7 (And.intro (aM.out.1.below aU) (And.intro (aM.out.2.1.mv (.of_below c6 aU)) (And.intro (aM.out.2.2.1.below aU) (And.intro aM.out.2.2.2.1 (aM.out.2.2.2.2.below aU)))));have hfk := T9 (.int .i64 uk) (.string ut) (.int .i64 ul) (.int .i64 uc) (.slice a5 body.length bN) w5;unfold ptr at cN;clear dF dG bO bW aU Hk H6 aM n0 n1 n2 n3 n4 n5 n6 n7 n8 n9 cM;go_wp2_with fail;refine cN.out.mono ?_;rintro e w8 ⟨c8, aB, hq⟩;have H9 := Lq7 (H7.out.later aB.join);clear cN H7 hfk;obtain ⟨d0, d1, d2, d3, d4, d5, d6⟩ := Ag H9.out.fx.fc;cases hbx : Cd sm body st4 with
       | out => exact absurd hbx (fun h => bD.out (by rw [aH.out, A1 h]))
       | err x y z =>
        rw [hbx] at hq;obtain rfl := hq;have aC : Hid (res = .err x y z) := Lq7 (by rw [aH.out, Bo hbx]);have bG := ENz.block cR.out _ _ _ _ _ hbx;have hxz' : (x == 0) = false := (by simpa using bG);clear hbx aH aJ aB;unfold faultV;go_wp2_with fail;refine bodyPost_ret (v := faultV x y z) (by simp [faultV, results, Tryz.results101, go_sem, d0, d1, d2, d3]) rfl ?_;rw [aC.out];exact ⟨_, ((H9.out.fx.setF (.int .i64 x) (.int .i64 y) (.int .i64 z)).below ((Below.refl _ _).alloc (nlr _) _)).mv, rfl⟩
       | ok u8 st8 =>
        rw [hbx] at hq;obtain ⟨bP, v8, rfl, hv8⟩ := hq;obtain rfl : v8 = faultV 0 0 0 := hv8;have cP : Hid (res = Ie sm (.mk kk t l k kids) body (yl.drop (j + 1)) st8) := Lq7 (by rw [aH.out, C7 hbx]);have bA : Below w8.heap.size w8 (w8.alloc (.cells #[.int .i64 0, .int .i64 0, .int .i64 0] 106)) := (Below.refl _ w8).alloc (nlr _) _;have dH : GOk c2.F c6 _ := fun b h => ⟨aJ.out.1.ok.fl b (aJ.out.2.2.2.1 b h), aJ.out.1.ok.apart b (aJ.out.2.2.2.1 b h)⟩;have Hl9 := Lq7 (And.intro ((aJ.out.1.join aB bP).below bA) (And.intro ((aJ.out.2.1.mv aB.join).mv (.of_below _ bA)) (And.intro ((aJ.out.2.2.1.gmv aJ.out.2.1 aB).below bA) (And.intro (show ∀ b, c2.F b → (c8.with c6.F).F b from fun b h => Or.inr (aJ.out.2.2.2.1 b h)) ((aJ.out.2.2.2.2.gmv dH aB).below bA)))));have H10 := Lq7 (H9.out.below bA);clear hbx aH aJ aB bP bA dH H9 d0 d1 d2 d3 d4 d5 d6;unfold faultV;go_wp2_with fail;go_roundw
        case rel => exact ⟨j + 1, _, st8, by go_num, by omega, H10, Hl9, cP⟩
        case measure => simp only [intOf]; omega
    ·have dI : yl.drop j = [] := List.drop_eq_nil_of_le (by omega);have aC : Hid (res = .ok () aY) := Lq7 (by rw [bV.out, dI]; rfl);have H1 := Lq7 bJ.out;have Hm1 := Lq7 hl.out.1;clear d0 d1 d2 d3 d4 d5 d6 bU cH q0 q1 q2 q3 q4 q5 q6 q7 q8 q9 cZ dA;obtain ⟨d0, d1, d2, d3, d4, d5, d6⟩ := Ag H1.out.fx.fc;clear dI bV hl bJ;go_wp2_with fail;refine bodyPost_ret (v := faultV 0 0 0) (by simp [faultV, results, Tryz.results101, go_sem, d1, d2, d3]) rfl ?_;rw [aC.out];exact ⟨c3, (H1.out.fx.setF (.int .i64 0) (.int .i64 0) (.int .i64 0)).mv, Hm1.out.setO H1.out.fx.out (.int .i64 0) (.int .i64 0) (.int .i64 0), _, rfl, rfl⟩
  ·have aC : Hid (res = .err 9 xl xc) := Lq7 (by rw [aF.out, if_neg hk4]; rfl);have hk4' : (yk == 4) = false := (by simpa using hk4);clear aF;unfold faultV;go_wp2_with fail;refine bodyPost_ret (v := faultV 9 xl xc) (by simp [faultV, results, Tryz.results101, go_sem, d0, bU, d1, d2, d3]) rfl ?_;rw [aC.out];have cI := fun (W : World) => ((Below.refl _ W).alloc (nlr _) (.cells #[.int .i64 yk, .int .i64 yn, .string ys, .slice b1 yl.length e1, .slice b2 yks.length e2] 31)).alloc (by simp) (.cells #[.int .i64 0, .int .i64 0, .int .i64 0] 106);exact ⟨c2, ((H3.out.fx.setF (.int .i64 9) (.int .i64 xl) (.int .i64 xc)).below (cI _)).mv, rfl⟩

theorem Rk {ex : Nd → EM Vl} {sm : Nd → EM Unit} {st : St} {kk l k : Int} {t : ByteArray} {kids : List Nd} (hle : st.left ≤ 0) : P1 ex sm (.mk kk t l k kids) st = .err 12 l k :=
 Bo (if_pos hle)
theorem eStmt_go {ex : Nd → EM Vl} {sm : Nd → EM Unit} {st : St} {kk l k : Int} {t : ByteArray} {kids : List Nd} (hle : ¬ st.left ≤ 0) : P1 ex sm (.mk kk t l k kids) st =
  (if kk = 2 then EM.bind (ex (Ck (.mk kk t l k kids) 0)) fun v => Gw t v l k
  else if kk = 4 then eFor ex sm (.mk kk t l k kids)
  else eOut) { st with left := st.left - 1 } :=
 C7 (if_neg hle)
theorem L0 {mp mb : Nat} {hv : HostK} {ex : Nd → EM Vl} {sm : Nd → EM Unit} (hnz : ∀ n, ENz (ex n)) (_hnzs : ∀ n, ENz (sm n)) (_hs : Kh 62 mp mb hv sm) (hx : Ea 98 mp mb hv ex) (he : Kh 101 mp mb hv (eFor ex sm)) :
  Kh 62 mp mb hv (P1 ex sm) := by
 intro G c w st n v hm hG hn aC aB;obtain ⟨kk, t, l, k, kids⟩ := n;obtain ⟨a, cap, rfl, hr⟩ := hn.open;by_cases hle : st.left ≤ 0
 ·rw [Rk hle];exact T8 G c w st t l k kids a cap hm hG hr kk hle
 rw [eStmt_go hle] at aB ⊢;by_cases h2 : kk = 2
 ·subst h2;rw [if_pos rfl] at aB ⊢;exact Px G c w st t l k kids a cap hm hG hr hle aC ex hnz hx aB
 rw [if_neg h2] at aB ⊢;by_cases h4 : kk = 4
 ·subst h4;rw [if_pos rfl] at aB ⊢;exact stmt_for G c w st t l k kids a cap hm hG hr hle aC (eFor ex sm) he aB
 rw [if_neg h4] at aB ⊢;exact absurd rfl aB
theorem ENz.each {sm : Nd → EM Unit} (hs : ∀ n, ENz (sm n)) (n : Nd) (body : List Nd) : ∀ l : List Vl, ENz (Ie sm n body l)
 | [] => .pure ()
 | _ :: t => .bind (.put _ _ _ _) fun _ => .bind (ENz.block hs body) fun _ => ENz.each hs n body t
theorem ENz.stmt {ex : Nd → EM Vl} {sm : Nd → EM Unit} (hx : ∀ n, ENz (ex n)) (hs : ∀ n, ENz (sm n)) (n : Nd) : ENz (P1 ex sm n) := by
 refine .bind (.step _ _) fun _ => ?_;split
 ·exact .bind (hx _) fun v => .put _ _ _ _
 ·split
  ·refine .bind (hx _) fun v => ?_;split
   ·exact .each hs _ _ _
   ·exact .fail (by decide) _ _
  ·exact .out
theorem ENz.stmts {ans : Ans} (ha : Kg ans) : ∀ (f : Nat) (n : Nd), ENz (Jr ans f n)
 | 0, _ => .out
 | f + 1, n => ENz.stmt (ENz.exprs ha f) (ENz.stmts ha f) n
theorem Iv {mp mb : Nat} {hv : HostK} {fn : Nat} {rv : Value} (hdo : Pz fn rv mp mb hv) (hin : HInv fn rv hv) (ha : Kg hv.ans) : ∀ f, Kh 62 mp mb hv (Jr hv.ans f)
 | 0 => fun _ _ _ _ _ _ _ _ _ _ aB => absurd rfl aB
 | f + 1 => L0 (ENz.exprs ha f) (ENz.stmts ha f) (Iv hdo hin ha f) (Eq hdo hin ha f) (Ua (ENz.exprs ha f) (ENz.stmts ha f) (Eq hdo hin ha f) (Iv hdo hin ha f))
def aliveText : ByteArray := ⟨#[120, 32, 61, 32, 49, 59, 32, 102, 111, 114, 32, 105, 32, 105, 110, 32, 91, 50, 44, 32, 51, 93, 32, 123, 32, 120, 32, 61, 32, 120, 32, 43, 32, 105, 59, 32, 125]⟩
def aliveKids : List Nd :=
  [.mk 2 ⟨#[120]⟩ 1 1 [.mk 10 ⟨#[49]⟩ 1 5 []],
   .mk 4 ⟨#[105]⟩ 1 8 [.mk 12 ⟨#[]⟩ 1 17 [.mk 10 ⟨#[50]⟩ 1 18 [], .mk 10 ⟨#[51]⟩ 1 21 []],
     .mk 8 ⟨#[]⟩ 1 24 [.mk 2 ⟨#[120]⟩ 1 26 [.mk 16 ⟨#[43]⟩ 1 32 [.mk 9 ⟨#[120]⟩ 1 30 [], .mk 9 ⟨#[105]⟩ 1 34 []]]]]]
def intV (n : Int) : Vl := .mk 2 n ⟨#[]⟩ [] []
theorem alive_read : Gp aliveText.data.toList = some (.ok (.mk 1 ⟨#[]⟩ 1 1 aliveKids)) := by kernel_rfl
theorem Lj (ans : Ans) : eRun ans 8 aliveKids 14 = .ok () ⟨[(⟨#[120]⟩, intV 6), (⟨#[105]⟩, intV 3)], 0, []⟩ := by kernel_rfl
theorem Lk (ans : Ans) : eRun ans 8 aliveKids 13 = .err 12 1 34 := by kernel_rfl
theorem alive_small : smallNs aliveKids := by
 unfold aliveKids;simp only [smallNs, smallN, and_true, lnC, lnN]
 decide
def Rq (ans : Ans) : HostK := ⟨.iface 66 (.agg #[]), ans, fun _ F w _ => Dq w ∧ StdB w ∧ F 3 ∧ F 0,
 fun h hF _ hk => ⟨h.1.keep (hk _ (.inr h.2.2.1) h.1.here), (by
  obtain ⟨m, hm⟩ := h.2.1;exact ⟨m, (World.cell?_of_block (hk _ (.inr h.2.2.2) (block_of_cell hm))).trans hm⟩), hF _ h.2.2.1, hF _ h.2.2.2⟩, fun h => ⟨h.1, h.2.1⟩⟩
theorem Ue (ans : Ans) : HInv 223 (.agg #[]) (Rq ans) := fun _ _ => by
 unfold Rq
 kernel_rfl
end Go.Proofs.YtcofbdjakicojaaGreatDoor
