/-
  The walks of the plain host's join, lines, sorted and len at any arguments. (Printed by plainE_gen.py.)
-/
import Derived.Test.YtcofbdjakicojaaGreatDoorMRefBulk
import Derived.Test.YtcofbdjakicojaaGreatDoorLines
import Derived.Test.YtcofbdjakicojaaGreatDoorMRefTexts
namespace Go.Proofs.YtcofbdjakicojaaGreatDoor
open List renaming getElem?_eq_getElem → lgE, take_of_length_le → ltL, length_map → lnM
open Nat renaming le_refl → nlr, lt_of_lt_of_le → nll, zero_le → nlz, zero_mul → nzm, add_zero → naz
open Go.Lib renaming hid → Lq7
set_option maxRecDepth 100000
set_option maxHeartbeats 16000000
open Go Go.RowKit
theorem texts_told {k n : Int} {s : ByteArray} {l : List Vl} {ks ts : List ByteArray} (h : textsL (.mk k n s l ks) = some ts) : k = 4 ∧ ts.length ≤ 1000 ∧ ∀ x ∈ ts, x.size ≤ 65536 := by
 unfold textsL at h;split at h
 ·rename_i hc
  cases h;have hp := G7 hc.2.1;rw [prV] at hp;refine ⟨hc.1, by rw [lnM]; exact hp.2.2.1, fun x hx => ?_⟩;obtain ⟨y, hy, rfl⟩ := List.mem_map.1 hx;have := prVs_mem hp.2.2.2.2.2.2 hy;obtain ⟨yk, yn, ys, yl, yks⟩ := y;rw [prV] at this;exact this.2.1
 ·cases h
theorem Sg (F : Nat → Prop) (v : Vl) (a : Option Addr) (cap : Nat) (w : World) (hF : ∀ b, F b → b < w.heap.size) (hr : Ac F w a (valsD [v])) (hs : smallV v) (ht : textsL v = none) :
  Calls Tryz.prog 227 #[.slice a 1 cap] w (Bl (.error 9) w) := by
 obtain ⟨k, n, s, l, ks⟩ := v;obtain ⟨b, off, a3, c3, a4, c4, rfl, -, hbl, r0, r1, r2, r3, r4, aG, aH⟩ := hr.val (j := 0) rfl;simp only [nzm, naz] at r0 r1 r2 r3 r4;have aB := QB.start w;have aE := aB.below;generalize aJ : w.alloc (.cells #[.int .i64 0, .int .i64 0, .string ⟨#[]⟩, .slice none 0 0, .slice none 0 0] 31) = W0 at aB aE;have H0 := Lq7 aB;have aR := Lq7 aJ;have Hc := Lq7 (C3 k n s l ks hs F a3 c3 a4 c4 W0 (fun b hb => nll (hF b hb) aE.size) (aG.below aE) (aH.below aE));have Ht := Lq7 ht;clear aG aH aE ht hr hF hs aJ aB;go_enter Tryz.func227, Tryz.ntmps227;go_wp2_with fail;rw [aR.out];refine Hc.out.mono ?_;rintro e w1 ⟨aF, hq⟩;rw [Ht.out] at hq;obtain rfl : e = _ := hq;have H1 := Lq7 (H0.out.later aF);clear aF H0 Hc r0 r1 r2 r3 r4;obtain ⟨p0, p1, p2, p3, p4, p5, p6, p7, p8, p9, aI⟩ := five_facts H1.out.r;go_wp2_with fail;have aC := H1.out.err 9;generalize World.setCell _ _ _ = W9 at aC ⊢;clear p0 p1 p2 p3 p4 p5 p6 p7 p8 p9 aI;obtain ⟨p0, p1, p2, p3, p4, p5, p6, p7, p8, p9, aI⟩ := five_facts aC.2;refine bodyPost_ret (v := .tuple #[.agg #[.int .i64 0, .int .i64 0, .string ⟨#[]⟩, .slice none 0 0, .slice none 0 0], .int .i64 9]) (by simp [results, Tryz.results227, go_sem, p1, p2, p3, p4, p5]) rfl ?_;exact aC.1
theorem Qq (F : Nat → Prop) (v : Vl) (a : Option Addr) (cap : Nat) (w : World) (hF : ∀ b, F b → b < w.heap.size) (hr : Ac F w a (valsD [v])) (hs : smallV v) (ht : textsL v = none) :
  Calls Tryz.prog 228 #[.slice a 1 cap] w (Bl (.error 9) w) := by
 obtain ⟨k, n, s, l, ks⟩ := v;obtain ⟨b, off, a3, c3, a4, c4, rfl, -, hbl, r0, r1, r2, r3, r4, aG, aH⟩ := hr.val (j := 0) rfl;simp only [nzm, naz] at r0 r1 r2 r3 r4;have aB := QB.start w;have aE := aB.below;generalize aJ : w.alloc (.cells #[.int .i64 0, .int .i64 0, .string ⟨#[]⟩, .slice none 0 0, .slice none 0 0] 31) = W0 at aB aE;have H0 := Lq7 aB;have aR := Lq7 aJ;have Hc := Lq7 (C3 k n s l ks hs F a3 c3 a4 c4 W0 (fun b hb => nll (hF b hb) aE.size) (aG.below aE) (aH.below aE));have Ht := Lq7 ht;clear aG aH aE ht hr hF hs aJ aB;go_enter Tryz.func228, Tryz.ntmps228;go_wp2_with fail;rw [aR.out];refine Hc.out.mono ?_;rintro e w1 ⟨aF, hq⟩;rw [Ht.out] at hq;obtain rfl : e = _ := hq;have H1 := Lq7 (H0.out.later aF);clear aF H0 Hc r0 r1 r2 r3 r4;obtain ⟨p0, p1, p2, p3, p4, p5, p6, p7, p8, p9, aI⟩ := five_facts H1.out.r;go_wp2_with fail;have aC := H1.out.err 9;generalize World.setCell _ _ _ = W9 at aC ⊢;clear p0 p1 p2 p3 p4 p5 p6 p7 p8 p9 aI;obtain ⟨p0, p1, p2, p3, p4, p5, p6, p7, p8, p9, aI⟩ := five_facts aC.2;refine bodyPost_ret (v := .tuple #[.agg #[.int .i64 0, .int .i64 0, .string ⟨#[]⟩, .slice none 0 0, .slice none 0 0], .int .i64 9]) (by simp [results, Tryz.results228, go_sem, p1, p2, p3, p4, p5]) rfl ?_;exact aC.1
theorem U4 (F : Nat → Prop) (u v : Vl) (a : Option Addr) (cap : Nat) (w : World) (hF : ∀ b, F b → b < w.heap.size) (hr : Ac F w a (valsD [u, v])) (hs : smallV v) (ht : u.kind = 3 ∧ textsL v = none) :
  Calls Tryz.prog 226 #[.slice a 2 cap] w (Bl (.error 9) w) := by
 obtain ⟨k, n, s, l, ks⟩ := u;obtain ⟨k', n', s', l', ks'⟩ := v;obtain ⟨b, off, a1, c1, a2, c2, rfl, -, hbl, q0, q1, q2, q3, q4, -, -⟩ := hr.val (j := 0) rfl;obtain ⟨b', off', a3, c3, a4, c4, he, -, -, r0, r1, r2, r3, r4, aG, aH⟩ := hr.val (j := 1) rfl;cases he;simp only [nzm, naz, Nat.one_mul] at q0 q1 q2 q3 q4 r0 r1 r2 r3 r4;have aB := QB.start w;have aE := aB.below;generalize aJ : w.alloc (.cells #[.int .i64 0, .int .i64 0, .string ⟨#[]⟩, .slice none 0 0, .slice none 0 0] 31) = W0 at aB aE;have H0 := Lq7 aB;have aR := Lq7 aJ;have Hc := Lq7 (C3 k' n' s' l' ks' hs F a3 c3 a4 c4 W0 (fun b hb => nll (hF b hb) aE.size) (aG.below aE) (aH.below aE));have Hq := Lq7 (V5.mk hbl q0 q1 q2 q3 q4);obtain ⟨hk, ht⟩ := ht;obtain rfl : k = 3 := hk;have Ht := Lq7 ht;clear aG aH aE ht hr hF hs aJ aB;go_enter Tryz.func226, Tryz.ntmps226;go_wp2_with fail;rw [aR.out];refine Hc.out.mono ?_;rintro e w1 ⟨aF, hq⟩;rw [Ht.out] at hq;obtain rfl : e = _ := hq;have H1 := Lq7 (And.intro (H0.out.later aF) (Hq.out.below (H0.out.below.trans (aF.mono H0.out.below.size))));clear aF H0 Hc q0 q1 q2 q3 q4 r0 r1 r2 r3 r4;obtain ⟨-, q0, q1, q2, q3, q4⟩ := H1.out.2;have H2 := Lq7 H1.out.1;obtain ⟨p0, p1, p2, p3, p4, p5, p6, p7, p8, p9, aI⟩ := five_facts H2.out.r;go_wp2_with fail;have aC := H2.out.err 9;generalize World.setCell _ _ _ = W9 at aC ⊢;clear p0 p1 p2 p3 p4 p5 p6 p7 p8 p9 aI;obtain ⟨p0, p1, p2, p3, p4, p5, p6, p7, p8, p9, aI⟩ := five_facts aC.2;refine bodyPost_ret (v := .tuple #[.agg #[.int .i64 0, .int .i64 0, .string ⟨#[]⟩, .slice none 0 0, .slice none 0 0], .int .i64 9]) (by simp [results, Tryz.results226, go_sem, p1, p2, p3, p4, p5]) rfl ?_;exact aC.1
theorem Sh (F : Nat → Prop) (u v : Vl) (a : Option Addr) (cap : Nat) (w : World) (hF : ∀ b, F b → b < w.heap.size) (hr : Ac F w a (valsD [u, v])) (hs : smallV v) (ht : u.kind ≠ 3) :
  Calls Tryz.prog 226 #[.slice a 2 cap] w (Bl (.error 9) w) := by
 obtain ⟨k, n, s, l, ks⟩ := u;obtain ⟨k', n', s', l', ks'⟩ := v;obtain ⟨b, off, a1, c1, a2, c2, rfl, -, hbl, q0, q1, q2, q3, q4, -, -⟩ := hr.val (j := 0) rfl;obtain ⟨b', off', a3, c3, a4, c4, he, -, -, r0, r1, r2, r3, r4, aG, aH⟩ := hr.val (j := 1) rfl;cases he;simp only [nzm, naz, Nat.one_mul] at q0 q1 q2 q3 q4 r0 r1 r2 r3 r4;have aB := QB.start w;have aE := aB.below;generalize aJ : w.alloc (.cells #[.int .i64 0, .int .i64 0, .string ⟨#[]⟩, .slice none 0 0, .slice none 0 0] 31) = W0 at aB aE;have H0 := Lq7 aB;have aR := Lq7 aJ;have Hc := Lq7 (C3 k' n' s' l' ks' hs F a3 c3 a4 c4 W0 (fun b hb => nll (hF b hb) aE.size) (aG.below aE) (aH.below aE));have Hq := Lq7 (V5.mk hbl q0 q1 q2 q3 q4);have hk : ¬ k = 3 := ht;have hk3 : (k != 3) = true := (by simpa using hk);have hk2 : decide (k = 3) = false := decide_eq_false hk;clear aG aH aE ht hr hF hs aJ aB;go_enter Tryz.func226, Tryz.ntmps226;go_wp2_with fail;rw [aR.out];refine Hc.out.mono ?_;rintro e w1 ⟨aF, hq⟩;have hq2 : ∃ x ok, e = .returned (.tuple #[x, .bool ok]) ∧ ((∃ a1 n1 c1, x = .slice a1 n1 c1)) := by
  split at hq
  ·obtain ⟨x, rfl, hown⟩ := hq;obtain ⟨aT, cT, rfl, -, -⟩ := hown.strsAt;exact ⟨_, _, rfl, _, _, _, rfl⟩
  ·exact ⟨_, _, hq, _, _, _, rfl⟩
 obtain ⟨x, ok, rfl, a8, n8, c8, rfl⟩ := hq2;clear hq;have H1 := Lq7 (And.intro (H0.out.later aF) (Hq.out.below (H0.out.below.trans (aF.mono H0.out.below.size))));clear aF H0 Hc q0 q1 q2 q3 q4 r0 r1 r2 r3 r4;obtain ⟨-, q0, q1, q2, q3, q4⟩ := H1.out.2;have H2 := Lq7 H1.out.1;obtain ⟨p0, p1, p2, p3, p4, p5, p6, p7, p8, p9, aI⟩ := five_facts H2.out.r;go_wp2_with fail;have aC := H2.out.err 9;generalize World.setCell _ _ _ = W9 at aC ⊢;clear p0 p1 p2 p3 p4 p5 p6 p7 p8 p9 aI;obtain ⟨p0, p1, p2, p3, p4, p5, p6, p7, p8, p9, aI⟩ := five_facts aC.2;refine bodyPost_ret (v := .tuple #[.agg #[.int .i64 0, .int .i64 0, .string ⟨#[]⟩, .slice none 0 0, .slice none 0 0], .int .i64 9]) (by simp [results, Tryz.results226, go_sem, p1, p2, p3, p4, p5]) rfl ?_;exact aC.1
theorem U5 (F : Nat → Prop) (n n' : Int) (s s' : ByteArray) (l0 : List Vl) (ks0 : List ByteArray) (l : List Vl) (ks : List ByteArray) (ts : List ByteArray) (a : Option Addr) (cap : Nat) (w : World) (hF : ∀ b, F b → b < w.heap.size) (hr : Ac F w a (valsD [.mk 3 n s l0 ks0, .mk 4 n' s' l ks]))
  (hs : smallV (.mk 4 n' s' l ks)) (ht : textsL (.mk 4 n' s' l ks) = some ts) (hlen : ts.length ≤ 1000) (hs0 : s.size ≤ 65536) (hts : sumS ts ≤ 65536 * 1000) (hover : 65536 < (ts.length - 1) * s.size + sumS ts) :
  Calls Tryz.prog 226 #[.slice a 2 cap] w (Bl (.error 6) w) := by
 obtain ⟨b, off, a1, c1, a2, c2, rfl, -, hbl, q0, q1, q2, q3, q4, -, -⟩ := hr.val (j := 0) rfl;obtain ⟨b', off', a3, c3, a4, c4, he, -, -, r0, r1, r2, r3, r4, aG, aH⟩ := hr.val (j := 1) rfl;cases he;simp only [nzm, naz, Nat.one_mul] at q0 q1 q2 q3 q4 r0 r1 r2 r3 r4;have aE : Below w.heap.size w (w.alloc (.cells #[.int .i64 0, .int .i64 0, .string ⟨#[]⟩, .slice none 0 0, .slice none 0 0] 31)) := (Below.refl _ w).alloc (nlr _) _;have Hc := Lq7 (C3 4 n' s' l ks hs F a3 c3 a4 c4 _ (fun b hb => nll (hF b hb) aE.size) (aG.below aE) (aH.below aE));have aM := Lq7 (And.intro (heap_alloc_new w (.cells #[.int .i64 0, .int .i64 0, .string ⟨#[]⟩, .slice none 0 0, .slice none 0 0] 31)) aE);have Ht := Lq7 ht;have Hr := Lq7 hr;clear aG aH aE ht hr hF hs;go_enter Tryz.func226, Tryz.ntmps226;go_wp2_with fail;refine Hc.out.mono ?_;rintro e w1 ⟨aF, hq⟩;rw [Ht.out] at hq;obtain ⟨x, rfl, hown⟩ := hq;obtain ⟨aT, cT, rfl, aW, hcap⟩ := hown.strsAt;have bG := Lq7 aW;have aN : Below w.heap.size w w1 := aM.out.2.trans (aF.mono aM.out.2.size);have aX := stays aM.out.1 aF;have bH := Lq7 aX;have q0 := (aN.cell (p := ⟨b, off, none⟩) hbl).trans q0;have q2 := (aN.cell (p := ⟨b, off + 2, none⟩) hbl).trans q2;have aQ := Lq7 aN;clear aW aF aN hown Hc aM q1 q3 q4 r0 r1 r2 r3 r4 aX;go_wp2_with fail;have hm : max (0 : Int) ((ts.length : Int) - 1) = ((ts.length - 1 : Nat) : Int) := (by omega);have hm0 : (ts.length - 1) * s.size ≤ 1000 * 65536 := Nat.mul_le_mul (by omega) hs0;have hw : wrap64 ((s.size : Int) * max 0 ((ts.length : Int) - 1)) = (((ts.length - 1) * s.size : Nat) : Int) := by
  rw [hm, Int.mul_comm, ← Int.natCast_mul];exact IntWalk.wrap64_in _ ⟨by omega, by omega⟩
 rw [hw];clear hm hw;generalize hn0 : (ts.length - 1) * s.size = n0 at hover hm0 ⊢
 go_loop [6, 38] (fun m i => ∃ j : Nat, i = .int .i64 j ∧ j ≤ ts.length ∧ m = .int .i64 ((n0 + sumS (ts.take j) : Nat) : Int)) (fun _ i => ts.length - (intOf i).toNat)
 case atStart => exact ⟨0, rfl, nlz _, rfl⟩
 case round =>
  obtain ⟨j, rfl, hj, rfl⟩ := hrel;by_cases hlt : j < ts.length
  ·obtain ⟨bK, oK, bI, bC⟩ := bG.out j _ (lgE hlt);subst bI;have bD := Hi ts j hlt;have bP := sumS_le ts (j + 1);generalize ts[j] = x at bC bD;go_wp2_with fail;go_round
   case rel => exact ⟨j + 1, by go_num, by omega, by go_num⟩
   case measure => simp only [intOf]; omega
  ·have bJ : ts.take j = ts := ltL (by omega);rw [bJ];have hng : (65536 : Int) < ((n0 + sumS ts : Nat) : Int) := (by omega);have H9 : Hid (QB w w1 w.heap.size) := Lq7 ⟨aQ.out, bH.out, nlr _⟩;obtain ⟨p0, p1, p2, p3, p4, p5, p6, p7, p8, p9, aI⟩ := five_facts H9.out.r;go_wp2_with fail;have aC := H9.out.err 6;generalize World.setCell _ _ _ = W9 at aC ⊢;clear p0 p1 p2 p3 p4 p5 p6 p7 p8 p9 aI;obtain ⟨p0, p1, p2, p3, p4, p5, p6, p7, p8, p9, aI⟩ := five_facts aC.2;refine bodyPost_ret (v := .tuple #[.agg #[.int .i64 0, .int .i64 0, .string ⟨#[]⟩, .slice none 0 0, .slice none 0 0], .int .i64 6]) (by simp [results, Tryz.results226, go_sem, p1, p2, p3, p4, p5]) rfl ?_;exact aC.1
theorem Si (F : Nat → Prop) (n' : Int) (s' : ByteArray) (l : List Vl) (ks : List ByteArray) (ts : List ByteArray) (a : Option Addr) (cap : Nat) (w : World) (hF : ∀ b, F b → b < w.heap.size) (hr : Ac F w a (valsD [.mk 4 n' s' l ks]))
  (hs : smallV (.mk 4 n' s' l ks)) (ht : textsL (.mk 4 n' s' l ks) = some ts) (hlen : ts.length ≤ 1000) (hts : ∀ x ∈ ts, x.size ≤ 65536) (hover : 65536 < totL ts) :
  Calls Tryz.prog 227 #[.slice a 1 cap] w (Bl (.error 6) w) := by
 obtain ⟨b, off, a3, c3, a4, c4, rfl, -, hbl, r0, r1, r2, r3, r4, aG, aH⟩ := hr.val (j := 0) rfl;simp only [nzm, naz] at r0 r1 r2 r3 r4;have aE : Below w.heap.size w (w.alloc (.cells #[.int .i64 0, .int .i64 0, .string ⟨#[]⟩, .slice none 0 0, .slice none 0 0] 31)) := (Below.refl _ w).alloc (nlr _) _;have Hc := Lq7 (C3 4 n' s' l ks hs F a3 c3 a4 c4 _ (fun b hb => nll (hF b hb) aE.size) (aG.below aE) (aH.below aE));have aM := Lq7 (And.intro (heap_alloc_new w (.cells #[.int .i64 0, .int .i64 0, .string ⟨#[]⟩, .slice none 0 0, .slice none 0 0] 31)) aE);have Ht := Lq7 ht;clear aG aH aE ht hr hF hs;go_enter Tryz.func227, Tryz.ntmps227;go_wp2_with fail;refine Hc.out.mono ?_;rintro e w1 ⟨aF, hq⟩;rw [Ht.out] at hq;obtain ⟨x, rfl, hown⟩ := hq;obtain ⟨aT, cT, rfl, aW, hcap⟩ := hown.strsAt;have bQ : Below w1.heap.size w1 (w1.alloc (.cells #[.pointer none, .slice none 0 0] 263)) := (Below.refl _ w1).alloc (nlr _) _;have bG := Lq7 aW;have bE := Lq7 bQ;have aQ := Lq7 (And.intro (stays aM.out.1 aF) (aM.out.2.trans (aF.mono aM.out.2.size)));have bR := Lq7 (Lib.fresh_isBuilder 263 5 w1);have hw1 : w.heap.size < w1.heap.size := here (stays aM.out.1 aF);clear aW aF hown Hc aM r0 r1 r2 r3 r4 bQ;go_wp2_with fail;generalize World.alloc _ _ = W at bR bE ⊢
 go_loopw [21] (fun i wr => ∃ j : Nat, i = .int .i64 j ∧ j ≤ ts.length ∧ totL (ts.take j) ≤ 65536 ∧ Hid (Lib.IsBuilder 263 5 w1.heap.size w1.heap.size (Lib.byteCells (C5 (ts.take j))) wr) ∧ Hid (Below w1.heap.size w1 wr)) (fun i _ => ts.length - (intOf i).toNat)
 case atStart => exact ⟨0, rfl, nlz _, nlz _, bR, bE⟩
 case round =>
  obtain ⟨j, rfl, hj, hle, bS, bF⟩ := hrel;by_cases hlt : j < ts.length
  ·obtain ⟨bK, oK, bI, bC⟩ := (bG.out.below bF.out) j _ (lgE hlt);subst bI;have bD := Nn ts j hlt;have bP := S9 ts (j + 1);have bL := Kl ts j hlt;have bU := Dv (ts.take j);have aY : (Lib.byteCells (C5 (ts.take j))).length = totL (ts.take j) := (by rw [← bU]; simp [Lib.byteCells]);have hxz := hts _ (List.getElem_mem hlt);generalize ts[j] = x at bC bD bL hxz;have bV : (x ++ (⟨#[10]⟩ : ByteArray)).size = x.size + 1 := (by rw [ByteArray.size_append]; rfl);have Hc := Lq7 (Nb w1.heap.size w1.heap.size (Lib.byteCells (C5 (ts.take j))) (x ++ (⟨#[10]⟩ : ByteArray)) wr bS.out (by rw [aY, bV]; omega) bF.out.size);have Hs3 := Lq7 bL;have bE := Lq7 bF.out;clear bL bS bF;go_wp2_with fail;refine Hc.out.mono ?_;rintro e w2 ⟨rfl, aZ, bA⟩;have aU : Lib.IsBuilder 263 5 w1.heap.size w1.heap.size (Lib.byteCells (C5 (ts.take (j + 1)))) w2 := by
    rw [Hs3.out, Lib.byteCells_append];exact .inr aZ
   have bM := Lq7 aU;have aV := Lq7 (bE.out.trans bA);have bN := Lq7 (Tryz.Builder_Len w1.heap.size w1.heap.size _ w2 aU);have bB : (Lib.byteCells (C5 (ts.take (j + 1)))).length = totL (ts.take (j + 1)) := (by rw [← Dv]; simp [Lib.byteCells]);rw [bB] at bN;clear aZ bA aU Hc bB bC bD bP bU aY bV;have hTT : ∃ T : Nat, totL (ts.take (j + 1)) = T := ⟨_, rfl⟩;obtain ⟨T, hT⟩ := hTT;rw [hT] at bN;have HT := Lq7 hT;clear hT;go_wp2_with fail;refine bN.out.mono ?_;rintro e w3 ⟨rfl, bO⟩;have bO := bO.symm;subst bO;by_cases hng : (65536 : Int) < (T : Int)
   ·have H9 : Hid (QB w w2 w.heap.size) := Lq7 ⟨aQ.out.2.trans (aV.out.mono (by omega)), (aV.out.block _ hw1).trans aQ.out.1, nlr _⟩;obtain ⟨p0, p1, p2, p3, p4, p5, p6, p7, p8, p9, aI⟩ := five_facts H9.out.r;go_wp2_with fail;have aC := H9.out.err 6;generalize World.setCell _ _ _ = W9 at aC ⊢;clear p0 p1 p2 p3 p4 p5 p6 p7 p8 p9 aI;obtain ⟨p0, p1, p2, p3, p4, p5, p6, p7, p8, p9, aI⟩ := five_facts aC.2;refine bodyPost_ret (v := .tuple #[.agg #[.int .i64 0, .int .i64 0, .string ⟨#[]⟩, .slice none 0 0, .slice none 0 0], .int .i64 6]) (by simp [results, Tryz.results227, go_sem, p1, p2, p3, p4, p5]) rfl ?_;exact aC.1
   ·go_wp2_with fail;go_roundw
    case rel => exact ⟨j + 1, by go_num, by omega, by rw [HT.out]; omega, bM, aV⟩
    case measure => simp only [intOf]; omega
  ·exfalso;have bJ : ts.take j = ts := ltL (by omega);rw [bJ] at hle;omega
def joinL (u v : Vl) : Except Int Vl := if ¬ u.kind = 3 then .error 9 else match textsL v with
 | none => .error 9
 | some ts => if 65536 < (ts.length - 1) * u.str.size + sumS ts then .error 6 else .ok (Dr (joinB ts u.str))
def linesL (v : Vl) : Except Int Vl := match textsL v with
 | none => .error 9
 | some ts => if 65536 < totL ts then .error 6 else .ok (Dr (linesB ts))
def sortedL (v : Vl) : Except Int Vl := match textsL v with
 | none => .error 9
 | some ts => .ok (.mk 4 0 ⟨#[]⟩ (strsV (sortL ts)) [])
theorem U6 (F : Nat → Prop) (u v : Vl) (a : Option Addr) (cap : Nat) (w : World) (hF : ∀ b, F b → b < w.heap.size) (hr : Ac F w a (valsD [u, v])) (hs : smallV v) (hu : u.str.size ≤ 65536) :
  Calls Tryz.prog 226 #[.slice a 2 cap] w (Bl (joinL u v) w) := by
 unfold joinL;by_cases hk : u.kind = 3
 ·rw [if_neg (by simpa using hk)];cases ht : textsL v with
  | none => exact U4 F u v a cap w hF hr hs ⟨hk, ht⟩
  | some ts =>
   obtain ⟨k, n, s, l, ks⟩ := u;obtain ⟨k', n', s', l', ks'⟩ := v;obtain ⟨h4, hlen, hx⟩ := texts_told ht;obtain rfl : k = 3 := hk;subst h4;have hb := sumS_bound ts hx;have hb2 : 65536 * ts.length ≤ 65536 * 1000 := Nat.mul_le_mul_left _ hlen
   dsimp only
   split
   ·rename_i hov
    exact U5 F n n' s s' l ks l' ks' ts a cap w hF hr hs ht hlen hu (by omega) hov
   ·rename_i hov
    exact Uf F n n' s s' l ks l' ks' ts a cap w hF hr hs ht hlen (by show (ts.length - 1) * s.size + sumS ts ≤ 65536; exact Nat.le_of_not_lt hov)
 ·rw [if_pos hk];exact Sh F u v a cap w hF hr hs hk
theorem Sj (F : Nat → Prop) (v : Vl) (a : Option Addr) (cap : Nat) (w : World) (hF : ∀ b, F b → b < w.heap.size) (hr : Ac F w a (valsD [v])) (hs : smallV v) :
  Calls Tryz.prog 227 #[.slice a 1 cap] w (Bl (linesL v) w) := by
 unfold linesL;cases ht : textsL v with
 | none => exact Sg F v a cap w hF hr hs ht
 | some ts =>
  obtain ⟨k', n', s', l', ks'⟩ := v;obtain ⟨h4, hlen, hx⟩ := texts_told ht;subst h4
  dsimp only
  split
  ·rename_i hov
   exact Si F n' s' l' ks' ts a cap w hF hr hs ht hlen hx hov
  ·rename_i hov
   exact Rz F n' s' l' ks' ts a cap w hF hr hs ht hlen (Nat.le_of_not_lt hov)
theorem Qr (F : Nat → Prop) (v : Vl) (a : Option Addr) (cap : Nat) (w : World) (hF : ∀ b, F b → b < w.heap.size) (hr : Ac F w a (valsD [v])) (hs : smallV v) :
  Calls Tryz.prog 228 #[.slice a 1 cap] w (Bl (sortedL v) w) := by
 unfold sortedL;cases ht : textsL v with
 | none => exact Qq F v a cap w hF hr hs ht
 | some ts =>
  obtain ⟨k', n', s', l', ks'⟩ := v;obtain ⟨h4, hlen, hx⟩ := texts_told ht;subst h4;exact Pd F n' s' l' ks' ts a cap w hF hr hs ht hlen
theorem Qs (F : Nat → Prop) (v : Vl) (a : Option Addr) (cap : Nat) (w : World) (hr : Ac F w a (valsD [v])) (hs : smallV v) (hv : v.str.size ≤ 65536) :
  Calls Tryz.prog 225 #[.slice a 1 cap] w (Bl (B7 v) w) := by
 obtain ⟨k, n, s, l, ks⟩ := v;replace hv : s.size ≤ 65536 := hv;have hl : l.length ≤ 140737488355328 := (by rw [smallV] at hs; exact hs.2.1);obtain ⟨b, off, a1, c1, a2, c2, rfl, -, hbl, q0, q1, q2, q3, q4, -, -⟩ := hr.val (j := 0) rfl;simp only [nzm, naz] at q0 q1 q2 q3 q4;by_cases h3 : k = 3
 ·subst h3;go_enter Tryz.func225, Tryz.ntmps225;go_wp2_with fail;refine bodyPost_ret (v := .tuple #[.agg #[.int .i64 2, .int .i64 s.size, .string ⟨#[]⟩, .slice none 0 0, .slice none 0 0], .int .i64 0]) (by simp [results, Tryz.results225, go_sem]) rfl ?_;rw [show B7 (.mk 3 n s l ks) = .ok (.mk 2 s.size ⟨#[]⟩ [] []) from rfl];exact ⟨((Below.refl _ w).alloc (nlr _) _).alloc (by simp) _, _, rfl, Ah.int _ _ _⟩
 ·by_cases h4 : k = 4
  ·subst h4;exact P8 F n s l ks (some ⟨b, off, none⟩) cap w hr hl
  ·by_cases h5 : k = 5
   ·subst h5;go_enter Tryz.func225, Tryz.ntmps225;go_wp2_with fail;refine bodyPost_ret (v := .tuple #[.agg #[.int .i64 2, .int .i64 l.length, .string ⟨#[]⟩, .slice none 0 0, .slice none 0 0], .int .i64 0]) (by simp [results, Tryz.results225, go_sem]) rfl ?_;rw [show B7 (.mk 5 n s l ks) = .ok (.mk 2 l.length ⟨#[]⟩ [] []) from rfl];exact ⟨((Below.refl _ w).alloc (nlr _) _).alloc (by simp) _, _, rfl, Ah.int _ _ _⟩
   ·have e3 : (k == 3) = false := (by simpa using h3);have e4 : (k == 4) = false := (by simpa using h4);have e5 : (k == 5) = false := (by simpa using h5);have Hr : Hid (B7 (.mk k n s l ks) = .error 9) := Lq7 ((if_neg h3).trans (if_neg (fun h => h.elim h4 h5)));go_enter Tryz.func225, Tryz.ntmps225;go_wp2_with fail;refine bodyPost_ret (v := .tuple #[zeroV, .int .i64 9]) (by simp [zeroV, results, Tryz.results225, go_sem]) rfl ?_;rw [Hr.out];exact ⟨((Below.refl _ w).alloc (nlr _) _).alloc (by simp) _, rfl⟩
end Go.Proofs.YtcofbdjakicojaaGreatDoor