/-
  The walks of the evaluator's put and made.
  The walks of the plain host's small functions: str, limited, length.
-/
import Derived.Deep.DeepCutAuto
import Derived.Test.YtcofbdjakicojaaGreatDoorMOwnsN
import Derived.Test.YtcofbdjakicojaaGreatDoorMGreatX
import Derived.Test.YtcofbdjakicojaaGreatDoorMSix
namespace Go.Proofs.YtcofbdjakicojaaGreatDoor
open Go Go.RowKit
open List renaming getElem_toArray → lgA, getElem_cons_succ → lgB, getElem_cons_zero → lgC, setIfInBounds_toArray → laA, set_cons_zero → lsA, set_cons_succ → lsB
open Nat renaming le_refl → nlr, zero_mul → nzm, add_zero → naz
open Go.Lib renaming hid → Lq7
open Go.Act renaming put → aP
set_option maxRecDepth 100000
set_option maxHeartbeats 16000000
theorem S5 (c : Ctx) (mp mb : Nat) (hv : HostK) (st : St) (s : ByteArray) (v : Vl) (cs : List Value) (l k : Int) (w : World) (hm : MS c w mp mb hv st) (hs : s.size ≤ maxLen) (hc : Ah c.F w (valD v) cs) (hck : checkV v = true) :
  Calls Tryz.prog 100 #[ptr mp, .string s, .agg cs.toArray, .agg #[.int .i64 l, .int .i64 k]] w (EP mp mb hv Ls faultV c (Gw s v l k st) w) := by
 obtain ⟨vk, vn, vs, vl, vks⟩ := v;obtain ⟨a1, c1, a2, c2, rfl, hr1, hr2⟩ := hc.val;have Hm := Lq7 hm;have Hc := Lq7 hc;have Hck := Lq7 hck;clear hm hc hr1 hr2 hck;unfold ptr;have H0 := Lq7 (C4 w (.cells #[.int .i64 vk, .int .i64 vn, .string vs, .slice a1 vl.length c1, .slice a2 vks.length c2] 31) (.cells #[.int .i64 l, .int .i64 k] 24) (.cells #[.int .i64 0, .int .i64 0, .int .i64 0] 106));cases hfx : (Bh s).isSome with
 | true =>
  have Hr : Hid (Gw s (.mk vk vn vs vl vks) l k st = .err 7 l k) := Lq7 (by unfold Gw; rw [hfx]; rfl);have aG := Lq7 hfx;clear hfx;go_enter Tryz.func100, Tryz.ntmps100;go_wp2_with fail;refine (Fk s _).mono ?_;rintro e w1 ⟨fs, rfl, aB, -, -, fa, fb, f2, rfl⟩;rw [aG.out];have H1 := Lq7 (And.intro (stays H0.out.2.1 aB) (And.intro (stays H0.out.2.2.1 aB) (H0.out.2.2.2.1.trans (aB.mono H0.out.2.2.2.1.size))));obtain ⟨b0, b1, b2, b3, b4⟩ := Ap H1.out.1;obtain ⟨d0, d1, d2, d3, d4, d5, d6⟩ := Ag H1.out.2.1;clear aB;go_wp2_with fail;refine bodyPost_ret (v := faultV 7 l k) (by simp [faultV, results, Tryz.results100, go_sem, d0, d1, d2, d3]) rfl ?_;rw [Hr.out];have hz := here H1.out.2.1;exact ⟨c, .of_below c ((((H1.out.2.2.setCell (p := ⟨w.heap.size + 1 + 1, 0, none⟩) (by show _ ≤ w.heap.size + 1 + 1; omega) _).setCell (p := ⟨w.heap.size + 1 + 1, 1, none⟩) (by show _ ≤ w.heap.size + 1 + 1; omega) _).setCell (p := ⟨w.heap.size + 1 + 1, 2, none⟩) (by show _ ≤ w.heap.size + 1 + 1; omega) _).alloc (by simp only [World.size_setCell]; omega) _), rfl⟩
 | false =>
  have Hr : Hid (Gw s (.mk vk vn vs vl vks) l k st = .ok () { st with names := putN st.names s (.mk vk vn vs vl vks) }) := Lq7 (by unfold Gw; rw [hfx]; rfl);have aG := Lq7 hfx;clear hfx;go_enter Tryz.func100, Tryz.ntmps100;go_wp2_with fail;refine (Fk s _).mono ?_;rintro e w1 ⟨fs, rfl, aB, -, -, fa, fb, f2, rfl⟩;rw [aG.out];have H1 := Lq7 (And.intro (stays H0.out.1 aB) (And.intro (stays H0.out.2.2.1 aB) (H0.out.2.2.2.1.trans (aB.mono H0.out.2.2.2.1.size))));clear aB
  go_upto_region 4 with fail
  have aF : Below w1.heap.size w1 (w1.alloc (.cells #[.int .i64 fa, .int .i64 fb, .string f2, .slice none 0 0, .slice none 0 0] 31)) := (Below.refl _ w1).alloc (nlr _) _;have H2 := Lq7 (And.intro (stays H1.out.1 aF) (And.intro (stays H1.out.2.1 aF) (H1.out.2.2.trans (aF.mono H1.out.2.2.size))));generalize World.alloc _ _ = W at H2 ⊢;clear aF H1 H0;refine Ae (.s 0 (.s 1 (.s 2 (.s 3 (.s 4 (.s 5 (.h 6 .nil))))))) 6 (fun W' => W'.heap[mp]? = some (.cells #[.map (some mb), hv.val, .int .i64 st.left] 104 (0, 0)) ∧ W'.heap[w.heap.size]? = some (.cells #[.int .i64 vk, .int .i64 vn, .string vs, .slice a1 vl.length c1, .slice a2 vks.length c2] 31 (0, 0))) (by kernel_rfl) (by kernel_rfl) (fun c a d v w h => by cases d <;> exact h) ⟨(Hm.out.below H2.out.2.2).head, H2.out.1⟩ ?_
  have H3 := Lq7 (And.intro (stays H2.out.2.1 ((Below.refl _ W).drew)) (H2.out.2.2.trans (((Below.refl _ W).drew).mono H2.out.2.2.size)));generalize W.drew = Wd at H3 ⊢;clear H2;refine Aa (.pointer (some ⟨mp, 0, none⟩)) rfl rfl (fun W' hS => ?_) ?_
  ·go_simp
  (try simp only [lgA, lgC, aP, laA, lsA, lsB]);refine Aa (.pointer (some ⟨mp, 0, none⟩)) rfl rfl (fun W' hS => ?_) ?_
  ·go_simp
  (try simp only [lgA, lgB, lgC, aP, laA, lsA, lsB]);refine Aa (.pointer (some ⟨mp, 0, none⟩)) rfl rfl (fun W' hS => ?_) ?_
  ·go_simp
  (try simp only [lgA, lgB, lgC, aP, laA, lsA, lsB]);refine Aa (.map (some mb)) rfl rfl (fun W' hS => ?_) ?_
  ·obtain ⟨s0, s1, s2, s3, s4, s5, s6⟩ := Ag hS.1;clear hS;go_simp
  (try simp only [lgA, lgB, lgC, aP, laA, lsA, lsB]);refine Aa (.string s) rfl rfl (fun W' hS => ?_) ?_
  ·go_simp
  (try simp only [lgA, lgB, lgC, aP, laA, lsA, lsB]);refine Aa (.agg #[.int .i64 vk, .int .i64 vn, .string vs, .slice a1 vl.length c1, .slice a2 vks.length c2]) rfl rfl (fun W' hS => ?_) ?_
  ·obtain ⟨s0, s1, s2, s3, s4, s5, s6, s7, s8, s9, s10⟩ := five_facts hS.2;clear hS;go_simp
  (try simp only [lgA, lgB, lgC, aP, laA, lsA, lsB]);have aI := Hm.out.below H3.out.2;have aJ := Hc.out.below H3.out.2;obtain ⟨o, aC, aM⟩ := aI.store s hs (.mk vk vn vs vl vks) _ aJ Hck.out;have aE := Lq7 (And.intro aM (And.intro ((World.putObj_heap_other (by have := Hm.out.ok.ml mb Hm.out.hb; omega)).trans H3.out.1 : (Wd.putObj mb o).heap[w.heap.size + 1 + 1]? = _) (((Mv.of_below c H3.out.2).trans ⟨rfl, rfl, rfl, by simp [World.putObj], fun b _ hn => World.putObj_heap_other (fun e => hn (by rw [e]; exact Hm.out.hb)), fun _ h => .inl h, fun _ h => .inl h⟩ : Mv c w c (Wd.putObj mb o)))));have hrun' : (Instr.mapUpdate 102 (.map (some mb)) (.string s) (.agg #[.int .i64 vk, .int .i64 vn, .string vs, .slice a1 vl.length c1, .slice a2 vks.length c2])).run Tryz.prog Wd = .ok () (Wd.putObj mb o) := aC;clear aI aJ aM aC;refine Ad rfl (fun Kx aN => ?_);go_wp2_with fail;refine aN _ _ (fun h => absurd rfl h) ?_;generalize Wd.putObj mb o = W2 at aE ⊢;clear aN hrun';refine Ak ?_;(try simp only [lgA, lgB, lgC, aP, laA, lsA, lsB]);obtain ⟨d0, d1, d2, d3, d4, d5, d6⟩ := Ag aE.out.2.1;go_wp2_with fail;refine bodyPost_ret (v := faultV 0 0 0) (by simp [faultV, results, Tryz.results100, go_sem, d1, d2, d3]) rfl ?_;rw [Hr.out];have hz := here aE.out.2.1;refine ⟨c, ((aE.out.2.2.set (b := w.heap.size + 1 + 1) (.inl (by omega)) 0 _).set (b := w.heap.size + 1 + 1) (.inl (by omega)) 1 _).set (b := w.heap.size + 1 + 1) (.inl (by omega)) 2 _, ?_, _, rfl, rfl⟩;refine aE.out.1.other (by simp) (fun b hb hMF => ?_);have aH : b ≠ w.heap.size + 1 + 1 := by
   rcases hMF with h | h
   ·have := Hm.out.ok.ml b h; omega
   ·have := Hm.out.ok.fl b h; omega
  rw [set_other aH, set_other aH, set_other aH]
def Bl (r : Except Int Vl) (w : World) (e : Ending) (w' : World) : Prop := Below w.heap.size w w' ∧ match r with
 | .ok x => ∃ cs : List Value, e = .returned (.tuple #[.agg cs.toArray, .int .i64 0]) ∧ Ah (fun b => w.heap.size ≤ b) w' (valD x) cs
 | .error n => e = .returned (.tuple #[zeroV, .int .i64 n])
theorem res_set {w W : World} {b : Nat} {c0 c1 c2 c3 c4 : Value} (hn : w.heap.size ≤ b) (hb : Below w.heap.size w W) (hr : W.heap[b]? = some (.cells #[c0, c1, c2, c3, c4] 31 (0, 0))) (v0 v1 v2 v3 v4 : Value) :
  (((((W.setCell ⟨b, 0, none⟩ v0).setCell ⟨b, 1, none⟩ v1).setCell ⟨b, 2, none⟩ v2).setCell ⟨b, 3, none⟩ v3).setCell ⟨b, 4, none⟩ v4).heap[b]? = some (.cells #[v0, v1, v2, v3, v4] 31 (0, 0)) ∧
   Below w.heap.size w (((((W.setCell ⟨b, 0, none⟩ v0).setCell ⟨b, 1, none⟩ v1).setCell ⟨b, 2, none⟩ v2).setCell ⟨b, 3, none⟩ v3).setCell ⟨b, 4, none⟩ v4) :=
 ⟨by rw [set_same (set_same (set_same (set_same (set_same hr 0 _) 1 _) 2 _) 3 _) 4]; rfl, ((((hb.setCell (p := ⟨b, 0, none⟩) hn _).setCell (p := ⟨b, 1, none⟩) hn _).setCell (p := ⟨b, 2, none⟩) hn _).setCell (p := ⟨b, 3, none⟩) hn _).setCell (p := ⟨b, 4, none⟩) hn _⟩
def Dr (s : ByteArray) : Vl := .mk 3 0 s [] []
def strC (s : ByteArray) : Value := .agg #[.int .i64 3, .int .i64 0, .string s, .slice none 0 0, .slice none 0 0]
theorem Ah.str (F : Nat → Prop) (w : World) (s : ByteArray) : Ah F w (valD (Dr s)) [.int .i64 3, .int .i64 0, .string s, .slice none 0 0, .slice none 0 0] :=
 Ah.val_mk (l := []) (ks := []) _ _ _ _ _ (Ac.nil _) (Ac.nil _)
theorem Ah.int (F : Nat → Prop) (w : World) (n : Int) : Ah F w (valD (.mk 2 n ⟨#[]⟩ [] [])) [.int .i64 2, .int .i64 n, .string ⟨#[]⟩, .slice none 0 0, .slice none 0 0] :=
 Ah.val_mk (l := []) (ks := []) _ _ _ _ _ (Ac.nil _) (Ac.nil _)
theorem P7 (s : ByteArray) (w : World) : Calls Tryz.prog 130 #[.string s] w (fun e w' => e = .returned (strC s) ∧ Below w.heap.size w w') := by
 go_enter Tryz.func130, Tryz.ntmps130;go_wp2;exact bodyPost_ret (v := strC s) (by simp [strC, results, Tryz.results130, go_sem]) rfl ⟨rfl, ((Below.refl _ w).alloc (nlr _) _)⟩
def Am (s : ByteArray) : Except Int Vl := if 65536 < s.size then .error 6 else .ok (Dr s)
theorem Cm (s : ByteArray) (w : World) (hs : s.size ≤ 9223372036854775807) : Calls Tryz.prog 236 #[.string s] w (Bl (Am s) w) := by
 have aB : Below w.heap.size w (w.alloc (.cells #[.int .i64 0, .int .i64 0, .string ⟨#[]⟩, .slice none 0 0, .slice none 0 0] 31)) := (Below.refl _ w).alloc (nlr _) _;by_cases hl : 65536 < s.size
 ·have Hr : Hid (Am s = .error 6) := Lq7 (by unfold Am; rw [if_pos hl]);have hl' : (65536 : Int) < s.size := (by omega);go_enter Tryz.func236, Tryz.ntmps236;go_wp2_with fail;refine bodyPost_ret (v := .tuple #[zeroV, .int .i64 6]) (by simp [zeroV, results, Tryz.results236, go_sem]) rfl ?_;rw [Hr.out];exact ⟨((Below.refl _ w).alloc (nlr _) _), rfl⟩
 ·have Hr : Hid (Am s = .ok (Dr s)) := Lq7 (by unfold Am; rw [if_neg hl]);have hl' : ¬ (65536 : Int) < s.size := (by omega);have H0 := Lq7 (heap_alloc_new w (.cells #[.int .i64 0, .int .i64 0, .string ⟨#[]⟩, .slice none 0 0, .slice none 0 0] 31));go_enter Tryz.func236, Tryz.ntmps236;go_wp2_with fail;refine (P7 s _).mono ?_;rintro e w1 ⟨rfl, aC⟩;obtain ⟨r0, r1, r2, r3, r4, r5, r6, r7, r8, r9, r10⟩ := five_facts (stays H0.out aC);have Hb1 := Lq7 (aB.trans (aC.mono aB.size));clear aC aB;unfold strC;go_wp2_with fail;refine bodyPost_ret (v := .tuple #[strC s, .int .i64 0]) (by simp [strC, results, Tryz.results236, go_sem, r1, r2, r3, r4, r5]) rfl ?_;rw [Hr.out];refine ⟨((((Hb1.out.setCell (p := ⟨w.heap.size, 0, none⟩) (nlr _) _).setCell (p := ⟨w.heap.size, 1, none⟩) (nlr _) _).setCell (p := ⟨w.heap.size, 2, none⟩) (nlr _) _).setCell (p := ⟨w.heap.size, 3, none⟩) (nlr _) _).setCell (p := ⟨w.heap.size, 4, none⟩) (nlr _) _, _, rfl, Ah.str _ _ s⟩
def B7 (v : Vl) : Except Int Vl := if v.kind = 3 then .ok (.mk 2 v.str.size ⟨#[]⟩ [] []) else if v.kind = 4 ∨ v.kind = 5 then .ok (.mk 2 v.items.length ⟨#[]⟩ [] []) else .error 9
theorem P8 (F : Nat → Prop) (n : Int) (s : ByteArray) (l : List Vl) (ks : List ByteArray) (a : Option Addr) (cap : Nat) (w : World) (hr : Ac F w a (valsD [.mk 4 n s l ks])) (_hl : l.length ≤ 140737488355328) :
  Calls Tryz.prog 225 #[.slice a 1 cap] w (Bl (B7 (.mk 4 n s l ks)) w) := by
 obtain ⟨b, off, a1, c1, a2, c2, rfl, -, hbl, q0, q1, q2, q3, q4, -, -⟩ := hr.val (j := 0) rfl;simp only [nzm, naz] at q0 q1 q2 q3 q4;go_enter Tryz.func225, Tryz.ntmps225;go_wp2_with fail;refine bodyPost_ret (v := .tuple #[.agg #[.int .i64 2, .int .i64 l.length, .string ⟨#[]⟩, .slice none 0 0, .slice none 0 0], .int .i64 0]) (by simp [results, Tryz.results225, go_sem]) rfl ?_;rw [show B7 (.mk 4 n s l ks) = .ok (.mk 2 l.length ⟨#[]⟩ [] []) from rfl];exact ⟨((Below.refl _ w).alloc (nlr _) _).alloc (by simp) _, _, rfl, Ah.int _ _ _⟩
end Go.Proofs.YtcofbdjakicojaaGreatDoor
