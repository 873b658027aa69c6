/-
  The walk of the evaluator's Run over any host, over no names. (Printed by runN_gen.py out of XRunK.)
  The statements' example, read.
  The walk of the statements' example. (Out of XAlive, over any host.)
-/
import Derived.Test.YtcofbdjakicojaaGreatDoorMHostK
import Derived.Test.YtcofbdjakicojaaGreatDoorMCopyE
import Derived.Test.YtcofbdjakicojaaGreatDoorMOwnsN
import Derived.Test.YtcofbdjakicojaaGreatDoorMSix
import Derived.Test.YtcofbdjakicojaaGreatDoorIter
import Derived.Test.YtcofbdjakicojaaGreatDoorMRefNum
namespace Go.Proofs.YtcofbdjakicojaaGreatDoor
open Go Go.RowKit Go.Maps
open List renaming getElem_toArray → lgA, getElem_cons_succ → lgB, getElem_cons_zero → lgC, setIfInBounds_toArray → laA, set_cons_zero → lsA, set_cons_succ → lsB, getElem?_eq_getElem → lgE, take_add_one → ltA, take_of_length_le → ltL, length_map → lnM, getElem?_map → lgP, length_take → lnT
open Nat renaming le_refl → nlr, zero_le → nlz, le_trans → nlt
open Go.Lib renaming hid → Lq7
open Go.Act renaming put → aP
set_option maxRecDepth 100000
set_option maxHeartbeats 16000000
def PRunN (own F : Nat → Prop) (hv : HostK) (r : ER Unit) (w : World) (e : Ending) (w' : World) : Prop := ∃ c', Mv ⟨own, F⟩ w c' w' ∧ match r with
 | .ok _ st => (∃ own' : Nat → Prop, (∀ b, own' b → c'.M b) ∧ hv.At own' c'.F w' st.log) ∧ st.names.length ≤ 1000000 ∧ ∃ a cap, e = .returned (.tuple #[.slice a (Ds st.names).length cap, .int .i64 0, .agg #[.int .i64 0, .int .i64 0]]) ∧ Ac c'.F w' a (Aw (Ds st.names))
 | .err x l k => e = .returned (.tuple #[.slice none 0 0, .int .i64 x, .agg #[.int .i64 l, .int .i64 k]])
 | .out => True
theorem infoNamed : (Tryz.prog.info? 33).map (fun i => (i.zero, i.size, i.bytes)) = some (some (.agg #[.string ByteArray.empty, .int .i64 0, .int .i64 0, .string ByteArray.empty, .slice none 0 0, .slice none 0 0]), 6, 96) := by kernel_rfl
def keysB (m : List (ByteArray × Vl)) : List ByteArray := (sortKeys m).map fun b => ⟨b.toArray⟩
theorem Oa (m : List (ByteArray × Vl)) : (keysB m).length = m.length := by
 simp [keysB, sortKeys]
theorem Vo {m : List (ByteArray × Vl)} {s : ByteArray} (h : s ∈ keysB m) : ∃ q ∈ m, q.1 = s := by
 obtain ⟨b, hb, rfl⟩ := List.mem_map.1 h;have := (List.mergeSort_perm (m.map (·.1.data.toList)) leB).mem_iff.1 hb;obtain ⟨q, hq, rfl⟩ := List.mem_map.1 this;exact ⟨q, hq, by simp⟩
theorem Vp {m : List (ByteArray × Vl)} {j : Nat} {s : ByteArray} (h : (keysB m)[j]? = some s) : (Ds m)[j]? = some (s, (Eb m s).getD vZero) := by
 unfold keysB at h;unfold Ds;rw [lgP] at h ⊢;cases hb : (sortKeys m)[j]? with
 | none => rw [hb] at h; cases h
 | some b => rw [hb] at h; simp only [Option.map_some, Option.some.injEq] at h; subst h; rfl
theorem Vq {w : World} {base : Nat} {v : Value} {ss : List (List UInt8)} {m : List (ByteArray × Vl)} (hp : ss.Perm (m.map (·.1.data.toList))) (h : w.ownsRow base 9 1 v ss.length ((ss.mergeSort (fun x y => decide (x ≤ y))).map Go.Proofs.encStr)) : OwnS w base v (keysB m) := by
 have he : ss.mergeSort (fun x y => decide (x ≤ y)) = sortKeys m := mergeSort_of_perm hp;have hl : ss.length = (keysB m).length := (by rw [Oa, hp.length_eq, lnM]);unfold OwnS;rw [← hl];rw [he] at h;have : (sortKeys m).map Go.Proofs.encStr = (keysB m).map Value.string := (by simp [keysB, List.map_map, Function.comp_def])
 rwa [this] at h
theorem ms_startK {own F : Nat → Prop} (w : World) (o : Obj) (hv : HostK) (n : Int) (hn : n ≤ 1000000 ∧ -1 ≤ n) (hok : (⟨own, F⟩ : Ctx).Ok w) (hat : hv.At own F w []) :
  MS ⟨fun b => own b ∨ b = w.heap.size + 1 ∨ b = w.heap.size + 1 + 1, F⟩ (((w.alloc o).alloc (.map #[] 0)).alloc (.cells #[.map (some (w.heap.size + 1)), hv.val, .int .i64 n] 104)) (w.heap.size + 1 + 1) (w.heap.size + 1) hv ⟨[], n, []⟩ := by
 obtain ⟨h1, h2, h3, h4, h5⟩ := C4 w o (.map #[] 0) (.cells #[.map (some (w.heap.size + 1)), hv.val, .int .i64 n] 104);refine ⟨⟨fun b hb => ?_, fun b hb => ?_, fun b hb h => ?_⟩, h3, .inr (.inr rfl), .inr (.inl rfl), ⟨[], ⟨#[], 0, h2, Go.MapKept.stamped_empty 0, rfl⟩, rfl, fun j p q h => by simp at h⟩, List.nodup_nil, hn, fun q hq => (by cases hq), own, fun b hb => ⟨.inl hb, ?_, ?_⟩, hv.stab hat (fun _ h => h) h4.size (fun b _ hl => h4.block b hl)⟩
 ·rw [h5];rcases hb with hb | rfl | rfl
  ·have := hok.ml b hb; omega
  ·omega
  ·omega
 ·have := hok.fl b hb; omega
 ·have := hok.fl b hb;rcases h with h | h | h
  ·exact hok.apart b hb h
  ·omega
  ·omega
 ·have := hok.ml b hb; omega
 ·have := hok.ml b hb; omega
theorem runN_any {hv : HostK} {fn : Nat} {rv : Value} (hdo : ∀ mp mb, Pz fn rv mp mb hv) (hin : HInv fn rv hv) (ha : Kg hv.ans) (own F : Nat → Prop) (f : Nat) (G : Nat → Prop) (l : List Nd) (a : Option Addr) (cap : Nat) (n : Int) (w : World) (hok : (⟨own, F⟩ : Ctx).Ok w) (te : TypeId) (pe : Value) (hvi : hv.val = .iface te pe) (hat : hv.At own F w []) (hGo : ∀ b, G b → ¬ own b) (hn : n ≤ 1000000 ∧ -1 ≤ n) (hG : ∀ b, G b → b < w.heap.size) (hr : Ac G w a (nodesD l)) (hsn : smallNs l) (hlen : l.length ≤ 1000000)
  (hne : eRun hv.ans f l n ≠ .out) (hfl : ∀ st, eRun hv.ans f l n = .ok () st → st.names.length ≤ 1000000) :
  Calls Tryz.prog 18 #[.slice a l.length cap, .slice none 0 0, .iface te pe, .int .i64 n] w (PRunN own F hv (eRun hv.ans f l n) w) := by
 have hmm := @run_makeMap Tryz.prog;obtain ⟨h1, h2, h3, h4, h5⟩ := C4 w (.cells #[.int .i64 0, .int .i64 0] 24) (.map #[] 0) (.cells #[.map (some (w.heap.size + 1)), .iface te pe, .int .i64 n] 104);have H0 := Lq7 (And.intro (hvi ▸ ms_startK w (.cells #[.int .i64 0, .int .i64 0] 24) hv n hn hok hat) (And.intro h1 (And.intro (hr.below h4) h4)));have cB : Mv ⟨own, F⟩ w ⟨fun b => own b ∨ b = w.heap.size + 1 ∨ b = w.heap.size + 1 + 1, F⟩ (((w.alloc (.cells #[.int .i64 0, .int .i64 0] 24)).alloc (.map #[] 0)).alloc (.cells #[.map (some (w.heap.size + 1)), .iface te pe, .int .i64 n] 104)) :=
  ⟨h4.os, h4.tape, h4.output, h4.size, fun b hb _ => h4.block b hb, fun b hb => by
   rcases hb with hb | rfl | rfl
   ·exact .inl hb
   ·exact .inr (by omega)
   ·exact .inr (by omega), fun b hb => .inl hb⟩
 have cC := Lq7 cB;have bN : Hid (¬ (own w.heap.size ∨ w.heap.size = w.heap.size + 1 ∨ w.heap.size = w.heap.size + 1 + 1) ∧ ¬ F w.heap.size) := Lq7 ⟨fun h => by
  rcases h with h | h | h
  ·exact absurd (hok.ml _ h) (Nat.lt_irrefl _)
  ·omega
  ·omega, fun h => absurd (hok.fl _ h) (Nat.lt_irrefl _)⟩
 have Hdo := Lq7 hdo;have Hin := Lq7 hin;have bO := Lq7 ha;have HGo := Lq7 hGo;clear cB hok hat hdo hin ha hGo;have cE := Lq7 hne;have Hfl := Lq7 hfl;have Hsn := Lq7 hsn;have HG := Lq7 hG;clear hne hfl hsn hG hr h1 h2 h3 h4 h5 hn;go_enter Tryz.func18, Tryz.ntmps18;go_wp2_with fail;generalize World.alloc _ _ = W0 at H0 cC ⊢
 go_loopw [25] (fun i wr => i = .int .i64 0 ∧ wr = W0) (fun _ _ => 0)
 case atStart => exact ⟨rfl, rfl⟩
 case round =>
  obtain ⟨rfl, hwr⟩ := hrel;subst hwr;have Hc := Lq7 (Lz (mp := w.heap.size + 1 + 1) (mb := w.heap.size + 1) (hv := hv) (ENz.stmts bO.out f) (Iv (Hdo.out _ _) Hin.out bO.out f) G _ wr _ l a cap H0.out.1 (fun b hb => ⟨by have := HG.out b hb; have := H0.out.2.2.2.size; omega, fun h => by
   have := HG.out b hb;rcases h with h | h | h
   ·exact HGo.out b hb h
   ·omega
   ·omega⟩) H0.out.2.2.1 Hsn.out hlen cE.out)
  unfold ptr at Hc;go_wp2_with fail;refine Hc.out.mono ?_;rintro e w1 ⟨c', aX, hq⟩;have cF : w1.heap[w.heap.size]? = some (.cells #[.int .i64 0, .int .i64 0] 24 (0, 0)) := (aX.block _ (here H0.out.2.1) bN.out.1).trans H0.out.2.1;have cG := cC.out.trans aX;have cH : ¬ c'.M w.heap.size ∧ ¬ c'.F w.heap.size := ⟨fun h => by
   rcases aX.m _ h with h1 | h1
   ·exact bN.out.1 h1
   ·have := here H0.out.2.1; omega, fun h => by
   rcases aX.f _ h with h1 | h1
   ·exact bN.out.2 h1
   ·have := here H0.out.2.1; omega⟩
  have H1 := Lq7 (And.intro cF cG);have bP := Lq7 cH;clear cF cG cH Hc;have aY : eRun hv.ans f l n = Cd (Jr hv.ans f) l ⟨[], n, []⟩ := rfl;cases hres : Cd (Jr hv.ans f) l ⟨[], n, []⟩ with
  | out => exact absurd (aY.trans hres) cE.out
  | err x y z =>
   rw [hres] at hq;obtain rfl := hq;have hxz := ENz.block (ENz.stmts bO.out f) l _ _ _ _ hres;have hxz' : (x == 0) = false := (by simpa using hxz);have aV := Lq7 (aY.trans hres);clear hres aY aX H0;unfold faultV
   go_upto_region 9 with fail
   have bQ : Below w1.heap.size w1 (w1.alloc (.cells #[.int .i64 x, .int .i64 y, .int .i64 z] 106)) := (Below.refl _ w1).alloc (nlr _) _;have H2 := Lq7 (And.intro (stays H1.out.1 bQ) (And.intro (heap_alloc_new w1 (.cells #[.int .i64 x, .int .i64 y, .int .i64 z] 106)) (H1.out.2.below bQ)));have hfb : w.heap.size < w1.heap.size := here H1.out.1;generalize World.alloc _ _ = W at H2 ⊢;generalize w1.heap.size = fb at H2 hfb ⊢;clear bQ H1;refine Ae (.s 0 (.s 1 (.s 2 (.s 3 (.s 4 (.s 5 (.h 6 .nil))))))) 6 (fun W' => W'.heap[fb]? = some (.cells #[.int .i64 x, .int .i64 y, .int .i64 z] 106 (0, 0))) (by kernel_rfl) (by kernel_rfl) (fun c a d v w h => by cases d <;> exact h) H2.out.2.1 ?_
   have bR : Below W.heap.size W W.drew := (Below.refl _ W).drew;have H3 := Lq7 (And.intro (stays H2.out.1 bR) (H2.out.2.2.below bR));generalize W.drew = Wd at H3 ⊢;clear bR H2;refine Aa (.pointer (some ⟨fb, 0, none⟩)) rfl rfl (fun W' hS => ?_) ?_
   ·go_simp
   (try simp only [lgA, lgC, aP, laA, lsA, lsB]);refine Aa (.int .i64 x) rfl rfl (fun W' hS => ?_) ?_
   ·obtain ⟨s0, s1, s2, s3, s4, s5, s6⟩ := Ag hS;clear hS;go_simp
   (try simp only [lgA, lgB, lgC, aP, laA, lsA, lsB]);refine Aa (.pointer (some ⟨fb, 1, none⟩)) rfl rfl (fun W' hS => ?_) ?_
   ·go_simp
   (try simp only [lgA, lgB, lgC, aP, laA, lsA, lsB]);refine Aa (.agg #[.int .i64 y, .int .i64 z]) rfl rfl (fun W' hS => ?_) ?_
   ·obtain ⟨s0, s1, s2, s3, s4, s5, s6⟩ := Ag hS;clear hS;go_simp
   (try simp only [lgA, lgB, lgC, aP, laA, lsA, lsB]);refine Aa (.slice none 0 0) rfl rfl (fun W' hS => ?_) ?_
   ·go_simp
   (try simp only [lgA, lgB, lgC, aP, laA, lsA, lsB]);refine Aa (.int .i64 x) rfl rfl (fun W' hS => ?_) ?_
   ·go_simp
   (try simp only [lgA, lgB, lgC, aP, laA, lsA, lsB]);obtain ⟨q0, q1, q2, q3, q4⟩ := Ap H3.out.1;refine Ad rfl (fun Kx cI => ?_);go_wp2_with fail;have H4 := Lq7 ((H3.out.2.set (.inl (nlr _)) 0 (.int .i64 y)).set (.inl (nlr _)) 1 (.int .i64 z));have h5 : ((Wd.setCell ⟨w.heap.size, 0, none⟩ (.int .i64 y)).setCell ⟨w.heap.size, 1, none⟩ (.int .i64 z)).heap[w.heap.size]? = some (.cells #[.int .i64 y, .int .i64 z] 24 (0, 0)) := (by rw [set_same (set_same H3.out.1 0 _) 1]; rfl);refine cI _ _ (fun h => absurd rfl h) ?_;generalize World.setCell _ _ _ = W5 at H4 h5 ⊢;clear q0 q1 q2 q3 q4 cI H3;refine Ak ?_;(try simp only [lgA, lgB, lgC, aP, laA, lsA, lsB]);obtain ⟨q0, q1, q2, q3, q4⟩ := Ap h5;go_wp2_with fail;refine bodyPost_ret (v := .tuple #[.slice none 0 0, .int .i64 x, .agg #[.int .i64 y, .int .i64 z]]) (by simp [results, Tryz.results18, go_sem, q1, q2]) rfl ?_;rw [aV.out];exact ⟨c', H4.out, rfl⟩
  | ok u st =>
   rw [hres] at hq;obtain ⟨cJ, v, rfl, hv⟩ := hq;obtain rfl : v = faultV 0 0 0 := hv;have aV := Lq7 (aY.trans hres);have Hfl' := Lq7 (Hfl.out st (aY.trans hres));have bS := Lq7 cJ;clear hres aY aX H0 cJ;unfold faultV;have bH : Below w1.heap.size w1 (w1.alloc (.cells #[.int .i64 0, .int .i64 0, .int .i64 0] 106)) := (Below.refl _ w1).alloc (nlr _) _;have H2 := Lq7 (And.intro (bS.out.below bH) (And.intro (stays H1.out.1 bH) (H1.out.2.below bH)));obtain ⟨q0, q1, q2, q3, q4, q5, q6⟩ := Ag bS.out.head;clear bH;go_wp2_with fail;generalize World.alloc _ _ = W at H2 ⊢;clear q0 q1 q2 q3 q4 q5 q6 H1 bS;have cM := Hfl'.out;obtain ⟨D, hown, aI, aB⟩ := H2.out.1.owns (by omega);refine ((callsIn_wide (n := 5)).1 (Tryz.maps_Keys_46 (some (w.heap.size + 1)) W)).mono ?_;rintro e w2 ⟨rfl, hw2⟩;subst hw2;have HS := Lq7 ((callsIn_wide (n := 5)).1 (Tryz.slices_Sorted_keys_45_46 (w.heap.size + 1) _ D anyElem W hown (by rw [aB]; unfold maxLen; omega) (by rw [aB]; omega)));have aJ := Lq7 aI;have bI : Below W.heap.size W (W.alloc (.cells #[.map (some (w.heap.size + 1))] 102)) := (Below.refl _ W).alloc (nlr _) _;have H3 := Lq7 (And.intro (H2.out.1.below bI) (And.intro (stays H2.out.2.1 bI) (H2.out.2.2.below bI)));clear hown aI aB bI H2;go_wp2_with fail;refine HS.out.mono ?_;rintro e w3 ⟨v, ss, rfl, hS, aC, -, bJ⟩;have hK := Vq (hS.trans aJ.out) aC;obtain ⟨aK, cK, rfl, cN, -⟩ := hK.strsAt;have Hst := Lq7 cN;have H4 := Lq7 (And.intro (H3.out.1.below bJ) (And.intro (stays H3.out.2.1 bJ) (H3.out.2.2.below bJ)));have hkl : (keysB st.names).length ≤ 1000000 := (by rw [Oa]; exact cM);clear hS aC bJ hK cN H3 HS aJ;obtain ⟨i0, hi, hz0, hz1, hz2⟩ := info_parts infoNamed;go_wp2_with fail
   go_loopw [15, 55] (fun v i wr => ∃ j : Nat, i = .int .i64 j ∧ j ≤ (keysB st.names).length ∧ Hid (OwnD (fun b => c'.F b ∨ w3.heap.size ≤ b) wr w3.heap.size 33 6 v (Aw ((Ds st.names).take j))) ∧ Hid (Below w3.heap.size w3 wr)) (fun _ i _ => (keysB st.names).length - (intOf i).toNat)
   case atStart => exact ⟨0, rfl, nlz _, Lq7 (OwnD.nil _ _ _ _ _), Lq7 (Below.refl _ _)⟩
   case round =>
    obtain ⟨j, rfl, hj, hown, aE⟩ := hrel;have Hm := Lq7 (H4.out.1.below aE.out);obtain ⟨q0, q1, q2, q3, q4, q5, q6⟩ := Ag Hm.out.head;by_cases hlt : j < (keysB st.names).length
    ·have bL : (keysB st.names)[j]? = some (keysB st.names)[j] := lgE hlt;obtain ⟨q, hq, cP⟩ := Vo (List.getElem_mem hlt);obtain ⟨bK, oK, hak, hck⟩ := (Hst.out.below aE.out) j _ bL;subst hak;have bM := Vp bL;generalize (keysB st.names)[j] = sn at bL cP hck bM;subst cP;obtain ⟨cs, cQ, cR, hlook⟩ := Hm.out.look1 hq;have aZ := Hm.out.few q hq;obtain ⟨nm, vk, vn, vs, vl, vks⟩ := q;obtain ⟨a1, c1, a2, c2, rfl, cU, cV⟩ := cR.val;rw [cQ, Option.getD_some] at bM;have Htk : Hid (Aw ((Ds st.names).take (j + 1)) = Aw ((Ds st.names).take j) ++ [D8 (nm, .mk vk vn vs vl vks)]) := Lq7 (by rw [ltA, bM, G0]; rfl);have bU : (Aw ((Ds st.names).take j)).length = j := (by rw [Gz, lnT, Ns]; have : (sortKeys st.names).length = (keysB st.names).length := (by simp [keysB]); omega)
     obtain ⟨aO, cO, hO, -⟩ := (hown.out.keep (F := fun b => c'.F b ∨ w3.heap.size ≤ b) (fun _ _ _ => rfl) (nlr _)).rowAt (fun g hg => .inr (hown.out.block_lt hg).1);rw [bU] at hO;subst hO;have bV := Lq7 (Pn _ aZ.1 c'.F a1 c1 a2 c2 wr (fun b hb => Hm.out.ok.fl b hb) cU cV);simp only [Vl.kind, Vl.num, Vl.str, Vl.items, Vl.keys] at bV;have cW := Lq7 (fun b (hb : c'.F b) => H4.out.1.ok.fl b hb);clear bM cQ cR bL hq aZ cU cV;go_wp2_with fail;refine bV.out.mono ?_;rintro e w4 ⟨bA, cs4, rfl, bB⟩;obtain ⟨x1, y1, x2, y2, rfl, cX, cY⟩ := bB.val;have bC : Below w4.heap.size w4 (w4.alloc (.cells #[.string nm, .int .i64 vk, .int .i64 vn, .string vs, .slice x1 vl.length y1, .slice x2 vks.length y2] 33)) := (Below.refl _ w4).alloc (nlr _) _;have aM := Lq7 ((hown.out.below bA).below bC);have aW := Lq7 (aE.out.trans ((bA.trans (bC.mono bA.size)).mono aE.out.size));have aN := Er w4 [.string nm, .int .i64 vk, .int .i64 vn, .string vs, .slice x1 vl.length y1, .slice x2 vks.length y2] 33;have aQ := Lq7 aN;have aF : ∀ b, (c'.F b ∨ wr.heap.size ≤ b) → b < w4.heap.size → ((c'.F b ∨ w3.heap.size ≤ b) ∧ (Value.slice aO j cO).ownBlock ≠ some b) ∧ b < w4.heap.size ∧ w4.heap[b]? = w4.heap[b]? := fun b hb hl =>
      ⟨⟨hb.imp id (fun h => nlt aE.out.size h), fun hg => by
       have h9 := hown.out.block_lt hg;rcases hb with hb | hb
       ·have := cW.out b hb; omega
       ·omega⟩, hl, rfl⟩
     have cZ : Hid (Ah (fun b => (c'.F b ∨ w3.heap.size ≤ b) ∧ (Value.slice aO j cO).ownBlock ≠ some b) (w4.alloc (.cells #[.string nm, .int .i64 vk, .int .i64 vn, .string vs, .slice x1 vl.length y1, .slice x2 vks.length y2] 33)) (D8 (nm, .mk vk vn vs vl vks)) [.string nm, .int .i64 vk, .int .i64 vn, .string vs, .slice x1 vl.length y1, .slice x2 vks.length y2]) := Lq7 (Ah.named_mk nm vk vn vs y1 y2 ((cX.mono aF).below bC) ((cY.mono aF).below bC));have bW : w3.heap.size ≤ w4.heap.size := nlt aE.out.size bA.size;have bD : Hid (∀ g, (Value.slice aO j cO).ownBlock = some g → w3.heap.size ≤ g) := Lq7 (fun g hg => (hown.out.block_lt hg).1);clear bC bA aN hown aE Hm cX cY bB bV aF cW
     go_wp2_with (at_builtin; refine A6 rfl _ _ 22 rfl w3.heap.size 33 i0 _ 6 96 Tryz.underlying22 hi hz0 hz1 hz2 rfl (by decide) (.slice aO j cO) (fun b => c'.F b ∨ w3.heap.size ≤ b) (Aw ((Ds st.names).take j)) rfl aM.out ⟨w4.heap.size, 0, none⟩ 1 (D8 (nm, .mk vk vn vs vl vks)) [.string nm, .int .i64 vk, .int .i64 vn, .string vs, .slice x1 vl.length y1, .slice x2 vks.length y2] rfl rfl aQ.out ?_ cZ.out ?_ ?_ ?_ ?_)
     ·simp [Value.oneCell']
     ·rw [bU]; unfold maxLen; omega
     ·rw [bU]; omega
     ·simp; omega
     intro v5 w5 aR aG _;have aH : Hid (OwnD (fun b => c'.F b ∨ w3.heap.size ≤ b) w5 w3.heap.size 33 6 v5 (Aw ((Ds st.names).take (j + 1)))) := Lq7 (by rw [Htk.out]; exact aR);have bX : Hid (Below w3.heap.size w3 w5) := Lq7 (aW.out.trans (A9 aG bD.out aW.out.size));obtain ⟨aO5, cO5, hO5, -⟩ := aH.out.rowAt (fun g hg => .inr (aH.out.block_lt hg).1);subst hO5;clear aR aG aM aW aQ cZ bD bW q0 q1 q2 q3 q4 q5 q6;go_wp2_with fail;go_roundw
     case rel => exact ⟨j + 1, by go_num, by omega, aH, bX⟩
     case measure => simp only [intOf]; omega
    ·have dA : (Ds st.names).take j = Ds st.names := ltL (by rw [Ns]; have : (sortKeys st.names).length = (keysB st.names).length := (by simp [keysB]); omega)
     rw [dA] at hown;obtain ⟨aO, cO, hO, aC⟩ := hown.out.rowAt (fun g hg => .inr (hown.out.block_lt hg).1);subst hO;have bY := Lq7 aC;have dB := Lq7 (stays H4.out.2.1 aE.out);have bZ : Hid (w3.heap.size ≤ wr.heap.size ∧ w.heap.size < w3.heap.size) := Lq7 ⟨aE.out.size, here H4.out.2.1⟩;have Hmv := Lq7 (H4.out.2.2.below aE.out);obtain ⟨r0, r1, r2, r3, r4⟩ := Ap dB.out;clear dA hown aC aE q0 q1 q2 q3 q4 q5 q6;go_wp2_with fail;have bE := Lq7 (((Hmv.out.with (g := fun b => w3.heap.size ≤ b ∧ b < wr.heap.size) (fun b hb => by have := bZ.out; omega)).set (.inl (nlr _)) 0 (.int .i64 0)).set (.inl (nlr _)) 1 (.int .i64 0));have bF : ((wr.setCell ⟨w.heap.size, 0, none⟩ (.int .i64 0)).setCell ⟨w.heap.size, 1, none⟩ (.int .i64 0)).heap[w.heap.size]? = some (.cells #[.int .i64 0, .int .i64 0] 24 (0, 0)) := (by rw [set_same (set_same dB.out 0 _) 1]; rfl);have bG := Lq7 ((Hm.out.with (g := fun b => w3.heap.size ≤ b ∧ b < wr.heap.size) (fun b hb => ⟨hb.2, fun h => by have := H4.out.1.ok.ml b h; omega⟩)).other (w' := (wr.setCell ⟨w.heap.size, 0, none⟩ (.int .i64 0)).setCell ⟨w.heap.size, 1, none⟩ (.int .i64 0)) (by simp) (fun b _ hMF => by
      have hne : b ≠ w.heap.size := fun e => by
       subst e;rcases hMF with h1 | h1 | h1
       ·exact bP.out.1 h1
       ·exact bP.out.2 h1
       ·have := bZ.out; omega
      rw [set_other hne, set_other hne]))
     have aU : Hid (Ac (c'.with (fun b => w3.heap.size ≤ b ∧ b < wr.heap.size)).F ((wr.setCell ⟨w.heap.size, 0, none⟩ (.int .i64 0)).setCell ⟨w.heap.size, 1, none⟩ (.int .i64 0)) aO (Aw (Ds st.names))) := Lq7 (bY.out.mono fun b hb hl => by
      have hne : b ≠ w.heap.size := fun e => by
       subst e;rcases hb with h1 | h1
       ·exact bP.out.2 h1
       ·have := bZ.out; omega
      exact ⟨hb.imp id (fun h => ⟨h, hl⟩), by simpa using hl, by rw [set_other hne, set_other hne]⟩)
     generalize World.setCell _ _ _ = W6 at bE bF bG aU ⊢;obtain ⟨p0, p1, p2, p3, p4⟩ := Ap bF;refine bodyPost_ret (v := .tuple #[.slice aO (Aw (Ds st.names)).length cO, .int .i64 0, .agg #[.int .i64 0, .int .i64 0]]) (by simp [results, Tryz.results18, go_sem, p1, p2]) rfl ?_;rw [aV.out];obtain ⟨own', ho, hh⟩ := bG.out.host;exact ⟨_, bE.out, ⟨own', fun b hb => (ho b hb).1, hh⟩, cM, aO, cO, by rw [Gz], aU.out⟩
end Go.Proofs.YtcofbdjakicojaaGreatDoor
namespace Go.Proofs.YtcofbdjakicojaaGreatDoor
open Go Go.RowKit
open Nat renaming le_refl → nlr, lt_of_lt_of_le → nll
open Go.Lib renaming hid → Lq7
set_option maxRecDepth 100000
set_option maxHeartbeats 16000000
def plainV : Value := .iface 66 (.agg #[])
theorem Il (w : World) : Calls Tryz.prog 8 #[] w (fun e w' => e = .returned plainV ∧ Below w.heap.size w w') := by
 go_enter Tryz.func8, Tryz.ntmps8;go_wp2_with fail;exact bodyPost_ret (v := plainV) (by simp [plainV, results, Tryz.results8, go_sem]) rfl ⟨rfl, Below.refl _ _⟩
theorem alive_sort : Ds [(⟨#[120]⟩, intV 6), (⟨#[105]⟩, intV 3)] = [(⟨#[105]⟩, intV 3), (⟨#[120]⟩, intV 6)] := by
 have h : sortKeys [(⟨#[120]⟩, intV 6), (⟨#[105]⟩, intV 3)] = [[105], [120]] := by
  unfold sortKeys;have hp : ([[120], [105]] : List (List UInt8)).Perm [[105], [120]] := List.Perm.swap _ _ _;have h2 : ([[120], [105]] : List (List UInt8)).mergeSort leB = [[105], [120]] := by
   rw [mergeSort_of_perm hp];exact List.mergeSort_of_pairwise (by decide)
  exact h2
 unfold Ds;rw [h];rfl
theorem alive_ne : Gp aliveText.data.toList ≠ none := by rw [alive_read]; exact fun h => by cases h
theorem Tr (w : World) (hw : Jc w) : Calls Tryz.prog 17 #[.string ⟨#[120, 32, 61, 32, 49, 59, 32, 102, 111, 114, 32, 105, 32, 105, 110, 32, 91, 50, 44, 32, 51, 93, 32, 123, 32, 120, 32, 61, 32, 120, 32, 43, 32, 105, 59, 32, 125]⟩] w
  (fun e w' => Below w.heap.size w w' ∧ ∃ a cap, e = .returned (.tuple #[.agg #[.int .i64 1, .string ⟨#[]⟩, .int .i64 1, .int .i64 1, .slice a 2 cap], .int .i64 0, .agg #[.int .i64 0, .int .i64 0]]) ∧ Ac (fun b => w.heap.size ≤ b) w' a (nodesD aliveKids)) := by
 have h := read_any aliveText w (show (37 : Nat) ≤ _ by decide) hw alive_ne;refine h.mono ?_;intro e w' hq;unfold PRead at hq;rw [alive_read] at hq;obtain ⟨hb, v, rfl, hv⟩ := hq;obtain ⟨a, cap, rfl, hr⟩ := hv.open;exact ⟨hb, a, cap, rfl, hr⟩
def muteK : HostK := Rq (fun _ _ => none)
def stdF (b : Nat) : Prop := b = 3 ∨ b = 0
theorem Tm (mp mb : Nat) : Pz 223 (.agg #[]) mp mb muteK := fun _c _w _st _q _a _cap _ _ _ h => absurd rfl h
theorem mute_nz : Kg muteK.ans := fun log q y h => by cases h
theorem Tn {w : World} (h : StdB w) : 0 < w.heap.size := by
 obtain ⟨m, hm⟩ := h;exact block_of_cell hm
theorem Mv.all {F : Nat → Prop} {c' : Ctx} {w w' : World} (h : Mv ⟨fun _ => False, F⟩ w c' w') : Below w.heap.size w w' := ⟨h.os, h.tape, h.output, h.size, fun b hb => h.block b hb (fun h => h)⟩
theorem Pi (n : Int) (hn : n ≤ 1000000 ∧ -1 ≤ n) (hne : ∀ ans, eRun ans 8 aliveKids n ≠ .out) (hfl : ∀ ans st, eRun ans 8 aliveKids n = .ok () st → st.names.length ≤ 1000000) (a : Option Addr) (cap : Nat) (w : World) (hT : Dq w) (hB : StdB w) (hr : Ac (fun b => b < w.heap.size) w a (nodesD aliveKids)) :
  Calls Tryz.prog 18 #[.slice a 2 cap, .slice none 0 0, .iface 66 (.agg #[]), .int .i64 n] w (PRunN (fun _ => False) stdF muteK (eRun muteK.ans 8 aliveKids n) w) :=
 runN_any Tm (Ue _) mute_nz (fun _ => False) stdF 8 (fun b => b < w.heap.size) aliveKids a cap n w ⟨fun _ h => h.elim, fun b hb => by
  rcases hb with rfl | rfl
  ·exact hT.here
  ·exact Tn hB, fun _ _ h => h⟩ 66 (.agg #[]) rfl ⟨hT, hB, .inl rfl, .inr rfl⟩ (fun _ _ h => h) hn (fun _ h => h) hr alive_small (by decide) (hne _) (hfl _)
theorem To (a : Option Addr) (cap : Nat) (w : World) (hT : Dq w) (hB : StdB w) (hr : Ac (fun b => b < w.heap.size) w a (nodesD aliveKids)) :
  Calls Tryz.prog 18 #[.slice a 2 cap, .slice none 0 0, .iface 66 (.agg #[]), .int .i64 14] w (fun e w' => Below w.heap.size w w' ∧ ∃ b off c1, e = .returned (.tuple #[.slice (some ⟨b, off, none⟩) 2 c1, .int .i64 0, .agg #[.int .i64 0, .int .i64 0]]) ∧
   w'.cell? ⟨b, off + 6, none⟩ = some (.string ⟨#[120]⟩) ∧ w'.cell? ⟨b, off + 6 + 2, none⟩ = some (.int .i64 6)) := by
 refine (Pi 14 (by omega) (fun ans => by rw [Lj]; exact fun h => by cases h) (fun ans st h => by rw [Lj] at h; cases h; exact (by decide : 2 ≤ 1000000)) a cap w hT hB hr).mono ?_;intro e w' hq;unfold PRunN at hq;rw [Lj] at hq;obtain ⟨c', aI, -, -, a1, c1, he, aB⟩ := hq;simp only [alive_sort] at he aB;obtain ⟨b, off, x1, y1, x2, y2, rfl, -, -, q0, q1, q2, -⟩ := aB.named (j := 1) (nm := ⟨#[120]⟩) (k := 2) (n := 6) (s := ⟨#[]⟩) (m := []) (ks := []) rfl;exact ⟨aI.all, b, off, c1, he, by simpa using q0, by simpa using q2⟩
theorem Tp (a : Option Addr) (cap : Nat) (w : World) (hT : Dq w) (hB : StdB w) (hr : Ac (fun b => b < w.heap.size) w a (nodesD aliveKids)) :
  Calls Tryz.prog 18 #[.slice a 2 cap, .slice none 0 0, .iface 66 (.agg #[]), .int .i64 13] w (fun e w' => Below w.heap.size w w' ∧ e = .returned (.tuple #[.slice none 0 0, .int .i64 12, .agg #[.int .i64 1, .int .i64 34]])) := by
 refine (Pi 13 (by omega) (fun ans => by rw [Lk]; exact fun h => by cases h) (fun ans st h => by rw [Lk] at h; cases h) a cap w hT hB hr).mono ?_;intro e w' hq;unfold PRunN at hq;rw [Lk] at hq;obtain ⟨c', aI, he⟩ := hq;exact ⟨aI.all, he⟩
theorem Tq (w : World) (hw : Jc w) (hT : Dq w) (hB : StdB w) : Calls Tryz.prog 5 #[] w (fun e w' => e = .returned (.bool true) ∧ Below w.heap.size w w') := by
 have aR := Lq7 (Tr w hw);have HT := Lq7 hT;have HB := Lq7 hB;clear hw hT hB;go_enter Tryz.func5, Tryz.ntmps5;go_wp2_with fail;refine aR.out.mono ?_;rintro e w1 ⟨aF, a, cap, rfl, aB⟩;have aJ := Lq7 (aB.here);have Hb1 := Lq7 aF;obtain ⟨n1, n2, n3, n4⟩ := F2 w1 (.cells #[.int .i64 1, .string ⟨#[]⟩, .int .i64 1, .int .i64 1, .slice a 2 cap] 59) (.cells #[.int .i64 0, .int .i64 0] 24);have H2 := Lq7 (And.intro n1 (And.intro (aB.here.below n3) (aF.trans (n3.mono aF.size))));clear aF aB aR Hb1 aJ n1 n2 n3 n4;go_wp2_with fail;generalize World.alloc _ _ = W2 at H2 ⊢;refine (Il _).mono ?_;rintro e w3 ⟨rfl, aG⟩;have H3 := Lq7 (And.intro (stays H2.out.1 aG) (And.intro (H2.out.2.1.below aG) (H2.out.2.2.trans (aG.mono H2.out.2.2.size))));clear aG H2;obtain ⟨q0, q1, q2, q3, q4, q5, q6, q7, q8, q9, aM⟩ := five_facts H3.out.1;have hbx := here H3.out.1;unfold plainV;go_wp2_with fail;refine (To a cap _ (HT.out.below H3.out.2.2) (HB.out.below H3.out.2.2) (H3.out.2.1.mono fun b hb hl => ⟨hl, hl, rfl⟩)).mono ?_;rintro e w4 ⟨aC, bx, off, cx, rfl, aN, aQ⟩;have aE : Below w4.heap.size w4 (w4.alloc (.cells #[.int .i64 0, .int .i64 0] 24)) := (Below.refl _ w4).alloc (nlr _) _;have H4 := Lq7 (And.intro (stays (stays H3.out.1 aC) aE) (And.intro ((H3.out.2.1.below aC).below aE) ((H3.out.2.2.trans (aC.mono H3.out.2.2.size)).trans (aE.mono (H3.out.2.2.trans (aC.mono H3.out.2.2.size)).size))));have Hx : Hid ((w4.alloc (.cells #[.int .i64 0, .int .i64 0] 24)).cell? ⟨bx, off + 6, none⟩ = some (.string ⟨#[120]⟩) ∧ (w4.alloc (.cells #[.int .i64 0, .int .i64 0] 24)).cell? ⟨bx, off + 6 + 2, none⟩ = some (.int .i64 6)) := Lq7 ⟨(aE.cell (p := ⟨bx, off + 6, none⟩) (block_of_cell aN)).trans aN, (aE.cell (p := ⟨bx, off + 6 + 2, none⟩) (block_of_cell aQ)).trans aQ⟩;have hsz4 : w1.heap.size < w4.heap.size := nll hbx aC.size;have h4 := stays H3.out.1 aC;have H44 := Lq7 h4;clear aC aE aN aQ H3 q0 q1 q2 q3 q4 q5 q6 q7 q8 q9 aM;obtain ⟨q0, q1, q2, q3, q4, q5, q6, q7, q8, q9, aM⟩ := five_facts h4;go_wp2_with fail;generalize World.alloc _ _ = W5 at H4 Hx ⊢;clear q0 q1 q2 q3 q4 q5 q6 q7 q8 q9 aM h4 H44;refine (Tp a cap _ (HT.out.below H4.out.2.2) (HB.out.below H4.out.2.2) (H4.out.2.1.mono fun b hb hl => ⟨hl, hl, rfl⟩)).mono ?_;rintro e w6 ⟨aH, rfl⟩;have x0 := (aH.cell (p := ⟨bx, off + 6, none⟩) (block_of_cell Hx.out.1)).trans Hx.out.1;have x1 := (aH.cell (p := ⟨bx, off + 6 + 2, none⟩) (block_of_cell Hx.out.2)).trans Hx.out.2;have hbx6 := block_of_cell x0;have x2 : w6.cell? ⟨bx, off + 6 + 1 + 1, none⟩ = some (.int .i64 6) := x1;have aU := Lq7 (H4.out.2.2.trans (aH.mono H4.out.2.2.size));clear aH Hx H4;go_wp2_with fail;exact bodyPost_ret (v := .bool true) (by simp [results, Tryz.results5, go_sem]) rfl ⟨rfl, aU.out.alloc aU.out.size _⟩
end Go.Proofs.YtcofbdjakicojaaGreatDoor
