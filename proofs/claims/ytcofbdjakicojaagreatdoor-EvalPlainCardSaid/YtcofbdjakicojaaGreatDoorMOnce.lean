/-
  The walk of (*strings.Replacer).build at the six texts that lex.Quote hands it.
  The walks of sync.Once's Do, the first time, at a Replacer: buildOnce is called, within the lock; what it leaves. (After the kit's worked Lazy texts. Type #335: the pointer to internal/sync.Mutex; its number hangs on the seat, for two types bear one name.)
-/
import Derived.Deep.WholeRow
import Derived.Lib.ConvBytes
import Derived.Laws.IdiomStrings
import Derived.Defers
import Derived.Laws.Pointers
import Derived.Laws.LoneSync
import Derived.RegionTactic
import Derived.RegionCalls
import Derived.Test.YtcofbdjakicojaaGreatDoorMSix
namespace Go.Proofs.YtcofbdjakicojaaGreatDoor
open Go Go.RowKit
open List renaming getElem_cons_succ → lgB, getElem_cons_zero → lgC
open Nat renaming le_refl → nlr, le_trans → nlt
open Go.Lib renaming hid → Lq7
set_option maxRecDepth 100000
set_option maxHeartbeats 16000000
def quoteOld : List ByteArray := [⟨#[34]⟩, ⟨#[92, 34]⟩, ⟨#[92]⟩, ⟨#[92, 92]⟩, ⟨#[10]⟩, ⟨#[92, 110]⟩]
def RB (w : World) (b : Nat) (x0 x1 : Int) (x3 x4 : Value) : Prop := w.heap[b]? = some (.cells #[.int .u32 x0, .int .i32 x1, .int .u32 0, x3, x4] 298 (0, 0))
theorem Ji (w : World) (e : TypeId) (s : ByteArray) : Below w.heap.size w (Lib.bytesWorld w e s) := by
 unfold Lib.bytesWorld World.freeze;rw [if_neg (by omega)];have h := ((Below.refl w.heap.size w).drew).alloc (nlr _) (.cells (Lib.bytesCells w e s) e);refine ⟨h.os, h.tape, h.output, by simp, fun k hk => ?_⟩;show (Array.modify _ _ _)[k]? = _;rw [Array.getElem?_modify, if_neg (by show ¬ w.heap.size = k; omega)];exact h.block k hk
theorem OwnS.keepB {w w' : World} {base : Nat} {v : Value} {l : List ByteArray} (h : OwnS w base v l) (hk : ∀ g, v.ownBlock = some g → w'.heap[g]? = w.heap[g]?) : OwnS w' base v l := by
 obtain ⟨h1, h2 | ⟨g, cap, cur, rfl, h3, h4, h5⟩⟩ := h
 ·exact ⟨h1, .inl h2⟩
 ·exact ⟨h1, .inr ⟨g, cap, cur, rfl, h3, (hk g rfl).trans h4, h5⟩⟩
def Mk (d : List (Nat × Nat × Nat)) (c : Nat) : Value := match d.find? (fun x => x.1 == c) with
 | some x => .slice (some ⟨x.2.1, 0, none⟩) 2 x.2.2
 | none => .slice none 0 0
structure RepI (base : Nat) (W : World) (rb : Nat) (Z : Array Value) (d : List (Nat × Nat × Nat)) (v : Value) (l : List ByteArray) : Prop where
 blk : W.heap[rb]? = some (.cells Z 319 (0, 0))
 size : Z.size = 257
 each : ∀ c, c < 256 → Z[c]? = some (Mk d c)
 last : Z[256]? = some v
 own : OwnS W base v l
 apart : v.ownBlock ≠ some rb ∧ base ≤ rb
theorem zeroRep : Tryz.zeroCells319 = Array.replicate 257 (.slice none 0 0) := by kernel_rfl
theorem sizeRep : (Tryz.prog.info? 319).map (·.size) = some 257 := by kernel_rfl
def toRep : List ByteArray := [⟨#[10]⟩, ⟨#[92]⟩, ⟨#[34]⟩]
def secOf (c : Nat) : Int := if c = 10 then 110 else c
def K1 (w W : World) (n : Nat) : Prop := Below w.heap.size w W ∧ ∃ Z d v, RepI w.heap.size W (w.heap.size + 1) Z d v (toRep.take n) ∧ d.map (·.1) = (([10, 92, 34] : List Nat).take n).reverse ∧
 ∀ x ∈ d, W.cell? ⟨x.2.1, 0, none⟩ = some (.int .u8 92) ∧ W.cell? ⟨x.2.1, 1, none⟩ = some (.int .u8 (secOf x.1)) ∧ w.heap.size ≤ x.2.1 ∧ x.2.1 ≠ w.heap.size + 1 ∧ v.ownBlock ≠ some x.2.1
theorem repV_nil (c : Nat) : Mk [] c = .slice none 0 0 := rfl
theorem Q6 (w : World) : K1 w ((w.alloc (.cells #[.string ⟨#[]⟩, .string ⟨#[]⟩, .string ⟨#[]⟩] 9)).alloc (.cells (Tryz.zeroCells319.toList.set 256 (.slice (some ⟨w.heap.size, 0, none⟩) 0 3)).toArray 319)) 0 := by
 obtain ⟨n1, n2, n3, n4⟩ := F2 w (.cells #[.string ⟨#[]⟩, .string ⟨#[]⟩, .string ⟨#[]⟩] 9) (.cells (Tryz.zeroCells319.toList.set 256 (.slice (some ⟨w.heap.size, 0, none⟩) 0 3)).toArray 319);refine ⟨n3, _, [], .slice (some ⟨w.heap.size, 0, none⟩) 0 3, ⟨n2, by rw [zeroRep, List.size_toArray, List.length_set, Array.length_toList, Array.size_replicate], fun c hc => ?_, by rw [zeroRep, List.getElem?_toArray, List.getElem?_set_self (by rw [Array.length_toList, Array.size_replicate]; decide)], ⟨rfl, .inr ⟨w.heap.size, 3, _, rfl, nlr _, n1, by decide, by decide, rfl, rfl⟩⟩, fun e => ?_, by omega⟩, rfl, fun x hx => by cases hx⟩
 ·rw [zeroRep, repV_nil, List.getElem?_toArray, List.getElem?_set_ne (by omega), Array.toList_replicate, List.getElem?_replicate, if_pos (by omega)]
 ·have : w.heap.size = w.heap.size + 1 := (by simp [Value.ownBlock] at e);omega
theorem Lh {d : List (Nat × Nat × Nat)} {c : Nat} (h : ∀ x ∈ d, x.1 ≠ c) : Mk d c = .slice none 0 0 := by
 unfold Mk;rw [List.find?_eq_none.2 (fun x hx => by simpa using h x hx)]
theorem Ml (d : List (Nat × Nat × Nat)) (o p cp : Nat) : Mk ((o, p, cp) :: d) o = .slice (some ⟨p, 0, none⟩) 2 cp := by simp [Mk]
theorem Ld (d : List (Nat × Nat × Nat)) {o c : Nat} (p cp : Nat) (h : o ≠ c) : Mk ((o, p, cp) :: d) c = Mk d c := by
 unfold Mk;rw [List.find?_cons_of_neg (by simpa using h)]
theorem Mm {w wr W1 w1 : World} {Z : Array Value} {d : List (Nat × Nat × Nat)} {v v' : Value} {l l' : List ByteArray} (hbw : Below w.heap.size w wr) (hI : RepI w.heap.size wr (w.heap.size + 1) Z d v l)
  (hx : ∀ x ∈ d, wr.cell? ⟨x.2.1, 0, none⟩ = some (.int .u8 92) ∧ wr.cell? ⟨x.2.1, 1, none⟩ = some (.int .u8 (secOf x.1)) ∧ w.heap.size ≤ x.2.1 ∧ x.2.1 ≠ w.heap.size + 1 ∧ v.ownBlock ≠ some x.2.1)
  (hb1 : Below wr.heap.size wr W1) (hown : OwnS w1 w.heap.size v' l') (hg : W1.grownBy w1 v.ownBlock) (hat : ∀ g, v'.ownBlock = some g → v.ownBlock = some g ∨ W1.heap.size ≤ g) (o cp : Nat) (ho : o < 256) (c : UInt8) (hc : secOf o = c.toNat) :
  let W := (Lib.bytesWorld (w1.setCell ⟨w.heap.size + 1, 256, none⟩ v') 5 ⟨#[92, c]⟩).setCell ⟨w.heap.size + 1, o, none⟩ (.slice (some ⟨w1.heap.size, 0, none⟩) 2 cp)
  Below w.heap.size w W ∧ ∃ Z', RepI w.heap.size W (w.heap.size + 1) Z' ((o, w1.heap.size, cp) :: d) v' l' ∧
   ∀ x ∈ (o, w1.heap.size, cp) :: d, W.cell? ⟨x.2.1, 0, none⟩ = some (.int .u8 92) ∧ W.cell? ⟨x.2.1, 1, none⟩ = some (.int .u8 (secOf x.1)) ∧ w.heap.size ≤ x.2.1 ∧ x.2.1 ≠ w.heap.size + 1 ∧ v'.ownBlock ≠ some x.2.1 := by
 intro W;have hrb : w.heap.size + 1 < wr.heap.size := (Array.getElem?_eq_some_iff.1 hI.blk).1;have hs1 := hb1.size;have hs2 := hg.size;have bA := hbw.size;have hvb : ∀ g, v.ownBlock = some g → w.heap.size ≤ g := fun g e => (hI.own.block e).1;have aR : Below w.heap.size w w1 := (hbw.trans (hb1.mono bA)).trans (A9 hg hvb (by omega));have bC : w1.heap[w.heap.size + 1]? = some (.cells Z 319 (0, 0)) := (hg.block _ (by omega) (fun e => hI.apart.1 e.symm)).trans ((hb1.block _ hrb).trans hI.blk);have hv'1 : v'.ownBlock ≠ some (w.heap.size + 1) := fun e => by
  rcases hat _ e with h | h
  ·exact hI.apart.1 h
  ·omega
 have hv'2 : ∀ g, v'.ownBlock = some g → g < w1.heap.size := fun g e => (hown.block e).2;have bB : (w1.setCell ⟨w.heap.size + 1, 256, none⟩ v').heap.size = w1.heap.size := (by simp);have bL : ∀ k, k < w1.heap.size → k ≠ w.heap.size + 1 → W.heap[k]? = w1.heap[k]? := fun k hk bM => by
  show ((Lib.bytesWorld _ _ _).setCell _ _).heap[k]? = _;rw [set_other bM, Lib.bytesWorld_at_old _ _ _ _ (by rw [bB]; exact hk), set_other bM]
 have hWsz : W.heap.size = w1.heap.size + 1 := by
  show ((Lib.bytesWorld _ _ _).setCell _ _).heap.size = _;have hz := Lib.bytesWorld_size (w1.setCell ⟨w.heap.size + 1, 256, none⟩ v') 5 ⟨#[92, c]⟩;rw [bB] at hz;rw [← hz];simp
 have aW : Below w.heap.size w (w1.setCell ⟨w.heap.size + 1, 256, none⟩ v') := aR.setCell (p := ⟨w.heap.size + 1, 256, none⟩) (by show _ ≤ w.heap.size + 1; omega) _;have bD : Below w.heap.size w (Lib.bytesWorld (w1.setCell ⟨w.heap.size + 1, 256, none⟩ v') 5 ⟨#[92, c]⟩) := aW.trans ((Ji _ _ _).mono aW.size);refine ⟨bD.setCell (p := ⟨w.heap.size + 1, o, none⟩) (by show _ ≤ w.heap.size + 1; omega) _, (Z.setIfInBounds 256 v').setIfInBounds o (.slice (some ⟨w1.heap.size, 0, none⟩) 2 cp), ⟨?_, ?_, ?_, ?_, ?_, hv'1, hI.apart.2⟩, ?_⟩
 ·show ((Lib.bytesWorld _ _ _).setCell _ _).heap[_]? = _;refine set_same ?_ o _;rw [Lib.bytesWorld_at_old _ _ _ _ (by rw [bB]; omega)];exact set_same bC 256 v'
 ·rw [Array.size_setIfInBounds, Array.size_setIfInBounds];exact hI.size
 ·intro k hk;by_cases hko : o = k
  ·subst hko;rw [Array.getElem?_setIfInBounds_self_of_lt (by rw [Array.size_setIfInBounds, hI.size]; omega), Ml]
  ·rw [Array.getElem?_setIfInBounds_ne (fun e => hko e), Array.getElem?_setIfInBounds_ne (by omega), Ld _ _ _ hko];exact hI.each k hk
 ·rw [Array.getElem?_setIfInBounds_ne (by omega), Array.getElem?_setIfInBounds_self_of_lt (by rw [hI.size]; omega)]
 ·exact hown.keepB (fun g e => bL g (hv'2 g e) (fun h => hv'1 (h ▸ e)))
 ·intro x hx';rcases List.mem_cons.1 hx' with rfl | hx'
  ·have aU : ∀ j, j < 2 → W.cell? ⟨w1.heap.size, j, none⟩ = some (.int .u8 ((⟨#[92, c]⟩ : ByteArray).data.toList.getD j 0).toNat) := fun j hj => by
    have h1 := Lib.bytesWorld_cell (w1.setCell ⟨w.heap.size + 1, 256, none⟩ v') 5 ⟨#[92, c]⟩ j hj;rw [bB] at h1;refine (World.cell?_of_block (a := ⟨w1.heap.size, j, none⟩) ?_).trans h1;show ((Lib.bytesWorld _ _ _).setCell _ _).heap[w1.heap.size]? = _;exact set_other (by omega) o _
   refine ⟨aU 0 (by decide), ?_, by show w.heap.size ≤ w1.heap.size; omega, by show w1.heap.size ≠ _; omega, fun e => by have := hv'2 _ e; exact absurd this (Nat.lt_irrefl _)⟩;rw [hc];exact aU 1 (by decide)
  ·obtain ⟨a1, a2, a3, a4, a5⟩ := hx x hx';have hxl := block_of_cell a1;have hk : ∀ j, W.cell? ⟨x.2.1, j, none⟩ = wr.cell? ⟨x.2.1, j, none⟩ := fun j => World.cell?_of_block ((bL x.2.1 (by omega) a4).trans ((hg.block _ (by omega) (fun e => a5 e.symm)).trans (hb1.block _ hxl)));refine ⟨(hk 0).trans a1, (hk 1).trans a2, a3, a4, fun e => ?_⟩;rcases hat _ e with h | h
   ·exact a5 h
   ·omega
def Cw (base : Nat) (w : World) (rb : Nat) : Prop := ∃ d v, (∀ c, c < 256 → w.cell? ⟨rb, c, none⟩ = some (Mk d c)) ∧ w.cell? ⟨rb, 256, none⟩ = some v ∧ OwnS w base v toRep ∧ d.map (·.1) = [34, 92, 10] ∧
 (∀ x ∈ d, w.cell? ⟨x.2.1, 0, none⟩ = some (.int .u8 92) ∧ w.cell? ⟨x.2.1, 1, none⟩ = some (.int .u8 (secOf x.1)) ∧ base ≤ x.2.1) ∧ base ≤ rb
theorem Cw.keep {base : Nat} {w w' : World} {rb : Nat} (h : Cw base w rb) (hk : ∀ k, base ≤ k → k < w.heap.size → w'.heap[k]? = w.heap[k]?) : Cw base w' rb := by
 obtain ⟨d, v, h1, h2, h3, h4, h5, h6⟩ := h;have hc : ∀ {k i : Nat} {u : Value}, base ≤ k → w.cell? ⟨k, i, none⟩ = some u → w'.cell? ⟨k, i, none⟩ = some u := fun {k i u} hb he => (World.cell?_of_block (a := ⟨k, i, none⟩) (hk k hb (block_of_cell he))).trans he;exact ⟨d, v, fun c hc' => hc h6 (h1 c hc'), hc h6 h2, h3.keepB (fun g e => hk g (h3.block e).1 (h3.block e).2), h4, fun x hx => ⟨hc (h5 x hx).2.2 (h5 x hx).1, hc (h5 x hx).2.2 (h5 x hx).2.1, (h5 x hx).2.2⟩, h6⟩
theorem Cw.below {base : Nat} {w w' : World} {rb : Nat} (h : Cw base w rb) (hb : Below w.heap.size w w') : Cw base w' rb := h.keep fun k _ hl => hb.block k hl
def escB (c : Nat) : Bool := c == 34 || c == 92 || c == 10
theorem Cw.esc {base : Nat} {w : World} {rb c : Nat} (h : Cw base w rb) (hc : c < 256) (he : escB c = true) : ∃ p cp, w.cell? ⟨rb, c, none⟩ = some (.slice (some ⟨p, 0, none⟩) 2 cp) ∧ w.cell? ⟨p, 0, none⟩ = some (.int .u8 92) ∧ w.cell? ⟨p, 1, none⟩ = some (.int .u8 (secOf c)) := by
 obtain ⟨d, v, h1, h2, h3, h4, h5, -⟩ := h;have hm : c ∈ d.map (·.1) := by
  rw [h4];simp [escB] at he;rcases he with (rfl | rfl) | rfl <;> simp
 obtain ⟨x, hx, hxc⟩ := List.mem_map.1 hm;have hf : ∃ y, d.find? (fun x => x.1 == c) = some y := by
  cases hf : d.find? (fun x => x.1 == c) with
  | none => exact absurd (by simpa using hxc) (List.find?_eq_none.1 hf x hx)
  | some y => exact ⟨y, rfl⟩
 obtain ⟨y, hf⟩ := hf;have hy := List.mem_of_find?_eq_some hf;have hyc : y.1 = c := (by simpa using List.find?_some hf);refine ⟨y.2.1, y.2.2, ?_, (h5 y hy).1, hyc ▸ (h5 y hy).2.1⟩;rw [h1 c hc];unfold Mk;rw [hf]
theorem Cw.plain {base : Nat} {w : World} {rb c : Nat} (h : Cw base w rb) (hc : c < 256) (he : escB c = false) : w.cell? ⟨rb, c, none⟩ = some (.slice none 0 0) := by
 obtain ⟨d, v, h1, h2, h3, h4, h5, -⟩ := h;rw [h1 c hc];have : ∀ x ∈ d, x.1 ≠ c := fun x hx e => by
  have hm : x.1 ∈ d.map (·.1) := List.mem_map_of_mem hx;rw [h4] at hm;simp at hm;simp [escB] at he;omega
 rw [Lh this]
theorem Cw.row {base : Nat} {w : World} {rb : Nat} (h : Cw base w rb) : ∃ a cp, w.cell? ⟨rb, 256, none⟩ = some (.slice a 3 cp) ∧ Ax w a toRep := by
 obtain ⟨d, v, h1, h2, h3, h4, h5, -⟩ := h;have hs := h3.strsAt;rw [show toRep.length = 3 from rfl] at hs;obtain ⟨a, cp, rfl, aI, -⟩ := hs;exact ⟨a, cp, h2, aI⟩
def PBuild (w : World) (e : Ending) (w' : World) : Prop := ∃ rb, e = .returned (.iface 320 (.pointer (some ⟨rb, 0, none⟩))) ∧ Below w.heap.size w w' ∧ Cw w.heap.size w' rb
theorem Gj (W : World) (x : UInt8) : (convert 154 9 (.slice (some ⟨W.heap.size, 0, none⟩) 1 1)).run Tryz.prog (W.alloc (.cells #[.int .u8 x.toNat] 5)) = .ok (.string ⟨#[x]⟩) (W.alloc (.cells #[.int .u8 x.toNat] 5)) :=
 run_convert_bytes_back _ _ _ 5 ⟨W.heap.size, 0, none⟩ 1 [x] Tryz.underlying154 Tryz.underlying5 Tryz.underlying9 (fun j hj => by
  obtain rfl : j = 0 := (by simp at hj; exact hj);go_simp)
theorem Vh (b : Nat) (x1 : Int) (ob oc : Nat) (w : World) (h : RB w b 0 x1 .nilIface (.slice (some ⟨ob, 0, none⟩) 6 oc)) (hs : Ax w (some ⟨ob, 0, none⟩) quoteOld) :
  Calls Tryz.prog 276 #[.pointer (some ⟨b, 0, none⟩)] w (PBuild w) := by
 obtain ⟨-, g0, g1, g2, g3, g4, -⟩ := five_facts h;obtain ⟨_, _, e0, s0⟩ := hs.at (k := 0) (by decide);cases e0;obtain ⟨_, _, e0, s1⟩ := hs.at (k := 1) (by decide);cases e0;obtain ⟨_, _, e0, s2⟩ := hs.at (k := 2) (by decide);cases e0;obtain ⟨_, _, e0, s3⟩ := hs.at (k := 3) (by decide);cases e0;obtain ⟨_, _, e0, s4⟩ := hs.at (k := 4) (by decide);cases e0;obtain ⟨_, _, e0, s5⟩ := hs.at (k := 5) (by decide);cases e0;simp only [quoteOld, lgB, lgC, Nat.zero_add] at s0 s1 s2 s3 s4 s5;clear hs h;have hmk : ∀ W, (Instr.makeSlice 29 (.int .i64 0) (.int .i64 3)).run Tryz.prog W = .ok (.slice (some ⟨W.heap.size, 0, none⟩) 0 3) (W.alloc (.cells #[.string ⟨#[]⟩, .string ⟨#[]⟩, .string ⟨#[]⟩] 9)) := fun W => (by kernel_rfl);have hnil : ∀ W, (binOp .eql 154 (.slice none 0 0) (.slice none 0 0)).run Tryz.prog W = .ok (.bool true) W := fun W => (by kernel_rfl);have hsb := fun (W : World) (s : ByteArray) => Lib.run_convert_string_bytes (P := Tryz.prog) W 9 154 5 s Tryz.underlying9 Tryz.underlying154 Tryz.underlying5;have bE := fun (W : World) => Gj W 10;have bF := fun (W : World) => Gj W 92;have bG := fun (W : World) => Gj W 34;simp only [show ((10 : UInt8).toNat : Int) = 10 from rfl, show ((92 : UInt8).toNat : Int) = 92 from rfl, show ((34 : UInt8).toNat : Int) = 34 from rfl] at bE bF bG;obtain ⟨i0, hi, bH, bI, bJ⟩ := info_parts infoStr;have aI : (storeCells ⟨w.heap.size + 1, 0, none⟩ (Tryz.zeroCells319.toList.set 256 (.slice (some ⟨w.heap.size, 0, none⟩) 0 3))).run Tryz.prog ((w.alloc (.cells #[.string ⟨#[]⟩, .string ⟨#[]⟩, .string ⟨#[]⟩] 9)).alloc (.cells Tryz.zeroCells319 319)) = .ok () ((w.alloc (.cells #[.string ⟨#[]⟩, .string ⟨#[]⟩, .string ⟨#[]⟩] 9)).alloc (.cells (Tryz.zeroCells319.toList.set 256 (.slice (some ⟨w.heap.size, 0, none⟩) 0 3)).toArray 319)) := by
  have hsz : (w.alloc (.cells #[.string ⟨#[]⟩, .string ⟨#[]⟩, .string ⟨#[]⟩] 9)).heap.size = w.heap.size + 1 := (by simp);have := run_storeCells_new (P := Tryz.prog) (w.alloc (.cells #[.string ⟨#[]⟩, .string ⟨#[]⟩, .string ⟨#[]⟩] 9)) 319 Tryz.zeroCells319 (Tryz.zeroCells319.toList.set 256 (.slice (some ⟨w.heap.size, 0, none⟩) 0 3)).toArray (by rw [sizeRep, zeroRep]; simp) (by rw [zeroRep]; simp) (by
   rw [zeroRep, Array.all_eq_true'];intro x hx;rw [List.mem_toArray] at hx;rcases List.mem_or_eq_of_mem_set hx with hx | rfl
   ·rw [Array.toList_replicate] at hx;rw [(List.mem_replicate.1 hx).2];rfl
   ·rfl)
  rw [hsz] at this;exact this
 go_enter Tryz.func276, Tryz.ntmps276;go_wp2_with fail
 go_loop [4, 5] (fun v i => (v = .bool true ∧ i = .int .i64 0) ∨ (v = .bool false ∧ i = .int .i64 2) ∨ (v = .bool false ∧ i = .int .i64 4) ∨ (v = .bool false ∧ i = .int .i64 6)) (fun _ i => 6 - (intOf i).toNat)
 case atStart => exact .inl ⟨rfl, rfl⟩
 case round =>
  rcases hrel with ⟨rfl, rfl⟩ | ⟨rfl, rfl⟩ | ⟨rfl, rfl⟩ | ⟨rfl, rfl⟩
  ·go_wp2_with fail;go_round
   case rel => exact .inr (.inl ⟨rfl, by go_num⟩)
   case measure => simp [intOf]
  ·go_wp2_with fail;go_round
   case rel => exact .inr (.inr (.inl ⟨rfl, by go_num⟩))
   case measure => simp [intOf]
  ·go_wp2_with fail;go_round
   case rel => exact .inr (.inr (.inr ⟨rfl, by go_num⟩))
   case measure => simp [intOf]
  ·go_wp2_with fail;have H0 := Lq7 (Q6 w);generalize World.alloc _ _ = W0 at H0 ⊢
   go_loopw [12] (fun i wr => (i = .int .i64 4 ∧ Hid (K1 w wr 0)) ∨ (i = .int .i64 2 ∧ Hid (K1 w wr 1)) ∨ (i = .int .i64 0 ∧ Hid (K1 w wr 2)) ∨ (i = .int .i64 (-2) ∧ Hid (K1 w wr 3))) (fun i _ => (intOf i + 2).toNat)
   case atStart => exact .inl ⟨rfl, H0⟩
   case round =>
    rcases hrel with ⟨rfl, aI⟩ | ⟨rfl, aI⟩ | ⟨rfl, aI⟩ | ⟨rfl, aI⟩
    ·obtain ⟨hbw, Z, d, v, hI, hd, hx⟩ := aI.out;have ta := (hbw.cell (p := ⟨ob, 4, none⟩) (block_of_cell s4)).trans s4;have tb := (hbw.cell (p := ⟨ob, 5, none⟩) (block_of_cell s5)).trans s5;have aF : ∀ x ∈ d, x.1 ≠ 10 := fun x hm => by
      have : x.1 ∈ d.map (·.1) := List.mem_map_of_mem hm;rw [hd] at this;intro e;rw [e] at this;revert this
      decide
     obtain ⟨aJ, aM, aN⟩ := Ao hI.blk;have z1 := (aM 10).trans (hI.each 10 (by decide));rw [Lh aF] at z1;have aG := (aM 256).trans hI.last;have f1 := aN 10;have aH := aN 256;have e1 : ((⟨#[10]⟩ : ByteArray)[0]'(by decide)).toNat = 10 := rfl;have bA := hbw.size;have aQ : Below wr.heap.size wr ((wr.alloc (.cells #[.int .u8 10] 5)).alloc (.cells #[.string ⟨#[10]⟩] 9)) := ((Below.refl _ wr).alloc (nlr _) _).alloc (by simp) _;have aC := lit_one (wr.alloc (.cells #[.int .u8 10] 5)) (.string ⟨#[10]⟩) 9;rw [show (wr.alloc (.cells #[.int .u8 10] 5)).heap.size = wr.heap.size + 1 by simp] at aC;have Hn := Lq7 (And.intro aC (hI.own.below aQ));have aB := Lq7 (And.intro hbw (And.intro hI (And.intro hx (And.intro hd aQ))));clear hx hd hI aM aI hbw aF aC
     go_wp2_with (at_builtin; refine Bb rfl _ _ 29 rfl w.heap.size 9 i0 (.string ByteArray.empty) 1 16 Tryz.underlying29 hi bH bI bJ rfl (by decide) v 0 ((toRep.take 0).map Value.string) rfl Hn.out.2 ⟨wr.heap.size + 1, 0, none⟩ 1 1 [.string ⟨#[10]⟩] rfl rfl Hn.out.1 ?_ ?_ ?_ ?_ ?_)
     ·simp [Value.oneCell']
     ·unfold maxLen; decide
     ·decide
     ·simp; omega
     intro v' w1 hown' hg hat;have hown : OwnS w1 w.heap.size v' (toRep.take 1) := hown';have aV := hown.strsAt;rw [show (toRep.take 1).length = 1 from rfl] at aV;obtain ⟨va, vc, aX, -, -⟩ := aV;subst aX;have aY := ((World.cell?_of_block (a := ⟨w.heap.size + 1, 256, none⟩) ((hg.block _ (by have := aB.out.2.2.2.2.size; show w.heap.size + 1 < _; omega) (fun e => aB.out.2.1.apart.1 e.symm)).trans (aB.out.2.2.2.2.block _ aJ)))).trans aG;have y1 := ((World.cell?_of_block (a := ⟨w.heap.size + 1, 10, none⟩) ((hg.block _ (by have := aB.out.2.2.2.2.size; show w.heap.size + 1 < _; omega) (fun e => aB.out.2.1.apart.1 e.symm)).trans (aB.out.2.2.2.2.block _ aJ)))).trans z1;have aZ := ((World.frozen?_of_block (a := ⟨w.heap.size + 1, 256, none⟩) ((hg.block _ (by have := aB.out.2.2.2.2.size; show w.heap.size + 1 < _; omega) (fun e => aB.out.2.1.apart.1 e.symm)).trans (aB.out.2.2.2.2.block _ aJ)))).trans aH;have g1 := ((World.frozen?_of_block (a := ⟨w.heap.size + 1, 10, none⟩) ((hg.block _ (by have := aB.out.2.2.2.2.size; show w.heap.size + 1 < _; omega) (fun e => aB.out.2.1.apart.1 e.symm)).trans (aB.out.2.2.2.2.block _ aJ)))).trans f1;have aE := Lq7 (fun cp => Mm aB.out.1 aB.out.2.1 aB.out.2.2.1 aB.out.2.2.2.2 hown hg (fun g e => by have := hat g e; simpa using this) 10 cp (by decide) 110 rfl);have Hd := Lq7 aB.out.2.2.2.1;clear hown hg hat ta tb z1 aG f1 aH Hn aB aQ aN;have k1 : (Lib.bytesWorld (w1.setCell ⟨w.heap.size + 1, 256, none⟩ (.slice va 1 vc)) 5 ⟨#[92, 110]⟩).cell? ⟨w.heap.size + 1, 10, none⟩ = some (.slice none 0 0) := by
      rw [Lib.bytesWorld_old _ _ _ _ (by have := block_of_cell y1; simpa using this), World.cell?_setCell_other _ _ _ _ (by simp)];exact y1
     have k2 : (Lib.bytesWorld (w1.setCell ⟨w.heap.size + 1, 256, none⟩ (.slice va 1 vc)) 5 ⟨#[92, 110]⟩).frozen? ⟨w.heap.size + 1, 10, none⟩ = false := by
      rw [World.frozen?_of_block (Lib.bytesWorld_at_old _ _ _ _ (by have := block_of_cell y1; simpa using this)), World.frozen?_setCell];exact g1
     have HN : Hid (K1 w ((Lib.bytesWorld (w1.setCell ⟨w.heap.size + 1, 256, none⟩ (.slice va 1 vc)) 5 ⟨#[92, 110]⟩).setCell ⟨w.heap.size + 1, 10, none⟩ (.slice (some ⟨w1.heap.size, 0, none⟩) 2 (grownCap (w1.setCell ⟨w.heap.size + 1, 256, none⟩ (.slice va 1 vc)) 2 0 5))) 1) := Lq7 (by
      obtain ⟨h1, Z', h2, h3⟩ := aE.out (grownCap (w1.setCell ⟨w.heap.size + 1, 256, none⟩ (.slice va 1 vc)) 2 0 5);exact ⟨h1, Z', _, _, h2, by rw [List.map_cons, Hd.out]; rfl, h3⟩)
     clear aE Hd y1 g1;go_wp2_with fail;go_roundw
     case rel => exact .inr (.inl ⟨by go_num, HN⟩)
     case measure => simp [intOf]
    ·obtain ⟨hbw, Z, d, v, hI, hd, hx⟩ := aI.out;have ta := (hbw.cell (p := ⟨ob, 2, none⟩) (block_of_cell s2)).trans s2;have tb := (hbw.cell (p := ⟨ob, 3, none⟩) (block_of_cell s3)).trans s3;have aF : ∀ x ∈ d, x.1 ≠ 92 := fun x hm => by
      have : x.1 ∈ d.map (·.1) := List.mem_map_of_mem hm;rw [hd] at this;intro e;rw [e] at this;revert this
      decide
     obtain ⟨aJ, aM, aN⟩ := Ao hI.blk;have z1 := (aM 92).trans (hI.each 92 (by decide));rw [Lh aF] at z1;have aG := (aM 256).trans hI.last;have f1 := aN 92;have aH := aN 256;have e1 : ((⟨#[92]⟩ : ByteArray)[0]'(by decide)).toNat = 92 := rfl;have bA := hbw.size;have aQ : Below wr.heap.size wr ((wr.alloc (.cells #[.int .u8 92] 5)).alloc (.cells #[.string ⟨#[92]⟩] 9)) := ((Below.refl _ wr).alloc (nlr _) _).alloc (by simp) _;have aC := lit_one (wr.alloc (.cells #[.int .u8 92] 5)) (.string ⟨#[92]⟩) 9;rw [show (wr.alloc (.cells #[.int .u8 92] 5)).heap.size = wr.heap.size + 1 by simp] at aC;have Hn := Lq7 (And.intro aC (hI.own.below aQ));have aB := Lq7 (And.intro hbw (And.intro hI (And.intro hx (And.intro hd aQ))));clear hx hd hI aM aI hbw aF aC
     go_wp2_with (at_builtin; refine Bb rfl _ _ 29 rfl w.heap.size 9 i0 (.string ByteArray.empty) 1 16 Tryz.underlying29 hi bH bI bJ rfl (by decide) v 1 ((toRep.take 1).map Value.string) rfl Hn.out.2 ⟨wr.heap.size + 1, 0, none⟩ 1 1 [.string ⟨#[92]⟩] rfl rfl Hn.out.1 ?_ ?_ ?_ ?_ ?_)
     ·simp [Value.oneCell']
     ·unfold maxLen; decide
     ·decide
     ·simp; omega
     intro v' w1 hown' hg hat;have hown : OwnS w1 w.heap.size v' (toRep.take 2) := hown';have aV := hown.strsAt;rw [show (toRep.take 2).length = 2 from rfl] at aV;obtain ⟨va, vc, aX, -, -⟩ := aV;subst aX;have aY := ((World.cell?_of_block (a := ⟨w.heap.size + 1, 256, none⟩) ((hg.block _ (by have := aB.out.2.2.2.2.size; show w.heap.size + 1 < _; omega) (fun e => aB.out.2.1.apart.1 e.symm)).trans (aB.out.2.2.2.2.block _ aJ)))).trans aG;have y1 := ((World.cell?_of_block (a := ⟨w.heap.size + 1, 92, none⟩) ((hg.block _ (by have := aB.out.2.2.2.2.size; show w.heap.size + 1 < _; omega) (fun e => aB.out.2.1.apart.1 e.symm)).trans (aB.out.2.2.2.2.block _ aJ)))).trans z1;have aZ := ((World.frozen?_of_block (a := ⟨w.heap.size + 1, 256, none⟩) ((hg.block _ (by have := aB.out.2.2.2.2.size; show w.heap.size + 1 < _; omega) (fun e => aB.out.2.1.apart.1 e.symm)).trans (aB.out.2.2.2.2.block _ aJ)))).trans aH;have g1 := ((World.frozen?_of_block (a := ⟨w.heap.size + 1, 92, none⟩) ((hg.block _ (by have := aB.out.2.2.2.2.size; show w.heap.size + 1 < _; omega) (fun e => aB.out.2.1.apart.1 e.symm)).trans (aB.out.2.2.2.2.block _ aJ)))).trans f1;have aE := Lq7 (fun cp => Mm aB.out.1 aB.out.2.1 aB.out.2.2.1 aB.out.2.2.2.2 hown hg (fun g e => by have := hat g e; simpa using this) 92 cp (by decide) 92 rfl);have Hd := Lq7 aB.out.2.2.2.1;clear hown hg hat ta tb z1 aG f1 aH Hn aB aQ aN;have k1 : (Lib.bytesWorld (w1.setCell ⟨w.heap.size + 1, 256, none⟩ (.slice va 2 vc)) 5 ⟨#[92, 92]⟩).cell? ⟨w.heap.size + 1, 92, none⟩ = some (.slice none 0 0) := by
      rw [Lib.bytesWorld_old _ _ _ _ (by have := block_of_cell y1; simpa using this), World.cell?_setCell_other _ _ _ _ (by simp)];exact y1
     have k2 : (Lib.bytesWorld (w1.setCell ⟨w.heap.size + 1, 256, none⟩ (.slice va 2 vc)) 5 ⟨#[92, 92]⟩).frozen? ⟨w.heap.size + 1, 92, none⟩ = false := by
      rw [World.frozen?_of_block (Lib.bytesWorld_at_old _ _ _ _ (by have := block_of_cell y1; simpa using this)), World.frozen?_setCell];exact g1
     have HN : Hid (K1 w ((Lib.bytesWorld (w1.setCell ⟨w.heap.size + 1, 256, none⟩ (.slice va 2 vc)) 5 ⟨#[92, 92]⟩).setCell ⟨w.heap.size + 1, 92, none⟩ (.slice (some ⟨w1.heap.size, 0, none⟩) 2 (grownCap (w1.setCell ⟨w.heap.size + 1, 256, none⟩ (.slice va 2 vc)) 2 0 5))) 2) := Lq7 (by
      obtain ⟨h1, Z', h2, h3⟩ := aE.out (grownCap (w1.setCell ⟨w.heap.size + 1, 256, none⟩ (.slice va 2 vc)) 2 0 5);exact ⟨h1, Z', _, _, h2, by rw [List.map_cons, Hd.out]; rfl, h3⟩)
     clear aE Hd y1 g1;go_wp2_with fail;go_roundw
     case rel => exact .inr (.inr (.inl ⟨by go_num, HN⟩))
     case measure => simp [intOf]
    ·obtain ⟨hbw, Z, d, v, hI, hd, hx⟩ := aI.out;have ta := (hbw.cell (p := ⟨ob, 0, none⟩) (block_of_cell s0)).trans s0;have tb := (hbw.cell (p := ⟨ob, 1, none⟩) (block_of_cell s1)).trans s1;have aF : ∀ x ∈ d, x.1 ≠ 34 := fun x hm => by
      have : x.1 ∈ d.map (·.1) := List.mem_map_of_mem hm;rw [hd] at this;intro e;rw [e] at this;revert this
      decide
     obtain ⟨aJ, aM, aN⟩ := Ao hI.blk;have z1 := (aM 34).trans (hI.each 34 (by decide));rw [Lh aF] at z1;have aG := (aM 256).trans hI.last;have f1 := aN 34;have aH := aN 256;have e1 : ((⟨#[34]⟩ : ByteArray)[0]'(by decide)).toNat = 34 := rfl;have bA := hbw.size;have aQ : Below wr.heap.size wr ((wr.alloc (.cells #[.int .u8 34] 5)).alloc (.cells #[.string ⟨#[34]⟩] 9)) := ((Below.refl _ wr).alloc (nlr _) _).alloc (by simp) _;have aC := lit_one (wr.alloc (.cells #[.int .u8 34] 5)) (.string ⟨#[34]⟩) 9;rw [show (wr.alloc (.cells #[.int .u8 34] 5)).heap.size = wr.heap.size + 1 by simp] at aC;have Hn := Lq7 (And.intro aC (hI.own.below aQ));have aB := Lq7 (And.intro hbw (And.intro hI (And.intro hx (And.intro hd aQ))));clear hx hd hI aM aI hbw aF aC
     go_wp2_with (at_builtin; refine Bb rfl _ _ 29 rfl w.heap.size 9 i0 (.string ByteArray.empty) 1 16 Tryz.underlying29 hi bH bI bJ rfl (by decide) v 2 ((toRep.take 2).map Value.string) rfl Hn.out.2 ⟨wr.heap.size + 1, 0, none⟩ 1 1 [.string ⟨#[34]⟩] rfl rfl Hn.out.1 ?_ ?_ ?_ ?_ ?_)
     ·simp [Value.oneCell']
     ·unfold maxLen; decide
     ·decide
     ·simp; omega
     intro v' w1 hown' hg hat;have hown : OwnS w1 w.heap.size v' (toRep.take 3) := hown';have aV := hown.strsAt;rw [show (toRep.take 3).length = 3 from rfl] at aV;obtain ⟨va, vc, aX, -, -⟩ := aV;subst aX;have aY := ((World.cell?_of_block (a := ⟨w.heap.size + 1, 256, none⟩) ((hg.block _ (by have := aB.out.2.2.2.2.size; show w.heap.size + 1 < _; omega) (fun e => aB.out.2.1.apart.1 e.symm)).trans (aB.out.2.2.2.2.block _ aJ)))).trans aG;have y1 := ((World.cell?_of_block (a := ⟨w.heap.size + 1, 34, none⟩) ((hg.block _ (by have := aB.out.2.2.2.2.size; show w.heap.size + 1 < _; omega) (fun e => aB.out.2.1.apart.1 e.symm)).trans (aB.out.2.2.2.2.block _ aJ)))).trans z1;have aZ := ((World.frozen?_of_block (a := ⟨w.heap.size + 1, 256, none⟩) ((hg.block _ (by have := aB.out.2.2.2.2.size; show w.heap.size + 1 < _; omega) (fun e => aB.out.2.1.apart.1 e.symm)).trans (aB.out.2.2.2.2.block _ aJ)))).trans aH;have g1 := ((World.frozen?_of_block (a := ⟨w.heap.size + 1, 34, none⟩) ((hg.block _ (by have := aB.out.2.2.2.2.size; show w.heap.size + 1 < _; omega) (fun e => aB.out.2.1.apart.1 e.symm)).trans (aB.out.2.2.2.2.block _ aJ)))).trans f1;have aE := Lq7 (fun cp => Mm aB.out.1 aB.out.2.1 aB.out.2.2.1 aB.out.2.2.2.2 hown hg (fun g e => by have := hat g e; simpa using this) 34 cp (by decide) 34 rfl);have Hd := Lq7 aB.out.2.2.2.1;clear hown hg hat ta tb z1 aG f1 aH Hn aB aQ aN;have k1 : (Lib.bytesWorld (w1.setCell ⟨w.heap.size + 1, 256, none⟩ (.slice va 3 vc)) 5 ⟨#[92, 34]⟩).cell? ⟨w.heap.size + 1, 34, none⟩ = some (.slice none 0 0) := by
      rw [Lib.bytesWorld_old _ _ _ _ (by have := block_of_cell y1; simpa using this), World.cell?_setCell_other _ _ _ _ (by simp)];exact y1
     have k2 : (Lib.bytesWorld (w1.setCell ⟨w.heap.size + 1, 256, none⟩ (.slice va 3 vc)) 5 ⟨#[92, 34]⟩).frozen? ⟨w.heap.size + 1, 34, none⟩ = false := by
      rw [World.frozen?_of_block (Lib.bytesWorld_at_old _ _ _ _ (by have := block_of_cell y1; simpa using this)), World.frozen?_setCell];exact g1
     have HN : Hid (K1 w ((Lib.bytesWorld (w1.setCell ⟨w.heap.size + 1, 256, none⟩ (.slice va 3 vc)) 5 ⟨#[92, 34]⟩).setCell ⟨w.heap.size + 1, 34, none⟩ (.slice (some ⟨w1.heap.size, 0, none⟩) 2 (grownCap (w1.setCell ⟨w.heap.size + 1, 256, none⟩ (.slice va 3 vc)) 2 0 5))) 3) := Lq7 (by
      obtain ⟨h1, Z', h2, h3⟩ := aE.out (grownCap (w1.setCell ⟨w.heap.size + 1, 256, none⟩ (.slice va 3 vc)) 2 0 5);exact ⟨h1, Z', _, _, h2, by rw [List.map_cons, Hd.out]; rfl, h3⟩)
     clear aE Hd y1 g1;go_wp2_with fail;go_roundw
     case rel => exact .inr (.inr (.inr ⟨by go_num, HN⟩))
     case measure => simp [intOf]
    ·have HF := Lq7 aI.out;clear aI;go_wp2_with fail;refine bodyPost_ret (v := .iface 320 (.pointer (some ⟨w.heap.size + 1, 0, none⟩))) (by simp [results, Tryz.results276, go_sem]) rfl ?_;obtain ⟨h1, Z, d, v, h2, h3, h4⟩ := HF.out;obtain ⟨-, aM, -⟩ := Ao h2.blk;exact ⟨_, rfl, h1, d, v, fun c hc => (aM c).trans (h2.each c hc), (aM 256).trans h2.last, h2.own, h3, fun x hx => ⟨(h4 x hx).1, (h4 x hx).2.1, (h4 x hx).2.2.1⟩, by omega⟩
theorem Ko (w : World) : (callFunc 289 #[]).run Tryz.prog w = .ok (.value (.tuple #[])) w := run_call_mark0 Tryz.func289 (by kernel_rfl) (by kernel_rfl) (by kernel_rfl) .disable (by kernel_rfl) w
theorem L8 (w : World) : (callFunc 291 #[]).run Tryz.prog w = .ok (.value (.tuple #[])) w := run_call_mark0 Tryz.func291 (by kernel_rfl) (by kernel_rfl) (by kernel_rfl) .enable (by kernel_rfl) w
theorem Qb (a : Addr) (w : World) : (callFunc 292 #[.pointer (some a)]).run Tryz.prog w = .ok (.value (.tuple #[])) w := run_call_marked Tryz.func292 (by kernel_rfl) (by kernel_rfl) (by kernel_rfl) .acquire (by kernel_rfl) a w
theorem Qc (a : Addr) (w : World) : (callFunc 294 #[.pointer (some a)]).run Tryz.prog w = .ok (.value (.tuple #[])) w := run_call_marked Tryz.func294 (by kernel_rfl) (by kernel_rfl) (by kernel_rfl) .releaseMerge (by kernel_rfl) a w
theorem L9 (a : Addr) (x : Value) (u : FrameMode) (w : World) (hc : w.cell? a = some x) (hz : w.frozen? a = false) :
  CallsD Tryz.prog 280 #[.pointer (some a), .bool true] u w fun e u' w' => u' = u ∧ (e = .returned (.tuple #[]) ∧ w' = w.drew.setCell a (.int .u32 1)) := by
 have hc' : w.drew.cell? a = some x := (by go_simp);have hz' : w.drew.frozen? a = false := (by go_simp);have hst := run_call_store (P := Tryz.prog) Tryz.func285 (by kernel_rfl) (by kernel_rfl) (by kernel_rfl) (by kernel_rfl) (k := .u32) (y := 1) hc' hz'
 go_enter_d Tryz.func280, Tryz.ntmps280
 go_wp2
 go_region_calls
 all_goals (go_end0; exact ⟨rfl, rfl⟩)
theorem Lb (a : Addr) (u : FrameMode) (w : World) (hc : w.cell? a = some (.int .i32 1)) (hz : w.frozen? a = false) :
  CallsD Tryz.prog 279 #[.pointer (some a)] u w fun e u' w' => u' = u ∧ (e = .returned (.tuple #[]) ∧ w' = w.setCell a (.int .i32 0)) := by
 have hd := Ko;have he := L8;have hr := Qc;have hadd := run_call_add (P := Tryz.prog) Tryz.func295 (by kernel_rfl) (by kernel_rfl) (by kernel_rfl) .i32 (by kernel_rfl) (y := -1) (s := 0) hc hz (by simp [go_sem]; rfl);have hcv := run_convert_to_unsafe (P := Tryz.prog) (src := 335) (dst := 273) Tryz.underlying335 Tryz.underlying273 (by kernel_rfl) hc
 go_enter_d Tryz.func279, Tryz.ntmps279
 go_wp2
 go_end0
 go_wp2
 go_end0
 exact ⟨rfl, rfl⟩
theorem Un (a : Addr) (w : World) (hc : w.cell? a = some (.int .i32 0)) (hz : w.frozen? a = false) :
  Calls Tryz.prog 278 #[.pointer (some a)] w fun e w' => e = .returned (.tuple #[]) ∧ w' = w.setCell a (.int .i32 1) := by
 have hd := Ko;have he := L8;have ha := Qb;have hcas := run_call_cas_hit (P := Tryz.prog) Tryz.func290 (by kernel_rfl) (by kernel_rfl) (by kernel_rfl) .i32 (by kernel_rfl) (y := 1) hc hz;have hc' : (w.setCell a (.int .i32 1)).cell? a = some (.int .i32 1) := World.cell?_setCell_same w a _ hc;have hcv := run_convert_to_unsafe (P := Tryz.prog) (src := 335) (dst := 273) Tryz.underlying335 Tryz.underlying273 (by kernel_rfl) hc';go_enter Tryz.func278, Tryz.ntmps278;go_wp2
 first | go_end0 | (simp only [Exit.inBlock, Exit.then]; refine bodyPost_ret (results_none rfl _ _ _) rfl ?_) | refine bodyPost_ret (results_none rfl _ _ _) rfl ?_
 go_wp2
 go_end0
 exact ⟨rfl, rfl⟩
theorem Nt (a : Addr) (x : Int) (w : World) (hc : w.cell? a = some (.int .u32 x)) :
  Calls Tryz.prog 274 #[.pointer (some a)] w fun e w' => e = .returned (.bool (x != 0)) ∧ w' = w := by
 have hl := run_call_load (P := Tryz.prog) Tryz.func277 (by kernel_rfl) (by kernel_rfl) (by kernel_rfl) .u32 (by kernel_rfl) hc;go_enter Tryz.func274, Tryz.ntmps274;go_wp2;go_ret;exact ⟨rfl, rfl⟩
def PBOnce (b n : Nat) (x1 : Int) (w : World) (e : Ending) (w' : World) : Prop := e = .returned (.tuple #[]) ∧ ∃ rb, Below n w w' ∧ Cw w.heap.size w' rb ∧ RB w' b 0 x1 (.iface 320 (.pointer (some ⟨rb, 0, none⟩))) (.slice none 0 0)
theorem Mz (b n : Nat) (hn : n ≤ b) (x1 : Int) (ob oc : Nat) (w : World) (hnw : n ≤ w.heap.size) (h : RB w b 0 x1 .nilIface (.slice (some ⟨ob, 0, none⟩) 6 oc)) (hs : Ax w (some ⟨ob, 0, none⟩) quoteOld) :
  Calls Tryz.prog 272 #[.pointer (some ⟨b, 0, none⟩)] w (PBOnce b n x1 w) := by
 have HB := Lq7 (Vh b x1 ob oc w h hs);have H := Lq7 h;clear h hs;go_enter Tryz.func272, Tryz.ntmps272;go_wp2_with fail;refine HB.out.mono ?_;rintro e w1 ⟨rb, rfl, aF, aB⟩;have H1 : Hid (RB w1 b 0 x1 .nilIface (.slice (some ⟨ob, 0, none⟩) 6 oc)) := Lq7 (stays H.out aF);obtain ⟨q0, q1, q2, q3, q4, q5, q6, q7, q8, q9, q10⟩ := five_facts H1.out;have hbl := here H.out;have HR := Lq7 (And.intro (aF.mono hnw) (And.intro aB (And.intro H1.out hbl)));clear aF aB HB H H1 hbl;go_wp2_with fail;refine bodyPost_ret (results_none rfl _ _ _) rfl ?_;obtain ⟨h1, h2, h3, h4⟩ := HR.out;refine ⟨rfl, rb, (h1.setCell (p := ⟨b, 3, none⟩) hn _).setCell (p := ⟨b, 4, none⟩) hn _, h2.keep fun k hk hl => ?_, ?_⟩
 ·rw [set_other (by omega), set_other (by omega)]
 ·unfold RB at h3 ⊢;rw [set_same (set_same h3 3 _) 4];rfl
def PSlow (b n : Nat) (w : World) (e : Ending) (w' : World) : Prop := e = .returned (.tuple #[]) ∧ ∃ rb, Below n w w' ∧ Cw w.heap.size w' rb ∧ RB w' b 1 0 (.iface 320 (.pointer (some ⟨rb, 0, none⟩))) (.slice none 0 0)
theorem slow_any (b n : Nat) (hn : n ≤ b) (ob oc : Nat) (w : World) (hnw : n ≤ w.heap.size) (h : RB w b 0 0 .nilIface (.slice (some ⟨ob, 0, none⟩) 6 oc)) (hs : Ax w (some ⟨ob, 0, none⟩) quoteOld) (hob : ob ≠ b) :
  Calls Tryz.prog 275 #[.pointer (some ⟨b, 0, none⟩), .func (.func 272) #[.pointer (some ⟨b, 0, none⟩)] #[]] w (PSlow b n w) := by
 obtain ⟨hbl, g0, g1, g2, g3, g4, k0, k1, k2, k3, k4⟩ := five_facts h;have h1 : RB (w.setCell ⟨b, 1, none⟩ (.int .i32 1)) b 0 1 .nilIface (.slice (some ⟨ob, 0, none⟩) 6 oc) := by
  unfold RB at h ⊢;rw [set_same h 1];rfl
 have aJ : Ax (w.setCell ⟨b, 1, none⟩ (.int .i32 1)) (some ⟨ob, 0, none⟩) quoteOld := fun j x hj => by
  obtain ⟨b', off, e, hc⟩ := hs j x hj;cases e;exact ⟨ob, 0, rfl, (World.cell?_setCell_other _ _ _ _ (by simp)).trans hc⟩
 have HD := Lq7 (Nt ⟨b, 0, none⟩ 0 (w.setCell ⟨b, 1, none⟩ (.int .i32 1)) ((World.cell?_setCell_other _ ⟨b, 1, none⟩ ⟨b, 0, none⟩ _ (by simp)).trans g0));have aG : ∀ (x : Bool) (w : World), (Op.unary .not (.bool x)).run Tryz.prog w = .ok (.bool (!x)) w := fun _ _ => rfl;have HB := Lq7 (Mz b n hn 1 ob oc _ (by simpa using hnw) h1 aJ);have HL := Lq7 (Un ⟨b, 1, none⟩ w g1 k1);clear hs aJ h1 g1 g2 g3 g4 k0 k1 k2 k3 k4
 go_enter_defers Tryz.func275, Tryz.ntmps275
 go_wp2_with fail;refine HL.out.mono ?_;rintro e w' ⟨rfl, rfl⟩;go_wp2_with fail;refine HD.out.mono ?_;rintro e w' ⟨rfl, rfl⟩;go_wp2_with fail;refine HB.out.mono ?_;rintro e w2 ⟨rfl, rb, aH, aB, aI⟩;have H2 := Lq7 (And.intro aH (And.intro aB aI));obtain ⟨-, q0, q1, q2, q3, q4, l0, l1, l2, l3, l4⟩ := five_facts aI;have hs2 : w.heap.size ≤ w2.heap.size := by
  have := here h;have h3 := aB;obtain ⟨d, v, -, -, -, -, -, h9⟩ := h3;have := aH.size
  simpa using this
 clear HB HL aH aB aI;go_wp2_with fail;refine leaves_cons (f := 280) (args := #[.pointer (some ⟨b, 0, none⟩), .bool true]) (by simp) (by simp [go_sem]) ?_;refine (L9 ⟨b, 0, none⟩ (.int .u32 0) .returning _ q0 l0).mono ?_;rintro e u' w'' ⟨rfl, rfl, rfl⟩;refine leaves_cons (f := 279) (args := #[.pointer (some ⟨b, 1, none⟩)]) (by simp [settle]) (by simp [go_sem]) ?_;refine (Lb ⟨b, 1, none⟩ _ _ ?_ (by simp [l1])).mono ?_
 ·refine (World.cell?_setCell_other _ ⟨b, 0, none⟩ ⟨b, 1, none⟩ _ (by simp)).trans ?_;rw [World.cell?_drew];exact q1
 rintro e u' w'' ⟨rfl, rfl, rfl⟩;have aC : ∃ rb, Below n w (((w2.drew).setCell ⟨b, 0, none⟩ (.int .u32 1)).setCell ⟨b, 1, none⟩ (.int .i32 0)) ∧ Cw w.heap.size (((w2.drew).setCell ⟨b, 0, none⟩ (.int .u32 1)).setCell ⟨b, 1, none⟩ (.int .i32 0)) rb ∧ RB (((w2.drew).setCell ⟨b, 0, none⟩ (.int .u32 1)).setCell ⟨b, 1, none⟩ (.int .i32 0)) b 1 0 (.iface 320 (.pointer (some ⟨rb, 0, none⟩))) (.slice none 0 0) := by
  obtain ⟨h1, h2, h3⟩ := H2.out;have aE : Below n w (w.setCell ⟨b, 1, none⟩ (.int .i32 1)) := (Below.refl n w).setCell (p := ⟨b, 1, none⟩) hn _;have hd1 : Below n w w2 := ⟨h1.os.trans aE.os, h1.tape.trans aE.tape, h1.output.trans aE.output, nlt aE.size h1.size, fun k hk => (h1.block k hk).trans (aE.block k hk)⟩;refine ⟨rb, ((hd1.drew).setCell (p := ⟨b, 0, none⟩) hn _).setCell (p := ⟨b, 1, none⟩) hn _, ?_, ?_⟩
  ·have h2' : Cw w.heap.size w2 rb := (by simpa using h2);refine h2'.keep fun k hk hl => ?_;rw [set_other (by omega), set_other (by omega)];rfl
  ·unfold RB at h3 ⊢;have h3' : w2.drew.heap[b]? = _ := h3;rw [set_same (set_same h3' 0 _) 1];rfl
 have hf2 : PSlow b n w (.returned (.tuple #[])) (((w2.drew).setCell ⟨b, 0, none⟩ (.int .u32 1)).setCell ⟨b, 1, none⟩ (.int .i32 0)) := ⟨rfl, aC⟩;clear H2 aC
 simpa [Leaves, settle, results, Tryz.results275] using hf2
theorem once_any (b n : Nat) (hn : n ≤ b) (ob oc : Nat) (w : World) (hnw : n ≤ w.heap.size) (h : RB w b 0 0 .nilIface (.slice (some ⟨ob, 0, none⟩) 6 oc)) (hs : Ax w (some ⟨ob, 0, none⟩) quoteOld) (hob : ob ≠ b) :
  Calls Tryz.prog 271 #[.pointer (some ⟨b, 0, none⟩), .func (.func 272) #[.pointer (some ⟨b, 0, none⟩)] #[]] w (PSlow b n w) := by
 obtain ⟨hbl, g0, -⟩ := five_facts h;have aG : ∀ (x : Bool) (w : World), (Op.unary .not (.bool x)).run Tryz.prog w = .ok (.bool (!x)) w := fun _ _ => rfl;have HD := Lq7 (Nt ⟨b, 0, none⟩ 0 w g0);have HS := Lq7 (slow_any b n hn ob oc w hnw h hs hob);clear h hs g0;go_enter Tryz.func271, Tryz.ntmps271;go_wp2_with fail;refine HD.out.mono ?_;rintro e w' ⟨rfl, rfl⟩;go_wp2_with fail;refine HS.out.mono ?_;rintro e w2 ⟨rfl, hf⟩;go_wp2_with fail
 go_end0
 exact ⟨rfl, hf⟩
end Go.Proofs.YtcofbdjakicojaaGreatDoor
