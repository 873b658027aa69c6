/-
  The walks of the plain host's table of calls.
-/
import Derived.Test.YtcofbdjakicojaaGreatDoorMRawMap
import Derived.Test.YtcofbdjakicojaaGreatDoorMSix
import Derived.StringKeys
import Derived.Laws.EntriesVeiled
namespace Go.Proofs.YtcofbdjakicojaaGreatDoor
open List renaming mem_of_getElem? → lgM
open Nat renaming le_refl → nlr
open Go.Lib renaming hid → Lq7
set_option maxRecDepth 100000
set_option maxHeartbeats 16000000
open Go Go.RowKit Go.Maps Go.WideMaps
def Id (m : Nat) (w : World) (b g : Nat) : Prop := m < b ∧ w.heap[b]? = some (.cells #[.func (.func g) #[] #[]] 77 (0, 0))
theorem Id.below {m : Nat} {w w' : World} {b g : Nat} (h : Id m w b g) (hb : Below w.heap.size w w') : Id m w' b g := ⟨h.1, (hb.block b (Array.getElem?_eq_some_iff.1 h.2).1).trans h.2⟩
theorem Id.put {w : World} {m b g : Nat} (h : Id m w b g) (o : Obj) : Id m (w.putObj m o) b g := ⟨h.1, (World.putObj_heap_other (by have := h.1; omega)).trans h.2⟩
theorem Lm (g m : Nat) (w : World) (hm : m < w.heap.size) : Calls Tryz.prog 231 #[.func (.func g) #[] #[]] w (fun e w' => ∃ b, e = .returned (.agg #[.int .i64 1, .func (.func 245) #[] #[.pointer (some ⟨b, 0, none⟩)]]) ∧ Below w.heap.size w w' ∧ Id m w' b g) := by
 have hmf : ∀ (fn : Fn) (first cap : Array Value) (w : World), (Instr.makeFunc fn first cap).run Tryz.prog w = .ok (.func fn first cap) w := fun _ _ _ _ => rfl;have Hb : Hid (Id m (w.alloc (.cells #[.func (.func g) #[] #[]] 77)) w.heap.size g) := Lq7 ⟨hm, heap_alloc_new w _⟩;go_enter Tryz.func231, Tryz.ntmps231;go_wp2;refine bodyPost_ret (v := .agg #[.int .i64 1, .func (.func 245) #[] #[.pointer (some ⟨w.heap.size, 0, none⟩)]]) (by simp [results, Tryz.results231, go_sem]) rfl ?_;exact ⟨_, rfl, (((Below.refl _ w).alloc (nlr _) _).alloc (by simp) _), Hb.out.below ((Below.refl _ _).alloc (nlr _) _)⟩
theorem Bc.add {P : Program} {k e t : TypeId} {w : World} {b : Nat} {m : List (Value × Value)} (h : Bc w b m) (K : Keyed P k) (ht : P.underlying t = some (.map k e)) (hk : Gd P k m) {key : Value} {kl : Lit} (hkey : keyOf P k key = some kl) (val : Value) (hn : ∀ p ∈ m, p.1 ≠ key) :
  ∃ o, (Instr.mapUpdate t (.map (some b)) key val).run P w = .ok () (w.putObj b o) ∧ Bc (w.putObj b o) b (m ++ [(key, val)]) ∧ Gd P k (m ++ [(key, val)]) := by
 obtain ⟨o, m', h1, h2, h3⟩ := h.store K ht hk hkey val;have h4 := h3.keys hk hkey;rcases h3 with ⟨-, rfl⟩ | ⟨j, v, hj, rfl⟩
 ·exact ⟨o, h1, h2, h4⟩
 ·exact absurd rfl (hn _ (lgM hj))
theorem Tx {w w' : World} {b : Nat} (h : Below w.heap.size w w') (hb : w.heap.size ≤ b) (o : Obj) : Below w.heap.size w (w'.putObj b o) :=
 ⟨h.os, h.tape, h.output, by simpa [World.putObj] using h.size, fun k hk => (World.putObj_heap_other (by omega)).trans (h.block k hk)⟩
def Ln (w0 w : World) (b : Nat) (m : List (Value × Value)) : Prop := Bc w b m ∧ Gd Tryz.prog 9 m ∧ Below w0.heap.size w0 w
theorem Ln.add {w0 w : World} {b : Nat} {m : List (Value × Value)} (h : Ln w0 w b m) (hb : w0.heap.size ≤ b) (s : ByteArray) (hs : s.size ≤ maxLen) (val : Value) (hn : ∀ p ∈ m, p.1 ≠ .string s) :
  ∃ w', (Instr.mapUpdate 255 (.map (some b)) (.string s) val).run Tryz.prog w = .ok () w' ∧ Ln w0 w' b (m ++ [(.string s, val)]) ∧ ∀ g c, Id b w g c → Id b w' g c := by
 obtain ⟨o, h1, h2, h3⟩ := h.1.add (string_keyed Tryz.underlying9) Tryz.underlying255 h.2.1 (keyOf_string_mk Tryz.underlying9 hs) val hn;exact ⟨_, h1, ⟨h2, h3, Tx h.2.2 hb o⟩, fun g c hp => hp.put o⟩
theorem Ln.below {w0 w w' : World} {b : Nat} {m : List (Value × Value)} (h : Ln w0 w b m) (hb : Below w.heap.size w w') : Ln w0 w' b m := ⟨h.1.below hb, h.2.1, h.2.2.trans (hb.mono h.2.2.size)⟩
def B3 (n : Int) (f : Nat) : Value := .agg #[.int .i64 n, .func (.func f) #[] #[]]
def Cc (l : List UInt8) : Value := .string ⟨l.toArray⟩
def callsHead : List (Value × Value) :=
  [(Cc [108, 101, 110], B3 1 225), (Cc [106, 111, 105, 110], B3 2 226), (Cc [108, 105, 110, 101, 115], B3 1 227), (Cc [115, 111, 114, 116, 101, 100], B3 1 228),
   (Cc [115, 116, 114], B3 1 229), (Cc [114, 101, 112, 108, 97, 99, 101], B3 3 230)]
def Gm (b : Nat) : Value := .agg #[.int .i64 1, .func (.func 245) #[] #[.pointer (some ⟨b, 0, none⟩)]]
def A2 (b1 b2 b3 : Nat) : List (Value × Value) := callsHead ++ [(Cc [115, 116, 101, 109], Gm b1)] ++ [(Cc [101, 120, 116], Gm b2)] ++ [(Cc [98, 97, 115, 101], Gm b3)]
theorem El (w : World) : Calls Tryz.prog 224 #[] w (fun e w' => ∃ b1 b2 b3, e = .returned (.map (some w.heap.size)) ∧ Bc w' w.heap.size (A2 b1 b2 b3) ∧ Below w.heap.size w w' ∧ Id w.heap.size w' b1 232 ∧ Id w.heap.size w' b2 235 ∧ Id w.heap.size w' b3 234) := by
 have hmm := @run_makeMap Tryz.prog;have t0 : Ln w (w.alloc (.map #[] 0)) w.heap.size [] := ⟨Bc.made w, (by intro p hp; cases hp), (Below.refl _ w).alloc (nlr _) _⟩;obtain ⟨W1, r0, t1, -⟩ := t0.add (nlr _) ⟨#[108, 101, 110]⟩ (by decide) (B3 1 225) (by simp);clear t0;unfold B3 at r0;obtain ⟨W2, r1, t2, -⟩ := t1.add (nlr _) ⟨#[106, 111, 105, 110]⟩ (by decide) (B3 2 226) (by simp);clear t1;unfold B3 at r1;obtain ⟨W3, r2, t3, -⟩ := t2.add (nlr _) ⟨#[108, 105, 110, 101, 115]⟩ (by decide) (B3 1 227) (by simp);clear t2;unfold B3 at r2;obtain ⟨W4, r3, t4, -⟩ := t3.add (nlr _) ⟨#[115, 111, 114, 116, 101, 100]⟩ (by decide) (B3 1 228) (by simp);clear t3;unfold B3 at r3;obtain ⟨W5, r4, t5, -⟩ := t4.add (nlr _) ⟨#[115, 116, 114]⟩ (by decide) (B3 1 229) (by simp);clear t4;unfold B3 at r4;obtain ⟨W6, r5, t6, -⟩ := t5.add (nlr _) ⟨#[114, 101, 112, 108, 97, 99, 101]⟩ (by decide) (B3 3 230) (by simp);clear t5;unfold B3 at r5;have T := Lq7 t6;clear t6;go_enter Tryz.func224, Tryz.ntmps224;go_wp2_with fail;refine (Lm _ w.heap.size _ T.out.1.lt).mono ?_;rintro e V6 ⟨b6, rfl, hb, aB⟩;have t6 := T.out.below hb;clear T hb;obtain ⟨W7, r6, t7, k7⟩ := t6.add (nlr _) ⟨#[115, 116, 101, 109]⟩ (by decide) (Gm b6) (by simp);clear t6;have aB := k7 _ _ aB;unfold Gm at r6;have T := Lq7 (And.intro t7 aB);clear t7 k7 aB;go_wp2_with fail;refine (Lm _ w.heap.size _ T.out.1.1.lt).mono ?_;rintro e V7 ⟨b7, rfl, hb, aC⟩;have t7 := T.out.1.below hb;have aB := T.out.2.below hb;clear T hb;obtain ⟨W8, r7, t8, k8⟩ := t7.add (nlr _) ⟨#[101, 120, 116]⟩ (by decide) (Gm b7) (by simp);clear t7;have aB := k8 _ _ aB;have aC := k8 _ _ aC;unfold Gm at r7;have T := Lq7 (And.intro t8 (And.intro aB aC));clear t8 k8 aB aC;go_wp2_with fail;refine (Lm _ w.heap.size _ T.out.1.1.lt).mono ?_;rintro e V8 ⟨b8, rfl, hb, aE⟩;have t8 := T.out.1.below hb;have aB := T.out.2.1.below hb;have aC := T.out.2.2.below hb;clear T hb;obtain ⟨W9, r8, t9, k9⟩ := t8.add (nlr _) ⟨#[98, 97, 115, 101]⟩ (by decide) (Gm b8) (by simp);clear t8;have aB := k9 _ _ aB;have aC := k9 _ _ aC;have aE := k9 _ _ aE;unfold Gm at r8;have T := Lq7 (And.intro t9 (And.intro aB (And.intro aC aE)));clear t9 k9 aB aC aE;go_wp2_with fail;go_ret;exact ⟨_, _, _, rfl, T.out.1.1, T.out.1.2.2, T.out.2⟩
end Go.Proofs.YtcofbdjakicojaaGreatDoor