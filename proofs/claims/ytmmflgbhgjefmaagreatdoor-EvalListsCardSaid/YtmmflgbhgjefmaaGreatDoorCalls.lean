/-
  The walks of the plain host's table of calls.
-/
import Derived.Test.YtmmflgbhgjefmaaGreatDoorRawMap
import Derived.Test.YtmmflgbhgjefmaaGreatDoorMOwnS
import Derived.StringKeys
import Derived.Laws.EntriesVeiled
namespace Go.Proofs.YtmmflgbhgjefmaaGreatDoor
open Go Go.RowKit Go.Maps Go.WideMaps

set_option maxRecDepth 100000 in
theorem part_any (g : Nat) (w : World) : Calls Tryz.prog 210 #[.func (.func g) #[] #[]] w (fun e w' => ∃ b, e = .returned (.agg #[.int .i64 1, .func (.func 225) #[] #[.pointer (some ⟨b, 0, none⟩)]]) ∧ Below w.heap.size w w') := by
  have hmf : ∀ (fn : Fn) (first cap : Array Value) (w : World), (Instr.makeFunc fn first cap).run Tryz.prog w = .ok (.func fn first cap) w := fun _ _ _ _ => rfl
  go_enter Tryz.func210, Tryz.ntmps210
  go_wp2
  refine bodyPost_ret (v := .agg #[.int .i64 1, .func (.func 225) #[] #[.pointer (some ⟨w.heap.size, 0, none⟩)]]) (by simp [results, Tryz.results210, go_sem]) rfl ?_
  exact ⟨_, rfl, (((Below.refl _ w).alloc (Nat.le_refl _) _).alloc (by simp) _)⟩

/-- A key that isn't there is stored. -/
theorem RawMap.add {P : Program} {k e t : TypeId} {w : World} {b : Nat} {m : List (Value × Value)} (h : RawMap w b m) (K : Keyed P k) (ht : P.underlying t = some (.map k e)) (hk : KeysOk P k m) {key : Value} {kl : Lit} (hkey : keyOf P k key = some kl) (val : Value) (hn : ∀ p ∈ m, p.1 ≠ key) :
    ∃ o, (Instr.mapUpdate t (.map (some b)) key val).run P w = .ok () (w.putObj b o) ∧ RawMap (w.putObj b o) b (m ++ [(key, val)]) ∧ KeysOk P k (m ++ [(key, val)]) := by
  obtain ⟨o, m', h1, h2, h3⟩ := h.store K ht hk hkey val
  have h4 := h3.keys hk hkey
  rcases h3 with ⟨-, rfl⟩ | ⟨j, v, hj, rfl⟩
  · exact ⟨o, h1, h2, h4⟩
  · exact absurd rfl (hn _ (List.mem_of_getElem? hj))
theorem below_put {w w' : World} {b : Nat} (h : Below w.heap.size w w') (hb : w.heap.size ≤ b) (o : Obj) : Below w.heap.size w (w'.putObj b o) :=
  ⟨h.os, h.tape, h.output, by simpa [World.putObj] using h.size, fun k hk => (World.putObj_heap_other (by omega)).trans (h.block k hk)⟩

/-- How the table stands while it is made. -/
def TabAt (w0 w : World) (b : Nat) (m : List (Value × Value)) : Prop := RawMap w b m ∧ KeysOk Tryz.prog 9 m ∧ Below w0.heap.size w0 w
theorem TabAt.add {w0 w : World} {b : Nat} {m : List (Value × Value)} (h : TabAt w0 w b m) (hb : w0.heap.size ≤ b) (s : ByteArray) (hs : s.size ≤ maxLen) (val : Value) (hn : ∀ p ∈ m, p.1 ≠ .string s) :
    ∃ w', (Instr.mapUpdate 222 (.map (some b)) (.string s) val).run Tryz.prog w = .ok () w' ∧ TabAt w0 w' b (m ++ [(.string s, val)]) := by
  obtain ⟨o, h1, h2, h3⟩ := h.1.add (string_keyed Tryz.underlying9) Tryz.underlying222 h.2.1 (keyOf_string_mk Tryz.underlying9 hs) val hn
  exact ⟨_, h1, h2, h3, below_put h.2.2 hb o⟩
theorem TabAt.below {w0 w w' : World} {b : Nat} {m : List (Value × Value)} (h : TabAt w0 w b m) (hb : Below w.heap.size w w') : TabAt w0 w' b m := ⟨h.1.below hb, h.2.1, h.2.2.trans (hb.mono h.2.2.size)⟩

/-- The table's row: how many arguments, and which function. -/
def doesV (n : Int) (f : Nat) : Value := .agg #[.int .i64 n, .func (.func f) #[] #[]]
def strK (l : List UInt8) : Value := .string ⟨l.toArray⟩
def callsHead : List (Value × Value) :=
  [(strK [108, 101, 110], doesV 1 204), (strK [106, 111, 105, 110], doesV 2 205), (strK [108, 105, 110, 101, 115], doesV 1 206), (strK [115, 111, 114, 116, 101, 100], doesV 1 207),
   (strK [115, 116, 114], doesV 1 208), (strK [114, 101, 112, 108, 97, 99, 101], doesV 3 209)]
def partV (b : Nat) : Value := .agg #[.int .i64 1, .func (.func 225) #[] #[.pointer (some ⟨b, 0, none⟩)]]
def callsM (b1 b2 b3 : Nat) : List (Value × Value) := callsHead ++ [(strK [115, 116, 101, 109], partV b1)] ++ [(strK [101, 120, 116], partV b2)] ++ [(strK [98, 97, 115, 101], partV b3)]

set_option maxRecDepth 100000 in
set_option maxHeartbeats 2000000 in
theorem calls_any (w : World) : Calls Tryz.prog 203 #[] w (fun e w' => ∃ b1 b2 b3, e = .returned (.map (some w.heap.size)) ∧ RawMap w' w.heap.size (callsM b1 b2 b3) ∧ Below w.heap.size w w') := by
  have hmm := @run_makeMap Tryz.prog
  have t0 : TabAt w (w.alloc (.map #[] 0)) w.heap.size [] := ⟨RawMap.made w, (by intro p hp; cases hp), (Below.refl _ w).alloc (Nat.le_refl _) _⟩
  obtain ⟨W1, r0, t1⟩ := t0.add (Nat.le_refl _) ⟨#[108, 101, 110]⟩ (by decide) (doesV 1 204) (by simp [strK])
  clear t0
  unfold doesV at r0
  obtain ⟨W2, r1, t2⟩ := t1.add (Nat.le_refl _) ⟨#[106, 111, 105, 110]⟩ (by decide) (doesV 2 205) (by simp [strK])
  clear t1
  unfold doesV at r1
  obtain ⟨W3, r2, t3⟩ := t2.add (Nat.le_refl _) ⟨#[108, 105, 110, 101, 115]⟩ (by decide) (doesV 1 206) (by simp [strK])
  clear t2
  unfold doesV at r2
  obtain ⟨W4, r3, t4⟩ := t3.add (Nat.le_refl _) ⟨#[115, 111, 114, 116, 101, 100]⟩ (by decide) (doesV 1 207) (by simp [strK])
  clear t3
  unfold doesV at r3
  obtain ⟨W5, r4, t5⟩ := t4.add (Nat.le_refl _) ⟨#[115, 116, 114]⟩ (by decide) (doesV 1 208) (by simp [strK])
  clear t4
  unfold doesV at r4
  obtain ⟨W6, r5, t6⟩ := t5.add (Nat.le_refl _) ⟨#[114, 101, 112, 108, 97, 99, 101]⟩ (by decide) (doesV 3 209) (by simp [strK])
  clear t5
  unfold doesV at r5
  have T := Lib.hid t6
  clear t6
  go_enter Tryz.func203, Tryz.ntmps203
  go_wp2_with fail
  refine (part_any _ _).mono ?_
  rintro e V6 ⟨b6, rfl, hb⟩
  have t6 := T.out.below hb
  clear T hb
  obtain ⟨W7, r6, t7⟩ := t6.add (Nat.le_refl _) ⟨#[115, 116, 101, 109]⟩ (by decide) (partV b6) (by simp [strK])
  clear t6
  unfold partV at r6
  have T := Lib.hid t7
  clear t7
  go_wp2_with fail
  refine (part_any _ _).mono ?_
  rintro e V7 ⟨b7, rfl, hb⟩
  have t7 := T.out.below hb
  clear T hb
  obtain ⟨W8, r7, t8⟩ := t7.add (Nat.le_refl _) ⟨#[101, 120, 116]⟩ (by decide) (partV b7) (by simp [strK])
  clear t7
  unfold partV at r7
  have T := Lib.hid t8
  clear t8
  go_wp2_with fail
  refine (part_any _ _).mono ?_
  rintro e V8 ⟨b8, rfl, hb⟩
  have t8 := T.out.below hb
  clear T hb
  obtain ⟨W9, r8, t9⟩ := t8.add (Nat.le_refl _) ⟨#[98, 97, 115, 101]⟩ (by decide) (partV b8) (by simp [strK])
  clear t8
  unfold partV at r8
  have T := Lib.hid t9
  clear t9
  go_wp2_with fail
  go_ret
  exact ⟨_, _, _, rfl, T.out.1, T.out.2.2⟩
end Go.Proofs.YtmmflgbhgjefmaaGreatDoor
