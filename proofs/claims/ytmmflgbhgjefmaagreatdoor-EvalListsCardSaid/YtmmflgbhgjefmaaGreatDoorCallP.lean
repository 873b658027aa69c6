/-
  The walk of the plain host's Call, at a call that it knows, with as many arguments as it wants, none of them named.
-/
import Derived.Test.YtmmflgbhgjefmaaGreatDoorCalls
import Derived.Test.YtmmflgbhgjefmaaGreatDoorMTexts
import Derived.Test.YtmmflgbhgjefmaaGreatDoorNamed
import Derived.Test.YtmmflgbhgjefmaaGreatDoorRegionHeld
import Derived.Test.YtmmflgbhgjefmaaGreatDoorMEvK
namespace Go.Proofs.YtmmflgbhgjefmaaGreatDoor
open Go Go.RowKit Go.Maps Go.WideMaps

/-- The boxes of a call: what is called, and the result. -/
structure CB (w W : World) (x : Array Value) : Prop where
  below : Below w.heap.size w W
  c : W.heap[w.heap.size + 1]? = some (.cells x 26 (0, 0))
  r : W.heap[w.heap.size + 1 + 1]? = some (.cells #[.int .i64 0, .int .i64 0, .string ⟨#[]⟩, .slice none 0 0, .slice none 0 0] 31 (0, 0))
theorem CB.later {w W W' : World} {x : Array Value} (h : CB w W x) (hb : Below W.heap.size W W') : CB w W' x :=
  ⟨h.below.trans (hb.mono h.below.size), stays h.c hb, stays h.r hb⟩
theorem CB.new {w W : World} {x : Array Value} (h : CB w W x) {n : Nat} (hn : w.heap.size + 3 ≤ n) {W' : World} (hb : Below n W W') : CB w W' x :=
  ⟨h.below.trans (hb.mono (by omega)), (hb.block _ (by omega)).trans h.c, (hb.block _ (by omega)).trans h.r⟩
theorem cb_start (w : World) (o : Obj) (x : Array Value) : CB w (((w.alloc o).alloc (.cells x 26)).alloc (.cells #[.int .i64 0, .int .i64 0, .string ⟨#[]⟩, .slice none 0 0, .slice none 0 0] 31)) x := by
  obtain ⟨-, h2, h3, h4, -⟩ := alloc3 w o (.cells x 26) (.cells #[.int .i64 0, .int .i64 0, .string ⟨#[]⟩, .slice none 0 0, .slice none 0 0] 31)
  exact ⟨h4, h2, h3⟩

theorem zeroDoes (w : World) : (zeroValue 220).run Tryz.prog w = .ok (.agg #[.int .i64 0, .nilFunc]) w := by kernel_rfl
theorem callsKeys (b1 b2 b3 : Nat) : KeysOk Tryz.prog 9 (callsM b1 b2 b3) := by
  intro p hp
  simp only [callsM, callsHead, List.cons_append, List.nil_append, List.mem_cons, List.not_mem_nil, or_false] at hp
  rcases hp with rfl | rfl | rfl | rfl | rfl | rfl | rfl | rfl | rfl <;> exact ⟨_, keyOf_string_mk Tryz.underlying9 (by decide)⟩
/-- A name that the table knows. -/
def Knows (name : ByteArray) (n : Int) (fn : Nat) : Prop := ∀ b1 b2 b3, (.string name, doesV n fn) ∈ callsM b1 b2 b3 ∧ ∀ v, (.string name, v) ∈ callsM b1 b2 b3 → v = doesV n fn
theorem look_call {name : ByteArray} {n : Int} {fn : Nat} (hk : Knows name n fn) (hs : name.size ≤ maxLen) {W : World} {mb b1 b2 b3 : Nat} (h : RawMap W mb (callsM b1 b2 b3)) :
    (Instr.lookup 222 (.map (some mb)) (.string name) true).run Tryz.prog W = .ok (.tuple #[.agg #[.int .i64 n, .func (.func fn) #[] #[]], .bool true]) W := by
  rcases h.look true (string_keyed Tryz.underlying9) Tryz.underlying222 (zeroDoes W) (callsKeys b1 b2 b3) (keyOf_string_mk Tryz.underlying9 hs) with ⟨h1, -⟩ | ⟨j, v, h1, h2⟩
  · exact absurd rfl (h1 _ (hk b1 b2 b3).1)
  · obtain rfl := (hk b1 b2 b3).2 v (List.mem_of_getElem? h1)
    exact h2

set_option maxRecDepth 100000 in
set_option maxHeartbeats 4000000 in
theorem plain_call (fn : Nat) (name : ByteArray) (hs : name.size ≤ maxLen) (l : List (ByteArray × Vl)) (hk : Knows name l.length fn) (hen : ∀ args w, (callFunc fn args).run Tryz.prog w = .ok (.enter fn args) w) (r : Except Int Vl) (F : Nat → Prop) (a : Option Addr) (cap : Nat) (ln cl : Int) (w : World)
    (hr : RowAt F w a (namedsD l)) (hF : ∀ b, F b → b < w.heap.size) (hnm : ∀ q ∈ l, q.1 = ⟨#[]⟩) (hlen : l.length ≤ 1000)
    (hdo : ∀ (G : Nat → Prop) (a' : Option Addr) (cap' : Nat) (W : World), (∀ b, G b → b < W.heap.size) → RowAt G W a' (valsD (l.map (·.2))) → w.heap.size ≤ W.heap.size → Calls Tryz.prog fn #[.slice a' l.length cap'] W (PCall r W)) :
    Calls Tryz.prog 202 #[.agg #[], .agg #[.string name, .slice a l.length cap, .int .i64 ln, .int .i64 cl]] w (PCall r w) := by
  have hcb := cb_start w (.cells #[] 58) #[.string name, .slice a l.length cap, .int .i64 ln, .int .i64 cl]
  have H0 := Lib.hid hcb
  have Hr := Lib.hid (hr.below hcb.below)
  have Hr0 := Lib.hid hr
  have Hk := Lib.hid hk
  have Hdo := Lib.hid hdo
  have HF := Lib.hid hF
  have Hnm := Lib.hid hnm
  clear hcb hr hk hdo hF hnm
  go_enter Tryz.func202, Tryz.ntmps202
  go_wp2_with fail
  go_cut [6, 7] from 11 (fun v u wc => ∃ b : Nat, v = .pointer (some ⟨b, 0, none⟩) ∧ u = .bool true ∧ w.heap.size + 3 ≤ b ∧ Hid (CB w wc #[.string name, .slice a l.length cap, .int .i64 ln, .int .i64 cl]) ∧ Hid (wc.heap[b]? = some (.cells #[.int .i64 l.length, .func (.func fn) #[] #[]] 220 (0, 0))))
  case first =>
    have H1 : Hid (CB w (World.drew _) #[.string name, .slice a l.length cap, .int .i64 ln, .int .i64 cl]) := Lib.hid (H0.out.later (Below.refl _ _).drew)
    clear H0 Hr Hdo HF Hnm
    refine wp_region_turns (.s 1 (.s 2 (.b 0 (.b 3 (.s 4 (.s 5 (.s 6 (.h 7 (.h 8 (.s 9 .nil)))))) 7 (.h 3 (.s 4 (.s 5 (.s 6 (.h 8 (.s 9 .nil))))))) 7 (.h 0 (.h 3 (.s 4 (.s 5 (.s 6 (.h 8 (.s 9 .nil)))))))))) 99 (fun W' => W'.heap[w.heap.size + 1]? = some (.cells #[.string name, .slice a l.length cap, .int .i64 ln, .int .i64 cl] 26 (0, 0))) (by kernel_rfl) (by kernel_rfl) (fun c a d v w h => by cases d <;> exact h) H1.out.c ?_
    generalize World.drew _ = Wd at H1 ⊢
    refine turn_steady (.pointer (some ⟨w.heap.size + 1, 0, none⟩)) rfl rfl (fun W' hS => ?_) ?_
    · go_simp
    try simp only [List.getElem_toArray, List.getElem_cons_succ, List.getElem_cons_zero, Act.put, List.setIfInBounds_toArray, List.set_cons_zero, List.set_cons_succ]
    refine turn_steady (.string name) rfl rfl (fun W' hS => ?_) ?_
    · obtain ⟨s0, s1, s2, s3, s4⟩ := four_facts hS
      clear hS
      go_simp
    try simp only [List.getElem_toArray, List.getElem_cons_succ, List.getElem_cons_zero, Act.put, List.setIfInBounds_toArray, List.set_cons_zero, List.set_cons_succ]
    refine turn_both rfl rfl (fun K0 hK0 => ?_) (fun K7 hK7 => ?_)
    · go_wp2_with fail
      refine (calls_any _).mono ?_
      rintro e V ⟨b1, b2, b3, rfl, hmap, hb⟩
      have Hmap := Lib.hid hmap
      have HC := Lib.hid (H1.out.later hb)
      have hsz : w.heap.size + 3 ≤ V.heap.size := by have := here HC.out.r; omega
      generalize Wd.heap.size = mb at Hmap ⊢
      clear hmap hb H1
      go_wp2_with fail
      refine hK0 _ _ (fun _ => HC.out.c) ?_
      try simp only [List.getElem_toArray, List.getElem_cons_succ, List.getElem_cons_zero, Act.put, List.setIfInBounds_toArray, List.set_cons_zero, List.set_cons_succ]
      refine turn_both rfl rfl (fun K3 hK3 => ?_) (fun KA hKA => ?_)
      · have hlook := look_call Hk.out hs Hmap.out
        go_wp2_with fail
        clear hlook
        refine hK3 _ _ (fun _ => HC.out.c) ?_
        try simp only [List.getElem_toArray, List.getElem_cons_succ, List.getElem_cons_zero, Act.put, List.setIfInBounds_toArray, List.set_cons_zero, List.set_cons_succ]
        refine turn_steady (.tuple #[.agg #[.int .i64 l.length, .func (.func fn) #[] #[]], .bool true]) rfl rfl (fun W' hS => ?_) ?_
        · go_simp
        try simp only [List.getElem_toArray, List.getElem_cons_succ, List.getElem_cons_zero, Act.put, List.setIfInBounds_toArray, List.set_cons_zero, List.set_cons_succ]
        refine turn_steady (.agg #[.int .i64 l.length, .func (.func fn) #[] #[]]) rfl rfl (fun W' hS => ?_) ?_
        · go_simp
        try simp only [List.getElem_toArray, List.getElem_cons_succ, List.getElem_cons_zero, Act.put, List.setIfInBounds_toArray, List.set_cons_zero, List.set_cons_succ]
        refine turn_steady (.bool true) rfl rfl (fun W' hS => ?_) ?_
        · go_simp
        try simp only [List.getElem_toArray, List.getElem_cons_succ, List.getElem_cons_zero, Act.put, List.setIfInBounds_toArray, List.set_cons_zero, List.set_cons_succ]
        refine turn_heavy rfl (fun KA hKA => ?_)
        go_wp2_with fail
        have hba : Below V.heap.size V (V.alloc (.cells #[.int .i64 0, .nilFunc] 220)) := (Below.refl _ V).alloc (Nat.le_refl _) _
        have HC2 := Lib.hid (HC.out.later hba)
        have Hbx := Lib.hid (heap_alloc_new V (.cells #[.int .i64 0, .nilFunc] 220))
        refine hKA _ _ (fun _ => HC2.out.c) ?_
        generalize V.alloc _ = V2 at HC2 Hbx ⊢
        generalize V.heap.size = bx at Hbx hsz ⊢
        clear hba HC
        try simp only [List.getElem_toArray, List.getElem_cons_succ, List.getElem_cons_zero, Act.put, List.setIfInBounds_toArray, List.set_cons_zero, List.set_cons_succ]
        refine turn_heavy rfl (fun KS hKS => ?_)
        obtain ⟨p0, p1, p2, p3, p4⟩ := two_facts Hbx.out
        go_wp2_with fail
        have Hc9 := Lib.hid ((HC2.out.new (n := bx) (by omega) (Below.refl _ _ |>.setCell (p := ⟨bx, 0, none⟩) (Nat.le_refl _) (.int .i64 l.length))).new (n := bx) (by omega) (Below.refl _ _ |>.setCell (p := ⟨bx, 1, none⟩) (Nat.le_refl _) (.func (.func fn) #[] #[])))
        have Hb9 : Hid (((V2.setCell ⟨bx, 0, none⟩ (.int .i64 l.length)).setCell ⟨bx, 1, none⟩ (.func (.func fn) #[] #[])).heap[bx]? = some (.cells #[.int .i64 l.length, .func (.func fn) #[] #[]] 220 (0, 0))) := Lib.hid (by rw [set_same (set_same Hbx.out 0 _) 1]; rfl)
        refine hKS _ _ (fun _ => Hc9.out.c) ?_
        generalize World.setCell _ _ _ = W9 at Hc9 Hb9 ⊢
        try simp only [List.getElem_toArray, List.getElem_cons_succ, List.getElem_cons_zero, Act.put, List.setIfInBounds_toArray, List.set_cons_zero, List.set_cons_succ]
        clear p0 p1 p2 p3 p4 hKS
        refine turn_steady (.bool true) rfl rfl (fun W' hS => ?_) ?_
        · go_simp
        try simp only [List.getElem_toArray, List.getElem_cons_succ, List.getElem_cons_zero, Act.put, List.setIfInBounds_toArray, List.set_cons_zero, List.set_cons_succ]
        refine turn_end ?_
        try simp only [List.getElem_toArray, List.getElem_cons_succ, List.getElem_cons_zero, Act.put, List.setIfInBounds_toArray, List.set_cons_zero, List.set_cons_succ]
        go_wp2_with fail
        go_meet
        case rel => exact ⟨bx, rfl, rfl, by omega, Hc9, Hb9⟩
      · go_wp2_with fail
        have hba : Below V.heap.size V (V.alloc (.cells #[.int .i64 0, .nilFunc] 220)) := (Below.refl _ V).alloc (Nat.le_refl _) _
        have HC2 := Lib.hid (HC.out.later hba)
        have Hmap2 := Lib.hid (Hmap.out.below hba)
        have Hbx := Lib.hid (heap_alloc_new V (.cells #[.int .i64 0, .nilFunc] 220))
        refine hKA _ _ (fun _ => HC2.out.c) ?_
        generalize V.alloc _ = V2 at HC2 Hbx Hmap2 ⊢
        generalize V.heap.size = bx at Hbx hsz ⊢
        clear hba HC Hmap
        refine turn_heavy rfl (fun K3 hK3 => ?_)
        have hlook := look_call Hk.out hs Hmap2.out
        go_wp2_with fail
        clear hlook
        refine hK3 _ _ (fun _ => HC2.out.c) ?_
        try simp only [List.getElem_toArray, List.getElem_cons_succ, List.getElem_cons_zero, Act.put, List.setIfInBounds_toArray, List.set_cons_zero, List.set_cons_succ]
        refine turn_steady (.tuple #[.agg #[.int .i64 l.length, .func (.func fn) #[] #[]], .bool true]) rfl rfl (fun W' hS => ?_) ?_
        · go_simp
        try simp only [List.getElem_toArray, List.getElem_cons_succ, List.getElem_cons_zero, Act.put, List.setIfInBounds_toArray, List.set_cons_zero, List.set_cons_succ]
        refine turn_steady (.agg #[.int .i64 l.length, .func (.func fn) #[] #[]]) rfl rfl (fun W' hS => ?_) ?_
        · go_simp
        try simp only [List.getElem_toArray, List.getElem_cons_succ, List.getElem_cons_zero, Act.put, List.setIfInBounds_toArray, List.set_cons_zero, List.set_cons_succ]
        refine turn_steady (.bool true) rfl rfl (fun W' hS => ?_) ?_
        · go_simp
        try simp only [List.getElem_toArray, List.getElem_cons_succ, List.getElem_cons_zero, Act.put, List.setIfInBounds_toArray, List.set_cons_zero, List.set_cons_succ]
        refine turn_heavy rfl (fun KS hKS => ?_)
        obtain ⟨p0, p1, p2, p3, p4⟩ := two_facts Hbx.out
        go_wp2_with fail
        have Hc9 := Lib.hid ((HC2.out.new (n := bx) (by omega) (Below.refl _ _ |>.setCell (p := ⟨bx, 0, none⟩) (Nat.le_refl _) (.int .i64 l.length))).new (n := bx) (by omega) (Below.refl _ _ |>.setCell (p := ⟨bx, 1, none⟩) (Nat.le_refl _) (.func (.func fn) #[] #[])))
        have Hb9 : Hid (((V2.setCell ⟨bx, 0, none⟩ (.int .i64 l.length)).setCell ⟨bx, 1, none⟩ (.func (.func fn) #[] #[])).heap[bx]? = some (.cells #[.int .i64 l.length, .func (.func fn) #[] #[]] 220 (0, 0))) := Lib.hid (by rw [set_same (set_same Hbx.out 0 _) 1]; rfl)
        refine hKS _ _ (fun _ => Hc9.out.c) ?_
        generalize World.setCell _ _ _ = W9 at Hc9 Hb9 ⊢
        try simp only [List.getElem_toArray, List.getElem_cons_succ, List.getElem_cons_zero, Act.put, List.setIfInBounds_toArray, List.set_cons_zero, List.set_cons_succ]
        clear p0 p1 p2 p3 p4 hKS
        refine turn_steady (.bool true) rfl rfl (fun W' hS => ?_) ?_
        · go_simp
        try simp only [List.getElem_toArray, List.getElem_cons_succ, List.getElem_cons_zero, Act.put, List.setIfInBounds_toArray, List.set_cons_zero, List.set_cons_succ]
        refine turn_end ?_
        try simp only [List.getElem_toArray, List.getElem_cons_succ, List.getElem_cons_zero, Act.put, List.setIfInBounds_toArray, List.set_cons_zero, List.set_cons_succ]
        go_wp2_with fail
        go_meet
        case rel => exact ⟨bx, rfl, rfl, by omega, Hc9, Hb9⟩
    · go_wp2_with fail
      have hba : Below Wd.heap.size Wd (Wd.alloc (.cells #[.int .i64 0, .nilFunc] 220)) := (Below.refl _ Wd).alloc (Nat.le_refl _) _
      have hsz : w.heap.size + 3 ≤ Wd.heap.size := by have := here H1.out.r; omega
      have HC := Lib.hid (H1.out.later hba)
      have Hbx := Lib.hid (heap_alloc_new Wd (.cells #[.int .i64 0, .nilFunc] 220))
      refine hK7 _ _ (fun _ => HC.out.c) ?_
      generalize Wd.alloc _ = V at HC Hbx ⊢
      generalize Wd.heap.size = bx at Hbx hsz ⊢
      clear hba H1
      try simp only [List.getElem_toArray, List.getElem_cons_succ, List.getElem_cons_zero, Act.put, List.setIfInBounds_toArray, List.set_cons_zero, List.set_cons_succ]
      refine turn_heavy rfl (fun K0 hK0 => ?_)
      go_wp2_with fail
      refine (calls_any _).mono ?_
      rintro e V2 ⟨b1, b2, b3, rfl, hmap, hb⟩
      have Hmap := Lib.hid hmap
      have HC2 := Lib.hid (HC.out.later hb)
      have Hbx2 := Lib.hid (stays Hbx.out hb)
      generalize V.heap.size = mb at Hmap ⊢
      clear hmap hb HC Hbx
      go_wp2_with fail
      refine hK0 _ _ (fun _ => HC2.out.c) ?_
      try simp only [List.getElem_toArray, List.getElem_cons_succ, List.getElem_cons_zero, Act.put, List.setIfInBounds_toArray, List.set_cons_zero, List.set_cons_succ]
      refine turn_heavy rfl (fun K3 hK3 => ?_)
      have hlook := look_call Hk.out hs Hmap.out
      go_wp2_with fail
      clear hlook
      refine hK3 _ _ (fun _ => HC2.out.c) ?_
      try simp only [List.getElem_toArray, List.getElem_cons_succ, List.getElem_cons_zero, Act.put, List.setIfInBounds_toArray, List.set_cons_zero, List.set_cons_succ]
      refine turn_steady (.tuple #[.agg #[.int .i64 l.length, .func (.func fn) #[] #[]], .bool true]) rfl rfl (fun W' hS => ?_) ?_
      · go_simp
      try simp only [List.getElem_toArray, List.getElem_cons_succ, List.getElem_cons_zero, Act.put, List.setIfInBounds_toArray, List.set_cons_zero, List.set_cons_succ]
      refine turn_steady (.agg #[.int .i64 l.length, .func (.func fn) #[] #[]]) rfl rfl (fun W' hS => ?_) ?_
      · go_simp
      try simp only [List.getElem_toArray, List.getElem_cons_succ, List.getElem_cons_zero, Act.put, List.setIfInBounds_toArray, List.set_cons_zero, List.set_cons_succ]
      refine turn_steady (.bool true) rfl rfl (fun W' hS => ?_) ?_
      · go_simp
      try simp only [List.getElem_toArray, List.getElem_cons_succ, List.getElem_cons_zero, Act.put, List.setIfInBounds_toArray, List.set_cons_zero, List.set_cons_succ]
      refine turn_heavy rfl (fun KS hKS => ?_)
      obtain ⟨p0, p1, p2, p3, p4⟩ := two_facts Hbx2.out
      go_wp2_with fail
      have Hc9 := Lib.hid ((HC2.out.new (n := bx) (by omega) (Below.refl _ _ |>.setCell (p := ⟨bx, 0, none⟩) (Nat.le_refl _) (.int .i64 l.length))).new (n := bx) (by omega) (Below.refl _ _ |>.setCell (p := ⟨bx, 1, none⟩) (Nat.le_refl _) (.func (.func fn) #[] #[])))
      have Hb9 : Hid (((V2.setCell ⟨bx, 0, none⟩ (.int .i64 l.length)).setCell ⟨bx, 1, none⟩ (.func (.func fn) #[] #[])).heap[bx]? = some (.cells #[.int .i64 l.length, .func (.func fn) #[] #[]] 220 (0, 0))) := Lib.hid (by rw [set_same (set_same Hbx2.out 0 _) 1]; rfl)
      refine hKS _ _ (fun _ => Hc9.out.c) ?_
      generalize World.setCell _ _ _ = W9 at Hc9 Hb9 ⊢
      try simp only [List.getElem_toArray, List.getElem_cons_succ, List.getElem_cons_zero, Act.put, List.setIfInBounds_toArray, List.set_cons_zero, List.set_cons_succ]
      clear p0 p1 p2 p3 p4 hKS
      refine turn_steady (.bool true) rfl rfl (fun W' hS => ?_) ?_
      · go_simp
      try simp only [List.getElem_toArray, List.getElem_cons_succ, List.getElem_cons_zero, Act.put, List.setIfInBounds_toArray, List.set_cons_zero, List.set_cons_succ]
      refine turn_end ?_
      try simp only [List.getElem_toArray, List.getElem_cons_succ, List.getElem_cons_zero, Act.put, List.setIfInBounds_toArray, List.set_cons_zero, List.set_cons_succ]
      go_wp2_with fail
      go_meet
      case rel => exact ⟨bx, rfl, rfl, by omega, Hc9, Hb9⟩
  case rest =>
    obtain ⟨b, hv6, hv7, hbb, Hcb, Hbx⟩ := hcut
    subst hv6 hv7
    clear H0
    have Hrc := Lib.hid (Hr0.out.below Hcb.out.below)
    obtain ⟨q0, q1, q2, q3, q4⟩ := four_facts Hcb.out.c
    obtain ⟨i0, hi, hz0, hz1, hz2⟩ := info_parts infoVal
    clear Hr
    go_wp2_with fail
    go_loopw [8, 24] (fun v i wr => ∃ j : Nat, i = .int .i64 j ∧ j ≤ l.length ∧ Hid (OwnD (fun b => F b ∨ wc.heap.size ≤ b) wr wc.heap.size 31 5 v (valsD ((l.map (·.2)).take j))) ∧ Hid (Below wc.heap.size wc wr)) (fun _ i _ => l.length - (intOf i).toNat)
    case atStart => exact ⟨0, rfl, Nat.zero_le _, Lib.hid (by rw [List.take_zero]; exact OwnD.nil _ _ _ _ _), Lib.hid (Below.refl _ _)⟩
    case round =>
      obtain ⟨j, rfl, hj, hown, hbw⟩ := hrel
      have hlj : (valsD ((l.map (·.2)).take j)).length = j := by rw [valsD_len, List.length_take, List.length_map]; omega
      obtain ⟨aO, cO, hO, hOr⟩ := hown.out.rowAt (fun g hg => .inr (hown.out.block_lt hg).1)
      rw [hlj] at hO
      subst hO
      by_cases hlt : j < l.length
      · cases hx : l[j] with
        | mk nm v =>
          obtain ⟨vk, vn, vs, vl, vks⟩ := v
          have hjx : l[j]? = some (nm, .mk vk vn vs vl vks) := by rw [List.getElem?_eq_getElem hlt, hx]
          obtain rfl : nm = ⟨#[]⟩ := Hnm.out _ (List.mem_of_getElem? hjx)
          obtain ⟨bb, off, x1, y1, x2, y2, hae, -, -, r0, r1, r2, r3, r4, r5, hv1, hv2⟩ := (Hrc.out.below hbw.out).named hjx
          have Htk : Hid (valsD ((l.map (·.2)).take (j + 1)) = valsD ((l.map (·.2)).take j) ++ [valD (.mk vk vn vs vl vks)]) := Lib.hid (by rw [List.take_add_one, List.getElem?_map, hjx, valsD_append]; simp [valsD])
          have Hv := Lib.hid (And.intro hv1 hv2)
          have Hown := Lib.hid hown.out
          have Hbw := Lib.hid hbw.out
          subst hae
          clear hx hjx hv1 hv2 hown hbw hOr
          have hsz := Hbw.out.size
          have hbn : Below wr.heap.size wr ((wr.alloc (.cells #[.string ⟨#[]⟩, .int .i64 vk, .int .i64 vn, .string vs, .slice x1 vl.length y1, .slice x2 vks.length y2] 33)).alloc (.cells #[.int .i64 vk, .int .i64 vn, .string vs, .slice x1 vl.length y1, .slice x2 vks.length y2] 31)) := ((Below.refl _ wr).alloc (Nat.le_refl _) _).alloc (by simp) _
          have Hown4 := Lib.hid (Hown.out.below hbn)
          have hnews := lit_news (wr.alloc (.cells #[.string ⟨#[]⟩, .int .i64 vk, .int .i64 vn, .string vs, .slice x1 vl.length y1, .slice x2 vks.length y2] 33)) [.int .i64 vk, .int .i64 vn, .string vs, .slice x1 vl.length y1, .slice x2 vks.length y2] 31
          rw [show (wr.alloc (.cells #[.string ⟨#[]⟩, .int .i64 vk, .int .i64 vn, .string vs, .slice x1 vl.length y1, .slice x2 vks.length y2] 33)).heap.size = wr.heap.size + 1 by simp] at hnews
          have Hnews := Lib.hid hnews
          have Hag : Hid (AggAt (fun b => (F b ∨ wc.heap.size ≤ b) ∧ (Value.slice aO j cO).ownBlock ≠ some b) ((wr.alloc (.cells #[.string ⟨#[]⟩, .int .i64 vk, .int .i64 vn, .string vs, .slice x1 vl.length y1, .slice x2 vks.length y2] 33)).alloc (.cells #[.int .i64 vk, .int .i64 vn, .string vs, .slice x1 vl.length y1, .slice x2 vks.length y2] 31)) (valD (.mk vk vn vs vl vks)) [.int .i64 vk, .int .i64 vn, .string vs, .slice x1 vl.length y1, .slice x2 vks.length y2]) := Lib.hid (AggAt.val_mk vk vn vs y1 y2 ((Hv.out.1.below hbn).wider (fun b hb _ => ⟨.inl hb, fun e => by have := (Hown.out.block_lt e).1; have := HF.out b hb; have := Hcb.out.below.size; omega⟩)) ((Hv.out.2.below hbn).wider (fun b hb _ => ⟨.inl hb, fun e => by have := (Hown.out.block_lt e).1; have := HF.out b hb; have := Hcb.out.below.size; omega⟩)))
          have Hobl : Hid (∀ g, (Value.slice aO j cO).ownBlock = some g → wc.heap.size ≤ g) := Lib.hid (fun g hg => (Hown.out.block_lt hg).1)
          have Hbw4 := Lib.hid (Hbw.out.trans (hbn.mono hsz))
          clear hbn hnews Hown Hbw Hv
          go_wp2_with (at_builtin; refine wpList_append_dat rfl _ _ 28 rfl wc.heap.size 31 i0 _ 5 80 Tryz.underlying28 hi hz0 hz1 hz2 rfl (by decide) (.slice aO j cO) (fun b => F b ∨ wc.heap.size ≤ b) (valsD ((l.map (·.2)).take j)) rfl Hown4.out ⟨wr.heap.size + 1, 0, none⟩ 1 (valD (.mk vk vn vs vl vks)) [.int .i64 vk, .int .i64 vn, .string vs, .slice x1 vl.length y1, .slice x2 vks.length y2] rfl rfl Hnews.out ?_ Hag.out ?_ ?_ ?_ ?_)
          · simp [Value.oneCell']
          · unfold maxLen; omega
          · omega
          · first | omega | (simp; omega)
          intro v5 w5 hown5 hgrow5 _
          have Hown5 : Hid (OwnD (fun b => F b ∨ wc.heap.size ≤ b) w5 wc.heap.size 31 5 v5 (valsD ((l.map (·.2)).take (j + 1)))) := Lib.hid (by rw [Htk.out]; exact hown5)
          have Hbw5 : Hid (Below wc.heap.size wc w5) := Lib.hid (Hbw4.out.trans (grown_below hgrow5 Hobl.out Hbw4.out.size))
          obtain ⟨aO5, cO5, hO5, -⟩ := Hown5.out.rowAt (fun g hg => .inr (Hown5.out.block_lt hg).1)
          subst hO5
          clear hown5 hgrow5 Hown4 Hbw4 Hnews Hag Hobl r0 r1 r2 r3 r4 r5
          go_wp2_with fail
          go_roundw
          case rel => exact ⟨j + 1, by go_num, by omega, Hown5, Hbw5⟩
          case measure => simp only [intOf]; omega
      · have hjl : j = l.length := by omega
        subst hjl
        have htk : (l.map (·.2)).take l.length = l.map (·.2) := List.take_of_length_le (by simp)
        rw [htk] at hOr
        have hok : ∀ b, F b ∨ wc.heap.size ≤ b → b < wr.heap.size → True := fun _ _ _ => trivial
        have Hc := Lib.hid (Hdo.out (fun b => (F b ∨ wc.heap.size ≤ b) ∧ b < wr.heap.size) aO cO wr (fun b hb => hb.2) hOr.here (Nat.le_trans Hcb.out.below.size hbw.out.size))
        have Hcb2 := Lib.hid (Hcb.out.later hbw.out)
        have Hbx2 := Lib.hid (stays Hbx.out hbw.out)
        obtain ⟨d0, d1, d2, d3, d4⟩ := two_facts Hbx2.out
        clear hok hbw hown hOr htk hlj
        go_wp2_with fail
        refine Hc.out.mono ?_
        rintro e w5 ⟨hb5, hq⟩
        have Hcb5 := Lib.hid (Hcb2.out.later hb5)
        have Hb5 := Lib.hid Hcb5.out.below
        have hw5 : w.heap.size + 3 ≤ wr.heap.size := by have := here Hcb2.out.r; omega
        obtain ⟨p0, p1, p2, p3, p4, p5, p6, p7, p8, p9, p10⟩ := five_facts Hcb5.out.r
        clear Hc hb5 d0 d1 d2 d3 d4 q0 q1 q2 q3 q4 Hcb2 Hbx2
        cases r with
        | error n =>
          obtain rfl : e = _ := hq
          unfold zeroV
          go_wp2_with fail
          have hr9 : ((((((w5.setCell ⟨w.heap.size + 1 + 1, 0, none⟩ (.int .i64 0)).setCell ⟨w.heap.size + 1 + 1, 1, none⟩ (.int .i64 0)).setCell ⟨w.heap.size + 1 + 1, 2, none⟩ (.string ⟨#[]⟩)).setCell ⟨w.heap.size + 1 + 1, 3, none⟩ (.slice none 0 0)).setCell ⟨w.heap.size + 1 + 1, 4, none⟩ (.slice none 0 0))).heap[w.heap.size + 1 + 1]? = some (.cells #[.int .i64 0, .int .i64 0, .string ⟨#[]⟩, .slice none 0 0, .slice none 0 0] 31 (0, 0)) := by rw [set_same (set_same (set_same (set_same (set_same Hcb5.out.r 0 _) 1 _) 2 _) 3 _) 4]; rfl
          have Hb9 : Hid (Below w.heap.size w ((((((w5.setCell ⟨w.heap.size + 1 + 1, 0, none⟩ (.int .i64 0)).setCell ⟨w.heap.size + 1 + 1, 1, none⟩ (.int .i64 0)).setCell ⟨w.heap.size + 1 + 1, 2, none⟩ (.string ⟨#[]⟩)).setCell ⟨w.heap.size + 1 + 1, 3, none⟩ (.slice none 0 0)).setCell ⟨w.heap.size + 1 + 1, 4, none⟩ (.slice none 0 0)))) := Lib.hid ((((((Hb5.out.setCell (p := ⟨w.heap.size + 1 + 1, 0, none⟩) (by show _ ≤ w.heap.size + 1 + 1; omega) (.int .i64 0)).setCell (p := ⟨w.heap.size + 1 + 1, 1, none⟩) (by show _ ≤ w.heap.size + 1 + 1; omega) (.int .i64 0)).setCell (p := ⟨w.heap.size + 1 + 1, 2, none⟩) (by show _ ≤ w.heap.size + 1 + 1; omega) (.string ⟨#[]⟩)).setCell (p := ⟨w.heap.size + 1 + 1, 3, none⟩) (by show _ ≤ w.heap.size + 1 + 1; omega) (.slice none 0 0)).setCell (p := ⟨w.heap.size + 1 + 1, 4, none⟩) (by show _ ≤ w.heap.size + 1 + 1; omega) (.slice none 0 0)))
          generalize World.setCell _ _ _ = W9 at hr9 Hb9 ⊢
          obtain ⟨p0, p1, p2, p3, p4, p5, p6, p7, p8, p9, p10⟩ := five_facts hr9
          refine bodyPost_ret (v := .tuple #[zeroV, .int .i64 n]) (by simp [zeroV, results, Tryz.results202, go_sem, p0, p1, p2, p3, p4, p5]) rfl ?_
          exact ⟨Hb9.out, rfl⟩
        | ok x =>
          obtain ⟨cs, rfl, hag⟩ := hq
          obtain ⟨yk, yn, ys, yl, yks⟩ := x
          obtain ⟨z1, f1, z2, f2, rfl, -, -⟩ := hag.val
          have Hag := Lib.hid hag
          clear hag
          go_wp2_with fail
          have hr9 : ((((((w5.setCell ⟨w.heap.size + 1 + 1, 0, none⟩ (.int .i64 yk)).setCell ⟨w.heap.size + 1 + 1, 1, none⟩ (.int .i64 yn)).setCell ⟨w.heap.size + 1 + 1, 2, none⟩ (.string ys)).setCell ⟨w.heap.size + 1 + 1, 3, none⟩ (.slice z1 yl.length f1)).setCell ⟨w.heap.size + 1 + 1, 4, none⟩ (.slice z2 yks.length f2))).heap[w.heap.size + 1 + 1]? = some (.cells #[.int .i64 yk, .int .i64 yn, .string ys, .slice z1 yl.length f1, .slice z2 yks.length f2] 31 (0, 0)) := by rw [set_same (set_same (set_same (set_same (set_same Hcb5.out.r 0 _) 1 _) 2 _) 3 _) 4]; rfl
          have Hb9 : Hid (Below w.heap.size w ((((((w5.setCell ⟨w.heap.size + 1 + 1, 0, none⟩ (.int .i64 yk)).setCell ⟨w.heap.size + 1 + 1, 1, none⟩ (.int .i64 yn)).setCell ⟨w.heap.size + 1 + 1, 2, none⟩ (.string ys)).setCell ⟨w.heap.size + 1 + 1, 3, none⟩ (.slice z1 yl.length f1)).setCell ⟨w.heap.size + 1 + 1, 4, none⟩ (.slice z2 yks.length f2)))) := Lib.hid ((((((Hb5.out.setCell (p := ⟨w.heap.size + 1 + 1, 0, none⟩) (by show _ ≤ w.heap.size + 1 + 1; omega) (.int .i64 yk)).setCell (p := ⟨w.heap.size + 1 + 1, 1, none⟩) (by show _ ≤ w.heap.size + 1 + 1; omega) (.int .i64 yn)).setCell (p := ⟨w.heap.size + 1 + 1, 2, none⟩) (by show _ ≤ w.heap.size + 1 + 1; omega) (.string ys)).setCell (p := ⟨w.heap.size + 1 + 1, 3, none⟩) (by show _ ≤ w.heap.size + 1 + 1; omega) (.slice z1 yl.length f1)).setCell (p := ⟨w.heap.size + 1 + 1, 4, none⟩) (by show _ ≤ w.heap.size + 1 + 1; omega) (.slice z2 yks.length f2)))
          have Hag9 : Hid (AggAt (fun b => w.heap.size ≤ b) ((((((w5.setCell ⟨w.heap.size + 1 + 1, 0, none⟩ (.int .i64 yk)).setCell ⟨w.heap.size + 1 + 1, 1, none⟩ (.int .i64 yn)).setCell ⟨w.heap.size + 1 + 1, 2, none⟩ (.string ys)).setCell ⟨w.heap.size + 1 + 1, 3, none⟩ (.slice z1 yl.length f1)).setCell ⟨w.heap.size + 1 + 1, 4, none⟩ (.slice z2 yks.length f2))) (valD (.mk yk yn ys yl yks)) [.int .i64 yk, .int .i64 yn, .string ys, .slice z1 yl.length f1, .slice z2 yks.length f2]) := Lib.hid (Hag.out.mono fun b hb hl => ⟨by show w.heap.size ≤ b; have : wr.heap.size ≤ b := hb; omega, by simpa using hl, by have : wr.heap.size ≤ b := hb; rw [set_other (by omega), set_other (by omega), set_other (by omega), set_other (by omega), set_other (by omega)]⟩)
          generalize World.setCell _ _ _ = W9 at hr9 Hb9 Hag9 ⊢
          obtain ⟨p0, p1, p2, p3, p4, p5, p6, p7, p8, p9, p10⟩ := five_facts hr9
          refine bodyPost_ret (v := .tuple #[.agg #[.int .i64 yk, .int .i64 yn, .string ys, .slice z1 yl.length f1, .slice z2 yks.length f2], .int .i64 0]) (by simp [results, Tryz.results202, go_sem, p0, p1, p2, p3, p4, p5]) rfl ?_
          exact ⟨Hb9.out, _, rfl, Hag9.out⟩
end Go.Proofs.YtmmflgbhgjefmaaGreatDoor
