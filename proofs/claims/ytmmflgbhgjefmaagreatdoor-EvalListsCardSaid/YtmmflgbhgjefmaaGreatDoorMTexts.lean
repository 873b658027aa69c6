/-
  The walks of the evaluator's put and made.
  The walks of the plain host's small functions: str, limited, length.
  The walk of value.Texts: the texts of a list of texts.
-/
import Derived.Deep.DeepCutAuto
import Derived.Test.YtmmflgbhgjefmaaGreatDoorEvB
import Derived.Test.YtmmflgbhgjefmaaGreatDoorMay
import Derived.Test.YtmmflgbhgjefmaaGreatDoorMOwnS
namespace Go.Proofs.YtmmflgbhgjefmaaGreatDoor
open Go Go.RowKit

theorem rises_keys : ∀ (l : List ByteArray) (p : Option ByteArray), risesGo p l = true → ∀ s ∈ l, s.size ≤ 65536
  | [], _, _, s, hs => by cases hs
  | x :: t, p, h, s, hs => by
    rw [risesGo_cons] at h
    simp only [Bool.and_eq_true, decide_eq_true_eq] at h
    rcases List.mem_cons.1 hs with rfl | hs
    · exact h.1.1
    · exact rises_keys t _ h.2 s hs
theorem str_empty {s : ByteArray} (h : s.toList = []) : s.size = 0 := by
  rw [Lib.toList_data] at h
  rw [← len_data, h]; rfl
theorem nodeOk_small {k n : Int} {s : ByteArray} {l : List Vl} {ks : List ByteArray} (h : nodeOk k n s l ks = true) : s.size ≤ 65536 ∧ l.length ≤ 1000 ∧ ks.length ≤ 1000 ∧ ∀ x ∈ ks, x.size ≤ 65536 := by
  unfold nodeOk at h
  split at h
  · simp only [Bool.and_eq_true, List.isEmpty_iff] at h
    obtain ⟨⟨⟨-, h2⟩, rfl⟩, rfl⟩ := h
    have := str_empty h2
    exact ⟨by omega, by simp, by simp, by simp⟩
  · split at h
    · simp only [Bool.and_eq_true, List.isEmpty_iff] at h
      obtain ⟨⟨⟨-, h2⟩, rfl⟩, rfl⟩ := h
      have := str_empty h2
      exact ⟨by omega, by simp, by simp, by simp⟩
    · split at h
      · simp only [Bool.and_eq_true, List.isEmpty_iff] at h
        obtain ⟨⟨h2, rfl⟩, rfl⟩ := h
        have := str_empty h2
        exact ⟨by omega, by simp, by simp, by simp⟩
      · split at h
        · simp only [Bool.and_eq_true, List.isEmpty_iff, decide_eq_true_eq] at h
          obtain ⟨⟨⟨-, h2⟩, rfl⟩, rfl⟩ := h
          exact ⟨h2, by simp, by simp, by simp⟩
        · split at h
          · simp only [Bool.and_eq_true, List.isEmpty_iff, decide_eq_true_eq] at h
            obtain ⟨⟨⟨-, h2⟩, h3⟩, rfl⟩ := h
            have := str_empty h2
            exact ⟨by omega, h3, by simp, by simp⟩
          · split at h
            · simp only [Bool.and_eq_true, beq_iff_eq] at h
              obtain ⟨⟨⟨-, h2⟩, h3⟩, h4⟩ := h
              have := str_empty (List.isEmpty_iff.1 h2)
              unfold risesL at h4
              simp only [Bool.and_eq_true, decide_eq_true_eq] at h4
              exact ⟨by omega, by omega, h4.2, rises_keys _ _ h4.1⟩
            · cases h
/-- What may be is small. -/
theorem may_small (v : Vl) : ∀ d m, (mayV v d m).1 = true → smallV v :=
  Vl.rec (motive_1 := fun v => ∀ d m, (mayV v d m).1 = true → smallV v) (motive_2 := fun l => ∀ d m, (mayVs l d m).1 = true → smallVs l)
    (fun k n s l ks ih d m h => by
      rw [mayV] at h
      split at h
      · cases h
      · split at h
        · rename_i hk
          obtain ⟨h1, h2, h3, h4⟩ := nodeOk_small hk
          rw [smallV]
          exact ⟨by omega, by omega, by omega, fun x hx => by have := h4 x hx; omega, ih _ _ h⟩
        · cases h)
    (fun _ _ _ => by rw [smallVs]; trivial)
    (fun v t hv ht d m h => by
      rw [mayVs] at h
      split at h
      · rename_i h1
        rw [smallVs]
        exact ⟨hv _ _ h1, ht _ _ h⟩
      · cases h) v
theorem check_small {v : Vl} (h : checkV v = true) : smallV v := may_small v _ _ h

set_option maxRecDepth 100000 in
set_option maxHeartbeats 2000000 in
theorem put_any (c : Ctx) (mp mb : Nat) (hv : Value) (st : St) (s : ByteArray) (v : Vl) (cs : List Value) (l k : Int) (w : World) (hm : MS c w mp mb hv st) (hs : s.size ≤ maxLen) (hc : AggAt c.F w (valD v) cs) (hck : checkV v = true) :
    Calls Tryz.prog 81 #[ptr mp, .string s, .agg cs.toArray, .agg #[.int .i64 l, .int .i64 k]] w (EP mp mb hv EUnit faultV c (ePut s v l k st) w) := by
  obtain ⟨vk, vn, vs, vl, vks⟩ := v
  obtain ⟨a1, c1, a2, c2, rfl, hr1, hr2⟩ := hc.val
  have Hm := Lib.hid hm
  have Hc := Lib.hid hc
  have Hck := Lib.hid hck
  clear hm hc hr1 hr2 hck
  unfold ptr
  have H0 := Lib.hid (alloc3 w (.cells #[.int .i64 vk, .int .i64 vn, .string vs, .slice a1 vl.length c1, .slice a2 vks.length c2] 31) (.cells #[.int .i64 l, .int .i64 k] 24) (.cells #[.int .i64 0, .int .i64 0, .int .i64 0] 89))
  cases hfx : (fixedV s).isSome with
  | true =>
    have Hr : Hid (ePut s (.mk vk vn vs vl vks) l k st = .err 7 l k) := Lib.hid (by unfold ePut; rw [hfx]; rfl)
    have Hfx := Lib.hid hfx
    clear hfx
    go_enter Tryz.func81, Tryz.ntmps81
    go_wp2_with fail
    refine (fixed_any s _).mono ?_
    rintro e w1 ⟨fs, rfl, hb1, -, -, fa, fb, f2, rfl⟩
    rw [Hfx.out]
    have H1 := Lib.hid (And.intro (stays H0.out.2.1 hb1) (And.intro (stays H0.out.2.2.1 hb1) (H0.out.2.2.2.1.trans (hb1.mono H0.out.2.2.2.1.size))))
    obtain ⟨b0, b1, b2, b3, b4⟩ := two_facts H1.out.1
    obtain ⟨d0, d1, d2, d3, d4, d5, d6⟩ := three_facts H1.out.2.1
    clear hb1
    go_wp2_with fail
    refine bodyPost_ret (v := faultV 7 l k) (by simp [faultV, results, Tryz.results81, go_sem, d0, d1, d2, d3]) rfl ?_
    rw [Hr.out]
    have hz := here H1.out.2.1
    exact ⟨c, .of_below c ((((H1.out.2.2.setCell (p := ⟨w.heap.size + 1 + 1, 0, none⟩) (by show _ ≤ w.heap.size + 1 + 1; omega) _).setCell (p := ⟨w.heap.size + 1 + 1, 1, none⟩) (by show _ ≤ w.heap.size + 1 + 1; omega) _).setCell (p := ⟨w.heap.size + 1 + 1, 2, none⟩) (by show _ ≤ w.heap.size + 1 + 1; omega) _).alloc (by simp only [World.size_setCell]; omega) _), rfl⟩
  | false =>
    have Hr : Hid (ePut s (.mk vk vn vs vl vks) l k st = .ok () { st with names := putN st.names s (.mk vk vn vs vl vks) }) := Lib.hid (by unfold ePut; rw [hfx]; rfl)
    have Hfx := Lib.hid hfx
    clear hfx
    go_enter Tryz.func81, Tryz.ntmps81
    go_wp2_with fail
    refine (fixed_any s _).mono ?_
    rintro e w1 ⟨fs, rfl, hb1, -, -, fa, fb, f2, rfl⟩
    rw [Hfx.out]
    have H1 := Lib.hid (And.intro (stays H0.out.1 hb1) (And.intro (stays H0.out.2.2.1 hb1) (H0.out.2.2.2.1.trans (hb1.mono H0.out.2.2.2.1.size))))
    clear hb1
    go_upto_region 4 with fail
    have hbx : Below w1.heap.size w1 (w1.alloc (.cells #[.int .i64 fa, .int .i64 fb, .string f2, .slice none 0 0, .slice none 0 0] 31)) := (Below.refl _ w1).alloc (Nat.le_refl _) _
    have H2 := Lib.hid (And.intro (stays H1.out.1 hbx) (And.intro (stays H1.out.2.1 hbx) (H1.out.2.2.trans (hbx.mono H1.out.2.2.size))))
    generalize World.alloc _ _ = W at H2 ⊢
    clear hbx H1 H0
    refine wp_region_turns (.s 0 (.s 1 (.s 2 (.s 3 (.s 4 (.s 5 (.h 6 .nil))))))) 6 (fun W' => W'.heap[mp]? = some (.cells #[.map (some mb), hv, .int .i64 st.left] 87 (0, 0)) ∧ W'.heap[w.heap.size]? = some (.cells #[.int .i64 vk, .int .i64 vn, .string vs, .slice a1 vl.length c1, .slice a2 vks.length c2] 31 (0, 0))) (by kernel_rfl) (by kernel_rfl) (fun c a d v w h => by cases d <;> exact h) ⟨(Hm.out.below H2.out.2.2).head, H2.out.1⟩ ?_
    have H3 := Lib.hid (And.intro (stays H2.out.2.1 ((Below.refl _ W).drew)) (H2.out.2.2.trans (((Below.refl _ W).drew).mono H2.out.2.2.size)))
    generalize W.drew = Wd at H3 ⊢
    clear H2
    refine turn_steady (.pointer (some ⟨mp, 0, none⟩)) rfl rfl (fun W' hS => ?_) ?_
    · go_simp
    try simp only [List.getElem_toArray, List.getElem_cons_succ, List.getElem_cons_zero, Act.put, List.setIfInBounds_toArray, List.set_cons_zero, List.set_cons_succ]
    refine turn_steady (.pointer (some ⟨mp, 0, none⟩)) rfl rfl (fun W' hS => ?_) ?_
    · go_simp
    try simp only [List.getElem_toArray, List.getElem_cons_succ, List.getElem_cons_zero, Act.put, List.setIfInBounds_toArray, List.set_cons_zero, List.set_cons_succ]
    refine turn_steady (.pointer (some ⟨mp, 0, none⟩)) rfl rfl (fun W' hS => ?_) ?_
    · go_simp
    try simp only [List.getElem_toArray, List.getElem_cons_succ, List.getElem_cons_zero, Act.put, List.setIfInBounds_toArray, List.set_cons_zero, List.set_cons_succ]
    refine turn_steady (.map (some mb)) rfl rfl (fun W' hS => ?_) ?_
    · obtain ⟨s0, s1, s2, s3, s4, s5, s6⟩ := three_facts hS.1
      clear hS
      go_simp
    try simp only [List.getElem_toArray, List.getElem_cons_succ, List.getElem_cons_zero, Act.put, List.setIfInBounds_toArray, List.set_cons_zero, List.set_cons_succ]
    refine turn_steady (.string s) rfl rfl (fun W' hS => ?_) ?_
    · go_simp
    try simp only [List.getElem_toArray, List.getElem_cons_succ, List.getElem_cons_zero, Act.put, List.setIfInBounds_toArray, List.set_cons_zero, List.set_cons_succ]
    refine turn_steady (.agg #[.int .i64 vk, .int .i64 vn, .string vs, .slice a1 vl.length c1, .slice a2 vks.length c2]) rfl rfl (fun W' hS => ?_) ?_
    · obtain ⟨s0, s1, s2, s3, s4, s5, s6, s7, s8, s9, s10⟩ := five_facts hS.2
      clear hS
      go_simp
    try simp only [List.getElem_toArray, List.getElem_cons_succ, List.getElem_cons_zero, Act.put, List.setIfInBounds_toArray, List.set_cons_zero, List.set_cons_succ]
    have hmd := Hm.out.below H3.out.2
    have hcd := Hc.out.below H3.out.2
    obtain ⟨o, hrun, hms⟩ := hmd.store s hs (.mk vk vn vs vl vks) _ hcd Hck.out
    have Hms := Lib.hid (And.intro hms (And.intro ((World.putObj_heap_other (by have := Hm.out.ok.ml mb Hm.out.hb; omega)).trans H3.out.1 : (Wd.putObj mb o).heap[w.heap.size + 1 + 1]? = _) (((Mv.of_below c H3.out.2).trans ⟨rfl, rfl, rfl, by simp [World.putObj], fun b _ hn => World.putObj_heap_other (fun e => hn (by rw [e]; exact Hm.out.hb)), fun _ h => .inl h, fun _ h => .inl h⟩ : Mv c w c (Wd.putObj mb o)))))
    have hrun' : (Instr.mapUpdate 85 (.map (some mb)) (.string s) (.agg #[.int .i64 vk, .int .i64 vn, .string vs, .slice a1 vl.length c1, .slice a2 vks.length c2])).run Tryz.prog Wd = .ok () (Wd.putObj mb o) := hrun
    clear hmd hcd hms hrun
    refine turn_heavy rfl (fun Kx hKx => ?_)
    go_wp2_with fail
    refine hKx _ _ (fun h => absurd rfl h) ?_
    generalize Wd.putObj mb o = W2 at Hms ⊢
    clear hKx hrun'
    refine turn_end ?_
    try simp only [List.getElem_toArray, List.getElem_cons_succ, List.getElem_cons_zero, Act.put, List.setIfInBounds_toArray, List.set_cons_zero, List.set_cons_succ]
    obtain ⟨d0, d1, d2, d3, d4, d5, d6⟩ := three_facts Hms.out.2.1
    go_wp2_with fail
    refine bodyPost_ret (v := faultV 0 0 0) (by simp [faultV, results, Tryz.results81, go_sem, d0, d1, d2, d3]) rfl ?_
    rw [Hr.out]
    have hz := here Hms.out.2.1
    refine ⟨c, ((Hms.out.2.2.set (b := w.heap.size + 1 + 1) (.inl (by omega)) 0 _).set (b := w.heap.size + 1 + 1) (.inl (by omega)) 1 _).set (b := w.heap.size + 1 + 1) (.inl (by omega)) 2 _, ?_, _, rfl, rfl⟩
    refine Hms.out.1.other (by simp) (fun b hb hMF => ?_)
    have hne : b ≠ w.heap.size + 1 + 1 := by
      rcases hMF with h | h
      · have := Hm.out.ok.ml b h; omega
      · have := Hm.out.ok.fl b h; omega
    rw [set_other hne, set_other hne, set_other hne]
end Go.Proofs.YtmmflgbhgjefmaaGreatDoor
namespace Go.Proofs.YtmmflgbhgjefmaaGreatDoor
open Go Go.RowKit

/-- What a call of the plain host hands back. -/
def PCall (r : Except Int Vl) (w : World) (e : Ending) (w' : World) : Prop := Below w.heap.size w w' ∧ match r with
  | .ok x => ∃ cs : List Value, e = .returned (.tuple #[.agg cs.toArray, .int .i64 0]) ∧ AggAt (fun b => w.heap.size ≤ b) w' (valD x) cs
  | .error n => e = .returned (.tuple #[zeroV, .int .i64 n])
/-- The result's box, written. -/
theorem res_set {w W : World} {b : Nat} {c0 c1 c2 c3 c4 : Value} (hn : w.heap.size ≤ b) (hb : Below w.heap.size w W) (hr : W.heap[b]? = some (.cells #[c0, c1, c2, c3, c4] 31 (0, 0))) (v0 v1 v2 v3 v4 : Value) :
    (((((W.setCell ⟨b, 0, none⟩ v0).setCell ⟨b, 1, none⟩ v1).setCell ⟨b, 2, none⟩ v2).setCell ⟨b, 3, none⟩ v3).setCell ⟨b, 4, none⟩ v4).heap[b]? = some (.cells #[v0, v1, v2, v3, v4] 31 (0, 0)) ∧
      Below w.heap.size w (((((W.setCell ⟨b, 0, none⟩ v0).setCell ⟨b, 1, none⟩ v1).setCell ⟨b, 2, none⟩ v2).setCell ⟨b, 3, none⟩ v3).setCell ⟨b, 4, none⟩ v4) :=
  ⟨by rw [set_same (set_same (set_same (set_same (set_same hr 0 _) 1 _) 2 _) 3 _) 4]; rfl, ((((hb.setCell (p := ⟨b, 0, none⟩) hn _).setCell (p := ⟨b, 1, none⟩) hn _).setCell (p := ⟨b, 2, none⟩) hn _).setCell (p := ⟨b, 3, none⟩) hn _).setCell (p := ⟨b, 4, none⟩) hn _⟩
def strVl (s : ByteArray) : Vl := .mk 3 0 s [] []
def strC (s : ByteArray) : Value := .agg #[.int .i64 3, .int .i64 0, .string s, .slice none 0 0, .slice none 0 0]
theorem AggAt.str (F : Nat → Prop) (w : World) (s : ByteArray) : AggAt F w (valD (strVl s)) [.int .i64 3, .int .i64 0, .string s, .slice none 0 0, .slice none 0 0] :=
  AggAt.val_mk (l := []) (ks := []) _ _ _ _ _ (RowAt.nil _) (RowAt.nil _)
theorem AggAt.int (F : Nat → Prop) (w : World) (n : Int) : AggAt F w (valD (.mk 2 n ⟨#[]⟩ [] [])) [.int .i64 2, .int .i64 n, .string ⟨#[]⟩, .slice none 0 0, .slice none 0 0] :=
  AggAt.val_mk (l := []) (ks := []) _ _ _ _ _ (RowAt.nil _) (RowAt.nil _)
set_option maxRecDepth 100000 in
theorem str_any (s : ByteArray) (w : World) : Calls Tryz.prog 107 #[.string s] w (fun e w' => e = .returned (strC s) ∧ Below w.heap.size w w') := by
  go_enter Tryz.func107, Tryz.ntmps107
  go_wp2
  exact bodyPost_ret (v := strC s) (by simp [strC, results, Tryz.results107, go_sem]) rfl ⟨rfl, ((Below.refl _ w).alloc (Nat.le_refl _) _)⟩

def limitedL (s : ByteArray) : Except Int Vl := if 65536 < s.size then .error 6 else .ok (strVl s)
set_option maxRecDepth 100000 in
set_option maxHeartbeats 1000000 in
theorem limited_any (s : ByteArray) (w : World) (hs : s.size ≤ 9223372036854775807) : Calls Tryz.prog 216 #[.string s] w (PCall (limitedL s) w) := by
  have hb0 : Below w.heap.size w (w.alloc (.cells #[.int .i64 0, .int .i64 0, .string ⟨#[]⟩, .slice none 0 0, .slice none 0 0] 31)) := (Below.refl _ w).alloc (Nat.le_refl _) _
  by_cases hl : 65536 < s.size
  · have Hr : Hid (limitedL s = .error 6) := Lib.hid (by unfold limitedL; rw [if_pos hl])
    have hl' : (65536 : Int) < s.size := by omega
    go_enter Tryz.func216, Tryz.ntmps216
    go_wp2_with fail
    refine bodyPost_ret (v := .tuple #[zeroV, .int .i64 6]) (by simp [zeroV, results, Tryz.results216, go_sem]) rfl ?_
    rw [Hr.out]
    exact ⟨((Below.refl _ w).alloc (Nat.le_refl _) _), rfl⟩
  · have Hr : Hid (limitedL s = .ok (strVl s)) := Lib.hid (by unfold limitedL; rw [if_neg hl])
    have hl' : ¬ (65536 : Int) < s.size := by omega
    have H0 := Lib.hid (heap_alloc_new w (.cells #[.int .i64 0, .int .i64 0, .string ⟨#[]⟩, .slice none 0 0, .slice none 0 0] 31))
    go_enter Tryz.func216, Tryz.ntmps216
    go_wp2_with fail
    refine (str_any s _).mono ?_
    rintro e w1 ⟨rfl, hb1⟩
    obtain ⟨r0, r1, r2, r3, r4, r5, r6, r7, r8, r9, r10⟩ := five_facts (stays H0.out hb1)
    have Hb1 := Lib.hid (hb0.trans (hb1.mono hb0.size))
    clear hb1 hb0
    unfold strC
    go_wp2_with fail
    refine bodyPost_ret (v := .tuple #[strC s, .int .i64 0]) (by simp [strC, results, Tryz.results216, go_sem, r0, r1, r2, r3, r4, r5]) rfl ?_
    rw [Hr.out]
    refine ⟨((((Hb1.out.setCell (p := ⟨w.heap.size, 0, none⟩) (Nat.le_refl _) _).setCell (p := ⟨w.heap.size, 1, none⟩) (Nat.le_refl _) _).setCell (p := ⟨w.heap.size, 2, none⟩) (Nat.le_refl _) _).setCell (p := ⟨w.heap.size, 3, none⟩) (Nat.le_refl _) _).setCell (p := ⟨w.heap.size, 4, none⟩) (Nat.le_refl _) _, _, rfl, AggAt.str _ _ s⟩

/-- How many bytes, or items, there are. -/
def lengthL (v : Vl) : Except Int Vl := if v.kind = 3 then .ok (.mk 2 v.str.size ⟨#[]⟩ [] []) else if v.kind = 4 ∨ v.kind = 5 then .ok (.mk 2 v.items.length ⟨#[]⟩ [] []) else .error 9
set_option maxRecDepth 100000 in
set_option maxHeartbeats 1000000 in
theorem length_list (F : Nat → Prop) (n : Int) (s : ByteArray) (l : List Vl) (ks : List ByteArray) (a : Option Addr) (cap : Nat) (w : World) (hr : RowAt F w a (valsD [.mk 4 n s l ks])) (hl : l.length ≤ 140737488355328) :
    Calls Tryz.prog 204 #[.slice a 1 cap] w (PCall (lengthL (.mk 4 n s l ks)) w) := by
  obtain ⟨b, off, a1, c1, a2, c2, rfl, -, hbl, q0, q1, q2, q3, q4, -, -⟩ := hr.val (j := 0) rfl
  simp only [Nat.zero_mul, Nat.add_zero] at q0 q1 q2 q3 q4
  go_enter Tryz.func204, Tryz.ntmps204
  go_wp2_with fail
  refine bodyPost_ret (v := .tuple #[.agg #[.int .i64 2, .int .i64 l.length, .string ⟨#[]⟩, .slice none 0 0, .slice none 0 0], .int .i64 0]) (by simp [results, Tryz.results204, go_sem]) rfl ?_
  rw [show lengthL (.mk 4 n s l ks) = .ok (.mk 2 l.length ⟨#[]⟩ [] []) from rfl]
  exact ⟨((Below.refl _ w).alloc (Nat.le_refl _) _).alloc (by simp) _, _, rfl, AggAt.int _ _ _⟩
end Go.Proofs.YtmmflgbhgjefmaaGreatDoor
namespace Go.Proofs.YtmmflgbhgjefmaaGreatDoor
open Go Go.RowKit

/-- The texts of a list that holds texts alone. -/
def textsL (v : Vl) : Option (List ByteArray) := if v.kind = 4 ∧ checkV v = true ∧ v.items.all (fun x => x.kind == 3) = true then some (v.items.map Vl.str) else none
def PTexts (v : Vl) (w : World) (e : Ending) (w' : World) : Prop := Below w.heap.size w w' ∧ match textsL v with
  | some l => ∃ x, e = .returned (.tuple #[x, .bool true]) ∧ OwnS w' w.heap.size x l
  | none => e = .returned (.tuple #[.slice none 0 0, .bool false])

theorem check_len {k n : Int} {s : ByteArray} {l : List Vl} {ks : List ByteArray} (h : checkV (.mk k n s l ks) = true) : s.size ≤ 65536 ∧ l.length ≤ 1000 ∧ ks.length ≤ 1000 := by
  unfold checkV at h
  rw [mayV] at h
  split at h
  · cases h
  · split at h
    · rename_i hk
      obtain ⟨h1, h2, h3, -⟩ := nodeOk_small hk
      exact ⟨h1, h2, h3⟩
    · cases h
set_option maxRecDepth 100000 in
set_option maxHeartbeats 1000000 in
theorem texts_any (k n : Int) (s : ByteArray) (l : List Vl) (ks : List ByteArray) (hs : smallV (.mk k n s l ks)) (F : Nat → Prop) (a1 : Option Addr) (c1 : Nat) (a2 : Option Addr) (c2 : Nat) (w : World) (hF : ∀ b, F b → b < w.heap.size) (hr1 : RowAt F w a1 (valsD l)) (hr2 : RowAt F w a2 (strsD ks)) :
    Calls Tryz.prog 215 #[.agg #[.int .i64 k, .int .i64 n, .string s, .slice a1 l.length c1, .slice a2 ks.length c2]] w (PTexts (.mk k n s l ks) w) := by
  have hb0 : Below w.heap.size w (w.alloc (.cells #[.int .i64 k, .int .i64 n, .string s, .slice a1 l.length c1, .slice a2 ks.length c2] 31)) := (Below.refl _ w).alloc (Nat.le_refl _) _
  have H0 := Lib.hid (heap_alloc_new w (.cells #[.int .i64 k, .int .i64 n, .string s, .slice a1 l.length c1, .slice a2 ks.length c2] 31))
  have Hck := Lib.hid (check_any (.mk k n s l ks) hs F a1 c1 a2 c2 _ (fun b hb => Nat.lt_of_lt_of_le (hF b hb) hb0.size) (hr1.below hb0) (hr2.below hb0))
  have Hb0 := Lib.hid hb0
  have Hr1 := Lib.hid (hr1.below hb0)
  unfold vCells at Hck
  have Hz : Hid (∀ x ∈ l, smallV x) := Lib.hid (by rw [smallV] at hs; exact fun x hx => smallVs_mem hs.2.2.2.2 hx)
  have hlen : l.length ≤ 140737488355328 := by rw [smallV] at hs; exact hs.2.1
  clear hs hF hr1 hr2 hb0
  by_cases hk : k = 4
  · subst hk
    cases hck : checkV (.mk 4 n s l ks) with
    | false =>
      have Ht : Hid (textsL (.mk 4 n s l ks) = none) := Lib.hid (by unfold textsL; rw [if_neg (fun h => by rw [hck] at h; exact absurd h.2.1 (by decide))])
      rw [hck] at Hck
      clear hck
      go_enter Tryz.func215, Tryz.ntmps215
      go_wp2_with fail
      refine Hck.out.mono ?_
      rintro e w1 ⟨rfl, hb1⟩
      have Hb1 := Lib.hid (Hb0.out.trans (hb1.mono Hb0.out.size))
      clear hb1
      go_wp2_with fail
      refine bodyPost_ret (v := .tuple #[.slice none 0 0, .bool false]) (by simp [results, Tryz.results215, go_sem]) rfl ?_
      unfold PTexts
      rw [Ht.out]
      exact ⟨Hb1.out, rfl⟩
    | true =>
      have Ht : Hid (textsL (.mk 4 n s l ks) = if l.all (fun x => x.kind == 3) = true then some (l.map Vl.str) else none) := Lib.hid (by
        unfold textsL
        by_cases h : l.all (fun x => x.kind == 3) = true
        · rw [if_pos ⟨rfl, hck, h⟩, if_pos h]; rfl
        · rw [if_neg (fun h' => h h'.2.2), if_neg h])
      rw [hck] at Hck
      have hl1 : l.length ≤ 1000 := (check_len hck).2.1
      clear hck hlen
      obtain ⟨i0, hi, hz0, hz1, hz2⟩ := info_parts infoStr
      go_enter Tryz.func215, Tryz.ntmps215
      go_wp2_with fail
      refine Hck.out.mono ?_
      rintro e w1 ⟨rfl, hb1⟩
      have Hb1 := Lib.hid (Hb0.out.trans (hb1.mono Hb0.out.size))
      have H1 := Lib.hid (stays H0.out hb1)
      have Hr := Lib.hid (Hr1.out.below hb1)
      clear hb1 H0 Hb0 Hr1 Hck
      obtain ⟨q0, q1, q2, q3, q4, q5, q6, q7, q8, q9, q10⟩ := five_facts H1.out
      have hw1 : w.heap.size + 1 ≤ w1.heap.size := by have := here H1.out; omega
      go_wp2_with fail
      go_loopw [4, 18] (fun v i wr => ∃ j : Nat, i = .int .i64 j ∧ j ≤ l.length ∧ Hid (OwnS wr w1.heap.size v ((l.take j).map Vl.str)) ∧ Hid (Below w1.heap.size w1 wr) ∧ Hid ((l.take j).all (fun x => x.kind == 3) = true)) (fun _ i _ => l.length - (intOf i).toNat)
      case atStart => exact ⟨0, rfl, Nat.zero_le _, Lib.hid (OwnS.nil _ _), Lib.hid (Below.refl _ _), Lib.hid rfl⟩
      case round =>
        obtain ⟨j, rfl, hj, hown, hbw, hall⟩ := hrel
        by_cases hlt : j < l.length
        · cases hx : l[j] with
          | mk xk xn xs xl xks =>
            have hjx : l[j]? = some (.mk xk xn xs xl xks) := by rw [List.getElem?_eq_getElem hlt, hx]
            obtain ⟨b, off, b1, e1, b2, e2, hae, -, hbl, r0, r1, r2, r3, r4, -, -⟩ := (Hr.out.below hbw.out).val hjx
            have htk : l.take (j + 1) = l.take j ++ [.mk xk xn xs xl xks] := by rw [List.take_add_one, hjx]; rfl
            have hzx : xs.size ≤ 9223372036854775807 := by
              have := Hz.out _ (List.mem_of_getElem? hjx)
              rw [smallV] at this
              exact this.1
            subst hae
            have Hq := Lib.hid (stays H1.out hbw.out)
            obtain ⟨aL, cL, rfl, -, -⟩ := hown.out.strsAt
            rw [List.length_map, List.length_take, Nat.min_eq_left hj] at hown ⊢
            clear hx hjx
            by_cases hk3 : xk = 3
            · subst hk3
              have hown1 : OwnS (wr.alloc (.cells #[.int .i64 3, .int .i64 xn, .string xs, .slice b1 xl.length e1, .slice b2 xks.length e2] 31)) w1.heap.size (.slice aL j cL) ((l.take j).map Vl.str) := hown.out.below ((Below.refl _ _).alloc (Nat.le_refl _) _)
              have hnews := lit_one (wr.alloc (.cells #[.int .i64 3, .int .i64 xn, .string xs, .slice b1 xl.length e1, .slice b2 xks.length e2] 31)) (.string xs) 9
              rw [show (wr.alloc (.cells #[.int .i64 3, .int .i64 xn, .string xs, .slice b1 xl.length e1, .slice b2 xks.length e2] 31)).heap.size = wr.heap.size + 1 by simp] at hnews
              have Hnews := Lib.hid hnews
              have Hown1 : Hid (((wr.alloc (.cells #[.int .i64 3, .int .i64 xn, .string xs, .slice b1 xl.length e1, .slice b2 xks.length e2] 31)).alloc (.cells #[.string xs] 9)).ownsRow w1.heap.size 9 1 (.slice aL j cL) j (((l.take j).map Vl.str).map Value.string)) := Lib.hid (by
                have := hown1.below ((Below.refl _ _).alloc (Nat.le_refl _) (.cells #[.string xs] 9))
                unfold OwnS at this
                rw [List.length_map, List.length_take, Nat.min_eq_left hj] at this
                exact this)
              have Hblk : Hid (∀ g, (Value.slice aL j cL).ownBlock = some g → w1.heap.size ≤ g) := Lib.hid (fun g hg => (hown.out.block hg).1)
              have hall' : Hid ((l.take (j + 1)).all (fun x => x.kind == 3) = true) := Lib.hid (by rw [htk, List.all_append, hall.out]; rfl)
              have Htk : Hid ((l.take (j + 1)).map Vl.str = (l.take j).map Vl.str ++ [xs]) := Lib.hid (by rw [htk, List.map_append]; rfl)
              have hsz := hbw.out.size
              clear hnews hown1 htk hown hall
              go_wp2_with (at_builtin; refine wpList_append_own _ rfl _ _ 29 rfl w1.heap.size 9 i0 (.string ByteArray.empty) 1 16 Tryz.underlying29 hi hz0 hz1 hz2 rfl (by decide) (.slice aL j cL) j _ rfl Hown1.out ⟨wr.heap.size + 1, 0, none⟩ 1 1 [.string xs] rfl rfl Hnews.out ?_ ?_ ?_ ?_ ?_)
              · simp [Value.oneCell']
              · unfold maxLen; omega
              · omega
              · simp; omega
              intro v2 w2 hown2 hgrow2 _
              have Hown2 : Hid (OwnS w2 w1.heap.size v2 ((l.take (j + 1)).map Vl.str)) := Lib.hid (by
                rw [Htk.out]
                unfold OwnS
                rw [List.length_append, List.length_map, List.length_take, Nat.min_eq_left hj, List.map_append]
                simpa using hown2)
              have Hbw2 : Hid (Below w1.heap.size w1 w2) := Lib.hid ((hbw.out.trans ((((Below.refl _ wr).alloc (Nat.le_refl _) _).alloc (by simp) _).mono hsz)).trans (grown_below hgrow2 Hblk.out (by simp; omega)))
              obtain ⟨aL2, cL2, rfl, -, -⟩ := Hown2.out.strsAt
              clear hown2 hgrow2 hbw
              go_wp2_with fail
              go_roundw
              case rel => exact ⟨j + 1, by go_num, by omega, Hown2, Hbw2, hall'⟩
              case measure => simp only [intOf]; omega
            · have hk3' : (xk != 3) = true := by simpa using hk3
              have Hn : Hid (textsL (.mk 4 n s l ks) = none) := Lib.hid (by
                rw [Ht.out, if_neg]
                intro h
                rw [List.all_eq_true] at h
                have hm : Vl.mk xk xn xs xl xks ∈ l := by
                  have : Vl.mk xk xn xs xl xks ∈ l.take (j + 1) := by rw [htk]; simp
                  exact List.mem_of_mem_take this
                have := h _ hm
                exact hk3 (by simpa [Vl.kind] using this))
              clear htk
              go_wp2_with fail
              refine bodyPost_ret (v := .tuple #[.slice none 0 0, .bool false]) (by simp [results, Tryz.results215, go_sem]) rfl ?_
              unfold PTexts
              rw [Hn.out]
              exact ⟨Hb1.out.trans ((hbw.out.trans ((Below.refl _ wr).alloc (Nat.le_refl _) _ |>.mono hbw.out.size)).mono (by omega)), rfl⟩
        · have hdone : l.take j = l := List.take_of_length_le (by omega)
          rw [hdone] at hown hall
          have Hfin : Hid (textsL (.mk 4 n s l ks) = some (l.map Vl.str)) := Lib.hid (by rw [Ht.out, if_pos hall.out])
          have hown' := hown.out.lower (base' := w.heap.size) (by omega)
          have Hown' := Lib.hid hown'
          obtain ⟨aL, cL, rfl, -, -⟩ := hown'.strsAt
          clear hown' hown hall hdone
          go_wp2_with fail
          refine bodyPost_ret (v := .tuple #[.slice aL (l.map Vl.str).length cL, .bool true]) (by simp [results, Tryz.results215, go_sem]) rfl ?_
          unfold PTexts
          rw [Hfin.out]
          exact ⟨Hb1.out.trans (hbw.out.mono (by omega)), _, rfl, Hown'.out⟩
  · have Ht : Hid (textsL (.mk k n s l ks) = none) := Lib.hid (by unfold textsL; rw [if_neg (fun h => hk h.1)])
    have hk' : (k != 4) = true := by simpa using hk
    go_enter Tryz.func215, Tryz.ntmps215
    go_wp2_with fail
    refine bodyPost_ret (v := .tuple #[.slice none 0 0, .bool false]) (by simp [results, Tryz.results215, go_sem]) rfl ?_
    unfold PTexts
    rw [Ht.out]
    exact ⟨Hb0.out, rfl⟩
end Go.Proofs.YtmmflgbhgjefmaaGreatDoor
