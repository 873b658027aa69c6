/-
  The names' map: what a look-up finds, what a store leaves; the walks of fixed and put.
-/
import Derived.Test.YtmmflgbhgjefmaaGreatDoorMEvA
import Derived.StringKeys
namespace Go.Proofs.YtmmflgbhgjefmaaGreatDoor
open Go Go.RowKit Go.Maps Go.WideMaps

theorem bytes_beq {a b : ByteArray} : (a.data.toList == b.data.toList) = true ↔ a = b := by
  rw [beq_iff_eq]
  exact ⟨bytes_ext, fun h => by rw [h]⟩
theorem lookN_some {m : List (ByteArray × Vl)} (hu : (m.map (·.1.data.toList)).Nodup) {j : Nat} {s : ByteArray} {v : Vl} (h : m[j]? = some (s, v)) : lookN m s = some v := by
  induction m generalizing j with
  | nil => simp at h
  | cons p t ih =>
    rw [List.map_cons, List.nodup_cons] at hu
    unfold lookN
    rw [List.find?_cons]
    cases j with
    | zero => simp at h; subst h; simp
    | succ j =>
      simp at h
      have hne : (p.1.data.toList == s.data.toList) = false := by
        rw [beq_eq_false_iff_ne]
        intro e
        exact hu.1 (by rw [e]; exact List.mem_map.2 ⟨(s, v), List.mem_of_getElem? h, rfl⟩)
      rw [hne]
      exact ih hu.2 h
theorem lookN_none {m : List (ByteArray × Vl)} {s : ByteArray} (h : ∀ q ∈ m, q.1 ≠ s) : lookN m s = none := by
  unfold lookN
  rw [List.find?_eq_none.2 (fun q hq => by
    intro e
    exact h q hq (bytes_beq.1 e))]
  rfl
theorem putN_none {m : List (ByteArray × Vl)} {s : ByteArray} (v : Vl) (h : ∀ q ∈ m, q.1 ≠ s) : putN m s v = m ++ [(s, v)] := by
  induction m with
  | nil => rfl
  | cons p t ih =>
    have hne : (p.1.data.toList == s.data.toList) = false := by
      cases hb : (p.1.data.toList == s.data.toList)
      · rfl
      · exact absurd (bytes_beq.1 hb) (h p (List.mem_cons_self ..))
    rw [putN, hne, ih (fun q hq => h q (List.mem_cons_of_mem _ hq))]
    rfl
theorem putN_set {m : List (ByteArray × Vl)} (hu : (m.map (·.1.data.toList)).Nodup) {j : Nat} {s : ByteArray} {v0 : Vl} (v : Vl) (h : m[j]? = some (s, v0)) : putN m s v = m.set j (s, v) := by
  induction m generalizing j with
  | nil => simp at h
  | cons p t ih =>
    rw [List.map_cons, List.nodup_cons] at hu
    cases j with
    | zero => simp at h; subst h; simp [putN]
    | succ j =>
      simp at h
      have hne : (p.1.data.toList == s.data.toList) = false := by
        rw [beq_eq_false_iff_ne]
        intro e
        exact hu.1 (by rw [e]; exact List.mem_map.2 ⟨(s, v0), List.mem_of_getElem? h, rfl⟩)
      rw [putN, hne, List.set_cons_succ]
      show p :: putN t s v = _
      rw [ih hu.2 h]
theorem putN_keys {m : List (ByteArray × Vl)} (hu : (m.map (·.1.data.toList)).Nodup) (s : ByteArray) (v : Vl) : ((putN m s v).map (·.1.data.toList)).Nodup := by
  by_cases h : ∃ (j : Nat) (v0 : Vl), m[j]? = some (s, v0)
  · obtain ⟨j, v0, h⟩ := h
    rw [putN_set hu v h]
    have e : (m.set j (s, v)).map (·.1.data.toList) = m.map (·.1.data.toList) := by
      rw [List.map_set]
      refine List.ext_getElem? fun i => ?_
      rw [List.getElem?_set]
      split
      · rename_i e
        subst e
        rw [List.getElem?_map, h]
        simp [(List.getElem?_eq_some_iff.1 h).1]
      · rfl
    rw [e]
    exact hu
  · have hn : ∀ q ∈ m, q.1 ≠ s := fun q hq e => by
      obtain ⟨j, hj⟩ := List.getElem?_of_mem hq
      exact h ⟨j, q.2, by rw [hj, ← e]⟩
    rw [putN_none v hn, List.map_append, List.nodup_append]
    refine ⟨hu, by simp, fun a ha b hb => ?_⟩
    obtain ⟨q, hq, rfl⟩ := List.mem_map.1 ha
    simp at hb
    subst hb
    exact fun e => hn q hq (bytes_ext e)
theorem putN_mem {m : List (ByteArray × Vl)} {s : ByteArray} {v : Vl} {q : ByteArray × Vl} (h : q ∈ putN m s v) : q ∈ m ∨ q = (s, v) := by
  induction m with
  | nil => simp [putN] at h; exact .inr h
  | cons p t ih =>
    rw [putN] at h
    split at h
    · rcases List.mem_cons.1 h with h | h
      · exact .inr h
      · exact .inl (List.mem_cons_of_mem _ h)
    · rcases List.mem_cons.1 h with h | h
      · exact .inl (h ▸ List.mem_cons_self ..)
      · rcases ih h with h | h
        · exact .inl (List.mem_cons_of_mem _ h)
        · exact .inr h

theorem zeroValueV (w : World) : (zeroValue 31).run Tryz.prog w = .ok zeroV w := by kernel_rfl
theorem namesKeys {F : Nat → Prop} {w : World} {m : List (Value × Value)} {names : List (ByteArray × Vl)} (h : NamesAt F w m names) (hs : ∀ q ∈ names, q.1.size ≤ maxLen) : KeysOk Tryz.prog 9 m := by
  intro p hp
  obtain ⟨j, hj⟩ := List.getElem?_of_mem hp
  have hjl := (List.getElem?_eq_some_iff.1 hj).1
  have hn : names[j]? = some (names[j]'(by rw [← h.1]; exact hjl)) := List.getElem?_eq_getElem _
  obtain ⟨h1, -⟩ := h.2 j p _ hj hn
  rw [h1]
  exact ⟨_, keyOf_string_mk Tryz.underlying9 (hs _ (List.mem_of_getElem? hn))⟩
section
variable {c : Ctx} {w : World} {mp mb : Nat} {hv : Value} {st : St}
/-- A name's look-up. -/
theorem MS.look (h : MS c w mp mb hv st) (s : ByteArray) (hs : s.size ≤ maxLen) :
    (lookN st.names s = none ∧ (Instr.lookup 85 (.map (some mb)) (.string s) true).run Tryz.prog w = .ok (.tuple #[zeroV, .bool false]) w) ∨
      ∃ v cs, lookN st.names s = some v ∧ AggAt c.F w (valD v) cs ∧ checkV v = true ∧ (Instr.lookup 85 (.map (some mb)) (.string s) true).run Tryz.prog w = .ok (.tuple #[.agg cs.toArray, .bool true]) w := by
  obtain ⟨m, h1, h2⟩ := h.names
  have hk := namesKeys h2 (fun q hq => (h.few q hq).2)
  rcases h1.look true (string_keyed Tryz.underlying9) Tryz.underlying85 (zeroValueV w) hk (keyOf_string_mk Tryz.underlying9 hs) with ⟨h3, h4⟩ | ⟨j, v, h3, h4⟩
  · refine .inl ⟨lookN_none fun q hq e => ?_, h4⟩
    obtain ⟨j, hj⟩ := List.getElem?_of_mem hq
    have hjl := (List.getElem?_eq_some_iff.1 hj).1
    have hm : m[j]? = some (m[j]'(by rw [h2.1]; exact hjl)) := List.getElem?_eq_getElem _
    obtain ⟨h5, -⟩ := h2.2 j _ q hm hj
    exact h3 _ (List.mem_of_getElem? hm) (by rw [h5, e])
  · have hjl := (List.getElem?_eq_some_iff.1 h3).1
    have hn : st.names[j]? = some (st.names[j]'(by rw [← h2.1]; exact hjl)) := List.getElem?_eq_getElem _
    obtain ⟨h5, cs, h6, h7⟩ := h2.2 j _ _ h3 hn
    have hs' : s = (st.names[j]'(by rw [← h2.1]; exact hjl)).1 := by injection h5
    refine .inr ⟨(st.names[j]'(by rw [← h2.1]; exact hjl)).2, cs, lookN_some h.uniq (j := j) (by rw [hn, hs']), h7, (h.few _ (List.mem_of_getElem? hn)).1, ?_⟩
    have h6' : v = .agg cs.toArray := h6
    rw [h4, h6']
    rfl
/-- A name's store. -/
theorem MS.store (h : MS c w mp mb hv st) (s : ByteArray) (hs : s.size ≤ maxLen) (v : Vl) (cs : List Value) (hc : AggAt c.F w (valD v) cs) (hck : checkV v = true) :
    ∃ o, (Instr.mapUpdate 85 (.map (some mb)) (.string s) (.agg cs.toArray)).run Tryz.prog w = .ok () (w.putObj mb o) ∧ MS c (w.putObj mb o) mp mb hv { st with names := putN st.names s v } := by
  obtain ⟨m, h1, h2⟩ := h.names
  have hk := namesKeys h2 (fun q hq => (h.few q hq).2)
  obtain ⟨o, m', h3, h4, h5⟩ := h1.store (string_keyed Tryz.underlying9) Tryz.underlying85 hk (keyOf_string_mk Tryz.underlying9 hs) (.agg cs.toArray)
  have hne := h.apart
  have hsz : (w.putObj mb o).heap.size = w.heap.size := by simp [World.putObj]
  have hF : ∀ b, c.F b → b < w.heap.size → c.F b ∧ b < (w.putObj mb o).heap.size ∧ (w.putObj mb o).heap[b]? = w.heap[b]? := fun b hb hl => ⟨hb, by rw [hsz]; exact hl, World.putObj_heap_other (fun e => h.ok.apart b hb (by rw [e]; exact h.hb))⟩
  refine ⟨o, h3, h.ok.below (by rw [hsz]; exact Nat.le_refl _), (World.putObj_heap_other hne).trans h.head, h.hm, h.hb, ⟨m', h4, ?_⟩, putN_keys h.uniq s v, h.left, fun q hq => ?_⟩
  · have h2' := h2.mono hF
    have hc' := hc.mono hF
    rcases h5 with ⟨h6, rfl⟩ | ⟨j, v0, h6, rfl⟩
    · have hn : ∀ q ∈ st.names, q.1 ≠ s := fun q hq e => by
        obtain ⟨j, hj⟩ := List.getElem?_of_mem hq
        have hjl := (List.getElem?_eq_some_iff.1 hj).1
        have hm : m[j]? = some (m[j]'(by rw [h2.1]; exact hjl)) := List.getElem?_eq_getElem _
        obtain ⟨h7, -⟩ := h2.2 j _ q hm hj
        exact h6 _ (List.mem_of_getElem? hm) (by rw [h7, e])
      show NamesAt _ _ _ (putN st.names s v)
      rw [putN_none v hn]
      refine ⟨by simp [h2.1], fun j p q hp hq => ?_⟩
      by_cases hjl : j < m.length
      · rw [List.getElem?_append_left hjl] at hp
        rw [List.getElem?_append_left (by rw [← h2.1]; exact hjl)] at hq
        exact h2'.2 j p q hp hq
      · rw [List.getElem?_append_right (by omega)] at hp
        rw [List.getElem?_append_right (by rw [← h2.1]; omega), ← h2.1] at hq
        have hj1 := (List.getElem?_eq_some_iff.1 hp).1
        simp only [List.length_cons, List.length_nil] at hj1
        have hj0 : j - m.length = 0 := by omega
        rw [hj0] at hp hq
        simp at hp hq
        subst hp hq
        exact ⟨rfl, cs, rfl, hc'⟩
    · have hjl := (List.getElem?_eq_some_iff.1 h6).1
      have hn : st.names[j]? = some (st.names[j]'(by rw [← h2.1]; exact hjl)) := List.getElem?_eq_getElem _
      obtain ⟨h7, -⟩ := h2.2 j _ _ h6 hn
      have hs' : s = (st.names[j]'(by rw [← h2.1]; exact hjl)).1 := by injection h7
      show NamesAt _ _ _ (putN st.names s v)
      rw [putN_set h.uniq (v0 := (st.names[j]'(by rw [← h2.1]; exact hjl)).2) v (by rw [hn, hs'])]
      refine ⟨by simp [h2.1], fun i p q hp hq => ?_⟩
      rw [List.getElem?_set] at hp hq
      by_cases hij : j = i
      · subst hij
        rw [if_pos rfl, if_pos hjl] at hp
        rw [if_pos rfl, if_pos (by rw [← h2.1]; exact hjl)] at hq
        cases hp
        cases hq
        exact ⟨rfl, cs, rfl, hc'⟩
      · rw [if_neg hij] at hp hq
        exact h2'.2 i p q hp hq
  · rcases putN_mem hq with hq | rfl
    · exact h.few q hq
    · exact ⟨hck, hs⟩
end

def fixC (s : ByteArray) : Value := match fixedV s with | some v => if v.kind = 1 then boolC (v.num == 1) else zeroV | none => zeroV
def PFixed (s : ByteArray) (w : World) (e : Ending) (w' : World) : Prop := ∃ cs : List Value, e = .returned (.tuple #[.agg cs.toArray, .bool (fixedV s).isSome]) ∧ Below w.heap.size w w' ∧ (∀ v, fixedV s = some v → ∀ F, AggAt F w' (valD v) cs) ∧ cs.length = 5 ∧ ∃ a b s2, cs = [.int .i64 a, .int .i64 b, .string s2, .slice none 0 0, .slice none 0 0]
theorem fixed_end {s : ByteArray} {w w1 : World} {o : Obj} {b : Bool} {x0 x1 x2 x3 x4 : Value} (hb : Below (w.alloc o).heap.size (w.alloc o) w1) (hf : fixedV s = some (boolV b)) :
    PFixed s w (.returned (.tuple #[boolC b, .bool true])) (((((w1.setCell ⟨w.heap.size, 0, none⟩ x0).setCell ⟨w.heap.size, 1, none⟩ x1).setCell ⟨w.heap.size, 2, none⟩ x2).setCell ⟨w.heap.size, 3, none⟩ x3).setCell ⟨w.heap.size, 4, none⟩ x4) := by
  have h0 : Below w.heap.size w w1 := ((Below.refl _ w).alloc (Nat.le_refl _) o).trans (hb.mono (by simp))
  refine ⟨[.int .i64 1, .int .i64 (if b then 1 else 0), .string ⟨#[]⟩, .slice none 0 0, .slice none 0 0], by rw [hf]; rfl, ((((h0.setCell (p := ⟨w.heap.size, 0, none⟩) (Nat.le_refl _) _).setCell (p := ⟨w.heap.size, 1, none⟩) (Nat.le_refl _) _).setCell (p := ⟨w.heap.size, 2, none⟩) (Nat.le_refl _) _).setCell (p := ⟨w.heap.size, 3, none⟩) (Nat.le_refl _) _).setCell (p := ⟨w.heap.size, 4, none⟩) (Nat.le_refl _) _, fun v hv F => ?_, rfl, _, _, _, rfl⟩
  rw [hf] at hv
  cases hv
  exact AggAt.bool F _ b
set_option maxRecDepth 100000 in
set_option maxHeartbeats 1000000 in
theorem fixed_any (s : ByteArray) (w : World) : Calls Tryz.prog 104 #[.string s] w (PFixed s w) := by
  cases h1 : (s.toList == [116, 114, 117, 101])
  · have e1 : s.data.toList ≠ [116, 114, 117, 101] := by rw [← Lib.toList_data]; simpa using h1
    cases h2 : (s.toList == [102, 97, 108, 115, 101])
    · have e2 : s.data.toList ≠ [102, 97, 108, 115, 101] := by rw [← Lib.toList_data]; simpa using h2
      cases h3 : (s.toList == [110, 111, 110, 101])
      · have e3 : s.data.toList ≠ [110, 111, 110, 101] := by rw [← Lib.toList_data]; simpa using h3
        have Hf : Hid (fixedV s = none) := Lib.hid (by unfold fixedV; rw [if_neg e1, if_neg e2, if_neg e3])
        clear e1 e2 e3
        go_enter Tryz.func104, Tryz.ntmps104
        go_wp2
        refine bodyPost_ret (v := .tuple #[zeroV, .bool false]) (by simp [zeroV, results, Tryz.results104, go_sem]) rfl ?_
        refine ⟨[.int .i64 0, .int .i64 0, .string ⟨#[]⟩, .slice none 0 0, .slice none 0 0], by rw [Hf.out]; rfl, (Below.refl _ w).alloc (Nat.le_refl _) _, fun v hv => (by rw [Hf.out] at hv; cases hv), rfl, _, _, _, rfl⟩
      · have e3 : s.data.toList = [110, 111, 110, 101] := by rw [← Lib.toList_data]; simpa using h3
        have Hf : Hid (fixedV s = some vZero) := Lib.hid (by unfold fixedV; rw [if_neg e1, if_neg e2, if_pos e3])
        clear e1 e2 e3
        go_enter Tryz.func104, Tryz.ntmps104
        go_wp2
        refine bodyPost_ret (v := .tuple #[zeroV, .bool true]) (by simp [zeroV, results, Tryz.results104, go_sem]) rfl ?_
        refine ⟨[.int .i64 0, .int .i64 0, .string ⟨#[]⟩, .slice none 0 0, .slice none 0 0], by rw [Hf.out]; rfl, (Below.refl _ w).alloc (Nat.le_refl _) _, fun v hv F => ?_, rfl, _, _, _, rfl⟩
        rw [Hf.out] at hv
        cases hv
        exact AggAt.val_mk (l := []) (ks := []) _ _ _ _ _ (RowAt.nil _) (RowAt.nil _)
    · have e2 : s.data.toList = [102, 97, 108, 115, 101] := by rw [← Lib.toList_data]; simpa using h2
      have Hf : Hid (fixedV s = some (boolV false)) := Lib.hid (by unfold fixedV; rw [if_neg e1, if_pos e2]; rfl)
      clear e1 e2
      go_enter Tryz.func104, Tryz.ntmps104
      go_wp2_with fail
      refine (etruth_any false _).mono ?_
      rintro e w1 ⟨rfl, hb⟩
      have Hb := Lib.hid hb
      obtain ⟨r0, r1, r2, r3, r4, r5, r6, r7, r8, r9, r10⟩ := five_facts (fresh_facts hb)
      clear hb
      unfold boolC
      go_wp2
      refine bodyPost_ret (v := .tuple #[boolC false, .bool true]) (by simp [boolC, results, Tryz.results104, go_sem, r0, r1, r2, r3, r4, r5]) rfl ?_
      exact fixed_end Hb.out Hf.out
  · have e1 : s.data.toList = [116, 114, 117, 101] := by rw [← Lib.toList_data]; simpa using h1
    have Hf : Hid (fixedV s = some (boolV true)) := Lib.hid (by unfold fixedV; rw [if_pos e1]; rfl)
    clear e1
    go_enter Tryz.func104, Tryz.ntmps104
    go_wp2_with fail
    refine (etruth_any true _).mono ?_
    rintro e w1 ⟨rfl, hb⟩
    have Hb := Lib.hid hb
    obtain ⟨r0, r1, r2, r3, r4, r5, r6, r7, r8, r9, r10⟩ := five_facts (fresh_facts hb)
    clear hb
    unfold boolC
    go_wp2
    refine bodyPost_ret (v := .tuple #[boolC true, .bool true]) (by simp [boolC, results, Tryz.results104, go_sem, r0, r1, r2, r3, r4, r5]) rfl ?_
    exact fixed_end Hb.out Hf.out
end Go.Proofs.YtmmflgbhgjefmaaGreatDoor
