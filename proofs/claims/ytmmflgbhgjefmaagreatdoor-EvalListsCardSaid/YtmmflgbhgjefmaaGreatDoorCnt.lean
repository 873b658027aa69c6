/-
  A map of texts to numbers that the program makes, told as a function: what a look-up finds, what a store leaves; a map of noughts, ready to be ranged over.
-/
import Derived.Test.YtmmflgbhgjefmaaGreatDoorRawMap
import Derived.Test.YtmmflgbhgjefmaaGreatDoorMOwnS
import Derived.StringKeys
import Derived.Maps.RangeWalk
namespace Go.Proofs.YtmmflgbhgjefmaaGreatDoor
open Go Go.RowKit Go.Maps Go.WideMaps

theorem RawMap.nodup {w : World} {b : Nat} {m : List (Value × Value)} (h : RawMap w b m) : (m.map (·.1)).Nodup := by
  obtain ⟨es, clock, -, hst, rfl⟩ := h
  rw [List.map_map]
  exact hst.2.2
structure CntAt (w : World) (b n : Nat) (f : List UInt8 → Int) (m : List (Value × Value)) : Prop where
  raw : RawMap w b m
  each : ∀ p ∈ m, ∃ s : ByteArray, p = (.string s, .int .i64 (f s.data.toList)) ∧ s.size ≤ maxLen
  none : ∀ s : ByteArray, (∀ p ∈ m, p.1 ≠ .string s) → f s.data.toList = 0
  len : m.length ≤ n
theorem CntAt.made (w : World) : CntAt (w.alloc (.map #[] 0)) w.heap.size 0 (fun _ => 0) [] := ⟨RawMap.made w, (by intro p hp; cases hp), fun _ _ => rfl, Nat.le_refl _⟩
theorem CntAt.below {w w' : World} {b n : Nat} {f : List UInt8 → Int} {m : List (Value × Value)} (h : CntAt w b n f m) (hb : Below w.heap.size w w') : CntAt w' b n f m := ⟨h.raw.below hb, h.each, h.none, h.len⟩
theorem CntAt.congr {w : World} {b n : Nat} {f g : List UInt8 → Int} {m : List (Value × Value)} (h : CntAt w b n f m) (hg : ∀ x, f x = g x) : CntAt w b n g m := by
  have : f = g := funext hg
  rwa [← this]
section
variable {P : Program} {k e t : TypeId} {w : World} {b n : Nat} {f : List UInt8 → Int} {m : List (Value × Value)}
theorem CntAt.keys (h : CntAt w b n f m) (hk : P.underlying k = some .string) : KeysOk P k m := by
  intro p hp
  obtain ⟨s, rfl, hs⟩ := h.each p hp
  exact ⟨_, keyOf_string_mk hk hs⟩
theorem CntAt.look (h : CntAt w b n f m) (hk : P.underlying k = some .string) (ht : P.underlying t = some (.map k e)) (hz : (zeroValue e).run P w = .ok (.int .i64 0) w) (s : ByteArray) (hs : s.size ≤ maxLen) :
    (Instr.lookup t (.map (some b)) (.string s) false).run P w = .ok (.int .i64 (f s.data.toList)) w := by
  rcases h.raw.look false (string_keyed hk) ht hz (h.keys hk) (keyOf_string_mk hk hs) with ⟨h1, h2⟩ | ⟨j, v, h1, h2⟩
  · rw [h.none s h1]
    exact h2
  · obtain ⟨s', he, -⟩ := h.each _ (List.mem_of_getElem? h1)
    simp only [Prod.mk.injEq, Value.string.injEq] at he
    obtain ⟨rfl, rfl⟩ := he
    exact h2
theorem CntAt.store (h : CntAt w b n f m) (hk : P.underlying k = some .string) (ht : P.underlying t = some (.map k e)) (s : ByteArray) (hs : s.size ≤ maxLen) (x : Int) :
    ∃ o m', (Instr.mapUpdate t (.map (some b)) (.string s) (.int .i64 x)).run P w = .ok () (w.putObj b o) ∧ CntAt (w.putObj b o) b (n + 1) (fun y => if y = s.data.toList then x else f y) m' := by
  obtain ⟨o, m', h1, h2, h3⟩ := h.raw.store (string_keyed hk) ht (h.keys hk) (keyOf_string_mk hk hs) (.int .i64 x)
  refine ⟨o, m', h1, h2, ?_, ?_, ?_⟩
  · rcases h3 with ⟨hn, rfl⟩ | ⟨j, v, hj, rfl⟩
    · intro p hp
      rcases List.mem_append.1 hp with hp | hp
      · obtain ⟨s', rfl, hs'⟩ := h.each p hp
        refine ⟨s', ?_, hs'⟩
        rw [if_neg]
        intro he
        exact hn _ hp (by rw [bytes_ext he])
      · rw [List.mem_singleton.1 hp]
        exact ⟨s, by rw [if_pos rfl], hs⟩
    · intro p hp
      obtain ⟨i, hi⟩ := List.getElem?_of_mem hp
      rw [List.getElem?_set] at hi
      by_cases hij : j = i
      · subst hij
        rw [if_pos rfl] at hi
        split at hi
        · cases hi
          exact ⟨s, by rw [if_pos rfl], hs⟩
        · cases hi
      · rw [if_neg hij] at hi
        obtain ⟨s', rfl, hs'⟩ := h.each p (List.mem_of_getElem? hi)
        refine ⟨s', ?_, hs'⟩
        rw [if_neg]
        intro he
        have hss : s' = s := bytes_ext he
        subst hss
        have hnd := h.raw.nodup
        have a1 : (m.map (·.1))[i]? = some (.string s') := by rw [List.getElem?_map, hi]; rfl
        have a2 : (m.map (·.1))[j]? = some (.string s') := by rw [List.getElem?_map, hj]; rfl
        exact hij ((List.getElem?_inj (List.getElem?_eq_some_iff.1 a2).1 hnd).1 (a2.trans a1.symm))
  · intro s' hn'
    have hne : s' ≠ s := by
      rintro rfl
      rcases h3 with ⟨hn, rfl⟩ | ⟨j, v, hj, rfl⟩
      · exact hn' (.string s', .int .i64 x) (by simp) rfl
      · have hjl := (List.getElem?_eq_some_iff.1 hj).1
        exact hn' (.string s', .int .i64 x) (List.mem_of_getElem? (i := j) (by rw [List.getElem?_set, if_pos rfl, if_pos hjl])) rfl
    rw [if_neg (fun he => hne (bytes_ext he))]
    refine h.none s' (fun p hp he => ?_)
    rcases h3 with ⟨hn, rfl⟩ | ⟨j, v, hj, rfl⟩
    · exact hn' p (List.mem_append_left _ hp) he
    · obtain ⟨i, hi⟩ := List.getElem?_of_mem hp
      by_cases hij : j = i
      · subst hij
        rw [hj] at hi
        cases hi
        injection he with he
        exact hne he.symm
      · exact hn' p (List.mem_of_getElem? (i := i) (by rw [List.getElem?_set, if_neg hij]; exact hi)) he
  · rcases h3 with ⟨-, rfl⟩ | ⟨j, v, -, rfl⟩
    · have := h.len; simp; omega
    · have := h.len; simp; omega

/-- What reads as a nought. -/
def nought (v : Value) : Option (DataW Unit × List MemPlace) := match v with | .int .i64 0 => some (.nil, []) | _ => none
theorem nought_inv {v : Value} {y : DataW Unit × List MemPlace} (h : nought v = some y) : v = .int .i64 0 := by
  unfold nought at h
  split at h
  · rfl
  · cases h
theorem CntAt.noughts (h : CntAt w b n f m) (hk : P.underlying k = some .string) (h0 : ∀ x, f x = 0) (hn : n ≤ 1000) : ∃ D : DataW Unit, w.ownsMap P k nought b n D := by
  obtain ⟨es, clock, hb, hst, hm⟩ := h.raw
  have hl : es.size = m.length := by rw [← hm]; simp
  have hle := h.len
  refine ⟨_, es, clock, hb, ⟨by unfold maxLen; omega, hst, fun x hx => ?_⟩, by omega, rfl⟩
  have hmem : (x.key, x.val) ∈ m := by rw [← hm]; exact List.mem_map_of_mem (f := fun e : MapEntry => (e.key, e.val)) hx
  obtain ⟨s, he, hs⟩ := h.each _ hmem
  simp only [Prod.mk.injEq] at he
  refine ⟨(.string s.data.toList, .nil), ?_⟩
  unfold Go.WideElems.rd
  rw [he.1, he.2, h0, keyOf_string_mk hk hs]
  rfl
end
end Go.Proofs.YtmmflgbhgjefmaaGreatDoor
