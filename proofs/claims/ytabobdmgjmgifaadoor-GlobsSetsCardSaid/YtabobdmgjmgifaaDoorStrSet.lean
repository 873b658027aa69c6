/-
  A map of strings to true, told as the list of its keys, none twice: what a look-up, a store, a deletion and the length make of it.
-/
import Derived.Test.YtabobdmgjmgifaaDoorRawMap
import Derived.StringKeys
namespace Go.Proofs.YtabobdmgjmgifaaDoor
open Go Go.RowKit Go.Maps Go.WideMaps

def strEntry (s : ByteArray) : Value × Value := (.string s, .bool true)
def SetAt (w : World) (b : Nat) (S : List ByteArray) : Prop := RawMap w b (S.map strEntry) ∧ S.Nodup ∧ ∀ s ∈ S, s.size ≤ maxLen

theorem SetAt.made (w : World) : SetAt (w.alloc (.map #[] 0)) w.heap.size [] := ⟨RawMap.made w, List.nodup_nil, fun _ h => by cases h⟩
theorem SetAt.lt {w : World} {b : Nat} {S : List ByteArray} (h : SetAt w b S) : b < w.heap.size := h.1.lt
theorem SetAt.below {w w' : World} {b : Nat} {S : List ByteArray} (h : SetAt w b S) (hb : Below w.heap.size w w') : SetAt w' b S := ⟨h.1.below hb, h.2⟩
theorem SetAt.drewN {w : World} {b : Nat} {S : List ByteArray} (h : SetAt w b S) (n : Nat) : SetAt (w.drewN n) b S := h

section
variable {P : Program} {k e t : TypeId}
theorem SetAt.keys {w : World} {b : Nat} {S : List ByteArray} (h : SetAt w b S) (hk : P.underlying k = some .string) : KeysOk P k (S.map strEntry) := by
  intro p hp
  obtain ⟨s, hs, rfl⟩ := List.mem_map.1 hp
  exact ⟨_, keyOf_string_mk hk (h.2.2 s hs)⟩
theorem strEntry_get {S : List ByteArray} {j : Nat} {key v : Value} (h : (S.map strEntry)[j]? = some (key, v)) : ∃ s, S[j]? = some s ∧ key = .string s ∧ v = .bool true := by
  rw [List.getElem?_map] at h
  cases hs : S[j]? with
  | none => rw [hs] at h; cases h
  | some s => rw [hs] at h; simp only [Option.map_some, Option.some.injEq, strEntry, Prod.mk.injEq] at h; exact ⟨s, rfl, h.1.symm, h.2.symm⟩

theorem SetAt.look {w : World} {b : Nat} {S : List ByteArray} (h : SetAt w b S) (hk : P.underlying k = some .string) (ht : P.underlying t = some (.map k e)) (hz : (zeroValue e).run P w = .ok (.bool false) w) (s : ByteArray) (hs : s.size ≤ maxLen) :
    (s ∉ S ∧ (Instr.lookup t (.map (some b)) (.string s) false).run P w = .ok (.bool false) w) ∨ (s ∈ S ∧ (Instr.lookup t (.map (some b)) (.string s) false).run P w = .ok (.bool true) w) := by
  rcases h.1.look false (string_keyed hk) ht hz (h.keys hk) (keyOf_string_mk hk hs) with ⟨h1, h2⟩ | ⟨j, v, h1, h2⟩
  · exact .inl ⟨fun hm => h1 (strEntry s) (List.mem_map_of_mem hm) rfl, h2⟩
  · obtain ⟨s', h3, h4, rfl⟩ := strEntry_get h1
    cases h4
    exact .inr ⟨List.mem_of_getElem? h3, h2⟩

def addS (s : ByteArray) (S : List ByteArray) : List ByteArray := if s.toList ∈ S.map (·.toList) then S else S ++ [s]
theorem mem_map_toList {s : ByteArray} {S : List ByteArray} : s.toList ∈ S.map (·.toList) ↔ s ∈ S := by
  rw [List.mem_map]
  constructor
  · rintro ⟨x, hx, he⟩
    rwa [bytes_ext (a := s) (b := x) (by rw [← Lib.toList_data, ← Lib.toList_data, he])]
  · exact fun h => ⟨s, h, rfl⟩
theorem mem_addS {s x : ByteArray} {S : List ByteArray} : x ∈ addS s S ↔ x = s ∨ x ∈ S := by
  unfold addS
  split
  · rename_i h
    rw [mem_map_toList] at h
    exact ⟨Or.inr, fun h' => by rcases h' with rfl | h'; exact h; exact h'⟩
  · rw [List.mem_append, List.mem_singleton]; exact Or.comm
theorem nodup_addS {s : ByteArray} {S : List ByteArray} (h : S.Nodup) : (addS s S).Nodup := by
  unfold addS
  split
  · exact h
  · rename_i hn
    rw [mem_map_toList] at hn
    rw [List.nodup_append]
    exact ⟨h, by simp, fun a ha b hb => by rw [List.mem_singleton.1 hb]; rintro rfl; exact hn ha⟩

theorem SetAt.store {w : World} {b : Nat} {S : List ByteArray} (h : SetAt w b S) (hk : P.underlying k = some .string) (ht : P.underlying t = some (.map k e)) (s : ByteArray) (hs : s.size ≤ maxLen) :
    ∃ o, (Instr.mapUpdate t (.map (some b)) (.string s) (.bool true)).run P w = .ok () (w.putObj b o) ∧ SetAt (w.putObj b o) b (addS s S) := by
  obtain ⟨o, m', h1, h2, h3⟩ := h.1.store (string_keyed hk) ht (h.keys hk) (keyOf_string_mk hk hs) (.bool true)
  refine ⟨o, h1, ?_, nodup_addS h.2.1, fun x hx => by rcases mem_addS.1 hx with rfl | hx; exact hs; exact h.2.2 x hx⟩
  rcases h3 with ⟨hn, rfl⟩ | ⟨j, v, hj, rfl⟩
  · have : s ∉ S := fun hm => hn (strEntry s) (List.mem_map_of_mem hm) rfl
    unfold addS
    rw [if_neg (by rw [mem_map_toList]; exact this), List.map_append]
    exact h2
  · obtain ⟨s', h4, h5, rfl⟩ := strEntry_get hj
    cases h5
    unfold addS
    rw [if_pos (by rw [mem_map_toList]; exact List.mem_of_getElem? h4)]
    have : (S.map strEntry).set j (.string s, .bool true) = S.map strEntry := by
      apply List.ext_getElem?
      intro i
      rw [List.getElem?_set]
      split
      · rename_i he
        subst he
        rw [List.getElem?_map, h4]
        have := (List.getElem?_eq_some_iff.1 hj).1
        rw [List.length_map] at this
        simp [strEntry, this]
      · rfl
    rw [this] at h2
    exact h2

theorem SetAt.delete {w : World} {b : Nat} {S : List ByteArray} (h : SetAt w b S) (hk : P.underlying k = some .string) (ht : P.underlying t = some (.map k e)) (s : ByteArray) (hs : s.size ≤ maxLen) (ty : TypeId) :
    ∃ o S', (Builtin.delete_ #[t, k] ty #[.map (some b), .string s]).run P w = .ok (.tuple #[]) (w.putObj b o) ∧ SetAt (w.putObj b o) b S' ∧ ∀ x, x ∈ S' ↔ x ∈ S ∧ x ≠ s := by
  have hlt := h.lt
  have hkeys := h.keys hk
  obtain ⟨⟨es, clock, hb, hm⟩, hnd, hsz⟩ := h
  have K := string_keyed hk
  have hkey := keyOf_string_mk hk hs
  have hke : ∀ x ∈ es.toList, ∃ l, keyOf P k x.key = some l := fun x hx => hkeys (x.key, x.val) (by rw [← hm]; exact List.mem_map_of_mem (f := fun e : MapEntry => (e.key, e.val)) hx)
  have hset : ∀ o, (setObj b o).run P w = .ok () (w.putObj b o) := fun o => by simp [setObj, Sem.run, hb, World.putObj]
  rcases K.find w hkey es.toList hke with ⟨h1, h2⟩ | ⟨j, e0, h1, h2, h3⟩
  · refine ⟨.map es clock, S, by simp [Builtin.delete_, run_underlying ht, MapKept.run_getObj_map hb, K.check w _ hkey, h1, hset, Result.andThen], ⟨⟨es, clock, World.putObj_heap_same hlt, hm⟩, hnd, hsz⟩, fun x => ⟨fun hx => ⟨hx, ?_⟩, fun hx => hx.1⟩⟩
    rintro rfl
    have : strEntry x ∈ es.toList.map (fun e => (e.key, e.val)) := by rw [hm]; exact List.mem_map_of_mem hx
    obtain ⟨y, hy, he⟩ := List.mem_map.1 this
    simp only [strEntry, Prod.mk.injEq] at he
    exact h2 y hy he.1
  · have hj : j < es.size := by have := (List.getElem?_eq_some_iff.1 h2).1; simpa using this
    have hSj : S[j]? = some s := by
      have : (es.toList.map (fun e => (e.key, e.val)))[j]? = some (e0.key, e0.val) := by rw [List.getElem?_map, h2]; rfl
      rw [hm] at this
      obtain ⟨s', h4, h5, -⟩ := strEntry_get this
      rw [h3] at h5
      cases h5
      exact h4
    have hjS := (List.getElem?_eq_some_iff.1 hSj).1
    refine ⟨.map (es.eraseIdxIfInBounds j) clock, S.eraseIdx j, by simp [Builtin.delete_, run_underlying ht, MapKept.run_getObj_map hb, K.check w _ hkey, h1, hset, Result.andThen], ⟨⟨_, clock, World.putObj_heap_same hlt, ?_⟩, List.Nodup.sublist (List.eraseIdx_sublist ..) hnd, fun x hx => hsz x (List.mem_of_mem_eraseIdx hx)⟩, fun x => ?_⟩
    · rw [Array.eraseIdxIfInBounds, dif_pos hj, Array.toList_eraseIdx, List.eraseIdx_eq_take_drop_succ, List.map_append, List.map_take, List.map_drop, hm, List.eraseIdx_eq_take_drop_succ, List.map_append, List.map_take, List.map_drop]
    · rw [List.mem_eraseIdx_iff_getElem?]
      constructor
      · rintro ⟨i, hi, hx⟩
        refine ⟨List.mem_of_getElem? hx, ?_⟩
        rintro rfl
        exact hi ((List.getElem?_inj (List.getElem?_eq_some_iff.1 hx).1 hnd).1 (hx.trans hSj.symm))
      · rintro ⟨hx, hne⟩
        obtain ⟨i, hi⟩ := List.getElem?_of_mem hx
        refine ⟨i, ?_, hi⟩
        rintro rfl
        rw [hSj] at hi
        cases hi
        exact hne rfl

theorem SetAt.len {w : World} {b : Nat} {S : List ByteArray} (h : SetAt w b S) (ht : P.underlying t = some (.map k e)) (ty : TypeId) : (Builtin.len_ #[t] ty #[.map (some b)]).run P w = .ok (.int .i64 S.length) w := by
  obtain ⟨⟨es, clock, hb, hm⟩, -, -⟩ := h
  have : es.size = S.length := by rw [← Array.length_toList, ← List.length_map (f := fun e : MapEntry => (e.key, e.val)), hm, List.length_map]
  simp [Builtin.len_, run_underlying ht, MapKept.run_getObj_map hb, goInt, this]
end
end Go.Proofs.YtabobdmgjmgifaaDoor
