/-
  The names' map, for the keys sorted and the look-up of a name that is there.
-/
import Derived.Test.YtmmflgbhgjefmaaGreatDoorNamed
import Derived.WideShapes
namespace Go.Proofs.YtmmflgbhgjefmaaGreatDoor
open Go Go.RowKit Go.Maps Go.WideMaps

def anyElem : Value → Option (DataW Unit × List MemPlace) := fun _ => some (.nil, [])
theorem keyStr {s : ByteArray} (hs : s.size ≤ maxLen) : keyOf Tryz.prog 9 (.string s) = some (.string s.data.toList) := keyOf_string_mk Tryz.underlying9 hs
section
variable {c : Ctx} {w : World} {mp mb : Nat} {hv : Value} {st : St}
theorem names_entries {F : Nat → Prop} {m : List (Value × Value)} {names : List (ByteArray × Vl)} (h : NamesAt F w m names) : m.map (·.1) = names.map (fun q => .string q.1) := by
  apply List.ext_getElem?
  intro j
  rw [List.getElem?_map, List.getElem?_map]
  cases hp : m[j]? with
  | none =>
    rw [List.getElem?_eq_none (by have := List.getElem?_eq_none_iff.1 hp; rw [← h.1]; exact this)]
    rfl
  | some p =>
    have hj := (List.getElem?_eq_some_iff.1 hp).1
    have hq : names[j]? = some (names[j]'(by rw [← h.1]; exact hj)) := List.getElem?_eq_getElem _
    rw [hq]
    simp only [Option.map_some, Option.some.injEq]
    exact (h.2 j p _ hp hq).1
set_option maxRecDepth 100000 in
theorem MS.owns (h : MS c w mp mb hv st) (hl : st.names.length ≤ 1000000) :
    ∃ D : DataW Unit, w.ownsMap Tryz.prog 9 anyElem mb st.names.length D ∧ (strKeys D).Perm (st.names.map (·.1.data.toList)) ∧ Maps.size D = st.names.length := by
  obtain ⟨m, ⟨es, ck, hb, hst, hm⟩, hna⟩ := h.names
  have hkeys : es.toList.map (·.key) = st.names.map (fun q => .string q.1) := by
    rw [← names_entries hna, ← hm, List.map_map]; rfl
  have hsz : es.size = st.names.length := by
    have := congrArg List.length hkeys
    simpa using this
  have hrd : ∀ x ∈ es.toList, ∃ s : ByteArray, x.key = .string s ∧ Go.WideElems.rd (H := Unit) Tryz.prog 9 anyElem x = some (.string s.data.toList, .nil) := by
    intro x hx
    have : x.key ∈ st.names.map (fun q => Value.string q.1) := by rw [← hkeys]; exact List.mem_map_of_mem hx
    obtain ⟨q, hq, he⟩ := List.mem_map.1 this
    refine ⟨q.1, he.symm, ?_⟩
    unfold Go.WideElems.rd
    rw [← he, keyStr (h.few q hq).2]
    rfl
  have hrg : es.toList.map (fun x => strOf (Go.WideElems.rg (H := Unit) Tryz.prog 9 anyElem x).1) = st.names.map (·.1.data.toList) := by
    have h1 : es.toList.map (fun x => strOf (Go.WideElems.rg (H := Unit) Tryz.prog 9 anyElem x).1) = (es.toList.map (·.key)).map (fun v => match v with | .string s => s.data.toList | _ => []) := by
      rw [List.map_map]
      refine List.map_congr_left fun x hx => ?_
      obtain ⟨s, hs, hr⟩ := hrd x hx
      simp only [Function.comp_apply, Go.WideElems.rg, hr, Option.getD_some, hs, strOf]
    rw [h1, hkeys, List.map_map]
    rfl
  refine ⟨_, ⟨es, ck, hb, ⟨by rw [hsz]; unfold maxLen; omega, hst, fun x hx => by obtain ⟨s, -, hr⟩ := hrd x hx; exact ⟨_, hr⟩⟩, by omega, rfl⟩, ?_, ?_⟩
  · rw [← hrg]
    have hp := (Go.WideShapes.sorted_perm (es.toList.map (Go.WideElems.rg (H := Unit) Tryz.prog 9 anyElem))).map (fun p => strOf p.1)
    rw [List.map_map] at hp
    exact hp
  · have hp := (Go.WideShapes.sorted_perm (es.toList.map (Go.WideElems.rg (H := Unit) Tryz.prog 9 anyElem))).length_eq
    simp only [Maps.size]
    rw [hp]
    simp [hsz]
set_option maxRecDepth 100000 in
/-- A name that is there, looked up. -/
theorem MS.look1 (h : MS c w mp mb hv st) {q : ByteArray × Vl} (hq : q ∈ st.names) :
    ∃ cs, lookN st.names q.1 = some q.2 ∧ AggAt c.F w (valD q.2) cs ∧ (Instr.lookup 85 (.map (some mb)) (.string q.1) false).run Tryz.prog w = .ok (.agg cs.toArray) w := by
  obtain ⟨m, h1, h2⟩ := h.names
  have hk := namesKeys h2 (fun q hq => (h.few q hq).2)
  rcases h1.look false (string_keyed Tryz.underlying9) Tryz.underlying85 (zeroValueV w) hk (keyOf_string_mk Tryz.underlying9 (h.few q hq).2) with ⟨h3, h4⟩ | ⟨j, v, h3, h4⟩
  · obtain ⟨j, hj⟩ := List.getElem?_of_mem hq
    have hjl := (List.getElem?_eq_some_iff.1 hj).1
    have hm : m[j]? = some (m[j]'(by rw [h2.1]; exact hjl)) := List.getElem?_eq_getElem _
    exact absurd (h2.2 j _ _ hm hj).1 (h3 _ (List.mem_of_getElem? hm))
  · have hjl := (List.getElem?_eq_some_iff.1 h3).1
    have hn : st.names[j]? = some (st.names[j]'(by rw [← h2.1]; exact hjl)) := List.getElem?_eq_getElem _
    obtain ⟨h5, cs, h6, h7⟩ := h2.2 j _ _ h3 hn
    obtain ⟨i, hi⟩ := List.getElem?_of_mem hq
    have hqe : q = st.names[j]'(by rw [← h2.1]; exact hjl) := by
      have e1 : q.1 = (st.names[j]'(by rw [← h2.1]; exact hjl)).1 := by injection h5
      have l1 := lookN_some h.uniq (j := i) (s := q.1) (v := q.2) hi
      have l2 := lookN_some h.uniq (j := j) (s := q.1) (v := (st.names[j]'(by rw [← h2.1]; exact hjl)).2) (by rw [hn, e1])
      rw [l1] at l2
      injection l2 with l3
      exact Prod.ext e1 l3
    refine ⟨cs, lookN_some h.uniq (j := i) hi, by rw [hqe]; exact h7, ?_⟩
    have h6' : v = .agg cs.toArray := h6
    rw [h4, h6']
    rfl
end
end Go.Proofs.YtmmflgbhgjefmaaGreatDoor
