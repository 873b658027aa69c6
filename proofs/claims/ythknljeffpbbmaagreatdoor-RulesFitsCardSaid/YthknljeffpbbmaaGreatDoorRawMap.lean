/-
  A map that the program makes, told as the list of its entries: what a look-up finds, what a store leaves. The elements may be any values.
-/
import Derived.Maps.Keyed
import Derived.Maps.Own
import Derived.DeepKeys4
import Derived.WideKeyPair
import Derived.Test.YthknljeffpbbmaaGreatDoorRangeOver
namespace Go.Proofs.YthknljeffpbbmaaGreatDoor
open Go Go.RowKit Go.Maps Go.MapKept

def RawMap (w : World) (b : Nat) (m : List (Value × Value)) : Prop := ∃ es clock, w.heap[b]? = some (.map es clock) ∧ Stamped es clock ∧ es.toList.map (fun e => (e.key, e.val)) = m
def KeysOk (P : Program) (k : TypeId) (m : List (Value × Value)) : Prop := ∀ p ∈ m, ∃ l, keyOf P k p.1 = some l

theorem RawMap.made (w : World) : RawMap (w.alloc (.map #[] 0)) w.heap.size [] := ⟨#[], 0, World.alloc_heap_new w _, stamped_empty 0, rfl⟩
theorem RawMap.lt {w : World} {b : Nat} {m : List (Value × Value)} (h : RawMap w b m) : b < w.heap.size := let ⟨_, _, h, _⟩ := h; (Array.getElem?_eq_some_iff.1 h).1
theorem RawMap.of_block {w w' : World} {b : Nat} {m : List (Value × Value)} (h : RawMap w b m) (he : w'.heap[b]? = w.heap[b]?) : RawMap w' b m := let ⟨es, c, h1, h2⟩ := h; ⟨es, c, he.trans h1, h2⟩
theorem RawMap.below {w w' : World} {b : Nat} {m : List (Value × Value)} (h : RawMap w b m) (hb : Below w.heap.size w w') : RawMap w' b m := h.of_block (hb.block b h.lt)

section
variable {P : Program} {k e t : TypeId}

theorem RawMap.look {w : World} {b : Nat} {m : List (Value × Value)} (h : RawMap w b m) (c : Bool) (K : Keyed P k) (ht : P.underlying t = some (.map k e)) {z : Value} (hz : (zeroValue e).run P w = .ok z w) (hk : KeysOk P k m) {key : Value} {kl : Lit} (hkey : keyOf P k key = some kl) :
    ((∀ p ∈ m, p.1 ≠ key) ∧ (Instr.lookup t (.map (some b)) key c).run P w = .ok (if c then .tuple #[z, .bool false] else z) w) ∨
      ∃ (j : Nat) (v : Value), m[j]? = some (key, v) ∧ (Instr.lookup t (.map (some b)) key c).run P w = .ok (if c then .tuple #[v, .bool true] else v) w := by
  obtain ⟨es, clock, hb, -, rfl⟩ := h
  have hke : ∀ x ∈ es.toList, ∃ l, keyOf P k x.key = some l := fun x hx => hk _ (List.mem_map_of_mem hx)
  rcases K.find w hkey es.toList hke with ⟨h1, h2⟩ | ⟨j, e0, h1, h2, h3⟩
  · left
    refine ⟨?_, by simp [Instr.lookup, run_underlying ht, MapKept.run_getObj_map hb, K.check w _ hkey, h1, hz, Result.andThen]⟩
    intro p hp
    obtain ⟨x, hx, rfl⟩ := List.mem_map.1 hp
    exact h2 x hx
  · right
    refine ⟨j, e0.val, by rw [List.getElem?_map, h2]; simp [h3], by simp [Instr.lookup, run_underlying ht, MapKept.run_getObj_map hb, K.check w _ hkey, h1, Result.andThen]⟩

/-- What a store leaves. -/
def Stored (key val : Value) (m m' : List (Value × Value)) : Prop := ((∀ p ∈ m, p.1 ≠ key) ∧ m' = m ++ [(key, val)]) ∨ ∃ (j : Nat) (v : Value), m[j]? = some (key, v) ∧ m' = m.set j (key, val)

theorem RawMap.store {w : World} {b : Nat} {m : List (Value × Value)} (h : RawMap w b m) (K : Keyed P k) (ht : P.underlying t = some (.map k e)) (hk : KeysOk P k m) {key : Value} {kl : Lit} (hkey : keyOf P k key = some kl) (val : Value) :
    ∃ o m', (Instr.mapUpdate t (.map (some b)) key val).run P w = .ok () (w.putObj b o) ∧ RawMap (w.putObj b o) b m' ∧ Stored key val m m' := by
  have hlt := h.lt
  obtain ⟨es, clock, hb, hst, rfl⟩ := h
  have hke : ∀ x ∈ es.toList, ∃ l, keyOf P k x.key = some l := fun x hx => hk _ (List.mem_map_of_mem hx)
  have hset : ∀ o, (setObj b o).run P w = .ok () (w.putObj b o) := fun o => by simp [setObj, Sem.run, hb, World.putObj]
  rcases K.find w hkey es.toList hke with ⟨h1, h2⟩ | ⟨j, e0, h1, h2, h3⟩
  · refine ⟨.map (es.push { key, val, born := clock }) (clock + 1), _, ?_, ⟨_, _, World.putObj_heap_same hlt, stamped_push hst (fun x hx => h2 x hx), rfl⟩, .inl ⟨?_, by simp⟩⟩
    · simp [Instr.mapUpdate, run_underlying ht, MapKept.run_getObj_map hb, K.check w _ hkey, h1, hset, Result.andThen]
    · intro p hp
      obtain ⟨x, hx, rfl⟩ := List.mem_map.1 hp
      exact h2 x hx
  · have hj : es[j]? = some e0 := by rw [← Array.getElem?_toList]; exact h2
    refine ⟨.map (es.modify j fun e => { e with key, val := val }) clock, _, ?_, ⟨_, _, World.putObj_heap_same hlt, stamped_modify hst j _ (fun _ _ => rfl) (fun e _ he => by rw [hj] at he; cases he; exact h3.symm), rfl⟩, .inr ⟨j, e0.val, by rw [List.getElem?_map, h2]; simp [h3], ?_⟩⟩
    · simp [Instr.mapUpdate, run_underlying ht, MapKept.run_getObj_map hb, K.check w _ hkey, h1, hset, Result.andThen, hj, h3, K.stays w hkey]
    · apply List.ext_getElem?
      intro i
      rw [List.getElem?_map, Array.getElem?_toList, Array.getElem?_modify, List.getElem?_set]
      by_cases hij : j = i
      · subst hij
        have hjl : j < es.size := (Array.getElem?_eq_some_iff.1 hj).1
        simp [hjl]
      · simp [hij]

theorem Stored.keys {key val : Value} {m m' : List (Value × Value)} (h : Stored key val m m') (hk : KeysOk P k m) {kl : Lit} (hkey : keyOf P k key = some kl) : KeysOk P k m' := by
  intro p hp
  rcases h with ⟨-, rfl⟩ | ⟨j, v, hj, rfl⟩
  · rcases List.mem_append.1 hp with h | h
    · exact hk p h
    · rw [List.mem_singleton.1 h]; exact ⟨_, hkey⟩
  · rcases List.mem_or_eq_of_mem_set hp with h | h
    · exact hk p h
    · rw [h]; exact ⟨_, hkey⟩
/-- Each entry behind a store is one of before, or the stored one. -/
theorem Stored.mem {key val : Value} {m m' : List (Value × Value)} (h : Stored key val m m') {p : Value × Value} (hp : p ∈ m') : p ∈ m ∨ p = (key, val) := by
  rcases h with ⟨-, rfl⟩ | ⟨j, v, hj, rfl⟩
  · rcases List.mem_append.1 hp with h | h
    · exact .inl h
    · exact .inr (List.mem_singleton.1 h)
  · exact List.mem_or_eq_of_mem_set hp
end

end Go.Proofs.YthknljeffpbbmaaGreatDoor
