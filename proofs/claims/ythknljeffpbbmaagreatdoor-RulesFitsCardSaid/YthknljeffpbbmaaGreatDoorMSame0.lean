/-
  What the walks want of worlds: blocks known whole, what a store leaves, what has grown.
  What lies in memory and is never written again, told as data: rows of structs, whose cells are plain values or rows again. F: in which blocks it may lie.
  Values of the language: as data, in memory; what may be, what is the same, in plain words.
  slices.IndexFunc and slices.ContainsFunc at values: the first of a row of which a function says yes. The function may be any; what it does to the world is told by I.
  Plain laws of what may be: how many are left; a row's search says the same.
  The walk of value.rises.
  What lies in memory behind two, three or four boxes.
  A slice of the call's own whose elements are structs: what an append leaves of it, and of the world. F: in which blocks the elements' own parts may lie.
  A slice of strings of the call's own.
  Named values in memory.
  Nodes in memory, whatever their slices' capacities.
  Nodes in memory.
  An append of several structs at once, that lie in a row somewhere.
  The walk of value.Same at the value none: is a value just that?
-/
import Derived.Laws.OwnMore
import Derived.Laws.Rows
import Derived.Test.YthknljeffpbbmaaGreatDoorMParseBal
namespace Go.Proofs.YthknljeffpbbmaaGreatDoor
open Go Go.RowKit

theorem block_facts {w : World} {b : Nat} {cs : Array Value} {t : TypeId} (h : w.heap[b]? = some (.cells cs t (0, 0))) :
    b < w.heap.size ∧ (∀ j, w.cell? ⟨b, j, none⟩ = cs[j]?) ∧ ∀ j, w.frozen? ⟨b, j, none⟩ = false := by
  refine ⟨(Array.getElem?_eq_some_iff.1 h).1, fun j => ?_, fun j => ?_⟩
  · unfold World.cell?; rw [h]; rfl
  · unfold World.frozen?; rw [h]; simp
theorem fresh_facts {w w2 : World} {cs : Array Value} {t : TypeId} (hb : Below (w.alloc (.cells cs t)).heap.size (w.alloc (.cells cs t)) w2) : w2.heap[w.heap.size]? = some (.cells cs t (0, 0)) :=
  (hb.block _ (by simp)).trans (heap_alloc_new w _)
theorem two_facts {w : World} {b : Nat} {x y : Value} {t : TypeId} (h : w.heap[b]? = some (.cells #[x, y] t (0, 0))) :
    b < w.heap.size ∧ w.cell? ⟨b, 0, none⟩ = some x ∧ w.cell? ⟨b, 1, none⟩ = some y ∧ w.frozen? ⟨b, 0, none⟩ = false ∧ w.frozen? ⟨b, 1, none⟩ = false := by
  obtain ⟨h1, h2, h3⟩ := block_facts h
  exact ⟨h1, h2 0, h2 1, h3 0, h3 1⟩
theorem set_same {w : World} {b : Nat} {cs : Array Value} {t : TypeId} (h : w.heap[b]? = some (.cells cs t (0, 0))) (i : Nat) (v : Value) : (w.setCell ⟨b, i, none⟩ v).heap[b]? = some (.cells (cs.setIfInBounds i v) t (0, 0)) := by
  unfold World.setCell
  show (Array.modify _ _ _)[b]? = _
  rw [Array.getElem?_modify, if_pos rfl, h]; rfl
theorem set_other {w : World} {b k : Nat} (h : k ≠ b) (i : Nat) (v : Value) : (w.setCell ⟨b, i, none⟩ v).heap[k]? = w.heap[k]? := Below.heap_setCell _ _ _ _ (fun e => h e)
theorem grownBy_refl (w : World) (row : Option Nat) : w.grownBy w row := ⟨rfl, rfl, rfl, Nat.le_refl _, fun _ _ _ => rfl⟩
theorem grownBy_trans {a b c : World} {row : Option Nat} (h : a.grownBy b row) (k : b.grownBy c row) : a.grownBy c row :=
  ⟨k.os.trans h.os, k.tape.trans h.tape, k.output.trans h.output, Nat.le_trans h.size k.size, fun i hi hn => (k.block i (Nat.lt_of_lt_of_le hi h.size) hn).trans (h.block i hi hn)⟩
theorem grownBy_below {a b : World} {row : Option Nat} (h : Below a.heap.size a b) : a.grownBy b row := ⟨h.os, h.tape, h.output, h.size, fun i hi _ => h.block i hi⟩
theorem grownBy_set {a b : World} {g : Nat} (h : a.grownBy b (some g)) (i : Nat) (v : Value) : a.grownBy (b.setCell ⟨g, i, none⟩ v) (some g) :=
  ⟨h.os, h.tape, h.output, by simpa using h.size, fun k hk hn => (set_other (fun e => hn (by rw [e])) i v).trans (h.block k hk hn)⟩
theorem grownBy_alloc {a b : World} {row : Option Nat} (h : a.grownBy b row) (o : Obj) : a.grownBy (b.alloc o) row :=
  ⟨h.os, h.tape, h.output, Nat.le_trans h.size (by simp), fun k hk hn => (Below.heap_alloc b o k (Nat.lt_of_lt_of_le hk h.size)).trans (h.block k hk hn)⟩
theorem grownBy_new {a b : World} {row : Option Nat} (h : a.grownBy b row) {g : Nat} (hg : a.heap.size ≤ g) (i : Nat) (v : Value) : a.grownBy (b.setCell ⟨g, i, none⟩ v) row :=
  ⟨h.os, h.tape, h.output, by simpa using h.size, fun k hk hn => (set_other (by omega) i v).trans (h.block k hk hn)⟩
theorem grownBy_own {a b c : World} {bp : Nat} {v : Value} (h : a.grownBy b (some bp)) (k : b.grownBy c v.ownBlock) (hv : ∀ g, v.ownBlock = some g → a.heap.size ≤ g) : a.grownBy c (some bp) :=
  ⟨k.os.trans h.os, k.tape.trans h.tape, k.output.trans h.output, Nat.le_trans h.size k.size, fun i hi hn => (k.block i (Nat.lt_of_lt_of_le hi h.size) (fun e => by have := hv i e.symm; omega)).trans (h.block i hi hn)⟩
theorem four_facts {w : World} {b : Nat} {x y z u : Value} {t : TypeId} (h : w.heap[b]? = some (.cells #[x, y, z, u] t (0, 0))) :
    b < w.heap.size ∧ w.cell? ⟨b, 0, none⟩ = some x ∧ w.cell? ⟨b, 1, none⟩ = some y ∧ w.cell? ⟨b, 2, none⟩ = some z ∧ w.cell? ⟨b, 3, none⟩ = some u := by
  obtain ⟨h1, h2, h3⟩ := block_facts h
  exact ⟨h1, h2 0, h2 1, h2 2, h2 3⟩
theorem five_facts {w : World} {b : Nat} {x y z u v : Value} {t : TypeId} (h : w.heap[b]? = some (.cells #[x, y, z, u, v] t (0, 0))) :
    b < w.heap.size ∧ w.cell? ⟨b, 0, none⟩ = some x ∧ w.cell? ⟨b, 1, none⟩ = some y ∧ w.cell? ⟨b, 2, none⟩ = some z ∧ w.cell? ⟨b, 3, none⟩ = some u ∧ w.cell? ⟨b, 4, none⟩ = some v ∧
    w.frozen? ⟨b, 0, none⟩ = false ∧ w.frozen? ⟨b, 1, none⟩ = false ∧ w.frozen? ⟨b, 2, none⟩ = false ∧ w.frozen? ⟨b, 3, none⟩ = false ∧ w.frozen? ⟨b, 4, none⟩ = false := by
  obtain ⟨h1, h2, h3⟩ := block_facts h
  exact ⟨h1, h2 0, h2 1, h2 2, h2 3, h2 4, h3 0, h3 1, h3 2, h3 3, h3 4⟩
theorem one_facts {w : World} {b : Nat} {x : Value} {t : TypeId} (h : w.heap[b]? = some (.cells #[x] t (0, 0))) : b < w.heap.size ∧ w.cell? ⟨b, 0, none⟩ = some x := by
  obtain ⟨h1, h2, h3⟩ := block_facts h
  exact ⟨h1, h2 0⟩
theorem four_wfacts {w : World} {b : Nat} {x y z u : Value} {t : TypeId} (h : w.heap[b]? = some (.cells #[x, y, z, u] t (0, 0))) :
    b < w.heap.size ∧ w.cell? ⟨b, 0, none⟩ = some x ∧ w.cell? ⟨b, 1, none⟩ = some y ∧ w.cell? ⟨b, 2, none⟩ = some z ∧ w.cell? ⟨b, 3, none⟩ = some u ∧
    w.frozen? ⟨b, 0, none⟩ = false ∧ w.frozen? ⟨b, 1, none⟩ = false ∧ w.frozen? ⟨b, 2, none⟩ = false ∧ w.frozen? ⟨b, 3, none⟩ = false := by
  obtain ⟨h1, h2, h3⟩ := block_facts h
  exact ⟨h1, h2 0, h2 1, h2 2, h2 3, h3 0, h3 1, h3 2, h3 3⟩
theorem three_facts {w : World} {b : Nat} {x y z : Value} {t : TypeId} (h : w.heap[b]? = some (.cells #[x, y, z] t (0, 0))) :
    b < w.heap.size ∧ w.cell? ⟨b, 0, none⟩ = some x ∧ w.cell? ⟨b, 1, none⟩ = some y ∧ w.cell? ⟨b, 2, none⟩ = some z ∧
    w.frozen? ⟨b, 0, none⟩ = false ∧ w.frozen? ⟨b, 1, none⟩ = false ∧ w.frozen? ⟨b, 2, none⟩ = false := by
  obtain ⟨h1, h2, h3⟩ := block_facts h
  exact ⟨h1, h2 0, h2 1, h2 2, h3 0, h3 1, h3 2⟩
end Go.Proofs.YthknljeffpbbmaaGreatDoor
namespace Go.Proofs.YthknljeffpbbmaaGreatDoor
open Go Go.RowKit

inductive Dat where
  | one (v : Value)
  | rowb (b : Bool) (l : List (List Dat))
/-- A row whose slice's capacity plays no part. -/
abbrev Dat.row (l : List (List Dat)) : Dat := .rowb false l

/-- Address a is where the cells of the rows stand (whatever it is, where there are none). b: the capacity is told to be no less than the length. -/
inductive DatAt (F : Nat → Prop) (w : World) : Dat → Value → Prop
  | one (v : Value) : DatAt F w (.one v) v
  | rowb (b : Bool) (l : List (List Dat)) (a : Option Addr) (cap : Nat) (hcap : b = true → l.length ≤ cap) (vs : List (List Value)) (hlen : vs.length = l.length)
      (hcell : ∀ (j : Nat) cs, vs[j]? = some cs → ∃ b off, a = some ⟨b, off, none⟩ ∧ F b ∧ b < w.heap.size ∧ ∀ (i : Nat) u, cs[i]? = some u → w.cell? ⟨b, off + j * cs.length + i, none⟩ = some u)
      (hsz : ∀ (j : Nat) cs ds, vs[j]? = some cs → l[j]? = some ds → cs.length = ds.length)
      (hsub : ∀ (j : Nat) cs ds (i : Nat) u d, vs[j]? = some cs → l[j]? = some ds → cs[i]? = some u → ds[i]? = some d → DatAt F w d u) : DatAt F w (.rowb b l) (.slice a l.length cap)

/-- The cells of a struct. -/
def AggAt (F : Nat → Prop) (w : World) (ds : List Dat) (cs : List Value) : Prop :=
  cs.length = ds.length ∧ ∀ (i : Nat) u d, cs[i]? = some u → ds[i]? = some d → DatAt F w d u
/-- The structs behind an address. -/
def RowAt (F : Nat → Prop) (w : World) (a : Option Addr) (l : List (List Dat)) : Prop :=
  ∀ (j : Nat) ds, l[j]? = some ds → ∃ b off cs, a = some ⟨b, off, none⟩ ∧ F b ∧ b < w.heap.size ∧ AggAt F w ds cs ∧ ∀ (i : Nat) u, cs[i]? = some u → w.cell? ⟨b, off + j * ds.length + i, none⟩ = some u

section
variable {F G : Nat → Prop} {w w' : World}

theorem DatAt.mono {d : Dat} {v : Value} (h : DatAt F w d v) (hk : ∀ b, F b → b < w.heap.size → G b ∧ b < w'.heap.size ∧ w'.heap[b]? = w.heap[b]?) : DatAt G w' d v := by
  induction h with
  | one v => exact .one v
  | rowb bo l a cap hcap vs hlen hcell hsz hsub ih =>
    refine .rowb bo l a cap hcap vs hlen (fun j cs hj => ?_) hsz ih
    obtain ⟨b, off, ha, hF, hb, hc⟩ := hcell j cs hj
    obtain ⟨h1, h2, h3⟩ := hk b hF hb
    exact ⟨b, off, ha, h1, h2, fun i u hu => (World.cell?_of_block h3).trans (hc i u hu)⟩
theorem AggAt.mono {ds : List Dat} {cs : List Value} (h : AggAt F w ds cs) (hk : ∀ b, F b → b < w.heap.size → G b ∧ b < w'.heap.size ∧ w'.heap[b]? = w.heap[b]?) : AggAt G w' ds cs :=
  ⟨h.1, fun i u d h1 h2 => (h.2 i u d h1 h2).mono hk⟩
theorem RowAt.mono {a : Option Addr} {l : List (List Dat)} (h : RowAt F w a l) (hk : ∀ b, F b → b < w.heap.size → G b ∧ b < w'.heap.size ∧ w'.heap[b]? = w.heap[b]?) : RowAt G w' a l := by
  intro j ds hj
  obtain ⟨b, off, cs, ha, hF, hb, hd, hc⟩ := h j ds hj
  obtain ⟨h1, h2, h3⟩ := hk b hF hb
  exact ⟨b, off, cs, ha, h1, h2, hd.mono hk, fun i u hu => (World.cell?_of_block h3).trans (hc i u hu)⟩

theorem DatAt.one_inv {v u : Value} (h : DatAt F w (.one v) u) : u = v := by cases h; rfl
theorem DatAt.rowb_inv {bo : Bool} {l : List (List Dat)} {u : Value} (h : DatAt F w (.rowb bo l) u) : ∃ a cap, u = .slice a l.length cap ∧ (bo = true → l.length ≤ cap) ∧ RowAt F w a l := by
  cases h with
  | rowb bo l a cap hcap vs hlen hcell hsz hsub =>
    refine ⟨a, cap, rfl, hcap, fun j ds hj => ?_⟩
    have hjl := (List.getElem?_eq_some_iff.1 hj).1
    have hjv : vs[j]? = some (vs[j]'(by omega)) := List.getElem?_eq_getElem (by omega)
    obtain ⟨b, off, ha, hF, hb, hc⟩ := hcell j _ hjv
    refine ⟨b, off, _, ha, hF, hb, ⟨hsz j _ _ hjv hj, fun i u d h1 h2 => hsub j _ _ i u d hjv hj h1 h2⟩, fun i u hu => ?_⟩
    rw [← hsz j _ _ hjv hj]
    exact hc i u hu
theorem DatAt.row_inv {l : List (List Dat)} {u : Value} (h : DatAt F w (.row l) u) : ∃ a cap, u = .slice a l.length cap ∧ RowAt F w a l := by
  obtain ⟨a, cap, h1, -, h2⟩ := h.rowb_inv
  exact ⟨a, cap, h1, h2⟩
theorem DatAt.rowb_mk {bo : Bool} {l : List (List Dat)} {a : Option Addr} (cap : Nat) (hcap : bo = true → l.length ≤ cap) (h : RowAt F w a l) : DatAt F w (.rowb bo l) (.slice a l.length cap) := by
  have hex : ∀ j : Fin l.length, ∃ cs : List Value, AggAt F w l[j] cs ∧ ∃ b off, a = some ⟨b, off, none⟩ ∧ F b ∧ b < w.heap.size ∧ ∀ (i : Nat) u, cs[i]? = some u → w.cell? ⟨b, off + j * (l[j]).length + i, none⟩ = some u := by
    intro j
    obtain ⟨b, off, cs, ha, hF, hb, hd, hc⟩ := h j _ (List.getElem?_eq_getElem j.2)
    exact ⟨cs, hd, b, off, ha, hF, hb, hc⟩
  obtain ⟨f, hf⟩ := Classical.axiomOfChoice hex
  have hget : ∀ (j : Nat) cs, (List.ofFn f)[j]? = some cs → ∃ hj : j < l.length, cs = f ⟨j, hj⟩ := by
    intro j cs hj
    obtain ⟨h1, h2⟩ := List.getElem?_eq_some_iff.1 hj
    rw [List.length_ofFn] at h1
    exact ⟨h1, by rw [← h2, List.getElem_ofFn]⟩
  refine .rowb bo l a cap hcap (List.ofFn f) (by simp) ?_ ?_ ?_
  · intro j cs hj
    obtain ⟨hjl, rfl⟩ := hget j cs hj
    obtain ⟨hd, b, off, ha, hF, hb, hc⟩ := hf ⟨j, hjl⟩
    refine ⟨b, off, ha, hF, hb, fun i u hu => ?_⟩
    rw [hd.1]
    exact hc i u hu
  · intro j cs ds hj hl
    obtain ⟨hjl, rfl⟩ := hget j cs hj
    rw [List.getElem?_eq_getElem hjl] at hl
    cases hl
    exact (hf ⟨j, hjl⟩).1.1
  · intro j cs ds i u d hj hl hu hd
    obtain ⟨hjl, rfl⟩ := hget j cs hj
    rw [List.getElem?_eq_getElem hjl] at hl
    cases hl
    exact (hf ⟨j, hjl⟩).1.2 i u d hu hd
theorem DatAt.row_mk {l : List (List Dat)} {a : Option Addr} (cap : Nat) (h : RowAt F w a l) : DatAt F w (.row l) (.slice a l.length cap) := DatAt.rowb_mk cap (fun h => by cases h) h

theorem AggAt.nil : AggAt F w [] [] := ⟨rfl, fun i u d h _ => by simp at h⟩
theorem AggAt.cons_inv {d : Dat} {ds : List Dat} {cs : List Value} (h : AggAt F w (d :: ds) cs) : ∃ c cs', cs = c :: cs' ∧ DatAt F w d c ∧ AggAt F w ds cs' := by
  obtain ⟨h1, h2⟩ := h
  cases cs with
  | nil => simp at h1
  | cons c cs' => exact ⟨c, cs', rfl, h2 0 c d rfl rfl, by simpa using h1, fun i u d' hu hd => h2 (i + 1) u d' (by simpa using hu) (by simpa using hd)⟩
theorem AggAt.nil_inv {cs : List Value} (h : AggAt F w [] cs) : cs = [] := List.length_eq_zero_iff.1 h.1
theorem AggAt.cons {d : Dat} {ds : List Dat} {c : Value} {cs : List Value} (h1 : DatAt F w d c) (h2 : AggAt F w ds cs) : AggAt F w (d :: ds) (c :: cs) := by
  refine ⟨by simp [h2.1], fun i u d' hu hd => ?_⟩
  cases i with
  | zero => simp at hu hd; rw [← hu, ← hd]; exact h1
  | succ i => exact h2.2 i u d' (by simpa using hu) (by simpa using hd)

theorem RowAt.nil (a : Option Addr) : RowAt F w a [] := fun j ds h => by simp at h
theorem keep_below (F : Nat → Prop) (hb : Below w.heap.size w w') : ∀ b, F b → b < w.heap.size → F b ∧ b < w'.heap.size ∧ w'.heap[b]? = w.heap[b]? :=
  fun b hF hl => ⟨hF, Nat.lt_of_lt_of_le hl hb.size, hb.block b hl⟩
theorem RowAt.below {a : Option Addr} {l : List (List Dat)} (h : RowAt F w a l) (hb : Below w.heap.size w w') : RowAt F w' a l := h.mono (keep_below F hb)
theorem AggAt.below {ds : List Dat} {cs : List Value} (h : AggAt F w ds cs) (hb : Below w.heap.size w w') : AggAt F w' ds cs := h.mono (keep_below F hb)
/-- What lies in memory lies in blocks that are there. -/
theorem RowAt.here {a : Option Addr} {l : List (List Dat)} (h : RowAt F w a l) : RowAt (fun b => F b ∧ b < w.heap.size) w a l := h.mono fun _b h1 h2 => ⟨⟨h1, h2⟩, h2, rfl⟩
theorem AggAt.here {ds : List Dat} {cs : List Value} (h : AggAt F w ds cs) : AggAt (fun b => F b ∧ b < w.heap.size) w ds cs := h.mono fun _b h1 h2 => ⟨⟨h1, h2⟩, h2, rfl⟩
theorem RowAt.wider {a : Option Addr} {l : List (List Dat)} (h : RowAt F w a l) (hg : ∀ b, F b → b < w.heap.size → G b) : RowAt G w a l := h.mono fun b h1 h2 => ⟨hg b h1 h2, h2, rfl⟩
theorem AggAt.wider {ds : List Dat} {cs : List Value} (h : AggAt F w ds cs) (hg : ∀ b, F b → b < w.heap.size → G b) : AggAt G w ds cs := h.mono fun b h1 h2 => ⟨hg b h1 h2, h2, rfl⟩
/-- The rest of a row. -/
theorem RowAt.drop {b off n : Nat} {l : List (List Dat)} (h : RowAt F w (some ⟨b, off, none⟩) l) (hn : ∀ ds ∈ l, ds.length = n) (k : Nat) : RowAt F w (some ⟨b, off + k * n, none⟩) (l.drop k) := by
  intro j ds hj
  rw [List.getElem?_drop] at hj
  obtain ⟨b', off', cs, ha, hF, hb, hd, hc⟩ := h (k + j) ds hj
  cases ha
  refine ⟨b, off + k * n, cs, rfl, hF, hb, hd, fun i u hu => ?_⟩
  have := hc i u hu
  rw [hn ds (List.mem_of_getElem? hj)] at this ⊢
  rw [show off + k * n + j * n + i = off + (k + j) * n + i by rw [Nat.add_mul]; omega]
  exact this
end

/-- A row of strings. -/
def strsD (l : List ByteArray) : List (List Dat) := l.map fun s => [.one (.string s)]
theorem strsD_len (l : List ByteArray) : (strsD l).length = l.length := by simp [strsD]
theorem RowAt.strs {F : Nat → Prop} {w : World} {a : Option Addr} {l : List ByteArray} (h : RowAt F w a (strsD l)) : StrsAt w a l := by
  intro j x hj
  obtain ⟨b, off, cs, ha, hF, hb, hd, hc⟩ := h j [.one (.string x)] (by simp [strsD, hj])
  obtain ⟨c, cs', rfl, h1, h2⟩ := hd.cons_inv
  obtain rfl := h1.one_inv
  exact ⟨b, off, ha, by have := hc 0 _ rfl; simpa using this⟩

end Go.Proofs.YthknljeffpbbmaaGreatDoor
namespace Go.Proofs.YthknljeffpbbmaaGreatDoor
open Go Go.RowKit

/-- A value: its kind, its number, its text, its items, its keys. -/
inductive Vl where
  | mk (kind n : Int) (s : ByteArray) (l : List Vl) (ks : List ByteArray)
namespace Vl
def kind : Vl → Int | .mk k _ _ _ _ => k
def num : Vl → Int | .mk _ n _ _ _ => n
def str : Vl → ByteArray | .mk _ _ s _ _ => s
def items : Vl → List Vl | .mk _ _ _ l _ => l
def keys : Vl → List ByteArray | .mk _ _ _ _ ks => ks
end Vl
def vZero : Vl := .mk 0 0 ⟨#[]⟩ [] []

mutual
def valD : Vl → List Dat
  | .mk k n s l ks => [.one (.int .i64 k), .one (.int .i64 n), .one (.string s), .row (valsD l), .row (strsD ks)]
def valsD : List Vl → List (List Dat)
  | [] => []
  | v :: t => valD v :: valsD t
end
theorem valsD_map (l : List Vl) : valsD l = l.map valD := by
  induction l with
  | nil => simp [valsD]
  | cons n t ih => simp [valsD, ih]
theorem valsD_len (l : List Vl) : (valsD l).length = l.length := by rw [valsD_map, List.length_map]
theorem valsD_append (l m : List Vl) : valsD (l ++ m) = valsD l ++ valsD m := by rw [valsD_map, valsD_map, valsD_map, List.map_append]
theorem valD_len (v : Vl) : (valD v).length = 5 := by obtain ⟨k, n, s, l, ks⟩ := v; rfl

section
variable {F : Nat → Prop} {w : World}
/-- A value's cells. -/
theorem AggAt.val {k n : Int} {s : ByteArray} {l : List Vl} {ks : List ByteArray} {cs : List Value} (h : AggAt F w (valD (.mk k n s l ks)) cs) :
    ∃ a c a' c', cs = [.int .i64 k, .int .i64 n, .string s, .slice a l.length c, .slice a' ks.length c'] ∧ RowAt F w a (valsD l) ∧ RowAt F w a' (strsD ks) := by
  rw [valD] at h
  obtain ⟨c0, cs, rfl, h0, h⟩ := h.cons_inv
  obtain ⟨c1, cs, rfl, h1, h⟩ := h.cons_inv
  obtain ⟨c2, cs, rfl, h2, h⟩ := h.cons_inv
  obtain ⟨c3, cs, rfl, h3, h⟩ := h.cons_inv
  obtain ⟨c4, cs, rfl, h4, h⟩ := h.cons_inv
  obtain rfl := h.nil_inv
  obtain rfl := h0.one_inv
  obtain rfl := h1.one_inv
  obtain rfl := h2.one_inv
  obtain ⟨a, cap, rfl, hr⟩ := h3.row_inv
  obtain ⟨a', cap', rfl, hr'⟩ := h4.row_inv
  exact ⟨a, cap, a', cap', by rw [valsD_len, strsD_len], hr, hr'⟩
theorem AggAt.val_mk (k n : Int) (s : ByteArray) {l : List Vl} {ks : List ByteArray} {a a' : Option Addr} (c c' : Nat) (h : RowAt F w a (valsD l)) (h' : RowAt F w a' (strsD ks)) :
    AggAt F w (valD (.mk k n s l ks)) [.int .i64 k, .int .i64 n, .string s, .slice a l.length c, .slice a' ks.length c'] := by
  rw [valD]
  exact .cons (.one _) (.cons (.one _) (.cons (.one _) (.cons (by rw [← valsD_len l]; exact DatAt.row_mk c h) (.cons (by rw [← strsD_len ks]; exact DatAt.row_mk c' h') .nil))))
/-- A value among others. -/
theorem RowAt.val {a : Option Addr} {l : List Vl} (h : RowAt F w a (valsD l)) {j : Nat} {k n : Int} {s : ByteArray} {m : List Vl} {ks : List ByteArray} (hj : l[j]? = some (.mk k n s m ks)) :
    ∃ b off a1 c1 a2 c2, a = some ⟨b, off, none⟩ ∧ F b ∧ b < w.heap.size ∧ w.cell? ⟨b, off + j * 5, none⟩ = some (.int .i64 k) ∧ w.cell? ⟨b, off + j * 5 + 1, none⟩ = some (.int .i64 n) ∧ w.cell? ⟨b, off + j * 5 + 2, none⟩ = some (.string s) ∧
      w.cell? ⟨b, off + j * 5 + 3, none⟩ = some (.slice a1 m.length c1) ∧ w.cell? ⟨b, off + j * 5 + 4, none⟩ = some (.slice a2 ks.length c2) ∧ RowAt F w a1 (valsD m) ∧ RowAt F w a2 (strsD ks) := by
  obtain ⟨b, off, cs, ha, hF, hb, hd, hc⟩ := h j (valD (.mk k n s m ks)) (by rw [valsD_map, List.getElem?_map, hj]; rfl)
  obtain ⟨a1, c1, a2, c2, rfl, hr, hr'⟩ := hd.val
  rw [valD_len] at hc
  exact ⟨b, off, a1, c1, a2, c2, ha, hF, hb, hc 0 _ rfl, hc 1 _ rfl, hc 2 _ rfl, hc 3 _ rfl, hc 4 _ rfl, hr, hr'⟩
end

/-- Do texts rise, none too long? (p: the one ahead) -/
def risesGo : Option ByteArray → List ByteArray → Bool
  | _, [] => true
  | p, s :: t => decide (s.size ≤ 65536) && (match p with | none => true | some q => Op.bytesLess q.toList s.toList) && risesGo (some s) t
def risesL (l : List ByteArray) : Bool := risesGo none l && decide (l.length ≤ 1000)
/-- May a value be, but for what is in it? -/
def nodeOk (k n : Int) (s : ByteArray) (l : List Vl) (ks : List ByteArray) : Bool :=
  if k = 0 then n == 0 && s.toList.isEmpty && l.isEmpty && ks.isEmpty
  else if k = 1 then (n == 0 || n == 1) && s.toList.isEmpty && l.isEmpty && ks.isEmpty
  else if k = 2 then s.toList.isEmpty && l.isEmpty && ks.isEmpty
  else if k = 3 then n == 0 && decide (s.size ≤ 65536) && l.isEmpty && ks.isEmpty
  else if k = 4 then n == 0 && s.toList.isEmpty && decide (l.length ≤ 1000) && ks.isEmpty
  else if k = 5 then n == 0 && s.toList.isEmpty && l.length == ks.length && risesL ks
  else false
mutual
/-- May it be, so deep, so many being left? And how many are left then. -/
def mayV : Vl → Int → Int → Bool × Int
  | .mk k n s l ks, d, m => if 60 < d ∨ m - 1 < 0 then (false, m - 1) else if nodeOk k n s l ks = true then mayVs l (d + 1) (m - 1) else (false, m - 1)
def mayVs : List Vl → Int → Int → Bool × Int
  | [], _, m => (true, m)
  | v :: t, d, m => if (mayV v d m).1 = true then mayVs t d (mayV v d m).2 else (false, (mayV v d m).2)
end
def checkV (v : Vl) : Bool := (mayV v 1 20000).1
mutual
def sameV : Vl → Vl → Bool
  | .mk k n s l ks, .mk k' n' s' l' ks' => k == k' && n == n' && s.toList == s'.toList && ks.map (·.toList) == ks'.map (·.toList) && sameVs l l'
def sameVs : List Vl → List Vl → Bool
  | [], [] => true
  | v :: t, v' :: t' => sameV v v' && sameVs t t'
  | _, _ => false
end
def truthV (v : Vl) : Bool := checkV v && (v.num != 0 || !v.str.toList.isEmpty || !v.items.isEmpty)
end Go.Proofs.YthknljeffpbbmaaGreatDoor
namespace Go.Proofs.YthknljeffpbbmaaGreatDoor
open Go Go.RowKit

def vCells (k n : Int) (s : ByteArray) (a1 : Option Addr) (l1 c1 : Nat) (a2 : Option Addr) (l2 c2 : Nat) : Value := .agg #[.int .i64 k, .int .i64 n, .string s, .slice a1 l1 c1, .slice a2 l2 c2]

set_option maxRecDepth 100000 in
set_option maxHeartbeats 1000000 in
theorem indexFunc_vals (F : Nat → Prop) (g : FuncId) (fa lb : Array Value) (eg : ∀ args w, (callFunc g args).run Tryz.prog w = .ok (.enter g args) w) (a : Option Addr) (cap : Nat) (l : List Vl) (q : Nat → Bool) (I : Nat → World → Prop) (w : World)
    (hl : l.length ≤ 9223372036854775807) (h0 : I 0 w) (hI : ∀ k w', I k w' → RowAt F w' a (valsD l))
    (hg : ∀ k kk n s m ks a1 c1 a2 c2 w1, l[k]? = some (.mk kk n s m ks) → I k w1 → (∀ j, j < k → q j = false) → RowAt F w1 a1 (valsD m) → RowAt F w1 a2 (strsD ks) →
      Calls Tryz.prog g ((fa ++ #[vCells kk n s a1 m.length c1 a2 ks.length c2]) ++ lb) w1 fun e w2 => e = .returned (.bool (q k)) ∧ I (k + 1) w2) :
    Calls Tryz.prog 140 #[.slice a l.length cap, .func (.func g) fa lb] w (Found q l.length I) := by
  go_enter Tryz.func140, Tryz.ntmps140
  go_wp2
  go_loopw [8] (fun i wr => ∃ k : Nat, i = .int .i64 k ∧ k ≤ l.length ∧ I k wr ∧ ∀ j, j < k → q j = false) (fun i _ => l.length - (intOf i).toNat)
  case atStart => exact ⟨0, rfl, Nat.zero_le _, h0, fun j h => absurd h (Nat.not_lt_zero _)⟩
  case round =>
    obtain ⟨k, rfl, hk, hIk, hq⟩ := hrel
    by_cases hlt : k < l.length
    · cases hx : l[k] with
      | mk kk n s m ks =>
        have hj : l[k]? = some (.mk kk n s m ks) := by rw [List.getElem?_eq_getElem hlt, hx]
        obtain ⟨b, off, a1, c1, a2, c2, rfl, hF, hbl, r0, r1, r2, r3, r4, hr1, hr2⟩ := (hI k wr hIk).val hj
        have hcall := hg k _ _ _ _ _ a1 c1 a2 c2 wr hj hIk hq hr1 hr2
        unfold vCells at hcall
        have HC := Lib.hid hcall
        clear hcall hx hj hr1 hr2
        cases hqk : q k
        · have Hqk := Lib.hid hqk
          clear hqk
          have Hq := Lib.hid hq
          clear hq
          go_wp2_with fail
          refine HC.out.mono ?_
          rintro e w2 ⟨rfl, hI2⟩
          rw [Hqk.out]
          clear r0 r1 r2 r3 r4
          go_wp2
          go_roundw
          case rel => exact ⟨k + 1, by go_num, by omega, hI2, fun j hj => by by_cases h : j = k; (rw [h]; exact Hqk.out); exact Hq.out j (by omega)⟩
          case measure => simp only [intOf]; omega
        · have Hqk := Lib.hid hqk
          clear hqk
          have Hq := Lib.hid hq
          clear hq
          go_wp2_with fail
          refine HC.out.mono ?_
          rintro e w2 ⟨rfl, hI2⟩
          rw [Hqk.out]
          clear r0 r1 r2 r3 r4
          go_wp2
          go_ret
          exact .inl ⟨k, hlt, Hqk.out, Hq.out, rfl, hI2⟩
    · obtain rfl : k = l.length := by omega
      have Hq := Lib.hid hq
      clear hq
      go_wp2
      go_ret
      exact .inr ⟨Hq.out, rfl, hIk⟩

set_option maxRecDepth 100000 in
set_option maxHeartbeats 1000000 in
theorem containsFunc_vals (F : Nat → Prop) (g : FuncId) (fa lb : Array Value) (eg : ∀ args w, (callFunc g args).run Tryz.prog w = .ok (.enter g args) w) (a : Option Addr) (cap : Nat) (l : List Vl) (q : Nat → Bool) (I : Nat → World → Prop) (w : World)
    (hl : l.length ≤ 9223372036854775807) (h0 : I 0 w) (hI : ∀ k w', I k w' → RowAt F w' a (valsD l))
    (hg : ∀ k kk n s m ks a1 c1 a2 c2 w1, l[k]? = some (.mk kk n s m ks) → I k w1 → (∀ j, j < k → q j = false) → RowAt F w1 a1 (valsD m) → RowAt F w1 a2 (strsD ks) →
      Calls Tryz.prog g ((fa ++ #[vCells kk n s a1 m.length c1 a2 ks.length c2]) ++ lb) w1 fun e w2 => e = .returned (.bool (q k)) ∧ I (k + 1) w2) :
    Calls Tryz.prog 123 #[.slice a l.length cap, .func (.func g) fa lb] w (FoundB q l.length I) := by
  go_enter Tryz.func123, Tryz.ntmps123
  go_wp2_with fail
  refine (indexFunc_vals F g fa lb eg a cap l q I w hl h0 hI hg).mono ?_
  rintro e w2 (⟨i, hi, hqi, hq, rfl, hI2⟩ | ⟨hq, rfl, hI2⟩)
  · have Hq := Lib.hid hq
    clear hq
    have Hqi := Lib.hid hqi
    clear hqi
    go_wp2
    go_ret
    exact .inl ⟨i, hi, Hqi.out, Hq.out, rfl, hI2⟩
  · have Hq := Lib.hid hq
    clear hq
    go_wp2
    go_ret
    exact .inr ⟨Hq.out, rfl, hI2⟩
end Go.Proofs.YthknljeffpbbmaaGreatDoor
namespace Go.Proofs.YthknljeffpbbmaaGreatDoor
open Go Go.RowKit

mutual
theorem mayV_left (v : Vl) (d m : Int) (hm : 0 ≤ m) : -1 ≤ (mayV v d m).2 ∧ (mayV v d m).2 ≤ m - 1 ∧ ((mayV v d m).1 = true → 0 ≤ (mayV v d m).2) := by
  obtain ⟨k, n, s, l, ks⟩ := v
  rw [mayV]
  split
  · exact ⟨by simp; omega, by simp, fun h => by cases h⟩
  · split
    · obtain ⟨h1, h2, h3⟩ := mayVs_left l (d + 1) (m - 1) (by omega)
      exact ⟨h1, h2, h3⟩
    · exact ⟨by simp; omega, by simp, fun h => by cases h⟩
theorem mayVs_left (l : List Vl) (d m : Int) (hm : 0 ≤ m) : -1 ≤ (mayVs l d m).2 ∧ (mayVs l d m).2 ≤ m ∧ ((mayVs l d m).1 = true → 0 ≤ (mayVs l d m).2) := by
  cases l with
  | nil => rw [mayVs]; exact ⟨by simp; omega, by simp, fun _ => hm⟩
  | cons v t =>
    rw [mayVs]
    obtain ⟨h1, h2, h3⟩ := mayV_left v d m hm
    split
    · rename_i h
      obtain ⟨h4, h5, h6⟩ := mayVs_left t d (mayV v d m).2 (h3 h)
      exact ⟨h4, by omega, h6⟩
    · exact ⟨h1, by simp; omega, fun h => by cases h⟩
end
/-- How many are left behind k items, as long as all may be. -/
def leftAt (d : Int) : List Vl → Int → Nat → Int
  | [], m, _ => m
  | _ :: _, m, 0 => m
  | v :: t, m, k + 1 => leftAt d t (mayV v d m).2 k
theorem leftAt_zero (d : Int) (l : List Vl) (m : Int) : leftAt d l m 0 = m := by cases l <;> rfl
theorem leftAt_succ (d : Int) : ∀ (l : List Vl) (m : Int) (k : Nat) (v : Vl), l[k]? = some v → leftAt d l m (k + 1) = (mayV v d (leftAt d l m k)).2
  | [], _, _, _, h => by simp at h
  | x :: t, m, 0, v, h => by simp at h; subst h; show leftAt d t (mayV x d m).2 0 = (mayV x d m).2; exact leftAt_zero d t _
  | x :: t, m, k + 1, v, h => by
    rw [leftAt, leftAt_succ d t _ k v (by simpa using h)]
    rfl
def mayQ (d : Int) (l : List Vl) (m : Int) (k : Nat) : Bool := match l[k]? with | some v => !(mayV v d (leftAt d l m k)).1 | none => false
theorem mayQ_cons (d : Int) (v : Vl) (t : List Vl) (m : Int) (k : Nat) : mayQ d (v :: t) m (k + 1) = mayQ d t (mayV v d m).2 k := rfl
theorem mayQ_none (d : Int) : ∀ (l : List Vl) (m : Int), (∀ j, j < l.length → mayQ d l m j = false) → mayVs l d m = (true, leftAt d l m l.length)
  | [], m, _ => rfl
  | v :: t, m, h => by
    have h0 := h 0 (by simp)
    have hv : (mayV v d m).1 = true := by simpa [mayQ, leftAt_zero] using h0
    rw [mayVs, if_pos hv, mayQ_none d t _ (fun j hj => by rw [← mayQ_cons]; exact h (j + 1) (by simp; omega))]
    rfl
theorem mayQ_some (d : Int) : ∀ (l : List Vl) (m : Int) (i : Nat), i < l.length → mayQ d l m i = true → (∀ j, j < i → mayQ d l m j = false) → mayVs l d m = (false, leftAt d l m (i + 1))
  | [], _, _, h, _, _ => by simp at h
  | v :: t, m, 0, _, h, _ => by
    have hv : (mayV v d m).1 = false := by simpa [mayQ, leftAt_zero] using h
    rw [mayVs, if_neg (by simp [hv]), leftAt, leftAt_zero]
  | v :: t, m, i + 1, hi, h, hj => by
    have h0 := hj 0 (by omega)
    have hv : (mayV v d m).1 = true := by simpa [mayQ, leftAt_zero] using h0
    rw [mayVs, if_pos hv, mayQ_some d t _ i (by simpa using hi) h (fun j hj' => by rw [← mayQ_cons]; exact hj (j + 1) (by omega))]
    rfl
theorem leftAt_ok (d : Int) : ∀ (l : List Vl) (m : Int) (k : Nat), 0 ≤ m → (∀ j, j < k → j < l.length → mayQ d l m j = false) → 0 ≤ leftAt d l m k ∧ leftAt d l m k ≤ m
  | [], m, _, hm, _ => ⟨hm, Int.le_refl _⟩
  | _ :: _, m, 0, hm, _ => ⟨hm, Int.le_refl _⟩
  | v :: t, m, k + 1, hm, h => by
    have h0 := h 0 (by omega) (by simp)
    have hv : (mayV v d m).1 = true := by simpa [mayQ, leftAt_zero] using h0
    obtain ⟨h1, h2, h3⟩ := mayV_left v d m hm
    obtain ⟨h4, h5⟩ := leftAt_ok d t (mayV v d m).2 k (h3 hv) (fun j hj hl => by rw [← mayQ_cons]; exact h (j + 1) (by omega) (by simp; omega))
    exact ⟨h4, by rw [leftAt]; omega⟩
end Go.Proofs.YthknljeffpbbmaaGreatDoor
namespace Go.Proofs.YthknljeffpbbmaaGreatDoor
open Go Go.RowKit

theorem risesGo_cons (p : Option ByteArray) (s : ByteArray) (t : List ByteArray) : risesGo p (s :: t) = (decide (s.size ≤ 65536) && (match p with | none => true | some q => Op.bytesLess q.toList s.toList) && risesGo (some s) t) := by cases p <;> rfl
def prevAt (ks : List ByteArray) (k : Nat) : Option ByteArray := if k = 0 then none else ks[k - 1]?

set_option maxRecDepth 100000 in
set_option maxHeartbeats 1000000 in
theorem rises_any (a : Option Addr) (cap : Nat) (ks : List ByteArray) (w : World) (hr : StrsAt w a ks) (hl : ks.length ≤ 140737488355328) (hsz : ∀ s ∈ ks, s.size ≤ 9223372036854775807) :
    Calls Tryz.prog 122 #[.slice a ks.length cap] w (fun e w' => e = .returned (.bool (risesL ks)) ∧ w = w') := by
  have Hr := Lib.hid hr
  have Hsz := Lib.hid hsz
  clear hr hsz
  go_enter Tryz.func122, Tryz.ntmps122
  go_wp2
  go_loop [7] (fun i => ∃ k : Nat, i = .int .i64 k ∧ k ≤ ks.length ∧ Hid (risesGo none ks = risesGo (prevAt ks k) (ks.drop k))) (fun i => ks.length - (intOf i).toNat)
  case atStart => exact ⟨0, rfl, Nat.zero_le _, Lib.hid rfl⟩
  case round =>
    obtain ⟨k, rfl, hk, hsp⟩ := hrel
    by_cases hlt : k < ks.length
    · obtain ⟨b, off, rfl, hc⟩ := Hr.out.at hlt
      have hs0 := Hsz.out _ (List.getElem_mem hlt)
      have hd : ks.drop k = ks[k] :: ks.drop (k + 1) := List.drop_eq_getElem_cons hlt
      have Hsp : Hid (risesGo none ks = (decide (ks[k].size ≤ 65536) && (match prevAt ks k with | none => true | some q => Op.bytesLess q.toList ks[k].toList) && risesGo (some ks[k]) (ks.drop (k + 1)))) := Lib.hid (by rw [hsp.out, hd, risesGo_cons])
      have Hp : Hid (prevAt ks (k + 1) = some ks[k]) := Lib.hid (by unfold prevAt; rw [if_neg (by omega), Nat.add_sub_cancel]; exact List.getElem?_eq_getElem hlt)
      clear hsp hd
      by_cases hbig : (65536 : Int) < ks[k].size
      · have Hf : Hid (risesL ks = false) := Lib.hid (by unfold risesL; rw [Hsp.out, decide_eq_false (by omega)]; rfl)
        go_wp2
        go_ret
        exact ⟨ret_bool Hf.out.symm, rfl⟩
      · have Hle : Hid (decide (ks[k].size ≤ 65536) = true) := Lib.hid (decide_eq_true (by omega))
        cases k with
        | zero =>
          have Hn : Hid (risesGo none ks = risesGo (prevAt ks (0 + 1)) (ks.drop (0 + 1))) := Lib.hid (by rw [Hsp.out, Hle.out, Hp.out]; rfl)
          rw [Nat.add_zero] at hc
          go_wp2
          go_round
          case rel => exact ⟨0 + 1, by go_num, by omega, Hn⟩
          case measure => simp [intOf]; omega
        | succ j =>
          obtain ⟨b', off', hb', hc'⟩ := Hr.out.at (k := j) (by omega)
          cases hb'
          have Hq : Hid (prevAt ks (j + 1) = some ks[j]) := Lib.hid (by unfold prevAt; rw [if_neg (by omega), Nat.add_sub_cancel]; exact List.getElem?_eq_getElem _)
          have hjn : ((j + 1 : Nat) : Int) - 1 = (j : Int) := by omega
          cases hless : Op.bytesLess ks[j].toList ks[j + 1].toList
          · have Hf : Hid (risesL ks = false) := Lib.hid (by unfold risesL; rw [Hsp.out, Hle.out, Hq.out]; simp only [hless, Bool.and_false, Bool.false_and])
            go_wp2
            go_ret
            exact ⟨ret_bool Hf.out.symm, rfl⟩
          · have Hn : Hid (risesGo none ks = risesGo (prevAt ks (j + 1 + 1)) (ks.drop (j + 1 + 1))) := Lib.hid (by rw [Hsp.out, Hle.out, Hq.out, Hp.out]; simp only [hless, Bool.true_and])
            go_wp2
            go_round
            case rel => exact ⟨j + 1 + 1, by go_num, by omega, Hn⟩
            case measure => simp [intOf]; omega
    · have Hf : Hid (risesL ks = decide (ks.length ≤ 1000)) := Lib.hid (by unfold risesL; rw [hsp.out, List.drop_eq_nil_of_le (by omega)]; rfl)
      go_wp2
      go_ret
      refine ⟨ret_bool ?_, rfl⟩
      rw [Hf.out, Bool.eq_iff_iff, decide_eq_true_eq, decide_eq_true_eq]
      omega
end Go.Proofs.YthknljeffpbbmaaGreatDoor
namespace Go.Proofs.YthknljeffpbbmaaGreatDoor
open Go Go.RowKit
theorem alloc2 (w : World) (o1 o2 : Obj) : ((w.alloc o1).alloc o2).heap[w.heap.size]? = some o1 ∧ ((w.alloc o1).alloc o2).heap[w.heap.size + 1]? = some o2 ∧ Below w.heap.size w ((w.alloc o1).alloc o2) ∧ ((w.alloc o1).alloc o2).heap.size = w.heap.size + 2 := by
  refine ⟨?_, ?_, ((Below.refl _ w).alloc (Nat.le_refl _) _).alloc (by simp) _, by simp⟩
  · rw [Below.heap_alloc _ _ _ (by simp)]; exact heap_alloc_new w _
  · have := heap_alloc_new (w.alloc o1) o2
    simpa using this
theorem alloc3 (w : World) (o1 o2 o3 : Obj) : (((w.alloc o1).alloc o2).alloc o3).heap[w.heap.size]? = some o1 ∧ (((w.alloc o1).alloc o2).alloc o3).heap[w.heap.size + 1]? = some o2 ∧ (((w.alloc o1).alloc o2).alloc o3).heap[w.heap.size + 1 + 1]? = some o3 ∧ Below w.heap.size w (((w.alloc o1).alloc o2).alloc o3) ∧ (((w.alloc o1).alloc o2).alloc o3).heap.size = w.heap.size + 3 := by
  obtain ⟨h1, h2, h3, h4⟩ := alloc2 w o1 o2
  refine ⟨?_, ?_, ?_, h3.alloc (by rw [h4]; omega) _, by simp⟩
  · rw [Below.heap_alloc _ _ _ (by rw [h4]; omega)]; exact h1
  · rw [Below.heap_alloc _ _ _ (by rw [h4]; omega)]; exact h2
  · have := heap_alloc_new ((w.alloc o1).alloc o2) o3
    simpa using this
theorem alloc4 (w : World) (o1 o2 o3 o4 : Obj) : ((((w.alloc o1).alloc o2).alloc o3).alloc o4).heap[w.heap.size]? = some o1 ∧ ((((w.alloc o1).alloc o2).alloc o3).alloc o4).heap[w.heap.size + 1]? = some o2 ∧ ((((w.alloc o1).alloc o2).alloc o3).alloc o4).heap[w.heap.size + 1 + 1]? = some o3 ∧ ((((w.alloc o1).alloc o2).alloc o3).alloc o4).heap[w.heap.size + 1 + 1 + 1]? = some o4 ∧
    Below w.heap.size w ((((w.alloc o1).alloc o2).alloc o3).alloc o4) ∧ ((((w.alloc o1).alloc o2).alloc o3).alloc o4).heap.size = w.heap.size + 4 := by
  obtain ⟨h1, h2, h3, h4, h5⟩ := alloc3 w o1 o2 o3
  refine ⟨?_, ?_, ?_, ?_, h4.alloc (by rw [h5]; omega) _, by simp⟩
  · rw [Below.heap_alloc _ _ _ (by rw [h5]; omega)]; exact h1
  · rw [Below.heap_alloc _ _ _ (by rw [h5]; omega)]; exact h2
  · rw [Below.heap_alloc _ _ _ (by rw [h5]; omega)]; exact h3
  · have := heap_alloc_new (((w.alloc o1).alloc o2).alloc o3) o4
    simpa using this
/-- A block that is there stays. -/
theorem stays {w w' : World} {b : Nat} {o : Obj} (h : w.heap[b]? = some o) (hb : Below w.heap.size w w') : w'.heap[b]? = some o := (hb.block _ (Array.getElem?_eq_some_iff.1 h).1).trans h
theorem here {w : World} {b : Nat} {o : Obj} (h : w.heap[b]? = some o) : b < w.heap.size := (Array.getElem?_eq_some_iff.1 h).1
end Go.Proofs.YthknljeffpbbmaaGreatDoor
namespace Go.Proofs.YthknljeffpbbmaaGreatDoor
open Go Go.RowKit

section
variable {P : Program} {w : World}

/-- As the library's law, and besides: the row lies where it lay, or in a new block. -/
theorem run_append_own_at (base : Nat) (t ty e : TypeId) (i : TypeInfo) (z : Value) (size bytes : Nat) (ht : P.underlying t = some (.slice e)) (hi : P.info? e = some i) (hz : i.zero = some z)
    (hsize : i.size = size) (hby : i.bytes = bytes) (hzs : z.cells.size = size) (hsz : 0 < size)
    (v : Value) (n : Nat) (xs : List Value) (hown : w.ownsRow base e size v n xs)
    (a : Addr) (m c : Nat) (news : List Value) (hl : news.length = m * size) (hnews : ∀ j u, news[j]? = some u → w.cell? (a.add j) = some u) (h1 : ∀ u ∈ news, u.oneCell' = true)
    (h63 : n + m ≤ maxLen) (hbytes : (n + m) * bytes ≤ 140737488355328) (hbase : base ≤ w.heap.size) :
    ∃ v' w', (Builtin.append_ #[t, t] ty #[v, .slice (some a) m c]).run P w = .ok v' w' ∧ w'.ownsRow base e size v' (n + m) (xs ++ news) ∧ w.grownBy w' v.ownBlock ∧
      ∀ g, v'.ownBlock = some g → v.ownBlock = some g ∨ w.heap.size ≤ g := by
  obtain ⟨v', w', hr, h2, h3, h4⟩ := run_append_own w base t ty e i z size bytes ht hi hz hsize hby hzs hsz v n xs hown a m c news hl hnews h1 h63 hbytes hbase
  refine ⟨v', w', hr, h2, h3, fun g hg => ?_⟩
  rcases hown.2 with ⟨hv, hn⟩ | ⟨g0, cap, cur, hv, hbg, hg0, hnc, hcm, hcs, htake⟩
  · subst hv
    have hxs : xs = [] := List.eq_nil_of_length_eq_zero (by rw [hown.1, hn]; simp)
    obtain ⟨v2, w2, hr2, h22, -, -⟩ := run_append_own w w.heap.size t ty e i z size bytes ht hi hz hsize hby hzs hsz (.slice none 0 0) n xs ⟨hown.1, .inl ⟨rfl, hn⟩⟩ a m c news hl hnews h1 h63 hbytes (Nat.le_refl _)
    rw [hr] at hr2
    cases hr2
    rcases h22.2 with ⟨hv', -⟩ | ⟨g', cap', cur', hv', hb', -⟩
    · rw [hv'] at hg; cases hg
    · rw [hv'] at hg; cases hg; exact .inr hb'
  · subst hv
    by_cases hroom : n + m ≤ cap
    · have hr2 := run_append_room (P := P) w t ty e i ht hi g0 n cap cur hg0 a m c news (by rw [hl, hsize]) hnews h1 hroom (by rw [hl, hcs, hsize, ← Nat.add_mul]; exact Nat.mul_le_mul_right _ hroom)
      rw [hr] at hr2
      cases hr2
      exact .inl hg
    · subst hsize
      have holds : ∀ j u, xs[j]? = some u → w.cell? ((⟨g0, 0, none⟩ : Addr).add j) = some u := hown.cells (g := g0) rfl
      have hr2 := run_append_grow (P := P) w t ty e i z ht hi hz ⟨g0, 0, none⟩ n cap xs hown.1 holds a m c news hl hnews (by omega) (by simp only [maxLen] at h63; omega) (growslice_fits (by omega) (by rw [hby]; exact hbytes))
      rw [hr] at hr2
      cases hr2
      cases hg
      exact .inr (Nat.le_refl _)

theorem wpList_append_at {ops : Array Oper} {rest : List Oper} {o : Oper} {a : Act} {Q : Exit → Act → World → Prop} (hgd : o.guard = none) (s x : Operand) (t : TypeId)
    (ho : o.op = .call { callee := .builtin .append, args := #[s, x], argTypes := #[t, t] })
    (base : Nat) (e : TypeId) (i : TypeInfo) (z : Value) (size bytes : Nat) (ht : P.underlying t = some (.slice e)) (hi : P.info? e = some i) (hz : i.zero = some z)
    (hsize : i.size = size) (hby : i.bytes = bytes) (hzs : z.cells.size = size) (hsz : 0 < size)
    (v : Value) (n : Nat) (xs : List Value) (hs : a.eval s = v) (hown : w.ownsRow base e size v n xs)
    (ad : Addr) (m c : Nat) (news : List Value) (hx : a.eval x = .slice (some ad) m c) (hl : news.length = m * size) (hnews : ∀ j u, news[j]? = some u → w.cell? (ad.add j) = some u) (h1 : ∀ u ∈ news, u.oneCell' = true)
    (h63 : n + m ≤ maxLen) (hbytes : (n + m) * bytes ≤ 140737488355328) (hbase : base ≤ w.heap.size)
    (h : ∀ v' w', w'.ownsRow base e size v' (n + m) (xs ++ news) → w.grownBy w' v.ownBlock → (∀ g, v'.ownBlock = some g → v.ownBlock = some g ∨ w.heap.size ≤ g) → wpList P ops Q rest (a.put o.dst v') w') : wpList P ops Q (o :: rest) a w := by
  refine wpList_plain hgd fun K hK => ?_
  obtain ⟨v', w', hr, h2, h3, h4⟩ := run_append_own_at (P := P) base t o.type e i z size bytes ht hi hz hsize hby hzs hsz v n xs hown ad m c news hl hnews h1 h63 hbytes hbase
  unfold Oper.wp execOp
  simp only [ho, resolve, invoke, builtin, Sem.run_bind, Sem.run_pure, Result.andThen_ok, List.map_toArray, List.map_cons, List.map_nil, hs, hx, hr]
  exact hK _ _ (h v' w' h2 h3 h4)
end

/-- A slice of the call's own with these structs. -/
def OwnD (F : Nat → Prop) (w : World) (base : Nat) (e : TypeId) (size : Nat) (v : Value) (l : List (List Dat)) : Prop :=
  ∃ css : List (List Value), css.length = l.length ∧ (∀ cs ∈ css, cs.length = size) ∧ w.ownsRow base e size v l.length css.flatten ∧
    ∀ (j : Nat) ds cs, l[j]? = some ds → css[j]? = some cs → AggAt (fun b => F b ∧ v.ownBlock ≠ some b) w ds cs

section
variable {F : Nat → Prop} {w w' : World} {base : Nat} {e : TypeId} {size : Nat} {v : Value} {l : List (List Dat)}

theorem OwnD.nil (F : Nat → Prop) (w : World) (base : Nat) (e : TypeId) (size : Nat) : OwnD F w base e size (.slice none 0 0) [] :=
  ⟨[], rfl, by simp, ⟨by simp, .inl ⟨rfl, rfl⟩⟩, by simp⟩

theorem flatten_get {css : List (List Value)} {size : Nat} (hsz : ∀ cs ∈ css, cs.length = size) : ∀ {j : Nat} {cs : List Value} {i : Nat} {u : Value}, css[j]? = some cs → cs[i]? = some u → css.flatten[j * size + i]? = some u := by
  induction css with
  | nil => intro j cs i u h; simp at h
  | cons c t ih =>
    intro j cs i u hj hi
    have hc := hsz c (List.mem_cons_self ..)
    rw [List.flatten_cons]
    cases j with
    | zero =>
      simp at hj
      subst hj
      have := (List.getElem?_eq_some_iff.1 hi).1
      rw [List.getElem?_append_left (by omega)]
      simpa using hi
    | succ j =>
      simp at hj
      have := (List.getElem?_eq_some_iff.1 hi).1
      rw [List.getElem?_append_right (by rw [hc, Nat.add_mul]; omega), hc, show (j + 1) * size + i - size = j * size + i by rw [Nat.add_mul]; omega]
      exact ih (fun cs h => hsz cs (List.mem_cons_of_mem _ h)) hj hi

/-- A row of the call's own, read. -/
theorem OwnD.rowAt (h : OwnD F w base e size v l) (hF : ∀ g, v.ownBlock = some g → F g) : ∃ a cap, v = .slice a l.length cap ∧ RowAt F w a l := by
  obtain ⟨css, hlen, hsz, hown, hd⟩ := h
  obtain ⟨h1, ⟨rfl, h2⟩ | ⟨g, cap, cur, rfl, h3, h4, h5, h6, h7, h8⟩⟩ := hown
  · obtain rfl : l = [] := List.length_eq_zero_iff.1 h2
    exact ⟨none, 0, rfl, RowAt.nil _⟩
  · refine ⟨_, cap, rfl, fun j ds hj => ?_⟩
    have hjl := (List.getElem?_eq_some_iff.1 hj).1
    have hjc : css[j]? = some (css[j]'(by omega)) := List.getElem?_eq_getElem (by omega)
    have hcs := hsz _ (List.getElem_mem (by omega : j < css.length))
    refine ⟨g, 0, _, rfl, hF g rfl, (Array.getElem?_eq_some_iff.1 h4).1, (hd j _ _ hj hjc).wider (fun b h _ => h.1), fun i u hu => ?_⟩
    have hi := (List.getElem?_eq_some_iff.1 hu).1
    have h9 := flatten_get hsz hjc hu
    rw [← h8] at h9
    have hds : ds.length = size := by rw [← (hd j _ _ hj hjc).1]; exact hcs
    rw [List.getElem?_take_of_lt (by
      have : (j + 1) * size ≤ l.length * size := Nat.mul_le_mul_right _ (by omega)
      rw [Nat.add_mul] at this
      omega), Array.getElem?_toList] at h9
    unfold World.cell?
    rw [h4, hds, Nat.zero_add]
    exact h9

/-- The same, and how long it may grow. -/
theorem OwnD.rowAtC (h : OwnD F w base e size v l) (hF : ∀ g, v.ownBlock = some g → F g) : ∃ a cap, v = .slice a l.length cap ∧ (l.length ≤ cap ∧ cap ≤ maxLen) ∧ RowAt F w a l := by
  obtain ⟨a, cap, hv, hr⟩ := h.rowAt hF
  refine ⟨a, cap, hv, ?_, hr⟩
  obtain ⟨css, hlen, hsz, ⟨h1, ⟨h2, h3⟩ | ⟨g, cap', cur, h2, h3, h4, h5, h6, h7⟩⟩, hd⟩ := h
  · rw [h2] at hv
    injection hv with e1 e2 e3
    exact ⟨by omega, by rw [← e3]; exact Nat.zero_le _⟩
  · rw [h2] at hv
    injection hv with e1 e2 e3
    subst e3
    exact ⟨h5, h6⟩

theorem OwnD.keep (h : OwnD F w base e size v l) (hk : ∀ b, b < w.heap.size → F b ∨ v.ownBlock = some b → w'.heap[b]? = w.heap[b]?) (hs : w.heap.size ≤ w'.heap.size) : OwnD F w' base e size v l := by
  obtain ⟨css, hlen, hsz, hown, hd⟩ := h
  refine ⟨css, hlen, hsz, ?_, fun j ds cs h1 h2 => (hd j ds cs h1 h2).mono fun b hb hl => ⟨hb, by omega, hk b hl (.inl hb.1)⟩⟩
  obtain ⟨h1, h2 | ⟨g, cap, cur, rfl, h3, h4, h5⟩⟩ := hown
  · exact ⟨h1, .inl h2⟩
  · exact ⟨h1, .inr ⟨g, cap, cur, rfl, h3, by rw [hk g (Array.getElem?_eq_some_iff.1 h4).1 (.inr rfl)]; exact h4, h5⟩⟩
theorem OwnD.below (h : OwnD F w base e size v l) (hb : Below w.heap.size w w') : OwnD F w' base e size v l := h.keep (fun b hl _ => hb.block b hl) hb.size
theorem OwnD.block_lt (h : OwnD F w base e size v l) {g : Nat} (hg : v.ownBlock = some g) : base ≤ g ∧ g < w.heap.size := by
  obtain ⟨css, -, -, ⟨-, ⟨rfl, -⟩ | ⟨g', cap, cur, rfl, h3, h4, -⟩⟩, -⟩ := h
  · cases hg
  · cases hg; exact ⟨h3, (Array.getElem?_eq_some_iff.1 h4).1⟩

/-- An append of one struct, that lies somewhere; its own parts don't lie in the row. -/
theorem wpList_append_dat {P : Program} {ops : Array Oper} {rest : List Oper} {o : Oper} {a : Act} {Q : Exit → Act → World → Prop} (hgd : o.guard = none) (s x : Operand) (t : TypeId)
    (ho : o.op = .call { callee := .builtin .append, args := #[s, x], argTypes := #[t, t] })
    (base : Nat) (e : TypeId) (i : TypeInfo) (z : Value) (size bytes : Nat) (ht : P.underlying t = some (.slice e)) (hi : P.info? e = some i) (hz : i.zero = some z)
    (hsize : i.size = size) (hby : i.bytes = bytes) (hzs : z.cells.size = size) (hsz : 0 < size)
    (v : Value) (F : Nat → Prop) (l : List (List Dat)) (hs : a.eval s = v) (hown : OwnD F w base e size v l)
    (ad : Addr) (c : Nat) (ds : List Dat) (cs : List Value) (hx : a.eval x = .slice (some ad) 1 c) (hl : cs.length = size) (hnews : ∀ j u, cs[j]? = some u → w.cell? (ad.add j) = some u) (h1 : ∀ u ∈ cs, u.oneCell' = true)
    (hd : AggAt (fun b => F b ∧ v.ownBlock ≠ some b) w ds cs)
    (h63 : l.length + 1 ≤ maxLen) (hbytes : (l.length + 1) * bytes ≤ 140737488355328) (hbase : base ≤ w.heap.size)
    (h : ∀ v' w', OwnD F w' base e size v' (l ++ [ds]) → w.grownBy w' v.ownBlock → (∀ g, v'.ownBlock = some g → v.ownBlock = some g ∨ w.heap.size ≤ g) → wpList P ops Q rest (a.put o.dst v') w') : wpList P ops Q (o :: rest) a w := by
  obtain ⟨css, hlen, hcs, hrow, hel⟩ := hown
  refine wpList_append_at hgd s x t ho base e i z size bytes ht hi hz hsize hby hzs hsz v l.length css.flatten hs hrow ad 1 c cs hx (by rw [hl]; omega) hnews h1 h63 hbytes hbase fun v' w' h2 h3 h4 => h v' w' ⟨css ++ [cs], ?_, ?_, ?_, ?_⟩ h3 h4
  · simp [hlen]
  · intro cs' hc
    rcases List.mem_append.1 hc with hc | hc
    · exact hcs _ hc
    · rw [List.mem_singleton.1 hc]; exact hl
  · rw [List.flatten_append, List.length_append]
    simpa using h2
  · have step : ∀ b, F b ∧ v.ownBlock ≠ some b → b < w.heap.size → (F b ∧ v'.ownBlock ≠ some b) ∧ b < w'.heap.size ∧ w'.heap[b]? = w.heap[b]? := fun b hb hlt =>
      ⟨⟨hb.1, fun he => by rcases h4 b he with h | h; exact hb.2 h; omega⟩, Nat.lt_of_lt_of_le hlt h3.size, h3.block b hlt (fun he => hb.2 he.symm)⟩
    intro j ds' cs' hj hc
    by_cases hjl : j < l.length
    · rw [List.getElem?_append_left hjl] at hj
      rw [List.getElem?_append_left (by omega)] at hc
      exact (hel j _ _ hj hc).mono step
    · have hje : j = l.length := by
        have := (List.getElem?_eq_some_iff.1 hj).1
        simp at this
        omega
      subst hje
      rw [List.getElem?_append_right (Nat.le_refl _), Nat.sub_self] at hj
      rw [List.getElem?_append_right (by omega), hlen, Nat.sub_self] at hc
      simp at hj hc
      subst hj hc
      exact hd.mono step
end
end Go.Proofs.YthknljeffpbbmaaGreatDoor
namespace Go.Proofs.YthknljeffpbbmaaGreatDoor
open Go Go.RowKit

theorem infoStr : (Tryz.prog.info? 9).map (fun i => (i.zero, i.size, i.bytes)) = some (some (.string ByteArray.empty), 1, 16) := by kernel_rfl
/-- A slice of the call's own, that holds these strings. -/
def OwnS (w : World) (base : Nat) (v : Value) (l : List ByteArray) : Prop := w.ownsRow base 9 1 v l.length (l.map Value.string)
section
variable {w w' : World} {base : Nat} {v : Value} {l : List ByteArray}
theorem OwnS.nil (w : World) (base : Nat) : OwnS w base (.slice none 0 0) [] := ⟨by simp, .inl ⟨rfl, rfl⟩⟩
theorem OwnS.strsAt (h : OwnS w base v l) : ∃ a cap, v = .slice a l.length cap ∧ StrsAt w a l ∧ l.length ≤ cap := by
  obtain ⟨h1, ⟨rfl, h2⟩ | ⟨g, cap, cur, rfl, h3, h4, h5, h6, h7, h8⟩⟩ := h
  · refine ⟨none, 0, by rw [h2], ?_, by omega⟩
    intro j x hx
    have := (List.getElem?_eq_some_iff.1 hx).1
    omega
  · refine ⟨_, cap, rfl, ?_, h5⟩
    intro j x hx
    have hj := (List.getElem?_eq_some_iff.1 hx).1
    refine ⟨g, 0, rfl, ?_⟩
    have h9 : (cur.toList.take (l.length * 1))[j]? = some (.string x) := by rw [h8, List.getElem?_map, hx]; rfl
    rw [List.getElem?_take_of_lt (by omega), Array.getElem?_toList] at h9
    unfold World.cell?
    simp only [h4, Nat.zero_add, Option.isSome_none, Bool.false_eq_true, if_false]
    exact h9
theorem OwnS.below (h : OwnS w base v l) (hb : Below w.heap.size w w') : OwnS w' base v l := by
  obtain ⟨h1, h2 | ⟨g, cap, cur, rfl, h3, h4, h5⟩⟩ := h
  · exact ⟨h1, .inl h2⟩
  · exact ⟨h1, .inr ⟨g, cap, cur, rfl, h3, (hb.block g (Array.getElem?_eq_some_iff.1 h4).1).trans h4, h5⟩⟩
theorem OwnS.lower {base' : Nat} (h : OwnS w base v l) (hb : base' ≤ base) : OwnS w base' v l := by
  obtain ⟨h1, h2 | ⟨g, cap, cur, h2, h3, h4⟩⟩ := h
  · exact ⟨h1, .inl h2⟩
  · exact ⟨h1, .inr ⟨g, cap, cur, h2, by omega, h4⟩⟩
theorem OwnS.block (h : OwnS w base v l) {g : Nat} (hg : v.ownBlock = some g) : base ≤ g ∧ g < w.heap.size := by
  obtain ⟨-, ⟨rfl, -⟩ | ⟨g', cap, cur, rfl, h3, h4, -⟩⟩ := h
  · cases hg
  · cases hg; exact ⟨h3, (Array.getElem?_eq_some_iff.1 h4).1⟩
end
theorem lit_one (w : World) (x : Value) (t : TypeId) : ∀ (j : Nat) u, [x][j]? = some u → (w.alloc (.cells #[x] t)).cell? ((⟨w.heap.size, 0, none⟩ : Addr).add j) = some u := by
  intro j u h
  cases j with
  | zero =>
    simp at h
    subst h
    show (w.alloc (.cells #[x] t)).cell? ⟨w.heap.size, 0, none⟩ = some x
    unfold World.cell?
    rw [heap_alloc_new]
    rfl
  | succ j => simp at h
theorem grown_below {w w' : World} {v : Value} (h : w.grownBy w' v.ownBlock) {n : Nat} (hv : ∀ g, v.ownBlock = some g → n ≤ g) (hn : n ≤ w.heap.size) : Below n w w' :=
  ⟨h.os, h.tape, h.output, h.size, fun b hb => h.block b (by omega) (fun e => by have := hv b e.symm; omega)⟩
end Go.Proofs.YthknljeffpbbmaaGreatDoor
namespace Go.Proofs.YthknljeffpbbmaaGreatDoor
open Go Go.RowKit

theorem infoVal : (Tryz.prog.info? 37).map (fun i => (i.zero, i.size, i.bytes)) = some (some (.agg #[.int .i64 0, .int .i64 0, .string ByteArray.empty, .slice none 0 0, .slice none 0 0]), 5, 80) := by kernel_rfl
def namedD (q : ByteArray × Vl) : List Dat := .one (.string q.1) :: valD q.2
def namedsD (l : List (ByteArray × Vl)) : List (List Dat) := l.map namedD
theorem namedD_len (q : ByteArray × Vl) : (namedD q).length = 6 := by simp [namedD, valD_len]
theorem namedsD_len (l : List (ByteArray × Vl)) : (namedsD l).length = l.length := by simp [namedsD]
theorem namedsD_append (l m : List (ByteArray × Vl)) : namedsD (l ++ m) = namedsD l ++ namedsD m := by simp [namedsD]

section
variable {F : Nat → Prop} {w : World}
theorem AggAt.named {nm : ByteArray} {k n : Int} {s : ByteArray} {l : List Vl} {ks : List ByteArray} {cs : List Value} (h : AggAt F w (namedD (nm, .mk k n s l ks)) cs) :
    ∃ a c a' c', cs = [.string nm, .int .i64 k, .int .i64 n, .string s, .slice a l.length c, .slice a' ks.length c'] ∧ RowAt F w a (valsD l) ∧ RowAt F w a' (strsD ks) := by
  obtain ⟨c0, cs', rfl, h0, h'⟩ := AggAt.cons_inv (d := .one (.string nm)) (ds := valD (.mk k n s l ks)) h
  obtain rfl := h0.one_inv
  obtain ⟨a, c, a', c', rfl, h1, h2⟩ := AggAt.val h'
  exact ⟨a, c, a', c', rfl, h1, h2⟩
theorem AggAt.named_mk (nm : ByteArray) (k n : Int) (s : ByteArray) {l : List Vl} {ks : List ByteArray} {a a' : Option Addr} (c c' : Nat) (h : RowAt F w a (valsD l)) (h' : RowAt F w a' (strsD ks)) :
    AggAt F w (namedD (nm, .mk k n s l ks)) [.string nm, .int .i64 k, .int .i64 n, .string s, .slice a l.length c, .slice a' ks.length c'] :=
  .cons (.one _) (AggAt.val_mk k n s c c' h h')
/-- A named value among others. -/
theorem RowAt.named {a : Option Addr} {l : List (ByteArray × Vl)} (h : RowAt F w a (namedsD l)) {j : Nat} {nm : ByteArray} {k n : Int} {s : ByteArray} {m : List Vl} {ks : List ByteArray} (hj : l[j]? = some (nm, .mk k n s m ks)) :
    ∃ b off a1 c1 a2 c2, a = some ⟨b, off, none⟩ ∧ F b ∧ b < w.heap.size ∧ w.cell? ⟨b, off + j * 6, none⟩ = some (.string nm) ∧ w.cell? ⟨b, off + j * 6 + 1, none⟩ = some (.int .i64 k) ∧ w.cell? ⟨b, off + j * 6 + 2, none⟩ = some (.int .i64 n) ∧ w.cell? ⟨b, off + j * 6 + 3, none⟩ = some (.string s) ∧
      w.cell? ⟨b, off + j * 6 + 4, none⟩ = some (.slice a1 m.length c1) ∧ w.cell? ⟨b, off + j * 6 + 5, none⟩ = some (.slice a2 ks.length c2) ∧ RowAt F w a1 (valsD m) ∧ RowAt F w a2 (strsD ks) := by
  obtain ⟨b, off, cs, ha, hF, hb, hd, hc⟩ := h j (namedD (nm, .mk k n s m ks)) (by rw [namedsD, List.getElem?_map, hj]; rfl)
  obtain ⟨a1, c1, a2, c2, rfl, hr, hr'⟩ := AggAt.named hd
  rw [namedD_len] at hc
  exact ⟨b, off, a1, c1, a2, c2, ha, hF, hb, hc 0 _ rfl, hc 1 _ rfl, hc 2 _ rfl, hc 3 _ rfl, hc 4 _ rfl, hc 5 _ rfl, hr, hr'⟩
end

end Go.Proofs.YthknljeffpbbmaaGreatDoor
namespace Go.Proofs.YthknljeffpbbmaaGreatDoor
open Go Go.RowKit

mutual
def ndD : Nd → List Dat
  | .mk k t l c kids => [.one (.int .i64 k), .one (.string t), .one (.int .i64 l), .one (.int .i64 c), .row (ndsD kids)]
def ndsD : List Nd → List (List Dat)
  | [] => []
  | n :: t => ndD n :: ndsD t
end
theorem ndsD_map (l : List Nd) : ndsD l = l.map ndD := by
  induction l with
  | nil => simp [ndsD]
  | cons n t ih => simp [ndsD, ih]
theorem ndsD_len (l : List Nd) : (ndsD l).length = l.length := by rw [ndsD_map, List.length_map]
mutual
/-- No node has more kids than a machine holds. -/
def fewN : Nd → Prop | .mk _ _ _ _ kids => kids.length ≤ 140737488355328 ∧ fewNs kids
def fewNs : List Nd → Prop
  | [] => True
  | n :: t => fewN n ∧ fewNs t
end
theorem RowAt.nd {F : Nat → Prop} {w : World} {a : Option Addr} {l : List Nd} (h : RowAt F w a (ndsD l)) {j : Nat} {k ln cl : Int} {t : ByteArray} {m : List Nd} (hj : l[j]? = some (.mk k t ln cl m)) :
    ∃ b off a1 c1, a = some ⟨b, off, none⟩ ∧ F b ∧ b < w.heap.size ∧ w.cell? ⟨b, off + j * 5, none⟩ = some (.int .i64 k) ∧ w.cell? ⟨b, off + j * 5 + 1, none⟩ = some (.string t) ∧ w.cell? ⟨b, off + j * 5 + 2, none⟩ = some (.int .i64 ln) ∧
      w.cell? ⟨b, off + j * 5 + 3, none⟩ = some (.int .i64 cl) ∧ w.cell? ⟨b, off + j * 5 + 4, none⟩ = some (.slice a1 m.length c1) ∧ RowAt F w a1 (ndsD m) := by
  obtain ⟨b, off, cs, ha, hF, hb, hd, hc⟩ := h j (ndD (.mk k t ln cl m)) (by rw [ndsD_map, List.getElem?_map, hj]; rfl)
  rw [ndD] at hd hc
  obtain ⟨c0, cs, rfl, h0, hd⟩ := hd.cons_inv
  obtain ⟨c1, cs, rfl, h1, hd⟩ := hd.cons_inv
  obtain ⟨c2, cs, rfl, h2, hd⟩ := hd.cons_inv
  obtain ⟨c3, cs, rfl, h3, hd⟩ := hd.cons_inv
  obtain ⟨c4, cs, rfl, h4, hd⟩ := hd.cons_inv
  obtain rfl := hd.nil_inv
  obtain rfl := h0.one_inv
  obtain rfl := h1.one_inv
  obtain rfl := h2.one_inv
  obtain rfl := h3.one_inv
  obtain ⟨a1, cap, rfl, hr⟩ := h4.row_inv
  rw [ndsD_len] at hc
  exact ⟨b, off, a1, cap, ha, hF, hb, hc 0 _ rfl, hc 1 _ rfl, hc 2 _ rfl, hc 3 _ rfl, hc 4 _ rfl, hr⟩
/-- The place of a node. -/
def Nd.lnN : Nd → Int | .mk _ _ l _ _ => l
def Nd.clN : Nd → Int | .mk _ _ _ c _ => c
end Go.Proofs.YthknljeffpbbmaaGreatDoor
namespace Go.Proofs.YthknljeffpbbmaaGreatDoor
open Go Go.RowKit

mutual
def nodeD : Nd → List Dat
  | .mk k t l c kids => [.one (.int .i64 k), .one (.string t), .one (.int .i64 l), .one (.int .i64 c), .rowb (k == 6) (nodesD kids)]
def nodesD : List Nd → List (List Dat)
  | [] => []
  | n :: t => nodeD n :: nodesD t
end
theorem nodesD_map (l : List Nd) : nodesD l = l.map nodeD := by
  induction l with
  | nil => simp [nodesD]
  | cons n t ih => simp [nodesD, ih]
theorem nodesD_len (l : List Nd) : (nodesD l).length = l.length := by rw [nodesD_map, List.length_map]
theorem nodesD_append (l m : List Nd) : nodesD (l ++ m) = nodesD l ++ nodesD m := by rw [nodesD_map, nodesD_map, nodesD_map, List.map_append]

def NodeV (F : Nat → Prop) (w : World) (n : Nd) (v : Value) : Prop := ∃ cs : List Value, v = .agg cs.toArray ∧ AggAt F w (nodeD n) cs
theorem NodeV.openC {F : Nat → Prop} {w : World} {k l c : Int} {t : ByteArray} {kids : List Nd} {v : Value} (h : NodeV F w (.mk k t l c kids) v) :
    ∃ a cap, v = .agg #[.int .i64 k, .string t, .int .i64 l, .int .i64 c, .slice a kids.length cap] ∧ (k = 6 → kids.length ≤ cap) ∧ RowAt F w a (nodesD kids) := by
  obtain ⟨cs, rfl, h⟩ := h
  rw [nodeD] at h
  obtain ⟨c0, cs, rfl, h0, h⟩ := h.cons_inv
  obtain ⟨c1, cs, rfl, h1, h⟩ := h.cons_inv
  obtain ⟨c2, cs, rfl, h2, h⟩ := h.cons_inv
  obtain ⟨c3, cs, rfl, h3, h⟩ := h.cons_inv
  obtain ⟨c4, cs, rfl, h4, h⟩ := h.cons_inv
  obtain rfl := h.nil_inv
  obtain rfl := h0.one_inv
  obtain rfl := h1.one_inv
  obtain rfl := h2.one_inv
  obtain rfl := h3.one_inv
  obtain ⟨a, cap, rfl, hc, hr⟩ := h4.rowb_inv
  rw [nodesD_len] at hc
  exact ⟨a, cap, by rw [nodesD_len], fun h6 => hc (by simpa using h6), hr⟩
theorem NodeV.open {F : Nat → Prop} {w : World} {k l c : Int} {t : ByteArray} {kids : List Nd} {v : Value} (h : NodeV F w (.mk k t l c kids) v) :
    ∃ a cap, v = .agg #[.int .i64 k, .string t, .int .i64 l, .int .i64 c, .slice a kids.length cap] ∧ RowAt F w a (nodesD kids) := by
  obtain ⟨a, cap, h1, -, h2⟩ := h.openC
  exact ⟨a, cap, h1, h2⟩
/-- The kids of a rule's node lie in a slice that is no longer than its capacity. -/
theorem NodeV.cap {F : Nat → Prop} {w : World} {k l c : Int} {t : ByteArray} {kids : List Nd} {a : Option Addr} {n cap : Nat} (h : NodeV F w (.mk k t l c kids) (.agg #[.int .i64 k, .string t, .int .i64 l, .int .i64 c, .slice a n cap])) : k = 6 → kids.length ≤ cap := by
  obtain ⟨a', cap', he, hc, -⟩ := h.openC
  have h9 := congrArg (fun v => match v with | Value.agg x => x.toList | _ => []) he
  simp only [List.cons.injEq, Value.slice.injEq, and_true, true_and] at h9
  rw [h9.2.2]
  exact hc
/-- The node's kind is known, or its kids' capacity is told in the context (hidden or not). -/
theorem NodeV.mk {F : Nat → Prop} {w : World} (k : Int) (t : ByteArray) (l c : Int) {kids : List Nd} {a : Option Addr} (cap : Nat) (h : RowAt F w a (nodesD kids)) (hk : k = 6 → kids.length ≤ cap := by first | exact trivial | (refine Hid.out ?_; assumption) | assumption | (intro _; exact Nat.zero_le _) | (intro h6; exact absurd h6 (by decide))) :
    NodeV F w (.mk k t l c kids) (.agg #[.int .i64 k, .string t, .int .i64 l, .int .i64 c, .slice a kids.length cap]) := by
  refine ⟨[.int .i64 k, .string t, .int .i64 l, .int .i64 c, .slice a kids.length cap], rfl, ?_⟩
  rw [nodeD]
  exact .cons (.one _) (.cons (.one _) (.cons (.one _) (.cons (.one _) (.cons (by rw [← nodesD_len kids]; exact DatAt.rowb_mk cap (fun h6 => by rw [nodesD_len]; exact hk (by simpa using h6)) h) .nil))))
theorem NodeV.mono {F G : Nat → Prop} {w w' : World} {n : Nd} {v : Value} (h : NodeV F w n v) (hk : ∀ b, F b → b < w.heap.size → G b ∧ b < w'.heap.size ∧ w'.heap[b]? = w.heap[b]?) : NodeV G w' n v := by
  obtain ⟨cs, rfl, h⟩ := h
  exact ⟨cs, rfl, h.mono hk⟩
theorem NodeV.cells {F : Nat → Prop} {w : World} {n : Nd} {v : Value} (h : NodeV F w n v) : ∃ cs : List Value, v = .agg cs.toArray ∧ cs.length = 5 ∧ (∀ u ∈ cs, u.oneCell' = true) ∧ AggAt F w (nodeD n) cs := by
  obtain ⟨k, t, l, c, kids⟩ := n
  obtain ⟨a, cap, rfl, -⟩ := h.open
  obtain ⟨cs, he, ha⟩ := h
  refine ⟨cs, he, ?_, ?_, ha⟩
  · have := ha.1; rw [nodeD] at this; simpa using this
  · intro u hu
    have : cs = [.int .i64 k, .string t, .int .i64 l, .int .i64 c, .slice a kids.length cap] := by
      have := congrArg (fun v => match v with | Value.agg x => x.toList | _ => []) he
      simpa using this.symm
    rw [this] at hu
    simp at hu
    rcases hu with rfl | rfl | rfl | rfl | rfl <;> rfl
theorem infoNode : (Tryz.prog.info? 83).map (fun i => (i.zero, i.size, i.bytes)) = some (some (.agg #[.int .i64 0, .string ByteArray.empty, .int .i64 0, .int .i64 0, .slice none 0 0]), 5, 64) := by kernel_rfl
end Go.Proofs.YthknljeffpbbmaaGreatDoor
namespace Go.Proofs.YthknljeffpbbmaaGreatDoor
open Go Go.RowKit

/-- Cells that are one cell each. -/
def PlainD (ds : List Dat) : Prop := ∀ v, Dat.one v ∈ ds → v.oneCell' = true

section
variable {F G : Nat → Prop} {w : World}
theorem AggAt.oneCells {ds : List Dat} {cs : List Value} (h : AggAt F w ds cs) (hp : PlainD ds) : ∀ u ∈ cs, u.oneCell' = true := by
  intro u hu
  obtain ⟨i, hi⟩ := List.getElem?_of_mem hu
  have hil := (List.getElem?_eq_some_iff.1 hi).1
  have hd : ds[i]? = some (ds[i]'(by rw [← h.1]; exact hil)) := List.getElem?_eq_getElem _
  have := h.2 i u _ hi hd
  cases hdd : ds[i]'(by rw [← h.1]; exact hil) with
  | one v =>
    rw [hdd] at this hd
    obtain rfl := this.one_inv
    exact hp _ (List.mem_of_getElem? hd)
  | rowb bo l =>
    rw [hdd] at this
    obtain ⟨a, cap, rfl, -⟩ := this.rowb_inv
    rfl

/-- The cells of a row, one struct behind the other. -/
theorem RowAt.cells {b off size : Nat} {l : List (List Dat)} (h : RowAt F w (some ⟨b, off, none⟩) l) (hsz : ∀ ds ∈ l, ds.length = size) :
    ∃ css : List (List Value), css.length = l.length ∧ (∀ cs ∈ css, cs.length = size) ∧ (∀ (j : Nat) ds cs, l[j]? = some ds → css[j]? = some cs → AggAt F w ds cs) ∧
      ∀ (j : Nat) cs, css[j]? = some cs → ∀ (i : Nat) u, cs[i]? = some u → w.cell? ⟨b, off + j * size + i, none⟩ = some u := by
  have hex : ∀ j : Fin l.length, ∃ cs : List Value, AggAt F w l[j] cs ∧ ∀ (i : Nat) u, cs[i]? = some u → w.cell? ⟨b, off + j * size + i, none⟩ = some u := by
    intro j
    obtain ⟨b', off', cs, ha, hF, hb, hd, hc⟩ := h j _ (List.getElem?_eq_getElem j.2)
    cases ha
    refine ⟨cs, hd, fun i u hu => ?_⟩
    have := hc i u hu
    rw [hsz _ (List.getElem_mem j.2)] at this
    exact this
  obtain ⟨f, hf⟩ := Classical.axiomOfChoice hex
  have hget : ∀ (j : Nat) cs, (List.ofFn f)[j]? = some cs → ∃ hj : j < l.length, cs = f ⟨j, hj⟩ := by
    intro j cs hj
    obtain ⟨h1, h2⟩ := List.getElem?_eq_some_iff.1 hj
    rw [List.length_ofFn] at h1
    exact ⟨h1, by rw [← h2, List.getElem_ofFn]⟩
  refine ⟨List.ofFn f, by simp, ?_, ?_, ?_⟩
  · intro cs hcs
    obtain ⟨j, hj⟩ := List.getElem?_of_mem hcs
    obtain ⟨hjl, rfl⟩ := hget j cs hj
    rw [(hf ⟨j, hjl⟩).1.1]
    exact hsz _ (List.getElem_mem hjl)
  · intro j ds cs hj hc
    obtain ⟨hjl, rfl⟩ := hget j cs hc
    rw [List.getElem?_eq_getElem hjl] at hj
    cases hj
    exact (hf ⟨j, hjl⟩).1
  · intro j cs hc i u hu
    obtain ⟨hjl, rfl⟩ := hget j cs hc
    exact (hf ⟨j, hjl⟩).2 i u hu

theorem flatten_inv {css : List (List Value)} {size : Nat} (h0 : 0 < size) (hsz : ∀ cs ∈ css, cs.length = size) {k : Nat} {u : Value} (h : css.flatten[k]? = some u) :
    ∃ cs, css[k / size]? = some cs ∧ cs[k % size]? = some u := by
  induction css generalizing k with
  | nil => simp at h
  | cons c t ih =>
    have hc := hsz c (List.mem_cons_self ..)
    rw [List.flatten_cons] at h
    by_cases hk : k < size
    · rw [List.getElem?_append_left (by omega)] at h
      refine ⟨c, by rw [Nat.div_eq_of_lt hk]; rfl, by rw [Nat.mod_eq_of_lt hk]; exact h⟩
    · rw [List.getElem?_append_right (by omega), hc] at h
      obtain ⟨cs, h1, h2⟩ := ih (fun cs h => hsz cs (List.mem_cons_of_mem _ h)) h
      refine ⟨cs, ?_, ?_⟩
      · rw [Nat.div_eq_sub_div h0 (by omega), List.getElem?_cons_succ]; exact h1
      · rw [Nat.mod_eq_sub_mod (by omega)]; exact h2

theorem wpList_append_row {P : Program} {ops : Array Oper} {rest : List Oper} {o : Oper} {a : Act} {Q : Exit → Act → World → Prop} (hgd : o.guard = none) (s x : Operand) (t : TypeId)
    (ho : o.op = .call { callee := .builtin .append, args := #[s, x], argTypes := #[t, t] })
    (base : Nat) (e : TypeId) (i : TypeInfo) (z : Value) (size bytes : Nat) (ht : P.underlying t = some (.slice e)) (hi : P.info? e = some i) (hz : i.zero = some z)
    (hsize : i.size = size) (hby : i.bytes = bytes) (hzs : z.cells.size = size) (hsz : 0 < size)
    (v : Value) (F : Nat → Prop) (l : List (List Dat)) (hs : a.eval s = v) (hown : OwnD F w base e size v l)
    (b off c : Nat) (l2 : List (List Dat)) (hx : a.eval x = .slice (some ⟨b, off, none⟩) l2.length c) (hrow : RowAt (fun b => F b ∧ v.ownBlock ≠ some b) w (some ⟨b, off, none⟩) l2) (hlen : ∀ ds ∈ l2, ds.length = size) (hpl : ∀ ds ∈ l2, PlainD ds)
    (h63 : l.length + l2.length ≤ maxLen) (hbytes : (l.length + l2.length) * bytes ≤ 140737488355328) (hbase : base ≤ w.heap.size)
    (h : ∀ v' w', OwnD F w' base e size v' (l ++ l2) → w.grownBy w' v.ownBlock → (∀ g, v'.ownBlock = some g → v.ownBlock = some g ∨ w.heap.size ≤ g) → wpList P ops Q rest (a.put o.dst v') w') : wpList P ops Q (o :: rest) a w := by
  obtain ⟨css, hclen, hcs, hrw, hel⟩ := hown
  obtain ⟨css2, hclen2, hcs2, hel2, hcell2⟩ := hrow.cells hlen
  have hflat : css2.flatten.length = l2.length * size := by
    rw [← hclen2]
    clear hclen2 hel2 hcell2
    induction css2 with
    | nil => simp
    | cons cs t ih =>
      rw [List.flatten_cons, List.length_append, hcs2 cs (List.mem_cons_self ..), ih (fun c h => hcs2 c (List.mem_cons_of_mem _ h)), List.length_cons, Nat.add_mul]
      omega
  refine wpList_append_at hgd s x t ho base e i z size bytes ht hi hz hsize hby hzs hsz v l.length css.flatten hs hrw ⟨b, off, none⟩ l2.length c css2.flatten hx hflat ?_ ?_ h63 hbytes hbase fun v' w' h2 h3 h4 => h v' w' ⟨css ++ css2, ?_, ?_, ?_, ?_⟩ h3 h4
  · intro k u hu
    obtain ⟨cs, h5, h6⟩ := flatten_inv hsz hcs2 hu
    have h7 := hcell2 _ cs h5 _ u h6
    have h8 : ((⟨b, off, none⟩ : Addr).add k) = ⟨b, off + k, none⟩ := by unfold Addr.add; split <;> simp_all
    rw [h8, show off + k = off + k / size * size + k % size by rw [Nat.add_assoc, Nat.mul_comm (k / size), Nat.div_add_mod]]
    exact h7
  · intro u hu
    obtain ⟨cs, hcs', hu'⟩ := List.mem_flatten.1 hu
    obtain ⟨j, hj⟩ := List.getElem?_of_mem hcs'
    have hjl := (List.getElem?_eq_some_iff.1 hj).1
    have hjd : l2[j]? = some (l2[j]'(by omega)) := List.getElem?_eq_getElem _
    exact (hel2 j _ _ hjd hj).oneCells (hpl _ (List.mem_of_getElem? hjd)) u hu'
  · simp [hclen, hclen2]
  · intro cs' hc
    rcases List.mem_append.1 hc with hc | hc
    · exact hcs _ hc
    · exact hcs2 _ hc
  · rw [List.flatten_append, List.length_append]
    exact h2
  · have step : ∀ b, F b ∧ v.ownBlock ≠ some b → b < w.heap.size → (F b ∧ v'.ownBlock ≠ some b) ∧ b < w'.heap.size ∧ w'.heap[b]? = w.heap[b]? := fun b hb hlt =>
      ⟨⟨hb.1, fun he => by rcases h4 b he with h | h; exact hb.2 h; omega⟩, Nat.lt_of_lt_of_le hlt h3.size, h3.block b hlt (fun he => hb.2 he.symm)⟩
    intro j ds' cs' hj hc
    by_cases hjl : j < l.length
    · rw [List.getElem?_append_left hjl] at hj
      rw [List.getElem?_append_left (by omega)] at hc
      exact (hel j _ _ hj hc).mono step
    · rw [List.getElem?_append_right (by omega)] at hj
      rw [List.getElem?_append_right (by omega), hclen] at hc
      exact (hel2 _ _ _ hj hc).mono step
end

theorem nodeD_len (n : Nd) : (nodeD n).length = 5 := by obtain ⟨k, t, l, c, kids⟩ := n; rfl
theorem nodeD_plain (n : Nd) : PlainD (nodeD n) := by
  obtain ⟨k, t, l, c, kids⟩ := n
  intro v hv
  rw [nodeD] at hv
  simp at hv
  rcases hv with rfl | rfl | rfl | rfl <;> rfl
theorem nodesD_all {p : List Dat → Prop} (h : ∀ n, p (nodeD n)) (l : List Nd) : ∀ ds ∈ nodesD l, p ds := by
  intro ds hds
  rw [nodesD_map] at hds
  obtain ⟨n, -, rfl⟩ := List.mem_map.1 hds
  exact h n
end Go.Proofs.YthknljeffpbbmaaGreatDoor
namespace Go.Proofs.YthknljeffpbbmaaGreatDoor
open Go Go.RowKit

set_option maxRecDepth 100000 in
set_option maxHeartbeats 1000000 in
theorem equalStr0 (a : Option Addr) (n c : Nat) (w : World) : Calls Tryz.prog 65 #[.slice a n c, .slice none 0 0] w (fun e w' => e = .returned (.bool (n == 0)) ∧ w = w') := by
  cases n with
  | zero =>
    go_enter Tryz.func65, Tryz.ntmps65
    go_wp2
    go_loop [13] (fun i => i = .int .i64 0) (fun i => 0)
    case atStart => rfl
    case round =>
      obtain rfl := hrel
      go_wp2
      go_ret
      exact ⟨rfl, rfl⟩
  | succ n =>
    go_enter Tryz.func65, Tryz.ntmps65
    have h : (((n + 1 : Nat) : Int) != (0 : Nat)) = true := by simp; omega
    have h2 : (((n + 1 : Nat) : Int) == (0 : Nat)) = false := by simp; omega
    go_wp2
    go_ret
    exact ⟨rfl, rfl⟩
set_option maxRecDepth 100000 in
set_option maxHeartbeats 1000000 in
theorem equalVal0 (f : Value) (a : Option Addr) (n c : Nat) (w : World) : Calls Tryz.prog 66 #[.slice a n c, .slice none 0 0, f] w (fun e w' => e = .returned (.bool (n == 0)) ∧ w = w') := by
  cases n with
  | zero =>
    go_enter Tryz.func66, Tryz.ntmps66
    go_wp2
    go_loop [17] (fun i => i = .int .i64 0) (fun i => 0)
    case atStart => rfl
    case round =>
      obtain rfl := hrel
      go_wp2
      go_ret
      exact ⟨rfl, rfl⟩
  | succ n =>
    go_enter Tryz.func66, Tryz.ntmps66
    have h : (((n + 1 : Nat) : Int) != (0 : Nat)) = true := by simp; omega
    have h2 : (((n + 1 : Nat) : Int) == (0 : Nat)) = false := by simp; omega
    go_wp2
    go_ret
    exact ⟨rfl, rfl⟩

theorem same0_plain (k n : Int) (s : ByteArray) (l : List Vl) (ks : List ByteArray) : sameV (.mk k n s l ks) vZero = (k == 0 && n == 0 && s.toList == [] && ks.length == 0 && l.length == 0) := by
  unfold vZero
  rw [sameV]
  have h1 : (⟨#[]⟩ : ByteArray).toList = [] := by rw [Lib.toList_data]
  have h2 : (ks.map (·.toList) == ([] : List ByteArray).map (·.toList)) = (ks.length == 0) := by cases ks <;> simp
  have h3 : sameVs l [] = (l.length == 0) := by cases l <;> simp [sameVs]
  rw [h1, h2, h3]
set_option maxRecDepth 100000 in
set_option maxHeartbeats 2000000 in
theorem same0_any (k n : Int) (s : ByteArray) (l : List Vl) (ks : List ByteArray) (a1 : Option Addr) (c1 : Nat) (a2 : Option Addr) (c2 : Nat) (w : World) :
    Calls Tryz.prog 38 #[.agg #[.int .i64 k, .int .i64 n, .string s, .slice a1 l.length c1, .slice a2 ks.length c2], .agg #[.int .i64 0, .int .i64 0, .string ⟨#[]⟩, .slice none 0 0, .slice none 0 0]] w (fun e w' => e = .returned (.bool (sameV (.mk k n s l ks) vZero)) ∧ Below w.heap.size w w') := by
  rw [same0_plain]
  have HE1 := Lib.hid (fun W => equalStr0 a2 ks.length c2 W)
  have HE2 := Lib.hid (fun W f => equalVal0 f a1 l.length c1 W)
  generalize hr : (k == 0 && n == 0 && s.toList == [] && ks.length == 0 && l.length == 0) = r
  have Hr := Lib.hid hr
  generalize ks.length = kl at Hr HE1 ⊢
  generalize l.length = ll at Hr HE2 ⊢
  obtain ⟨b1, b2, b3, b4⟩ := alloc2 w (.cells #[.int .i64 k, .int .i64 n, .string s, .slice a1 ll c1, .slice a2 kl c2] 37) (.cells #[.int .i64 0, .int .i64 0, .string ⟨#[]⟩, .slice none 0 0, .slice none 0 0] 37)
  have Hb := Lib.hid b3
  clear b1 b2 b3 b4 hr
  cases h1 : (k == 0) with
  | false =>
    have R : Hid (r = false) := Lib.hid (by rw [← Hr.out, h1]; rfl)
    go_enter Tryz.func38, Tryz.ntmps38
    go_wp2_with fail
    go_ret
    exact ⟨ret_bool R.out.symm, Hb.out⟩
  | true =>
  cases h2 : (n == 0) with
  | false =>
    have R : Hid (r = false) := Lib.hid (by rw [← Hr.out, h1, h2]; rfl)
    go_enter Tryz.func38, Tryz.ntmps38
    go_wp2_with fail
    go_ret
    exact ⟨ret_bool R.out.symm, Hb.out⟩
  | true =>
  cases h3 : (s.toList == []) with
  | false =>
    have R : Hid (r = false) := Lib.hid (by rw [← Hr.out, h1, h2, h3]; rfl)
    have h3' : s.toList.isEmpty = false := by cases hs : s.toList <;> simp_all
    go_enter Tryz.func38, Tryz.ntmps38
    go_wp2_with fail
    go_ret
    exact ⟨ret_bool R.out.symm, Hb.out⟩
  | true =>
  have h3' : s.toList.isEmpty = true := by cases hs : s.toList <;> simp_all
  have R : Hid (r = (kl == 0 && ll == 0)) := Lib.hid (by rw [← Hr.out, h1, h2, h3]; rfl)
  clear Hr
  go_enter Tryz.func38, Tryz.ntmps38
  go_wp2_with fail
  refine (HE1.out _).mono ?_
  rintro e w1 ⟨rfl, rfl⟩
  cases h4 : (kl == 0) with
  | false =>
    rw [h4] at R
    clear h4
    go_wp2_with fail
    go_ret
    exact ⟨ret_bool R.out.symm, Hb.out⟩
  | true =>
  rw [h4] at R
  clear h4
  go_wp2_with fail
  refine (HE2.out _ _).mono ?_
  rintro e w1 ⟨rfl, rfl⟩
  go_wp2_with fail
  go_ret
  exact ⟨ret_bool R.out.symm, Hb.out⟩
end Go.Proofs.YthknljeffpbbmaaGreatDoor
