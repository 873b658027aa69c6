/-
  Named values in memory; the names sorted.
-/
import Derived.Test.YtmmflgbhgjefmaaGreatDoorEvB
import Derived.Sort.KeysCollected
namespace Go.Proofs.YtmmflgbhgjefmaaGreatDoor
open Go Go.RowKit

def namedD (q : ByteArray × Vl) : List Dat := .one (.string q.1) :: valD q.2
def namedsD (l : List (ByteArray × Vl)) : List (List Dat) := l.map namedD
theorem namedD_len (q : ByteArray × Vl) : (namedD q).length = 6 := by simp [namedD, valD_len]
theorem namedsD_len (l : List (ByteArray × Vl)) : (namedsD l).length = l.length := by simp [namedsD]
theorem namedsD_append (l m : List (ByteArray × Vl)) : namedsD (l ++ m) = namedsD l ++ namedsD m := by simp [namedsD]

section
variable {F : Nat → Prop} {w : World}
theorem AggAt.named {nm : ByteArray} {k n : Int} {s : ByteArray} {l : List Vl} {ks : List ByteArray} {cs : List Value} (h : AggAt F w (namedD (nm, .mk k n s l ks)) cs) :
    ∃ a c a' c', cs = [.string nm, .int .i64 k, .int .i64 n, .string s, .slice a l.length c, .slice a' ks.length c'] ∧ RowAt F w a (valsD l) ∧ RowAt F w a' (strsD ks) := by
  obtain ⟨c0, cs', rfl, h0, h'⟩ := AggAt.cons_inv (d := .one (.string nm)) (ds := valD (.mk k n s l ks)) h
  obtain rfl := h0.one_inv
  obtain ⟨a, c, a', c', rfl, h1, h2⟩ := AggAt.val h'
  exact ⟨a, c, a', c', rfl, h1, h2⟩
theorem AggAt.named_mk (nm : ByteArray) (k n : Int) (s : ByteArray) {l : List Vl} {ks : List ByteArray} {a a' : Option Addr} (c c' : Nat) (h : RowAt F w a (valsD l)) (h' : RowAt F w a' (strsD ks)) :
    AggAt F w (namedD (nm, .mk k n s l ks)) [.string nm, .int .i64 k, .int .i64 n, .string s, .slice a l.length c, .slice a' ks.length c'] :=
  .cons (.one _) (AggAt.val_mk k n s c c' h h')
/-- A named value among others. -/
theorem RowAt.named {a : Option Addr} {l : List (ByteArray × Vl)} (h : RowAt F w a (namedsD l)) {j : Nat} {nm : ByteArray} {k n : Int} {s : ByteArray} {m : List Vl} {ks : List ByteArray} (hj : l[j]? = some (nm, .mk k n s m ks)) :
    ∃ b off a1 c1 a2 c2, a = some ⟨b, off, none⟩ ∧ F b ∧ b < w.heap.size ∧ w.cell? ⟨b, off + j * 6, none⟩ = some (.string nm) ∧ w.cell? ⟨b, off + j * 6 + 1, none⟩ = some (.int .i64 k) ∧ w.cell? ⟨b, off + j * 6 + 2, none⟩ = some (.int .i64 n) ∧ w.cell? ⟨b, off + j * 6 + 3, none⟩ = some (.string s) ∧
      w.cell? ⟨b, off + j * 6 + 4, none⟩ = some (.slice a1 m.length c1) ∧ w.cell? ⟨b, off + j * 6 + 5, none⟩ = some (.slice a2 ks.length c2) ∧ RowAt F w a1 (valsD m) ∧ RowAt F w a2 (strsD ks) := by
  obtain ⟨b, off, cs, ha, hF, hb, hd, hc⟩ := h j (namedD (nm, .mk k n s m ks)) (by rw [namedsD, List.getElem?_map, hj]; rfl)
  obtain ⟨a1, c1, a2, c2, rfl, hr, hr'⟩ := AggAt.named hd
  rw [namedD_len] at hc
  exact ⟨b, off, a1, c1, a2, c2, ha, hF, hb, hc 0 _ rfl, hc 1 _ rfl, hc 2 _ rfl, hc 3 _ rfl, hc 4 _ rfl, hc 5 _ rfl, hr, hr'⟩
end

/-- The names, rising. -/
def sortKeys (m : List (ByteArray × Vl)) : List (List UInt8) := (m.map (·.1.data.toList)).mergeSort leB
def sortN (m : List (ByteArray × Vl)) : List (ByteArray × Vl) := (sortKeys m).map fun s => (⟨s.toArray⟩, (lookN m ⟨s.toArray⟩).getD vZero)
theorem sortN_len (m : List (ByteArray × Vl)) : (sortN m).length = (sortKeys m).length := by simp [sortN]
/-- Nothing lies in a value. -/
def flatV (v : Vl) : Prop := v.items = [] ∧ v.keys = []
end Go.Proofs.YtmmflgbhgjefmaaGreatDoor
