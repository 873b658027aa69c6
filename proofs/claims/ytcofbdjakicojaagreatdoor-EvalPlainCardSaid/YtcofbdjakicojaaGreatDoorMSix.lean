/-
  Common ground of the walks: what a slice of strings reads as; small facts on bytes, indexes, and worlds.
  What the lexer makes of a text, in plain words.
  The walks of the lexer's small functions: the classes of bytes, and how far a text is of one.
  What the walks want of worlds: blocks known whole, what a store leaves, what has grown.
  What lies in memory and is never written again, told as data: rows of structs, whose cells are plain values or rows again. F: in which blocks it may lie.
  Data that came in, of plain types and slices and structs of them, told as rows in memory.
  Values of the language: as data, in memory; what may be, what is the same, in plain words.
  slices.IndexFunc and slices.ContainsFunc at values: the first of a row of which a function says yes. The function may be any; what it does to the world is told by I.
  Plain laws of what may be: how many are left; a row's search says the same.
  The walk of value.rises.
  Named values in memory.
  What the parser makes of tokens, in plain words: what is taken, what is left, how deep it stands; or where it breaks off; or no word (too little fuel, or a token taken where there is none).
  A slice of the call's own whose elements are structs: what an append leaves of it, and of the world. F: in which blocks the elements' own parts may lie.
  Nodes in memory.
  The parser comes back as deep as it was: in plain words.
  An append of several structs at once, that lie in a row somewhere.
  What lies in memory behind two, three or four boxes.
  A slice of strings of the call's own.
  A struct of an own row, written anew.
  What the library's Clone answers, of rows of structs: what it asks of the row, and the own row that comes of it.
  The walk of value.Same at the value none: is a value just that?
  An own row, told from further down.
  Plain law: what may be, may be as the document's three counts tell it: how many in all, how deep, each node for itself. No program in sight.
  Plain law: what the document's three counts let through, may be. No program in sight.
  What lies in a block of six cells.
-/
import Derived.Test.YtcofbdjakicojaaGreatDoorProg
import Derived.WalkKit
import Derived.WalkSpells
import Derived.WalkLawsBesides
import Derived.Deep.QuietTactic
import Derived.BigQuiet
import Derived.Outline
import Derived.Lib.Hide
import Derived.Lib.TrimByte
import Derived.Deep.RegionWith
import Derived.Laws.OwnMore
import Derived.Laws.Rows
import Derived.ChangeArms
import Derived.Laws.IdiomCopy
namespace Go.Proofs.YtcofbdjakicojaaGreatDoor
open Go.RowKit
open List renaming getElem?_eq_getElem → lgE, take_of_length_le → ltL
theorem Ar {a b : Bool} (h : a = b) : Ending.returned (.bool a) = .returned (.bool b) := by rw [h]
theorem S2 {k : IntKind} {a b : Int} (h : a = b) : Ending.returned (.int k a) = .returned (.int k b) := by rw [h]
theorem D1 (p : ByteArray) (i : Nat) (h : i < p.size) : p.data.toList[i]? = some p[i] := by
 rw [Array.getElem?_toList, Array.getElem?_eq_getElem h]; rfl
theorem Af (p : ByteArray) : p.data.toList.length = p.size := Array.length_toList
theorem Ek (p : ByteArray) (i : Nat) : (p.extract i p.size).data.toList = p.data.toList.drop i := by
 rw [Lib.extract_data, ltL (by rw [List.length_drop, Af]; omega)]
theorem Na {a : UInt8} {n : Nat} (hn : n < 256) : ((a.toNat : Int) == (n : Int)) = (a == UInt8.ofNat n) := by
 rw [Bool.eq_iff_iff, beq_iff_eq, beq_iff_eq, Int.ofNat_inj, ← UInt8.toNat_inj, UInt8.toNat_ofNat', Nat.mod_eq_of_lt hn]
theorem bytes_ext {a b : ByteArray} (h : a.data.toList = b.data.toList) : a = b := by
 cases a; cases b; simp only [ByteArray.mk.injEq]; exact Array.toList_inj.1 h
theorem Bk {B : Nat} {w w' : World} (h : Below B w w') (n : Nat) : Below B w (w'.drewN n) := ⟨h.os, h.tape, h.output, h.size, h.block⟩
def Ax (w : World) (a : Option Addr) (l : List ByteArray) : Prop :=
 ∀ (j : Nat) x, l[j]? = some x → ∃ b off, a = some ⟨b, off, none⟩ ∧ w.cell? ⟨b, off + j, none⟩ = some (.string x)
theorem block_of_cell {w : World} {b off : Nat} {v : Value} (h : w.cell? ⟨b, off, none⟩ = some v) : b < w.heap.size := by
 unfold World.cell? at h;by_cases hb : b < w.heap.size
 ·exact hb
 ·rw [Array.getElem?_eq_none (by simpa using hb)] at h;cases h
theorem Ax.below {w w' : World} {a : Option Addr} {l : List ByteArray} (h : Ax w a l) (hb : Below w.heap.size w w') : Ax w' a l := by
 intro j x hx;obtain ⟨b, off, ha, hc⟩ := h j x hx;exact ⟨b, off, ha, by rw [hb.cell (p := ⟨b, off + j, none⟩) (block_of_cell hc)]; exact hc⟩
theorem Ax.nil (w : World) (a : Option Addr) : Ax w a [] := by intro j x h; cases h
theorem Ax.at {w : World} {a : Option Addr} {l : List ByteArray} (h : Ax w a l) {k : Nat} (hk : k < l.length) :
  ∃ b off, a = some ⟨b, off, none⟩ ∧ w.cell? ⟨b, off + k, none⟩ = some (.string l[k]) := h k _ (lgE hk)
def Found (q : Nat → Bool) (n : Nat) (I : Nat → World → Prop) (e : Ending) (w : World) : Prop :=
 (∃ i, i < n ∧ q i = true ∧ (∀ j, j < i → q j = false) ∧ e = .returned (.int .i64 (i : Nat)) ∧ I (i + 1) w) ∨
  ((∀ j, j < n → q j = false) ∧ e = .returned (.int .i64 (-1)) ∧ I n w)
def FoundB (q : Nat → Bool) (n : Nat) (I : Nat → World → Prop) (e : Ending) (w : World) : Prop :=
 (∃ i, i < n ∧ q i = true ∧ (∀ j, j < i → q j = false) ∧ e = .returned (.bool true) ∧ I (i + 1) w) ∨
  ((∀ j, j < n → q j = false) ∧ e = .returned (.bool false) ∧ I n w)
end Go.Proofs.YtcofbdjakicojaaGreatDoor
namespace Go.Proofs.YtcofbdjakicojaaGreatDoor
open Go Go.RowKit
open List renaming length_cons → lnC, getElem?_eq_getElem → lgE, mem_of_getElem? → lgM, length_map → lnM, getElem?_map → lgP, length_append → lnA, mem_cons_self → lmS, mem_cons_of_mem → lmO, length_nil → lnN, length_take → lnT
open Nat renaming zero_le → nlz, le_refl → nlr, lt_of_lt_of_le → nll, le_trans → nlt, add_zero → naz
open Go.Lib renaming hid → Lq7
set_option maxRecDepth 100000
set_option maxHeartbeats 16000000
def isGap (c : UInt8) : Bool := ((c.toNat : Int) == 32) || ((c.toNat : Int) == 9) || ((c.toNat : Int) == 10) || ((c.toNat : Int) == 13)
def isDigit (c : UInt8) : Bool := decide ((48 : Int) ≤ c.toNat) && decide ((c.toNat : Int) ≤ 57)
def Di (c : UInt8) : Bool := (decide ((97 : Int) ≤ c.toNat) && decide ((c.toNat : Int) ≤ 122)) || (decide ((65 : Int) ≤ c.toNat) && decide ((c.toNat : Int) ≤ 90)) || ((c.toNat : Int) == 95)
def isLine (c : UInt8) : Bool := (c.toNat : Int) != 10
def isWordy (c : UInt8) : Bool := Di c || isDigit c
def runL (p : UInt8 → Bool) (l : List UInt8) : Nat := (l.takeWhile p).length
def D3 (c : UInt8) : Option UInt8 := if c = 34 then some 34 else if c = 92 then some 92 else if c = 110 then some 10 else none
def quotedL : List UInt8 → Option (List UInt8 × Nat)
 | [] => none
 | c :: t =>
  if c = 34 then some ([], 1)
  else if c < 32 ∨ c = 127 then none
  else if c = 92 then
   match t with
   | [] => none
   | d :: t' => (D3 d).bind fun e => (quotedL t').map fun r => (e :: r.1, r.2 + 2)
  else (quotedL t).map fun r => (c :: r.1, r.2 + 1)
def natOf (l : List UInt8) : Nat := l.foldl (fun n c => 10 * n + (c.toNat - 48)) 0
structure Tok where
 kind : Int
 text : ByteArray
 line : Int
 col : Int
def B6 (l : List UInt8) : Except Int (Int × List UInt8 × Nat) :=
 if 1 < runL isDigit l ∧ l.head? = some 48 then .error 3
 else if 9223372036854775807 < natOf (l.takeWhile isDigit) then .error 2
 else .ok (2, l.takeWhile isDigit, runL isDigit l)
def Bp (l : List UInt8) : Except Int (Int × List UInt8 × Nat) :=
 match l with
 | [] => .error 3
 | c :: t =>
  if isGap c then .ok (0, [], runL isGap l)
  else if c = 35 then .ok (0, [], runL isLine l)
  else if Di c then .ok (1, l.takeWhile isWordy, runL isWordy l)
  else if isDigit c then B6 l
  else if c = 34 then
   match quotedL t with
   | some r => .ok (3, r.1, r.2 + 1)
   | none => .error 3
  else if l.take 2 = [61, 61] ∨ l.take 2 = [33, 61] then .ok (4, l.take 2, 2)
  else if c ∈ ([61, 43, 40, 41, 91, 93, 123, 125, 44, 58, 59] : List UInt8) then .ok (4, [c], 1)
  else .error 3
def behindLast (l : List UInt8) : Nat := (l.reverse.takeWhile (· ≠ 10)).length
def passL (p : Int × Int) (l : List UInt8) : Int × Int :=
 if 0 < l.count 10 then (p.1 + l.count 10, behindLast l + 1) else (p.1, p.2 + l.length)
def tokensL : Nat → Int × Int → List UInt8 → Except (Int × Int × Int) (List Tok)
 | 0, _, _ => .ok []
 | f + 1, p, l =>
  if l = [] then .ok []
  else match Bp l with
   | .error e => .error (e, p.1, p.2)
   | .ok (k, s, n) =>
    match tokensL f (passL p (l.take n)) (l.drop n) with
    | .error e => .error e
    | .ok ts => .ok (if 0 < k then ⟨k, ⟨s.toArray⟩, p.1, p.2⟩ :: ts else ts)
def Iz (l : List UInt8) : Except (Int × Int × Int) (List Tok) :=
 if 65536 < l.length then .error (6, 1, 1) else tokensL (l.length + 1) (1, 1) l
def RetB (b : Bool) (w : World) (e : Ending) (w' : World) : Prop := e = .returned (.bool b) ∧ w = w'
theorem S7 (c : UInt8) (w : World) : Calls Tryz.prog 76 #[.int .u8 c.toNat] w (RetB (isGap c) w) := by
 go_enter Tryz.func76, Tryz.ntmps76;go_wp2_with fail
 all_goals
  go_ret;exact ⟨Ar (by first | (simp [isGap, *]; done) | (simp_all [isGap]; done) | (rw [Bool.eq_iff_iff]; simp [isGap]; omega)), rfl⟩
theorem Jt (c : UInt8) (w : World) : Calls Tryz.prog 81 #[.int .u8 c.toNat] w (RetB (isDigit c) w) := by
 go_enter Tryz.func81, Tryz.ntmps81;go_wp2_with fail
 all_goals
  go_ret;exact ⟨Ar (by first | (simp [isDigit, *]; done) | (simp_all [isDigit]; done) | (rw [Bool.eq_iff_iff]; simp [isDigit]; omega)), rfl⟩
theorem Iy (c : UInt8) (w : World) : Calls Tryz.prog 79 #[.int .u8 c.toNat] w (RetB (Di c) w) := by
 go_enter Tryz.func79, Tryz.ntmps79;go_wp2_with fail
 all_goals
  go_ret;exact ⟨Ar (by first | (simp [Di, *]; done) | (simp_all [Di]; done) | (rw [Bool.eq_iff_iff]; simp [Di]; omega)), rfl⟩
theorem line_any (c : UInt8) (w : World) : Calls Tryz.prog 78 #[.int .u8 c.toNat] w (RetB (isLine c) w) := by
 go_enter Tryz.func78, Tryz.ntmps78;go_wp2_with fail;go_ret;exact ⟨rfl, rfl⟩
theorem Uh (c : UInt8) (w : World) : Calls Tryz.prog 80 #[.int .u8 c.toNat] w (RetB (isWordy c) w) := by
 cases h1 : Di c
 ·cases h2 : isDigit c
  all_goals
   have H1 := Lq7 h1;have H2 := Lq7 h2;clear h1 h2;go_enter Tryz.func80, Tryz.ntmps80;go_wp2_with fail;refine (Iy c _).mono ?_;rintro e w' ⟨rfl, rfl⟩;rw [H1.out];go_wp2_with fail;refine (Jt c _).mono ?_;rintro e w' ⟨rfl, rfl⟩;rw [H2.out];go_wp2_with fail;go_ret;exact ⟨by unfold isWordy; rw [H1.out, H2.out]; rfl, rfl⟩
 ·have H1 := Lq7 h1;clear h1;go_enter Tryz.func80, Tryz.ntmps80;go_wp2_with fail;refine (Iy c _).mono ?_;rintro e w' ⟨rfl, rfl⟩;rw [H1.out];go_wp2_with fail;go_ret;exact ⟨by unfold isWordy; rw [H1.out]; rfl, rfl⟩
theorem L2 {p : UInt8 → Bool} {l : List UInt8} {k : Nat} (h : ∀ j, j < k → ∀ y, l[j]? = some y → p y = true) (hk : k ≤ l.length) : runL p l = k + runL p (l.drop k) := by
 induction k generalizing l with
 | zero => simp [runL]
 | succ k ih =>
  cases l with
  | nil => simp at hk
  | cons x t =>
   have hx := h 0 (by omega) x rfl;have := ih (l := t) (fun j hj y hy => h (j + 1) (by omega) y (by simpa using hy)) (by simpa using hk);unfold runL at this ⊢;rw [List.takeWhile_cons_of_pos hx, lnC, this, List.drop_succ_cons];omega
theorem runL_le (p : UInt8 → Bool) (l : List UInt8) : runL p l ≤ l.length := by
 unfold runL
 induction l with
 | nil => simp
 | cons x t ih => rw [List.takeWhile_cons]; split <;> simp <;> omega
theorem Nl (p : UInt8 → Bool) (l : List UInt8) : l.take (runL p l) = l.takeWhile p := by
 unfold runL
 induction l with
 | nil => rfl
 | cons x t ih =>
  rw [List.takeWhile_cons];split
  ·rw [lnC, List.take_succ_cons, ih]
  ·rfl
theorem Lf (p : UInt8 → Bool) (f : Nat) (hf : ∀ (c : UInt8) (w : World), Calls Tryz.prog f #[.int .u8 c.toNat] w (RetB (p c) w)) (henter : ∀ (args : Array Value) (w : World), (callFunc f args).run Tryz.prog w = .ok (.enter f args) w) (s : ByteArray) (w : World) (hs : s.size ≤ 9223372036854775807) :
  Calls Tryz.prog 77 #[.string s, .func (.func f) #[] #[]] w (fun e w' => e = .returned (.int .i64 (runL p s.data.toList)) ∧ w = w') := by
 have Hf := Lq7 hf;clear hf;go_enter Tryz.func77, Tryz.ntmps77;go_wp2_with fail
 go_loopw [5] (fun i wr => ∃ k : Nat, i = .int .i64 k ∧ k ≤ s.size ∧ wr = w ∧ Hid (∀ j, j < k → ∀ y, s.data.toList[j]? = some y → p y = true)) (fun i _ => s.size - (intOf i).toNat)
 case atStart => exact ⟨0, rfl, nlz _, rfl, Lq7 (fun j hj => by omega)⟩
 case round =>
  obtain ⟨k, rfl, hk, rfl, aB⟩ := hrel;by_cases hlt : k < s.size
  ·have Hk := Lq7 (D1 s k hlt);have hd : decide ((k : Int) < (s.size : Int)) = true := (by simp; omega);cases hp : p s[k]
   ·have Hp := Lq7 hp;clear hp;have Hr : Hid (runL p s.data.toList = k) := Lq7 (by
     rw [L2 aB.out (by rw [Af]; omega), List.drop_eq_getElem_cons (by rw [Af]; exact hlt)];have : s.data.toList[k]'(by rw [Af]; exact hlt) = s[k] := rfl;rw [this, runL, List.takeWhile_cons_of_neg (by rw [Hp.out]; simp)]; rfl)
    go_wp2_with fail;refine (Hf.out s[k] _).mono ?_;rintro e w' ⟨rfl, rfl⟩;rw [Hp.out];go_wp2_with fail;go_ret;exact ⟨S2 (by rw [Hr.out]), rfl⟩
   ·have Hp := Lq7 hp;clear hp;have Hn : Hid (∀ j, j < k + 1 → ∀ y, s.data.toList[j]? = some y → p y = true) := Lq7 (fun j hj y hy => by
     by_cases hjk : j < k
     ·exact aB.out j hjk y hy
     ·obtain rfl : j = k := (by omega);rw [Hk.out] at hy;cases hy;exact Hp.out)
    go_wp2_with fail;refine (Hf.out s[k] _).mono ?_;rintro e w' ⟨rfl, rfl⟩;rw [Hp.out];go_wp2_with fail;go_roundw
    case rel => exact ⟨k + 1, by go_num, by omega, by trivial, Hn⟩
    case measure => simp only [intOf]; omega
  ·have Hr : Hid (runL p s.data.toList = k) := Lq7 (by
    rw [L2 aB.out (by rw [Af]; omega), List.drop_of_length_le (by rw [Af]; omega)]; rfl)
   have hd : decide ((k : Int) < (s.size : Int)) = false := (by simp; omega);go_wp2_with fail;go_ret;exact ⟨S2 (by rw [Hr.out]), rfl⟩
theorem Ao {w : World} {b : Nat} {cs : Array Value} {t : TypeId} (h : w.heap[b]? = some (.cells cs t (0, 0))) :
  b < w.heap.size ∧ (∀ j, w.cell? ⟨b, j, none⟩ = cs[j]?) ∧ ∀ j, w.frozen? ⟨b, j, none⟩ = false := by
 refine ⟨(Array.getElem?_eq_some_iff.1 h).1, fun j => ?_, fun j => ?_⟩
 ·unfold World.cell?; rw [h]; rfl
 ·unfold World.frozen?; rw [h]; simp
theorem Cx {w w2 : World} {cs : Array Value} {t : TypeId} (hb : Below (w.alloc (.cells cs t)).heap.size (w.alloc (.cells cs t)) w2) : w2.heap[w.heap.size]? = some (.cells cs t (0, 0)) :=
 (hb.block _ (by simp)).trans (heap_alloc_new w _)
theorem Ap {w : World} {b : Nat} {x y : Value} {t : TypeId} (h : w.heap[b]? = some (.cells #[x, y] t (0, 0))) :
  b < w.heap.size ∧ w.cell? ⟨b, 0, none⟩ = some x ∧ w.cell? ⟨b, 1, none⟩ = some y ∧ w.frozen? ⟨b, 0, none⟩ = false ∧ w.frozen? ⟨b, 1, none⟩ = false := by
 obtain ⟨h1, h2, h3⟩ := Ao h;exact ⟨h1, h2 0, h2 1, h3 0, h3 1⟩
theorem set_same {w : World} {b : Nat} {cs : Array Value} {t : TypeId} (h : w.heap[b]? = some (.cells cs t (0, 0))) (i : Nat) (v : Value) : (w.setCell ⟨b, i, none⟩ v).heap[b]? = some (.cells (cs.setIfInBounds i v) t (0, 0)) := by
 unfold World.setCell;show (Array.modify _ _ _)[b]? = _;rw [Array.getElem?_modify, if_pos rfl, h]; rfl
theorem set_other {w : World} {b k : Nat} (h : k ≠ b) (i : Nat) (v : Value) : (w.setCell ⟨b, i, none⟩ v).heap[k]? = w.heap[k]? := Below.heap_setCell _ _ _ _ (fun e => h e)
theorem grownBy_refl (w : World) (row : Option Nat) : w.grownBy w row := ⟨rfl, rfl, rfl, nlr _, fun _ _ _ => rfl⟩
theorem grownBy_trans {a b c : World} {row : Option Nat} (h : a.grownBy b row) (k : b.grownBy c row) : a.grownBy c row :=
 ⟨k.os.trans h.os, k.tape.trans h.tape, k.output.trans h.output, nlt h.size k.size, fun i hi hn => (k.block i (nll hi h.size) hn).trans (h.block i hi hn)⟩
theorem grownBy_below {a b : World} {row : Option Nat} (h : Below a.heap.size a b) : a.grownBy b row := ⟨h.os, h.tape, h.output, h.size, fun i hi _ => h.block i hi⟩
theorem grownBy_set {a b : World} {g : Nat} (h : a.grownBy b (some g)) (i : Nat) (v : Value) : a.grownBy (b.setCell ⟨g, i, none⟩ v) (some g) :=
 ⟨h.os, h.tape, h.output, by simpa using h.size, fun k hk hn => (set_other (fun e => hn (by rw [e])) i v).trans (h.block k hk hn)⟩
theorem C9 {a b : World} {row : Option Nat} (h : a.grownBy b row) (o : Obj) : a.grownBy (b.alloc o) row :=
 ⟨h.os, h.tape, h.output, nlt h.size (by simp), fun k hk hn => (Below.heap_alloc b o k (nll hk h.size)).trans (h.block k hk hn)⟩
theorem Bt {a b : World} {row : Option Nat} (h : a.grownBy b row) {g : Nat} (hg : a.heap.size ≤ g) (i : Nat) (v : Value) : a.grownBy (b.setCell ⟨g, i, none⟩ v) row :=
 ⟨h.os, h.tape, h.output, by simpa using h.size, fun k hk hn => (set_other (by omega) i v).trans (h.block k hk hn)⟩
theorem Fc {a b c : World} {bp : Nat} {v : Value} (h : a.grownBy b (some bp)) (k : b.grownBy c v.ownBlock) (hv : ∀ g, v.ownBlock = some g → a.heap.size ≤ g) : a.grownBy c (some bp) :=
 ⟨k.os.trans h.os, k.tape.trans h.tape, k.output.trans h.output, nlt h.size k.size, fun i hi hn => (k.block i (nll hi h.size) (fun e => by have := hv i e.symm; omega)).trans (h.block i hi hn)⟩
theorem Ai {w : World} {b : Nat} {x y z u : Value} {t : TypeId} (h : w.heap[b]? = some (.cells #[x, y, z, u] t (0, 0))) :
  b < w.heap.size ∧ w.cell? ⟨b, 0, none⟩ = some x ∧ w.cell? ⟨b, 1, none⟩ = some y ∧ w.cell? ⟨b, 2, none⟩ = some z ∧ w.cell? ⟨b, 3, none⟩ = some u := by
 obtain ⟨h1, h2, h3⟩ := Ao h;exact ⟨h1, h2 0, h2 1, h2 2, h2 3⟩
theorem five_facts {w : World} {b : Nat} {x y z u v : Value} {t : TypeId} (h : w.heap[b]? = some (.cells #[x, y, z, u, v] t (0, 0))) :
  b < w.heap.size ∧ w.cell? ⟨b, 0, none⟩ = some x ∧ w.cell? ⟨b, 1, none⟩ = some y ∧ w.cell? ⟨b, 2, none⟩ = some z ∧ w.cell? ⟨b, 3, none⟩ = some u ∧ w.cell? ⟨b, 4, none⟩ = some v ∧
  w.frozen? ⟨b, 0, none⟩ = false ∧ w.frozen? ⟨b, 1, none⟩ = false ∧ w.frozen? ⟨b, 2, none⟩ = false ∧ w.frozen? ⟨b, 3, none⟩ = false ∧ w.frozen? ⟨b, 4, none⟩ = false := by
 obtain ⟨h1, h2, h3⟩ := Ao h;exact ⟨h1, h2 0, h2 1, h2 2, h2 3, h2 4, h3 0, h3 1, h3 2, h3 3, h3 4⟩
theorem one_facts {w : World} {b : Nat} {x : Value} {t : TypeId} (h : w.heap[b]? = some (.cells #[x] t (0, 0))) : b < w.heap.size ∧ w.cell? ⟨b, 0, none⟩ = some x := by
 obtain ⟨h1, h2, h3⟩ := Ao h;exact ⟨h1, h2 0⟩
theorem Ag {w : World} {b : Nat} {x y z : Value} {t : TypeId} (h : w.heap[b]? = some (.cells #[x, y, z] t (0, 0))) :
  b < w.heap.size ∧ w.cell? ⟨b, 0, none⟩ = some x ∧ w.cell? ⟨b, 1, none⟩ = some y ∧ w.cell? ⟨b, 2, none⟩ = some z ∧
  w.frozen? ⟨b, 0, none⟩ = false ∧ w.frozen? ⟨b, 1, none⟩ = false ∧ w.frozen? ⟨b, 2, none⟩ = false := by
 obtain ⟨h1, h2, h3⟩ := Ao h;exact ⟨h1, h2 0, h2 1, h2 2, h3 0, h3 1, h3 2⟩
inductive Dat where
 | one (v : Value)
 | rowb (b : Bool) (l : List (List Dat))
abbrev Dat.row (l : List (List Dat)) : Dat := .rowb false l
inductive B4 (F : Nat → Prop) (w : World) : Dat → Value → Prop
 | one (v : Value) : B4 F w (.one v) v
 | rowb (b : Bool) (l : List (List Dat)) (a : Option Addr) (cap : Nat) (hcap : b = true → l.length ≤ cap) (vs : List (List Value)) (hlen : vs.length = l.length)
   (hcell : ∀ (j : Nat) cs, vs[j]? = some cs → ∃ b off, a = some ⟨b, off, none⟩ ∧ F b ∧ b < w.heap.size ∧ ∀ (i : Nat) u, cs[i]? = some u → w.cell? ⟨b, off + j * cs.length + i, none⟩ = some u)
   (hsz : ∀ (j : Nat) cs ds, vs[j]? = some cs → l[j]? = some ds → cs.length = ds.length)
   (hsub : ∀ (j : Nat) cs ds (i : Nat) u d, vs[j]? = some cs → l[j]? = some ds → cs[i]? = some u → ds[i]? = some d → B4 F w d u) : B4 F w (.rowb b l) (.slice a l.length cap)
def Ah (F : Nat → Prop) (w : World) (ds : List Dat) (cs : List Value) : Prop :=
 cs.length = ds.length ∧ ∀ (i : Nat) u d, cs[i]? = some u → ds[i]? = some d → B4 F w d u
def Ac (F : Nat → Prop) (w : World) (a : Option Addr) (l : List (List Dat)) : Prop :=
 ∀ (j : Nat) ds, l[j]? = some ds → ∃ b off cs, a = some ⟨b, off, none⟩ ∧ F b ∧ b < w.heap.size ∧ Ah F w ds cs ∧ ∀ (i : Nat) u, cs[i]? = some u → w.cell? ⟨b, off + j * ds.length + i, none⟩ = some u
section
variable {F G : Nat → Prop} {w w' : World}
theorem B4.mono {d : Dat} {v : Value} (h : B4 F w d v) (hk : ∀ b, F b → b < w.heap.size → G b ∧ b < w'.heap.size ∧ w'.heap[b]? = w.heap[b]?) : B4 G w' d v := by
 induction h with
 | one v => exact .one v
 | rowb bo l a cap hcap vs hlen hcell hsz hsub ih =>
  refine .rowb bo l a cap hcap vs hlen (fun j cs hj => ?_) hsz ih;obtain ⟨b, off, ha, hF, hb, hc⟩ := hcell j cs hj;obtain ⟨h1, h2, h3⟩ := hk b hF hb;exact ⟨b, off, ha, h1, h2, fun i u hu => (World.cell?_of_block h3).trans (hc i u hu)⟩
theorem Ah.mono {ds : List Dat} {cs : List Value} (h : Ah F w ds cs) (hk : ∀ b, F b → b < w.heap.size → G b ∧ b < w'.heap.size ∧ w'.heap[b]? = w.heap[b]?) : Ah G w' ds cs :=
 ⟨h.1, fun i u d h1 h2 => (h.2 i u d h1 h2).mono hk⟩
theorem Ac.mono {a : Option Addr} {l : List (List Dat)} (h : Ac F w a l) (hk : ∀ b, F b → b < w.heap.size → G b ∧ b < w'.heap.size ∧ w'.heap[b]? = w.heap[b]?) : Ac G w' a l := by
 intro j ds hj;obtain ⟨b, off, cs, ha, hF, hb, hd, hc⟩ := h j ds hj;obtain ⟨h1, h2, h3⟩ := hk b hF hb;exact ⟨b, off, cs, ha, h1, h2, hd.mono hk, fun i u hu => (World.cell?_of_block h3).trans (hc i u hu)⟩
theorem B4.one_inv {v u : Value} (h : B4 F w (.one v) u) : u = v := by cases h; rfl
theorem B4.rowb_inv {bo : Bool} {l : List (List Dat)} {u : Value} (h : B4 F w (.rowb bo l) u) : ∃ a cap, u = .slice a l.length cap ∧ (bo = true → l.length ≤ cap) ∧ Ac F w a l := by
 cases h with
 | rowb bo l a cap hcap vs hlen hcell hsz hsub =>
  refine ⟨a, cap, rfl, hcap, fun j ds hj => ?_⟩;have aB := (List.getElem?_eq_some_iff.1 hj).1;have aE : vs[j]? = some (vs[j]'(by omega)) := lgE (by omega);obtain ⟨b, off, ha, hF, hb, hc⟩ := hcell j _ aE;refine ⟨b, off, _, ha, hF, hb, ⟨hsz j _ _ aE hj, fun i u d h1 h2 => hsub j _ _ i u d aE hj h1 h2⟩, fun i u hu => ?_⟩;rw [← hsz j _ _ aE hj];exact hc i u hu
theorem B4.row_inv {l : List (List Dat)} {u : Value} (h : B4 F w (.row l) u) : ∃ a cap, u = .slice a l.length cap ∧ Ac F w a l := by
 obtain ⟨a, cap, h1, -, h2⟩ := h.rowb_inv;exact ⟨a, cap, h1, h2⟩
theorem B4.rowb_mk {bo : Bool} {l : List (List Dat)} {a : Option Addr} (cap : Nat) (hcap : bo = true → l.length ≤ cap) (h : Ac F w a l) : B4 F w (.rowb bo l) (.slice a l.length cap) := by
 have hex : ∀ j : Fin l.length, ∃ cs : List Value, Ah F w l[j] cs ∧ ∃ b off, a = some ⟨b, off, none⟩ ∧ F b ∧ b < w.heap.size ∧ ∀ (i : Nat) u, cs[i]? = some u → w.cell? ⟨b, off + j * (l[j]).length + i, none⟩ = some u := by
  intro j;obtain ⟨b, off, cs, ha, hF, hb, hd, hc⟩ := h j _ (lgE j.2);exact ⟨cs, hd, b, off, ha, hF, hb, hc⟩
 obtain ⟨f, hf⟩ := Classical.axiomOfChoice hex;have aC : ∀ (j : Nat) cs, (List.ofFn f)[j]? = some cs → ∃ hj : j < l.length, cs = f ⟨j, hj⟩ := by
  intro j cs hj;obtain ⟨h1, h2⟩ := List.getElem?_eq_some_iff.1 hj;rw [List.length_ofFn] at h1;exact ⟨h1, by rw [← h2, List.getElem_ofFn]⟩
 refine .rowb bo l a cap hcap (List.ofFn f) (by simp) ?_ ?_ ?_
 ·intro j cs hj;obtain ⟨aB, rfl⟩ := aC j cs hj;obtain ⟨hd, b, off, ha, hF, hb, hc⟩ := hf ⟨j, aB⟩;refine ⟨b, off, ha, hF, hb, fun i u hu => ?_⟩;rw [hd.1];exact hc i u hu
 ·intro j cs ds hj hl;obtain ⟨aB, rfl⟩ := aC j cs hj;rw [lgE aB] at hl;cases hl;exact (hf ⟨j, aB⟩).1.1
 ·intro j cs ds i u d hj hl hu hd;obtain ⟨aB, rfl⟩ := aC j cs hj;rw [lgE aB] at hl;cases hl;exact (hf ⟨j, aB⟩).1.2 i u d hu hd
theorem B4.row_mk {l : List (List Dat)} {a : Option Addr} (cap : Nat) (h : Ac F w a l) : B4 F w (.row l) (.slice a l.length cap) := B4.rowb_mk cap (fun h => by cases h) h
theorem Ah.nil : Ah F w [] [] := ⟨rfl, fun i u d h _ => by simp at h⟩
theorem Ah.cons_inv {d : Dat} {ds : List Dat} {cs : List Value} (h : Ah F w (d :: ds) cs) : ∃ c cs', cs = c :: cs' ∧ B4 F w d c ∧ Ah F w ds cs' := by
 obtain ⟨h1, h2⟩ := h;cases cs with
 | nil => simp at h1
 | cons c cs' => exact ⟨c, cs', rfl, h2 0 c d rfl rfl, by simpa using h1, fun i u d' hu hd => h2 (i + 1) u d' (by simpa using hu) (by simpa using hd)⟩
theorem Ah.nil_inv {cs : List Value} (h : Ah F w [] cs) : cs = [] := List.length_eq_zero_iff.1 h.1
theorem Ah.cons {d : Dat} {ds : List Dat} {c : Value} {cs : List Value} (h1 : B4 F w d c) (h2 : Ah F w ds cs) : Ah F w (d :: ds) (c :: cs) := by
 refine ⟨by simp [h2.1], fun i u d' hu hd => ?_⟩;cases i with
 | zero => simp at hu hd; rw [← hu, ← hd]; exact h1
 | succ i => exact h2.2 i u d' (by simpa using hu) (by simpa using hd)
theorem Ac.nil (a : Option Addr) : Ac F w a [] := fun j ds h => by simp at h
theorem Io (F : Nat → Prop) (hb : Below w.heap.size w w') : ∀ b, F b → b < w.heap.size → F b ∧ b < w'.heap.size ∧ w'.heap[b]? = w.heap[b]? :=
 fun b hF hl => ⟨hF, nll hl hb.size, hb.block b hl⟩
theorem Ac.below {a : Option Addr} {l : List (List Dat)} (h : Ac F w a l) (hb : Below w.heap.size w w') : Ac F w' a l := h.mono (Io F hb)
theorem Ah.below {ds : List Dat} {cs : List Value} (h : Ah F w ds cs) (hb : Below w.heap.size w w') : Ah F w' ds cs := h.mono (Io F hb)
theorem Ac.here {a : Option Addr} {l : List (List Dat)} (h : Ac F w a l) : Ac (fun b => F b ∧ b < w.heap.size) w a l := h.mono fun _b h1 h2 => ⟨⟨h1, h2⟩, h2, rfl⟩
theorem Ah.here {ds : List Dat} {cs : List Value} (h : Ah F w ds cs) : Ah (fun b => F b ∧ b < w.heap.size) w ds cs := h.mono fun _b h1 h2 => ⟨⟨h1, h2⟩, h2, rfl⟩
theorem Ac.wider {a : Option Addr} {l : List (List Dat)} (h : Ac F w a l) (hg : ∀ b, F b → b < w.heap.size → G b) : Ac G w a l := h.mono fun b h1 h2 => ⟨hg b h1 h2, h2, rfl⟩
theorem Ah.wider {ds : List Dat} {cs : List Value} (h : Ah F w ds cs) (hg : ∀ b, F b → b < w.heap.size → G b) : Ah G w ds cs := h.mono fun b h1 h2 => ⟨hg b h1 h2, h2, rfl⟩
theorem Ac.drop {b off n : Nat} {l : List (List Dat)} (h : Ac F w (some ⟨b, off, none⟩) l) (hn : ∀ ds ∈ l, ds.length = n) (k : Nat) : Ac F w (some ⟨b, off + k * n, none⟩) (l.drop k) := by
 intro j ds hj;rw [List.getElem?_drop] at hj;obtain ⟨b', off', cs, ha, hF, hb, hd, hc⟩ := h (k + j) ds hj;cases ha;refine ⟨b, off + k * n, cs, rfl, hF, hb, hd, fun i u hu => ?_⟩;have := hc i u hu;rw [hn ds (lgM hj)] at this ⊢;rw [show off + k * n + j * n + i = off + (k + j) * n + i by rw [Nat.add_mul]; omega];exact this
end
def Aq (l : List ByteArray) : List (List Dat) := l.map fun s => [.one (.string s)]
theorem G9 (l : List ByteArray) : (Aq l).length = l.length := by simp [Aq]
theorem Ac.strs {F : Nat → Prop} {w : World} {a : Option Addr} {l : List ByteArray} (h : Ac F w a (Aq l)) : Ax w a l := by
 intro j x hj;obtain ⟨b, off, cs, ha, hF, hb, hd, hc⟩ := h j [.one (.string x)] (by simp [Aq, hj]);obtain ⟨c, cs', rfl, h1, h2⟩ := hd.cons_inv;obtain rfl := h1.one_inv;exact ⟨b, off, ha, by have := hc 0 _ rfl; simpa using this⟩
mutual
def toDat {H : Type} : DataW H → List Dat
 | .lit (.int q n) => [.one (.int q n)]
 | .lit (.bool b) => [.one (.bool b)]
 | .lit (.string bs) => [.one (.string ⟨bs.toArray⟩)]
 | .nil => [.row []]
 | .slice es _ => [.row (J3 es)]
 | .agg ps => Gc ps
 | _ => []
def J3 {H : Type} : List (DataW H) → List (List Dat)
 | [] => []
 | d :: t => toDat d :: J3 t
def Gc {H : Type} : List (DataW H) → List Dat
 | [] => []
 | d :: t => toDat d ++ Gc t
end
theorem I1 {H : Type} (l : List (DataW H)) : J3 l = l.map toDat := by
 induction l with
 | nil => simp [J3]
 | cons n t ih => simp [J3, ih]
theorem Ah.append {F : Nat → Prop} {w : World} {ds es : List Dat} {cs us : List Value} (h : Ah F w ds cs) (k : Ah F w es us) : Ah F w (ds ++ es) (cs ++ us) := by
 induction ds generalizing cs with
 | nil => rw [h.nil_inv]; exact k
 | cons d t ih =>
  obtain ⟨c, cs', rfl, h1, h2⟩ := h.cons_inv;exact .cons h1 (ih h2)
section
variable {H : Type} {enc : TypeId × Value → H} {P : Program} {W : World}
def offsOk (P : Program) : List Field → Nat → Nat → Bool
 | [], o, n => o == n
 | f :: r, o, n => f.offset == o && offsOk P r (o + P.cellsOf f.type) n
def okT (P : Program) (T : List TypeId) (t : TypeId) : Bool :=
 match P.underlying t with
 | some (.int _) => true
 | some .bool => true
 | some .string => true
 | some (.slice e) => T.contains e && decide (0 < P.cellsOf e)
 | some (.struct fs) => fs.toList.all (fun f => T.contains f.type) && offsOk P fs.toList 0 (P.cellsOf t)
 | _ => false
theorem Qd {α β : Type} {f : α → Option β} : ∀ {l : List α} {r : List β}, l.mapM f = some r → r.length = l.length ∧ ∀ (i : Nat) x, l[i]? = some x → f x = r[i]?
 | [], r, h => by
  simp at h;subst h;exact ⟨rfl, fun i x hx => by simp at hx⟩
 | a :: t, r, h => by
  rw [List.mapM_cons] at h;cases ha : f a with
  | none => rw [ha] at h; simp at h
  | some b =>
   rw [ha] at h;cases ht : t.mapM f with
   | none => rw [ht] at h; simp at h
   | some r' =>
    rw [ht] at h;simp at h;subst h;obtain ⟨h1, h2⟩ := Qd ht;refine ⟨by simp [h1], fun i x hx => ?_⟩;cases i with
    | zero => simp at hx; subst hx; simpa using ha
    | succ i => simpa using h2 i x (by simpa using hx)
theorem Nu {w : World} {a : Addr} {n : Nat} {cs : List Value} (h : w.cells? 0 a n = some cs) : cs.length = n ∧ ∀ (i : Nat) u, cs[i]? = some u → w.cell? (a.add i) = some u := by
 unfold World.cells? at h;rw [if_pos (nlz _)] at h;obtain ⟨h1, h2⟩ := Qd h;rw [List.length_range] at h1;refine ⟨h1, fun i u hu => ?_⟩;have hi := (List.getElem?_eq_some_iff.1 hu).1;have hr : (List.range n)[i]? = some i := List.getElem?_range (by omega);rw [h2 i i hr, hu]
theorem Ov {w : World} {a : Addr} {v : Value} (h : w.cell? a = some v) : a.spot = none := by
 unfold World.cell? at h;split at h
 ·split at h
  ·cases h
  ·rename_i hs; simpa using hs
 ·cases h
theorem J4 {w : World} {a : Addr} {v : Value} (h : w.cell? a = some v) : a.block < w.heap.size := by
 unfold World.cell? at h;split at h
 ·rename_i hb
  exact (Array.getElem?_eq_some_iff.1 hb).1
 ·cases h
theorem Qe {T : List TypeId} (hT : T.all (okT P T) = true) : ∀ (fuel : Nat) (t : TypeId) (cs : List Value) (d : DataW H) (ps : List MemPlace), t ∈ T → DataW.trod enc P W 0 (fun _ => true) true fuel t cs = some (d, ps) → Ah (fun b => b < W.heap.size) W (toDat d) cs := by
 intro fuel
 induction fuel with
 | zero => intro t cs d ps _ h; simp [DataW.trod] at h
 | succ fuel ih =>
  intro t cs d ps ht h;have aB := List.all_eq_true.1 hT t ht;unfold okT at aB;split at aB
  ·rename_i q hu
   obtain ⟨n, rfl, hx, -⟩ := DataW.trod_int hu h;cases hx;rw [toDat];exact .cons (.one _) .nil
  ·rename_i hu
   obtain ⟨n, rfl, hx⟩ := DataW.trod_bool hu h;cases hx;rw [toDat];exact .cons (.one _) .nil
  ·rename_i hu
   obtain ⟨s, rfl, hx, -⟩ := DataW.trod_string hu h;cases hx;rw [toDat];exact .cons (.one _) .nil
  ·rename_i e hu
   simp only [Bool.and_eq_true, decide_eq_true_eq, List.contains_iff_mem] at aB;obtain ⟨he, hsz⟩ := aB;rcases DataW.trod_slice hu h with ⟨rfl, hx⟩ | ⟨a, len, cap, elems, rest, n, hn, rfl, hx, -, hl, hm, hlen, hel, -, -⟩
   ·cases hx;rw [toDat];exact .cons (B4.row_mk (l := []) 0 (Ac.nil none)) .nil
   ·cases hx;cases hn;rw [toDat];have hrl : (J3 (elems.map (·.1))).length = len := (by rw [I1, lnM, lnM, hlen]);refine .cons ?_ .nil;rw [← hrl];refine B4.row_mk cap (fun j ds hj => ?_);rw [I1, lgP, lgP] at hj;cases hej : elems[j]? with
    | none => rw [hej] at hj; cases hj
    | some y =>
     rw [hej] at hj;simp only [Option.map_some, Option.some.injEq] at hj;subst hj;have hjl : j < len := (by rw [← hlen]; exact (List.getElem?_eq_some_iff.1 hej).1);have h1 := hel j hjl;rw [hej] at h1;cases hcs : W.cells? 0 (a.add (j * P.cellsOf e)) (P.cellsOf e) with
     | none => rw [hcs] at h1; cases h1
     | some us =>
      rw [hcs] at h1;have h2 := ih e us y.1 y.2 he h1;obtain ⟨h3, h4⟩ := Nu hcs;have h5 := h4 0 (us[0]'(by omega)) (lgE (by omega));have h0l : 0 < len := (by omega);have aF := hel 0 h0l;have he0 : elems[0]? = some (elems[0]'(by omega)) := lgE _;rw [he0] at aF;obtain ⟨b, off, spot⟩ := a;have hsp : spot = none := by
       cases hc0 : W.cells? 0 ((⟨b, off, spot⟩ : Addr).add (0 * P.cellsOf e)) (P.cellsOf e) with
       | none => rw [hc0] at aF; cases aF
       | some vs =>
        obtain ⟨h30, h40⟩ := Nu hc0;have h50 := h40 0 (vs[0]'(by omega)) (lgE (by omega));have := Ov h50
        simpa [Addr.add] using this
      subst hsp;have aE : ∀ k, (⟨b, off, none⟩ : Addr).add k = ⟨b, off + k, none⟩ := fun k => by unfold Addr.add; split <;> simp_all
      have hbl : b < W.heap.size := by
       have := J4 h5;rw [aE, show ∀ o k, (⟨b, o, none⟩ : Addr).add k = ⟨b, o + k, none⟩ from fun o k => by unfold Addr.add; split <;> simp_all] at this
       exact this
      refine ⟨b, off, us, rfl, hbl, hbl, h2, fun i u hu => ?_⟩;have h6 := h4 i u hu;rw [aE, show ∀ o k, (⟨b, o, none⟩ : Addr).add k = ⟨b, o + k, none⟩ from fun o k => by unfold Addr.add; split <;> simp_all] at h6
      rw [← h2.1, h3];exact h6
  ·rename_i fs hu
   simp only [Bool.and_eq_true] at aB;obtain ⟨aG, aH⟩ := aB;obtain ⟨xs, n, hn, hx, hl, hxl, hf⟩ := DataW.trod_struct hu h;cases hx;cases hn;rw [toDat];have key : ∀ (fl : List Field) (ys : List (DataW H × List MemPlace)) (o : Nat), ys.length = fl.length → fl.all (fun f => T.contains f.type) = true → offsOk P fl o (P.cellsOf t) = true →
     (∀ (i : Nat) f, fl[i]? = some f → DataW.trod enc P W 0 (fun _ => true) true fuel f.type ((cs.drop f.offset).take (P.cellsOf f.type)) = ys[i]?) → o ≤ cs.length → Ah (fun b => b < W.heap.size) W (Gc (ys.map (·.1))) (cs.drop o) := by
    intro fl
    induction fl with
    | nil =>
     intro ys o hy _ ho _ hle;have : ys = [] := List.length_eq_zero_iff.1 hy;subst this;simp only [offsOk, beq_iff_eq] at ho;rw [List.drop_of_length_le (by omega)];simp only [List.map_nil, Gc];exact .nil
    | cons f r ih2 =>
     intro ys o hy ha ho hg hle;cases ys with
     | nil => simp at hy
     | cons y yr =>
      simp only [offsOk, Bool.and_eq_true, beq_iff_eq] at ho;obtain ⟨ho1, aJ⟩ := ho;simp only [List.all_cons, Bool.and_eq_true, List.contains_iff_mem] at ha;have h1 := hg 0 f rfl;rw [ho1] at h1;have h2 := ih f.type _ y.1 y.2 ha.1 h1;have hsz : ((cs.drop o).take (P.cellsOf f.type)).length = (toDat y.1).length := h2.1;have aI : o + P.cellsOf f.type ≤ cs.length := by
       have mono : ∀ (l : List Field) (o n : Nat), offsOk P l o n = true → o ≤ n := by
        intro l
        induction l with
        | nil => intro o n h; simp only [offsOk, beq_iff_eq] at h; omega
        | cons g r ih3 =>
         intro o n h;simp only [offsOk, Bool.and_eq_true, beq_iff_eq] at h;have := ih3 _ _ h.2;omega
       have := mono _ _ _ aJ;omega
      have h3 := ih2 yr (o + P.cellsOf f.type) (by simpa using hy) ha.2 aJ (fun i g hgi => by simpa using hg (i + 1) g (by simpa using hgi)) aI;have aC : cs.drop o = (cs.drop o).take (P.cellsOf f.type) ++ cs.drop (o + P.cellsOf f.type) := by
       rw [← List.drop_drop, List.take_append_drop]
      rw [aC, List.map_cons, Gc];exact h2.append h3
   have := key fs.toList xs 0 (by simpa using hxl) aG aH (fun i f hfi => hf i f (by simpa using hfi)) (nlz _)
   simpa using this
  ·cases aB
end
inductive Vl where
 | mk (kind n : Int) (s : ByteArray) (l : List Vl) (ks : List ByteArray)
namespace Vl
def kind : Vl → Int | .mk k _ _ _ _ => k
def num : Vl → Int | .mk _ n _ _ _ => n
def str : Vl → ByteArray | .mk _ _ s _ _ => s
def items : Vl → List Vl | .mk _ _ _ l _ => l
def keys : Vl → List ByteArray | .mk _ _ _ _ ks => ks
end Vl
def vZero : Vl := .mk 0 0 ⟨#[]⟩ [] []
mutual
def valD : Vl → List Dat
 | .mk k n s l ks => [.one (.int .i64 k), .one (.int .i64 n), .one (.string s), .row (valsD l), .row (Aq ks)]
def valsD : List Vl → List (List Dat)
 | [] => []
 | v :: t => valD v :: valsD t
end
theorem Cb (l : List Vl) : valsD l = l.map valD := by
 induction l with
 | nil => simp [valsD]
 | cons n t ih => simp [valsD, ih]
theorem Az (l : List Vl) : (valsD l).length = l.length := by rw [Cb, lnM]
theorem Ej (l m : List Vl) : valsD (l ++ m) = valsD l ++ valsD m := by rw [Cb, Cb, Cb, List.map_append]
theorem valD_len (v : Vl) : (valD v).length = 5 := by obtain ⟨k, n, s, l, ks⟩ := v; rfl
section
variable {F : Nat → Prop} {w : World}
theorem Ah.val {k n : Int} {s : ByteArray} {l : List Vl} {ks : List ByteArray} {cs : List Value} (h : Ah F w (valD (.mk k n s l ks)) cs) :
  ∃ a c a' c', cs = [.int .i64 k, .int .i64 n, .string s, .slice a l.length c, .slice a' ks.length c'] ∧ Ac F w a (valsD l) ∧ Ac F w a' (Aq ks) := by
 rw [valD] at h;obtain ⟨c0, cs, rfl, h0, h⟩ := h.cons_inv;obtain ⟨c1, cs, rfl, h1, h⟩ := h.cons_inv;obtain ⟨c2, cs, rfl, h2, h⟩ := h.cons_inv;obtain ⟨c3, cs, rfl, h3, h⟩ := h.cons_inv;obtain ⟨c4, cs, rfl, h4, h⟩ := h.cons_inv;obtain rfl := h.nil_inv;obtain rfl := h0.one_inv;obtain rfl := h1.one_inv;obtain rfl := h2.one_inv;obtain ⟨a, cap, rfl, hr⟩ := h3.row_inv;obtain ⟨a', cap', rfl, hr'⟩ := h4.row_inv;exact ⟨a, cap, a', cap', by rw [Az, G9], hr, hr'⟩
theorem Ah.val_mk (k n : Int) (s : ByteArray) {l : List Vl} {ks : List ByteArray} {a a' : Option Addr} (c c' : Nat) (h : Ac F w a (valsD l)) (h' : Ac F w a' (Aq ks)) :
  Ah F w (valD (.mk k n s l ks)) [.int .i64 k, .int .i64 n, .string s, .slice a l.length c, .slice a' ks.length c'] := by
 rw [valD];exact .cons (.one _) (.cons (.one _) (.cons (.one _) (.cons (by rw [← Az l]; exact B4.row_mk c h) (.cons (by rw [← G9 ks]; exact B4.row_mk c' h') .nil))))
theorem Ac.val {a : Option Addr} {l : List Vl} (h : Ac F w a (valsD l)) {j : Nat} {k n : Int} {s : ByteArray} {m : List Vl} {ks : List ByteArray} (hj : l[j]? = some (.mk k n s m ks)) :
  ∃ b off a1 c1 a2 c2, a = some ⟨b, off, none⟩ ∧ F b ∧ b < w.heap.size ∧ w.cell? ⟨b, off + j * 5, none⟩ = some (.int .i64 k) ∧ w.cell? ⟨b, off + j * 5 + 1, none⟩ = some (.int .i64 n) ∧ w.cell? ⟨b, off + j * 5 + 2, none⟩ = some (.string s) ∧
   w.cell? ⟨b, off + j * 5 + 3, none⟩ = some (.slice a1 m.length c1) ∧ w.cell? ⟨b, off + j * 5 + 4, none⟩ = some (.slice a2 ks.length c2) ∧ Ac F w a1 (valsD m) ∧ Ac F w a2 (Aq ks) := by
 obtain ⟨b, off, cs, ha, hF, hb, hd, hc⟩ := h j (valD (.mk k n s m ks)) (by rw [Cb, lgP, hj]; rfl);obtain ⟨a1, c1, a2, c2, rfl, hr, hr'⟩ := hd.val;rw [valD_len] at hc;exact ⟨b, off, a1, c1, a2, c2, ha, hF, hb, hc 0 _ rfl, hc 1 _ rfl, hc 2 _ rfl, hc 3 _ rfl, hc 4 _ rfl, hr, hr'⟩
end
def risesGo : Option ByteArray → List ByteArray → Bool
 | _, [] => true
 | p, s :: t => decide (s.size ≤ 65536) && (match p with | none => true | some q => Op.bytesLess q.toList s.toList) && risesGo (some s) t
def risesL (l : List ByteArray) : Bool := risesGo none l && decide (l.length ≤ 1000)
def inR (n : Int) : Bool := decide (-9223372036854775808 ≤ n) && decide (n ≤ 9223372036854775807)
def nodeOk (k n : Int) (s : ByteArray) (l : List Vl) (ks : List ByteArray) : Bool :=
 if k = 0 then n == 0 && s.toList.isEmpty && l.isEmpty && ks.isEmpty
 else if k = 1 then (n == 0 || n == 1) && s.toList.isEmpty && l.isEmpty && ks.isEmpty
 else if k = 2 then inR n && s.toList.isEmpty && l.isEmpty && ks.isEmpty
 else if k = 3 then n == 0 && decide (s.size ≤ 65536) && l.isEmpty && ks.isEmpty
 else if k = 4 then n == 0 && s.toList.isEmpty && decide (l.length ≤ 1000) && ks.isEmpty
 else if k = 5 then n == 0 && s.toList.isEmpty && l.length == ks.length && risesL ks
 else false
mutual
def mayV : Vl → Int → Int → Bool × Int
 | .mk k n s l ks, d, m => if 60 < d ∨ m - 1 < 0 then (false, m - 1) else if nodeOk k n s l ks = true then mayVs l (d + 1) (m - 1) else (false, m - 1)
def mayVs : List Vl → Int → Int → Bool × Int
 | [], _, m => (true, m)
 | v :: t, d, m => if (mayV v d m).1 = true then mayVs t d (mayV v d m).2 else (false, (mayV v d m).2)
end
def checkV (v : Vl) : Bool := (mayV v 1 20000).1
mutual
def sameV : Vl → Vl → Bool
 | .mk k n s l ks, .mk k' n' s' l' ks' => k == k' && n == n' && s.toList == s'.toList && ks.map (·.toList) == ks'.map (·.toList) && sameVs l l'
def sameVs : List Vl → List Vl → Bool
 | [], [] => true
 | v :: t, v' :: t' => sameV v v' && sameVs t t'
 | _, _ => false
end
def truthV (v : Vl) : Bool := checkV v && (v.num != 0 || !v.str.toList.isEmpty || !v.items.isEmpty)
theorem valsD_all {p : List Dat → Prop} (hp : ∀ v, p (valD v)) (l : List Vl) : ∀ ds ∈ valsD l, p ds := by
 rw [Cb];intro ds h;obtain ⟨v, -, rfl⟩ := List.mem_map.1 h;exact hp v
def vCells (k n : Int) (s : ByteArray) (a1 : Option Addr) (l1 c1 : Nat) (a2 : Option Addr) (l2 c2 : Nat) : Value := .agg #[.int .i64 k, .int .i64 n, .string s, .slice a1 l1 c1, .slice a2 l2 c2]
theorem L1 (F : Nat → Prop) (g : FuncId) (fa lb : Array Value) (eg : ∀ args w, (callFunc g args).run Tryz.prog w = .ok (.enter g args) w) (a : Option Addr) (cap : Nat) (l : List Vl) (q : Nat → Bool) (I : Nat → World → Prop) (w : World)
  (hl : l.length ≤ 9223372036854775807) (h0 : I 0 w) (hI : ∀ k w', I k w' → Ac F w' a (valsD l))
  (hg : ∀ k kk n s m ks a1 c1 a2 c2 w1, l[k]? = some (.mk kk n s m ks) → I k w1 → (∀ j, j < k → q j = false) → Ac F w1 a1 (valsD m) → Ac F w1 a2 (Aq ks) →
   Calls Tryz.prog g ((fa ++ #[vCells kk n s a1 m.length c1 a2 ks.length c2]) ++ lb) w1 fun e w2 => e = .returned (.bool (q k)) ∧ I (k + 1) w2) :
  Calls Tryz.prog 187 #[.slice a l.length cap, .func (.func g) fa lb] w (Found q l.length I) := by
 go_enter Tryz.func187, Tryz.ntmps187;go_wp2
 go_loopw [8] (fun i wr => ∃ k : Nat, i = .int .i64 k ∧ k ≤ l.length ∧ I k wr ∧ ∀ j, j < k → q j = false) (fun i _ => l.length - (intOf i).toNat)
 case atStart => exact ⟨0, rfl, nlz _, h0, fun j h => absurd h (Nat.not_lt_zero _)⟩
 case round =>
  obtain ⟨k, rfl, hk, aF, hq⟩ := hrel;by_cases hlt : k < l.length
  ·cases hx : l[k] with
   | mk kk n s m ks =>
    have hj : l[k]? = some (.mk kk n s m ks) := (by rw [lgE hlt, hx]);obtain ⟨b, off, a1, c1, a2, c2, rfl, hF, hbl, r0, r1, r2, r3, r4, aG, aH⟩ := (hI k wr aF).val hj;have aB := hg k _ _ _ _ _ a1 c1 a2 c2 wr hj aF hq aG aH;unfold vCells at aB;have HC := Lq7 aB;clear aB hx hj aG aH;cases hqk : q k
    ·have aE := Lq7 hqk;clear hqk;have Hq := Lq7 hq;clear hq;go_wp2_with fail;refine HC.out.mono ?_;rintro e w2 ⟨rfl, aC⟩;rw [aE.out];clear r0 r1 r2 r3 r4;go_wp2;go_roundw
     case rel => exact ⟨k + 1, by go_num, by omega, aC, fun j hj => by by_cases h : j = k; (rw [h]; exact aE.out); exact Hq.out j (by omega)⟩
     case measure => simp only [intOf]; omega
    ·have aE := Lq7 hqk;clear hqk;have Hq := Lq7 hq;clear hq;go_wp2_with fail;refine HC.out.mono ?_;rintro e w2 ⟨rfl, aC⟩;rw [aE.out];clear r0 r1 r2 r3 r4;go_wp2;go_ret;exact .inl ⟨k, hlt, aE.out, Hq.out, rfl, aC⟩
  ·obtain rfl : k = l.length := (by omega);have Hq := Lq7 hq;clear hq;go_wp2;go_ret;exact .inr ⟨Hq.out, rfl, aF⟩
theorem Jb (F : Nat → Prop) (g : FuncId) (fa lb : Array Value) (eg : ∀ args w, (callFunc g args).run Tryz.prog w = .ok (.enter g args) w) (a : Option Addr) (cap : Nat) (l : List Vl) (q : Nat → Bool) (I : Nat → World → Prop) (w : World)
  (hl : l.length ≤ 9223372036854775807) (h0 : I 0 w) (hI : ∀ k w', I k w' → Ac F w' a (valsD l))
  (hg : ∀ k kk n s m ks a1 c1 a2 c2 w1, l[k]? = some (.mk kk n s m ks) → I k w1 → (∀ j, j < k → q j = false) → Ac F w1 a1 (valsD m) → Ac F w1 a2 (Aq ks) →
   Calls Tryz.prog g ((fa ++ #[vCells kk n s a1 m.length c1 a2 ks.length c2]) ++ lb) w1 fun e w2 => e = .returned (.bool (q k)) ∧ I (k + 1) w2) :
  Calls Tryz.prog 168 #[.slice a l.length cap, .func (.func g) fa lb] w (FoundB q l.length I) := by
 go_enter Tryz.func168, Tryz.ntmps168;go_wp2_with fail;refine (L1 F g fa lb eg a cap l q I w hl h0 hI hg).mono ?_;rintro e w2 (⟨i, hi, aI, hq, rfl, aC⟩ | ⟨hq, rfl, aC⟩)
 ·have Hq := Lq7 hq;clear hq;have Hqi := Lq7 aI;clear aI;go_wp2;go_ret;exact .inl ⟨i, hi, Hqi.out, Hq.out, rfl, aC⟩
 ·have Hq := Lq7 hq;clear hq;go_wp2;go_ret;exact .inr ⟨Hq.out, rfl, aC⟩
mutual
theorem Fp (v : Vl) (d m : Int) (hm : 0 ≤ m) : -1 ≤ (mayV v d m).2 ∧ (mayV v d m).2 ≤ m - 1 ∧ ((mayV v d m).1 = true → 0 ≤ (mayV v d m).2) := by
 obtain ⟨k, n, s, l, ks⟩ := v;rw [mayV];split
 ·exact ⟨by simp; omega, by simp, fun h => by cases h⟩
 ·split
  ·obtain ⟨h1, h2, h3⟩ := L7 l (d + 1) (m - 1) (by omega);exact ⟨h1, h2, h3⟩
  ·exact ⟨by simp; omega, by simp, fun h => by cases h⟩
theorem L7 (l : List Vl) (d m : Int) (hm : 0 ≤ m) : -1 ≤ (mayVs l d m).2 ∧ (mayVs l d m).2 ≤ m ∧ ((mayVs l d m).1 = true → 0 ≤ (mayVs l d m).2) := by
 cases l with
 | nil => rw [mayVs]; exact ⟨by simp; omega, by simp, fun _ => hm⟩
 | cons v t =>
  rw [mayVs];obtain ⟨h1, h2, h3⟩ := Fp v d m hm;split
  ·rename_i h
   obtain ⟨h4, h5, h6⟩ := L7 t d (mayV v d m).2 (h3 h);exact ⟨h4, by omega, h6⟩
  ·exact ⟨h1, by simp; omega, fun h => by cases h⟩
end
def Ce (d : Int) : List Vl → Int → Nat → Int
 | [], m, _ => m
 | _ :: _, m, 0 => m
 | v :: t, m, k + 1 => Ce d t (mayV v d m).2 k
theorem Cn (d : Int) (l : List Vl) (m : Int) : Ce d l m 0 = m := by cases l <;> rfl
theorem Kn (d : Int) : ∀ (l : List Vl) (m : Int) (k : Nat) (v : Vl), l[k]? = some v → Ce d l m (k + 1) = (mayV v d (Ce d l m k)).2
 | [], _, _, _, h => by simp at h
 | x :: t, m, 0, v, h => by simp at h; subst h; show Ce d t (mayV x d m).2 0 = (mayV x d m).2; exact Cn d t _
 | x :: t, m, k + 1, v, h => by
  rw [Ce, Kn d t _ k v (by simpa using h)];rfl
def mayQ (d : Int) (l : List Vl) (m : Int) (k : Nat) : Bool := match l[k]? with | some v => !(mayV v d (Ce d l m k)).1 | none => false
theorem J2 (d : Int) (v : Vl) (t : List Vl) (m : Int) (k : Nat) : mayQ d (v :: t) m (k + 1) = mayQ d t (mayV v d m).2 k := rfl
theorem Np (d : Int) : ∀ (l : List Vl) (m : Int), (∀ j, j < l.length → mayQ d l m j = false) → mayVs l d m = (true, Ce d l m l.length)
 | [], m, _ => rfl
 | v :: t, m, h => by
  have h0 := h 0 (by simp);have hv : (mayV v d m).1 = true := (by simpa [mayQ, Cn] using h0);rw [mayVs, if_pos hv, Np d t _ (fun j hj => by rw [← J2]; exact h (j + 1) (by simp; omega))];rfl
theorem Nq (d : Int) : ∀ (l : List Vl) (m : Int) (i : Nat), i < l.length → mayQ d l m i = true → (∀ j, j < i → mayQ d l m j = false) → mayVs l d m = (false, Ce d l m (i + 1))
 | [], _, _, h, _, _ => by simp at h
 | v :: t, m, 0, _, h, _ => by
  have hv : (mayV v d m).1 = false := (by simpa [mayQ, Cn] using h);rw [mayVs, if_neg (by simp [hv]), Ce, Cn]
 | v :: t, m, i + 1, hi, h, hj => by
  have h0 := hj 0 (by omega);have hv : (mayV v d m).1 = true := (by simpa [mayQ, Cn] using h0);rw [mayVs, if_pos hv, Nq d t _ i (by simpa using hi) h (fun j hj' => by rw [← J2]; exact hj (j + 1) (by omega))];rfl
theorem Nr (d : Int) : ∀ (l : List Vl) (m : Int) (k : Nat), 0 ≤ m → (∀ j, j < k → j < l.length → mayQ d l m j = false) → 0 ≤ Ce d l m k ∧ Ce d l m k ≤ m
 | [], m, _, hm, _ => ⟨hm, Int.le_refl _⟩
 | _ :: _, m, 0, hm, _ => ⟨hm, Int.le_refl _⟩
 | v :: t, m, k + 1, hm, h => by
  have h0 := h 0 (by omega) (by simp);have hv : (mayV v d m).1 = true := (by simpa [mayQ, Cn] using h0);obtain ⟨h1, h2, h3⟩ := Fp v d m hm;obtain ⟨h4, h5⟩ := Nr d t (mayV v d m).2 k (h3 hv) (fun j hj hl => by rw [← J2]; exact h (j + 1) (by omega) (by simp; omega));exact ⟨h4, by rw [Ce]; omega⟩
theorem Eg (p : Option ByteArray) (s : ByteArray) (t : List ByteArray) : risesGo p (s :: t) = (decide (s.size ≤ 65536) && (match p with | none => true | some q => Op.bytesLess q.toList s.toList) && risesGo (some s) t) := by cases p <;> rfl
def G5 (ks : List ByteArray) (k : Nat) : Option ByteArray := if k = 0 then none else ks[k - 1]?
theorem Vn (a : Option Addr) (cap : Nat) (ks : List ByteArray) (w : World) (hr : Ax w a ks) (hl : ks.length ≤ 140737488355328) (hsz : ∀ s ∈ ks, s.size ≤ 9223372036854775807) :
  Calls Tryz.prog 167 #[.slice a ks.length cap] w (fun e w' => e = .returned (.bool (risesL ks)) ∧ w = w') := by
 have Hr := Lq7 hr;have Hsz := Lq7 hsz;clear hr hsz;go_enter Tryz.func167, Tryz.ntmps167;go_wp2
 go_loop [7] (fun i => ∃ k : Nat, i = .int .i64 k ∧ k ≤ ks.length ∧ Hid (risesGo none ks = risesGo (G5 ks k) (ks.drop k))) (fun i => ks.length - (intOf i).toNat)
 case atStart => exact ⟨0, rfl, nlz _, Lq7 rfl⟩
 case round =>
  obtain ⟨k, rfl, hk, aC⟩ := hrel;by_cases hlt : k < ks.length
  ·obtain ⟨b, off, rfl, hc⟩ := Hr.out.at hlt;have hs0 := Hsz.out _ (List.getElem_mem hlt);have hd : ks.drop k = ks[k] :: ks.drop (k + 1) := List.drop_eq_getElem_cons hlt;have aB : Hid (risesGo none ks = (decide (ks[k].size ≤ 65536) && (match G5 ks k with | none => true | some q => Op.bytesLess q.toList ks[k].toList) && risesGo (some ks[k]) (ks.drop (k + 1)))) := Lq7 (by rw [aC.out, hd, Eg]);have Hp : Hid (G5 ks (k + 1) = some ks[k]) := Lq7 (by unfold G5; rw [if_neg (by omega), Nat.add_sub_cancel]; exact lgE hlt);clear aC hd;by_cases hbig : (65536 : Int) < ks[k].size
   ·have Hf : Hid (risesL ks = false) := Lq7 (by unfold risesL; rw [aB.out, decide_eq_false (by omega)]; rfl);go_wp2;go_ret;exact ⟨Ar Hf.out.symm, rfl⟩
   ·have aE : Hid (decide (ks[k].size ≤ 65536) = true) := Lq7 (decide_eq_true (by omega));cases k with
    | zero =>
     have Hn : Hid (risesGo none ks = risesGo (G5 ks (0 + 1)) (ks.drop (0 + 1))) := Lq7 (by rw [aB.out, aE.out, Hp.out]; rfl);rw [naz] at hc;go_wp2;go_round
     case rel => exact ⟨0 + 1, by go_num, by omega, Hn⟩
     case measure => simp [intOf]; omega
    | succ j =>
     obtain ⟨b', off', hb', hc'⟩ := Hr.out.at (k := j) (by omega);cases hb';have Hq : Hid (G5 ks (j + 1) = some ks[j]) := Lq7 (by unfold G5; rw [if_neg (by omega), Nat.add_sub_cancel]; exact lgE _);have hjn : ((j + 1 : Nat) : Int) - 1 = (j : Int) := (by omega);cases hless : Op.bytesLess ks[j].toList ks[j + 1].toList
     ·have Hf : Hid (risesL ks = false) := Lq7 (by unfold risesL; rw [aB.out, aE.out, Hq.out]; simp only [hless, Bool.and_false, Bool.false_and]);go_wp2;go_ret;exact ⟨Ar Hf.out.symm, rfl⟩
     ·have Hn : Hid (risesGo none ks = risesGo (G5 ks (j + 1 + 1)) (ks.drop (j + 1 + 1))) := Lq7 (by rw [aB.out, aE.out, Hq.out, Hp.out]; simp only [hless, Bool.true_and]);go_wp2;go_round
      case rel => exact ⟨j + 1 + 1, by go_num, by omega, Hn⟩
      case measure => simp [intOf]; omega
  ·have Hf : Hid (risesL ks = decide (ks.length ≤ 1000)) := Lq7 (by unfold risesL; rw [aC.out, List.drop_eq_nil_of_le (by omega)]; rfl);go_wp2;go_ret;refine ⟨Ar ?_, rfl⟩;rw [Hf.out, Bool.eq_iff_iff, decide_eq_true_eq, decide_eq_true_eq];omega
theorem infoVal : (Tryz.prog.info? 31).map (fun i => (i.zero, i.size, i.bytes)) = some (some (.agg #[.int .i64 0, .int .i64 0, .string ByteArray.empty, .slice none 0 0, .slice none 0 0]), 5, 80) := by kernel_rfl
def D8 (q : ByteArray × Vl) : List Dat := .one (.string q.1) :: valD q.2
def Aw (l : List (ByteArray × Vl)) : List (List Dat) := l.map D8
theorem R5 (q : ByteArray × Vl) : (D8 q).length = 6 := by simp [D8, valD_len]
theorem Gz (l : List (ByteArray × Vl)) : (Aw l).length = l.length := by simp [Aw]
theorem G0 (l m : List (ByteArray × Vl)) : Aw (l ++ m) = Aw l ++ Aw m := by simp [Aw]
section
variable {F : Nat → Prop} {w : World}
theorem Ah.named {nm : ByteArray} {k n : Int} {s : ByteArray} {l : List Vl} {ks : List ByteArray} {cs : List Value} (h : Ah F w (D8 (nm, .mk k n s l ks)) cs) :
  ∃ a c a' c', cs = [.string nm, .int .i64 k, .int .i64 n, .string s, .slice a l.length c, .slice a' ks.length c'] ∧ Ac F w a (valsD l) ∧ Ac F w a' (Aq ks) := by
 obtain ⟨c0, cs', rfl, h0, h'⟩ := Ah.cons_inv (d := .one (.string nm)) (ds := valD (.mk k n s l ks)) h;obtain rfl := h0.one_inv;obtain ⟨a, c, a', c', rfl, h1, h2⟩ := Ah.val h';exact ⟨a, c, a', c', rfl, h1, h2⟩
theorem Ah.named_mk (nm : ByteArray) (k n : Int) (s : ByteArray) {l : List Vl} {ks : List ByteArray} {a a' : Option Addr} (c c' : Nat) (h : Ac F w a (valsD l)) (h' : Ac F w a' (Aq ks)) :
  Ah F w (D8 (nm, .mk k n s l ks)) [.string nm, .int .i64 k, .int .i64 n, .string s, .slice a l.length c, .slice a' ks.length c'] :=
 .cons (.one _) (Ah.val_mk k n s c c' h h')
theorem Ac.named {a : Option Addr} {l : List (ByteArray × Vl)} (h : Ac F w a (Aw l)) {j : Nat} {nm : ByteArray} {k n : Int} {s : ByteArray} {m : List Vl} {ks : List ByteArray} (hj : l[j]? = some (nm, .mk k n s m ks)) :
  ∃ b off a1 c1 a2 c2, a = some ⟨b, off, none⟩ ∧ F b ∧ b < w.heap.size ∧ w.cell? ⟨b, off + j * 6, none⟩ = some (.string nm) ∧ w.cell? ⟨b, off + j * 6 + 1, none⟩ = some (.int .i64 k) ∧ w.cell? ⟨b, off + j * 6 + 2, none⟩ = some (.int .i64 n) ∧ w.cell? ⟨b, off + j * 6 + 3, none⟩ = some (.string s) ∧
   w.cell? ⟨b, off + j * 6 + 4, none⟩ = some (.slice a1 m.length c1) ∧ w.cell? ⟨b, off + j * 6 + 5, none⟩ = some (.slice a2 ks.length c2) ∧ Ac F w a1 (valsD m) ∧ Ac F w a2 (Aq ks) := by
 obtain ⟨b, off, cs, ha, hF, hb, hd, hc⟩ := h j (D8 (nm, .mk k n s m ks)) (by rw [Aw, lgP, hj]; rfl);obtain ⟨a1, c1, a2, c2, rfl, hr, hr'⟩ := Ah.named hd;rw [R5] at hc;exact ⟨b, off, a1, c1, a2, c2, ha, hF, hb, hc 0 _ rfl, hc 1 _ rfl, hc 2 _ rfl, hc 3 _ rfl, hc 4 _ rfl, hc 5 _ rfl, hr, hr'⟩
end
inductive Nd where
 | mk (kind : Int) (text : ByteArray) (line col : Int) (kids : List Nd)
def Nd.kids : Nd → List Nd | .mk _ _ _ _ l => l
def Nd.text : Nd → ByteArray | .mk _ t _ _ _ => t
def Nd.kind : Nd → Int | .mk k _ _ _ _ => k
inductive PR (α : Type) where
 | ok (x : α) (ts : List Tok) (dp : Int)
 | err (e l c : Int)
 | out
def PM (α : Type) := List Tok → Int → PR α
namespace PM
def pure {α : Type} (x : α) : PM α := fun ts d => .ok x ts d
def bind {α β : Type} (m : PM α) (f : α → PM β) : PM β := fun ts d => match m ts d with | .ok x ts' d' => f x ts' d' | .err a b c => .err a b c | .out => .out
def no {α : Type} : PM α := fun _ _ => .out
end PM
abbrev bs (l : List UInt8) : ByteArray := ⟨l.toArray⟩
section
variable (en : Int × Int)
def tokAt (ts : List Tok) (n : Nat) : Tok := (ts[n]?).getD ⟨0, ⟨#[]⟩, en.1, en.2⟩
def isSign (ts : List Tok) (n : Nat) (s : List UInt8) : Bool := (tokAt en ts n).kind == 4 && (tokAt en ts n).text.data.toList == s
def A4 (ts : List Tok) (s : List UInt8) : Bool := (tokAt en ts 0).kind == 1 && (tokAt en ts 0).text.data.toList == s
def reservedL : List (List UInt8) := [[102, 111, 114], [105, 110], [105, 102], [101, 108, 115, 101], [114, 117, 108, 101], [110, 111, 116]]
def typesL : List (List UInt8) := [[116, 101, 120, 116], [98, 111, 111, 108], [105, 110, 116], [116, 101, 120, 116, 115], [102, 105, 108, 101, 115], [108, 97, 98, 101, 108, 115]]
def Bd (ts : List Tok) : Bool := (tokAt en ts 0).kind == 1 && !reservedL.contains (tokAt en ts 0).text.data.toList
def pFail {α : Type} (e : Int) : PM α := fun ts _ => .err e (tokAt en ts 0).line (tokAt en ts 0).col
def A5 (is : Bool) : PM Tok := fun ts d => if is then (match ts with | [] => .out | t :: r => .ok t r d) else pFail en 3 ts d
def Ex (s : List UInt8) : PM Unit := fun ts d => PM.bind (A5 en (isSign en ts 0 s)) (fun _ => PM.pure ()) ts d
def Ev (is : Bool) : PM Tok := fun ts d => if is && decide (60 ≤ d) then pFail en 6 ts d else A5 en is ts (d + 1)
def pDown : PM Unit := fun ts d => .ok () ts (d - 1)
def Dw (s : List UInt8) : PM Unit := PM.bind (Ex en s) fun _ => pDown
def Cr {α : Type} (f : List Tok → PM α) : PM α := fun ts d => f ts ts d
def Br (kind : Int) (t : Tok) (text : ByteArray) (kids : List Nd) : Nd := .mk kind text t.line t.col kids
def Dl (to : List UInt8) (one : PM (List Nd)) : Nat → List Nd → PM (List Nd)
 | 0, _ => fun _ _ => .out
 | f + 1, acc => Cr fun ts =>
  if isSign en ts 0 to then PM.pure acc
  else PM.bind (if acc = [] then PM.pure () else Ex en [44]) fun _ => PM.bind one fun l => Dl to one f (acc ++ l)
def Dt (to : List UInt8) (one : PM (List Nd)) : PM (List Nd) := fun ts d => Dl en to one (ts.length + 1) [] ts d
structure Lvl where
 expr : PM Nd
 prim : PM Nd
 stmt : PM Nd
variable (L : Lvl)
def pArg : PM Nd := (fun (_ : (Int × Int) × Lvl) => (fun _ _ => .out : PM Nd)) (en, L)
def pCall : PM Nd := (fun (_ : (Int × Int) × Lvl) => (fun _ _ => .out : PM Nd)) (en, L)
def pEntry : PM (List Nd) := (fun (_ : (Int × Int) × Lvl) => (fun _ _ => .out : PM (List Nd))) (en, L)
def pPrim : PM Nd := Cr fun ts =>
 let t := tokAt en ts 0
 if t.kind == 3 then PM.no
 else if t.kind == 2 then PM.bind (A5 en true) fun _ => PM.pure (Br 10 t t.text [])
 else if Bd en ts && isSign en ts 1 [40] then PM.no
 else if Bd en ts then PM.bind (A5 en true) fun _ => PM.pure (Br 9 t t.text [])
 else if A4 en ts [110, 111, 116] then PM.no
 else if isSign en ts 0 [91] then
  PM.bind (Ev en true) fun _ => PM.bind (Dt en [93] (PM.bind L.expr fun x => PM.pure [x])) fun l => PM.bind (Dw en [93]) fun _ => PM.pure (Br 12 t ⟨#[]⟩ l)
 else if isSign en ts 0 [123] then PM.no
 else PM.no
def pSumGo : Nat → Nd → PM Nd
 | 0, _ => fun _ _ => .out
 | f + 1, x => Cr fun ts =>
  if isSign en ts 0 [43] then PM.bind (A5 en true) fun t => PM.bind (pPrim en L) fun y => pSumGo f (Br 16 t (bs [43]) [x, y])
  else PM.pure x
def pSum : PM Nd := PM.bind (pPrim en L) fun x ts d => pSumGo en L (ts.length + 1) x ts d
def pExpr : PM Nd := PM.bind (pSum en L) fun x => Cr fun ts =>
 if isSign en ts 0 [61, 61] || isSign en ts 0 [33, 61] || A4 en ts [105, 110] then
  PM.no
 else PM.pure x
def Cs (to : List UInt8) : Nat → List Nd → PM (List Nd)
 | 0, _ => fun _ _ => .out
 | f + 1, acc => Cr fun ts =>
  if !ts.isEmpty && (to.isEmpty || !isSign en ts 0 to) then PM.bind L.stmt fun x => Cs to f (acc ++ [x])
  else PM.pure acc
def Ct (to : List UInt8) : PM (List Nd) := fun ts d => Cs en L to (ts.length + 1) [] ts d
def pBlock : PM Nd := Cr fun ts =>
 PM.bind (Ev en (isSign en ts 0 [123])) fun t => PM.bind (Ct en L [125]) fun l => PM.bind (Dw en [125]) fun _ => PM.pure (Br 8 t ⟨#[]⟩ l)
def pParam : PM Nd := (fun (_ : (Int × Int) × Lvl) => (fun _ _ => .out : PM Nd)) (en, L)
def pRule : PM Nd := (fun (_ : (Int × Int) × Lvl) => (fun _ _ => .out : PM Nd)) (en, L)
def pStmt : PM Nd := Cr fun ts =>
 let t := tokAt en ts 0
 if A4 en ts [102, 111, 114] then
  PM.bind (A5 en true) fun _ => Cr fun ts => PM.bind (A5 en (Bd en ts)) fun name => Cr fun ts => PM.bind (A5 en (A4 en ts [105, 110])) fun _ =>
  PM.bind (pExpr en L) fun x => PM.bind (pBlock en L) fun b => PM.pure (Br 4 t name.text [x, b])
 else if A4 en ts [105, 102] then PM.no
 else if A4 en ts [114, 117, 108, 101] then pRule en L
 else if Bd en ts && isSign en ts 1 [40] then PM.no
 else PM.bind (A5 en (Bd en ts)) fun name => PM.bind (Ex en [61]) fun _ => PM.bind (pExpr en L) fun x => PM.bind (Ex en [59]) fun _ => PM.pure (Br 2 t name.text [x])
def lvl : Nat → Lvl
 | 0 => ⟨fun _ _ => .out, fun _ _ => .out, fun _ _ => .out⟩
 | f + 1 => ⟨pExpr en (lvl f), pPrim en (lvl f), pStmt en (lvl f)⟩
end
def endL (l : List UInt8) : Int × Int := l.foldl (fun p c => if c = 10 then (p.1 + 1, 1) else (p.1, p.2 + 1)) (1, 1)
def Gp (l : List UInt8) : Option (Except (Int × Int × Int) Nd) :=
 match Iz l with
 | .error e => some (.error e)
 | .ok ts =>
  match Ct (endL l) (lvl (endL l) (ts.length + 2)) [] ts 0 with
  | .ok x _ _ => some (.ok (.mk 1 ⟨#[]⟩ 1 1 x))
  | .err e a b => some (.error (e, a, b))
  | .out => none
section
variable {P : Program} {w : World}
theorem Jg (base : Nat) (t ty e : TypeId) (i : TypeInfo) (z : Value) (size bytes : Nat) (ht : P.underlying t = some (.slice e)) (hi : P.info? e = some i) (hz : i.zero = some z)
  (hsize : i.size = size) (hby : i.bytes = bytes) (hzs : z.cells.size = size) (hsz : 0 < size)
  (v : Value) (n : Nat) (xs : List Value) (hown : w.ownsRow base e size v n xs)
  (a : Addr) (m c : Nat) (news : List Value) (hl : news.length = m * size) (hnews : ∀ j u, news[j]? = some u → w.cell? (a.add j) = some u) (h1 : ∀ u ∈ news, u.oneCell' = true)
  (h63 : n + m ≤ maxLen) (hbytes : (n + m) * bytes ≤ 140737488355328) (hbase : base ≤ w.heap.size) :
  ∃ v' w', (Builtin.append_ #[t, t] ty #[v, .slice (some a) m c]).run P w = .ok v' w' ∧ w'.ownsRow base e size v' (n + m) (xs ++ news) ∧ w.grownBy w' v.ownBlock ∧
   ∀ g, v'.ownBlock = some g → v.ownBlock = some g ∨ w.heap.size ≤ g := by
 obtain ⟨v', w', hr, h2, h3, h4⟩ := run_append_own w base t ty e i z size bytes ht hi hz hsize hby hzs hsz v n xs hown a m c news hl hnews h1 h63 hbytes hbase;refine ⟨v', w', hr, h2, h3, fun g hg => ?_⟩;rcases hown.2 with ⟨hv, hn⟩ | ⟨g0, cap, cur, hv, hbg, hg0, hnc, hcm, aC, htake⟩
 ·subst hv;have hxs : xs = [] := List.eq_nil_of_length_eq_zero (by rw [hown.1, hn]; simp);obtain ⟨v2, w2, aB, h22, -, -⟩ := run_append_own w w.heap.size t ty e i z size bytes ht hi hz hsize hby hzs hsz (.slice none 0 0) n xs ⟨hown.1, .inl ⟨rfl, hn⟩⟩ a m c news hl hnews h1 h63 hbytes (nlr _);rw [hr] at aB;cases aB;rcases h22.2 with ⟨hv', -⟩ | ⟨g', cap', cur', hv', hb', -⟩
  ·rw [hv'] at hg; cases hg
  ·rw [hv'] at hg; cases hg; exact .inr hb'
 ·subst hv;by_cases hroom : n + m ≤ cap
  ·have aB := run_append_room (P := P) w t ty e i ht hi g0 n cap cur hg0 a m c news (by rw [hl, hsize]) hnews h1 hroom (by rw [hl, aC, hsize, ← Nat.add_mul]; exact Nat.mul_le_mul_right _ hroom);rw [hr] at aB;cases aB;exact .inl hg
  ·subst hsize;have aE : ∀ j u, xs[j]? = some u → w.cell? ((⟨g0, 0, none⟩ : Addr).add j) = some u := hown.cells (g := g0) rfl;have aB := run_append_grow (P := P) w t ty e i z ht hi hz ⟨g0, 0, none⟩ n cap xs hown.1 aE a m c news hl hnews (by omega) (by simp only [maxLen] at h63; omega) (growslice_fits (by omega) (by rw [hby]; exact hbytes));rw [hr] at aB;cases aB;cases hg;exact .inr (nlr _)
theorem Bb {ops : Array Oper} {rest : List Oper} {o : Oper} {a : Act} {Q : Exit → Act → World → Prop} (hgd : o.guard = none) (s x : Operand) (t : TypeId)
  (ho : o.op = .call { callee := .builtin .append, args := #[s, x], argTypes := #[t, t] })
  (base : Nat) (e : TypeId) (i : TypeInfo) (z : Value) (size bytes : Nat) (ht : P.underlying t = some (.slice e)) (hi : P.info? e = some i) (hz : i.zero = some z)
  (hsize : i.size = size) (hby : i.bytes = bytes) (hzs : z.cells.size = size) (hsz : 0 < size)
  (v : Value) (n : Nat) (xs : List Value) (hs : a.eval s = v) (hown : w.ownsRow base e size v n xs)
  (ad : Addr) (m c : Nat) (news : List Value) (hx : a.eval x = .slice (some ad) m c) (hl : news.length = m * size) (hnews : ∀ j u, news[j]? = some u → w.cell? (ad.add j) = some u) (h1 : ∀ u ∈ news, u.oneCell' = true)
  (h63 : n + m ≤ maxLen) (hbytes : (n + m) * bytes ≤ 140737488355328) (hbase : base ≤ w.heap.size)
  (h : ∀ v' w', w'.ownsRow base e size v' (n + m) (xs ++ news) → w.grownBy w' v.ownBlock → (∀ g, v'.ownBlock = some g → v.ownBlock = some g ∨ w.heap.size ≤ g) → wpList P ops Q rest (a.put o.dst v') w') : wpList P ops Q (o :: rest) a w := by
 refine wpList_plain hgd fun K hK => ?_;obtain ⟨v', w', hr, h2, h3, h4⟩ := Jg (P := P) base t o.type e i z size bytes ht hi hz hsize hby hzs hsz v n xs hown ad m c news hl hnews h1 h63 hbytes hbase;unfold Oper.wp execOp;simp only [ho, resolve, invoke, builtin, Sem.run_bind, Sem.run_pure, Result.andThen_ok, List.map_toArray, List.map_cons, List.map_nil, hs, hx, hr];exact hK _ _ (h v' w' h2 h3 h4)
end
def OwnD (F : Nat → Prop) (w : World) (base : Nat) (e : TypeId) (size : Nat) (v : Value) (l : List (List Dat)) : Prop :=
 ∃ css : List (List Value), css.length = l.length ∧ (∀ cs ∈ css, cs.length = size) ∧ w.ownsRow base e size v l.length css.flatten ∧
  ∀ (j : Nat) ds cs, l[j]? = some ds → css[j]? = some cs → Ah (fun b => F b ∧ v.ownBlock ≠ some b) w ds cs
section
variable {F : Nat → Prop} {w w' : World} {base : Nat} {e : TypeId} {size : Nat} {v : Value} {l : List (List Dat)}
theorem OwnD.nil (F : Nat → Prop) (w : World) (base : Nat) (e : TypeId) (size : Nat) : OwnD F w base e size (.slice none 0 0) [] :=
 ⟨[], rfl, by simp, ⟨by simp, .inl ⟨rfl, rfl⟩⟩, by simp⟩
theorem Db {css : List (List Value)} {size : Nat} (hsz : ∀ cs ∈ css, cs.length = size) : ∀ {j : Nat} {cs : List Value} {i : Nat} {u : Value}, css[j]? = some cs → cs[i]? = some u → css.flatten[j * size + i]? = some u := by
 induction css with
 | nil => intro j cs i u h; simp at h
 | cons c t ih =>
  intro j cs i u hj hi;have hc := hsz c (lmS ..);rw [List.flatten_cons];cases j with
  | zero =>
   simp at hj;subst hj;have := (List.getElem?_eq_some_iff.1 hi).1;rw [List.getElem?_append_left (by omega)]
   simpa using hi
  | succ j =>
   simp at hj;have := (List.getElem?_eq_some_iff.1 hi).1;rw [List.getElem?_append_right (by rw [hc, Nat.add_mul]; omega), hc, show (j + 1) * size + i - size = j * size + i by rw [Nat.add_mul]; omega];exact ih (fun cs h => hsz cs (lmO _ h)) hj hi
theorem OwnD.rowAt (h : OwnD F w base e size v l) (hF : ∀ g, v.ownBlock = some g → F g) : ∃ a cap, v = .slice a l.length cap ∧ Ac F w a l := by
 obtain ⟨css, hlen, hsz, hown, hd⟩ := h;obtain ⟨h1, ⟨rfl, h2⟩ | ⟨g, cap, cur, rfl, h3, h4, h5, h6, h7, h8⟩⟩ := hown
 ·obtain rfl : l = [] := List.length_eq_zero_iff.1 h2;exact ⟨none, 0, rfl, Ac.nil _⟩
 ·refine ⟨_, cap, rfl, fun j ds hj => ?_⟩;have aH := (List.getElem?_eq_some_iff.1 hj).1;have aF : css[j]? = some (css[j]'(by omega)) := lgE (by omega);have aC := hsz _ (List.getElem_mem (by omega : j < css.length));refine ⟨g, 0, _, rfl, hF g rfl, (Array.getElem?_eq_some_iff.1 h4).1, (hd j _ _ hj aF).wider (fun b h _ => h.1), fun i u hu => ?_⟩;have hi := (List.getElem?_eq_some_iff.1 hu).1;have h9 := Db hsz aF hu;rw [← h8] at h9;have hds : ds.length = size := (by rw [← (hd j _ _ hj aF).1]; exact aC);rw [List.getElem?_take_of_lt (by
   have : (j + 1) * size ≤ l.length * size := Nat.mul_le_mul_right _ (by omega);rw [Nat.add_mul] at this;omega), Array.getElem?_toList] at h9
  unfold World.cell?;rw [h4, hds, Nat.zero_add];exact h9
theorem OwnD.rowAtC (h : OwnD F w base e size v l) (hF : ∀ g, v.ownBlock = some g → F g) : ∃ a cap, v = .slice a l.length cap ∧ (l.length ≤ cap ∧ cap ≤ maxLen) ∧ Ac F w a l := by
 obtain ⟨a, cap, hv, hr⟩ := h.rowAt hF;refine ⟨a, cap, hv, ?_, hr⟩;obtain ⟨css, hlen, hsz, ⟨h1, ⟨h2, h3⟩ | ⟨g, cap', cur, h2, h3, h4, h5, h6, h7⟩⟩, hd⟩ := h
 ·rw [h2] at hv;injection hv with e1 e2 e3;exact ⟨by omega, by rw [← e3]; exact nlz _⟩
 ·rw [h2] at hv;injection hv with e1 e2 e3;subst e3;exact ⟨h5, h6⟩
theorem OwnD.keep (h : OwnD F w base e size v l) (hk : ∀ b, b < w.heap.size → F b ∨ v.ownBlock = some b → w'.heap[b]? = w.heap[b]?) (hs : w.heap.size ≤ w'.heap.size) : OwnD F w' base e size v l := by
 obtain ⟨css, hlen, hsz, hown, hd⟩ := h;refine ⟨css, hlen, hsz, ?_, fun j ds cs h1 h2 => (hd j ds cs h1 h2).mono fun b hb hl => ⟨hb, by omega, hk b hl (.inl hb.1)⟩⟩;obtain ⟨h1, h2 | ⟨g, cap, cur, rfl, h3, h4, h5⟩⟩ := hown
 ·exact ⟨h1, .inl h2⟩
 ·exact ⟨h1, .inr ⟨g, cap, cur, rfl, h3, by rw [hk g (Array.getElem?_eq_some_iff.1 h4).1 (.inr rfl)]; exact h4, h5⟩⟩
theorem OwnD.below (h : OwnD F w base e size v l) (hb : Below w.heap.size w w') : OwnD F w' base e size v l := h.keep (fun b hl _ => hb.block b hl) hb.size
theorem OwnD.block_lt (h : OwnD F w base e size v l) {g : Nat} (hg : v.ownBlock = some g) : base ≤ g ∧ g < w.heap.size := by
 obtain ⟨css, -, -, ⟨-, ⟨rfl, -⟩ | ⟨g', cap, cur, rfl, h3, h4, -⟩⟩, -⟩ := h
 ·cases hg
 ·cases hg; exact ⟨h3, (Array.getElem?_eq_some_iff.1 h4).1⟩
theorem A6 {P : Program} {ops : Array Oper} {rest : List Oper} {o : Oper} {a : Act} {Q : Exit → Act → World → Prop} (hgd : o.guard = none) (s x : Operand) (t : TypeId)
  (ho : o.op = .call { callee := .builtin .append, args := #[s, x], argTypes := #[t, t] })
  (base : Nat) (e : TypeId) (i : TypeInfo) (z : Value) (size bytes : Nat) (ht : P.underlying t = some (.slice e)) (hi : P.info? e = some i) (hz : i.zero = some z)
  (hsize : i.size = size) (hby : i.bytes = bytes) (hzs : z.cells.size = size) (hsz : 0 < size)
  (v : Value) (F : Nat → Prop) (l : List (List Dat)) (hs : a.eval s = v) (hown : OwnD F w base e size v l)
  (ad : Addr) (c : Nat) (ds : List Dat) (cs : List Value) (hx : a.eval x = .slice (some ad) 1 c) (hl : cs.length = size) (hnews : ∀ j u, cs[j]? = some u → w.cell? (ad.add j) = some u) (h1 : ∀ u ∈ cs, u.oneCell' = true)
  (hd : Ah (fun b => F b ∧ v.ownBlock ≠ some b) w ds cs)
  (h63 : l.length + 1 ≤ maxLen) (hbytes : (l.length + 1) * bytes ≤ 140737488355328) (hbase : base ≤ w.heap.size)
  (h : ∀ v' w', OwnD F w' base e size v' (l ++ [ds]) → w.grownBy w' v.ownBlock → (∀ g, v'.ownBlock = some g → v.ownBlock = some g ∨ w.heap.size ≤ g) → wpList P ops Q rest (a.put o.dst v') w') : wpList P ops Q (o :: rest) a w := by
 obtain ⟨css, hlen, aC, aG, hel⟩ := hown;refine Bb hgd s x t ho base e i z size bytes ht hi hz hsize hby hzs hsz v l.length css.flatten hs aG ad 1 c cs hx (by rw [hl]; omega) hnews h1 h63 hbytes hbase fun v' w' h2 h3 h4 => h v' w' ⟨css ++ [cs], ?_, ?_, ?_, ?_⟩ h3 h4
 ·simp [hlen]
 ·intro cs' hc;rcases List.mem_append.1 hc with hc | hc
  ·exact aC _ hc
  ·rw [List.mem_singleton.1 hc]; exact hl
 ·rw [List.flatten_append, lnA]
  simpa using h2
 ·have step : ∀ b, F b ∧ v.ownBlock ≠ some b → b < w.heap.size → (F b ∧ v'.ownBlock ≠ some b) ∧ b < w'.heap.size ∧ w'.heap[b]? = w.heap[b]? := fun b hb aI =>
   ⟨⟨hb.1, fun he => by rcases h4 b he with h | h; exact hb.2 h; omega⟩, nll aI h3.size, h3.block b aI (fun he => hb.2 he.symm)⟩
  intro j ds' cs' hj hc;by_cases aH : j < l.length
  ·rw [List.getElem?_append_left aH] at hj;rw [List.getElem?_append_left (by omega)] at hc;exact (hel j _ _ hj hc).mono step
  ·have hje : j = l.length := by
    have := (List.getElem?_eq_some_iff.1 hj).1;simp at this;omega
   subst hje;rw [List.getElem?_append_right (nlr _), Nat.sub_self] at hj;rw [List.getElem?_append_right (by omega), hlen, Nat.sub_self] at hc;simp at hj hc;subst hj hc;exact hd.mono step
end
mutual
def nodeD : Nd → List Dat
 | .mk k t l c kids => [.one (.int .i64 k), .one (.string t), .one (.int .i64 l), .one (.int .i64 c), .rowb (k == 6) (nodesD kids)]
def nodesD : List Nd → List (List Dat)
 | [] => []
 | n :: t => nodeD n :: nodesD t
end
theorem Bx (l : List Nd) : nodesD l = l.map nodeD := by
 induction l with
 | nil => simp [nodesD]
 | cons n t ih => simp [nodesD, ih]
theorem Al (l : List Nd) : (nodesD l).length = l.length := by rw [Bx, lnM]
theorem Dz (l m : List Nd) : nodesD (l ++ m) = nodesD l ++ nodesD m := by rw [Bx, Bx, Bx, List.map_append]
def Au (F : Nat → Prop) (w : World) (n : Nd) (v : Value) : Prop := ∃ cs : List Value, v = .agg cs.toArray ∧ Ah F w (nodeD n) cs
theorem Au.openC {F : Nat → Prop} {w : World} {k l c : Int} {t : ByteArray} {kids : List Nd} {v : Value} (h : Au F w (.mk k t l c kids) v) :
  ∃ a cap, v = .agg #[.int .i64 k, .string t, .int .i64 l, .int .i64 c, .slice a kids.length cap] ∧ (k = 6 → kids.length ≤ cap) ∧ Ac F w a (nodesD kids) := by
 obtain ⟨cs, rfl, h⟩ := h;rw [nodeD] at h;obtain ⟨c0, cs, rfl, h0, h⟩ := h.cons_inv;obtain ⟨c1, cs, rfl, h1, h⟩ := h.cons_inv;obtain ⟨c2, cs, rfl, h2, h⟩ := h.cons_inv;obtain ⟨c3, cs, rfl, h3, h⟩ := h.cons_inv;obtain ⟨c4, cs, rfl, h4, h⟩ := h.cons_inv;obtain rfl := h.nil_inv;obtain rfl := h0.one_inv;obtain rfl := h1.one_inv;obtain rfl := h2.one_inv;obtain rfl := h3.one_inv;obtain ⟨a, cap, rfl, hc, hr⟩ := h4.rowb_inv;rw [Al] at hc;exact ⟨a, cap, by rw [Al], fun h6 => hc (by simpa using h6), hr⟩
theorem Au.open {F : Nat → Prop} {w : World} {k l c : Int} {t : ByteArray} {kids : List Nd} {v : Value} (h : Au F w (.mk k t l c kids) v) :
  ∃ a cap, v = .agg #[.int .i64 k, .string t, .int .i64 l, .int .i64 c, .slice a kids.length cap] ∧ Ac F w a (nodesD kids) := by
 obtain ⟨a, cap, h1, -, h2⟩ := h.openC;exact ⟨a, cap, h1, h2⟩
theorem Au.cap {F : Nat → Prop} {w : World} {k l c : Int} {t : ByteArray} {kids : List Nd} {a : Option Addr} {n cap : Nat} (h : Au F w (.mk k t l c kids) (.agg #[.int .i64 k, .string t, .int .i64 l, .int .i64 c, .slice a n cap])) : k = 6 → kids.length ≤ cap := by
 obtain ⟨a', cap', he, hc, -⟩ := h.openC;have h9 := congrArg (fun v => match v with | Value.agg x => x.toList | _ => []) he;simp only [List.cons.injEq, Value.slice.injEq, and_true, true_and] at h9;rw [h9.2.2];exact hc
theorem Au.mk {F : Nat → Prop} {w : World} (k : Int) (t : ByteArray) (l c : Int) {kids : List Nd} {a : Option Addr} (cap : Nat) (h : Ac F w a (nodesD kids)) (hk : k = 6 → kids.length ≤ cap := by first | exact trivial | (refine Hid.out ?_; assumption) | assumption | (intro _; exact nlz _) | (intro h6; exact absurd h6 (by decide))) :
  Au F w (.mk k t l c kids) (.agg #[.int .i64 k, .string t, .int .i64 l, .int .i64 c, .slice a kids.length cap]) := by
 refine ⟨[.int .i64 k, .string t, .int .i64 l, .int .i64 c, .slice a kids.length cap], rfl, ?_⟩;rw [nodeD];exact .cons (.one _) (.cons (.one _) (.cons (.one _) (.cons (.one _) (.cons (by rw [← Al kids]; exact B4.rowb_mk cap (fun h6 => by rw [Al]; exact hk (by simpa using h6)) h) .nil))))
theorem Au.mono {F G : Nat → Prop} {w w' : World} {n : Nd} {v : Value} (h : Au F w n v) (hk : ∀ b, F b → b < w.heap.size → G b ∧ b < w'.heap.size ∧ w'.heap[b]? = w.heap[b]?) : Au G w' n v := by
 obtain ⟨cs, rfl, h⟩ := h;exact ⟨cs, rfl, h.mono hk⟩
theorem Au.cells {F : Nat → Prop} {w : World} {n : Nd} {v : Value} (h : Au F w n v) : ∃ cs : List Value, v = .agg cs.toArray ∧ cs.length = 5 ∧ (∀ u ∈ cs, u.oneCell' = true) ∧ Ah F w (nodeD n) cs := by
 obtain ⟨k, t, l, c, kids⟩ := n;obtain ⟨a, cap, rfl, -⟩ := h.open;obtain ⟨cs, he, ha⟩ := h;refine ⟨cs, he, ?_, ?_, ha⟩
 ·have := ha.1; rw [nodeD] at this; simpa using this
 ·intro u hu;have : cs = [.int .i64 k, .string t, .int .i64 l, .int .i64 c, .slice a kids.length cap] := by
   have := congrArg (fun v => match v with | Value.agg x => x.toList | _ => []) he
   simpa using this.symm
  rw [this] at hu;simp at hu;rcases hu with rfl | rfl | rfl | rfl | rfl <;> rfl
theorem infoNode : (Tryz.prog.info? 59).map (fun i => (i.zero, i.size, i.bytes)) = some (some (.agg #[.int .i64 0, .string ByteArray.empty, .int .i64 0, .int .i64 0, .slice none 0 0]), 5, 64) := by kernel_rfl
def Inc {α : Type} (k : Int) (m : PM α) : Prop := ∀ ts d x ts' d', m ts d = .ok x ts' d' → d' = d + k
section
variable {α β : Type} {en : Int × Int}
theorem Inc.pure (x : α) : Inc 0 (PM.pure x) := fun ts d y ts' d' h => by cases h; omega
theorem Inc.bind {j k n : Int} {m : PM α} {f : α → PM β} (h1 : Inc j m) (h2 : ∀ x, Inc k (f x)) (hn : j + k = n) : Inc n (PM.bind m f) := by
 intro ts d y ts' d' h;unfold PM.bind at h;cases hm : m ts d with
 | ok x t1 d1 =>
  rw [hm] at h;have e1 := h1 _ _ _ _ _ hm;have e2 := h2 x _ _ _ _ _ h;omega
 | err a b c => rw [hm] at h; cases h
 | out => rw [hm] at h; cases h
theorem Inc.look {k : Int} {f : List Tok → PM α} (h : ∀ ts, Inc k (f ts)) : Inc k (Cr f) := fun ts d x ts' d' e => h ts ts d x ts' d' e
theorem Inc.ite {k : Int} {c : Prop} [Decidable c] {m m' : PM α} (h1 : Inc k m) (h2 : Inc k m') : Inc k (if c then m else m') := by split; exact h1; exact h2
theorem Inc.out {k : Int} : Inc k (fun _ _ => (.out : PR α)) := fun ts d x ts' d' h => by cases h
theorem Inc.take (b : Bool) : Inc 0 (A5 en b) := by
 intro ts d x ts' d' h;unfold A5 at h;split at h
 ·split at h
  ·cases h
  ·cases h; omega
 ·cases h
theorem Inc.open (b : Bool) : Inc 1 (Ev en b) := by
 intro ts d x ts' d' h;unfold Ev at h;split at h
 ·cases h
 ·have := Inc.take _ _ _ _ _ _ h; omega
theorem Inc.eat (s : List UInt8) : Inc 0 (Ex en s) := fun ts d x ts' d' h => Inc.bind (Inc.take _) (fun _ => Inc.pure _) rfl ts d x ts' d' h
theorem Inc.down : Inc (-1) pDown := fun ts d x ts' d' h => by cases h; omega
theorem Inc.close (s : List UInt8) : Inc (-1) (Dw en s) := Inc.bind (Inc.eat s) (fun _ => Inc.down) rfl
theorem Inc.listGo {to : List UInt8} {one : PM (List Nd)} (h : Inc 0 one) : ∀ f acc, Inc 0 (Dl en to one f acc)
 | 0, _ => Inc.out
 | f + 1, _acc => Inc.look fun _ => Inc.ite (Inc.pure _) (Inc.bind (Inc.ite (Inc.pure _) (Inc.eat _)) (fun _ => Inc.bind h (fun _ => Inc.listGo h f _) rfl) rfl)
theorem Inc.list {to : List UInt8} {one : PM (List Nd)} (h : Inc 0 one) : Inc 0 (Dt en to one) := fun ts d x ts' d' e => Inc.listGo h _ _ ts d x ts' d' e
structure Gr (L : Lvl) : Prop where
 expr : Inc 0 L.expr
 prim : Inc 0 L.prim
 stmt : Inc 0 L.stmt
variable {L : Lvl} (hL : Gr L)
include hL
theorem Inc.arg : Inc 0 (pArg en L) := fun _ _ _ _ _ h => by have := hL; cases h
theorem Inc.call : Inc 0 (pCall en L) := fun _ _ _ _ _ h => by have := hL; cases h
theorem Inc.entry : Inc 0 (pEntry en L) := fun _ _ _ _ _ h => by have := hL; cases h
theorem Inc.prim : Inc 0 (pPrim en L) := Inc.look fun _ =>
 Inc.ite Inc.out <| Inc.ite (Inc.bind (Inc.take _) (fun _ => Inc.pure _) rfl) <| Inc.ite Inc.out <| Inc.ite (Inc.bind (Inc.take _) (fun _ => Inc.pure _) rfl) <| Inc.ite Inc.out <|
 Inc.ite (Inc.bind (Inc.open _) (fun _ => Inc.bind (Inc.list (Inc.bind hL.expr (fun _ => Inc.pure _) rfl)) (fun _ => Inc.bind (Inc.close _) (fun _ => Inc.pure _) rfl) rfl) rfl) <| Inc.ite Inc.out Inc.out
theorem Inc.sumGo : ∀ f x, Inc 0 (pSumGo en L f x)
 | 0, _ => Inc.out
 | f + 1, _ => Inc.look fun _ => Inc.ite (Inc.bind (Inc.take _) (fun _ => Inc.bind (Inc.prim hL) (fun _ => Inc.sumGo f _) rfl) rfl) (Inc.pure _)
theorem Inc.sum : Inc 0 (pSum en L) := Inc.bind (Inc.prim hL) (fun _x ts d y ts' d' e => Inc.sumGo hL _ _ ts d y ts' d' e) rfl
theorem Inc.expr : Inc 0 (pExpr en L) := Inc.bind (Inc.sum hL) (fun _ => Inc.look fun _ => Inc.ite Inc.out (Inc.pure _)) rfl
theorem Inc.stmtsGo (to : List UInt8) : ∀ f acc, Inc 0 (Cs en L to f acc)
 | 0, _ => Inc.out
 | f + 1, _ => Inc.look fun _ => Inc.ite (Inc.bind hL.stmt (fun _ => Inc.stmtsGo to f _) rfl) (Inc.pure _)
theorem Inc.stmts (to : List UInt8) : Inc 0 (Ct en L to) := fun ts d x ts' d' e => Inc.stmtsGo hL to _ _ ts d x ts' d' e
theorem Inc.block : Inc 0 (pBlock en L) := Inc.look fun _ => Inc.bind (Inc.open _) (fun _ => Inc.bind (Inc.stmts hL _) (fun _ => Inc.bind (Inc.close _) (fun _ => Inc.pure _) rfl) rfl) rfl
theorem Inc.param : Inc 0 (pParam en L) := fun _ _ _ _ _ h => by have := hL; cases h
theorem Inc.rule : Inc 0 (pRule en L) := fun _ _ _ _ _ h => by have := hL; cases h
theorem Inc.stmt : Inc 0 (pStmt en L) := Inc.look fun _ =>
 Inc.ite (Inc.bind (Inc.take _) (fun _ => Inc.look fun _ => Inc.bind (Inc.take _) (fun _ => Inc.look fun _ => Inc.bind (Inc.take _) (fun _ => Inc.bind (Inc.expr hL) (fun _ => Inc.bind (Inc.block hL) (fun _ => Inc.pure _) rfl) rfl) rfl) rfl) rfl) <|
 Inc.ite Inc.out <| Inc.ite (Inc.rule hL) <| Inc.ite Inc.out <|
 Inc.bind (Inc.take _) (fun _ => Inc.bind (Inc.eat _) (fun _ => Inc.bind (Inc.expr hL) (fun _ => Inc.bind (Inc.eat _) (fun _ => Inc.pure _) rfl) rfl) rfl) rfl
end
theorem Gr.lvl (en : Int × Int) : ∀ f, Gr (lvl en f)
 | 0 => ⟨Inc.out, Inc.out, Inc.out⟩
 | f + 1 => ⟨Inc.expr (Gr.lvl en f), Inc.prim (Gr.lvl en f), Inc.stmt (Gr.lvl en f)⟩
def Ox (ds : List Dat) : Prop := ∀ v, Dat.one v ∈ ds → v.oneCell' = true
section
variable {F G : Nat → Prop} {w : World}
theorem Ah.oneCells {ds : List Dat} {cs : List Value} (h : Ah F w ds cs) (hp : Ox ds) : ∀ u ∈ cs, u.oneCell' = true := by
 intro u hu;obtain ⟨i, hi⟩ := List.getElem?_of_mem hu;have aQ := (List.getElem?_eq_some_iff.1 hi).1;have hd : ds[i]? = some (ds[i]'(by rw [← h.1]; exact aQ)) := lgE _;have := h.2 i u _ hi hd;cases hdd : ds[i]'(by rw [← h.1]; exact aQ) with
 | one v =>
  rw [hdd] at this hd;obtain rfl := this.one_inv;exact hp _ (lgM hd)
 | rowb bo l =>
  rw [hdd] at this;obtain ⟨a, cap, rfl, -⟩ := this.rowb_inv;rfl
theorem Ac.cells {b off size : Nat} {l : List (List Dat)} (h : Ac F w (some ⟨b, off, none⟩) l) (hsz : ∀ ds ∈ l, ds.length = size) :
  ∃ css : List (List Value), css.length = l.length ∧ (∀ cs ∈ css, cs.length = size) ∧ (∀ (j : Nat) ds cs, l[j]? = some ds → css[j]? = some cs → Ah F w ds cs) ∧
   ∀ (j : Nat) cs, css[j]? = some cs → ∀ (i : Nat) u, cs[i]? = some u → w.cell? ⟨b, off + j * size + i, none⟩ = some u := by
 have hex : ∀ j : Fin l.length, ∃ cs : List Value, Ah F w l[j] cs ∧ ∀ (i : Nat) u, cs[i]? = some u → w.cell? ⟨b, off + j * size + i, none⟩ = some u := by
  intro j;obtain ⟨b', off', cs, ha, hF, hb, hd, hc⟩ := h j _ (lgE j.2);cases ha;refine ⟨cs, hd, fun i u hu => ?_⟩;have := hc i u hu;rw [hsz _ (List.getElem_mem j.2)] at this;exact this
 obtain ⟨f, hf⟩ := Classical.axiomOfChoice hex;have aI : ∀ (j : Nat) cs, (List.ofFn f)[j]? = some cs → ∃ hj : j < l.length, cs = f ⟨j, hj⟩ := by
  intro j cs hj;obtain ⟨h1, h2⟩ := List.getElem?_eq_some_iff.1 hj;rw [List.length_ofFn] at h1;exact ⟨h1, by rw [← h2, List.getElem_ofFn]⟩
 refine ⟨List.ofFn f, by simp, ?_, ?_, ?_⟩
 ·intro cs aN;obtain ⟨j, hj⟩ := List.getElem?_of_mem aN;obtain ⟨aE, rfl⟩ := aI j cs hj;rw [(hf ⟨j, aE⟩).1.1];exact hsz _ (List.getElem_mem aE)
 ·intro j ds cs hj hc;obtain ⟨aE, rfl⟩ := aI j cs hc;rw [lgE aE] at hj;cases hj;exact (hf ⟨j, aE⟩).1
 ·intro j cs hc i u hu;obtain ⟨aE, rfl⟩ := aI j cs hc;exact (hf ⟨j, aE⟩).2 i u hu
theorem Qg {css : List (List Value)} {size : Nat} (h0 : 0 < size) (hsz : ∀ cs ∈ css, cs.length = size) {k : Nat} {u : Value} (h : css.flatten[k]? = some u) :
  ∃ cs, css[k / size]? = some cs ∧ cs[k % size]? = some u := by
 induction css generalizing k with
 | nil => simp at h
 | cons c t ih =>
  have hc := hsz c (lmS ..);rw [List.flatten_cons] at h;by_cases hk : k < size
  ·rw [List.getElem?_append_left (by omega)] at h;refine ⟨c, by rw [Nat.div_eq_of_lt hk]; rfl, by rw [Nat.mod_eq_of_lt hk]; exact h⟩
  ·rw [List.getElem?_append_right (by omega), hc] at h;obtain ⟨cs, h1, h2⟩ := ih (fun cs h => hsz cs (lmO _ h)) h;refine ⟨cs, ?_, ?_⟩
   ·rw [Nat.div_eq_sub_div h0 (by omega), List.getElem?_cons_succ]; exact h1
   ·rw [Nat.mod_eq_sub_mod (by omega)]; exact h2
theorem Bq {P : Program} {ops : Array Oper} {rest : List Oper} {o : Oper} {a : Act} {Q : Exit → Act → World → Prop} (hgd : o.guard = none) (s x : Operand) (t : TypeId)
  (ho : o.op = .call { callee := .builtin .append, args := #[s, x], argTypes := #[t, t] })
  (base : Nat) (e : TypeId) (i : TypeInfo) (z : Value) (size bytes : Nat) (ht : P.underlying t = some (.slice e)) (hi : P.info? e = some i) (hz : i.zero = some z)
  (hsize : i.size = size) (hby : i.bytes = bytes) (hzs : z.cells.size = size) (hsz : 0 < size)
  (v : Value) (F : Nat → Prop) (l : List (List Dat)) (hs : a.eval s = v) (hown : OwnD F w base e size v l)
  (b off c : Nat) (l2 : List (List Dat)) (hx : a.eval x = .slice (some ⟨b, off, none⟩) l2.length c) (hrow : Ac (fun b => F b ∧ v.ownBlock ≠ some b) w (some ⟨b, off, none⟩) l2) (hlen : ∀ ds ∈ l2, ds.length = size) (hpl : ∀ ds ∈ l2, Ox ds)
  (h63 : l.length + l2.length ≤ maxLen) (hbytes : (l.length + l2.length) * bytes ≤ 140737488355328) (hbase : base ≤ w.heap.size)
  (h : ∀ v' w', OwnD F w' base e size v' (l ++ l2) → w.grownBy w' v.ownBlock → (∀ g, v'.ownBlock = some g → v.ownBlock = some g ∨ w.heap.size ≤ g) → wpList P ops Q rest (a.put o.dst v') w') : wpList P ops Q (o :: rest) a w := by
 obtain ⟨css, aH, aN, hrw, hel⟩ := hown;obtain ⟨aF, aB, aG, aJ, aC⟩ := hrow.cells hlen;have aM : aF.flatten.length = l2.length * size := by
  rw [← aB];clear aB aJ aC
  induction aF with
  | nil => simp
  | cons cs t ih =>
   rw [List.flatten_cons, lnA, aG cs (lmS ..), ih (fun c h => aG c (lmO _ h)), lnC, Nat.add_mul];omega
 refine Bb hgd s x t ho base e i z size bytes ht hi hz hsize hby hzs hsz v l.length css.flatten hs hrw ⟨b, off, none⟩ l2.length c aF.flatten hx aM ?_ ?_ h63 hbytes hbase fun v' w' h2 h3 h4 => h v' w' ⟨css ++ aF, ?_, ?_, ?_, ?_⟩ h3 h4
 ·intro k u hu;obtain ⟨cs, h5, h6⟩ := Qg hsz aG hu;have h7 := aC _ cs h5 _ u h6;have h8 : ((⟨b, off, none⟩ : Addr).add k) = ⟨b, off + k, none⟩ := by unfold Addr.add; split <;> simp_all
  rw [h8, show off + k = off + k / size * size + k % size by rw [Nat.add_assoc, Nat.mul_comm (k / size), Nat.div_add_mod]];exact h7
 ·intro u hu;obtain ⟨cs, hcs', hu'⟩ := List.mem_flatten.1 hu;obtain ⟨j, hj⟩ := List.getElem?_of_mem hcs';have aE := (List.getElem?_eq_some_iff.1 hj).1;have aR : l2[j]? = some (l2[j]'(by omega)) := lgE _;exact (aJ j _ _ aR hj).oneCells (hpl _ (lgM aR)) u hu'
 ·simp [aH, aB]
 ·intro cs' hc;rcases List.mem_append.1 hc with hc | hc
  ·exact aN _ hc
  ·exact aG _ hc
 ·rw [List.flatten_append, lnA];exact h2
 ·have step : ∀ b, F b ∧ v.ownBlock ≠ some b → b < w.heap.size → (F b ∧ v'.ownBlock ≠ some b) ∧ b < w'.heap.size ∧ w'.heap[b]? = w.heap[b]? := fun b hb aU =>
   ⟨⟨hb.1, fun he => by rcases h4 b he with h | h; exact hb.2 h; omega⟩, nll aU h3.size, h3.block b aU (fun he => hb.2 he.symm)⟩
  intro j ds' cs' hj hc;by_cases aE : j < l.length
  ·rw [List.getElem?_append_left aE] at hj;rw [List.getElem?_append_left (by omega)] at hc;exact (hel j _ _ hj hc).mono step
  ·rw [List.getElem?_append_right (by omega)] at hj;rw [List.getElem?_append_right (by omega), aH] at hc;exact (aJ _ _ _ hj hc).mono step
end
theorem Fq (n : Nd) : (nodeD n).length = 5 := by obtain ⟨k, t, l, c, kids⟩ := n; rfl
theorem Fa (n : Nd) : Ox (nodeD n) := by
 obtain ⟨k, t, l, c, kids⟩ := n;intro v hv;rw [nodeD] at hv;simp at hv;rcases hv with rfl | rfl | rfl | rfl <;> rfl
theorem Co {p : List Dat → Prop} (h : ∀ n, p (nodeD n)) (l : List Nd) : ∀ ds ∈ nodesD l, p ds := by
 intro ds aV;rw [Bx] at aV;obtain ⟨n, -, rfl⟩ := List.mem_map.1 aV;exact h n
theorem F2 (w : World) (o1 o2 : Obj) : ((w.alloc o1).alloc o2).heap[w.heap.size]? = some o1 ∧ ((w.alloc o1).alloc o2).heap[w.heap.size + 1]? = some o2 ∧ Below w.heap.size w ((w.alloc o1).alloc o2) ∧ ((w.alloc o1).alloc o2).heap.size = w.heap.size + 2 := by
 refine ⟨?_, ?_, ((Below.refl _ w).alloc (nlr _) _).alloc (by simp) _, by simp⟩
 ·rw [Below.heap_alloc _ _ _ (by simp)]; exact heap_alloc_new w _
 ·have := heap_alloc_new (w.alloc o1) o2
  simpa using this
theorem C4 (w : World) (o1 o2 o3 : Obj) : (((w.alloc o1).alloc o2).alloc o3).heap[w.heap.size]? = some o1 ∧ (((w.alloc o1).alloc o2).alloc o3).heap[w.heap.size + 1]? = some o2 ∧ (((w.alloc o1).alloc o2).alloc o3).heap[w.heap.size + 1 + 1]? = some o3 ∧ Below w.heap.size w (((w.alloc o1).alloc o2).alloc o3) ∧ (((w.alloc o1).alloc o2).alloc o3).heap.size = w.heap.size + 3 := by
 obtain ⟨h1, h2, h3, h4⟩ := F2 w o1 o2;refine ⟨?_, ?_, ?_, h3.alloc (by rw [h4]; omega) _, by simp⟩
 ·rw [Below.heap_alloc _ _ _ (by rw [h4]; omega)]; exact h1
 ·rw [Below.heap_alloc _ _ _ (by rw [h4]; omega)]; exact h2
 ·have := heap_alloc_new ((w.alloc o1).alloc o2) o3
  simpa using this
theorem alloc4 (w : World) (o1 o2 o3 o4 : Obj) : ((((w.alloc o1).alloc o2).alloc o3).alloc o4).heap[w.heap.size]? = some o1 ∧ ((((w.alloc o1).alloc o2).alloc o3).alloc o4).heap[w.heap.size + 1]? = some o2 ∧ ((((w.alloc o1).alloc o2).alloc o3).alloc o4).heap[w.heap.size + 1 + 1]? = some o3 ∧ ((((w.alloc o1).alloc o2).alloc o3).alloc o4).heap[w.heap.size + 1 + 1 + 1]? = some o4 ∧
  Below w.heap.size w ((((w.alloc o1).alloc o2).alloc o3).alloc o4) ∧ ((((w.alloc o1).alloc o2).alloc o3).alloc o4).heap.size = w.heap.size + 4 := by
 obtain ⟨h1, h2, h3, h4, h5⟩ := C4 w o1 o2 o3;refine ⟨?_, ?_, ?_, ?_, h4.alloc (by rw [h5]; omega) _, by simp⟩
 ·rw [Below.heap_alloc _ _ _ (by rw [h5]; omega)]; exact h1
 ·rw [Below.heap_alloc _ _ _ (by rw [h5]; omega)]; exact h2
 ·rw [Below.heap_alloc _ _ _ (by rw [h5]; omega)]; exact h3
 ·have := heap_alloc_new (((w.alloc o1).alloc o2).alloc o3) o4
  simpa using this
theorem stays {w w' : World} {b : Nat} {o : Obj} (h : w.heap[b]? = some o) (hb : Below w.heap.size w w') : w'.heap[b]? = some o := (hb.block _ (Array.getElem?_eq_some_iff.1 h).1).trans h
theorem here {w : World} {b : Nat} {o : Obj} (h : w.heap[b]? = some o) : b < w.heap.size := (Array.getElem?_eq_some_iff.1 h).1
theorem infoStr : (Tryz.prog.info? 9).map (fun i => (i.zero, i.size, i.bytes)) = some (some (.string ByteArray.empty), 1, 16) := by kernel_rfl
def OwnS (w : World) (base : Nat) (v : Value) (l : List ByteArray) : Prop := w.ownsRow base 9 1 v l.length (l.map Value.string)
section
variable {w w' : World} {base : Nat} {v : Value} {l : List ByteArray}
theorem OwnS.nil (w : World) (base : Nat) : OwnS w base (.slice none 0 0) [] := ⟨by simp, .inl ⟨rfl, rfl⟩⟩
theorem OwnS.strsAt (h : OwnS w base v l) : ∃ a cap, v = .slice a l.length cap ∧ Ax w a l ∧ l.length ≤ cap := by
 obtain ⟨h1, ⟨rfl, h2⟩ | ⟨g, cap, cur, rfl, h3, h4, h5, h6, h7, h8⟩⟩ := h
 ·refine ⟨none, 0, by rw [h2], ?_, by omega⟩;intro j x hx;have := (List.getElem?_eq_some_iff.1 hx).1;omega
 ·refine ⟨_, cap, rfl, ?_, h5⟩;intro j x hx;have hj := (List.getElem?_eq_some_iff.1 hx).1;refine ⟨g, 0, rfl, ?_⟩;have h9 : (cur.toList.take (l.length * 1))[j]? = some (.string x) := (by rw [h8, lgP, hx]; rfl);rw [List.getElem?_take_of_lt (by omega), Array.getElem?_toList] at h9;unfold World.cell?;simp only [h4, Nat.zero_add, Option.isSome_none, Bool.false_eq_true, if_false];exact h9
theorem OwnS.below (h : OwnS w base v l) (hb : Below w.heap.size w w') : OwnS w' base v l := by
 obtain ⟨h1, h2 | ⟨g, cap, cur, rfl, h3, h4, h5⟩⟩ := h
 ·exact ⟨h1, .inl h2⟩
 ·exact ⟨h1, .inr ⟨g, cap, cur, rfl, h3, (hb.block g (Array.getElem?_eq_some_iff.1 h4).1).trans h4, h5⟩⟩
theorem OwnS.lower {base' : Nat} (h : OwnS w base v l) (hb : base' ≤ base) : OwnS w base' v l := by
 obtain ⟨h1, h2 | ⟨g, cap, cur, h2, h3, h4⟩⟩ := h
 ·exact ⟨h1, .inl h2⟩
 ·exact ⟨h1, .inr ⟨g, cap, cur, h2, by omega, h4⟩⟩
theorem OwnS.block (h : OwnS w base v l) {g : Nat} (hg : v.ownBlock = some g) : base ≤ g ∧ g < w.heap.size := by
 obtain ⟨-, ⟨rfl, -⟩ | ⟨g', cap, cur, rfl, h3, h4, -⟩⟩ := h
 ·cases hg
 ·cases hg; exact ⟨h3, (Array.getElem?_eq_some_iff.1 h4).1⟩
end
theorem lit_one (w : World) (x : Value) (t : TypeId) : ∀ (j : Nat) u, [x][j]? = some u → (w.alloc (.cells #[x] t)).cell? ((⟨w.heap.size, 0, none⟩ : Addr).add j) = some u := by
 intro j u h;cases j with
 | zero =>
  simp at h;subst h;show (w.alloc (.cells #[x] t)).cell? ⟨w.heap.size, 0, none⟩ = some x;unfold World.cell?;rw [heap_alloc_new];rfl
 | succ j => simp at h
theorem A9 {w w' : World} {v : Value} (h : w.grownBy w' v.ownBlock) {n : Nat} (hv : ∀ g, v.ownBlock = some g → n ≤ g) (hn : n ≤ w.heap.size) : Below n w w' :=
 ⟨h.os, h.tape, h.output, h.size, fun b hb => h.block b (by omega) (fun e => by have := hv b e.symm; omega)⟩
def wrote : Array Value → Nat → List Value → Array Value
 | c, _, [] => c
 | c, o, v :: r => wrote (c.setIfInBounds o v) (o + 1) r
theorem wrote_size : ∀ (vs : List Value) (c : Array Value) (o : Nat), (wrote c o vs).size = c.size
 | [], _, _ => rfl
 | v :: r, c, o => by rw [wrote, wrote_size r, Array.size_setIfInBounds]
theorem wrote_get : ∀ (vs : List Value) (c : Array Value) (o k : Nat), o + vs.length ≤ c.size → (wrote c o vs)[k]? = if o ≤ k ∧ k < o + vs.length then vs[k - o]? else c[k]?
 | [], c, o, k, _ => by
  rw [wrote, if_neg (by simp only [lnN]; omega)]
 | v :: r, c, o, k, h => by
  rw [lnC] at h;rw [wrote, wrote_get r _ _ _ (by rw [Array.size_setIfInBounds]; omega), lnC];by_cases h1 : o + 1 ≤ k ∧ k < o + 1 + r.length
  ·rw [if_pos h1, if_pos (by omega), show k - o = k - (o + 1) + 1 by omega, List.getElem?_cons_succ]
  ·rw [if_neg h1];by_cases h2 : k = o
   ·subst h2;rw [if_pos (by omega), Nat.sub_self, List.getElem?_cons_zero, Array.getElem?_setIfInBounds_self_of_lt (by omega)]
   ·rw [if_neg (by omega), Array.getElem?_setIfInBounds_ne (fun e => h2 e.symm)]
theorem setCells_block (g : Nat) : ∀ (vs : List Value) (o : Nat) (w : World) (cur : Array Value) (e : TypeId) (fz : Nat × Nat), w.heap[g]? = some (.cells cur e fz) → (w.setCells g o vs).heap[g]? = some (.cells (wrote cur o vs) e fz)
 | [], _, _, _, _, _, h => h
 | v :: r, o, w, cur, e, fz, h => by
  rw [World.setCells, wrote];refine setCells_block g r (o + 1) _ _ e fz ?_;simp [World.setCell, Array.getElem?_modify, h]
theorem setCells_other (g k : Nat) (hk : k ≠ g) : ∀ (vs : List Value) (o : Nat) (w : World), (w.setCells g o vs).heap[k]? = w.heap[k]?
 | [], _, _ => rfl
 | v :: r, o, w => by rw [World.setCells, setCells_other g k hk r, Below.heap_setCell _ _ _ _ hk]
theorem setCells_size (g : Nat) : ∀ (vs : List Value) (o : Nat) (w : World), (w.setCells g o vs).heap.size = w.heap.size
 | [], _, _ => rfl
 | v :: r, o, w => by rw [World.setCells, setCells_size g r]; simp [World.setCell]
theorem Kq {css : List (List Value)} {size : Nat} (hsz : ∀ cs ∈ css, cs.length = size) : css.flatten.length = css.length * size := by
 induction css with
 | nil => simp
 | cons c t ih =>
  rw [List.flatten_cons, lnA, ih fun cs h => hsz cs (lmO _ h), hsz c (lmS ..), lnC, Nat.add_mul];omega
theorem OwnD.put {F : Nat → Prop} {w : World} {base : Nat} {e : TypeId} {size g n cap : Nat} {l : List (List Dat)} (h : OwnD F w base e size (.slice (some ⟨g, 0, none⟩) n cap) l) (h0 : 0 < size) {j : Nat} (hj : j < l.length) {ds : List Dat} {cs : List Value} (hcs : cs.length = size)
  (hd : Ah (fun b => F b ∧ b ≠ g) w ds cs) : OwnD F (w.setCells g (j * size) cs) base e size (.slice (some ⟨g, 0, none⟩) n cap) (l.set j ds) := by
 obtain ⟨css, hlen, hsz, ⟨h1, ⟨h2, -⟩ | ⟨g', cap', cur, h2, h3, h4, h5, h6, h7, h8⟩⟩, aC⟩ := h
 ·cases h2
 ·injection h2 with e1 e2 e3;injection e1 with e1;injection e1 with e1;subst e1;subst e3;have hst : ∀ b, (F b ∧ b ≠ g) → b < w.heap.size → (F b ∧ b ≠ g) ∧ b < (w.setCells g (j * size) cs).heap.size ∧ (w.setCells g (j * size) cs).heap[b]? = w.heap[b]? :=
   fun b hb hl => ⟨hb, by rw [setCells_size]; exact hl, setCells_other g b hb.2 _ _ _⟩
  have hjn : (j + 1) * size ≤ l.length * size := Nat.mul_le_mul_right _ (by omega);have hcn : l.length * size ≤ cap * size := Nat.mul_le_mul_right _ h5;have aB : j * size + cs.length ≤ cur.size := (by rw [hcs, h7]; rw [Nat.add_mul] at hjn; omega);have hsz' : ∀ c ∈ css.set j cs, c.length = size := fun c hc => by
   rcases List.mem_or_eq_of_mem_set hc with h | rfl
   ·exact hsz c h
   ·exact hcs
  refine ⟨css.set j cs, by rw [List.length_set, List.length_set, hlen], hsz', ⟨?_, .inr ⟨g, cap, wrote cur (j * size) cs, by rw [List.length_set, ← e2], h3, setCells_block g cs _ w cur e _ h4, by rw [List.length_set]; exact h5, h6, by rw [wrote_size, h7], ?_⟩⟩, ?_⟩
  ·rw [Kq hsz', List.length_set, List.length_set, hlen]
  ·apply List.ext_getElem?;intro k;rw [List.length_set];by_cases hk : k < l.length * size
   ·rw [List.getElem?_take_of_lt hk, Array.getElem?_toList, wrote_get _ _ _ _ aB, hcs];have hq : k / size < l.length := (Nat.div_lt_iff_lt_mul h0).2 hk;have hr : k % size < size := Nat.mod_lt _ h0;have aE : k = k / size * size + k % size := (by rw [Nat.mul_comm]; exact (Nat.div_add_mod k size).symm);by_cases hqj : k / size = j
    ·have hs1 : (css.set j cs)[j]? = some cs := (by rw [List.getElem?_set_self (by omega)]);have aF : cs[k % size]? = some (cs[k % size]'(by omega)) := lgE (by omega);have aG := Db hsz' hs1 aF;rw [hqj] at aE;rw [← aE] at aG;rw [if_pos (by omega), aG, show k - j * size = k % size by omega, aF]
    ·have aH : css[k / size]? = some (css[k / size]'(by omega)) := lgE (by omega);have hcl := hsz _ (List.getElem_mem (by omega : k / size < css.length));have aI : (css[k / size]'(by omega))[k % size]? = some ((css[k / size]'(by omega))[k % size]'(by omega)) := lgE (by omega);have aJ := Db hsz aH aI;have aM := Db hsz' (css := css.set j cs) (j := k / size) (by rw [List.getElem?_set_ne (fun h => hqj h.symm)]; exact aH) aI;rw [← aE] at aJ aM;have hno : ¬ (j * size ≤ k ∧ k < j * size + size) := by
      rintro ⟨a1, a2⟩;apply hqj;have : k < (j + 1) * size := (by rw [Nat.add_mul]; omega);exact Nat.le_antisymm (Nat.lt_succ_iff.1 ((Nat.div_lt_iff_lt_mul h0).2 this)) ((Nat.le_div_iff_mul_le h0).2 a1)
     rw [if_neg hno, aM, ← aJ, ← h8, List.getElem?_take_of_lt hk];exact (Array.getElem?_toList ..).symm
   ·rw [List.getElem?_eq_none (by rw [lnT]; omega), List.getElem?_eq_none (by rw [Kq hsz', List.length_set, hlen]; omega)]
  ·intro i ds' cs' hi hc;by_cases hij : j = i
   ·subst hij;rw [List.getElem?_set_self hj] at hi;rw [List.getElem?_set_self (by omega)] at hc;cases hi;cases hc;refine (hd.mono hst).wider fun b hb _ => ⟨hb.1, fun e => hb.2 (by injection e with e; exact e.symm)⟩
   ·rw [List.getElem?_set_ne hij] at hi hc;exact (aC i ds' cs' hi hc).mono fun b hb hl => ⟨hb, by rw [setCells_size]; exact hl, setCells_other g b (fun e => hb.2 (by rw [e]; rfl)) _ _ _⟩
theorem Rd (v : Vl) : Ox (valD v) := by
 obtain ⟨k, n, s, l, ks⟩ := v;intro u hu;simp only [valD, List.mem_cons, List.not_mem_nil, or_false, Dat.one.injEq, reduceCtorEq] at hu;rcases hu with rfl | rfl | rfl <;> rfl

theorem OwnD.lower {F : Nat → Prop} {w : World} {base base' : Nat} {e : TypeId} {size : Nat} {v : Value} {l : List (List Dat)} (h : OwnD F w base e size v l) (hb : base' ≤ base) : OwnD F w base' e size v l := by
 obtain ⟨css, h1, h2, ⟨h3, h4⟩, h5⟩ := h;refine ⟨css, h1, h2, ⟨h3, ?_⟩, h5⟩;rcases h4 with h | ⟨g, cap, cur, hv, hg, h⟩
 ·exact .inl h
 ·exact .inr ⟨g, cap, cur, hv, by omega, h⟩
mutual
def cntV : Vl → Int | .mk _ _ _ l _ => 1 + cntVs l
def cntVs : List Vl → Int
 | [] => 0
 | v :: t => cntV v + cntVs t
end
mutual
def dpV : Vl → Int | .mk _ _ _ l _ => 1 + dpVs l
def dpVs : List Vl → Int
 | [] => 0
 | v :: t => max (dpV v) (dpVs t)
end
mutual
def manyR : Vl → Int → Int | .mk _ _ _ l _, m => manyRs l m 1
def manyRs : List Vl → Int → Int → Int
 | [], _, n => n
 | v :: t, m, n => if n ≤ m then manyRs t m (n + manyR v (m - n)) else n
end
mutual
def deepR : Vl → Int → Int | .mk _ _ _ l _, m => (if 0 < m then deepRs l m 0 else 0) + 1
def deepRs : List Vl → Int → Int → Int
 | [], _, n => n
 | v :: t, m, n => deepRs t m (if n < deepR v (m - 1) then deepR v (m - 1) else n)
end
mutual
def nodesR : Vl → Bool | .mk k n s l ks => nodesRs l && nodeOk k n s l ks
def nodesRs : List Vl → Bool
 | [] => true
 | v :: t => nodesR v && nodesRs t
end
def checkR (v : Vl) : Bool := decide (manyR v 20000 ≤ 20000) && decide (deepR v 60 ≤ 60) && nodesR v
mutual
theorem Fj (v : Vl) : 1 ≤ cntV v := by
 obtain ⟨k, n, s, l, ks⟩ := v;rw [cntV];have := Cy l;omega
theorem Cy (l : List Vl) : 0 ≤ cntVs l := by
 cases l with
 | nil => rw [cntVs]; omega
 | cons v t =>
  rw [cntVs];have := Fj v;have := Cy t;omega
end
mutual
theorem Lo (l : List Vl) : 0 ≤ dpVs l := by
 cases l with
 | nil => rw [dpVs]; omega
 | cons v t =>
  rw [dpVs];have := Lo t;omega
end
mutual
theorem Pk (v : Vl) (m : Int) (h : cntV v ≤ m) : manyR v m = cntV v := by
 obtain ⟨k, n, s, l, ks⟩ := v;rw [cntV] at h;rw [manyR, cntV];exact Nf l m 1 h
theorem Nf (l : List Vl) (m n : Int) (h : n + cntVs l ≤ m) : manyRs l m n = n + cntVs l := by
 cases l with
 | nil => rw [manyRs, cntVs]; omega
 | cons v t =>
  rw [cntVs] at h;have h1 := Fj v;have h2 := Cy t;rw [manyRs, if_pos (by omega), Pk v (m - n) (by omega), Nf t m _ (by omega), cntVs];omega
end
mutual
theorem Pl (v : Vl) (m : Int) : deepR v m ≤ dpV v := by
 obtain ⟨k, n, s, l, ks⟩ := v;rw [deepR, dpV];have h := Ng l m 0;have hp := Lo l;split <;> omega
theorem Ng (l : List Vl) (m n : Int) : deepRs l m n ≤ max n (dpVs l) := by
 cases l with
 | nil => rw [deepRs]; omega
 | cons v t =>
  rw [deepRs, dpVs];have h1 := Pl v (m - 1);have h2 := Ng t m (if n < deepR v (m - 1) then deepR v (m - 1) else n);split at h2
  ·rw [if_pos (by assumption)]; omega
  ·rw [if_neg (by assumption)]; omega
end
mutual
theorem G8 (v : Vl) (d m : Int) (h : (mayV v d m).1 = true) : (mayV v d m).2 = m - cntV v ∧ nodesR v = true ∧ d + dpV v ≤ 61 := by
 obtain ⟨k, n, s, l, ks⟩ := v;rw [mayV] at h ⊢;split at h
 ·cases h
 ·rename_i h1
  split at h
  ·rename_i h2
   rw [if_neg h1, if_pos h2];obtain ⟨g1, g2, g3⟩ := Lp l (d + 1) (m - 1) (by omega) h;rw [cntV, nodesR, dpV];exact ⟨by omega, by rw [g2, h2]; rfl, by omega⟩
  ·cases h
theorem Lp (l : List Vl) (d m : Int) (hd : d ≤ 61) (h : (mayVs l d m).1 = true) : (mayVs l d m).2 = m - cntVs l ∧ nodesRs l = true ∧ d + dpVs l ≤ 61 := by
 cases l with
 | nil => rw [mayVs, cntVs, nodesRs, dpVs]; exact ⟨by simp, rfl, by omega⟩
 | cons v t =>
  rw [mayVs] at h ⊢;split at h
  ·rename_i h1
   rw [if_pos h1];obtain ⟨g1, g2, g3⟩ := G8 v d m h1;obtain ⟨k1, k2, k3⟩ := Lp t d _ hd h;rw [cntVs, nodesRs, dpVs];exact ⟨by omega, by rw [g2, k2]; rfl, by omega⟩
  ·cases h
end
theorem Ty (v : Vl) (h : checkV v = true) : checkR v = true := by
 unfold checkV at h;obtain ⟨h1, h2, h3⟩ := G8 v 1 20000 h;have h4 := (Fp v 1 20000 (by omega)).2.2 h;have hm := Pk v 20000 (by omega);have hd := Pl v 60;unfold checkR;rw [h2, hm, Bool.and_true, Bool.and_eq_true, decide_eq_true_eq, decide_eq_true_eq];exact ⟨by omega, by omega⟩
mutual
theorem F3 (v : Vl) (m : Int) (hm : 0 ≤ m) : 1 ≤ manyR v m ∧ manyR v m ≤ m + 1 ∧ (manyR v m ≤ m → cntV v = manyR v m) := by
 obtain ⟨k, n, s, l, ks⟩ := v;rw [manyR, cntV];obtain ⟨h1, h2, h3⟩ := Ke l m 1 (by omega) (by omega);exact ⟨h1, h2, fun h => (h3 h).symm⟩
theorem Ke (l : List Vl) (m n : Int) (hn : 1 ≤ n) (hm : n ≤ m + 1) : n ≤ manyRs l m n ∧ manyRs l m n ≤ m + 1 ∧ (manyRs l m n ≤ m → manyRs l m n = n + cntVs l) := by
 cases l with
 | nil => rw [manyRs, cntVs]; exact ⟨Int.le_refl _, hm, fun _ => by omega⟩
 | cons v t =>
  rw [manyRs, cntVs];split
  ·rename_i h
   obtain ⟨h1, h2, h3⟩ := F3 v (m - n) (by omega);obtain ⟨g1, g2, g3⟩ := Ke t m (n + manyR v (m - n)) (by omega) (by omega);refine ⟨by omega, g2, fun h4 => ?_⟩;have g5 := g3 h4;have := Cy t;have := h3 (by omega);omega
  ·exact ⟨Int.le_refl _, hm, fun h => by omega⟩
end
mutual
theorem F4 (v : Vl) (m : Int) (hm : 0 ≤ m) : 1 ≤ deepR v m ∧ deepR v m ≤ m + 1 ∧ (deepR v m ≤ m → dpV v ≤ m) := by
 obtain ⟨k, n, s, l, ks⟩ := v;rw [deepR, dpV];split
 ·rename_i h
  obtain ⟨h1, h2, h3⟩ := Kf l m 0 h (by omega) (by omega);exact ⟨by omega, by omega, fun h4 => by have := h3 (by omega); omega⟩
 ·exact ⟨by omega, by omega, fun h => by omega⟩
theorem Kf (l : List Vl) (m n : Int) (hm : 0 < m) (hn : 0 ≤ n) (hnm : n ≤ m) : n ≤ deepRs l m n ∧ deepRs l m n ≤ m ∧ (deepRs l m n ≤ m - 1 → dpVs l ≤ m - 1) := by
 cases l with
 | nil => rw [deepRs, dpVs]; exact ⟨Int.le_refl _, hnm, fun _ => by omega⟩
 | cons v t =>
  rw [deepRs, dpVs];obtain ⟨h1, h2, h3⟩ := F4 v (m - 1) (by omega);have hx : 0 ≤ (if n < deepR v (m - 1) then deepR v (m - 1) else n) ∧ (if n < deepR v (m - 1) then deepR v (m - 1) else n) ≤ m ∧ n ≤ (if n < deepR v (m - 1) then deepR v (m - 1) else n) ∧ deepR v (m - 1) ≤ (if n < deepR v (m - 1) then deepR v (m - 1) else n) := by
   split <;> exact ⟨by omega, by omega, by omega, by omega⟩
  generalize (if n < deepR v (m - 1) then deepR v (m - 1) else n) = z at hx ⊢;obtain ⟨g1, g2, g3⟩ := Kf t m z hm hx.1 hx.2.1;refine ⟨by omega, g2, fun h4 => ?_⟩;have := g3 h4;have := h3 (by omega);omega
end
mutual
theorem S3 (v : Vl) (d m : Int) (hn : nodesR v = true) (hd : d + dpV v ≤ 61) (hc : cntV v ≤ m) : mayV v d m = (true, m - cntV v) := by
 obtain ⟨k, n, s, l, ks⟩ := v;rw [nodesR, Bool.and_eq_true] at hn;rw [dpV] at hd;rw [cntV] at hc;have h1 := Cy l;have h2 := Lo l;rw [mayV, cntV, if_neg (by omega), if_pos hn.2, Pm l (d + 1) (m - 1) hn.1 (by omega) (by omega)]
 congr 1
 omega
theorem Pm (l : List Vl) (d m : Int) (hn : nodesRs l = true) (hd : d + dpVs l ≤ 61) (hc : cntVs l ≤ m) : mayVs l d m = (true, m - cntVs l) := by
 cases l with
 | nil => rw [mayVs, cntVs]; simp
 | cons v t =>
  rw [nodesRs, Bool.and_eq_true] at hn;rw [dpVs] at hd;rw [cntVs] at hc;have h1 := Fj v;have h2 := Cy t;have e := S3 v d m hn.1 (by omega) (by omega);rw [mayVs, e, if_pos rfl, Pm t d (m - cntV v) hn.2 (by omega) (by omega), cntVs]
  congr 1
  omega
end
theorem check_of {v : Vl} (h : checkR v = true) : checkV v = true := by
 unfold checkR at h;rw [Bool.and_eq_true, Bool.and_eq_true, decide_eq_true_eq, decide_eq_true_eq] at h;have h1 := (F3 v 20000 (by omega)).2.2 h.1.1;have h2 := (F4 v 60 (by omega)).2.2 h.1.2;unfold checkV;rw [S3 v 1 20000 h.2 (by omega) (by omega)]
theorem Tz (v : Vl) : checkR v = checkV v := by
 rw [Bool.eq_iff_iff];exact ⟨check_of, Ty v⟩
theorem Kb {w : World} {b : Nat} {c0 c1 c2 c3 c4 c5 : Value} {t : TypeId} (h : w.heap[b]? = some (.cells #[c0, c1, c2, c3, c4, c5] t (0, 0))) :
  b < w.heap.size ∧ w.cell? ⟨b, 0, none⟩ = some c0 ∧ w.cell? ⟨b, 1, none⟩ = some c1 ∧ w.cell? ⟨b, 2, none⟩ = some c2 ∧ w.cell? ⟨b, 3, none⟩ = some c3 ∧ w.cell? ⟨b, 4, none⟩ = some c4 ∧ w.cell? ⟨b, 5, none⟩ = some c5 := by
 obtain ⟨h1, h2, h3⟩ := Ao h;exact ⟨h1, h2 0, h2 1, h2 2, h2 3, h2 4, h2 5⟩
end Go.Proofs.YtcofbdjakicojaaGreatDoor
