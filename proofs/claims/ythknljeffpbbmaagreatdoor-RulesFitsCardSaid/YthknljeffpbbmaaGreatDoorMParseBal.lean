/-
  Common ground of the walks: what a slice of strings reads as; small facts on bytes, indexes, and worlds.
  What the lexer makes of a text, in plain words.
  The walks of the lexer's small functions: the classes of bytes, and how far a text is of one.
  What the parser makes of tokens, in plain words: what is taken, what is left, how deep it stands; or where it breaks off; or no word (too little fuel, or a token taken where there is none).
  The parser comes back as deep as it was: in plain words.
-/
import Derived.Test.YthknljeffpbbmaaGreatDoorProg
import Derived.WalkKit
import Derived.WalkSpells
import Derived.WalkLawsBesides
import Derived.Deep.QuietTactic
import Derived.BigQuiet
import Derived.Outline
import Derived.Lib.Hide
import Derived.Lib.TrimByte
import Derived.Deep.RegionWith
namespace Go.Proofs.YthknljeffpbbmaaGreatDoor
open Go.RowKit

theorem ret_bool {a b : Bool} (h : a = b) : Ending.returned (.bool a) = .returned (.bool b) := by rw [h]
theorem ret_int {k : IntKind} {a b : Int} (h : a = b) : Ending.returned (.int k a) = .returned (.int k b) := by rw [h]
theorem get_data (p : ByteArray) (i : Nat) (h : i < p.size) : p.data.toList[i]? = some p[i] := by
  rw [Array.getElem?_toList, Array.getElem?_eq_getElem h]; rfl
theorem len_data (p : ByteArray) : p.data.toList.length = p.size := Array.length_toList
theorem drop_data (p : ByteArray) (i : Nat) : (p.extract i p.size).data.toList = p.data.toList.drop i := by
  rw [Lib.extract_data, List.take_of_length_le (by rw [List.length_drop, len_data]; omega)]
theorem u8_eq {a b : UInt8} : ((a.toNat : Int) == (b.toNat : Int)) = (a == b) := by
  rw [Bool.eq_iff_iff, beq_iff_eq, beq_iff_eq, Int.ofNat_inj, UInt8.toNat_inj]
theorem u8_eq_num {a : UInt8} {n : Nat} (hn : n < 256) : ((a.toNat : Int) == (n : Int)) = (a == UInt8.ofNat n) := by
  rw [Bool.eq_iff_iff, beq_iff_eq, beq_iff_eq, Int.ofNat_inj, ← UInt8.toNat_inj, UInt8.toNat_ofNat', Nat.mod_eq_of_lt hn]
theorem bytes_ext {a b : ByteArray} (h : a.data.toList = b.data.toList) : a = b := by
  cases a; cases b; simp only [ByteArray.mk.injEq]; exact Array.toList_inj.1 h

theorem below_drewN {B : Nat} {w w' : World} (h : Below B w w') (n : Nat) : Below B w (w'.drewN n) := ⟨h.os, h.tape, h.output, h.size, h.block⟩
/-- THE STRINGS OF A SLICE: its address (nil, where there are none) and what its cells hold. -/
def StrsAt (w : World) (a : Option Addr) (l : List ByteArray) : Prop :=
  ∀ (j : Nat) x, l[j]? = some x → ∃ b off, a = some ⟨b, off, none⟩ ∧ w.cell? ⟨b, off + j, none⟩ = some (.string x)
theorem block_of_cell {w : World} {b off : Nat} {v : Value} (h : w.cell? ⟨b, off, none⟩ = some v) : b < w.heap.size := by
  unfold World.cell? at h
  by_cases hb : b < w.heap.size
  · exact hb
  · rw [Array.getElem?_eq_none (by simpa using hb)] at h
    cases h
theorem StrsAt.below {w w' : World} {a : Option Addr} {l : List ByteArray} (h : StrsAt w a l) (hb : Below w.heap.size w w') : StrsAt w' a l := by
  intro j x hx
  obtain ⟨b, off, ha, hc⟩ := h j x hx
  exact ⟨b, off, ha, by rw [hb.cell (p := ⟨b, off + j, none⟩) (block_of_cell hc)]; exact hc⟩
theorem StrsAt.nil (w : World) (a : Option Addr) : StrsAt w a [] := by intro j x h; cases h
theorem StrsAt.at {w : World} {a : Option Addr} {l : List ByteArray} (h : StrsAt w a l) {k : Nat} (hk : k < l.length) :
    ∃ b off, a = some ⟨b, off, none⟩ ∧ w.cell? ⟨b, off + k, none⟩ = some (.string l[k]) := h k _ (List.getElem?_eq_getElem hk)

/-- What a function hands on to whoever looks for the first of a row: q k, of the element at k; I, what stands when k have been asked. -/
def Found (q : Nat → Bool) (n : Nat) (I : Nat → World → Prop) (e : Ending) (w : World) : Prop :=
  (∃ i, i < n ∧ q i = true ∧ (∀ j, j < i → q j = false) ∧ e = .returned (.int .i64 (i : Nat)) ∧ I (i + 1) w) ∨
    ((∀ j, j < n → q j = false) ∧ e = .returned (.int .i64 (-1)) ∧ I n w)
def FoundB (q : Nat → Bool) (n : Nat) (I : Nat → World → Prop) (e : Ending) (w : World) : Prop :=
  (∃ i, i < n ∧ q i = true ∧ (∀ j, j < i → q j = false) ∧ e = .returned (.bool true) ∧ I (i + 1) w) ∨
    ((∀ j, j < n → q j = false) ∧ e = .returned (.bool false) ∧ I n w)

end Go.Proofs.YthknljeffpbbmaaGreatDoor
namespace Go.Proofs.YthknljeffpbbmaaGreatDoor
open Go Go.RowKit

/-- The classes of bytes, as the walk spells them. -/
def isGap (c : UInt8) : Bool := ((c.toNat : Int) == 32) || ((c.toNat : Int) == 9) || ((c.toNat : Int) == 10) || ((c.toNat : Int) == 13)
def isDigit (c : UInt8) : Bool := decide ((48 : Int) ≤ c.toNat) && decide ((c.toNat : Int) ≤ 57)
def isLetter (c : UInt8) : Bool := (decide ((97 : Int) ≤ c.toNat) && decide ((c.toNat : Int) ≤ 122)) || (decide ((65 : Int) ≤ c.toNat) && decide ((c.toNat : Int) ≤ 90)) || ((c.toNat : Int) == 95)
def isLine (c : UInt8) : Bool := (c.toNat : Int) != 10
def isWordy (c : UInt8) : Bool := isLetter c || isDigit c

/-- How many bytes a text begins with that are such. -/
def runL (p : UInt8 → Bool) (l : List UInt8) : Nat := (l.takeWhile p).length

/-- What a text says behind its opening quote, and how many bytes it has from there on, the closing quote with them. -/
def unescape (c : UInt8) : Option UInt8 := if c = 34 then some 34 else if c = 92 then some 92 else if c = 110 then some 10 else none
def quotedL : List UInt8 → Option (List UInt8 × Nat)
  | [] => none
  | c :: t =>
    if c = 34 then some ([], 1)
    else if c < 32 ∨ c = 127 then none
    else if c = 92 then
      match t with
      | [] => none
      | d :: t' => (unescape d).bind fun e => (quotedL t').map fun r => (e :: r.1, r.2 + 2)
    else (quotedL t).map fun r => (c :: r.1, r.2 + 1)

/-- The number that digits say. -/
def natOf (l : List UInt8) : Nat := l.foldl (fun n c => 10 * n + (c.toNat - 48)) 0

/-- A token: its kind, its text, its place. -/
structure Tok where
  kind : Int
  text : ByteArray
  line : Int
  col : Int

def numberL (l : List UInt8) : Except Int (Int × List UInt8 × Nat) :=
  if 1 < runL isDigit l ∧ l.head? = some 48 then .error 3
  else if 9223372036854775807 < natOf (l.takeWhile isDigit) then .error 2
  else .ok (2, l.takeWhile isDigit, runL isDigit l)
/-- What a text begins with: the kind (0: a gap), what it says, and how many bytes it has; or the error's number. -/
def nextL (l : List UInt8) : Except Int (Int × List UInt8 × Nat) :=
  match l with
  | [] => .error 3
  | c :: t =>
    if isGap c then .ok (0, [], runL isGap l)
    else if c = 35 then .ok (0, [], runL isLine l)
    else if isLetter c then .ok (1, l.takeWhile isWordy, runL isWordy l)
    else if isDigit c then numberL l
    else if c = 34 then
      match quotedL t with
      | some r => .ok (3, r.1, r.2 + 1)
      | none => .error 3
    else if l.take 2 = [61, 61] ∨ l.take 2 = [33, 61] then .ok (4, l.take 2, 2)
    else if c ∈ ([61, 43, 40, 41, 91, 93, 123, 125, 44, 58, 59] : List UInt8) then .ok (4, [c], 1)
    else .error 3

/-- The place behind bytes. -/
def behindLast (l : List UInt8) : Nat := (l.reverse.takeWhile (· ≠ 10)).length
def passL (p : Int × Int) (l : List UInt8) : Int × Int :=
  if 0 < l.count 10 then (p.1 + l.count 10, behindLast l + 1) else (p.1, p.2 + l.length)

/-- The tokens of a text, from a place on; or the error's number, and its place. -/
def tokensL : Nat → Int × Int → List UInt8 → Except (Int × Int × Int) (List Tok)
  | 0, _, _ => .ok []
  | f + 1, p, l =>
    if l = [] then .ok []
    else match nextL l with
      | .error e => .error (e, p.1, p.2)
      | .ok (k, s, n) =>
        match tokensL f (passL p (l.take n)) (l.drop n) with
        | .error e => .error e
        | .ok ts => .ok (if 0 < k then ⟨k, ⟨s.toArray⟩, p.1, p.2⟩ :: ts else ts)
def lexL (l : List UInt8) : Except (Int × Int × Int) (List Tok) :=
  if 65536 < l.length then .error (6, 1, 1) else tokensL (l.length + 1) (1, 1) l

end Go.Proofs.YthknljeffpbbmaaGreatDoor
namespace Go.Proofs.YthknljeffpbbmaaGreatDoor
open Go Go.RowKit

def RetB (b : Bool) (w : World) (e : Ending) (w' : World) : Prop := e = .returned (.bool b) ∧ w = w'

theorem gap_any (c : UInt8) (w : World) : Calls Tryz.prog 141 #[.int .u8 c.toNat] w (RetB (isGap c) w) := by
  go_enter Tryz.func141, Tryz.ntmps141
  go_wp2_with fail
  all_goals
    go_ret
    exact ⟨ret_bool (by first | (simp [isGap, *]; done) | (simp_all [isGap]; done) | (rw [Bool.eq_iff_iff]; simp [isGap]; omega)), rfl⟩
theorem digit_any (c : UInt8) (w : World) : Calls Tryz.prog 146 #[.int .u8 c.toNat] w (RetB (isDigit c) w) := by
  go_enter Tryz.func146, Tryz.ntmps146
  go_wp2_with fail
  all_goals
    go_ret
    exact ⟨ret_bool (by first | (simp [isDigit, *]; done) | (simp_all [isDigit]; done) | (rw [Bool.eq_iff_iff]; simp [isDigit]; omega)), rfl⟩
theorem letter_any (c : UInt8) (w : World) : Calls Tryz.prog 144 #[.int .u8 c.toNat] w (RetB (isLetter c) w) := by
  go_enter Tryz.func144, Tryz.ntmps144
  go_wp2_with fail
  all_goals
    go_ret
    exact ⟨ret_bool (by first | (simp [isLetter, *]; done) | (simp_all [isLetter]; done) | (rw [Bool.eq_iff_iff]; simp [isLetter]; omega)), rfl⟩
theorem line_any (c : UInt8) (w : World) : Calls Tryz.prog 143 #[.int .u8 c.toNat] w (RetB (isLine c) w) := by
  go_enter Tryz.func143, Tryz.ntmps143
  go_wp2_with fail
  go_ret
  exact ⟨rfl, rfl⟩
theorem wordy_any (c : UInt8) (w : World) : Calls Tryz.prog 145 #[.int .u8 c.toNat] w (RetB (isWordy c) w) := by
  cases h1 : isLetter c
  · cases h2 : isDigit c
    all_goals
      have H1 := Lib.hid h1
      have H2 := Lib.hid h2
      clear h1 h2
      go_enter Tryz.func145, Tryz.ntmps145
      go_wp2_with fail
      refine (letter_any c _).mono ?_
      rintro e w' ⟨rfl, rfl⟩
      rw [H1.out]
      go_wp2_with fail
      refine (digit_any c _).mono ?_
      rintro e w' ⟨rfl, rfl⟩
      rw [H2.out]
      go_wp2_with fail
      go_ret
      exact ⟨by unfold isWordy; rw [H1.out, H2.out]; rfl, rfl⟩
  · have H1 := Lib.hid h1
    clear h1
    go_enter Tryz.func145, Tryz.ntmps145
    go_wp2_with fail
    refine (letter_any c _).mono ?_
    rintro e w' ⟨rfl, rfl⟩
    rw [H1.out]
    go_wp2_with fail
    go_ret
    exact ⟨by unfold isWordy; rw [H1.out]; rfl, rfl⟩

theorem runL_split {p : UInt8 → Bool} {l : List UInt8} {k : Nat} (h : ∀ j, j < k → ∀ y, l[j]? = some y → p y = true) (hk : k ≤ l.length) : runL p l = k + runL p (l.drop k) := by
  induction k generalizing l with
  | zero => simp [runL]
  | succ k ih =>
    cases l with
    | nil => simp at hk
    | cons x t =>
      have hx := h 0 (by omega) x rfl
      have := ih (l := t) (fun j hj y hy => h (j + 1) (by omega) y (by simpa using hy)) (by simpa using hk)
      unfold runL at this ⊢
      rw [List.takeWhile_cons_of_pos hx, List.length_cons, this, List.drop_succ_cons]
      omega
theorem runL_le (p : UInt8 → Bool) (l : List UInt8) : runL p l ≤ l.length := by
  unfold runL
  induction l with
  | nil => simp
  | cons x t ih => rw [List.takeWhile_cons]; split <;> simp <;> omega
theorem take_runL (p : UInt8 → Bool) (l : List UInt8) : l.take (runL p l) = l.takeWhile p := by
  unfold runL
  induction l with
  | nil => rfl
  | cons x t ih =>
    rw [List.takeWhile_cons]
    split
    · rw [List.length_cons, List.take_succ_cons, ih]
    · rfl

set_option maxRecDepth 100000 in
theorem run_any (p : UInt8 → Bool) (f : Nat) (hf : ∀ (c : UInt8) (w : World), Calls Tryz.prog f #[.int .u8 c.toNat] w (RetB (p c) w)) (henter : ∀ (args : Array Value) (w : World), (callFunc f args).run Tryz.prog w = .ok (.enter f args) w) (s : ByteArray) (w : World) (hs : s.size ≤ 9223372036854775807) :
    Calls Tryz.prog 142 #[.string s, .func (.func f) #[] #[]] w (fun e w' => e = .returned (.int .i64 (runL p s.data.toList)) ∧ w = w') := by
  have Hf := Lib.hid hf
  clear hf
  go_enter Tryz.func142, Tryz.ntmps142
  go_wp2_with fail
  go_loopw [5] (fun i wr => ∃ k : Nat, i = .int .i64 k ∧ k ≤ s.size ∧ wr = w ∧ Hid (∀ j, j < k → ∀ y, s.data.toList[j]? = some y → p y = true)) (fun i _ => s.size - (intOf i).toNat)
  case atStart => exact ⟨0, rfl, Nat.zero_le _, rfl, Lib.hid (fun j hj => by omega)⟩
  case round =>
    obtain ⟨k, rfl, hk, rfl, hall⟩ := hrel
    by_cases hlt : k < s.size
    · have Hk := Lib.hid (get_data s k hlt)
      have hd : decide ((k : Int) < (s.size : Int)) = true := by simp; omega
      cases hp : p s[k]
      · have Hp := Lib.hid hp
        clear hp
        have Hr : Hid (runL p s.data.toList = k) := Lib.hid (by
          rw [runL_split hall.out (by rw [len_data]; omega), List.drop_eq_getElem_cons (by rw [len_data]; exact hlt)]
          have : s.data.toList[k]'(by rw [len_data]; exact hlt) = s[k] := rfl
          rw [this, runL, List.takeWhile_cons_of_neg (by rw [Hp.out]; simp)]; rfl)
        go_wp2_with fail
        refine (Hf.out s[k] _).mono ?_
        rintro e w' ⟨rfl, rfl⟩
        rw [Hp.out]
        go_wp2_with fail
        go_ret
        exact ⟨ret_int (by rw [Hr.out]), rfl⟩
      · have Hp := Lib.hid hp
        clear hp
        have Hn : Hid (∀ j, j < k + 1 → ∀ y, s.data.toList[j]? = some y → p y = true) := Lib.hid (fun j hj y hy => by
          by_cases hjk : j < k
          · exact hall.out j hjk y hy
          · obtain rfl : j = k := by omega
            rw [Hk.out] at hy
            cases hy
            exact Hp.out)
        go_wp2_with fail
        refine (Hf.out s[k] _).mono ?_
        rintro e w' ⟨rfl, rfl⟩
        rw [Hp.out]
        go_wp2_with fail
        go_roundw
        case rel => exact ⟨k + 1, by go_num, by omega, by trivial, Hn⟩
        case measure => simp only [intOf]; omega
    · have Hr : Hid (runL p s.data.toList = k) := Lib.hid (by
        rw [runL_split hall.out (by rw [len_data]; omega), List.drop_of_length_le (by rw [len_data]; omega)]; rfl)
      have hd : decide ((k : Int) < (s.size : Int)) = false := by simp; omega
      go_wp2_with fail
      go_ret
      exact ⟨ret_int (by rw [Hr.out]), rfl⟩
end Go.Proofs.YthknljeffpbbmaaGreatDoor
namespace Go.Proofs.YthknljeffpbbmaaGreatDoor
open Go Go.RowKit

/-- A node. -/
inductive Nd where
  | mk (kind : Int) (text : ByteArray) (line col : Int) (kids : List Nd)
def Nd.kids : Nd → List Nd | .mk _ _ _ _ l => l
def Nd.text : Nd → ByteArray | .mk _ t _ _ _ => t
def Nd.kind : Nd → Int | .mk k _ _ _ _ => k

inductive PR (α : Type) where
  | ok (x : α) (ts : List Tok) (dp : Int)
  | err (e l c : Int)
  | out
def PM (α : Type) := List Tok → Int → PR α
namespace PM
def pure {α : Type} (x : α) : PM α := fun ts d => .ok x ts d
def bind {α β : Type} (m : PM α) (f : α → PM β) : PM β := fun ts d => match m ts d with | .ok x ts' d' => f x ts' d' | .err a b c => .err a b c | .out => .out
end PM

abbrev bs (l : List UInt8) : ByteArray := ⟨l.toArray⟩

section
variable (en : Int × Int)

def tokAt (ts : List Tok) (n : Nat) : Tok := (ts[n]?).getD ⟨0, ⟨#[]⟩, en.1, en.2⟩
def isSign (ts : List Tok) (n : Nat) (s : List UInt8) : Bool := (tokAt en ts n).kind == 4 && (tokAt en ts n).text.data.toList == s
def isWordT (ts : List Tok) (s : List UInt8) : Bool := (tokAt en ts 0).kind == 1 && (tokAt en ts 0).text.data.toList == s
def reservedL : List (List UInt8) := [[102, 111, 114], [105, 110], [105, 102], [101, 108, 115, 101], [114, 117, 108, 101], [110, 111, 116]]
def typesL : List (List UInt8) := [[116, 101, 120, 116], [98, 111, 111, 108], [105, 110, 116], [116, 101, 120, 116, 115], [102, 105, 108, 101, 115], [108, 97, 98, 101, 108, 115]]
def isNameT (ts : List Tok) : Bool := (tokAt en ts 0).kind == 1 && !reservedL.contains (tokAt en ts 0).text.data.toList

def pFail {α : Type} (e : Int) : PM α := fun ts _ => .err e (tokAt en ts 0).line (tokAt en ts 0).col
def pTake (is : Bool) : PM Tok := fun ts d => if is then (match ts with | [] => .out | t :: r => .ok t r d) else pFail en 3 ts d
def pEat (s : List UInt8) : PM Unit := fun ts d => PM.bind (pTake en (isSign en ts 0 s)) (fun _ => PM.pure ()) ts d
def pOpen (is : Bool) : PM Tok := fun ts d => if is && decide (60 ≤ d) then pFail en 6 ts d else pTake en is ts (d + 1)
def pDown : PM Unit := fun ts d => .ok () ts (d - 1)
def pClose (s : List UInt8) : PM Unit := PM.bind (pEat en s) fun _ => pDown
/-- What the next tokens say, whatever it is. -/
def pLook {α : Type} (f : List Tok → PM α) : PM α := fun ts d => f ts ts d

def nodeT (kind : Int) (t : Tok) (text : ByteArray) (kids : List Nd) : Nd := .mk kind text t.line t.col kids

/-- What stands between commas, up to a sign. -/
def pListGo (to : List UInt8) (one : PM (List Nd)) : Nat → List Nd → PM (List Nd)
  | 0, _ => fun _ _ => .out
  | f + 1, acc => pLook fun ts =>
    if isSign en ts 0 to then PM.pure acc
    else PM.bind (if acc = [] then PM.pure () else pEat en [44]) fun _ => PM.bind one fun l => pListGo to one f (acc ++ l)
def pList (to : List UInt8) (one : PM (List Nd)) : PM (List Nd) := fun ts d => pListGo en to one (ts.length + 1) [] ts d

/-- What calls itself by way of others. -/
structure Lvl where
  expr : PM Nd
  prim : PM Nd
  stmt : PM Nd

variable (L : Lvl)

def pArg : PM Nd := pLook fun ts =>
  if isNameT en ts && isSign en ts 1 [61] then
    PM.bind (pTake en true) fun _ => PM.bind (pEat en [61]) fun _ => PM.bind L.expr fun x => PM.pure (nodeT 15 (tokAt en ts 0) (tokAt en ts 0).text [x])
  else PM.bind L.expr fun x => PM.pure (nodeT 15 (tokAt en ts 0) ⟨#[]⟩ [x])
def pCall : PM Nd := pLook fun ts =>
  PM.bind (pTake en (isNameT en ts)) fun name => pLook fun ts =>
  PM.bind (pOpen en (isSign en ts 0 [40])) fun _ =>
  PM.bind (pList en [41] (PM.bind (pArg en L) fun x => PM.pure [x])) fun kids =>
  PM.bind (pClose en [41]) fun _ => PM.pure (nodeT 14 name name.text kids)
def pEntry : PM (List Nd) := pLook fun ts =>
  PM.bind (pTake en ((tokAt en ts 0).kind == 3)) fun t => PM.bind (pEat en [58]) fun _ => PM.bind L.expr fun x => PM.pure [nodeT 11 t t.text [], x]
def pPrim : PM Nd := pLook fun ts =>
  let t := tokAt en ts 0
  if t.kind == 3 then PM.bind (pTake en true) fun _ => PM.pure (nodeT 11 t t.text [])
  else if t.kind == 2 then PM.bind (pTake en true) fun _ => PM.pure (nodeT 10 t t.text [])
  else if isNameT en ts && isSign en ts 1 [40] then pCall en L
  else if isNameT en ts then PM.bind (pTake en true) fun _ => PM.pure (nodeT 9 t t.text [])
  else if isWordT en ts [110, 111, 116] then
    PM.bind (pOpen en true) fun _ => PM.bind L.prim fun x => PM.bind pDown fun _ => PM.pure (nodeT 16 t (bs [110, 111, 116]) [x])
  else if isSign en ts 0 [91] then
    PM.bind (pOpen en true) fun _ => PM.bind (pList en [93] (PM.bind L.expr fun x => PM.pure [x])) fun l => PM.bind (pClose en [93]) fun _ => PM.pure (nodeT 12 t ⟨#[]⟩ l)
  else if isSign en ts 0 [123] then
    PM.bind (pOpen en true) fun _ => PM.bind (pList en [125] (pEntry en L)) fun l => PM.bind (pClose en [125]) fun _ => PM.pure (nodeT 13 t ⟨#[]⟩ l)
  else PM.bind (pOpen en (isSign en ts 0 [40])) fun _ => PM.bind L.expr fun x => PM.bind (pClose en [41]) fun _ => PM.pure x

def pSumGo : Nat → Nd → PM Nd
  | 0, _ => fun _ _ => .out
  | f + 1, x => pLook fun ts =>
    if isSign en ts 0 [43] then PM.bind (pTake en true) fun t => PM.bind (pPrim en L) fun y => pSumGo f (nodeT 16 t (bs [43]) [x, y])
    else PM.pure x
def pSum : PM Nd := PM.bind (pPrim en L) fun x ts d => pSumGo en L (ts.length + 1) x ts d
def pExpr : PM Nd := PM.bind (pSum en L) fun x => pLook fun ts =>
  if isSign en ts 0 [61, 61] || isSign en ts 0 [33, 61] || isWordT en ts [105, 110] then
    PM.bind (pTake en true) fun t => PM.bind (pSum en L) fun y => PM.pure (nodeT 16 t t.text [x, y])
  else PM.pure x

/-- Statements, up to a sign (none: to the end). -/
def pStmtsGo (to : List UInt8) : Nat → List Nd → PM (List Nd)
  | 0, _ => fun _ _ => .out
  | f + 1, acc => pLook fun ts =>
    if !ts.isEmpty && (to.isEmpty || !isSign en ts 0 to) then PM.bind L.stmt fun x => pStmtsGo to f (acc ++ [x])
    else PM.pure acc
def pStmts (to : List UInt8) : PM (List Nd) := fun ts d => pStmtsGo en L to (ts.length + 1) [] ts d
def pBlock : PM Nd := pLook fun ts =>
  PM.bind (pOpen en (isSign en ts 0 [123])) fun t => PM.bind (pStmts en L [125]) fun l => PM.bind (pClose en [125]) fun _ => PM.pure (nodeT 8 t ⟨#[]⟩ l)
def pParam : PM Nd := pLook fun ts =>
  PM.bind (pTake en (isNameT en ts)) fun name => PM.bind (pEat en [58]) fun _ => pLook fun ts =>
  PM.bind (pTake en ((tokAt en ts 0).kind == 1 && typesL.contains (tokAt en ts 0).text.data.toList)) fun t => pLook fun ts =>
  if isSign en ts 0 [61] then PM.bind (pEat en [61]) fun _ => PM.bind (pExpr en L) fun x => PM.pure (nodeT 7 name name.text [nodeT 9 t t.text [], x])
  else PM.pure (nodeT 7 name name.text [nodeT 9 t t.text []])
def pRule : PM Nd := PM.bind (pTake en true) fun t => pLook fun ts =>
  PM.bind (pTake en (isNameT en ts)) fun name => PM.bind (pEat en [40]) fun _ =>
  PM.bind (pList en [41] (PM.bind (pParam en L) fun x => PM.pure [x])) fun kids =>
  PM.bind (pEat en [41]) fun _ => PM.bind (pBlock en L) fun b => PM.pure (nodeT 6 t name.text (kids ++ [b]))
def pStmt : PM Nd := pLook fun ts =>
  let t := tokAt en ts 0
  if isWordT en ts [102, 111, 114] then
    PM.bind (pTake en true) fun _ => pLook fun ts => PM.bind (pTake en (isNameT en ts)) fun name => pLook fun ts => PM.bind (pTake en (isWordT en ts [105, 110])) fun _ =>
    PM.bind (pExpr en L) fun x => PM.bind (pBlock en L) fun b => PM.pure (nodeT 4 t name.text [x, b])
  else if isWordT en ts [105, 102] then
    PM.bind (pTake en true) fun _ => PM.bind (pExpr en L) fun x => PM.bind (pBlock en L) fun b => pLook fun ts =>
    if isWordT en ts [101, 108, 115, 101] then PM.bind (pTake en true) fun _ => PM.bind (pBlock en L) fun c => PM.pure (nodeT 5 t ⟨#[]⟩ [x, b, c])
    else PM.pure (nodeT 5 t ⟨#[]⟩ [x, b])
  else if isWordT en ts [114, 117, 108, 101] then pRule en L
  else if isNameT en ts && isSign en ts 1 [40] then PM.bind (pCall en L) fun c => PM.bind (pEat en [59]) fun _ => PM.pure (nodeT 3 t ⟨#[]⟩ [c])
  else PM.bind (pTake en (isNameT en ts)) fun name => PM.bind (pEat en [61]) fun _ => PM.bind (pExpr en L) fun x => PM.bind (pEat en [59]) fun _ => PM.pure (nodeT 2 t name.text [x])

def lvl : Nat → Lvl
  | 0 => ⟨fun _ _ => .out, fun _ _ => .out, fun _ _ => .out⟩
  | f + 1 => ⟨pExpr en (lvl f), pPrim en (lvl f), pStmt en (lvl f)⟩
end

/-- The place of a text's end. -/
def endL (l : List UInt8) : Int × Int := l.foldl (fun p c => if c = 10 then (p.1 + 1, 1) else (p.1, p.2 + 1)) (1, 1)
/-- The file of a text: or the error's number, and its place. (None: no word.) -/
def readL (l : List UInt8) : Option (Except (Int × Int × Int) Nd) :=
  match lexL l with
  | .error e => some (.error e)
  | .ok ts =>
    match pStmts (endL l) (lvl (endL l) (ts.length + 2)) [] ts 0 with
    | .ok x _ _ => some (.ok (.mk 1 ⟨#[]⟩ 1 1 x))
    | .err e a b => some (.error (e, a, b))
    | .out => none

end Go.Proofs.YthknljeffpbbmaaGreatDoor
namespace Go.Proofs.YthknljeffpbbmaaGreatDoor
open Go Go.RowKit

def Inc {α : Type} (k : Int) (m : PM α) : Prop := ∀ ts d x ts' d', m ts d = .ok x ts' d' → d' = d + k
section
variable {α β : Type} {en : Int × Int}
theorem Inc.pure (x : α) : Inc 0 (PM.pure x) := fun ts d y ts' d' h => by cases h; omega
theorem Inc.bind {j k n : Int} {m : PM α} {f : α → PM β} (h1 : Inc j m) (h2 : ∀ x, Inc k (f x)) (hn : j + k = n) : Inc n (PM.bind m f) := by
  intro ts d y ts' d' h
  unfold PM.bind at h
  cases hm : m ts d with
  | ok x t1 d1 =>
    rw [hm] at h
    have e1 := h1 _ _ _ _ _ hm
    have e2 := h2 x _ _ _ _ _ h
    omega
  | err a b c => rw [hm] at h; cases h
  | out => rw [hm] at h; cases h
theorem Inc.look {k : Int} {f : List Tok → PM α} (h : ∀ ts, Inc k (f ts)) : Inc k (pLook f) := fun ts d x ts' d' e => h ts ts d x ts' d' e
theorem Inc.ite {k : Int} {c : Prop} [Decidable c] {m m' : PM α} (h1 : Inc k m) (h2 : Inc k m') : Inc k (if c then m else m') := by split; exact h1; exact h2
theorem Inc.out {k : Int} : Inc k (fun _ _ => (.out : PR α)) := fun ts d x ts' d' h => by cases h
theorem Inc.take (b : Bool) : Inc 0 (pTake en b) := by
  intro ts d x ts' d' h
  unfold pTake at h
  split at h
  · split at h
    · cases h
    · cases h; omega
  · cases h
theorem Inc.open (b : Bool) : Inc 1 (pOpen en b) := by
  intro ts d x ts' d' h
  unfold pOpen at h
  split at h
  · cases h
  · have := Inc.take _ _ _ _ _ _ h; omega
theorem Inc.eat (s : List UInt8) : Inc 0 (pEat en s) := fun ts d x ts' d' h => Inc.bind (Inc.take _) (fun _ => Inc.pure _) rfl ts d x ts' d' h
theorem Inc.down : Inc (-1) pDown := fun ts d x ts' d' h => by cases h; omega
theorem Inc.close (s : List UInt8) : Inc (-1) (pClose en s) := Inc.bind (Inc.eat s) (fun _ => Inc.down) rfl

theorem Inc.listGo {to : List UInt8} {one : PM (List Nd)} (h : Inc 0 one) : ∀ f acc, Inc 0 (pListGo en to one f acc)
  | 0, _ => Inc.out
  | f + 1, _acc => Inc.look fun _ => Inc.ite (Inc.pure _) (Inc.bind (Inc.ite (Inc.pure _) (Inc.eat _)) (fun _ => Inc.bind h (fun _ => Inc.listGo h f _) rfl) rfl)
theorem Inc.list {to : List UInt8} {one : PM (List Nd)} (h : Inc 0 one) : Inc 0 (pList en to one) := fun ts d x ts' d' e => Inc.listGo h _ _ ts d x ts' d' e

structure LInc (L : Lvl) : Prop where
  expr : Inc 0 L.expr
  prim : Inc 0 L.prim
  stmt : Inc 0 L.stmt
variable {L : Lvl} (hL : LInc L)
include hL
theorem Inc.arg : Inc 0 (pArg en L) := Inc.look fun _ => Inc.ite (Inc.bind (Inc.take _) (fun _ => Inc.bind (Inc.eat _) (fun _ => Inc.bind hL.expr (fun _ => Inc.pure _) rfl) rfl) rfl) (Inc.bind hL.expr (fun _ => Inc.pure _) rfl)
theorem Inc.call : Inc 0 (pCall en L) := Inc.look fun _ => Inc.bind (Inc.take _) (fun _ => Inc.look fun _ => Inc.bind (Inc.open _) (fun _ => Inc.bind (Inc.list (Inc.bind (Inc.arg hL) (fun _ => Inc.pure _) rfl)) (fun _ => Inc.bind (Inc.close _) (fun _ => Inc.pure _) rfl) rfl) rfl) rfl
theorem Inc.entry : Inc 0 (pEntry en L) := Inc.look fun _ => Inc.bind (Inc.take _) (fun _ => Inc.bind (Inc.eat _) (fun _ => Inc.bind hL.expr (fun _ => Inc.pure _) rfl) rfl) rfl
theorem Inc.prim : Inc 0 (pPrim en L) := Inc.look fun _ =>
  Inc.ite (Inc.bind (Inc.take _) (fun _ => Inc.pure _) rfl) <| Inc.ite (Inc.bind (Inc.take _) (fun _ => Inc.pure _) rfl) <| Inc.ite (Inc.call hL) <| Inc.ite (Inc.bind (Inc.take _) (fun _ => Inc.pure _) rfl) <|
  Inc.ite (Inc.bind (Inc.open _) (fun _ => Inc.bind hL.prim (fun _ => Inc.bind Inc.down (fun _ => Inc.pure _) rfl) rfl) rfl) <|
  Inc.ite (Inc.bind (Inc.open _) (fun _ => Inc.bind (Inc.list (Inc.bind hL.expr (fun _ => Inc.pure _) rfl)) (fun _ => Inc.bind (Inc.close _) (fun _ => Inc.pure _) rfl) rfl) rfl) <|
  Inc.ite (Inc.bind (Inc.open _) (fun _ => Inc.bind (Inc.list (Inc.entry hL)) (fun _ => Inc.bind (Inc.close _) (fun _ => Inc.pure _) rfl) rfl) rfl) <|
  Inc.bind (Inc.open _) (fun _ => Inc.bind hL.expr (fun _ => Inc.bind (Inc.close _) (fun _ => Inc.pure _) rfl) rfl) rfl
theorem Inc.sumGo : ∀ f x, Inc 0 (pSumGo en L f x)
  | 0, _ => Inc.out
  | f + 1, _ => Inc.look fun _ => Inc.ite (Inc.bind (Inc.take _) (fun _ => Inc.bind (Inc.prim hL) (fun _ => Inc.sumGo f _) rfl) rfl) (Inc.pure _)
theorem Inc.sum : Inc 0 (pSum en L) := Inc.bind (Inc.prim hL) (fun _x ts d y ts' d' e => Inc.sumGo hL _ _ ts d y ts' d' e) rfl
theorem Inc.expr : Inc 0 (pExpr en L) := Inc.bind (Inc.sum hL) (fun _ => Inc.look fun _ => Inc.ite (Inc.bind (Inc.take _) (fun _ => Inc.bind (Inc.sum hL) (fun _ => Inc.pure _) rfl) rfl) (Inc.pure _)) rfl
theorem Inc.stmtsGo (to : List UInt8) : ∀ f acc, Inc 0 (pStmtsGo en L to f acc)
  | 0, _ => Inc.out
  | f + 1, _ => Inc.look fun _ => Inc.ite (Inc.bind hL.stmt (fun _ => Inc.stmtsGo to f _) rfl) (Inc.pure _)
theorem Inc.stmts (to : List UInt8) : Inc 0 (pStmts en L to) := fun ts d x ts' d' e => Inc.stmtsGo hL to _ _ ts d x ts' d' e
theorem Inc.block : Inc 0 (pBlock en L) := Inc.look fun _ => Inc.bind (Inc.open _) (fun _ => Inc.bind (Inc.stmts hL _) (fun _ => Inc.bind (Inc.close _) (fun _ => Inc.pure _) rfl) rfl) rfl
theorem Inc.param : Inc 0 (pParam en L) := Inc.look fun _ => Inc.bind (Inc.take _) (fun _ => Inc.bind (Inc.eat _) (fun _ => Inc.look fun _ => Inc.bind (Inc.take _) (fun _ => Inc.look fun _ =>
  Inc.ite (Inc.bind (Inc.eat _) (fun _ => Inc.bind (Inc.expr hL) (fun _ => Inc.pure _) rfl) rfl) (Inc.pure _)) rfl) rfl) rfl
theorem Inc.rule : Inc 0 (pRule en L) := Inc.bind (Inc.take _) (fun _ => Inc.look fun _ => Inc.bind (Inc.take _) (fun _ => Inc.bind (Inc.eat _) (fun _ => Inc.bind (Inc.list (Inc.bind (Inc.param hL) (fun _ => Inc.pure _) rfl)) (fun _ =>
  Inc.bind (Inc.eat _) (fun _ => Inc.bind (Inc.block hL) (fun _ => Inc.pure _) rfl) rfl) rfl) rfl) rfl) rfl
theorem Inc.stmt : Inc 0 (pStmt en L) := Inc.look fun _ =>
  Inc.ite (Inc.bind (Inc.take _) (fun _ => Inc.look fun _ => Inc.bind (Inc.take _) (fun _ => Inc.look fun _ => Inc.bind (Inc.take _) (fun _ => Inc.bind (Inc.expr hL) (fun _ => Inc.bind (Inc.block hL) (fun _ => Inc.pure _) rfl) rfl) rfl) rfl) rfl) <|
  Inc.ite (Inc.bind (Inc.take _) (fun _ => Inc.bind (Inc.expr hL) (fun _ => Inc.bind (Inc.block hL) (fun _ => Inc.look fun _ => Inc.ite (Inc.bind (Inc.take _) (fun _ => Inc.bind (Inc.block hL) (fun _ => Inc.pure _) rfl) rfl) (Inc.pure _)) rfl) rfl) rfl) <|
  Inc.ite (Inc.rule hL) <|
  Inc.ite (Inc.bind (Inc.call hL) (fun _ => Inc.bind (Inc.eat _) (fun _ => Inc.pure _) rfl) rfl) <|
  Inc.bind (Inc.take _) (fun _ => Inc.bind (Inc.eat _) (fun _ => Inc.bind (Inc.expr hL) (fun _ => Inc.bind (Inc.eat _) (fun _ => Inc.pure _) rfl) rfl) rfl) rfl
end
theorem LInc.lvl (en : Int × Int) : ∀ f, LInc (lvl en f)
  | 0 => ⟨Inc.out, Inc.out, Inc.out⟩
  | f + 1 => ⟨Inc.expr (LInc.lvl en f), Inc.prim (LInc.lvl en f), Inc.stmt (LInc.lvl en f)⟩
end Go.Proofs.YthknljeffpbbmaaGreatDoor
