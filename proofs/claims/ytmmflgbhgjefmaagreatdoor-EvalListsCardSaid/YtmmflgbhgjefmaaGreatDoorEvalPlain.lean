/-
  What the evaluator makes of nodes, in plain words: a value, and what the names mean then and how many steps are left; or an error and its place; or no word (of what isn't told here).
-/
import Derived.Test.YtmmflgbhgjefmaaGreatDoorMParseBal
import Derived.Test.YtmmflgbhgjefmaaGreatDoorMOwnS
import Derived.Lib.ParseIntB
import Derived.Lib.ItoaNum
namespace Go.Proofs.YtmmflgbhgjefmaaGreatDoor
open Go Go.RowKit

structure St where
  names : List (ByteArray × Vl)
  left : Int
inductive ER (α : Type) where
  | ok (x : α) (st : St)
  | err (e l c : Int)
  | out
def EM (α : Type) := St → ER α
namespace EM
def pure {α : Type} (x : α) : EM α := fun st => .ok x st
def bind {α β : Type} (m : EM α) (f : α → EM β) : EM β := fun st => match m st with | .ok x st' => f x st' | .err a b c => .err a b c | .out => .out
end EM
theorem ebind_ok {α β : Type} {m : EM α} {f : α → EM β} {st st' : St} {x : α} (h : m st = .ok x st') : EM.bind m f st = f x st' := by unfold EM.bind; rw [h]
theorem ebind_err {α β : Type} {m : EM α} {f : α → EM β} {st : St} {a b c : Int} (h : m st = .err a b c) : EM.bind m f st = .err a b c := by unfold EM.bind; rw [h]
theorem ebind_out {α β : Type} {m : EM α} {f : α → EM β} {st : St} (h : m st = .out) : EM.bind m f st = .out := by unfold EM.bind; rw [h]

def lookN (m : List (ByteArray × Vl)) (s : ByteArray) : Option Vl := (m.find? fun p => p.1.data.toList == s.data.toList).map (·.2)
def putN : List (ByteArray × Vl) → ByteArray → Vl → List (ByteArray × Vl)
  | [], s, v => [(s, v)]
  | p :: t, s, v => if p.1.data.toList == s.data.toList then (s, v) :: t else p :: putN t s v
def ndZero : Nd := .mk 0 ⟨#[]⟩ 0 0 []
def kidN (n : Nd) (i : Nat) : Nd := (n.kids[i]?).getD ndZero
def Nd.ln : Nd → Int | .mk _ _ l _ _ => l
def Nd.cl : Nd → Int | .mk _ _ _ c _ => c
/-- What is meant always. -/
def fixedV (s : ByteArray) : Option Vl :=
  if s.data.toList = [116, 114, 117, 101] then some (.mk 1 1 ⟨#[]⟩ [] []) else if s.data.toList = [102, 97, 108, 115, 101] then some (.mk 1 0 ⟨#[]⟩ [] []) else if s.data.toList = [110, 111, 110, 101] then some vZero else none
/-- A number of one or two digits. -/
def smallNum (s : ByteArray) : Option Int :=
  match Lib.parseIntB 64 s.data.toList with
  | .ok v => if 0 ≤ v ∧ v < 100 ∧ s.size ≤ 65536 ∧ Lib.decDigits v.toNat = s.data.toList then some v else none
  | _ => none

def eFail {α : Type} (e l c : Int) : EM α := fun _ => .err e l c
def eOut {α : Type} : EM α := fun _ => .out
def eStep (l c : Int) : EM Unit := fun st => if st.left ≤ 0 then .err 12 l c else .ok () { st with left := st.left - 1 }
def ePut (s : ByteArray) (v : Vl) (l c : Int) : EM Unit := fun st => if (fixedV s).isSome then .err 7 l c else .ok () { st with names := putN st.names s v }
def eMade (v : Vl) (l c : Int) : EM Vl := if checkV v then EM.pure v else eFail 6 l c

/-- The items of a list, from the left. -/
def eItems (ex : Nd → EM Vl) : List Nd → List Vl → EM (List Vl)
  | [], acc => EM.pure acc
  | k :: t, acc => EM.bind (ex k) fun x => eItems ex t (acc ++ [x])
/-- The sum of two small numbers; no word of other operands. -/
def smallInt (v : Vl) : Bool := v.kind == 2 && decide (-1000000 ≤ v.num) && decide (v.num ≤ 1000000) && checkV v
def eSum (a b : Vl) (_l _c : Int) : EM Vl := if smallInt a && smallInt b then EM.pure (.mk 2 (a.num + b.num) ⟨#[]⟩ [] []) else eOut
def eOp (ex : Nd → EM Vl) (n : Nd) : EM Vl :=
  if n.text.data.toList = [43] then EM.bind (ex (kidN n 0)) fun a => EM.bind (ex (kidN n 1)) fun b => eSum a b n.ln n.cl else eOut
def eExpr (ex : Nd → EM Vl) (n : Nd) : EM Vl := EM.bind (eStep n.ln n.cl) fun _ => fun st =>
  if n.kind = 9 then
    match fixedV n.text with
    | some v => .ok v st
    | none => match lookN st.names n.text with
      | some v => .ok v st
      | none => .err 7 n.ln n.cl
  else if n.kind = 10 then match smallNum n.text with
    | some x => .ok (.mk 2 x ⟨#[]⟩ [] []) st
    | none => .out
  else if n.kind = 12 then EM.bind (eItems ex n.kids []) (fun l => eMade (.mk 4 0 ⟨#[]⟩ l []) n.ln n.cl) st
  else if n.kind = 16 then eOp ex n st
  else .out

def eBlock (sm : Nd → EM Unit) : List Nd → EM Unit
  | [] => EM.pure ()
  | n :: t => EM.bind (sm n) fun _ => eBlock sm t
def eEach (sm : Nd → EM Unit) (n : Nd) (body : List Nd) : List Vl → EM Unit
  | [] => EM.pure ()
  | x :: t => EM.bind (ePut n.text x n.ln n.cl) fun _ => EM.bind (eBlock sm body) fun _ => eEach sm n body t
def eFor (ex : Nd → EM Vl) (sm : Nd → EM Unit) (n : Nd) : EM Unit := EM.bind (ex (kidN n 0)) fun v =>
  if v.kind = 4 then eEach sm n (kidN n 1).kids v.items else eFail 9 (kidN n 0).ln (kidN n 0).cl
def eStmt (ex : Nd → EM Vl) (sm : Nd → EM Unit) (n : Nd) : EM Unit := EM.bind (eStep n.ln n.cl) fun _ =>
  if n.kind = 2 then EM.bind (ex (kidN n 0)) fun v => ePut n.text v n.ln n.cl
  else if n.kind = 4 then eFor ex sm n
  else eOut

def eExprs : Nat → Nd → EM Vl
  | 0, _ => eOut
  | f + 1, n => eExpr (eExprs f) n
def eStmts : Nat → Nd → EM Unit
  | 0, _ => eOut
  | f + 1, n => eStmt (eExprs f) (eStmts f) n
def eRun (f : Nat) (l : List Nd) (steps : Int) : ER Unit := eBlock (eStmts f) l ⟨[], steps⟩
end Go.Proofs.YtmmflgbhgjefmaaGreatDoor
