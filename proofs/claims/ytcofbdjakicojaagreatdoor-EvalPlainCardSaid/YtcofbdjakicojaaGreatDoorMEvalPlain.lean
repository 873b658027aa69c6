/-
  What the library's searches ask of the world.
  What the evaluator makes of nodes, in plain words: a value, and what the names mean then and how many steps are left; or an error and its place; or no word (of what isn't told here).
-/
import Derived.Test.YtcofbdjakicojaaGreatDoorProg
import Derived.Lib.LaidTab
import Derived.Lib.ItoaNum
import Derived.Lib.ParseIntB
import Derived.Test.YtcofbdjakicojaaGreatDoorMSix
namespace Go.Proofs.YtcofbdjakicojaaGreatDoor
open Go Go.RowKit
def Dp (l : List UInt8) (w : World) (e : Ending) (w' : World) : Prop := ∃ o : ByteArray, e = .returned (.string o) ∧ o.data.toList = l ∧ Below w.heap.size w w'
def StdB (w : World) : Prop := ∃ m, w.cell? ⟨0, 0, none⟩ = some (.int .i64 m)
theorem StdB.below {w w' : World} (h : StdB w) (hb : Below w.heap.size w w') : StdB w' := by
 obtain ⟨m, h1⟩ := h;exact ⟨m, (hb.cell (p := ⟨0, 0, none⟩) (block_of_cell h1)).trans h1⟩
def Dq (w : World) : Prop := Lib.TabIs Tryz.prog w "internal/strconv.uint64pow10" .u64 Lib.pow10Tab
theorem Dq.keep {w w' : World} (h : Dq w) (hk : w'.heap[3]? = w.heap[3]?) : Dq w' := by
 unfold Dq Lib.TabIs World.var? at *;have hg : Tryz.prog.globalNamed "internal/strconv.uint64pow10" = some 3 := (by kernel_rfl);rw [hg, Option.bind_some] at h ⊢;rw [hk];exact h
theorem Dq.here {w : World} (h : Dq w) : 3 < w.heap.size := by
 unfold Dq Lib.TabIs World.var? at h;have hg : Tryz.prog.globalNamed "internal/strconv.uint64pow10" = some 3 := (by kernel_rfl);rw [hg, Option.bind_some] at h;by_cases hl : 3 < w.heap.size
 ·exact hl
 ·rw [Array.getElem?_eq_none (by omega)] at h;cases h
theorem Dq.below {w w' : World} (h : Dq w) (hb : Below w.heap.size w w') : Dq w' := h.keep (hb.block _ h.here)
structure Ask where
 name : ByteArray
 args : List (ByteArray × Vl)
 ln : Int
 cl : Int
abbrev Ans := List Ask → Ask → Option (Except Int Vl)
structure St where
 names : List (ByteArray × Vl)
 left : Int
 log : List Ask
inductive ER (α : Type) where
 | ok (x : α) (st : St)
 | err (e l c : Int)
 | out
def EM (α : Type) := St → ER α
namespace EM
def pure {α : Type} (x : α) : EM α := fun st => .ok x st
def bind {α β : Type} (m : EM α) (f : α → EM β) : EM β := fun st => match m st with | .ok x st' => f x st' | .err a b c => .err a b c | .out => .out
end EM
theorem C7 {α β : Type} {m : EM α} {f : α → EM β} {st st' : St} {x : α} (h : m st = .ok x st') : EM.bind m f st = f x st' := by unfold EM.bind; rw [h]
theorem Bo {α β : Type} {m : EM α} {f : α → EM β} {st : St} {a b c : Int} (h : m st = .err a b c) : EM.bind m f st = .err a b c := by unfold EM.bind; rw [h]
theorem A1 {α β : Type} {m : EM α} {f : α → EM β} {st : St} (h : m st = .out) : EM.bind m f st = .out := by unfold EM.bind; rw [h]
def Eb (m : List (ByteArray × Vl)) (s : ByteArray) : Option Vl := (m.find? fun p => p.1.data.toList == s.data.toList).map (·.2)
def putN : List (ByteArray × Vl) → ByteArray → Vl → List (ByteArray × Vl)
 | [], s, v => [(s, v)]
 | p :: t, s, v => if p.1.data.toList == s.data.toList then (s, v) :: t else p :: putN t s v
def ndZero : Nd := .mk 0 ⟨#[]⟩ 0 0 []
def Ck (n : Nd) (i : Nat) : Nd := (n.kids[i]?).getD ndZero
def Nd.ln : Nd → Int | .mk _ _ l _ _ => l
def Nd.cl : Nd → Int | .mk _ _ _ c _ => c
def Bh (s : ByteArray) : Option Vl :=
 if s.data.toList = [116, 114, 117, 101] then some (.mk 1 1 ⟨#[]⟩ [] []) else if s.data.toList = [102, 97, 108, 115, 101] then some (.mk 1 0 ⟨#[]⟩ [] []) else if s.data.toList = [110, 111, 110, 101] then some vZero else none
def Kj (s : ByteArray) : Option Int :=
 match Lib.parseIntB 64 s.data.toList with
 | .ok v => if inR v = true ∧ s.size ≤ 65536 ∧ Lib.itoa v = s.data.toList then some v else none
 | _ => none
theorem numOf_in {s : ByteArray} {v : Int} (h : Kj s = some v) : inR v = true := by
 unfold Kj at h;split at h
 ·split at h
  ·rename_i hc
   cases h;exact hc.1
  ·cases h
 ·cases h
def eFail {α : Type} (e l c : Int) : EM α := fun _ => .err e l c
def eOut {α : Type} : EM α := fun _ => .out
def Dg (l c : Int) : EM Unit := fun st => if st.left ≤ 0 then .err 12 l c else .ok () { st with left := st.left - 1 }
def Gw (s : ByteArray) (v : Vl) (l c : Int) : EM Unit := fun st => if (Bh s).isSome then .err 7 l c else .ok () { st with names := putN st.names s v }
def Gx (v : Vl) (l c : Int) : EM Vl := if checkV v then EM.pure v else eFail 6 l c
def F7 (ex : Nd → EM Vl) : List Nd → List Vl → EM (List Vl)
 | [], acc => EM.pure acc
 | k :: t, acc => EM.bind (ex k) fun x => F7 ex t (acc ++ [x])
def B9 (v : Vl) : Bool := v.kind == 2 && decide (-1000000 ≤ v.num) && decide (v.num ≤ 1000000) && checkV v
def eSum (a b : Vl) (_l _c : Int) : EM Vl := if B9 a && B9 b then EM.pure (.mk 2 (a.num + b.num) ⟨#[]⟩ [] []) else eOut
def eOp (ex : Nd → EM Vl) (n : Nd) : EM Vl :=
 if n.text.data.toList = [43] then EM.bind (ex (Ck n 0)) fun a => EM.bind (ex (Ck n 1)) fun b => eSum a b n.ln n.cl else eOut
def eArgs (ex : Nd → EM Vl) : List Nd → List (ByteArray × Vl) → EM (List (ByteArray × Vl))
 | [], acc => EM.pure acc
 | n :: t, acc => EM.bind (ex (Ck n 0)) fun x => eArgs ex t (acc ++ [(n.text, x)])
def eAsk (ans : Ans) (q : Ask) : EM Vl := fun st => match ans st.log q with
 | none => .out
 | some (.error y) => .err y q.ln q.cl
 | some (.ok x) => if checkV x then .ok x { st with log := st.log ++ [q] } else .err 1 q.ln q.cl
def eCall (_ : Ans) (_ : Nd → EM Vl) (_ : Nd) : EM Vl := eOut
def P0 (_ans : Ans) (ex : Nd → EM Vl) (n : Nd) : EM Vl := EM.bind (Dg n.ln n.cl) fun _ => fun st =>
 if n.kind = 9 then
  match Bh n.text with
  | some v => .ok v st
  | none => match Eb st.names n.text with
   | some v => .ok v st
   | none => .err 7 n.ln n.cl
 else if n.kind = 10 then match Kj n.text with
  | some x => .ok (.mk 2 x ⟨#[]⟩ [] []) st
  | none => .out
 else if n.kind = 12 then EM.bind (F7 ex n.kids []) (fun l => Gx (.mk 4 0 ⟨#[]⟩ l []) n.ln n.cl) st
 else if n.kind = 16 then eOp ex n st
 else .out
def Cd (sm : Nd → EM Unit) : List Nd → EM Unit
 | [] => EM.pure ()
 | n :: t => EM.bind (sm n) fun _ => Cd sm t
def Ie (sm : Nd → EM Unit) (n : Nd) (body : List Nd) : List Vl → EM Unit
 | [] => EM.pure ()
 | x :: t => EM.bind (Gw n.text x n.ln n.cl) fun _ => EM.bind (Cd sm body) fun _ => Ie sm n body t
def eFor (ex : Nd → EM Vl) (sm : Nd → EM Unit) (n : Nd) : EM Unit := EM.bind (ex (Ck n 0)) fun v =>
 if v.kind = 4 then Ie sm n (Ck n 1).kids v.items else eFail 9 (Ck n 0).ln (Ck n 0).cl
def P1 (ex : Nd → EM Vl) (sm : Nd → EM Unit) (n : Nd) : EM Unit := EM.bind (Dg n.ln n.cl) fun _ =>
 if n.kind = 2 then EM.bind (ex (Ck n 0)) fun v => Gw n.text v n.ln n.cl
 else if n.kind = 4 then eFor ex sm n
 else eOut
def Oj (ans : Ans) : Nat → Nd → EM Vl
 | 0, _ => eOut
 | f + 1, n => P0 ans (Oj ans f) n
def Jr (ans : Ans) : Nat → Nd → EM Unit
 | 0, _ => eOut
 | f + 1, n => P1 (Oj ans f) (Jr ans f) n
def eRun (ans : Ans) (f : Nat) (l : List Nd) (steps : Int) : ER Unit := Cd (Jr ans f) l ⟨[], steps, []⟩
end Go.Proofs.YtcofbdjakicojaaGreatDoor
