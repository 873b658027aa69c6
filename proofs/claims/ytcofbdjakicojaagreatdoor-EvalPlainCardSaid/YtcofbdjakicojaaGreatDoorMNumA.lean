/-
  The walk of the lexer's pass: the place behind bytes.
  The lexer's All in plain words: what a token takes of the text, and how the places grow.
  The walk of the lexer's All: the tokens of a text.
  The parser's state in memory; the walks of its small methods.
  The walks of the parser's small methods: what the next tokens say; take, eat, open, close; a break.
  The walks of the parser's reserved, isType, name.
  The walks of the parser's fail, take, eat, open, close; of node.
  The walks of the parser's eat, open, close; of node.
  The walk of the parser's list: what stands between commas.
  How a method of the parser stands on its way; what it hands back.
  The walk of the parser's stmts: statements up to a sign.
  What the walks of the parser's other methods want: a box of one cell; depth; what hands on.
  A method of the parser that holds a row of its own, which it appends to.
  Walks of the parser: block call1 prim1 rule1. (Printed by parse_gen.py.)
  Walks of the parser: call. (Printed by parse_gen.py.)
  Walks of the parser: entry. (Printed by parse_gen.py.)
  Walks of the parser: arg. (Printed by parse_gen.py.)
  Walks of the parser: expr. (Printed by parse_gen.py.)
  The walk of pack.Num.
-/
import Derived.Lib.LastIndexByte
import Derived.IntWalk
import Derived.RegionTactic
import Derived.Deep.RegionWith
import Derived.Deep.LoopGhost
import Derived.Test.YtcofbdjakicojaaGreatDoorMRefPart
import Derived.Test.YtcofbdjakicojaaGreatDoorMHeldSkip
import Derived.Test.YtcofbdjakicojaaGreatDoorMSix
import Derived.Test.YtcofbdjakicojaaGreatDoorShelf
import Derived.Test.YtcofbdjakicojaaGreatDoorMEvalPlain
namespace Go.Proofs.YtcofbdjakicojaaGreatDoor
open Go Go.RowKit
open List renaming getElem?_eq_getElem → lgE, length_cons → lnC, length_append → lnA, length_map → lnM, length_take → lnT, getElem?_map → lgP, take_of_length_le → ltL, length_nil → lnN, mem_of_getElem? → lgM
open Nat renaming le_refl → nlr, lt_of_lt_of_le → nll, zero_le → nlz, ne_of_lt → nnl
open Go.Lib renaming hid → Lq7, toList_data → Lq8
set_option maxRecDepth 100000
set_option maxHeartbeats 16000000
theorem behindLast_eq (s : ByteArray) (h : 0 < s.data.toList.count 10) : ∃ i : Nat, i < s.size ∧ Lib.lastIndexByte s 10 = (i : Int) ∧ behindLast s.data.toList + 1 = s.size - i := by
 have aG : ∀ (j : Nat) (hj : j < s.size), s.data.toList[j]? = some (s.data[j]!) := fun j hj => by
  have h1 := D1 s j hj;rw [h1];have h2 : s.data[j]! = s.data[j]'hj := getElem!_pos s.data j hj;rw [h2]; rfl
 rcases Lib.lastIndexByte_spec s 10 with ⟨e, hn⟩ | ⟨i, hi, e, hc, hn⟩
 ·exfalso;obtain ⟨j, hj⟩ := List.getElem?_of_mem (List.count_pos_iff.1 h);have aB := (List.getElem?_eq_some_iff.1 hj).1;rw [Af] at aB;rw [aG j aB] at hj;exact hn j aB (by rw [Option.some.inj hj]; rfl)
 ·refine ⟨i, hi, e, ?_⟩;have aH : i < s.data.toList.length := (by rw [Af]; exact hi);have h10 : s.data.toList[i]'aH = 10 := by
   have := aG i hi;rw [lgE aH] at this;rw [Option.some.inj this];exact UInt8.toNat_inj.1 (by show _ = 10; omega)
  have aC : s.data.toList = s.data.toList.take i ++ 10 :: s.data.toList.drop (i + 1) := by
   rw [← h10, ← List.drop_eq_getElem_cons aH, List.take_append_drop]
  have aE : ∀ x ∈ (s.data.toList.drop (i + 1)).reverse, decide (x ≠ 10) = true := by
   intro x hx;rw [List.mem_reverse] at hx;obtain ⟨j, hj⟩ := List.getElem?_of_mem hx;rw [List.getElem?_drop] at hj;have aB := (List.getElem?_eq_some_iff.1 hj).1;rw [Af] at aB;rw [aG _ aB] at hj;have := hn (i + 1 + j) (by omega) aB;rw [Option.some.inj hj] at this;simp;rintro rfl;exact this rfl
  have hb : behindLast s.data.toList = s.size - i - 1 := by
   unfold behindLast;rw [aC, List.reverse_append, List.reverse_cons, List.append_assoc, List.takeWhile_append_of_pos aE, List.singleton_append, List.takeWhile_cons_of_neg (by simp), List.append_nil, List.length_reverse, List.length_drop, Af];omega
  omega
def PPlace (p : Int × Int) (w : World) (e : Ending) (w' : World) : Prop := Below w.heap.size w w' ∧ e = .returned (.agg #[.int .i64 p.1, .int .i64 p.2])
theorem P6 (ln cl : Int) (s : ByteArray) (w : World) (hs : s.size ≤ 65536) (hl0 : 0 ≤ ln) (hl1 : ln ≤ 1000000) (hc0 : 0 ≤ cl) (hc1 : cl ≤ 1000000) :
  Calls Tryz.prog 59 #[.agg #[.int .i64 ln, .int .i64 cl], .string s] w (PPlace (passL (ln, cl) s.data.toList) w) := by
 go_enter Tryz.func59, Tryz.ntmps59;go_wp2_with fail;refine (Tryz.strings_Count_one s 10 _).mono ?_;rintro e w2 ⟨rfl, aF⟩;have aF := aF.symm;subst aF;by_cases hn : 0 < s.data.toList.count 10
 ·obtain ⟨i, hi, aJ, hbl⟩ := behindLast_eq s hn;have aI : s.data.toList.count 10 ≤ s.size := (by rw [← Af]; exact List.count_le_length ..);have Hr : Hid (passL (ln, cl) s.data.toList = (ln + (s.data.toList.count 10 : Int), ((s.size - i : Nat) : Int))) := Lq7 (by unfold passL; rw [if_pos hn, ← hbl]; simp);have aM : ((s.size - i : Nat) : Int) = (s.size : Int) - (i : Int) := (by omega);have Hsi := Lq7 aM;rw [show Lib.countByte s.data.toList 10 = s.data.toList.count 10 from rfl];generalize s.data.toList.count 10 = m0 at hn aI Hr ⊢;have Hli := Lq7 aJ;have hn' : (0 : Int) < (m0 : Int) := (by omega);have hw1 := IntWalk.i64_in (ln + (m0 : Int)) (by omega);clear aJ hbl aM;go_wp2_with fail;refine Ik [10] (by kernel_rfl) (by kernel_rfl) ?_;refine N8 10 (by decide) ?_;simp only [List.take_succ_cons, List.take_zero, List.drop_succ_cons, List.drop_zero]
  repeat (first
   | go_big_quiet_step ((go_at_call 87; exact Calls.quiet_of_same (Tryz.strings_LastIndexByte s 10 (by omega) _)))
   | quiet_step ((go_at_call 87; exact Calls.quiet_of_same (Tryz.strings_LastIndexByte s 10 (by omega) _))))
  refine wpQuiet_nil ?_;refine N9 (by decide) (fun n K hK => ?_);rw [Hli.out];have aF := IntWalk.wrap64_in ((s.size : Int) - (i : Int)) (by omega);go_wp2_with fail;refine Ti (fun m => ?_);go_wp2_with fail;refine bodyPost_ret (v := .agg #[.int .i64 (ln + m0), .int .i64 ((s.size : Int) - (i : Int))]) (by simp [results, Tryz.results59, go_sem]) rfl ?_;rw [Hr.out, Hsi.out];refine ⟨Bk ((Bk (((Below.refl _ _).alloc (nlr _) _).alloc (by simp) _) n).setCell (p := ⟨w.heap.size + 1, 0, none⟩) (by simp) _ |>.setCell (p := ⟨w.heap.size + 1, 1, none⟩) (by simp) _) m, rfl⟩
 ·have aN : Lib.countByte s.data.toList 10 = 0 := (by unfold Lib.countByte; omega);have Hr : Hid (passL (ln, cl) s.data.toList = (ln, cl + s.size)) := Lq7 (by unfold passL; rw [if_neg hn, Af]);rw [aN];clear hn aN;go_wp2_with fail;refine bodyPost_ret (v := .agg #[.int .i64 ln, .int .i64 (cl + s.size)]) (by simp [results, Tryz.results59, go_sem]) rfl ?_;rw [Hr.out];exact ⟨((Below.refl _ _).alloc (nlr _) _).alloc (by simp) _, rfl⟩
theorem quotedL_le : ∀ (f : Nat) (l : List UInt8) (r : List UInt8 × Nat), l.length ≤ f → quotedL l = some r → r.2 ≤ l.length := by
 intro f
 induction f with
 | zero => intro l r hl h; obtain rfl : l = [] := List.length_eq_zero_iff.1 (by omega); cases h
 | succ f ih =>
  intro l r hl h;cases l with
  | nil => cases h
  | cons c t =>
   rw [B5] at h;simp only [lnC] at hl ⊢;split at h
   ·cases h; simp
   split at h
   ·cases h
   split at h
   ·cases t with
    | nil => cases h
    | cons d t' =>
     simp only at h;cases hu : D3 d with
     | none => rw [hu] at h; cases h
     | some u =>
      rw [hu] at h;cases hq : quotedL t' with
      | none => rw [hq] at h; cases h
      | some r' =>
       rw [hq] at h;cases h;have := ih t' r' (by simp at hl; omega) hq;simp only [lnC];omega
   ·cases hq : quotedL t with
    | none => rw [hq] at h; cases h
    | some r' =>
     rw [hq] at h;cases h;have := ih t r' (by omega) hq;simp only;omega
theorem runL_pos {p : UInt8 → Bool} {c : UInt8} {t : List UInt8} (h : p c = true) : 1 ≤ runL p (c :: t) := by unfold runL; rw [List.takeWhile_cons_of_pos h]; simp
theorem Jw {l : List UInt8} {x : Int × List UInt8 × Nat} (h : Bp l = .ok x) : 1 ≤ x.2.2 ∧ x.2.2 ≤ l.length := by
 cases l with
 | nil => cases h
 | cons c t =>
  rw [Bp.eq_def] at h;simp only at h;split at h
  ·rename_i hg; cases h; exact ⟨runL_pos hg, runL_le _ _⟩
  split at h
  ·rename_i _ hc; cases h; exact ⟨runL_pos (by rw [hc]; decide), runL_le _ _⟩
  split at h
  ·rename_i hg; cases h; exact ⟨runL_pos (by unfold isWordy; rw [hg]; rfl), runL_le _ _⟩
  split at h
  ·rename_i hg
   unfold B6 at h;split at h
   ·cases h
   split at h
   ·cases h
   ·cases h; exact ⟨runL_pos hg, runL_le _ _⟩
  split at h
  ·split at h
   ·rename_i r hq; cases h; have := quotedL_le _ _ _ (nlr _) hq; simp only [lnC]; omega
   ·cases h
  split at h
  ·rename_i hp
   cases h;refine ⟨by simp, ?_⟩;cases t with
   | nil => simp at hp
   | cons d t' => simp
  split at h
  ·cases h; simp
  ·cases h
theorem Ui {l : List UInt8} {n : Int} (h : Bp l = .error n) : n = 2 ∨ n = 3 := by
 cases l with
 | nil => cases h; simp
 | cons c t =>
  rw [Bp.eq_def] at h;simp only at h;split at h
  ·cases h
  split at h
  ·cases h
  split at h
  ·cases h
  split at h
  ·unfold B6 at h;split at h
   ·cases h; simp
   split at h
   ·cases h; simp
   ·cases h
  split at h
  ·split at h
   ·cases h
   ·cases h; simp
  split at h
  ·cases h
  split at h
  ·cases h
  ·cases h; simp
theorem Mx (l : List UInt8) (h : 0 < l.count 10) : behindLast l + 1 ≤ l.length := by
 unfold behindLast;have hm : (10 : UInt8) ∈ l.reverse := List.mem_reverse.2 (List.count_pos_iff.1 h);obtain ⟨a, b, aB⟩ := List.append_of_mem hm;have hlen : l.length = a.length + (b.length + 1) := (by rw [← List.length_reverse, aB]; simp);have : ((a ++ 10 :: b).takeWhile (fun x => decide (x ≠ (10 : UInt8)))).length ≤ a.length := by
  clear aB hlen hm
  induction a with
  | nil => simp
  | cons x t ih =>
   rw [List.cons_append, List.takeWhile_cons]; split
   ·simp only [lnC]; exact Nat.succ_le_succ ih
   ·simp
 rw [aB];have h2 := this;simp only [ne_eq] at h2 ⊢;omega
theorem Je {ln cl : Int} {l : List UInt8} {m r : Nat} (h0 : 0 ≤ ln) (h1 : 0 ≤ cl) (h2 : ln + l.length + r ≤ m) (h3 : cl + l.length + r ≤ m) (h4 : l.length + r ≤ m) :
  0 ≤ (passL (ln, cl) l).1 ∧ (passL (ln, cl) l).1 + r ≤ m ∧ 0 ≤ (passL (ln, cl) l).2 ∧ (passL (ln, cl) l).2 + r ≤ m := by
 have hc := List.count_le_length (a := (10 : UInt8)) (l := l);unfold passL;split
 ·rename_i h
  have := Mx l h;simp only;omega
 ·simp only; omega
def Fm (l : List UInt8) (p : Int × Int) (rest : List UInt8) (acc : List Tok) : Prop :=
 ∀ f, rest.length < f → tokensL (l.length + 1) (1, 1) l = (tokensL f p rest).map fun ts => acc ++ ts
theorem tokensL_fuel : ∀ (f g : Nat) (p : Int × Int) (l : List UInt8), l.length < f → l.length < g → tokensL f p l = tokensL g p l
 | 0, _, _, _, h, _ => by omega
 | f + 1, 0, _, _, _, h => by omega
 | f + 1, g + 1, p, l, hf, hg => by
  unfold tokensL;split
  ·rfl
  ·cases hn : Bp l with
   | error e => rfl
   | ok x =>
    obtain ⟨k, s, n⟩ := x;have h1 := Jw hn;simp only at h1 ⊢;rw [tokensL_fuel f g _ (l.drop n) (by rw [List.length_drop]; omega) (by rw [List.length_drop]; omega)]
theorem Fm.start (l : List UInt8) : Fm l (1, 1) l [] := by
 intro f hf;rw [tokensL_fuel (l.length + 1) f _ l (by omega) hf];cases tokensL f (1, 1) l <;> rfl
theorem Fm.stop {l : List UInt8} {p : Int × Int} {acc : List Tok} (h : Fm l p [] acc) : tokensL (l.length + 1) (1, 1) l = .ok acc := by
 rw [h 1 (by simp)];simp [tokensL, Except.map]
theorem Fm.fail {l rest : List UInt8} {p : Int × Int} {acc : List Tok} {e : Int} (h : Fm l p rest acc) (hr : rest ≠ []) (he : Bp rest = .error e) : tokensL (l.length + 1) (1, 1) l = .error (e, p.1, p.2) := by
 rw [h (rest.length + 1) (by omega), tokensL, if_neg hr, he]; rfl
theorem Fm.next {l rest : List UInt8} {p : Int × Int} {acc : List Tok} {x : Int × List UInt8 × Nat} (h : Fm l p rest acc) (hr : rest ≠ []) (he : Bp rest = .ok x) :
  Fm l (passL p (rest.take x.2.2)) (rest.drop x.2.2) (if 0 < x.1 then acc ++ [⟨x.1, ⟨x.2.1.toArray⟩, p.1, p.2⟩] else acc) := by
 obtain ⟨k, s, n⟩ := x;intro f hf;have h1 := Jw he;simp only at h1 hf ⊢;rw [List.length_drop] at hf;rw [h (rest.length + 1) (by omega), tokensL, if_neg hr, he];simp only;rw [tokensL_fuel rest.length f _ (rest.drop n) (by rw [List.length_drop]; omega) (by rw [List.length_drop]; omega)];cases tokensL f (passL p (rest.take n)) (rest.drop n) with
 | error e => rfl
 | ok ts => simp only [Except.map]; split <;> simp
def Jy (t : Tok) : List Dat := [.one (.int .i64 t.kind), .one (.string t.text), .one (.int .i64 t.line), .one (.int .i64 t.col)]
def tokC (t : Tok) : List Value := [.int .i64 t.kind, .string t.text, .int .i64 t.line, .int .i64 t.col]
theorem tokAgg (F : Nat → Prop) (w : World) (t : Tok) : Ah F w (Jy t) (tokC t) := .cons (.one _) (.cons (.one _) (.cons (.one _) (.cons (.one _) .nil)))
theorem infoTok : (Tryz.prog.info? 98).map (fun i => (i.zero, i.size, i.bytes)) = some (some (.agg #[.int .i64 0, .string ByteArray.empty, .int .i64 0, .int .i64 0]), 4, 40) := by kernel_rfl
def PLex (r : Except (Int × Int × Int) (List Tok)) (w : World) (e : Ending) (w' : World) : Prop :=
 Below w.heap.size w w' ∧ match r with
  | .ok ts => ∃ a cap, e = .returned (.tuple #[.slice a ts.length cap, .int .i64 0, .agg #[.int .i64 0, .int .i64 0]]) ∧ (ts.length ≤ cap ∧ cap ≤ maxLen) ∧ Ac (fun b => w.heap.size ≤ b) w' a (ts.map Jy)
  | .error x => e = .returned (.tuple #[.slice none 0 0, .int .i64 x.1, .agg #[.int .i64 x.2.1, .int .i64 x.2.2]])
def strSize (v : Value) : Nat := match v with | .string s => s.size | _ => 0
theorem Ig {B : Nat} {w w' : World} (h : Below B w.drew w') : Below B w w' := ⟨h.os, h.tape, h.output, h.size, h.block⟩
theorem Er (w : World) (cs : List Value) (t : TypeId) : ∀ (j : Nat) u, cs[j]? = some u → (w.alloc (.cells cs.toArray t)).cell? ((⟨w.heap.size, 0, none⟩ : Addr).add j) = some u := by
 intro j u hj;have h : ((⟨w.heap.size, 0, none⟩ : Addr).add j) = ⟨w.heap.size, j, none⟩ := by unfold Addr.add; split <;> simp_all
 rw [h];unfold World.cell?;rw [heap_alloc_new]
 simpa using hj
theorem S8 (s : ByteArray) (w : World) (hs : s.size ≤ 9223372036854775807) (hw : Jc w) :
  Calls Tryz.prog 39 #[.string s] w (PLex (Iz s.data.toList) w) := by
 obtain ⟨i0, hi, hz0, hz1, hz2⟩ := info_parts infoTok;by_cases hbig : (65536 : Int) < s.size
 ·have Hr : Hid (Iz s.data.toList = .error (6, 1, 1)) := Lq7 (by unfold Iz; rw [if_pos (by rw [Af]; omega)]);go_enter Tryz.func39, Tryz.ntmps39;go_wp2_with fail
  go_region
  all_goals
   go_wp2_with fail;refine bodyPost_ret (v := .tuple #[.slice none 0 0, .int .i64 6, .agg #[.int .i64 1, .int .i64 1]]) (by simp [results, Tryz.results39, go_sem]) rfl ?_;rw [Hr.out]
   first | exact ⟨((Below.refl _ w).alloc (nlr _) _).alloc (by simp) _, rfl⟩ | exact ⟨(((Below.refl _ w).alloc (nlr _) _).alloc (by simp) _).drew, rfl⟩
 ·have Hr : Hid (Iz s.data.toList = tokensL (s.data.toList.length + 1) (1, 1) s.data.toList) := Lq7 (by unfold Iz; rw [if_neg (by rw [Af]; omega)]);go_enter Tryz.func39, Tryz.ntmps39;go_wp2_with fail;obtain ⟨W1, bG⟩ : ∃ W1, W1 = (w.alloc (.cells #[.int .i64 0, .int .i64 0] 24)).alloc (.cells #[.int .i64 1, .int .i64 1] 24) := ⟨_, rfl⟩;rw [← bG];have bZ : Below w.heap.size w W1 := (by rw [bG]; exact ((Below.refl _ w).alloc (nlr _) _).alloc (by simp) _);have cB : W1.heap[w.heap.size]? = some (.cells #[.int .i64 0, .int .i64 0] 24 (0, 0)) := (by rw [bG]; exact (Below.heap_alloc _ _ _ (by simp)).trans (heap_alloc_new w _));have cC : W1.heap[w.heap.size + 1]? = some (.cells #[.int .i64 1, .int .i64 1] 24 (0, 0)) := (by rw [bG]; have := heap_alloc_new (w.alloc (.cells #[.int .i64 0, .int .i64 0] 24)) (.cells #[.int .i64 1, .int .i64 1] 24); simpa using this);have Hb1 := Lq7 (And.intro bZ (And.intro cB cC));clear bG bZ cB cC
  go_loopw [6, 7] (fun v sv wr => ∃ (acc : List Tok) (s' : ByteArray) (ln cl : Int) (v' : Value), v = v' ∧ sv = .string s' ∧ s'.size ≤ 65536 ∧ 0 ≤ ln ∧ 0 ≤ cl ∧ ln + s'.size ≤ 65537 ∧ cl + s'.size ≤ 65537 ∧ acc.length + s'.size ≤ 65536 ∧
   Hid (Fm s.data.toList (ln, cl) s'.data.toList acc) ∧ Hid (OwnD (fun b => w.heap.size + 2 ≤ b) wr (w.heap.size + 2) 98 4 v' (acc.map Jy)) ∧ Hid (Below w.heap.size w wr ∧ wr.heap[w.heap.size]? = some (.cells #[.int .i64 0, .int .i64 0] 24 (0, 0)) ∧ wr.heap[w.heap.size + 1]? = some (.cells #[.int .i64 ln, .int .i64 cl] 24 (0, 0)))) (fun _ sv _ => strSize sv)
  case atStart => exact ⟨[], s, 1, 1, _, rfl, rfl, by omega, by omega, by omega, by omega, by omega, by simp; omega, Lq7 (Fm.start _), Lq7 (OwnD.nil _ _ _ _ _), Hb1⟩
  case round =>
   obtain ⟨acc, s', ln, cl, v, hv, rfl, hs', bP, bQ, hl1, hc1, hacc, bH, hown, aB⟩ := hrel;have hv := hv.symm;subst hv;by_cases h0 : 0 < s'.size
   ·have hne : s'.toList.isEmpty = false := by
     rw [Lq8];cases hl : s'.data.toList with
     | nil => have := Af s'; rw [hl] at this; simp at this; omega
     | cons => rfl
    obtain ⟨hb, hr, hp⟩ := aB.out;have cE := next_any s' wr hs' h0 (hw.below hb);have bF := Lq7 cE;clear cE;have aX : s'.data.toList ≠ [] := (by intro h; have := Af s'; rw [h] at this; simp at this; omega);have cF := Lq7 aX;clear aX hb hr hp;go_wp2_with fail;refine bF.out.mono ?_;rintro e w2 ⟨bC, hq⟩;have bI : Below w.heap.size w w2 := aB.out.1.trans (bC.mono aB.out.1.size);obtain ⟨aX, q0, q1, z0, z1⟩ := Ap ((bC.block _ (Array.getElem?_eq_some_iff.1 aB.out.2.1).1).trans aB.out.2.1);obtain ⟨bU, p0, p1, y0, y1⟩ := Ap ((bC.block _ (Array.getElem?_eq_some_iff.1 aB.out.2.2).1).trans aB.out.2.2);have aI := Lq7 (And.intro bI bC);clear bI bC bF;cases hnl : Bp s'.data.toList with
    | error n =>
     have Hf := Lq7 (bH.out.fail cF.out hnl);have hn := Ui hnl;rw [hnl] at hq;obtain rfl := hq;clear hnl;rcases hn with rfl | rfl
     ·go_wp2_with fail
      go_region
      all_goals
       go_wp2_with fail;refine bodyPost_ret (v := .tuple #[.slice none 0 0, .int .i64 2, .agg #[.int .i64 ln, .int .i64 cl]]) (by simp [results, Tryz.results39, go_sem, q0, q1, aX]) rfl ?_;rw [Hr.out, Hf.out];have aN := (aI.out.1.setCell (p := ⟨w.heap.size, 0, none⟩) (nlr _) (.int .i64 ln)).setCell (p := ⟨w.heap.size, 1, none⟩) (nlr _) (.int .i64 cl)
       first | exact ⟨aN.alloc aN.size _, rfl⟩ | exact ⟨(aN.alloc aN.size _).drew, rfl⟩
     ·go_wp2_with fail
      go_region
      all_goals
       go_wp2_with fail;refine bodyPost_ret (v := .tuple #[.slice none 0 0, .int .i64 3, .agg #[.int .i64 ln, .int .i64 cl]]) (by simp [results, Tryz.results39, go_sem, q0, q1, aX]) rfl ?_;rw [Hr.out, Hf.out];have aN := (aI.out.1.setCell (p := ⟨w.heap.size, 0, none⟩) (nlr _) (.int .i64 ln)).setCell (p := ⟨w.heap.size, 1, none⟩) (nlr _) (.int .i64 cl)
       first | exact ⟨aN.alloc aN.size _, rfl⟩ | exact ⟨(aN.alloc aN.size _).drew, rfl⟩
    | ok x =>
     have hlen := Jw hnl;have aC := Lq7 (bH.out.next cF.out hnl);rw [hnl] at hq;obtain ⟨t, cG, rfl⟩ := hq;have cH := Lq7 cG;obtain ⟨k, ts, n⟩ := x;simp only at hlen aC cH ⊢;rw [Af] at hlen;clear hnl bH cG;obtain ⟨W2, bD⟩ : ∃ W2, W2 = w2.alloc (.cells #[.int .i64 k, .string t, .int .i64 ln, .int .i64 cl] 98) := ⟨_, rfl⟩;have bR : Below w2.heap.size w2 W2 := (by rw [bD]; exact (Below.refl _ w2).alloc (nlr _) _);have aG : Below wr.heap.size wr W2 := aI.out.2.trans (bR.mono aI.out.2.size);have hz2' : W2.heap.size = w2.heap.size + 1 := (by rw [bD]; simp);by_cases hk : 0 < k
     ·have aQ := (hown.out.below aG).below ((Below.refl _ W2).alloc (nlr _) (.cells #[.int .i64 k, .string t, .int .i64 ln, .int .i64 cl] 98));have aJ := Er W2 (tokC ⟨k, t, ln, cl⟩) 98;rw [bD] at aQ aJ;rw [show (w2.alloc (.cells #[.int .i64 k, .string t, .int .i64 ln, .int .i64 cl] 98)).heap.size = w2.heap.size + 1 from by simp] at aJ;have aM := Lq7 aQ;have bA := Lq7 aJ;have bS := Lq7 (And.intro bD (And.intro aG hz2'));clear aQ aJ bD aG hz2' bR hown
      go_wp2_with (at_builtin; refine A6 rfl _ _ 87 rfl (w.heap.size + 2) 98 i0 _ 4 40 Tryz.underlying87 hi hz0 hz1 hz2 rfl (by decide) v (fun b => w.heap.size + 2 ≤ b) (acc.map Jy) rfl aM.out ⟨w2.heap.size + 1, 0, none⟩ 1 (Jy ⟨k, t, ln, cl⟩) (tokC ⟨k, t, ln, cl⟩) rfl rfl bA.out ?_ (tokAgg _ _ _) ?_ ?_ ?_ ?_)
      ·simp [tokC, Value.oneCell']
      ·rw [lnM]; unfold maxLen; omega
      ·rw [lnM]; omega
      ·have := aI.out.1.size; simp; omega
      intro v3 w3 bB aH aY;have bJ : Below w.heap.size w w3 := (((aI.out.1.alloc aI.out.1.size _).alloc (by have := aI.out.1.size; simp; omega) _)).grown aH (by have := aI.out.1.size; simp; omega) (fun g hg => by have := (aM.out.block_lt hg).1; omega);have aR : ∀ j, j < w2.heap.size → j < w.heap.size + 2 → w3.heap[j]? = wr.heap[j]? := fun j hj hj2 => by
       rw [aH.block j (by simp; omega) (fun e => by have := (aM.out.block_lt e.symm).1; omega), Below.heap_alloc _ _ _ (by simp; omega), Below.heap_alloc _ _ _ hj, aI.out.2.block j (by have := aB.out.1.size; have := (Array.getElem?_eq_some_iff.1 aB.out.2.2).1; omega)]
      have aE : Hid (Below w.heap.size w w3 ∧ w3.heap[w.heap.size]? = some (.cells #[.int .i64 0, .int .i64 0] 24 (0, 0)) ∧ w3.heap[w.heap.size + 1]? = some (.cells #[.int .i64 ln, .int .i64 cl] 24 (0, 0))) :=
       Lq7 ⟨bJ, (aR _ aX (by omega)).trans aB.out.2.1, (aR _ bU (by omega)).trans aB.out.2.2⟩
      have aF : Hid (OwnD (fun b => w.heap.size + 2 ≤ b) w3 (w.heap.size + 2) 98 4 v3 ((acc ++ [(⟨k, t, ln, cl⟩ : Tok)]).map Jy)) := Lq7 (by rw [List.map_append]; exact bB);have bF : Hid (Fm s.data.toList (passL (ln, cl) (s'.data.toList.take n)) (s'.data.toList.drop n) (acc ++ [(⟨k, t, ln, cl⟩ : Tok)])) := Lq7 (by
       have h := aC.out;rw [if_pos hk] at h;rw [show t = ⟨ts.toArray⟩ from bytes_ext (by rw [cH.out])];exact h)
      clear bB aH aY bJ aR q0 q1 z0 z1 p0 p1 y0 y1 aC aM bA bS aI aB aX bU;obtain ⟨aU, p0, p1, y0, y1⟩ := Ap aE.out.2.2;have hn1 : (n : Int) ≤ s'.size := (by omega);have Hx1 : Hid ((s'.extract 0 n).data.toList = s'.data.toList.take n) := Lq7 (by rw [Lib.extract_data]; simp);have bV : Hid ((s'.extract n s'.size).data.toList = s'.data.toList.drop n) := Lq7 (Ek s' n);have bW : (s'.extract 0 n).size = n := (by rw [ByteArray.size_extract]; omega);have aV : (s'.extract n s'.size).size = s'.size - n := (by rw [ByteArray.size_extract]; omega);have aZ : (s'.data.toList.take n).length = n := (by rw [lnT, Af]; omega);have bL := Je (l := s'.data.toList.take n) (m := 65537) (r := s'.size - n) bP bQ (by rw [aZ]; omega) (by rw [aZ]; omega) (by rw [aZ]; omega);have bM := Lq7 (And.intro bL aV);have hxs' : (s'.extract 0 n).size ≤ 65536 := (by omega);clear bW aV aZ bL;go_wp2_with fail
      go_region_with ((go_at_call 59; refine (P6 ln cl (s'.extract 0 n) _ hxs' bP (by omega) bQ (by omega)).mono ?_; rintro e w5 ⟨bE, rfl⟩; obtain ⟨bX, r0, r1, x0, x1⟩ := Ap ((bE.block (w.heap.size + 1) aU).trans aE.out.2.2); have aW := Lq7 (Ig bE); clear bE))
      go_wp2_with fail;go_roundw
      case rel =>
       (repeat apply Exists.intro)
       refine ⟨?_, rfl⟩;obtain ⟨⟨g1, g2, g3, g4⟩, g5⟩ := bM.out;generalize passL (ln, cl) (s'.data.toList.take n) = q at *;refine ⟨acc ++ [(⟨k, t, ln, cl⟩ : Tok)], s'.extract n s'.size, q.1, q.2, _, rfl, rfl, by omega, g1, g3, by omega, by omega, by first | omega | (simp only [lnA, List.length_singleton]; omega), Lq7 ?_, Lq7 ?_, Lq7 ?_⟩
       ·rw [bV.out]; exact bF.out
       ·refine (aF.out.below aW.out).keep (fun b hb hF => ?_) (by simp);have bC : w.heap.size + 2 ≤ b := by
         rcases hF with hF | hF
         ·exact hF
         ·exact ((aF.out.below aW.out).block_lt hF).1
        rw [set_other (by omega), set_other (by omega)]
       ·refine ⟨((aE.out.1.trans (aW.out.mono aE.out.1.size)).setCell (p := ⟨w.heap.size + 1, 0, none⟩) (by simp) _).setCell (p := ⟨w.heap.size + 1, 1, none⟩) (by simp) _, ?_, ?_⟩
        ·rw [set_other (by omega), set_other (by omega), aW.out.block _ (by have := aE.out.1.size; have := (Array.getElem?_eq_some_iff.1 aE.out.2.1).1; exact this)];exact aE.out.2.1
        ·have h5 := (aW.out.block (w.heap.size + 1) aU).trans aE.out.2.2;exact set_same (set_same h5 0 (.int .i64 q.1)) 1 (.int .i64 q.2)
      case measure =>
       have := bM.out.2;show (s'.extract n s'.size).size < s'.size;omega
     ·have bJ : Below w.heap.size w W2 := aI.out.1.trans (bR.mono aI.out.1.size);have aE : Hid (Below w.heap.size w W2 ∧ W2.heap[w.heap.size]? = some (.cells #[.int .i64 0, .int .i64 0] 24 (0, 0)) ∧ W2.heap[w.heap.size + 1]? = some (.cells #[.int .i64 ln, .int .i64 cl] 24 (0, 0))) :=
       Lq7 ⟨bJ, (aG.block _ (Array.getElem?_eq_some_iff.1 aB.out.2.1).1).trans aB.out.2.1, (aG.block _ (Array.getElem?_eq_some_iff.1 aB.out.2.2).1).trans aB.out.2.2⟩
      have aF := Lq7 (hown.out.below aG);have bF : Hid (Fm s.data.toList (passL (ln, cl) (s'.data.toList.take n)) (s'.data.toList.drop n) acc) := Lq7 (by
       have h := aC.out;rw [if_neg hk] at h;exact h)
      have bS := Lq7 bD;clear bJ aG hz2' bR hown bD aC aI aB;go_wp2_with fail;rw [← bS.out];clear bS q0 q1 z0 z1 p0 p1 y0 y1 aX bU;obtain ⟨aU, p0, p1, y0, y1⟩ := Ap aE.out.2.2;have hn1 : (n : Int) ≤ s'.size := (by omega);have Hx1 : Hid ((s'.extract 0 n).data.toList = s'.data.toList.take n) := Lq7 (by rw [Lib.extract_data]; simp);have bV : Hid ((s'.extract n s'.size).data.toList = s'.data.toList.drop n) := Lq7 (Ek s' n);have bW : (s'.extract 0 n).size = n := (by rw [ByteArray.size_extract]; omega);have aV : (s'.extract n s'.size).size = s'.size - n := (by rw [ByteArray.size_extract]; omega);have aZ : (s'.data.toList.take n).length = n := (by rw [lnT, Af]; omega);have bL := Je (l := s'.data.toList.take n) (m := 65537) (r := s'.size - n) bP bQ (by rw [aZ]; omega) (by rw [aZ]; omega) (by rw [aZ]; omega);have bM := Lq7 (And.intro bL aV);have hxs' : (s'.extract 0 n).size ≤ 65536 := (by omega);clear bW aV aZ bL;skip
      go_region_with ((go_at_call 59; refine (P6 ln cl (s'.extract 0 n) _ hxs' bP (by omega) bQ (by omega)).mono ?_; rintro e w5 ⟨bE, rfl⟩; obtain ⟨bX, r0, r1, x0, x1⟩ := Ap ((bE.block (w.heap.size + 1) aU).trans aE.out.2.2); have aW := Lq7 (Ig bE); clear bE))
      go_wp2_with fail;go_roundw
      case rel =>
       (repeat apply Exists.intro)
       refine ⟨?_, rfl⟩;obtain ⟨⟨g1, g2, g3, g4⟩, g5⟩ := bM.out;generalize passL (ln, cl) (s'.data.toList.take n) = q at *;refine ⟨acc, s'.extract n s'.size, q.1, q.2, _, rfl, rfl, by omega, g1, g3, by omega, by omega, by first | omega | (simp only [lnA, List.length_singleton]; omega), Lq7 ?_, Lq7 ?_, Lq7 ?_⟩
       ·rw [bV.out]; exact bF.out
       ·refine (aF.out.below aW.out).keep (fun b hb hF => ?_) (by simp);have bC : w.heap.size + 2 ≤ b := by
         rcases hF with hF | hF
         ·exact hF
         ·exact ((aF.out.below aW.out).block_lt hF).1
        rw [set_other (by omega), set_other (by omega)]
       ·refine ⟨((aE.out.1.trans (aW.out.mono aE.out.1.size)).setCell (p := ⟨w.heap.size + 1, 0, none⟩) (by simp) _).setCell (p := ⟨w.heap.size + 1, 1, none⟩) (by simp) _, ?_, ?_⟩
        ·rw [set_other (by omega), set_other (by omega), aW.out.block _ (by have := aE.out.1.size; have := (Array.getElem?_eq_some_iff.1 aE.out.2.1).1; exact this)];exact aE.out.2.1
        ·have h5 := (aW.out.block (w.heap.size + 1) aU).trans aE.out.2.2;exact set_same (set_same h5 0 (.int .i64 q.1)) 1 (.int .i64 q.2)
      case measure =>
       have := bM.out.2;show (s'.extract n s'.size).size < s'.size;omega
   ·have hne : s'.toList.isEmpty = true := by
     rw [Lq8, List.isEmpty_iff];exact List.length_eq_zero_iff.1 (by rw [Af]; omega)
    obtain ⟨hb, hr, hp⟩ := aB.out;obtain ⟨aX, q0, q1, z0, z1⟩ := Ap hr;have Hb := Lq7 hb;have Hst : Hid (tokensL (s.data.toList.length + 1) (1, 1) s.data.toList = .ok acc) := Lq7 (by
     have h := bH.out;rw [show s'.data.toList = [] from List.length_eq_zero_iff.1 (by rw [Af]; omega)] at h;exact h.stop)
    obtain ⟨a, cap, hva, hcap, bN⟩ := hown.out.rowAtC (fun g hg => (hown.out.block_lt hg).1);have bY := Lq7 bN;have bO := Lq7 hcap;clear hb hr hp bH bN hcap;go_wp2_with fail;refine bodyPost_ret (v := .tuple #[.slice a acc.length cap, .int .i64 0, .agg #[.int .i64 0, .int .i64 0]]) (by simp [results, Tryz.results39, go_sem, q0, q1]) rfl ?_;rw [Hr.out, Hst.out];have aN := (Hb.out.setCell (p := ⟨w.heap.size, 0, none⟩) (nlr _) (.int .i64 0)).setCell (p := ⟨w.heap.size, 1, none⟩) (nlr _) (.int .i64 0);refine ⟨aN, a, cap, rfl, ⟨by have := bO.out.1; simpa using this, bO.out.2⟩, bY.out.mono fun b hb hl => ⟨by omega, by simpa using hl, ?_⟩⟩;rw [set_other (by omega), set_other (by omega)]
def tokV (t : Tok) : Value := .agg #[.int .i64 t.kind, .string t.text, .int .i64 t.line, .int .i64 t.col]
def PS (w : World) (bp : Nat) (en : Int × Int) (ts : List Tok) (dp : Int) : Prop :=
 ∃ a cap, w.heap[bp]? = some (.cells #[.slice a ts.length cap, .int .i64 en.1, .int .i64 en.2, .int .i64 dp] 96 (0, 0)) ∧ (ts.length ≤ cap ∧ ts.length ≤ 70000) ∧ cap ≤ maxLen ∧ Ac (fun b => b < bp) w a (ts.map Jy)
def ptr (bp : Nat) : Value := .pointer (some ⟨bp, 0, none⟩)
theorem PS.grown {w w' : World} {bp : Nat} {en : Int × Int} {ts : List Tok} {dp : Int} (h : PS w bp en ts dp) (hb : Below w.heap.size w w') : PS w' bp en ts dp := by
 obtain ⟨a, cap, h1, h2, h3, h4⟩ := h;exact ⟨a, cap, (hb.block _ (Array.getElem?_eq_some_iff.1 h1).1).trans h1, h2, h3, h4.below hb⟩
theorem tok_at {F : Nat → Prop} {w : World} {a : Option Addr} {ts : List Tok} (h : Ac F w a (ts.map Jy)) {k : Nat} {t : Tok} (ht : ts[k]? = some t) :
  ∃ b off, a = some ⟨b, off, none⟩ ∧ F b ∧ b < w.heap.size ∧ w.cell? ⟨b, off + k * 4, none⟩ = some (.int .i64 t.kind) ∧ w.cell? ⟨b, off + k * 4 + 1, none⟩ = some (.string t.text) ∧ w.cell? ⟨b, off + k * 4 + 2, none⟩ = some (.int .i64 t.line) ∧ w.cell? ⟨b, off + k * 4 + 3, none⟩ = some (.int .i64 t.col) := by
 obtain ⟨b, off, cs, ha, hF, hb, hd, hc⟩ := h k (Jy t) (by rw [lgP, ht]; rfl);unfold Jy at hd hc;obtain ⟨c0, cs, rfl, h0, hd⟩ := hd.cons_inv;obtain ⟨c1, cs, rfl, h1, hd⟩ := hd.cons_inv;obtain ⟨c2, cs, rfl, h2, hd⟩ := hd.cons_inv;obtain ⟨c3, cs, rfl, h3, hd⟩ := hd.cons_inv;obtain rfl := h0.one_inv;obtain rfl := h1.one_inv;obtain rfl := h2.one_inv;obtain rfl := h3.one_inv;exact ⟨b, off, ha, hF, hb, hc 0 _ rfl, hc 1 _ rfl, hc 2 _ rfl, hc 3 _ rfl⟩
def PTok (t : Tok) (w : World) (e : Ending) (w' : World) : Prop := e = .returned (tokV t) ∧ Below w.heap.size w w'
theorem Fg (bp n : Nat) (en : Int × Int) (ts : List Tok) (dp : Int) (w : World) (_hn : n ≤ 1000) (hp : PS w bp en ts dp) :
  Calls Tryz.prog 88 #[ptr bp, .int .i64 n] w (PTok (tokAt en ts n) w) := by
 obtain ⟨a, cap, h1, h2, h3, h4⟩ := hp;obtain ⟨hbp, hc, hf⟩ := Ao h1;have q0 := hc 0;have q1 := hc 1;have q2 := hc 2;have q3 := hc 3;simp at q0 q1 q2 q3;clear hc hf h1;unfold maxLen at h3;unfold ptr;by_cases hlt : n < ts.length
 ·have Hd : Hid (tokAt en ts n = ts[n]) := Lq7 (by unfold tokAt; rw [lgE hlt]; rfl);obtain ⟨b, off, ha, hF, hb, r0, r1, r2, r3⟩ := tok_at h4 (lgE hlt);subst ha;have H4 := Lq7 h4;clear h4;generalize ts[n] = t at Hd r0 r1 r2 r3;have hlt' : ¬ (ts.length : Int) ≤ (n : Int) := (by omega);go_enter Tryz.func88, Tryz.ntmps88;go_wp2_with fail;refine bodyPost_ret (v := tokV t) (by simp [tokV, results, Tryz.results88, go_sem]) rfl ?_;rw [Hd.out];exact ⟨rfl, (Below.refl _ _).alloc (nlr _) _⟩
 ·have Hd : Hid (tokAt en ts n = ⟨0, ⟨#[]⟩, en.1, en.2⟩) := Lq7 (by unfold tokAt; rw [List.getElem?_eq_none (by omega)]; rfl);have hlt' : (ts.length : Int) ≤ (n : Int) := (by omega);clear h4;go_enter Tryz.func88, Tryz.ntmps88;go_wp2_with fail;refine bodyPost_ret (v := tokV ⟨0, ⟨#[]⟩, en.1, en.2⟩) (by simp [tokV, results, Tryz.results88, go_sem]) rfl ?_;rw [Hd.out];exact ⟨rfl, (Below.refl _ _).alloc (nlr _) _⟩
theorem Fr (a b c d : Value) (w : World) : (Instr.field 98 (.agg #[a, b, c, d]) 0).run Tryz.prog w = .ok a w := by kernel_rfl
theorem Fs (a b c d : Value) (w : World) : (Instr.field 98 (.agg #[a, b, c, d]) 1).run Tryz.prog w = .ok b w := by kernel_rfl
theorem Up (a b c d : Value) (w : World) : (Instr.field 98 (.agg #[a, b, c, d]) 2).run Tryz.prog w = .ok (.agg #[c, d]) w := by kernel_rfl
def PBool (b : Bool) (w : World) (e : Ending) (w' : World) : Prop := e = .returned (.bool b) ∧ Below w.heap.size w w'
theorem Ca (bp n : Nat) (s : ByteArray) (en : Int × Int) (ts : List Tok) (dp : Int) (w : World) (hn : n ≤ 1000) (hp : PS w bp en ts dp) :
  Calls Tryz.prog 60 #[ptr bp, .int .i64 n, .string s] w (PBool (isSign en ts n s.data.toList) w) := by
 have Hp := Lq7 hp;clear hp;have Hd : Hid (isSign en ts n s.data.toList = ((tokAt en ts n).kind == 4 && (tokAt en ts n).text.toList == s.toList)) := Lq7 (by unfold isSign; rw [Lq8, Lq8]);have aE := Lq7 (Fg bp n en ts dp w hn Hp.out);have aB := Lq7 (fun (w1 : World) (hb : Below w.heap.size w w1) => Fg bp n en ts dp w1 hn (Hp.out.grown hb));unfold ptr at aE aB ⊢;generalize tokAt en ts n = t at Hd aE aB;cases hk : t.kind == 4
 ·have Hk := Lq7 hk;go_enter Tryz.func60, Tryz.ntmps60;go_wp2_with fail;refine aE.out.mono ?_;rintro e w1 ⟨rfl, aC⟩;unfold tokV;have k0 := Fr;have k1 := Fs;go_wp2_with fail;go_ret;exact ⟨Ar (by rw [Hd.out, Hk.out]; rfl), aC⟩
 ·have Hk := Lq7 hk;go_enter Tryz.func60, Tryz.ntmps60;go_wp2_with fail;refine aE.out.mono ?_;rintro e w1 ⟨rfl, aC⟩;unfold tokV;have k0 := Fr;have k1 := Fs;go_wp2_with fail;refine (aB.out w1 aC).mono ?_;rintro e w2 ⟨rfl, aF⟩;unfold tokV;go_wp2_with fail;go_ret;exact ⟨Ar (by rw [Hd.out, Hk.out, Bool.true_and]), aC.trans (aF.mono aC.size)⟩
theorem Fu (bp : Nat) (s : ByteArray) (en : Int × Int) (ts : List Tok) (dp : Int) (w : World) (hp : PS w bp en ts dp) :
  Calls Tryz.prog 89 #[ptr bp, .string s] w (PBool (A4 en ts s.data.toList) w) := by
 have Hp := Lq7 hp;clear hp;have Hd : Hid (A4 en ts s.data.toList = ((tokAt en ts 0).kind == 1 && (tokAt en ts 0).text.toList == s.toList)) := Lq7 (by unfold A4; rw [Lq8, Lq8]);have aE := Lq7 (Fg bp 0 en ts dp w (by omega) Hp.out);have aB := Lq7 (fun (w1 : World) (hb : Below w.heap.size w w1) => Fg bp 0 en ts dp w1 (by omega) (Hp.out.grown hb));unfold ptr at aE aB ⊢;generalize tokAt en ts 0 = t at Hd aE aB;cases hk : t.kind == 1
 ·have Hk := Lq7 hk;go_enter Tryz.func89, Tryz.ntmps89;go_wp2_with fail;refine aE.out.mono ?_;rintro e w1 ⟨rfl, aC⟩;unfold tokV;have k0 := Fr;have k1 := Fs;go_wp2_with fail;go_ret;exact ⟨Ar (by rw [Hd.out, Hk.out]; rfl), aC⟩
 ·have Hk := Lq7 hk;go_enter Tryz.func89, Tryz.ntmps89;go_wp2_with fail;refine aE.out.mono ?_;rintro e w1 ⟨rfl, aC⟩;unfold tokV;have k0 := Fr;have k1 := Fs;go_wp2_with fail;refine (aB.out w1 aC).mono ?_;rintro e w2 ⟨rfl, aF⟩;unfold tokV;go_wp2_with fail;go_ret;exact ⟨Ar (by rw [Hd.out, Hk.out, Bool.true_and]), aC.trans (aF.mono aC.size)⟩
theorem Uq (w : World) (t : TypeId) (zs : List ByteArray) : ∀ j, j < zs.length → (w.alloc (.cells (zs.map Value.string).toArray t)).cell? ⟨w.heap.size, 0 + j, none⟩ = some (.string (zs.getD j ByteArray.empty)) := by
 intro j hj;unfold World.cell?;rw [heap_alloc_new, Nat.zero_add];simp [hj]
theorem Oy (zs : List (List UInt8)) (s : ByteArray) : Lib.containsS (zs.map bs) s = zs.contains s.data.toList := by
 rw [Bool.eq_iff_iff, Lib.containsS_iff, List.contains_iff_mem, List.mem_map]
 constructor
 ·rintro ⟨l, hl, rfl⟩; exact hl
 ·intro h; exact ⟨_, h, bytes_ext rfl⟩
theorem Oz (s : ByteArray) (w : World) : Calls Tryz.prog 118 #[.string s] w (PBool (reservedL.contains s.data.toList) w) := by
 have Hc := Lq7 (Tryz.slices_Contains_string w.heap.size 0 6 6 (reservedL.map bs) s (w.alloc (.cells ((reservedL.map bs).map Value.string).toArray 9)) (by decide) (by omega) (Uq w 9 (reservedL.map bs)));go_enter Tryz.func118, Tryz.ntmps118;go_wp2_with fail;refine Hc.out.mono ?_;rintro e w1 ⟨rfl, rfl⟩;rw [ltL (by decide), Oy];go_wp2_with fail;go_ret;exact ⟨Ar (by simp), (Below.refl _ w).alloc (nlr _) _⟩
theorem Eu (bp : Nat) (en : Int × Int) (ts : List Tok) (dp : Int) (w : World) (hp : PS w bp en ts dp) :
  Calls Tryz.prog 91 #[ptr bp] w (PBool (Bd en ts) w) := by
 have Hp := Lq7 hp;clear hp;have Hd : Hid (Bd en ts = ((tokAt en ts 0).kind == 1 && !reservedL.contains (tokAt en ts 0).text.data.toList)) := Lq7 rfl;have aE := Lq7 (Fg bp 0 en ts dp w (by omega) Hp.out);have aB := Lq7 (fun (w1 : World) (hb : Below w.heap.size w w1) => Fg bp 0 en ts dp w1 (by omega) (Hp.out.grown hb));unfold ptr at aE aB ⊢;generalize tokAt en ts 0 = t at Hd aE aB;cases hk : t.kind == 1
 ·have Hk := Lq7 hk;go_enter Tryz.func91, Tryz.ntmps91;go_wp2_with fail;refine aE.out.mono ?_;rintro e w1 ⟨rfl, aC⟩;unfold tokV;have k0 := Fr;have k1 := Fs;go_wp2_with fail;go_ret;exact ⟨Ar (by rw [Hd.out, Hk.out]; rfl), aC⟩
 ·have Hk := Lq7 hk;go_enter Tryz.func91, Tryz.ntmps91;go_wp2_with fail;refine aE.out.mono ?_;rintro e w1 ⟨rfl, aC⟩;unfold tokV;have k0 := Fr;have k1 := Fs;go_wp2_with fail;refine (aB.out w1 aC).mono ?_;rintro e w2 ⟨rfl, hb2⟩;unfold tokV;go_wp2_with fail;refine (Oz t.text _).mono ?_;rintro e w3 ⟨rfl, hb3⟩;have aF := aC.trans (hb2.mono aC.size);go_wp2_with fail;go_ret;exact ⟨Ar (by rw [Hd.out, Hk.out, Bool.true_and]; simp), aF.trans (hb3.mono aF.size)⟩
def J5 (e l c : Int) : Value := .iface 91 (.agg #[.int .i64 e, .int .i64 l, .int .i64 c])
def PP {α : Type} (bp : Nat) (en : Int × Int) (val : α → World → Value → Prop) (r : PR α) (w : World) (e : Ending) (w' : World) : Prop :=
 w.grownBy w' (some bp) ∧ match r with
  | .ok x ts dp => PS w' bp en ts dp ∧ ∃ v, e = .returned v ∧ val x w' v
  | .err a l c => e = .panicked [{ v := J5 a l c, recovered := false }]
  | .out => True
theorem Qh (bp : Nat) (n : Int) (en : Int × Int) (ts : List Tok) (dp : Int) (w : World) (hp : PS w bp en ts dp) :
  Calls Tryz.prog 117 #[ptr bp, .int .i64 n] w (fun e w' => e = .panicked [{ v := J5 n (tokAt en ts 0).line (tokAt en ts 0).col, recovered := false }] ∧ Below w.heap.size w w') := by
 have aB := Lq7 (Fg bp 0 en ts dp w (by omega) hp);clear hp;unfold ptr at aB ⊢;generalize tokAt en ts 0 = t at aB ⊢;go_enter Tryz.func117, Tryz.ntmps117;go_wp2_with fail;refine aB.out.mono ?_;rintro e w1 ⟨rfl, aC⟩;unfold tokV;have k2 := Up;go_wp2_with fail;exact ⟨rfl, rfl, aC⟩
theorem Ac.grown {w w' : World} {bp : Nat} {a : Option Addr} {l : List (List Dat)} (h : Ac (fun b => b < bp) w a l) (hg : w.grownBy w' (some bp)) : Ac (fun b => b < bp) w' a l :=
 h.mono fun b hb hl => ⟨hb, nll hl hg.size, hg.block b hl (fun e => by cases e; omega)⟩
theorem PS.of_set {w w1 : World} {bp : Nat} {en : Int × Int} {ts : List Tok} {dp : Int} {l0 e1 e2 d0 : Value} {a : Option Addr} {cap : Nat} (hb : Below w.heap.size w w1) (h1 : w.heap[bp]? = some (.cells #[l0, e1, e2, d0] 96 (0, 0)))
  (he1 : e1 = .int .i64 en.1) (he2 : e2 = .int .i64 en.2) (hd : d0 = .int .i64 dp) (hc : ts.length ≤ cap ∧ ts.length ≤ 70000) (hm : cap ≤ maxLen) (h4 : Ac (fun b => b < bp) w a (ts.map Jy)) (x0 x1 x2 x3 : Value) (o : Obj) :
  let X := ((((((w1.setCell ⟨bp, 0, none⟩ (.slice a ts.length cap)).setCell ⟨w.heap.size, 0, none⟩ x0).setCell ⟨w.heap.size, 1, none⟩ x1).setCell ⟨w.heap.size, 2, none⟩ x2).setCell ⟨w.heap.size, 3, none⟩ x3).alloc o)
  w.grownBy X (some bp) ∧ PS X bp en ts dp := by
 intro X;have aI := (Array.getElem?_eq_some_iff.1 h1).1;have aJ : bp < w1.heap.size := nll aI hb.size;have hg : w.grownBy X (some bp) := C9 (Bt (Bt (Bt (Bt (grownBy_set (grownBy_below hb) _ _) (nlr _) _ _) (nlr _) _ _) (nlr _) _ _) (nlr _) _ _) o;refine ⟨hg, a, cap, ?_, hc, hm, h4.grown hg⟩;show ((((((w1.setCell ⟨bp, 0, none⟩ (.slice a ts.length cap)).setCell ⟨w.heap.size, 0, none⟩ x0).setCell ⟨w.heap.size, 1, none⟩ x1).setCell ⟨w.heap.size, 2, none⟩ x2).setCell ⟨w.heap.size, 3, none⟩ x3).alloc o).heap[bp]? = _;rw [Below.heap_alloc _ _ _ (by simpa using aJ), set_other (by omega), set_other (by omega), set_other (by omega), set_other (by omega), set_same ((hb.block bp aI).trans h1) 0 (.slice a ts.length cap), he1, he2, hd];rfl
def VTok (t : Tok) (_ : World) (v : Value) : Prop := v = tokV t
theorem C8 (bp : Nat) (is : Bool) (en : Int × Int) (ts : List Tok) (dp : Int) (w : World) (hp : PS w bp en ts dp) (hr : A5 en is ts dp ≠ .out) :
  Calls Tryz.prog 90 #[ptr bp, .bool is] w (PP bp en VTok (A5 en is ts dp) w) := by
 cases is with
 | false =>
  have aF : A5 en false ts dp = .err 3 (tokAt en ts 0).line (tokAt en ts 0).col := rfl;rw [aF];have Hf := Lq7 (fun (w1 : World) (hb : Below w.heap.size w w1) => Qh bp 3 en ts dp w1 (hp.grown hb));clear hp hr aF;unfold ptr at Hf ⊢;generalize tokAt en ts 0 = t at Hf ⊢;go_enter Tryz.func90, Tryz.ntmps90;go_wp2_with fail;refine (Hf.out _ ((Below.refl _ w).alloc (nlr _) _)).mono ?_;rintro e w1 ⟨rfl, aC⟩;exact ⟨rfl, grownBy_below (((Below.refl _ w).alloc (nlr _) _).trans (aC.mono (by simp))), rfl⟩
 | true =>
  cases ts with
  | nil => exact absurd rfl hr
  | cons t r =>
   have aF : A5 en true (t :: r) dp = .ok t r dp := rfl;rw [aF];have Hp := Lq7 hp;have aB := Lq7 (fun (w1 : World) (hb : Below w.heap.size w w1) => Fg bp 0 en (t :: r) dp w1 (by omega) (hp.grown hb));clear hp hr aF;rw [show tokAt en (t :: r) 0 = t from rfl] at aB;obtain ⟨a, cap, h1, h2, h3, h4⟩ := Hp.out;obtain ⟨b, off, ha, hF, hbl, -⟩ := tok_at h4 (k := 0) (t := t) rfl;subst ha;have H4 := Lq7 h4;have H1 := Lq7 h1;simp only [lnC] at h2;unfold maxLen at h3;clear h1 h4;unfold ptr at aB ⊢;go_enter Tryz.func90, Tryz.ntmps90;go_wp2_with fail;have aH : Below w.heap.size w (w.alloc (.cells #[.int .i64 0, .string ⟨#[]⟩, .int .i64 0, .int .i64 0] 98)) := (Below.refl _ w).alloc (nlr _) _;refine (aB.out _ aH).mono ?_;rintro e w1 ⟨rfl, aC⟩;have aE := aH.trans (aC.mono aH.size);obtain ⟨aI, hc, hf⟩ := Ao ((aE.block bp (Array.getElem?_eq_some_iff.1 H1.out).1).trans H1.out);obtain ⟨aM, hc', hf'⟩ := Ao (Cx aC);have q0 := hc 0;have z0 := hf 0;have r0 := hc' 0;have r1 := hc' 1;have r2 := hc' 2;have r3 := hc' 3;have y0 := hf' 0;have y1 := hf' 1;have y2 := hf' 2;have y3 := hf' 3;simp at q0 r0 r1 r2 r3;have hbpw := (Array.getElem?_eq_some_iff.1 H1.out).1;have Hb := Lq7 aE;clear hc hf hc' hf' aC aH aE aB;unfold tokV;have h2' : (1 : Int) ≤ (r.length : Int) + 1 := (by omega);by_cases hcap : cap = 1
   ·subst hcap;have hr0 : r = [] := List.length_eq_zero_iff.1 (by omega);subst hr0;go_wp2_with fail;refine bodyPost_ret (v := tokV t) (by simp [tokV, results, Tryz.results90, go_sem, r0, r1, r2, r3, aM]) rfl ?_;obtain ⟨g1, g2⟩ := PS.of_set (ts := []) (a := some ⟨b, off, none⟩) (cap := 0) Hb.out H1.out rfl rfl rfl ⟨nlr _, nlz _⟩ (nlz _) (Ac.nil _) (.int .i64 t.kind) (.string t.text) (.int .i64 t.line) (.int .i64 t.col) (.cells #[.int .i64 t.kind, .string t.text, .int .i64 t.line, .int .i64 t.col] 98);exact ⟨g1, g2, _, rfl, rfl⟩
   ·have hcap2 : ¬ cap = 1 := hcap;go_wp2_with fail;refine bodyPost_ret (v := tokV t) (by simp [tokV, results, Tryz.results90, go_sem, r0, r1, r2, r3, aM]) rfl ?_;have aG : Ac (fun b => b < bp) w (some ⟨b, off + 4, none⟩) (r.map Jy) := by
     have := H4.out.drop (n := 4) (fun ds hds => by obtain ⟨x, -, rfl⟩ := List.mem_map.1 hds; rfl) 1
     simpa using this
    obtain ⟨g1, g2⟩ := PS.of_set (ts := r) (a := some ⟨b, off + 4, none⟩) (cap := cap - 1) Hb.out H1.out rfl rfl rfl (by omega) (by unfold maxLen; omega) aG (.int .i64 t.kind) (.string t.text) (.int .i64 t.line) (.int .i64 t.col) (.cells #[.int .i64 t.kind, .string t.text, .int .i64 t.line, .int .i64 t.col] 98);exact ⟨g1, g2, _, rfl, rfl⟩
theorem Dj {α β : Type} {m : PM α} {f : α → PM β} {ts ts' : List Tok} {d d' : Int} {x : α} (h : m ts d = .ok x ts' d') : PM.bind m f ts d = f x ts' d' := by unfold PM.bind; rw [h]
theorem Cp {α β : Type} {m : PM α} {f : α → PM β} {ts : List Tok} {d a b c : Int} (h : m ts d = .err a b c) : PM.bind m f ts d = .err a b c := by unfold PM.bind; rw [h]
theorem A3 {α β : Type} {m : PM α} {f : α → PM β} {ts : List Tok} {d : Int} (h : m ts d = .out) : PM.bind m f ts d = .out := by unfold PM.bind; rw [h]
theorem PS.kept {w w' : World} {bp : Nat} {en : Int × Int} {ts : List Tok} {dp : Int} (h : PS w bp en ts dp) (hb : w'.heap[bp]? = w.heap[bp]?) (hk : ∀ b, b < bp → b < w.heap.size → w'.heap[b]? = w.heap[b]?) (hs : w.heap.size ≤ w'.heap.size) : PS w' bp en ts dp := by
 obtain ⟨a, cap, h1, h2, h3, h4⟩ := h;exact ⟨a, cap, hb.trans h1, h2, h3, h4.mono fun b hF hl => ⟨hF, nll hl hs, hk b hF hl⟩⟩
def VUnit (_ : Unit) (_ : World) (v : Value) : Prop := v = .tuple #[]
theorem Hj (bp : Nat) (s : ByteArray) (en : Int × Int) (ts : List Tok) (dp : Int) (w : World) (hp : PS w bp en ts dp) (hr : Ex en s.data.toList ts dp ≠ .out) :
  Calls Tryz.prog 96 #[ptr bp, .string s] w (PP bp en VUnit (Ex en s.data.toList ts dp) w) := by
 have Hs := Lq7 (Ca bp 0 s en ts dp w (by omega) hp);have Ht := Lq7 (fun (w1 : World) (hb : Below w.heap.size w w1) (is : Bool) (h : A5 en is ts dp ≠ .out) => C8 bp is en ts dp w1 (hp.grown hb) h);have He : Hid (Ex en s.data.toList ts dp = PM.bind (A5 en (isSign en ts 0 s.data.toList)) (fun _ => PM.pure ()) ts dp) := Lq7 rfl;have Hr := Lq7 hr;clear hp hr;unfold ptr at Hs Ht ⊢;generalize isSign en ts 0 s.data.toList = b at Hs He;go_enter Tryz.func96, Tryz.ntmps96;go_wp2_with fail;refine Hs.out.mono ?_;rintro e w1 ⟨rfl, aF⟩;have aE : A5 en b ts dp ≠ .out := fun h => Hr.out (by rw [He.out, A3 h]);have aC := Lq7 (Ht.out w1 aF b aE);clear aE Ht;go_wp2_with fail;refine aC.out.mono ?_;rintro e w2 ⟨aB, hq⟩;have Hg : Hid (w.grownBy w2 (some bp)) := Lq7 (grownBy_trans (grownBy_below aF) aB);clear aF aB aC;cases hm : A5 en b ts dp with
 | out => exact absurd (by rw [He.out, A3 hm]) Hr.out
 | err a l c =>
  rw [hm] at hq;obtain rfl := hq;rw [He.out, Cp hm];exact ⟨rfl, Hg.out, rfl⟩
 | ok x ts' d' =>
  rw [hm] at hq;obtain ⟨aG, v, rfl, hv⟩ := hq;have aU := Lq7 aG;have Hf : Hid (Ex en s.data.toList ts dp = .ok () ts' d') := Lq7 (by rw [He.out, Dj hm]; rfl);clear hm aG hv Hr He;go_wp2_with fail
  go_end0
  rw [Hf.out];exact ⟨Hg.out, aU.out, _, rfl, rfl⟩
theorem Nv (bp : Nat) (s : ByteArray) (en : Int × Int) (ts : List Tok) (dp : Int) (w : World) (hd0 : 0 ≤ dp) (hd1 : dp ≤ 1000) (hp : PS w bp en ts dp) (hr : Dw en s.data.toList ts dp ≠ .out) :
  Calls Tryz.prog 121 #[ptr bp, .string s] w (PP bp en VUnit (Dw en s.data.toList ts dp) w) := by
 have aE : Ex en s.data.toList ts dp ≠ .out := fun h => hr (by unfold Dw; rw [A3 h]);have aC := Lq7 (Hj bp s en ts dp w hp aE);have aY : ∀ x ts' d', Ex en s.data.toList ts dp = .ok x ts' d' → d' = dp := by
  intro x ts' d' h;unfold Ex PM.bind A5 at h;split at h
  ·rename_i h2
   split at h2
   ·split at h2
    ·cases h2
    ·cases h2; cases h; rfl
   ·cases h2
  ·cases h
  ·cases h
 have aV := Lq7 aY;have Hne := Lq7 aE;clear hp aE hr aY;unfold ptr at aC ⊢;cases hm : Ex en s.data.toList ts dp with
 | out => exact absurd hm Hne.out
 | err a l c =>
  have Hf : Hid (Dw en s.data.toList ts dp = .err a l c) := Lq7 (by unfold Dw; rw [Cp hm]);rw [hm] at aC;rw [Hf.out];clear hm aV;go_enter Tryz.func121, Tryz.ntmps121;go_wp2_with fail;refine aC.out.mono ?_;rintro e w2 ⟨aB, rfl⟩;exact ⟨rfl, aB, rfl⟩
 | ok x ts' d' =>
  obtain rfl := aV.out _ _ _ hm;have Hf : Hid (Dw en s.data.toList ts d' = .ok () ts' (d' - 1)) := Lq7 (by unfold Dw; rw [Dj hm]; rfl);rw [hm] at aC;rw [Hf.out];clear hm aV;go_enter Tryz.func121, Tryz.ntmps121;go_wp2_with fail;refine aC.out.mono ?_;rintro e w2 ⟨aB, ⟨a, cap, h1, h2, h3, h4⟩, v, rfl, -⟩;obtain ⟨aW, hc, hf⟩ := Ao h1;have q3 := hc 3;have z3 := hf 3;simp at q3;have H1 := Lq7 h1;have H4 := Lq7 h4;clear hc hf h1 h4;go_wp2_with fail
  go_end0
  refine ⟨grownBy_set aB 3 _, ⟨a, cap, set_same H1.out 3 _, h2, h3, H4.out.grown (grownBy_set (grownBy_refl _ _) 3 _)⟩, _, rfl, rfl⟩
theorem Qi (bp : Nat) (is : Bool) (en : Int × Int) (ts : List Tok) (dp : Int) (w : World) (hd0 : 0 ≤ dp) (hd1 : dp ≤ 1000) (hp : PS w bp en ts dp) (hr : Ev en is ts dp ≠ .out) :
  Calls Tryz.prog 120 #[ptr bp, .bool is] w (PP bp en VTok (Ev en is ts dp) w) := by
 have aQ : Below w.heap.size w (w.alloc (.cells #[.int .i64 0, .string ⟨#[]⟩, .int .i64 0, .int .i64 0] 98)) := (Below.refl _ w).alloc (nlr _) _;by_cases hc : is = true ∧ 60 ≤ dp
 ·obtain ⟨rfl, hge⟩ := hc;have aH : Ev en true ts dp = .err 6 (tokAt en ts 0).line (tokAt en ts 0).col := (by unfold Ev; rw [Bool.true_and, decide_eq_true hge, if_pos rfl]; rfl);rw [aH];have Hf := Lq7 (fun (w1 : World) (hb : Below w.heap.size w w1) => Qh bp 6 en ts dp w1 (hp.grown hb));obtain ⟨a, cap, h1, -, -, -⟩ := hp;obtain ⟨aW, aI, hf⟩ := Ao h1;have q3 := aI 3;simp at q3;clear hr aH aI hf h1;unfold ptr at Hf ⊢;generalize tokAt en ts 0 = t at Hf ⊢;go_enter Tryz.func120, Tryz.ntmps120;go_wp2_with fail;refine (Hf.out _ aQ).mono ?_;rintro e w1 ⟨rfl, aF⟩;exact ⟨rfl, grownBy_below (aQ.trans (aF.mono aQ.size)), rfl⟩
 ·have aH : Ev en is ts dp = A5 en is ts (dp + 1) := by
   unfold Ev;cases is with
   | false => rfl
   | true => rw [Bool.true_and, decide_eq_false (fun h => hc ⟨rfl, h⟩)]; rfl
  rw [aH] at hr ⊢;have Hp := Lq7 hp;have Ht := Lq7 (fun (w1 : World) (h : PS w1 bp en ts (dp + 1)) => C8 bp is en ts (dp + 1) w1 h hr);obtain ⟨a, cap, h1, h2, h3, h4⟩ := hp;obtain ⟨aW, aI, hf⟩ := Ao h1;have q3 := aI 3;have z3 := hf 3;simp at q3;have H1 := Lq7 h1;have H4 := Lq7 h4;have Hr := Lq7 hr;clear hr aH aI hf h1 h4 aQ;have aJ : is = false ∨ (is = true ∧ ¬ 60 ≤ dp) := by
   cases is with
   | false => exact .inl rfl
   | true => exact .inr ⟨rfl, fun h => hc ⟨rfl, h⟩⟩
  clear hc;unfold ptr at Ht ⊢;rcases aJ with rfl | ⟨rfl, hlt⟩
  all_goals
   go_enter Tryz.func120, Tryz.ntmps120;go_wp2_with fail;obtain ⟨W3, aM⟩ : ∃ W3, W3 = (w.setCell ⟨bp, 3, none⟩ (.int .i64 (dp + 1))).alloc (.cells #[.int .i64 0, .string ⟨#[]⟩, .int .i64 0, .int .i64 0] 98) := ⟨_, rfl⟩;rw [← aM];have aX : w.grownBy W3 (some bp) := (by rw [aM]; exact C9 (grownBy_set (grownBy_refl w _) 3 _) _);have aN : PS W3 bp en ts (dp + 1) := by
    refine ⟨a, cap, ?_, h2, h3, H4.out.grown aX⟩;rw [aM, Below.heap_alloc _ _ _ (by simpa using aW)];exact set_same H1.out 3 _
   have aZ : W3.heap[w.heap.size]? = some (.cells #[.int .i64 0, .string ⟨#[]⟩, .int .i64 0, .int .i64 0] 98 (0, 0)) := by
    rw [aM];have := heap_alloc_new (w.setCell ⟨bp, 3, none⟩ (.int .i64 (dp + 1))) (.cells #[.int .i64 0, .string ⟨#[]⟩, .int .i64 0, .int .i64 0] 98)
    simpa using this
   have aR := Lq7 (And.intro aX aZ);have bA := Lq7 (Ht.out W3 aN);clear aM aX aN aZ Ht H1 H4 q3 z3;refine bA.out.mono ?_;rintro e w2 ⟨aB, hq⟩;have Hg : Hid (w.grownBy w2 (some bp)) := Lq7 (grownBy_trans aR.out.1 aB);obtain ⟨hbr, hcs', hf'⟩ := Ao ((aB.block _ (Array.getElem?_eq_some_iff.1 aR.out.2).1 (by intro e; cases e; omega)).trans aR.out.2);have r0 := hcs' 0;have r1 := hcs' 1;have r2 := hcs' 2;have r3 := hcs' 3;have y0 := hf' 0;have y1 := hf' 1;have y2 := hf' 2;have y3 := hf' 3;simp at r0 r1 r2 r3;clear hcs' hf' aB bA aR;cases hm : A5 en _ ts (dp + 1) with
   | out => exact absurd hm Hr.out
   | err x l c =>
    rw [hm] at hq;obtain rfl := hq;exact ⟨rfl, Hg.out, rfl⟩
   | ok x ts' d' =>
    rw [hm] at hq;obtain ⟨aG, v, rfl, rfl⟩ := hq;have aU := Lq7 aG;have Hm := Lq7 hm;clear hm aG Hr;unfold tokV;go_wp2_with fail;refine bodyPost_ret (v := tokV x) (by simp [tokV, results, Tryz.results120, go_sem, r0, r1, r2, r3]) rfl ?_;rw [Hm.out];have hbw : bp ≠ w.heap.size := (by omega);have bB : ∀ b, b ≠ w.heap.size → ((((w2.setCell ⟨w.heap.size, 0, none⟩ (.int .i64 x.kind)).setCell ⟨w.heap.size, 1, none⟩ (.string x.text)).setCell ⟨w.heap.size, 2, none⟩ (.int .i64 x.line)).setCell ⟨w.heap.size, 3, none⟩ (.int .i64 x.col)).heap[b]? = w2.heap[b]? := fun b hb => by
     rw [set_other hb, set_other hb, set_other hb, set_other hb]
    exact ⟨Bt (Bt (Bt (Bt Hg.out (nlr _) _ _) (nlr _) _ _) (nlr _) _ _) (nlr _) _ _, aU.out.kept (bB _ hbw) (fun b hb _ => bB b (by omega)) (by simp), _, rfl, rfl⟩
def Fv (kind : Int) (t : Tok) (text : ByteArray) (a : Option Addr) (n cap : Nat) : Value := .agg #[.int .i64 kind, .string text, .int .i64 t.line, .int .i64 t.col, .slice a n cap]
theorem Dk (kind : Int) (t : Tok) (text : ByteArray) (a : Option Addr) (n cap : Nat) (w : World) :
  Calls Tryz.prog 42 #[.int .i64 kind, tokV t, .string text, .slice a n cap] w (fun e w' => e = .returned (Fv kind t text a n cap) ∧ Below w.heap.size w w') := by
 unfold tokV Fv;go_enter Tryz.func42, Tryz.ntmps42;go_wp2_with fail;refine bodyPost_ret (v := Fv kind t text a n cap) (by simp [Fv, results, Tryz.results42, go_sem]) rfl ?_;exact ⟨rfl, ((Below.refl _ w).alloc (nlr _) _).alloc (by simp) _⟩
def Bn (B : Nat) (x : Nd) (w : World) (v : Value) : Prop := Au (fun b => B ≤ b) w x v
def VRow (B : Nat) (l : List Nd) (w : World) (v : Value) : Prop := ∃ a cap, v = .slice a l.length cap ∧ Ac (fun b => B ≤ b) w a (nodesD l)
def VOwn (B : Nat) (l : List Nd) (w : World) (v : Value) : Prop := OwnD (fun b => B ≤ b) w B 59 5 v (nodesD l) ∧ l.length ≤ 200000
theorem VOwn.row {B : Nat} {l : List Nd} {w : World} {v : Value} (h : VOwn B l w v) : VRow B l w v := by
 obtain ⟨a, cap, bG, aH⟩ := h.1.rowAt (fun g hg => (h.1.block_lt hg).1);rw [Al] at bG;exact ⟨a, cap, bG, aH⟩
theorem PP.weaker {α : Type} {bp : Nat} {en : Int × Int} {val val' : α → World → Value → Prop} {r : PR α} {w w' : World} {e : Ending} (h : PP bp en val r w e w') (hv : ∀ x v, val x w' v → val' x w' v) : PP bp en val' r w e w' := by
 refine ⟨h.1, ?_⟩;have h2 := h.2;cases r with
 | ok x ts dp => obtain ⟨h3, v, h4, h5⟩ := h2; exact ⟨h3, v, h4, hv x v h5⟩
 | err a l c => exact h2
 | out => trivial
def C0 {α : Type} (f bp : Nat) (en : Int × Int) (val : Nat → α → World → Value → Prop) (m : PM α) : Prop :=
 ∀ (w : World) (ts : List Tok) (dp : Int), PS w bp en ts dp → 0 ≤ dp → dp ≤ 1000 → m ts dp ≠ .out → Calls Tryz.prog f #[ptr bp] w (PP bp en (val w.heap.size) (m ts dp) w)
theorem PS.lt {w : World} {bp : Nat} {en : Int × Int} {ts : List Tok} {dp : Int} (h : PS w bp en ts dp) : bp < w.heap.size := let ⟨_, _, h1, _⟩ := h; (Array.getElem?_eq_some_iff.1 h1).1
theorem PS.few {w : World} {bp : Nat} {en : Int × Int} {ts : List Tok} {dp : Int} (h : PS w bp en ts dp) : ts.length ≤ 70000 := let ⟨_, _, _, h2, _⟩ := h; h2.2
theorem PS.own {w w' : World} {bp : Nat} {en : Int × Int} {ts : List Tok} {dp : Int} {v : Value} (h : PS w bp en ts dp) (k : w.grownBy w' v.ownBlock) (hv : ∀ g, v.ownBlock = some g → bp < g) : PS w' bp en ts dp :=
 h.kept (k.block bp h.lt (fun e => by have := hv bp e.symm; omega)) (fun b hb hl => k.block b hl (fun e => by have := hv b e.symm; omega)) k.size
theorem list_own (bp : Nat) (tt : ByteArray) (f : Nat) (fa lb : Array Value) (one : PM (List Nd)) (en : Int × Int) (ts : List Tok) (dp : Int) (w : World) (hd0 : 0 ≤ dp) (hd1 : dp ≤ 1000) (hp : PS w bp en ts dp)
  (henter : ∀ (args : Array Value) (w : World), (callFunc f args).run Tryz.prog w = .ok (.enter f args) w)
  (hone : ∀ (w1 : World) (ts1 : List Tok), w.grownBy w1 (some bp) → PS w1 bp en ts1 dp → one ts1 dp ≠ .out → Calls Tryz.prog f (fa ++ lb) w1 (PP bp en (VRow w1.heap.size) (one ts1 dp) w1))
  (hinc : Inc 0 one) (hlen : ∀ ts d l ts' d', one ts d = .ok l ts' d' → l ≠ [] ∧ l.length ≤ 2) (hr : Dt en tt.data.toList one ts dp ≠ .out) :
  Calls Tryz.prog 122 #[ptr bp, .string tt, .func (.func f) fa lb] w (PP bp en (VOwn w.heap.size) (Dt en tt.data.toList one ts dp) w) := by
 obtain ⟨i0, hi, bS, bU, bV⟩ := info_parts infoNode;have hfew := hp.few;have hbpl := hp.lt;have Hp := Lq7 hp;have bH := Lq7 hone;have bI := Lq7 hlen;have Hr := Lq7 hr;clear hp hone hlen hr;unfold ptr;go_enter Tryz.func122, Tryz.ntmps122;go_wp2_with fail
 go_loopg [7] (ts.length + 1) (fun g v wr => ∃ (acc : List Nd) (ts1 : List Tok) (v' : Value), v = v' ∧ g ≤ ts.length + 1 ∧ acc.length + 2 * g ≤ 2 * (ts.length + 1) ∧ Hid (Dt en tt.data.toList one ts dp = Dl en tt.data.toList one g acc ts1 dp) ∧ Hid (w.grownBy wr (some bp) ∧ PS wr bp en ts1 dp) ∧ Hid (OwnD (fun b => w.heap.size ≤ b) wr w.heap.size 59 5 v' (nodesD acc)))
 case atStart => exact ⟨[], ts, _, rfl, nlr _, by simp, Lq7 rfl, Lq7 ⟨grownBy_refl _ _, Hp.out⟩, Lq7 (OwnD.nil _ _ _ _ _)⟩
 case round =>
  obtain ⟨acc, ts1, v, hv, hg1, bF, aJ, bA, hown⟩ := hrel;have hv := hv.symm;subst hv;cases gk with
  | zero => exact absurd aJ.out Hr.out
  | succ g =>
   have Hs := Lq7 (Ca bp 0 tt en ts1 dp wr (by omega) bA.out.2);unfold ptr at Hs;cases hb : isSign en ts1 0 tt.data.toList
   ·rw [hb] at Hs;have aX : Hid (Dt en tt.data.toList one ts dp = PM.bind (if acc = [] then PM.pure () else Ex en [44]) (fun _ => PM.bind one fun l => Dl en tt.data.toList one g (acc ++ l)) ts1 dp) := Lq7 (by rw [aJ.out, Dl, Cr, hb]; rfl);clear hb aJ;go_wp2_with fail;refine Hs.out.mono ?_;rintro e w1 ⟨rfl, aY⟩;have aG : Hid (w.grownBy w1 (some bp) ∧ PS w1 bp en ts1 dp) := Lq7 ⟨grownBy_trans bA.out.1 (grownBy_below aY), bA.out.2.grown aY⟩;have aB := Lq7 (hown.out.below aY);clear aY Hs bA hown;obtain ⟨a, cap, bG, -⟩ := aB.out.rowAt (fun g hg => (aB.out.block_lt hg).1);rw [Al] at bG;subst bG;cases acc with
    | nil =>
     have aI : Hid (Dt en tt.data.toList one ts dp = PM.bind one (fun l => Dl en tt.data.toList one g ([] ++ l)) ts1 dp) := Lq7 (by rw [aX.out, if_pos rfl]; rfl);clear aX;have bJ : one ts1 dp ≠ .out := fun h => Hr.out (by rw [aI.out, A3 h]);have Ho := Lq7 (bH.out w1 ts1 aG.out.1 aG.out.2 bJ);have hws : w.heap.size ≤ w1.heap.size := aG.out.1.size;clear bJ;go_wp2_with fail;refine Ho.out.mono ?_;rintro e w3 ⟨bB, hq⟩;have aQ := Lq7 (And.intro (grownBy_trans aG.out.1 bB) bB);clear bB Ho;cases hm : one ts1 dp with
     | out => exact absurd (by rw [aI.out, A3 hm]) Hr.out
     | err x l c =>
      rw [hm] at hq;obtain rfl := hq;have Hf : Hid (Dt en tt.data.toList one ts dp = .err x l c) := Lq7 (by rw [aI.out, Cp hm]);clear hm;refine ⟨rfl, ?_⟩;rw [Hf.out];exact ⟨aQ.out.1, rfl⟩
     | ok l ts3 d3 =>
      have bP : d3 = dp := (by have := hinc _ _ _ _ _ hm; omega);subst bP;obtain ⟨bL, hl2⟩ := bI.out _ _ _ _ _ hm;rw [hm] at hq;obtain ⟨aR, v, rfl, a2, bC, rfl, aH⟩ := hq;have bQ : ∃ b2 aF, a2 = some ⟨b2, aF, none⟩ := by
       cases l with
       | nil => exact absurd rfl bL
       | cons n t =>
        obtain ⟨b2, aF, cs, ha, -⟩ := aH 0 (nodeD n) (by rw [Bx]; rfl);exact ⟨b2, aF, ha⟩
      obtain ⟨b2, aF, rfl⟩ := bQ;have bD : Hid (Dt en tt.data.toList one ts d3 = Dl en tt.data.toList one g ([] ++ l) ts3 d3) := Lq7 (by rw [aI.out, Dj hm]);have aE : Hid (OwnD (fun b => w.heap.size ≤ b) w3 w.heap.size 59 5 (.slice a 0 cap) (nodesD [])) := Lq7 (aB.out.keep (fun b hb hF => aQ.out.2.block b hb (by
       intro e; cases e;rcases hF with hF | hF
       ·omega
       ·have := (aB.out.block_lt hF).1; omega)) aQ.out.2.size)
      have aM : Hid (Ac (fun b => w.heap.size ≤ b ∧ (Value.slice a 0 cap).ownBlock ≠ some b) w3 (some ⟨b2, aF, none⟩) (nodesD l)) := Lq7 (aH.wider (fun b hb _ => ⟨by omega, fun e => by have := (aB.out.block_lt e).2; omega⟩));have aU := Lq7 aR;clear hm aH aR bL
      go_wp2_with (at_builtin; refine Bq rfl _ _ 55 rfl w.heap.size 59 i0 _ 5 64 Tryz.underlying55 hi bS bU bV rfl (by decide) (.slice a 0 cap) (fun b => w.heap.size ≤ b) (nodesD []) rfl aE.out b2 aF bC (nodesD l) ?_ aM.out (Co Fq l) (Co Fa l) ?_ ?_ ?_ ?_)
      ·rw [Al]; rfl
      ·rw [Al, Al]; unfold maxLen; simp only [lnN] at bF ⊢; omega
      ·rw [Al, Al]; simp only [lnN] at bF ⊢; omega
      ·exact aQ.out.1.size
      intro v4 w4 aN aC _;have bE : Hid (w.grownBy w4 (some bp) ∧ PS w4 bp en ts3 d3) := Lq7 ⟨Fc aQ.out.1 aC (fun g hg => (aE.out.block_lt hg).1), aU.out.own aC (fun g hg => by have := (aE.out.block_lt hg).1; omega)⟩;have aV : Hid (OwnD (fun b => w.heap.size ≤ b) w4 w.heap.size 59 5 v4 (nodesD ([] ++ l))) := Lq7 (by rw [Dz]; exact aN);clear aN aC aE aM aU aQ;go_wp2_with fail
      go_roundg g
      case measure => omega
      case rel => exact ⟨[] ++ l, ts3, _, rfl, by omega, by simp only [lnA, lnN] at bF ⊢; omega, bD, bE, aV⟩
    | cons x0 acc0 =>
     have bM : Ex en [44] ts1 dp ≠ .out := fun h => Hr.out (by rw [aX.out, if_neg (by simp), A3 h]);have He := Lq7 (Hj bp ⟨#[44]⟩ en ts1 dp w1 aG.out.2 bM);unfold ptr at He;clear bM;go_wp2_with fail;refine He.out.mono ?_;rintro e w2 ⟨bR, hq⟩;have bN := Lq7 (And.intro (grownBy_trans aG.out.1 bR) bR);clear bR He;cases hm : Ex en [44] ts1 dp with
     | out => exact absurd (by rw [aX.out, if_neg (by simp), A3 hm]) Hr.out
     | err x l c =>
      rw [hm] at hq;obtain rfl := hq;have Hf : Hid (Dt en tt.data.toList one ts dp = .err x l c) := Lq7 (by rw [aX.out, if_neg (by simp), Cp hm]);clear hm;refine ⟨rfl, ?_⟩;rw [Hf.out];exact ⟨bN.out.1, rfl⟩
     | ok u ts2 d2 =>
      have hd2 : d2 = dp := (by have := Inc.eat _ _ _ _ _ _ hm; omega);subst hd2;rw [hm] at hq;obtain ⟨bO, v, rfl, -⟩ := hq;have aZ := Lq7 (And.intro bN.out.1 bO);have aW : Hid (OwnD (fun b => w.heap.size ≤ b) w2 w.heap.size 59 5 (.slice a (x0 :: acc0).length cap) (nodesD (x0 :: acc0))) := Lq7 (aB.out.keep (fun b hb hF => bN.out.2.block b hb (by
       intro e; cases e;rcases hF with hF | hF
       ·omega
       ·have := (aB.out.block_lt hF).1; omega)) bN.out.2.size)
      have aI : Hid (Dt en tt.data.toList one ts d2 = PM.bind one (fun l => Dl en tt.data.toList one g ((x0 :: acc0) ++ l)) ts2 d2) := Lq7 (by rw [aX.out, if_neg (by simp), Dj hm]);clear hm bO aG aB aX bN;have bJ : one ts2 d2 ≠ .out := fun h => Hr.out (by rw [aI.out, A3 h]);have Ho := Lq7 (bH.out w2 ts2 aZ.out.1 aZ.out.2 bJ);have hws : w.heap.size ≤ w2.heap.size := aZ.out.1.size;clear bJ;go_wp2_with fail;refine Ho.out.mono ?_;rintro e w3 ⟨bB, hq⟩;have aQ := Lq7 (And.intro (grownBy_trans aZ.out.1 bB) bB);clear bB Ho;cases hm : one ts2 d2 with
      | out => exact absurd (by rw [aI.out, A3 hm]) Hr.out
      | err x l c =>
       rw [hm] at hq;obtain rfl := hq;have Hf : Hid (Dt en tt.data.toList one ts d2 = .err x l c) := Lq7 (by rw [aI.out, Cp hm]);clear hm;refine ⟨rfl, ?_⟩;rw [Hf.out];exact ⟨aQ.out.1, rfl⟩
      | ok l ts3 d3 =>
       have bP : d3 = d2 := (by have := hinc _ _ _ _ _ hm; omega);subst bP;obtain ⟨bL, hl2⟩ := bI.out _ _ _ _ _ hm;rw [hm] at hq;obtain ⟨aR, v, rfl, a2, bC, rfl, aH⟩ := hq;have bQ : ∃ b2 aF, a2 = some ⟨b2, aF, none⟩ := by
        cases l with
        | nil => exact absurd rfl bL
        | cons n t =>
         obtain ⟨b2, aF, cs, ha, -⟩ := aH 0 (nodeD n) (by rw [Bx]; rfl);exact ⟨b2, aF, ha⟩
       obtain ⟨b2, aF, rfl⟩ := bQ;have bD : Hid (Dt en tt.data.toList one ts d3 = Dl en tt.data.toList one g ((x0 :: acc0) ++ l) ts3 d3) := Lq7 (by rw [aI.out, Dj hm]);have aE : Hid (OwnD (fun b => w.heap.size ≤ b) w3 w.heap.size 59 5 (.slice a (x0 :: acc0).length cap) (nodesD (x0 :: acc0))) := Lq7 (aW.out.keep (fun b hb hF => aQ.out.2.block b hb (by
        intro e; cases e;rcases hF with hF | hF
        ·omega
        ·have := (aW.out.block_lt hF).1; omega)) aQ.out.2.size)
       have aM : Hid (Ac (fun b => w.heap.size ≤ b ∧ (Value.slice a (x0 :: acc0).length cap).ownBlock ≠ some b) w3 (some ⟨b2, aF, none⟩) (nodesD l)) := Lq7 (aH.wider (fun b hb _ => ⟨by omega, fun e => by have := (aW.out.block_lt e).2; omega⟩));have aU := Lq7 aR;clear hm aH aR bL
       go_wp2_with (at_builtin; refine Bq rfl _ _ 55 rfl w.heap.size 59 i0 _ 5 64 Tryz.underlying55 hi bS bU bV rfl (by decide) (.slice a (x0 :: acc0).length cap) (fun b => w.heap.size ≤ b) (nodesD (x0 :: acc0)) rfl aE.out b2 aF bC (nodesD l) ?_ aM.out (Co Fq l) (Co Fa l) ?_ ?_ ?_ ?_)
       ·rw [Al]; rfl
       ·rw [Al, Al]; unfold maxLen; simp only [lnC] at bF ⊢; omega
       ·rw [Al, Al]; simp only [lnC] at bF ⊢; omega
       ·exact aQ.out.1.size
       intro v4 w4 aN aC _;have bE : Hid (w.grownBy w4 (some bp) ∧ PS w4 bp en ts3 d3) := Lq7 ⟨Fc aQ.out.1 aC (fun g hg => (aE.out.block_lt hg).1), aU.out.own aC (fun g hg => by have := (aE.out.block_lt hg).1; omega)⟩;have aV : Hid (OwnD (fun b => w.heap.size ≤ b) w4 w.heap.size 59 5 v4 (nodesD ((x0 :: acc0) ++ l))) := Lq7 (by rw [Dz]; exact aN);clear aN aC aE aM aU aQ;go_wp2_with fail
       go_roundg g
       case measure => omega
       case rel => exact ⟨(x0 :: acc0) ++ l, ts3, _, rfl, by omega, by simp only [lnA, lnC] at bF ⊢; omega, bD, bE, aV⟩
   ·rw [hb] at Hs;have aX : Hid (Dt en tt.data.toList one ts dp = .ok acc ts1 dp) := Lq7 (by rw [aJ.out, Dl, Cr, hb]; rfl);clear hb aJ;go_wp2_with fail;refine Hs.out.mono ?_;rintro e w1 ⟨rfl, aY⟩;have aG : Hid (w.grownBy w1 (some bp) ∧ PS w1 bp en ts1 dp) := Lq7 ⟨grownBy_trans bA.out.1 (grownBy_below aY), bA.out.2.grown aY⟩;have aB := Lq7 (hown.out.below aY);clear aY Hs bA hown;go_wp2_with fail;go_ret;rw [aX.out];exact ⟨aG.out.1, aG.out.2, _, rfl, aB.out, by omega⟩
theorem list_any (bp : Nat) (tt : ByteArray) (f : Nat) (fa lb : Array Value) (one : PM (List Nd)) (en : Int × Int) (ts : List Tok) (dp : Int) (w : World) (hd0 : 0 ≤ dp) (hd1 : dp ≤ 1000) (hp : PS w bp en ts dp)
  (henter : ∀ (args : Array Value) (w : World), (callFunc f args).run Tryz.prog w = .ok (.enter f args) w)
  (hone : ∀ (w1 : World) (ts1 : List Tok), w.grownBy w1 (some bp) → PS w1 bp en ts1 dp → one ts1 dp ≠ .out → Calls Tryz.prog f (fa ++ lb) w1 (PP bp en (VRow w1.heap.size) (one ts1 dp) w1))
  (hinc : Inc 0 one) (hlen : ∀ ts d l ts' d', one ts d = .ok l ts' d' → l ≠ [] ∧ l.length ≤ 2) (hr : Dt en tt.data.toList one ts dp ≠ .out) :
  Calls Tryz.prog 122 #[ptr bp, .string tt, .func (.func f) fa lb] w (PP bp en (VRow w.heap.size) (Dt en tt.data.toList one ts dp) w) :=
 (list_own bp tt f fa lb one en ts dp w hd0 hd1 hp henter hone hinc hlen hr).mono fun _ _ h => PP.weaker h fun _ _ hv => hv.row
def zeroNode : Array Value := #[.int .i64 0, .string ⟨#[]⟩, .int .i64 0, .int .i64 0, .slice none 0 0]
def Locs (w : World) (ls : List (Nat × Array Value × TypeId)) : Prop := ∀ x ∈ ls, w.heap[x.1]? = some (.cells x.2.1 x.2.2 (0, 0))
structure PI (w : World) (bp : Nat) (en : Int × Int) (ts : List Tok) (dp : Int) (ls : List (Nat × Array Value × TypeId)) (rows : List (Option Addr × List Nd)) (W : World) : Prop where
 grown : w.grownBy W (some bp)
 ps : PS W bp en ts dp
 locs : Locs W ls
 own : ∀ x ∈ ls, w.heap.size ≤ x.1
 bpl : bp < w.heap.size
 rows : ∀ r ∈ rows, Ac (fun b => w.heap.size ≤ b ∧ ∀ x ∈ ls, b ≠ x.1) W r.1 (nodesD r.2)
 dist : (ls.map (·.1)).Nodup
section
variable {w W W' : World} {bp : Nat} {en : Int × Int} {ts ts' : List Tok} {dp dp' : Int} {ls : List (Nat × Array Value × TypeId)} {rows : List (Option Addr × List Nd)}
theorem PI.start (h : PS w bp en ts dp) : PI w bp en ts dp [] [] w := ⟨grownBy_refl _ _, h, (by intro x hx; cases hx), (by intro x hx; cases hx), h.lt, (by intro x hx; cases hx), .nil⟩
theorem Locs.lt (h : Locs W ls) {x : Nat × Array Value × TypeId} (hx : x ∈ ls) : x.1 < W.heap.size := (Array.getElem?_eq_some_iff.1 (h x hx)).1
theorem PI.below (h : PI w bp en ts dp ls rows W) (hb : Below W.heap.size W W') : PI w bp en ts dp ls rows W' :=
 ⟨grownBy_trans h.grown (grownBy_below hb), h.ps.grown hb, fun x hx => (hb.block _ (h.locs.lt hx)).trans (h.locs x hx), h.own, h.bpl, fun r hr => (h.rows r hr).below hb, h.dist⟩
theorem PI.alloc (h : PI w bp en ts dp ls rows W) (cs : Array Value) (T : TypeId) : PI w bp en ts dp ((W.heap.size, cs, T) :: ls) rows (W.alloc (.cells cs T)) := by
 obtain ⟨h1, h2, h3, h4, h5, h6, h8⟩ := h.below ((Below.refl _ W).alloc (nlr _) (.cells cs T));refine ⟨h1, h2, fun x hx => ?_, fun x hx => ?_, h5, fun r hr => ?_, List.nodup_cons.2 ⟨fun hx => ?_, h8⟩⟩
 ·rcases List.mem_cons.1 hx with rfl | hx
  ·exact heap_alloc_new W _
  ·exact h3 x hx
 ·rcases List.mem_cons.1 hx with rfl | hx
  ·exact h.grown.size
  ·exact h4 x hx
 ·have h7 := (h.rows r hr).here;refine (h7.below ((Below.refl _ W).alloc (nlr _) (.cells cs T))).wider (fun b hb _ => ⟨hb.1.1, fun x hx => ?_⟩);rcases List.mem_cons.1 hx with rfl | hx
  ·exact nnl hb.2
  ·exact hb.1.2 x hx
 ·obtain ⟨x, hx, e⟩ := List.mem_map.1 hx;have h9 := h.locs.lt hx;have h10 : x.1 = W.heap.size := e;omega
theorem PI.call (h : PI w bp en ts dp ls rows W) (hg : W.grownBy W' (some bp)) (hp : PS W' bp en ts' dp') : PI w bp en ts' dp' ls rows W' :=
 ⟨grownBy_trans h.grown hg, hp, fun x hx => (hg.block _ (h.locs.lt hx) (fun e => by cases e; have := h.own x hx; have := h.bpl; omega)).trans (h.locs x hx), h.own, h.bpl,
  fun r hr => (h.rows r hr).mono fun b hb hl => ⟨hb, nll hl hg.size, hg.block b hl (fun e => by cases e; have := h.bpl; omega)⟩, h.dist⟩
theorem PI.row {B : Nat} {a : Option Addr} {l : List Nd} (h : PI w bp en ts dp ls rows W) (hrow : Ac (fun b => B ≤ b) W a (nodesD l)) (hw : w.heap.size ≤ B) (hB : ∀ x ∈ ls, x.1 < B) : PI w bp en ts dp ls ((a, l) :: rows) W :=
 ⟨h.grown, h.ps, h.locs, h.own, h.bpl, fun r hr => by
  rcases List.mem_cons.1 hr with rfl | hr
  ·exact hrow.wider (fun b hb _ => ⟨by omega, fun x hx e => by have := hB x hx; omega⟩)
  ·exact h.rows r hr, h.dist⟩
theorem PI.at (h : PI w bp en ts dp ls rows W) {b : Nat} {cs : Array Value} {T : TypeId} (hx : (b, cs, T) ∈ ls) : W.heap[b]? = some (.cells cs T (0, 0)) := h.locs _ hx
theorem PI.lt (h : PI w bp en ts dp ls rows W) : ∀ x ∈ ls, x.1 < W.heap.size := fun _ hx => h.locs.lt hx
theorem PI.drew (h : PI w bp en ts dp ls rows W) : PI w bp en ts dp ls rows W.drew := h.below ((Below.refl _ W).drew)
theorem PI.set (h : PI w bp en ts dp ls rows W) (j : Nat) {b : Nat} {cs : Array Value} {T : TypeId} (hj : ls[j]? = some (b, cs, T)) (i : Nat) (v : Value) : PI w bp en ts dp (ls.set j (b, cs.setIfInBounds i v, T)) rows (W.setCell ⟨b, i, none⟩ v) := by
 have hm : (b, cs, T) ∈ ls := lgM hj;have hb : w.heap.size ≤ b := h.own _ hm;have hbp := h.bpl;have hX : ∀ k, k ≠ b → (W.setCell ⟨b, i, none⟩ v).heap[k]? = W.heap[k]? := fun k hk => set_other hk i v;have aB : ∀ x ∈ ls.set j (b, cs.setIfInBounds i v, T), x = (b, cs.setIfInBounds i v, T) ∨ (x ∈ ls ∧ x.1 ≠ b) := fun x hx => by
  obtain ⟨k, hk⟩ := List.mem_iff_getElem?.1 hx;rw [List.getElem?_set] at hk;split at hk
  ·split at hk
   ·exact .inl (Option.some.inj hk).symm
   ·cases hk
  ·rename_i hne
   refine .inr ⟨lgM hk, fun e => hne ?_⟩;have aC := (List.getElem?_eq_some_iff.1 hj).1;have hkl := (List.getElem?_eq_some_iff.1 hk).1;refine (List.getElem_inj (h₀ := by simpa using aC) (h₁ := by simpa using hkl) h.dist).1 ?_;have h1 := (List.getElem?_eq_some_iff.1 hj).2;have h2 := (List.getElem?_eq_some_iff.1 hk).2;simp only [List.getElem_map, h1, h2, e]
 have aE : (ls.set j (b, cs.setIfInBounds i v, T)).map (·.1) = ls.map (·.1) := by
  rw [List.map_set];refine List.ext_getElem? fun k => ?_;rw [List.getElem?_set];split
  ·rename_i e
   subst e;rw [lgP, hj];simp [(List.getElem?_eq_some_iff.1 hj).1]
  ·rfl
 refine ⟨Bt h.grown hb i v, h.ps.kept (hX _ (by omega)) (fun k hk _ => hX k (by omega)) (by simp), fun x hx => ?_, fun x hx => ?_, hbp, fun r hr => ?_, by rw [aE]; exact h.dist⟩
 ·rcases aB x hx with rfl | ⟨hx, hne⟩
  ·exact set_same (h.locs _ hm) i v
  ·rw [hX _ hne]; exact h.locs x hx
 ·rcases aB x hx with rfl | ⟨hx, hne⟩
  ·exact hb
  ·exact h.own x hx
 ·refine (h.rows r hr).mono fun k hk hl => ⟨⟨hk.1, fun x hx => ?_⟩, by simpa using hl, hX k (hk.2 _ hm)⟩;rcases aB x hx with rfl | ⟨hx, hne⟩
  ·exact hk.2 (b, cs, T) hm
  ·exact hk.2 x hx
theorem PI.put5 (h : PI w bp en ts dp ls rows W) (j : Nat) {b : Nat} {x0 x1 x2 x3 x4 : Value} {T : TypeId} (hj : ls[j]? = some (b, #[x0, x1, x2, x3, x4], T)) (v0 v1 v2 v3 v4 : Value) :
  PI w bp en ts dp (ls.set j (b, #[v0, v1, v2, v3, v4], T)) rows (((((W.setCell ⟨b, 0, none⟩ v0).setCell ⟨b, 1, none⟩ v1).setCell ⟨b, 2, none⟩ v2).setCell ⟨b, 3, none⟩ v3).setCell ⟨b, 4, none⟩ v4) := by
 have aC := (List.getElem?_eq_some_iff.1 hj).1;have h1 := h.set j hj 0 v0;have h2 := h1.set j (b := b) (cs := #[v0, x1, x2, x3, x4]) (T := T) (by rw [List.getElem?_set_self aC]; rfl) 1 v1;rw [List.set_set] at h2;have h3 := h2.set j (b := b) (cs := #[v0, v1, x2, x3, x4]) (T := T) (by rw [List.getElem?_set_self aC]; rfl) 2 v2;rw [List.set_set] at h3;have h4 := h3.set j (b := b) (cs := #[v0, v1, v2, x3, x4]) (T := T) (by rw [List.getElem?_set_self aC]; rfl) 3 v3;rw [List.set_set] at h4;have h5 := h4.set j (b := b) (cs := #[v0, v1, v2, v3, x4]) (T := T) (by rw [List.getElem?_set_self aC]; rfl) 4 v4;rw [List.set_set] at h5;exact h5
theorem PI.less {l2 : List (Nat × Array Value × TypeId)} {r2 : List (Option Addr × List Nd)} (h : PI w bp en ts dp ls rows W) (h1 : l2.Sublist ls) (h2 : ∀ r ∈ r2, r ∈ rows) : PI w bp en ts dp l2 r2 W :=
 ⟨h.grown, h.ps, fun x hx => h.locs x (h1.subset hx), fun x hx => h.own x (h1.subset hx), h.bpl, fun r hr => (h.rows r (h2 r hr)).wider (fun _ hb _ => ⟨hb.1, fun x hx => hb.2 x (h1.subset hx)⟩), (h1.map _).nodup h.dist⟩
theorem PI.hand (h : PI w bp en ts dp ls rows W) {a : Option Addr} {l : List Nd} (hr : (a, l) ∈ rows) : Ac (fun b => w.heap.size ≤ b) W a (nodesD l) := (h.rows (a, l) hr).wider (fun _ hb _ => hb.1)
end
theorem Hu {F : Nat → Prop} {w : World} (k : Int) (t : ByteArray) (l c : Int) {kids : List Nd} {a : Option Addr} (cap : Nat) (h : Ac F w a (nodesD kids)) (hk : k = 6 → kids.length ≤ cap := by first | exact trivial | (refine Hid.out ?_; assumption) | assumption | (intro _; exact nlz _) | (intro h6; exact absurd h6 (by decide))) :
  Ah F w (nodeD (.mk k t l c kids)) [.int .i64 k, .string t, .int .i64 l, .int .i64 c, .slice a kids.length cap] := by
 rw [nodeD];exact .cons (.one _) (.cons (.one _) (.cons (.one _) (.cons (.one _) (.cons (by rw [← Al kids]; exact B4.rowb_mk cap (fun h6 => by rw [Al]; exact hk (by simpa using h6)) h) .nil))))
theorem Ac.lit {F : Nat → Prop} {w : World} {b size : Nat} {T : TypeId} {cs : Array Value} (css : List (List Value)) {l : List (List Dat)} (hb : w.heap[b]? = some (.cells cs T (0, 0))) (hcs : cs.toList = css.flatten) (hF : F b)
  (hsz : ∀ c ∈ css, c.length = size) (hlen : css.length = l.length) (hd : ∀ (j : Nat) ds c, l[j]? = some ds → css[j]? = some c → Ah F w ds c) : Ac F w (some ⟨b, 0, none⟩) l := by
 intro j ds hj;have aC := (List.getElem?_eq_some_iff.1 hj).1;have aF : css[j]? = some (css[j]'(by omega)) := lgE _;have ha := hd j ds _ hj aF;refine ⟨b, 0, _, rfl, hF, (Array.getElem?_eq_some_iff.1 hb).1, ha, fun i u hu => ?_⟩;have h9 := Db hsz aF hu;rw [← hcs, Array.getElem?_toList] at h9;unfold World.cell?;rw [hb, Nat.zero_add, ← ha.1, hsz _ (lgM aF)];exact h9
def CapOk : List (List Value) → List Nd → Prop
 | [_, _, _, _, .slice _ _ cap] :: css, .mk k _ _ _ kids :: l => (k = 6 → kids.length ≤ cap) ∧ CapOk css l
 | _, _ => True
theorem CapOk.get : ∀ {css : List (List Value)} {l : List Nd} {j : Nat} {k ln cl : Int} {t : ByteArray} {kids : List Nd} {c0 c1 c2 c3 : Value} {a : Option Addr} {n cap : Nat}, CapOk css l → l[j]? = some (.mk k t ln cl kids) → css[j]? = some [c0, c1, c2, c3, .slice a n cap] → (∀ (i : Nat) (c : List Value) (x : Nd), css[i]? = some c → l[i]? = some x → ∃ d0 d1 d2 d3 b m e, c = [d0, d1, d2, d3, Value.slice b m e]) → k = 6 → kids.length ≤ cap
 | [], _, _, _, _, _, _, _, _, _, _, _, _, _, _, _, _, hc, _ => by simp at hc
 | _ :: _, [], _, _, _, _, _, _, _, _, _, _, _, _, _, _, hl, _, _ => by simp at hl
 | c :: css, x :: l, j, _, _, _, _, _, _, _, _, _, _, _, _, h, hl, hc, hall => by
  obtain ⟨d0, d1, d2, d3, b, m, e, rfl⟩ := hall 0 c x rfl rfl;obtain ⟨xk, xt, xl, xc, xs⟩ := x;rw [CapOk] at h;cases j with
  | zero =>
   simp at hl hc;obtain ⟨rfl, rfl, rfl, rfl, rfl⟩ := hl;obtain ⟨-, -, -, -, -, -, rfl⟩ := hc;exact h.1
  | succ j => exact CapOk.get h.2 (by simpa using hl) (by simpa using hc) (fun i c x h1 h2 => hall (i + 1) c x (by simpa using h1) (by simpa using h2))
theorem PI.lit {w W : World} {bp : Nat} {en : Int × Int} {ts : List Tok} {dp : Int} {ls : List (Nat × Array Value × TypeId)} {rows : List (Option Addr × List Nd)} (h : PI w bp en ts dp ls rows W) (T : TypeId) {cs : Array Value} (css : List (List Value)) (l : List Nd) (hcs : cs.toList = css.flatten)
  (hsz : ∀ c ∈ css, c.length = 5) (hlen : css.length = l.length)
  (hd : ∀ (j : Nat) n c, l[j]? = some n → css[j]? = some c → ∃ k t ln cl kids a cap, n = .mk k t ln cl kids ∧ c = [.int .i64 k, .string t, .int .i64 ln, .int .i64 cl, .slice a kids.length cap] ∧ ((a, kids) ∈ rows ∨ kids = [])) (hcp : CapOk css l := by (repeat' (first | exact trivial | refine And.intro ?_ ?_)) <;> first | (refine Hid.out ?_; assumption) | assumption | (intro _; exact nlz _) | (intro h6; exact absurd h6 (by decide))) :
  PI w bp en ts dp ls ((some ⟨W.heap.size, 0, none⟩, l) :: rows) (W.alloc (.cells cs T)) := by
 have hb := h.below ((Below.refl _ W).alloc (nlr _) (.cells cs T));refine ⟨hb.grown, hb.ps, hb.locs, hb.own, hb.bpl, fun r hr => ?_, hb.dist⟩;rcases List.mem_cons.1 hr with rfl | hr
 ·refine Ac.lit (size := 5) css (heap_alloc_new W _) hcs ⟨h.grown.size, fun x hx => Nat.ne_of_gt (h.locs.lt hx)⟩ hsz (by rw [Al]; exact hlen) (fun j ds c hj hc => ?_);simp only [Bx, lgP, Option.map_eq_some_iff] at hj;obtain ⟨n, hn, rfl⟩ := hj;have hcap := fun k t ln cl kids c0 c1 c2 c3 a n' cap (h1 : n = .mk k t ln cl kids) (h2 : c = [c0, c1, c2, c3, .slice a n' cap]) => CapOk.get hcp (hn.trans (congrArg some h1)) (hc.trans (congrArg some h2)) (fun i c' x' h3 h4 => by obtain ⟨k, t, ln, cl, kids, a, cap, -, rfl, -⟩ := hd i x' c' h4 h3; exact ⟨_, _, _, _, _, _, _, rfl⟩);obtain ⟨k, t, ln, cl, kids, a, cap, rfl, rfl, hr | rfl⟩ := hd j n c hn hc
  ·exact Hu _ _ _ _ cap (hb.rows _ hr) (hcap _ _ _ _ _ _ _ _ _ _ _ _ rfl rfl)
  ·exact Hu _ _ _ _ cap (Ac.nil _)
 ·exact hb.rows r hr
theorem A7 {α β : Type} {f : FuncId} {args : Array Value} {W : World} {Q : Ending → World → Prop} {bp : Nat} {en : Int × Int} {val : α → World → Value → Prop} {m : PM α} {k : α → PM β} {ts : List Tok} {dp : Int} {full : PR β} {d : Int} (nd : Int)
  (Hc : Hid (Calls Tryz.prog f args W (PP bp en val (m ts dp) W))) (Hr : Hid (full ≠ .out)) (Hsp : Hid (full = PM.bind m k ts dp)) (hi : Inc d m) (hd : nd = dp + d)
  (herr : ∀ {a l c w'}, W.grownBy w' (some bp) → full = .err a l c → Q (.panicked [{ v := J5 a l c, recovered := false }]) w')
  (hok : ∀ x ts' w' v, m ts dp = .ok x ts' nd → W.grownBy w' (some bp) → PS w' bp en ts' nd → val x w' v → Hid (full = k x ts' nd) → Q (.returned v) w') : Calls Tryz.prog f args W Q := by
 refine Hc.out.mono ?_;rintro e w' ⟨hg, hq⟩;cases hm : m ts dp with
 | out => exact absurd (Hsp.out.trans (A3 hm)) Hr.out
 | err a l c =>
  rw [hm] at hq;obtain rfl : e = _ := hq;exact herr hg (Hsp.out.trans (Cp hm))
 | ok x ts' dq =>
  obtain rfl : nd = dq := (by have := hi _ _ _ _ _ hm; omega);rw [hm] at hq;obtain ⟨hps, v, rfl, hv⟩ := hq;exact hok x ts' w' v hm hg hps hv (Lq7 (Hsp.out.trans (Dj hm)))
theorem Cq {α β : Type} {m : PM α} {k : α → PM β} {ts : List Tok} {dp : Int} {full : PR β} (Hr : Hid (full ≠ .out)) (Hsp : Hid (full = PM.bind m k ts dp)) : m ts dp ≠ .out := fun h => Hr.out (Hsp.out.trans (A3 h))
theorem Ba {f : FuncId} {args : Array Value} {W : World} {Q : Ending → World → Prop} {X : Value} {R : World → Prop} (Hc : Hid (Calls Tryz.prog f args W (fun e w' => e = .returned X ∧ Below W.heap.size W w'))) (hb : ∀ {w'}, Below W.heap.size W w' → R w') (h : ∀ w', Hid (R w') → Q (.returned X) w') : Calls Tryz.prog f args W Q := by
 refine Hc.out.mono ?_;rintro e w' ⟨rfl, hw⟩;exact h w' (Lq7 (hb hw))
theorem Nw (bp : Nat) (tt : ByteArray) (en : Int × Int) (L : Lvl) (hL : Gr L) (hx : C0 61 bp en Bn L.stmt) (w : World) (ts : List Tok) (dp : Int) (hp : PS w bp en ts dp) (hd0 : 0 ≤ dp) (hd1 : dp ≤ 1000)
  (hr : Ct en L tt.data.toList ts dp ≠ .out) :
  Calls Tryz.prog 43 #[ptr bp, .string tt] w (PP bp en (VRow w.heap.size) (Ct en L tt.data.toList ts dp) w) := by
 obtain ⟨i0, hi, bN, bO, bP⟩ := info_parts infoNode;have hfew := hp.few;have hbpl := hp.lt;have Hp := Lq7 hp;have Hx := Lq7 hx;have Hr := Lq7 hr;clear hp hx hr;unfold ptr;go_enter Tryz.func43, Tryz.ntmps43;go_wp2_with fail
 go_loopg [5] (ts.length + 1) (fun g v wr => ∃ (acc : List Nd) (bI : List Tok) (v' : Value), v = v' ∧ g ≤ ts.length + 1 ∧ acc.length + g ≤ ts.length + 1 ∧ Hid (Ct en L tt.data.toList ts dp = Cs en L tt.data.toList g acc bI dp) ∧ Hid (w.grownBy wr (some bp) ∧ PS wr bp en bI dp) ∧ Hid (OwnD (fun b => w.heap.size ≤ b) wr w.heap.size 59 5 v' (nodesD acc)))
 case atStart => exact ⟨[], ts, _, rfl, nlr _, by simp, Lq7 rfl, Lq7 ⟨grownBy_refl _ _, Hp.out⟩, Lq7 (OwnD.nil _ _ _ _ _)⟩
 case round =>
  obtain ⟨acc, bI, v, hv, hg1, bG, aC, aQ, hown⟩ := hrel;have hv := hv.symm;subst hv;cases gk with
  | zero => exact absurd aC.out Hr.out
  | succ g =>
   obtain ⟨ab, capb, aV, hb2, hb3, hb4⟩ := aQ.out.2;obtain ⟨q0, q1, q2, q3, q4⟩ := Ai aV;clear aV hb2 hb3 hb4;cases bI with
   | nil =>
    have aR : Hid (Ct en L tt.data.toList ts dp = .ok acc [] dp) := Lq7 (by rw [aC.out]; rfl);clear aC;go_wp2_with fail;go_ret;rw [aR.out];obtain ⟨a, cap, aW, aI⟩ := hown.out.rowAt (fun g hg => (hown.out.block_lt hg).1);rw [Al] at aW;exact ⟨aQ.out.1, aQ.out.2, _, rfl, a, cap, aW, aI⟩
   | cons t0 r0 =>
    have bQ := Lq7 (Lq8 tt);cases htt : tt.toList.isEmpty
    ·have bJ : tt.data.toList.isEmpty = false := (by rw [← bQ.out]; exact htt);cases hb : isSign en (t0 :: r0) 0 tt.data.toList
     ·have aR : Hid (Ct en L tt.data.toList ts dp = PM.bind L.stmt (fun x => Cs en L tt.data.toList g (acc ++ [x])) (t0 :: r0) dp) := Lq7 (by rw [aC.out, Cs, Cr]; simp only [hb, bJ]; rfl);clear aC;have Hs := Lq7 (Ca bp 0 tt en (t0 :: r0) dp wr (by omega) aQ.out.2);unfold ptr at Hs;rw [hb] at Hs;clear hb;go_wp2_with fail;refine Hs.out.mono ?_;rintro e w1 ⟨rfl, aV⟩;have aZ : Hid (w.grownBy w1 (some bp) ∧ PS w1 bp en (t0 :: r0) dp) := Lq7 ⟨grownBy_trans aQ.out.1 (grownBy_below aV), aQ.out.2.grown aV⟩;have aE := Lq7 (hown.out.below aV);clear aV Hs aQ hown q0 q1 q2 q3 q4;have bH : L.stmt (t0 :: r0) dp ≠ .out := fun h => Hr.out (by rw [aR.out, A3 h]);have Ho := Lq7 (Hx.out _ _ _ aZ.out.2 hd0 hd1 bH);unfold ptr at Ho;have hws : w.heap.size ≤ w1.heap.size := aZ.out.1.size;clear bH;go_wp2_with fail;refine Ho.out.mono ?_;rintro e w3 ⟨bB, hq⟩;have aU := Lq7 (And.intro (grownBy_trans aZ.out.1 bB) bB);clear bB Ho;cases hm : L.stmt (t0 :: r0) dp with
      | out => exact absurd (by rw [aR.out, A3 hm]) Hr.out
      | err x l c =>
       rw [hm] at hq;obtain rfl := hq;have Hf : Hid (Ct en L tt.data.toList ts dp = .err x l c) := Lq7 (by rw [aR.out, Cp hm]);clear hm;refine ⟨rfl, ?_⟩;rw [Hf.out];exact ⟨aU.out.1, rfl⟩
      | ok x ts3 d3 =>
       have bL : d3 = dp := (by have := hL.stmt _ _ _ _ _ hm; omega);subst bL;rw [hm] at hq;have bC : Hid (Ct en L tt.data.toList ts d3 = Cs en L tt.data.toList g (acc ++ [x]) ts3 d3) := Lq7 (by rw [aR.out, Dj hm]);obtain ⟨xk, xt, xl, xc, xs⟩ := x;obtain ⟨aX, v1, rfl, bD⟩ := hq;obtain ⟨a1, aG, rfl, aI⟩ := Au.open bD;have bE := Lq7 (Au.cap bD);obtain ⟨a, cap, aW, -⟩ := aE.out.rowAt (fun g hg => (aE.out.block_lt hg).1);rw [Al] at aW;subst aW;have aH : Hid (OwnD (fun b => w.heap.size ≤ b) w3 w.heap.size 59 5 (.slice a acc.length cap) (nodesD acc)) := Lq7 (aE.out.keep (fun b hb hF => aU.out.2.block b hb (by
        intro e; cases e;rcases hF with hF | hF
        ·omega
        ·have := (aE.out.block_lt hF).1; omega)) aU.out.2.size)
       have h5 := heap_alloc_new w3 (.cells #[.int .i64 xk, .string xt, .int .i64 xl, .int .i64 xc, .slice a1 xs.length aG] 59);have bA : Below w3.heap.size w3 (w3.alloc (.cells #[.int .i64 xk, .string xt, .int .i64 xl, .int .i64 xc, .slice a1 xs.length aG] 59)) := (Below.refl _ w3).alloc (nlr _) _;have aM : Hid (Ac (fun b => w.heap.size ≤ b ∧ (Value.slice a acc.length cap).ownBlock ≠ some b) (w3.alloc (.cells #[.int .i64 xk, .string xt, .int .i64 xl, .int .i64 xc, .slice a1 xs.length aG] 59)) (some ⟨w3.heap.size, 0, none⟩) (nodesD [.mk xk xt xl xc xs])) := Lq7 (by
        refine Ac.lit (size := 5) [[.int .i64 xk, .string xt, .int .i64 xl, .int .i64 xc, .slice a1 xs.length aG]] h5 rfl ⟨aU.out.1.size, fun e => by have := (aH.out.block_lt e).2; omega⟩ (by simp) (by simp [nodesD]) (fun j ds c hj hc => ?_);have bM := (List.getElem?_eq_some_iff.1 hc).1;simp only [lnC, lnN] at bM;obtain rfl : j = 0 := (by omega);simp [nodesD] at hj hc;subst hj hc;exact Hu _ _ _ _ aG ((aI.below bA).wider (fun b hb _ => ⟨by omega, fun e => by have := (aE.out.block_lt e).2; omega⟩)))
       have aF := Lq7 (aH.out.below ((Below.refl _ w3).alloc (nlr _) (.cells #[.int .i64 xk, .string xt, .int .i64 xl, .int .i64 xc, .slice a1 xs.length aG] 59)));have aJ := Lq7 (And.intro (grownBy_trans aU.out.1 (grownBy_below bA)) (aX.grown bA));clear hm aI aX bD h5 bA aH
       go_wp2_with (at_builtin; refine Bq rfl _ _ 55 rfl w.heap.size 59 i0 _ 5 64 Tryz.underlying55 hi bN bO bP rfl (by decide) (.slice a acc.length cap) (fun b => w.heap.size ≤ b) (nodesD acc) rfl aF.out w3.heap.size 0 1 (nodesD [.mk xk xt xl xc xs]) ?_ aM.out (Co Fq _) (Co Fa _) ?_ ?_ ?_ ?_)
       ·rw [Al]; rfl
       ·rw [Al, Al]; unfold maxLen; simp only [lnC, lnN] at bG ⊢; omega
       ·rw [Al, Al]; simp only [lnC, lnN] at bG ⊢; omega
       ·exact aJ.out.1.size
       intro v4 w4 aN aB _;have bF : Hid (w.grownBy w4 (some bp) ∧ PS w4 bp en ts3 d3) := Lq7 ⟨Fc aJ.out.1 aB (fun g hg => (aF.out.block_lt hg).1), aJ.out.2.own aB (fun g hg => by have := (aF.out.block_lt hg).1; omega)⟩;have aY : Hid (OwnD (fun b => w.heap.size ≤ b) w4 w.heap.size 59 5 v4 (nodesD (acc ++ [.mk xk xt xl xc xs]))) := Lq7 (by rw [Dz]; exact aN);clear aN aB aF aM aJ aU;go_wp2_with fail
       go_roundg g
       case measure => omega
       case rel => exact ⟨acc ++ [.mk xk xt xl xc xs], ts3, _, rfl, by omega, by simp only [lnA, lnC, lnN] at bG ⊢; omega, bC, bF, aY⟩
     ·have aR : Hid (Ct en L tt.data.toList ts dp = .ok acc (t0 :: r0) dp) := Lq7 (by rw [aC.out, Cs, Cr]; simp only [hb, bJ]; rfl);clear aC;have Hs := Lq7 (Ca bp 0 tt en (t0 :: r0) dp wr (by omega) aQ.out.2);unfold ptr at Hs;rw [hb] at Hs;clear hb;go_wp2_with fail;refine Hs.out.mono ?_;rintro e w1 ⟨rfl, aV⟩;have aZ : Hid (w.grownBy w1 (some bp) ∧ PS w1 bp en (t0 :: r0) dp) := Lq7 ⟨grownBy_trans aQ.out.1 (grownBy_below aV), aQ.out.2.grown aV⟩;have aE := Lq7 (hown.out.below aV);clear aV Hs aQ hown q0 q1 q2 q3 q4;go_wp2_with fail;go_ret;rw [aR.out];obtain ⟨a, cap, aW, aI⟩ := aE.out.rowAt (fun g hg => (aE.out.block_lt hg).1);rw [Al] at aW;exact ⟨aZ.out.1, aZ.out.2, _, rfl, a, cap, aW, aI⟩
    ·have bJ : tt.data.toList.isEmpty = true := (by rw [← bQ.out]; exact htt);have aR : Hid (Ct en L tt.data.toList ts dp = PM.bind L.stmt (fun x => Cs en L tt.data.toList g (acc ++ [x])) (t0 :: r0) dp) := Lq7 (by rw [aC.out, Cs, Cr]; simp only [bJ, Bool.true_or]; rfl);clear aC;have aZ := aQ;have aE := hown;clear aQ hown;have bH : L.stmt (t0 :: r0) dp ≠ .out := fun h => Hr.out (by rw [aR.out, A3 h]);have Ho := Lq7 (Hx.out _ _ _ aZ.out.2 hd0 hd1 bH);unfold ptr at Ho;have hws : w.heap.size ≤ wr.heap.size := aZ.out.1.size;clear bH;go_wp2_with fail;refine Ho.out.mono ?_;rintro e w3 ⟨bB, hq⟩;have aU := Lq7 (And.intro (grownBy_trans aZ.out.1 bB) bB);clear bB Ho;cases hm : L.stmt (t0 :: r0) dp with
     | out => exact absurd (by rw [aR.out, A3 hm]) Hr.out
     | err x l c =>
      rw [hm] at hq;obtain rfl := hq;have Hf : Hid (Ct en L tt.data.toList ts dp = .err x l c) := Lq7 (by rw [aR.out, Cp hm]);clear hm;refine ⟨rfl, ?_⟩;rw [Hf.out];exact ⟨aU.out.1, rfl⟩
     | ok x ts3 d3 =>
      have bL : d3 = dp := (by have := hL.stmt _ _ _ _ _ hm; omega);subst bL;rw [hm] at hq;have bC : Hid (Ct en L tt.data.toList ts d3 = Cs en L tt.data.toList g (acc ++ [x]) ts3 d3) := Lq7 (by rw [aR.out, Dj hm]);obtain ⟨xk, xt, xl, xc, xs⟩ := x;obtain ⟨aX, v1, rfl, bD⟩ := hq;obtain ⟨a1, aG, rfl, aI⟩ := Au.open bD;have bE := Lq7 (Au.cap bD);obtain ⟨a, cap, aW, -⟩ := aE.out.rowAt (fun g hg => (aE.out.block_lt hg).1);rw [Al] at aW;subst aW;have aH : Hid (OwnD (fun b => w.heap.size ≤ b) w3 w.heap.size 59 5 (.slice a acc.length cap) (nodesD acc)) := Lq7 (aE.out.keep (fun b hb hF => aU.out.2.block b hb (by
       intro e; cases e;rcases hF with hF | hF
       ·omega
       ·have := (aE.out.block_lt hF).1; omega)) aU.out.2.size)
      have h5 := heap_alloc_new w3 (.cells #[.int .i64 xk, .string xt, .int .i64 xl, .int .i64 xc, .slice a1 xs.length aG] 59);have bA : Below w3.heap.size w3 (w3.alloc (.cells #[.int .i64 xk, .string xt, .int .i64 xl, .int .i64 xc, .slice a1 xs.length aG] 59)) := (Below.refl _ w3).alloc (nlr _) _;have aM : Hid (Ac (fun b => w.heap.size ≤ b ∧ (Value.slice a acc.length cap).ownBlock ≠ some b) (w3.alloc (.cells #[.int .i64 xk, .string xt, .int .i64 xl, .int .i64 xc, .slice a1 xs.length aG] 59)) (some ⟨w3.heap.size, 0, none⟩) (nodesD [.mk xk xt xl xc xs])) := Lq7 (by
       refine Ac.lit (size := 5) [[.int .i64 xk, .string xt, .int .i64 xl, .int .i64 xc, .slice a1 xs.length aG]] h5 rfl ⟨aU.out.1.size, fun e => by have := (aH.out.block_lt e).2; omega⟩ (by simp) (by simp [nodesD]) (fun j ds c hj hc => ?_);have bM := (List.getElem?_eq_some_iff.1 hc).1;simp only [lnC, lnN] at bM;obtain rfl : j = 0 := (by omega);simp [nodesD] at hj hc;subst hj hc;exact Hu _ _ _ _ aG ((aI.below bA).wider (fun b hb _ => ⟨by omega, fun e => by have := (aE.out.block_lt e).2; omega⟩)))
      have aF := Lq7 (aH.out.below ((Below.refl _ w3).alloc (nlr _) (.cells #[.int .i64 xk, .string xt, .int .i64 xl, .int .i64 xc, .slice a1 xs.length aG] 59)));have aJ := Lq7 (And.intro (grownBy_trans aU.out.1 (grownBy_below bA)) (aX.grown bA));clear hm aI aX bD h5 bA aH
      go_wp2_with (at_builtin; refine Bq rfl _ _ 55 rfl w.heap.size 59 i0 _ 5 64 Tryz.underlying55 hi bN bO bP rfl (by decide) (.slice a acc.length cap) (fun b => w.heap.size ≤ b) (nodesD acc) rfl aF.out w3.heap.size 0 1 (nodesD [.mk xk xt xl xc xs]) ?_ aM.out (Co Fq _) (Co Fa _) ?_ ?_ ?_ ?_)
      ·rw [Al]; rfl
      ·rw [Al, Al]; unfold maxLen; simp only [lnC, lnN] at bG ⊢; omega
      ·rw [Al, Al]; simp only [lnC, lnN] at bG ⊢; omega
      ·exact aJ.out.1.size
      intro v4 w4 aN aB _;have bF : Hid (w.grownBy w4 (some bp) ∧ PS w4 bp en ts3 d3) := Lq7 ⟨Fc aJ.out.1 aB (fun g hg => (aF.out.block_lt hg).1), aJ.out.2.own aB (fun g hg => by have := (aF.out.block_lt hg).1; omega)⟩;have aY : Hid (OwnD (fun b => w.heap.size ≤ b) w4 w.heap.size 59 5 v4 (nodesD (acc ++ [.mk xk xt xl xc xs]))) := Lq7 (by rw [Dz]; exact aN);clear aN aB aF aM aJ aU;go_wp2_with fail
      go_roundg g
      case measure => omega
      case rel => exact ⟨acc ++ [.mk xk xt xl xc xs], ts3, _, rfl, by omega, by simp only [lnA, lnC, lnN] at bG ⊢; omega, bC, bF, aY⟩
theorem Td {en : Int × Int} {is : Bool} {ts ts' : List Tok} {d d' : Int} {x : Tok} (h : Ev en is ts d = .ok x ts' d') : d < 60 := by
 unfold Ev at h;split at h
 ·cases h
 ·rename_i hn
  cases is with
  | false => cases h
  | true =>
   simp only [Bool.true_and, decide_eq_true_eq] at hn;omega
def pOne (m : PM Nd) : PM (List Nd) := PM.bind m fun x => PM.pure [x]
theorem pure_one {m : PM Nd} : ∀ ts d l ts' d', PM.bind m (fun x => PM.pure [x]) ts d = .ok l ts' d' → l ≠ [] ∧ l.length ≤ 2 := by
 intro ts d l ts' d' h;unfold PM.bind at h;cases hm : m ts d with
 | ok x t1 d1 => rw [hm] at h; cases h; simp
 | err a b c => rw [hm] at h; cases h
 | out => rw [hm] at h; cases h
theorem Inc.one {m : PM Nd} (h : Inc 0 m) : Inc 0 (pOne m) := Inc.bind h (fun _ => Inc.pure _) rfl
section
variable {w W W' : World} {bp : Nat} {en : Int × Int} {ts : List Tok} {dp : Int} {ls : List (Nat × Array Value × TypeId)} {rows : List (Option Addr × List Nd)}
theorem PI.later (h : PI w bp en ts dp ls rows W) (hg : W.grownBy W' (some bp)) {b : Nat} {cs : Array Value} {T : TypeId} (hx : (b, cs, T) ∈ ls) : W'.heap[b]? = some (.cells cs T (0, 0)) :=
 (hg.block _ (h.lt _ hx) (fun e => by cases e; have := h.own _ hx; have := h.bpl; omega)).trans (h.at hx)
theorem PI.down (h : PI w bp en ts dp ls rows W) : ∃ a cap, W.heap[bp]? = some (.cells #[.slice a ts.length cap, .int .i64 en.1, .int .i64 en.2, .int .i64 dp] 96 (0, 0)) ∧
  ∀ d, PI w bp en ts d ls rows (W.setCell ⟨bp, 3, none⟩ (.int .i64 d)) := by
 obtain ⟨a, cap, h1, h2, h3, h4⟩ := h.ps;have hbp := h.bpl;have hX : ∀ k, k ≠ bp → ∀ v, (W.setCell ⟨bp, 3, none⟩ v).heap[k]? = W.heap[k]? := fun k hk v => set_other hk 3 v;refine ⟨a, cap, h1, fun d => ⟨grownBy_set h.grown 3 _, ⟨a, cap, set_same h1 3 _, h2, h3, h4.grown (grownBy_set (grownBy_refl _ _) 3 _)⟩, fun x hx => ?_, h.own, hbp, fun r hr => ?_, h.dist⟩⟩
 ·rw [hX _ (by have := h.own x hx; omega)]; exact h.locs x hx
 ·exact (h.rows r hr).mono fun k hk hl => ⟨hk, by simpa using hl, hX k (by have := hk.1; omega) _⟩
end
def PF (w : World) (ls : List (Nat × Array Value × TypeId)) : Nat → Prop := fun b => w.heap.size ≤ b ∧ ∀ x ∈ ls, b ≠ x.1
structure PO (w : World) (bp : Nat) (en : Int × Int) (ts : List Tok) (dp : Int) (ls : List (Nat × Array Value × TypeId)) (rows : List (Option Addr × List Nd)) (v : Value) (l : List Nd) (W : World) : Prop where
 pi : PI w bp en ts dp ls [] W
 od : OwnD (fun b => w.heap.size ≤ b ∧ ∀ x ∈ ls, b ≠ x.1) W w.heap.size 59 5 v (nodesD l)
 ob : ∀ g, v.ownBlock = some g → ∀ x ∈ ls, g ≠ x.1
 rd : ∀ r ∈ rows, Ac (fun b => (w.heap.size ≤ b ∧ ∀ x ∈ ls, b ≠ x.1) ∧ v.ownBlock ≠ some b) W r.1 (nodesD r.2)
section
variable {w W W' : World} {bp : Nat} {en : Int × Int} {ts ts' : List Tok} {dp dp' : Int} {ls : List (Nat × Array Value × TypeId)} {rows : List (Option Addr × List Nd)} {v : Value} {l : List Nd}
theorem PO.grown (h : PO w bp en ts dp ls rows v l W) : w.grownBy W (some bp) := h.pi.grown
theorem PO.ps (h : PO w bp en ts dp ls rows v l W) : PS W bp en ts dp := h.pi.ps
theorem PO.at (h : PO w bp en ts dp ls rows v l W) {b : Nat} {cs : Array Value} {T : TypeId} (hx : (b, cs, T) ∈ ls) : W.heap[b]? = some (.cells cs T (0, 0)) := h.pi.at hx
theorem PO.later (h : PO w bp en ts dp ls rows v l W) (hg : W.grownBy W' (some bp)) {b : Nat} {cs : Array Value} {T : TypeId} (hx : (b, cs, T) ∈ ls) : W'.heap[b]? = some (.cells cs T (0, 0)) := h.pi.later hg hx
theorem PO.lt (h : PO w bp en ts dp ls rows v l W) : (∀ x ∈ ls, x.1 < W.heap.size) ∧ ∀ g, v.ownBlock = some g → g < W.heap.size := ⟨h.pi.lt, fun _ hg => (h.od.block_lt hg).2⟩
theorem PO.below (h : PO w bp en ts dp ls rows v l W) (hb : Below W.heap.size W W') : PO w bp en ts dp ls rows v l W' := ⟨h.pi.below hb, h.od.below hb, h.ob, fun r hr => (h.rd r hr).below hb⟩
theorem PO.drew (h : PO w bp en ts dp ls rows v l W) : PO w bp en ts dp ls rows v l W.drew := h.below ((Below.refl _ W).drew)
theorem PO.call (h : PO w bp en ts dp ls rows v l W) (hg : W.grownBy W' (some bp)) (hp : PS W' bp en ts' dp') : PO w bp en ts' dp' ls rows v l W' := by
 have hbp := h.pi.bpl;refine ⟨h.pi.call hg hp, h.od.keep (fun b hl hF => hg.block b hl (fun e => ?_)) hg.size, h.ob, fun r hr => (h.rd r hr).mono fun b hb hl => ⟨hb, nll hl hg.size, hg.block b hl (fun e => ?_)⟩⟩
 ·cases e;rcases hF with hF | hF
  ·omega
  ·have := (h.od.block_lt hF).1; omega
 ·cases e; have := hb.1.1; omega
theorem PO.row {B : Nat} {a : Option Addr} {m : List Nd} (h : PO w bp en ts dp ls rows v l W) (hrow : Ac (fun b => B ≤ b) W a (nodesD m)) (hw : w.heap.size ≤ B) (hB : (∀ x ∈ ls, x.1 < B) ∧ ∀ g, v.ownBlock = some g → g < B) : PO w bp en ts dp ls ((a, m) :: rows) v l W :=
 ⟨h.pi, h.od, h.ob, fun r hr => by
  rcases List.mem_cons.1 hr with rfl | hr
  ·exact hrow.wider (fun b hb _ => ⟨⟨by omega, fun x hx e => by have := hB.1 x hx; omega⟩, fun e => by have := hB.2 b e; omega⟩)
  ·exact h.rd r hr⟩
theorem PO.lit (h : PO w bp en ts dp ls rows v l W) (T : TypeId) {cs : Array Value} (css : List (List Value)) (m : List Nd) (hcs : cs.toList = css.flatten)
  (hsz : ∀ c ∈ css, c.length = 5) (hlen : css.length = m.length)
  (hd : ∀ (j : Nat) n c, m[j]? = some n → css[j]? = some c → ∃ k t ln cl kids a cap, n = .mk k t ln cl kids ∧ c = [.int .i64 k, .string t, .int .i64 ln, .int .i64 cl, .slice a kids.length cap] ∧ ((a, kids) ∈ rows ∨ kids = [])) (hcp : CapOk css m := by (repeat' (first | exact trivial | refine And.intro ?_ ?_)) <;> first | (refine Hid.out ?_; assumption) | assumption | (intro _; exact nlz _) | (intro h6; exact absurd h6 (by decide))) :
  PO w bp en ts dp ls ((some ⟨W.heap.size, 0, none⟩, m) :: rows) v l (W.alloc (.cells cs T)) := by
 have hb := h.below ((Below.refl _ W).alloc (nlr _) (.cells cs T));refine ⟨hb.pi, hb.od, hb.ob, fun r hr => ?_⟩;rcases List.mem_cons.1 hr with rfl | hr
 ·refine Ac.lit (size := 5) css (heap_alloc_new W _) hcs ⟨⟨h.grown.size, fun x hx => Nat.ne_of_gt (h.pi.locs.lt hx)⟩, fun e => by have := (h.od.block_lt e).2; omega⟩ hsz (by rw [Al]; exact hlen) (fun j ds c hj hc => ?_);simp only [Bx, lgP, Option.map_eq_some_iff] at hj;obtain ⟨n, hn, rfl⟩ := hj;have hcap := fun k t ln cl kids c0 c1 c2 c3 a n' cap (h1 : n = .mk k t ln cl kids) (h2 : c = [c0, c1, c2, c3, .slice a n' cap]) => CapOk.get hcp (hn.trans (congrArg some h1)) (hc.trans (congrArg some h2)) (fun i c' x' h3 h4 => by obtain ⟨k, t, ln, cl, kids, a, cap, -, rfl, -⟩ := hd i x' c' h4 h3; exact ⟨_, _, _, _, _, _, _, rfl⟩);obtain ⟨k, t, ln, cl, kids, a, cap, rfl, rfl, hr | rfl⟩ := hd j n c hn hc
  ·exact Hu _ _ _ _ cap (hb.rd _ hr) (hcap _ _ _ _ _ _ _ _ _ _ _ _ rfl rfl)
  ·exact Hu _ _ _ _ cap (Ac.nil _)
 ·exact hb.rd r hr
theorem PO.sliceC (h : PO w bp en ts dp ls rows v l W) : ∃ a cap, v = .slice a l.length cap ∧ l.length ≤ cap := by
 obtain ⟨css, -, -, ⟨-, ⟨rfl, h2⟩ | ⟨g, cap, cur, rfl, -, -, h6, -⟩⟩, -⟩ := h.od
 ·rw [Al] at h2;exact ⟨none, 0, by rw [h2], by omega⟩
 ·rw [Al] at h6;exact ⟨_, cap, by rw [Al], h6⟩
theorem PO.slice (h : PO w bp en ts dp ls rows v l W) : ∃ a cap, v = .slice a l.length cap := by
 obtain ⟨a, cap, h1, -⟩ := h.sliceC;exact ⟨a, cap, h1⟩
end
theorem Ur (bp : Nat) (en : Int × Int) (L : Lvl) (hL : Gr L) (hx : C0 61 bp en Bn L.stmt) : C0 93 bp en Bn (pBlock en L) := by
 intro w ts dp hp hd0 hd1 hr;have Hr := Lq7 hr;have Hx := Lq7 hx;clear hx;have bJ : pBlock en L ts dp = PM.bind (Ev en (isSign en ts 0 [123])) (fun t => PM.bind (Ct en L [125]) fun l => PM.bind (Dw en [125]) fun _ => PM.pure (Br 8 t ⟨#[]⟩ l)) ts dp := rfl;have aH := Lq7 bJ;have H0 := Lq7 ((PI.start hp).alloc #[.int .i64 0, .string ⟨#[]⟩, .int .i64 0, .int .i64 0, .slice none 0 0] 59);clear hp hr bJ;unfold ptr;go_enter Tryz.func93, Tryz.ntmps93;go_wp2_with fail;have bB := Lq7 (Ca bp 0 ⟨#[123]⟩ en ts (dp) (w.alloc (.cells #[.int .i64 0, .string ⟨#[]⟩, .int .i64 0, .int .i64 0, .slice none 0 0] 59)) (by omega) H0.out.ps);(try unfold ptr at bB);refine Ba bB (fun hb => H0.out.below hb) ?_;intro w2 H3;clear bB H0;have bC := Lq7 (Qi bp (isSign en ts 0 [123]) en ts (dp) w2 (by omega) (by omega) H3.out.ps (Cq Hr aH));(try unfold ptr at bC);go_wp2_with fail;refine A7 (dp + 1) bC Hr aH (Inc.open _) (by omega) (fun hg hf => ⟨rfl, by rw [hf]; exact ⟨grownBy_trans H3.out.grown hg, rfl⟩⟩) ?_;rintro x9 ts8 w5 v hm hg aB rfl aI;have hlt := Td hm;have H6 := Lq7 (H3.out.call hg aB);(try unfold tokV);clear hm hg aB bC H3 aH;have aG := Lq7 (H6.out.alloc #[.int .i64 x9.kind, .string x9.text, .int .i64 x9.line, .int .i64 x9.col] 98);clear H6;go_wp2_with fail;generalize w5.alloc _ = W10 at aG ⊢;generalize w5.heap.size = b12 at aG ⊢;have aJ := Lq7 (Nw bp ⟨#[125]⟩ en L hL Hx.out W10 ts8 (dp + 1) aG.out.ps (by omega) (by omega) (Cq Hr aI));(try unfold ptr at aJ);refine A7 (dp + 1) aJ Hr aI (Inc.stmts hL _) (by omega) (fun hg hf => ⟨rfl, by rw [hf]; exact ⟨grownBy_trans aG.out.grown hg, rfl⟩⟩) ?_;rintro bD bE w14 v hm hg aB ⟨bF, aC, rfl, aE⟩ aF;have bA := Lq7 ((aG.out.call hg aB).row aE aG.out.grown.size aG.out.lt);clear aE;clear hm hg aB aJ aG aI;have aM := Lq7 (Nv bp ⟨#[125]⟩ en bE (dp + 1) w14 (by omega) (by omega) bA.out.ps (Cq Hr aF));(try unfold ptr at aM);go_wp2_with fail;refine A7 (dp) aM Hr aF (Inc.close _) (by omega) (fun hg hf => ⟨rfl, by rw [hf]; exact ⟨grownBy_trans bA.out.grown hg, rfl⟩⟩) ?_;rintro x26 ts25 w22 v hm hg aB - aQ;have bG := Lq7 (bA.out.call hg aB);clear hm hg aB aM bA aF;obtain ⟨r27, r28, r29, r30, r31⟩ := Ai (bG.out.at (b := b12) (cs := #[.int .i64 x9.kind, .string x9.text, .int .i64 x9.line, .int .i64 x9.col]) (T := 98) (by simp));go_wp2_with fail;clear r27 r28 r29 r30 r31;have bH := Lq7 (Dk 8 x9 ⟨#[]⟩ bF bD.length aC w22);unfold tokV Fv at bH;refine bH.out.mono ?_;rintro e w32 ⟨rfl, hb⟩;have bL := Lq7 (bG.out.below hb);clear hb bH bG;obtain ⟨r34, r35, r36, r37, r38, r39, r40, r41, r42, r43, r44⟩ := five_facts (bL.out.at (b := w.heap.size) (cs := #[.int .i64 0, .string ⟨#[]⟩, .int .i64 0, .int .i64 0, .slice none 0 0]) (T := 59) (by simp));go_wp2_with fail;refine bodyPost_ret (v := .agg #[.int .i64 8, .string ⟨#[]⟩, .int .i64 x9.line, .int .i64 x9.col, .slice bF bD.length aC]) (by simp [results, Tryz.results93, go_sem, r35, r36, r37, r38, r39]) rfl ?_;have G := Lq7 (bL.out.put5 1 rfl (.int .i64 8) (.string ⟨#[]⟩) (.int .i64 x9.line) (.int .i64 x9.col) (.slice bF bD.length aC));rw [aQ.out];exact ⟨G.out.grown, G.out.ps, _, rfl, Au.mk _ _ _ _ _ (G.out.hand (by simp))⟩
theorem Us (bp bb : Nat) (en : Int × Int) (L : Lvl) (hL : Gr L) (hx : C0 92 bp en Bn L.expr) (w : World) (hb : w.heap[bb]? = some (.cells #[ptr bp] 93 (0, 0))) (ts : List Tok) (dp : Int) (hp : PS w bp en ts dp) (hd0 : 0 ≤ dp) (hd1 : dp ≤ 1000)
  (hr : pOne (L.expr) ts dp ≠ .out) : Calls Tryz.prog 177 #[.pointer (some ⟨bb, 0, none⟩)] w (PP bp en (VRow w.heap.size) (pOne (L.expr) ts dp) w) := by
 have Hr := Lq7 hr;have Hx := Lq7 hx;clear hx;have aH : Hid (pOne (L.expr) ts dp = PM.bind (L.expr) (fun x => PM.pure [x]) ts dp) := Lq7 rfl;have H0 := Lq7 (PI.start hp);unfold ptr at hb;obtain ⟨hb0, hb1⟩ := one_facts hb;clear hp hr hb;go_enter Tryz.func177, Tryz.ntmps177;go_wp2_with fail;have aN := Lq7 (Hx.out w ts (dp) H0.out.ps (by omega) (by omega) (Cq Hr aH));(try unfold ptr at aN);refine A7 (dp) aN Hr aH (hL.expr) (by omega) (fun hg hf => ⟨rfl, by rw [hf]; exact ⟨grownBy_trans H0.out.grown hg, rfl⟩⟩) ?_;rintro x59 ts58 w55 v hm hg aB hv aR;obtain ⟨aU, aV, aW, aX, aY⟩ := x59;obtain ⟨a60, aZ, rfl, aE⟩ := Au.open hv;have Hccap61 := Lq7 (Au.cap hv);have bM := Lq7 ((H0.out.call hg aB).row aE H0.out.grown.size H0.out.lt);clear hv aE;clear hm hg aB aN H0 aH;go_wp2_with fail;have bI := Lq7 (bM.out.lit 59 [[.int .i64 aU, .string aV, .int .i64 aW, .int .i64 aX, .slice a60 aY.length aZ]] [.mk aU aV aW aX aY] rfl (by simp) rfl (fun j n c hj hc => by
  have hjl := (List.getElem?_eq_some_iff.1 hc).1;simp only [lnC, lnN] at hjl;obtain rfl : j = 0 := by omega
  ·simp at hj hc;subst hj hc;exact ⟨_, _, _, _, _, _, _, rfl, rfl, .inl (by simp)⟩))
 clear bM;go_ret;rw [aR.out];exact ⟨bI.out.grown, bI.out.ps, _, rfl, _, _, rfl, bI.out.hand (by simp)⟩
theorem call_any (bp : Nat) (en : Int × Int) (L : Lvl) (_hL : Gr L) (_hx : C0 126 bp en Bn (pArg en L)) : C0 95 bp en Bn (pCall en L) := fun _ _ _ _ _ _ hr => absurd rfl hr
theorem Ut (bp : Nat) (en : Int × Int) (L : Lvl) (_hL : Gr L) (_hx : C0 92 bp en Bn L.expr) : C0 178 bp en VRow (pEntry en L) := fun _ _ _ _ _ _ hr => absurd rfl hr
theorem arg_any (bp : Nat) (en : Int × Int) (L : Lvl) (_hL : Gr L) (_hx : C0 92 bp en Bn L.expr) : C0 126 bp en Bn (pArg en L) := fun _ _ _ _ _ _ hr => absurd rfl hr
theorem expr_any (bp : Nat) (en : Int × Int) (L : Lvl) (hi : Inc 0 (pSum en L)) (hx : C0 119 bp en Bn (pSum en L)) : C0 92 bp en Bn (pExpr en L) := by
 intro w ts dp hp hd0 hd1 hr;have Hr := Lq7 hr;have Hx := Lq7 hx;clear hx;have bC : pExpr en L ts dp = PM.bind (pSum en L) (fun x => Cr fun ts => if isSign en ts 0 [61, 61] || isSign en ts 0 [33, 61] || A4 en ts [105, 110] then PM.no else PM.pure x) ts dp := rfl;have aX := Lq7 bC;have H0 := Lq7 ((PI.start hp).alloc #[.int .i64 0, .string ⟨#[]⟩, .int .i64 0, .int .i64 0, .slice none 0 0] 59);clear hp hr bC;unfold ptr;go_enter Tryz.func92, Tryz.ntmps92;go_wp2_with fail;have aY := Lq7 (Hx.out (w.alloc (.cells #[.int .i64 0, .string ⟨#[]⟩, .int .i64 0, .int .i64 0, .slice none 0 0] 59)) ts (dp) H0.out.ps (by omega) (by omega) (Cq Hr aX));(try unfold ptr at aY);refine A7 (dp) aY Hr aX (hi) (by omega) (fun hg hf => ⟨rfl, by rw [hf]; exact ⟨grownBy_trans H0.out.grown hg, rfl⟩⟩) ?_;rintro x6 aC w2 v hm hg bD hv aR;obtain ⟨aI, aJ, aM, aN, aQ⟩ := x6;obtain ⟨a7, aE, rfl, aU⟩ := Au.open hv;have Hccap8 := Lq7 (Au.cap hv);have H3 := Lq7 ((H0.out.call hg bD).row aU H0.out.grown.size H0.out.lt);clear hv aU;clear hm hg bD aY H0 aX;have aV := Lq7 (H3.out.alloc #[.int .i64 aI, .string aJ, .int .i64 aM, .int .i64 aN, .slice a7 aQ.length aE] 59);clear H3;go_wp2_with fail;generalize w2.alloc _ = W9 at aV ⊢;generalize w2.heap.size = b11 at aV ⊢;have aB : Hid (pExpr en L ts dp = (if isSign en aC 0 [61, 61] || isSign en aC 0 [33, 61] || A4 en aC [105, 110] then PM.no else PM.pure (.mk aI aJ aM aN aQ)) aC dp) := Lq7 (by rw [aR.out] <;> rfl)
 clear aR;have aF := Lq7 (Ca bp 0 ⟨#[61, 61]⟩ en aC (dp) W9 (by omega) aV.out.ps);(try unfold ptr at aF);refine Ba aF (fun hb => aV.out.below hb) ?_;intro w14 aZ;clear aF aV;cases h1 : isSign en aC 0 [61, 61]
 ·(try rw [h1]);have aG := Lq7 (Ca bp 0 ⟨#[33, 61]⟩ en aC (dp) w14 (by omega) aZ.out.ps);(try unfold ptr at aG);go_wp2_with fail;refine Ba aG (fun hb => aZ.out.below hb) ?_;intro w17 bA;clear aG aZ;cases h2 : isSign en aC 0 [33, 61]
  ·(try rw [h2]);have aH := Lq7 (Fu bp ⟨#[105, 110]⟩ en aC (dp) w17 bA.out.ps);(try unfold ptr at aH);go_wp2_with fail;refine Ba aH (fun hb => bA.out.below hb) ?_;intro w20 bB;clear aH bA;cases h3 : A4 en aC [105, 110]
   ·(try rw [h3]);have aW : Hid (pExpr en L ts dp = PM.pure (.mk aI aJ aM aN aQ) aC dp) := Lq7 (by rw [aB.out, h1, h2, h3] <;> rfl)
    clear aB;obtain ⟨r23, r24, r25, r26, r27, r28, r29, r30, r31, r32, r33⟩ := five_facts (bB.out.at (b := b11) (cs := #[.int .i64 aI, .string aJ, .int .i64 aM, .int .i64 aN, .slice a7 aQ.length aE]) (T := 59) (by simp));obtain ⟨r34, r35, r36, r37, r38, r39, r40, r41, r42, r43, r44⟩ := five_facts (bB.out.at (b := w.heap.size) (cs := #[.int .i64 0, .string ⟨#[]⟩, .int .i64 0, .int .i64 0, .slice none 0 0]) (T := 59) (by simp));go_wp2_with fail;refine bodyPost_ret (v := .agg #[.int .i64 aI, .string aJ, .int .i64 aM, .int .i64 aN, .slice a7 aQ.length aE]) (by simp [results, Tryz.results92, go_sem, r35, r36, r37, r38, r39]) rfl ?_;have G := Lq7 (bB.out.put5 1 rfl (.int .i64 aI) (.string aJ) (.int .i64 aM) (.int .i64 aN) (.slice a7 aQ.length aE));rw [aW.out];exact ⟨G.out.grown, G.out.ps, _, rfl, Au.mk _ _ _ _ _ (G.out.hand (by simp))⟩
   ·(try rw [h3]);exact absurd (show pExpr en L ts dp = .out by rw [aB.out, h1, h2, h3] <;> rfl) Hr.out
  ·(try rw [h2]);exact absurd (show pExpr en L ts dp = .out by rw [aB.out, h1, h2] <;> rfl) Hr.out
 ·(try rw [h1]);exact absurd (show pExpr en L ts dp = .out by rw [aB.out, h1] <;> rfl) Hr.out
theorem Tc (n : Int) (hn : inR n = true) (w : World) (hT : Dq w) : Calls Tryz.prog 156 #[.int .i64 n] w (Dp (Lib.itoa n) w) := by
 unfold inR at hn;simp only [Bool.and_eq_true, decide_eq_true_eq] at hn;have HF := Lq7 (Tryz.strconv_FormatInt_10 n hn.1 hn.2 w hT);clear hT;go_enter Tryz.func156, Tryz.ntmps156;go_wp2_with fail;refine HF.out.mono ?_;rintro e w1 ⟨rfl, k, os, hw⟩;have Hb : Hid (Below w.heap.size w w1) := Lq7 (by
  rw [hw];exact (Bk (Below.refl _ w) k).trans (below_grown (w.drewN k) 0 os))
 clear hw;go_wp2_with fail;go_ret;exact ⟨_, rfl, rfl, Hb.out⟩
end Go.Proofs.YtcofbdjakicojaaGreatDoor
