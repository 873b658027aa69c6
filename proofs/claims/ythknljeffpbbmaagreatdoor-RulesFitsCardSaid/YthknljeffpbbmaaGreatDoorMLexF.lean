/-
  The walk of the lexer's pass: the place behind bytes.
  The lexer's All in plain words: what a token takes of the text, and how the places grow.
-/
import Derived.Lib.LastIndexByte
import Derived.IntWalk
import Derived.Test.YthknljeffpbbmaaGreatDoorLexD
import Derived.Test.YthknljeffpbbmaaGreatDoorRegionMix
namespace Go.Proofs.YthknljeffpbbmaaGreatDoor
open Go Go.RowKit

theorem behindLast_eq (s : ByteArray) (h : 0 < s.data.toList.count 10) : ∃ i : Nat, i < s.size ∧ Lib.lastIndexByte s 10 = (i : Int) ∧ behindLast s.data.toList + 1 = s.size - i := by
  have hat : ∀ (j : Nat) (hj : j < s.size), s.data.toList[j]? = some (s.data[j]!) := fun j hj => by
    have h1 := get_data s j hj
    rw [h1]
    have h2 : s.data[j]! = s.data[j]'hj := getElem!_pos s.data j hj
    rw [h2]; rfl
  rcases Lib.lastIndexByte_spec s 10 with ⟨e, hn⟩ | ⟨i, hi, e, hc, hn⟩
  · exfalso
    obtain ⟨j, hj⟩ := List.getElem?_of_mem (List.count_pos_iff.1 h)
    have hjl := (List.getElem?_eq_some_iff.1 hj).1
    rw [len_data] at hjl
    rw [hat j hjl] at hj
    exact hn j hjl (by rw [Option.some.inj hj]; rfl)
  · refine ⟨i, hi, e, ?_⟩
    have hil : i < s.data.toList.length := by rw [len_data]; exact hi
    have h10 : s.data.toList[i]'hil = 10 := by
      have := hat i hi
      rw [List.getElem?_eq_getElem hil] at this
      rw [Option.some.inj this]
      exact UInt8.toNat_inj.1 (by show _ = 10; omega)
    have hsplit : s.data.toList = s.data.toList.take i ++ 10 :: s.data.toList.drop (i + 1) := by
      rw [← h10, ← List.drop_eq_getElem_cons hil, List.take_append_drop]
    have hrest : ∀ x ∈ (s.data.toList.drop (i + 1)).reverse, decide (x ≠ 10) = true := by
      intro x hx
      rw [List.mem_reverse] at hx
      obtain ⟨j, hj⟩ := List.getElem?_of_mem hx
      rw [List.getElem?_drop] at hj
      have hjl := (List.getElem?_eq_some_iff.1 hj).1
      rw [len_data] at hjl
      rw [hat _ hjl] at hj
      have := hn (i + 1 + j) (by omega) hjl
      rw [Option.some.inj hj] at this
      simp
      rintro rfl
      exact this rfl
    have hb : behindLast s.data.toList = s.size - i - 1 := by
      unfold behindLast
      rw [hsplit, List.reverse_append, List.reverse_cons, List.append_assoc, List.takeWhile_append_of_pos hrest, List.singleton_append, List.takeWhile_cons_of_neg (by simp), List.append_nil, List.length_reverse, List.length_drop, len_data]
      omega
    omega

def PPlace (p : Int × Int) (w : World) (e : Ending) (w' : World) : Prop := Below w.heap.size w w' ∧ e = .returned (.agg #[.int .i64 p.1, .int .i64 p.2])

set_option maxRecDepth 100000 in
set_option maxHeartbeats 1000000 in
theorem pass_any (ln cl : Int) (s : ByteArray) (w : World) (hs : s.size ≤ 65536) (hl0 : 0 ≤ ln) (hl1 : ln ≤ 1000000) (hc0 : 0 ≤ cl) (hc1 : cl ≤ 1000000) :
    Calls Tryz.prog 127 #[.agg #[.int .i64 ln, .int .i64 cl], .string s] w (PPlace (passL (ln, cl) s.data.toList) w) := by
  go_enter Tryz.func127, Tryz.ntmps127
  go_wp2_with fail
  refine (Tryz.strings_Count_one s 10 _).mono ?_
  rintro e w2 ⟨rfl, hw2⟩
  have hw2 := hw2.symm
  subst hw2
  by_cases hn : 0 < s.data.toList.count 10
  · obtain ⟨i, hi, hli, hbl⟩ := behindLast_eq s hn
    have hcle : s.data.toList.count 10 ≤ s.size := by rw [← len_data]; exact List.count_le_length ..
    have Hr : Hid (passL (ln, cl) s.data.toList = (ln + (s.data.toList.count 10 : Int), ((s.size - i : Nat) : Int))) := Lib.hid (by unfold passL; rw [if_pos hn, ← hbl]; simp)
    have hsi : ((s.size - i : Nat) : Int) = (s.size : Int) - (i : Int) := by omega
    have Hsi := Lib.hid hsi
    rw [show Lib.countByte s.data.toList 10 = s.data.toList.count 10 from rfl]
    generalize s.data.toList.count 10 = m0 at hn hcle Hr ⊢
    have Hli := Lib.hid hli
    have hn' : (0 : Int) < (m0 : Int) := by omega
    have hw1 := IntWalk.i64_in (ln + (m0 : Int)) (by omega)
    clear hli hbl hsi
    go_wp2_with fail
    refine wp_region_mix [10] (by kernel_rfl) (by kernel_rfl) ?_
    refine mix_quiet 10 (by decide) ?_
    simp only [List.take_succ_cons, List.take_zero, List.drop_succ_cons, List.drop_zero]
    repeat (first
      | go_big_quiet_step ((go_at_call 150; exact Calls.quiet_of_same (Tryz.strings_LastIndexByte s 10 (by omega) _)))
      | quiet_step ((go_at_call 150; exact Calls.quiet_of_same (Tryz.strings_LastIndexByte s 10 (by omega) _))))
    refine wpQuiet_nil ?_
    refine mix_heavy (by decide) (fun n K hK => ?_)
    rw [Hli.out]
    have hw2 := IntWalk.wrap64_in ((s.size : Int) - (i : Int)) (by omega)
    go_wp2_with fail
    refine mix_end (fun m => ?_)
    go_wp2_with fail
    refine bodyPost_ret (v := .agg #[.int .i64 (ln + m0), .int .i64 ((s.size : Int) - (i : Int))]) (by simp [results, Tryz.results127, go_sem]) rfl ?_
    rw [Hr.out, Hsi.out]
    refine ⟨below_drewN ((below_drewN (((Below.refl _ _).alloc (Nat.le_refl _) _).alloc (by simp) _) n).setCell (p := ⟨w.heap.size + 1, 0, none⟩) (by simp) _ |>.setCell (p := ⟨w.heap.size + 1, 1, none⟩) (by simp) _) m, rfl⟩
  · have hn0 : Lib.countByte s.data.toList 10 = 0 := by unfold Lib.countByte; omega
    have Hr : Hid (passL (ln, cl) s.data.toList = (ln, cl + s.size)) := Lib.hid (by unfold passL; rw [if_neg hn, len_data])
    rw [hn0]
    clear hn hn0
    go_wp2_with fail
    refine bodyPost_ret (v := .agg #[.int .i64 ln, .int .i64 (cl + s.size)]) (by simp [results, Tryz.results127, go_sem]) rfl ?_
    rw [Hr.out]
    exact ⟨((Below.refl _ _).alloc (Nat.le_refl _) _).alloc (by simp) _, rfl⟩
end Go.Proofs.YthknljeffpbbmaaGreatDoor
namespace Go.Proofs.YthknljeffpbbmaaGreatDoor
open Go Go.RowKit

theorem quotedL_le : ∀ (f : Nat) (l : List UInt8) (r : List UInt8 × Nat), l.length ≤ f → quotedL l = some r → r.2 ≤ l.length := by
  intro f
  induction f with
  | zero => intro l r hl h; obtain rfl : l = [] := List.length_eq_zero_iff.1 (by omega); cases h
  | succ f ih =>
    intro l r hl h
    cases l with
    | nil => cases h
    | cons c t =>
      rw [quotedL_cons] at h
      simp only [List.length_cons] at hl ⊢
      split at h
      · cases h; simp
      split at h
      · cases h
      split at h
      · cases t with
        | nil => cases h
        | cons d t' =>
          simp only at h
          cases hu : unescape d with
          | none => rw [hu] at h; cases h
          | some u =>
            rw [hu] at h
            cases hq : quotedL t' with
            | none => rw [hq] at h; cases h
            | some r' =>
              rw [hq] at h
              cases h
              have := ih t' r' (by simp at hl; omega) hq
              simp only [List.length_cons]
              omega
      · cases hq : quotedL t with
        | none => rw [hq] at h; cases h
        | some r' =>
          rw [hq] at h
          cases h
          have := ih t r' (by omega) hq
          simp only
          omega
theorem runL_pos {p : UInt8 → Bool} {c : UInt8} {t : List UInt8} (h : p c = true) : 1 ≤ runL p (c :: t) := by unfold runL; rw [List.takeWhile_cons_of_pos h]; simp
theorem nextL_len {l : List UInt8} {x : Int × List UInt8 × Nat} (h : nextL l = .ok x) : 1 ≤ x.2.2 ∧ x.2.2 ≤ l.length := by
  cases l with
  | nil => cases h
  | cons c t =>
    rw [nextL.eq_def] at h
    simp only at h
    split at h
    · rename_i hg; cases h; exact ⟨runL_pos hg, runL_le _ _⟩
    split at h
    · rename_i _ hc; cases h; exact ⟨runL_pos (by rw [hc]; decide), runL_le _ _⟩
    split at h
    · rename_i hg; cases h; exact ⟨runL_pos (by unfold isWordy; rw [hg]; rfl), runL_le _ _⟩
    split at h
    · rename_i hg
      unfold numberL at h
      split at h
      · cases h
      split at h
      · cases h
      · cases h; exact ⟨runL_pos hg, runL_le _ _⟩
    split at h
    · split at h
      · rename_i r hq; cases h; have := quotedL_le _ _ _ (Nat.le_refl _) hq; simp only [List.length_cons]; omega
      · cases h
    split at h
    · rename_i hp
      cases h
      refine ⟨by simp, ?_⟩
      cases t with
      | nil => simp at hp
      | cons d t' => simp
    split at h
    · cases h; simp
    · cases h

theorem nextL_err {l : List UInt8} {n : Int} (h : nextL l = .error n) : n = 2 ∨ n = 3 := by
  cases l with
  | nil => cases h; simp
  | cons c t =>
    rw [nextL.eq_def] at h
    simp only at h
    split at h
    · cases h
    split at h
    · cases h
    split at h
    · cases h
    split at h
    · unfold numberL at h
      split at h
      · cases h; simp
      split at h
      · cases h; simp
      · cases h
    split at h
    · split at h
      · cases h
      · cases h; simp
    split at h
    · cases h
    split at h
    · cases h
    · cases h; simp

theorem behindLast_le (l : List UInt8) (h : 0 < l.count 10) : behindLast l + 1 ≤ l.length := by
  unfold behindLast
  have hm : (10 : UInt8) ∈ l.reverse := List.mem_reverse.2 (List.count_pos_iff.1 h)
  obtain ⟨a, b, hab⟩ := List.append_of_mem hm
  have hlen : l.length = a.length + (b.length + 1) := by rw [← List.length_reverse, hab]; simp
  have : ((a ++ 10 :: b).takeWhile (fun x => decide (x ≠ (10 : UInt8)))).length ≤ a.length := by
    clear hab hlen hm
    induction a with
    | nil => simp
    | cons x t ih =>
      rw [List.cons_append, List.takeWhile_cons]; split
      · simp only [List.length_cons]; exact Nat.succ_le_succ ih
      · simp
  rw [hab]
  have h2 := this
  simp only [ne_eq] at h2 ⊢
  omega
theorem passL_bounds {ln cl : Int} {l : List UInt8} {m r : Nat} (h0 : 0 ≤ ln) (h1 : 0 ≤ cl) (h2 : ln + l.length + r ≤ m) (h3 : cl + l.length + r ≤ m) (h4 : l.length + r ≤ m) :
    0 ≤ (passL (ln, cl) l).1 ∧ (passL (ln, cl) l).1 + r ≤ m ∧ 0 ≤ (passL (ln, cl) l).2 ∧ (passL (ln, cl) l).2 + r ≤ m := by
  have hc := List.count_le_length (a := (10 : UInt8)) (l := l)
  unfold passL
  split
  · rename_i h
    have := behindLast_le l h
    simp only
    omega
  · simp only; omega

/-- Where the lexer stands: acc has been told, what is left begins at a place. -/
def LexAt (l : List UInt8) (p : Int × Int) (rest : List UInt8) (acc : List Tok) : Prop :=
  ∀ f, rest.length < f → tokensL (l.length + 1) (1, 1) l = (tokensL f p rest).map fun ts => acc ++ ts
theorem tokensL_fuel : ∀ (f g : Nat) (p : Int × Int) (l : List UInt8), l.length < f → l.length < g → tokensL f p l = tokensL g p l
  | 0, _, _, _, h, _ => by omega
  | f + 1, 0, _, _, _, h => by omega
  | f + 1, g + 1, p, l, hf, hg => by
    unfold tokensL
    split
    · rfl
    · cases hn : nextL l with
      | error e => rfl
      | ok x =>
        obtain ⟨k, s, n⟩ := x
        have h1 := nextL_len hn
        simp only at h1 ⊢
        rw [tokensL_fuel f g _ (l.drop n) (by rw [List.length_drop]; omega) (by rw [List.length_drop]; omega)]
theorem LexAt.start (l : List UInt8) : LexAt l (1, 1) l [] := by
  intro f hf
  rw [tokensL_fuel (l.length + 1) f _ l (by omega) hf]
  cases tokensL f (1, 1) l <;> rfl
theorem LexAt.stop {l : List UInt8} {p : Int × Int} {acc : List Tok} (h : LexAt l p [] acc) : tokensL (l.length + 1) (1, 1) l = .ok acc := by
  rw [h 1 (by simp)]
  simp [tokensL, Except.map]
theorem LexAt.fail {l rest : List UInt8} {p : Int × Int} {acc : List Tok} {e : Int} (h : LexAt l p rest acc) (hr : rest ≠ []) (he : nextL rest = .error e) : tokensL (l.length + 1) (1, 1) l = .error (e, p.1, p.2) := by
  rw [h (rest.length + 1) (by omega), tokensL, if_neg hr, he]; rfl
theorem LexAt.next {l rest : List UInt8} {p : Int × Int} {acc : List Tok} {x : Int × List UInt8 × Nat} (h : LexAt l p rest acc) (hr : rest ≠ []) (he : nextL rest = .ok x) :
    LexAt l (passL p (rest.take x.2.2)) (rest.drop x.2.2) (if 0 < x.1 then acc ++ [⟨x.1, ⟨x.2.1.toArray⟩, p.1, p.2⟩] else acc) := by
  obtain ⟨k, s, n⟩ := x
  intro f hf
  have h1 := nextL_len he
  simp only at h1 hf ⊢
  rw [List.length_drop] at hf
  rw [h (rest.length + 1) (by omega), tokensL, if_neg hr, he]
  simp only
  rw [tokensL_fuel rest.length f _ (rest.drop n) (by rw [List.length_drop]; omega) (by rw [List.length_drop]; omega)]
  cases tokensL f (passL p (rest.take n)) (rest.drop n) with
  | error e => rfl
  | ok ts => simp only [Except.map]; split <;> simp
end Go.Proofs.YthknljeffpbbmaaGreatDoor
