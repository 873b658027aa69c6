/-
  The walk of the lexer's number.
-/
import Derived.Test.YthknljeffpbbmaaGreatDoorMParseBal
import Derived.Test.YthknljeffpbbmaaGreatDoorShelf
import Derived.Test.YthknljeffpbbmaaGreatDoorMSame0
namespace Go.Proofs.YthknljeffpbbmaaGreatDoor
open Go Go.RowKit

def natFrom (acc : Nat) (l : List UInt8) : Nat := l.foldl (fun n c => 10 * n + (c.toNat - 48)) acc
theorem natFrom_ge (l : List UInt8) : ∀ acc, acc ≤ natFrom acc l := by
  induction l with
  | nil => intro acc; exact Nat.le_refl _
  | cons c t ih =>
    intro acc
    have := ih (10 * acc + (c.toNat - 48))
    show acc ≤ natFrom (10 * acc + (c.toNat - 48)) t
    omega
theorem digit_range {c : UInt8} (h : isDigit c = true) : 48 ≤ c.toNat ∧ c.toNat ≤ 57 := by
  simp only [isDigit, Bool.and_eq_true, decide_eq_true_eq] at h; omega
theorem parse_digits (l : List UInt8) : ∀ acc, (∀ c ∈ l, isDigit c = true) → acc ≤ 18446744073709551615 →
    (natFrom acc l ≤ 18446744073709551615 ∧ Lib.parseUintM 18446744073709551615 acc l = .ok (natFrom acc l)) ∨ (18446744073709551615 < natFrom acc l ∧ Lib.parseUintM 18446744073709551615 acc l = .range) := by
  induction l with
  | nil => intro acc _ h; exact .inl ⟨h, rfl⟩
  | cons c t ih =>
    intro acc hd ha
    obtain ⟨h1, h2⟩ := digit_range (hd c (List.mem_cons_self ..))
    have hge := natFrom_ge t (10 * acc + (c.toNat - 48))
    have hst : natFrom acc (c :: t) = natFrom (10 * acc + (c.toNat - 48)) t := rfl
    rw [Lib.parseUintM, if_pos ⟨h1, h2⟩, hst]
    by_cases h3 : 1844674407370955162 ≤ acc
    · rw [if_pos h3]
      exact .inr ⟨by omega, rfl⟩
    · rw [if_neg h3]
      by_cases h4 : 18446744073709551615 < acc * 10 + (c.toNat - 48)
      · rw [if_pos h4]
        exact .inr ⟨by omega, rfl⟩
      · rw [if_neg h4, show acc * 10 + (c.toNat - 48) = 10 * acc + (c.toNat - 48) by omega]
        exact ih _ (fun c h => hd c (List.mem_cons_of_mem _ h)) (by omega)
theorem parseUint_digits {l : List UInt8} (hne : l ≠ []) (hd : ∀ c ∈ l, isDigit c = true) :
    (natOf l ≤ 18446744073709551615 ∧ Lib.parseUintB 64 l = .ok (natOf l)) ∨ (18446744073709551615 < natOf l ∧ Lib.parseUintB 64 l = .range) := by
  unfold Lib.parseUintB
  rw [if_neg hne, show 2 ^ 64 - 1 = 18446744073709551615 from rfl]
  exact parse_digits l 0 hd (by omega)

theorem all_takeWhile {p : UInt8 → Bool} {l : List UInt8} : ∀ c ∈ l.takeWhile p, p c = true := by
  induction l with
  | nil => intro c h; cases h
  | cons x t ih =>
    intro c h
    by_cases hx : p x = true
    · rw [List.takeWhile_cons_of_pos hx] at h
      rcases List.mem_cons.1 h with rfl | h
      · exact hx
      · exact ih c h
    · rw [List.takeWhile_cons_of_neg hx] at h; cases h

/-- What the library's variable of errors out of range holds: an error, or none. -/
def StdE (w : World) : Prop := ∃ ev, w.cell? ⟨4, 0, none⟩ = some ev ∧ (ev = .nilIface ∨ ∃ te pe, ev = .iface te pe)
theorem StdE.below {w w' : World} (h : StdE w) (hb : Below w.heap.size w w') : StdE w' := by
  obtain ⟨ev, h1, h2⟩ := h
  exact ⟨ev, (hb.cell (p := ⟨4, 0, none⟩) (block_of_cell h1)).trans h1, h2⟩

/-- What such a function hands back: a token without its place, how many bytes, no error; or nothing, and the error's number. -/
def PNext (r : Except Int (Int × List UInt8 × Nat)) (w : World) (e : Ending) (w' : World) : Prop :=
  Below w.heap.size w w' ∧ match r with
    | .ok x => ∃ s : ByteArray, s.data.toList = x.2.1 ∧ e = .returned (.tuple #[.agg #[.int .i64 x.1, .string s, .int .i64 0, .int .i64 0], .int .i64 x.2.2, .int .i64 0])
    | .error n => e = .returned (.tuple #[.agg #[.int .i64 0, .string ⟨#[]⟩, .int .i64 0, .int .i64 0], .int .i64 0, .int .i64 n])

theorem below_bytesWorld (w : World) (e : TypeId) (s : ByteArray) : Below w.heap.size w (Lib.bytesWorld w e s) := by
  unfold Lib.bytesWorld World.freeze
  rw [if_neg (by omega)]
  have h := ((Below.refl w.heap.size w).drew).alloc (Nat.le_refl _) (.cells (Lib.bytesCells w e s) e)
  refine ⟨h.os, h.tape, h.output, by simp, fun k hk => ?_⟩
  show (Array.modify _ _ _)[k]? = _
  rw [Array.getElem?_modify, if_neg (by show ¬ w.heap.size = k; omega)]
  exact h.block k hk

theorem below_set4 {w w2 : World} (h : Below w.heap.size w w2) (a b c d : Value) : Below w.heap.size w ((((w2.setCell ⟨w.heap.size, 0, none⟩ a).setCell ⟨w.heap.size, 1, none⟩ b).setCell ⟨w.heap.size, 2, none⟩ c).setCell ⟨w.heap.size, 3, none⟩ d) :=
  (((h.setCell (p := ⟨w.heap.size, 0, none⟩) (Nat.le_refl _) _).setCell (p := ⟨w.heap.size, 1, none⟩) (Nat.le_refl _) _).setCell (p := ⟨w.heap.size, 2, none⟩) (Nat.le_refl _) _).setCell (p := ⟨w.heap.size, 3, none⟩) (Nat.le_refl _) _
set_option maxRecDepth 100000 in
set_option maxHeartbeats 1000000 in
theorem number_any (s : ByteArray) (w : World) (hs : s.size ≤ 65536) (hd : ∃ c, s.data.toList.head? = some c ∧ isDigit c = true) (hw : StdE w) :
    Calls Tryz.prog 147 #[.string s] w (PNext (numberL s.data.toList) w) := by
  obtain ⟨n, hn⟩ : ∃ n, n = runL isDigit s.data.toList := ⟨_, rfl⟩
  have hle : n ≤ s.size := by rw [hn, ← len_data]; exact runL_le _ _
  obtain ⟨c, hc, hcd⟩ := hd
  have h0 : 0 < s.size := by
    rw [← len_data]
    cases hl : s.data.toList with
    | nil => rw [hl] at hc; cases hc
    | cons => simp
  have hget : s[0]'h0 = c := by
    have := get_data s 0 h0
    rw [← List.head?_eq_getElem?, hc] at this
    exact (Option.some.inj this).symm
  go_enter Tryz.func147, Tryz.ntmps147
  go_wp2_with fail
  refine (run_any isDigit 146 digit_any (fun _ _ => by kernel_rfl) s _ (by omega)).mono ?_
  rintro e w' ⟨rfl, rfl⟩
  rw [← hn]
  have hex : (s.extract 0 n).data.toList = s.data.toList.takeWhile isDigit := by
    rw [Lib.extract_data, List.drop_zero, Nat.sub_zero, hn, take_runL]
  have hn0 : 1 ≤ n := by
    rw [hn, runL]
    cases hl : s.data.toList with
    | nil => rw [hl] at hc; cases hc
    | cons x t => rw [hl] at hc; cases hc; rw [List.takeWhile_cons_of_pos hcd]; simp
  have hne : s.data.toList.takeWhile isDigit ≠ [] := by
    intro h
    have : runL isDigit s.data.toList = 0 := by unfold runL; rw [h]; rfl
    omega
  have hdg := parseUint_digits hne (fun c hc => all_takeWhile c hc)
  have Hnum : Hid (numberL s.data.toList = if 1 < n ∧ c = 48 then .error 3 else if 9223372036854775807 < natOf (s.data.toList.takeWhile isDigit) then .error 2 else .ok (2, s.data.toList.takeWhile isDigit, n)) := Lib.hid (by unfold numberL; rw [hc, ← hn]; simp)
  have Hex := Lib.hid hex
  have Hdg := Lib.hid hdg
  clear hex hdg hne hn hc
  subst hget
  by_cases hz : 1 < n ∧ s[0] = 48
  · have h1 : decide ((1 : Int) < (n : Int)) = true := by simp; omega
    have h2 : (((s[0]'h0).toNat : Int) == 48) = true := by rw [hz.2]; rfl
    have Hr : Hid (numberL s.data.toList = .error 3) := Lib.hid (by rw [Hnum.out, if_pos hz])
    clear hz Hnum hcd
    go_wp2_with fail
    refine bodyPost_ret (v := .tuple #[.agg #[.int .i64 0, .string ⟨#[]⟩, .int .i64 0, .int .i64 0], .int .i64 0, .int .i64 3]) (by simp [results, Tryz.results147, go_sem]) rfl ?_
    rw [Hr.out]
    exact ⟨(Below.refl _ _).alloc (Nat.le_refl _) _, rfl⟩
  · have h2 : decide ((1 : Int) < (n : Int)) = false ∨ (decide ((1 : Int) < (n : Int)) = true ∧ (((s[0]'h0).toNat : Int) == 48) = false) := by
      by_cases h : 1 < n
      · refine .inr ⟨by simp; omega, ?_⟩
        rw [beq_eq_false_iff_ne]
        intro he
        exact hz ⟨h, UInt8.toNat_inj.1 (by show _ = 48; omega)⟩
      · exact .inl (by simp; omega)
    have Hr : Hid (numberL s.data.toList = if 9223372036854775807 < natOf (s.data.toList.takeWhile isDigit) then .error 2 else .ok (2, s.data.toList.takeWhile isDigit, n)) := Lib.hid (by rw [Hnum.out, if_neg hz])
    clear hz Hnum hcd
    have hsz : (s.extract 0 n).size ≤ 65536 := by rw [ByteArray.size_extract]; omega
    rcases h2 with h1 | ⟨h1, h2⟩
    all_goals
      go_wp2_with fail
      have hwb : Below w.heap.size w (w.alloc (.cells #[.int .i64 0, .string ⟨#[]⟩, .int .i64 0, .int .i64 0] 157)) := (Below.refl _ _).alloc (Nat.le_refl _) _
      rcases Hdg.out with ⟨hsm, hok⟩ | ⟨hbig, hrg⟩
      · have Hok := Lib.hid hok
        clear hok
        refine (Tryz.strconv_ParseUint_10_at64_ok _ (by omega) (natOf (s.data.toList.takeWhile isDigit)) (by rw [Hex.out]; exact Hok.out) _).mono ?_
        rintro e w2 ⟨rfl, hw2⟩
        have hb2 : Below (w.alloc (.cells #[.int .i64 0, .string ⟨#[]⟩, .int .i64 0, .int .i64 0] 157)).heap.size (w.alloc (.cells #[.int .i64 0, .string ⟨#[]⟩, .int .i64 0, .int .i64 0] 157)) w2 := by
          rcases hw2 with rfl | rfl
          · exact Below.refl _ _
          · exact below_bytesWorld _ _ _
        clear hw2
        obtain ⟨hlt, hcs, hfz⟩ := block_facts (fresh_facts hb2)
        have q0 := hcs 0
        have q1 := hcs 1
        have q2 := hcs 2
        have q3 := hcs 3
        have z0 := hfz 0
        have z1 := hfz 1
        have z2 := hfz 2
        have z3 := hfz 3
        have hb02 : Below w.heap.size w w2 := hwb.trans (hb2.mono hwb.size)
        have Hb := Lib.hid hb02
        simp at q0 q1 q2 q3
        clear hcs hfz hb2 hwb hb02
        by_cases hm : (9223372036854775807 : Int) < (natOf (s.data.toList.takeWhile isDigit) : Int)
        · have Hr2 : Hid (numberL s.data.toList = .error 2) := Lib.hid (by rw [Hr.out, if_pos (by omega)])
          generalize natOf (s.data.toList.takeWhile isDigit) = v at hm hsm ⊢
          go_wp2_with fail
          refine bodyPost_ret (v := .tuple #[.agg #[.int .i64 0, .string ⟨#[]⟩, .int .i64 0, .int .i64 0], .int .i64 0, .int .i64 2]) (by simp [results, Tryz.results147, go_sem, q0, q1, q2, q3]) rfl ?_
          rw [Hr2.out]
          exact ⟨below_set4 Hb.out _ _ _ _, rfl⟩
        · have Hr2 : Hid (numberL s.data.toList = .ok (2, s.data.toList.takeWhile isDigit, n)) := Lib.hid (by rw [Hr.out, if_neg (by omega)])
          generalize natOf (s.data.toList.takeWhile isDigit) = v at hm hsm ⊢
          go_wp2_with fail
          refine bodyPost_ret (v := .tuple #[.agg #[.int .i64 2, .string (s.extract 0 n), .int .i64 0, .int .i64 0], .int .i64 n, .int .i64 0]) (by simp [results, Tryz.results147, go_sem, q0, q1, q2, q3]) rfl ?_
          rw [Hr2.out]
          exact ⟨below_set4 Hb.out _ _ _ _, _, Hex.out, rfl⟩
      · have Hrg := Lib.hid hrg
        clear hrg
        obtain ⟨ev, hev1, hev2⟩ := hw.below hwb
        refine (Tryz.strconv_ParseUint_10_at64_range _ (by omega) (by rw [Hex.out]; exact Hrg.out) ev _ hev1 hev2).mono ?_
        rintro e w2 ⟨N, rfl, -, -, hb2⟩
        obtain ⟨hlt, hcs, hfz⟩ := block_facts (fresh_facts hb2)
        have q0 := hcs 0
        have q1 := hcs 1
        have q2 := hcs 2
        have q3 := hcs 3
        have z0 := hfz 0
        have z1 := hfz 1
        have z2 := hfz 2
        have z3 := hfz 3
        have hb02 : Below w.heap.size w w2 := hwb.trans (hb2.mono hwb.size)
        have Hb := Lib.hid hb02
        simp at q0 q1 q2 q3
        clear hcs hfz hb2 hwb hb02 hev1 hev2
        have Hr2 : Hid (numberL s.data.toList = .error 2) := Lib.hid (by rw [Hr.out, if_pos (by omega)])
        clear hbig
        go_wp2_with fail
        refine bodyPost_ret (v := .tuple #[.agg #[.int .i64 0, .string ⟨#[]⟩, .int .i64 0, .int .i64 0], .int .i64 0, .int .i64 2]) (by simp [results, Tryz.results147, go_sem, q0, q1, q2, q3]) rfl ?_
        rw [Hr2.out]
        exact ⟨below_set4 Hb.out _ _ _ _, rfl⟩
end Go.Proofs.YthknljeffpbbmaaGreatDoor
