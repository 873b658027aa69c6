/-
  The walk of the lexer's next: what a text begins with.
-/
import Derived.Test.YthknljeffpbbmaaGreatDoorLexC
import Derived.Lib.IndexLaws
namespace Go.Proofs.YthknljeffpbbmaaGreatDoor
open Go Go.RowKit

def signsL : List UInt8 := [61, 43, 40, 41, 91, 93, 123, 125, 44, 58, 59]
theorem sign_index (c : UInt8) : (∃ o : Nat, Lib.indexByte signsL c = (o : Int) ∧ c ∈ signsL) ∨ (Lib.indexByte signsL c = -1 ∧ c ∉ signsL) := by
  have h := Lib.indexByte_ge signsL c
  by_cases h1 : Lib.indexByte signsL c = -1
  · refine .inr ⟨h1, fun hm => ?_⟩
    obtain ⟨k, hk⟩ := List.getElem?_of_mem hm
    exact Lib.indexByte_none h1 k hk
  · obtain ⟨o, ho⟩ := Int.eq_ofNat_of_zero_le (show 0 ≤ Lib.indexByte signsL c by omega)
    exact .inl ⟨o, ho, List.mem_of_getElem? (Lib.indexByte_some ho).1⟩
theorem prefixL_two (l : List UInt8) (a b : UInt8) : Lib.hasPrefix l [a, b] = decide (l.take 2 = [a, b]) := by
  unfold Lib.hasPrefix
  rw [Bool.eq_iff_iff, List.isPrefixOf_iff_prefix, decide_eq_true_eq]
  constructor
  · rintro ⟨t, rfl⟩; rfl
  · intro h; exact ⟨l.drop 2, by rw [← h, List.take_append_drop]⟩

set_option maxRecDepth 100000 in
set_option maxHeartbeats 4000000 in
theorem next_any (s : ByteArray) (w : World) (hs : s.size ≤ 65536) (h0 : 0 < s.size) (hw : StdE w) :
    Calls Tryz.prog 126 #[.string s] w (PNext (nextL s.data.toList) w) := by
  have hl : s.data.toList = s[0] :: s.data.toList.tail := by
    have := List.drop_eq_getElem_cons (l := s.data.toList) (i := 0) (by rw [len_data]; exact h0)
    rw [List.drop_zero] at this
    rw [this]; rfl
  obtain ⟨c, hc⟩ : ∃ c, s[0] = c := ⟨_, rfl⟩
  have Hc := Lib.hid hc
  have Hn : Hid (nextL s.data.toList = if isGap c then .ok (0, [], runL isGap s.data.toList)
    else if c = 35 then .ok (0, [], runL isLine s.data.toList)
    else if isLetter c then .ok (1, s.data.toList.takeWhile isWordy, runL isWordy s.data.toList)
    else if isDigit c then numberL s.data.toList
    else if c = 34 then (match quotedL s.data.toList.tail with | some r => .ok (3, r.1, r.2 + 1) | none => .error 3)
    else if s.data.toList.take 2 = [61, 61] ∨ s.data.toList.take 2 = [33, 61] then .ok (4, s.data.toList.take 2, 2)
    else if c ∈ signsL then .ok (4, [c], 1) else .error 3) := Lib.hid (by rw [hl, hc, nextL.eq_def]; rfl)
  have Hhead : Hid (s.data.toList.head? = some c) := Lib.hid (by rw [hl, hc]; rfl)
  have Hx0 : Hid ((s.extract 0 1).data.toList = [c]) := Lib.hid (by rw [Lib.extract_data, hl, hc]; rfl)
  clear hc hl
  have hrun : ∀ p : UInt8 → Bool, (runL p s.data.toList : Int) ≤ s.size := fun p => by rw [← len_data]; exact Int.ofNat_le.2 (runL_le p _)
  go_enter Tryz.func126, Tryz.ntmps126
  go_wp2_with fail
  refine (gap_any s[0] _).mono ?_
  rintro e w' ⟨rfl, rfl⟩
  rw [Hc.out]
  cases hg : isGap c
  · have Hg := Lib.hid hg
    clear hg
    by_cases h35 : c = 35
    · have Hr : Hid (nextL s.data.toList = .ok (0, [], runL isLine s.data.toList)) := Lib.hid (by rw [Hn.out, Hg.out, if_pos h35]; rfl)
      have t1 : ((c.toNat : Int) == 35) = true := by rw [h35]; rfl
      clear Hn h35
      go_wp2_with fail
      refine (run_any isLine 143 line_any (fun _ _ => by kernel_rfl) s _ (by omega)).mono ?_
      rintro e w' ⟨rfl, rfl⟩
      have hle := hrun isLine
      clear hrun
      generalize runL isLine s.data.toList = n at Hr hle
      go_wp2_with fail
      refine bodyPost_ret (v := .tuple #[.agg #[.int .i64 0, .string ⟨#[]⟩, .int .i64 0, .int .i64 0], .int .i64 n, .int .i64 0]) (by simp [results, Tryz.results126, go_sem]) rfl ?_
      rw [Hr.out]
      exact ⟨(Below.refl _ _).alloc (Nat.le_refl _) _, _, rfl, rfl⟩
    have t1 : ((c.toNat : Int) == 35) = false := by exact (u8_lit 35 (by omega) c).trans (by simp [h35])
    have H35 := Lib.hid h35
    clear h35
    go_wp2_with fail
    refine (letter_any c _).mono ?_
    rintro e w' ⟨rfl, rfl⟩
    cases hlt : isLetter c
    · have Hl := Lib.hid hlt
      clear hlt
      go_wp2_with fail
      refine (digit_any c _).mono ?_
      rintro e w' ⟨rfl, rfl⟩
      cases hdg : isDigit c
      · have Hd := Lib.hid hdg
        clear hdg
        by_cases h34 : c = 34
        · have t2 : ((c.toNat : Int) == 34) = true := by rw [h34]; rfl
          have Hr : Hid (nextL s.data.toList = (match quotedL s.data.toList.tail with | some r => .ok (3, r.1, r.2 + 1) | none => .error 3)) := Lib.hid (by rw [Hn.out, Hg.out, if_neg (by simp), if_neg H35.out, Hl.out, if_neg (by simp), Hd.out, if_neg (by simp), if_pos h34])
          clear Hn h34 hrun
          go_wp2_with fail
          refine (quoted_any s _ hs h0).mono ?_
          rintro e w2 ⟨hb2, hq⟩
          obtain ⟨hlt2, hcs, hfz⟩ := block_facts (fresh_facts hb2)
          have q0 := hcs 0
          have q1 := hcs 1
          have q2 := hcs 2
          have q3 := hcs 3
          have z0 := hfz 0
          have z1 := hfz 1
          have z2 := hfz 2
          have z3 := hfz 3
          have hwb : Below w.heap.size w (w.alloc (.cells #[.int .i64 0, .string ⟨#[]⟩, .int .i64 0, .int .i64 0] 157)) := (Below.refl _ _).alloc (Nat.le_refl _) _
          have Hb := Lib.hid (hwb.trans (hb2.mono hwb.size))
          simp at q0 q1 q2 q3
          clear hcs hfz hb2 hwb
          cases hql : quotedL s.data.toList.tail with
          | none =>
            have Hr2 : Hid (nextL s.data.toList = .error 3) := Lib.hid (by rw [Hr.out, hql])
            rw [hql] at hq
            obtain rfl := hq
            clear hql Hr
            go_wp2_with fail
            refine bodyPost_ret (v := .tuple #[.agg #[.int .i64 0, .string ⟨#[]⟩, .int .i64 0, .int .i64 0], .int .i64 0, .int .i64 3]) (by simp [results, Tryz.results126, go_sem, q0, q1, q2, q3]) rfl ?_
            rw [Hr2.out]
            exact ⟨below_set4 Hb.out _ _ _ _, rfl⟩
          | some r =>
            have Hr2 : Hid (nextL s.data.toList = .ok (3, r.1, r.2 + 1)) := Lib.hid (by rw [Hr.out, hql])
            rw [hql] at hq
            obtain ⟨b, hbd, rfl⟩ := hq
            have Hbd := Lib.hid hbd
            have hr2 : (0 : Int) < (r.2 : Int) + 1 := by omega
            clear hql Hr hbd
            go_wp2_with fail
            refine bodyPost_ret (v := .tuple #[.agg #[.int .i64 3, .string b, .int .i64 0, .int .i64 0], .int .i64 ((r.2 : Int) + 1), .int .i64 0]) (by simp [results, Tryz.results126, go_sem, q0, q1, q2, q3]) rfl ?_
            rw [Hr2.out]
            exact ⟨below_set4 Hb.out _ _ _ _, b, Hbd.out, by simp⟩
        have t2 : ((c.toNat : Int) == 34) = false := by exact (u8_lit 34 (by omega) c).trans (by simp [h34])
        have Hn2 : Hid (nextL s.data.toList = if s.data.toList.take 2 = [61, 61] ∨ s.data.toList.take 2 = [33, 61] then .ok (4, s.data.toList.take 2, 2) else if c ∈ signsL then .ok (4, [c], 1) else .error 3) := Lib.hid (by rw [Hn.out, Hg.out, if_neg (by simp), if_neg H35.out, Hl.out, if_neg (by simp), Hd.out, if_neg (by simp), if_neg h34])
        clear Hn h34 hrun
        go_wp2_with fail
        refine (Tryz.strings_HasPrefix s _ _).mono ?_
        rintro e w2 ⟨rfl, hw2⟩
        have hw2 := hw2.symm
        subst hw2
        rw [show (⟨#[61, 61]⟩ : ByteArray).data.toList = [61, 61] from rfl, prefixL_two]
        by_cases hp1 : s.data.toList.take 2 = [61, 61]
        · have Hr : Hid (nextL s.data.toList = .ok (4, s.data.toList.take 2, 2)) := Lib.hid (by rw [Hn2.out, if_pos (.inl hp1)])
          have h2 : (2 : Int) ≤ s.size := by
            have := congrArg List.length hp1
            rw [List.length_take, len_data] at this
            simp at this
            omega
          have Hx : Hid ((s.extract 0 2).data.toList = s.data.toList.take 2) := Lib.hid (by rw [Lib.extract_data]; rfl)
          rw [decide_eq_true hp1]
          clear hp1 Hn2
          go_wp2_with fail
          refine bodyPost_ret (v := .tuple #[.agg #[.int .i64 4, .string (s.extract 0 2), .int .i64 0, .int .i64 0], .int .i64 2, .int .i64 0]) (by simp [results, Tryz.results126, go_sem]) rfl ?_
          rw [Hr.out]
          exact ⟨(Below.refl _ _).alloc (Nat.le_refl _) _, _, Hx.out, rfl⟩
        rw [decide_eq_false hp1]
        have Hp1 := Lib.hid hp1
        clear hp1
        go_wp2_with fail
        refine (Tryz.strings_HasPrefix s _ _).mono ?_
        rintro e w2 ⟨rfl, hw2⟩
        have hw2 := hw2.symm
        subst hw2
        rw [show (⟨#[33, 61]⟩ : ByteArray).data.toList = [33, 61] from rfl, prefixL_two]
        by_cases hp2 : s.data.toList.take 2 = [33, 61]
        · have Hr : Hid (nextL s.data.toList = .ok (4, s.data.toList.take 2, 2)) := Lib.hid (by rw [Hn2.out, if_pos (.inr hp2)])
          have h2 : (2 : Int) ≤ s.size := by
            have := congrArg List.length hp2
            rw [List.length_take, len_data] at this
            simp at this
            omega
          have Hx : Hid ((s.extract 0 2).data.toList = s.data.toList.take 2) := Lib.hid (by rw [Lib.extract_data]; rfl)
          rw [decide_eq_true hp2]
          clear hp2 Hn2
          go_wp2_with fail
          refine bodyPost_ret (v := .tuple #[.agg #[.int .i64 4, .string (s.extract 0 2), .int .i64 0, .int .i64 0], .int .i64 2, .int .i64 0]) (by simp [results, Tryz.results126, go_sem]) rfl ?_
          rw [Hr.out]
          exact ⟨(Below.refl _ _).alloc (Nat.le_refl _) _, _, Hx.out, rfl⟩
        rw [decide_eq_false hp2]
        have Hn3 : Hid (nextL s.data.toList = if c ∈ signsL then .ok (4, [c], 1) else .error 3) := Lib.hid (by rw [Hn2.out, if_neg (by rintro (h | h); exact Hp1.out h; exact hp2 h)])
        clear hp2 Hn2
        go_wp2_with fail
        refine (Tryz.strings_IndexByte _ _ _).mono ?_
        rintro e w2 ⟨rfl, hw2⟩
        have hw2 := hw2.symm
        subst hw2
        rw [show (⟨#[61, 43, 40, 41, 91, 93, 123, 125, 44, 58, 59]⟩ : ByteArray).data.toList = signsL from rfl, show ((c.toNat : Int)).toNat.toUInt8 = c from by simp]
        rcases sign_index c with ⟨o, ho, hm⟩ | ⟨ho, hm⟩
        · rw [ho]
          have Hr : Hid (nextL s.data.toList = .ok (4, [c], 1)) := Lib.hid (by rw [Hn3.out, if_pos hm])
          have h1 : (1 : Int) ≤ s.size := by omega
          have hoo : (0 : Int) ≤ (o : Int) := by omega
          clear ho hm Hn3
          go_wp2_with fail
          refine bodyPost_ret (v := .tuple #[.agg #[.int .i64 4, .string (s.extract 0 1), .int .i64 0, .int .i64 0], .int .i64 1, .int .i64 0]) (by simp [results, Tryz.results126, go_sem]) rfl ?_
          rw [Hr.out]
          exact ⟨(Below.refl _ _).alloc (Nat.le_refl _) _, _, Hx0.out, rfl⟩
        · rw [ho]
          have Hr : Hid (nextL s.data.toList = .error 3) := Lib.hid (by rw [Hn3.out, if_neg hm])
          clear ho hm Hn3
          go_wp2_with fail
          refine bodyPost_ret (v := .tuple #[.agg #[.int .i64 0, .string ⟨#[]⟩, .int .i64 0, .int .i64 0], .int .i64 0, .int .i64 3]) (by simp [results, Tryz.results126, go_sem]) rfl ?_
          rw [Hr.out]
          exact ⟨(Below.refl _ _).alloc (Nat.le_refl _) _, rfl⟩
      · have Hr : Hid (nextL s.data.toList = numberL s.data.toList) := Lib.hid (by rw [Hn.out, Hg.out, if_neg (by simp), if_neg H35.out, Hl.out, if_neg (by simp), hdg, if_pos rfl])
        have hdg2 : ∃ c, s.data.toList.head? = some c ∧ isDigit c = true := ⟨c, Hhead.out, hdg⟩
        have Hdg2 := Lib.hid hdg2
        clear hdg hdg2 Hn hrun
        have hwb : Below w.heap.size w (w.alloc (.cells #[.int .i64 0, .string ⟨#[]⟩, .int .i64 0, .int .i64 0] 157)) := (Below.refl _ _).alloc (Nat.le_refl _) _
        go_wp2_with fail
        refine (number_any s _ hs Hdg2.out (hw.below hwb)).mono ?_
        rintro e w2 ⟨hb2, hq⟩
        obtain ⟨hlt2, hcs, hfz⟩ := block_facts (fresh_facts hb2)
        have q0 := hcs 0
        have q1 := hcs 1
        have q2 := hcs 2
        have q3 := hcs 3
        have z0 := hfz 0
        have z1 := hfz 1
        have z2 := hfz 2
        have z3 := hfz 3
        have Hb := Lib.hid (hwb.trans (hb2.mono hwb.size))
        simp at q0 q1 q2 q3
        clear hcs hfz hb2 hwb
        cases hql : numberL s.data.toList with
        | error n =>
          have Hr2 : Hid (nextL s.data.toList = .error n) := Lib.hid (by rw [Hr.out, hql])
          rw [hql] at hq
          obtain rfl := hq
          clear hql Hr
          go_wp2_with fail
          refine bodyPost_ret (v := .tuple #[.agg #[.int .i64 0, .string ⟨#[]⟩, .int .i64 0, .int .i64 0], .int .i64 0, .int .i64 n]) (by simp [results, Tryz.results126, go_sem, q0, q1, q2, q3]) rfl ?_
          rw [Hr2.out]
          exact ⟨below_set4 Hb.out _ _ _ _, rfl⟩
        | ok r =>
          have Hr2 : Hid (nextL s.data.toList = .ok r) := Lib.hid (by rw [Hr.out, hql])
          rw [hql] at hq
          obtain ⟨b, hbd, rfl⟩ := hq
          have Hbd := Lib.hid hbd
          clear hql Hr hbd
          go_wp2_with fail
          refine bodyPost_ret (v := .tuple #[.agg #[.int .i64 r.1, .string b, .int .i64 0, .int .i64 0], .int .i64 r.2.2, .int .i64 0]) (by simp [results, Tryz.results126, go_sem, q0, q1, q2, q3]) rfl ?_
          rw [Hr2.out]
          exact ⟨below_set4 Hb.out _ _ _ _, b, Hbd.out, rfl⟩
    · have Hr : Hid (nextL s.data.toList = .ok (1, s.data.toList.takeWhile isWordy, runL isWordy s.data.toList)) := Lib.hid (by rw [Hn.out, Hg.out, if_neg (by simp), if_neg H35.out, hlt, if_pos rfl])
      have Hx : Hid ((s.extract 0 (runL isWordy s.data.toList)).data.toList = s.data.toList.takeWhile isWordy) := Lib.hid (by rw [Lib.extract_data, List.drop_zero, Nat.sub_zero, take_runL])
      clear hlt Hn
      go_wp2_with fail
      refine (run_any isWordy 145 wordy_any (fun _ _ => by kernel_rfl) s _ (by omega)).mono ?_
      rintro e w' ⟨rfl, rfl⟩
      have hle := hrun isWordy
      clear hrun
      generalize runL isWordy s.data.toList = n at Hr hle Hx
      go_wp2_with fail
      refine bodyPost_ret (v := .tuple #[.agg #[.int .i64 1, .string (s.extract 0 n), .int .i64 0, .int .i64 0], .int .i64 n, .int .i64 0]) (by simp [results, Tryz.results126, go_sem]) rfl ?_
      rw [Hr.out]
      exact ⟨(Below.refl _ _).alloc (Nat.le_refl _) _, _, Hx.out, rfl⟩
  · have Hr : Hid (nextL s.data.toList = .ok (0, [], runL isGap s.data.toList)) := Lib.hid (by rw [Hn.out, hg]; rfl)
    clear hg Hn
    go_wp2_with fail
    refine (run_any isGap 141 gap_any (fun _ _ => by kernel_rfl) s _ (by omega)).mono ?_
    rintro e w' ⟨rfl, rfl⟩
    have hle := hrun isGap
    clear hrun
    generalize runL isGap s.data.toList = n at Hr hle
    go_wp2_with fail
    refine bodyPost_ret (v := .tuple #[.agg #[.int .i64 0, .string ⟨#[]⟩, .int .i64 0, .int .i64 0], .int .i64 n, .int .i64 0]) (by simp [results, Tryz.results126, go_sem]) rfl ?_
    rw [Hr.out]
    exact ⟨(Below.refl _ _).alloc (Nat.le_refl _) _, _, rfl, rfl⟩
end Go.Proofs.YthknljeffpbbmaaGreatDoor
