/-
  The walk of the lexer's quoted: what a quoted text says.
-/
import Derived.Test.YthknljeffpbbmaaGreatDoorLexB
import Derived.Laws.IdiomStrings
import Derived.Lib.BufferRead
namespace Go.Proofs.YthknljeffpbbmaaGreatDoor
open Go Go.RowKit

theorem infoU8 : (Tryz.prog.info? 5).map (fun i => (i.zero, i.size, i.bytes)) = some (some (.int .u8 0), 1, 1) := by kernel_rfl
def u8v (c : UInt8) : Value := .int .u8 c.toNat
/-- A slice of the call's own that holds these bytes. -/
def OwnB (w : World) (base : Nat) (v : Value) (l : List UInt8) : Prop := w.ownsRow base 5 1 v l.length (l.map u8v)
theorem OwnB.nil (w : World) (base : Nat) : OwnB w base (.slice none 0 0) [] := ⟨rfl, .inl ⟨rfl, rfl⟩⟩
theorem OwnB.convert {w : World} {base : Nat} {v : Value} {l : List UInt8} (h : OwnB w base v l) : (convert 215 9 v).run Tryz.prog w = .ok (.string ⟨l.toArray⟩) w := by
  obtain ⟨h1, ⟨rfl, h2⟩ | ⟨g, cap, cur, rfl, h3, h4, h5, h6, h7, h8⟩⟩ := h
  · obtain rfl : l = [] := List.length_eq_zero_iff.1 h2
    exact Lib.run_convert_nil_bytes w _ _ 5 0 Tryz.underlying215 Tryz.underlying5 Tryz.underlying9
  · refine run_convert_bytes_back w _ _ 5 ⟨g, 0, none⟩ cap l Tryz.underlying215 Tryz.underlying5 Tryz.underlying9 (fun j hj => ?_)
    have h9 : (cur.toList.take (l.length * 1))[j]? = some (u8v l[j]) := by rw [h8, List.getElem?_map, List.getElem?_eq_getElem hj]; rfl
    rw [List.getElem?_take_of_lt (by omega), Array.getElem?_toList] at h9
    have : ((⟨g, 0, none⟩ : Addr).add j) = ⟨g, j, none⟩ := by unfold Addr.add; split <;> simp_all
    rw [this]
    unfold World.cell?
    rw [h4]
    exact h9

def PQuoted (r : Option (List UInt8 × Nat)) (w : World) (e : Ending) (w' : World) : Prop :=
  Below w.heap.size w w' ∧ match r with
    | some x => ∃ b : ByteArray, b.data.toList = x.1 ∧ e = .returned (.tuple #[.string b, .int .i64 ((x.2 : Int) + 1)])
    | none => e = .returned (.tuple #[.string ⟨#[]⟩, .int .i64 0])
/-- Where the walk stands: acc has been said, what is left begins at k. -/
def QuotedAt (l : List UInt8) (k : Nat) (acc : List UInt8) : Prop := quotedL l.tail = (quotedL (l.drop k)).map fun r => (acc ++ r.1, (k - 1) + r.2)
theorem quotedL_cons (c : UInt8) (t : List UInt8) : quotedL (c :: t) = if c = 34 then some ([], 1) else if c < 32 ∨ c = 127 then none else if c = 92 then (match t with | [] => none | d :: t' => (unescape d).bind fun e => (quotedL t').map fun r => (e :: r.1, r.2 + 2)) else (quotedL t).map fun r => (c :: r.1, r.2 + 1) := by
  rw [quotedL.eq_def]; rfl
theorem quoted_step {l : List UInt8} {k : Nat} {acc : List UInt8} {c : UInt8} (h : QuotedAt l k acc) (hk : 1 ≤ k) (hc : l[k]? = some c) :
    (c = 34 → quotedL l.tail = some (acc, k)) ∧ ((c ≠ 34 ∧ (c < 32 ∨ c = 127)) → quotedL l.tail = none) ∧
    ((c ≠ 34 ∧ ¬ (c < 32 ∨ c = 127) ∧ c ≠ 92) → QuotedAt l (k + 1) (acc ++ [c])) ∧
    (c = 92 → (l.length ≤ k + 1 → quotedL l.tail = none) ∧ ∀ d, l[k + 1]? = some d → (unescape d = none → quotedL l.tail = none) ∧ ∀ u, unescape d = some u → QuotedAt l (k + 2) (acc ++ [u])) := by
  have hkl : k < l.length := (List.getElem?_eq_some_iff.1 hc).1
  have hd : l.drop k = c :: l.drop (k + 1) := by
    rw [List.drop_eq_getElem_cons hkl]
    rw [List.getElem?_eq_getElem hkl] at hc
    rw [Option.some.inj hc]
  unfold QuotedAt at h ⊢
  rw [hd] at h
  refine ⟨fun hq => ?_, fun hq => ?_, fun hq => ?_, fun hq => ⟨fun hl => ?_, fun d hd' => ⟨fun hu => ?_, fun u hu => ?_⟩⟩⟩
  · rw [h, quotedL_cons, if_pos hq]; simp; omega
  · rw [h, quotedL_cons, if_neg hq.1, if_pos hq.2]; rfl
  · rw [h, quotedL_cons, if_neg hq.1, if_neg hq.2.1, if_neg hq.2.2]
    cases quotedL (l.drop (k + 1)) with
    | none => rfl
    | some r => simp; omega
  · rw [h, quotedL_cons, if_neg (by rw [hq]; decide), if_neg (by rw [hq]; decide), if_pos hq, List.drop_of_length_le hl]; rfl
  · have hkl' : k + 1 < l.length := (List.getElem?_eq_some_iff.1 hd').1
    have hd2 : l.drop (k + 1) = d :: l.drop (k + 2) := by
      rw [List.drop_eq_getElem_cons hkl']
      rw [List.getElem?_eq_getElem hkl'] at hd'
      rw [Option.some.inj hd']
    rw [h, quotedL_cons, if_neg (by rw [hq]; decide), if_neg (by rw [hq]; decide), if_pos hq, hd2]
    simp [hu]
  · have hkl' : k + 1 < l.length := (List.getElem?_eq_some_iff.1 hd').1
    have hd2 : l.drop (k + 1) = d :: l.drop (k + 2) := by
      rw [List.drop_eq_getElem_cons hkl']
      rw [List.getElem?_eq_getElem hkl'] at hd'
      rw [Option.some.inj hd']
    rw [h, quotedL_cons, if_neg (by rw [hq]; decide), if_neg (by rw [hq]; decide), if_pos hq, hd2]
    simp only [hu, Option.bind_some]
    cases quotedL (l.drop (k + 2)) with
    | none => rfl
    | some r => simp; omega
theorem lit_cell' (w : World) (t : TypeId) (x : Value) : ∀ (j : Nat) (v : Value), [x][j]? = some v → (w.alloc (.cells #[x] t)).cell? ((⟨w.heap.size, 0, none⟩ : Addr).add j) = some v := by
  intro j v h
  have hj : j = 0 := by
    have := (List.getElem?_eq_some_iff.1 h).1
    simpa using this
  subst hj
  simp at h
  subst h
  go_simp
theorem quoted_end {l : List UInt8} {k : Nat} {acc : List UInt8} (h : QuotedAt l k acc) (hk : l.length ≤ k) : quotedL l.tail = none := by
  unfold QuotedAt at h
  rw [h, List.drop_of_length_le hk]; rfl

theorem u8_lit (n : Nat) (hn : n < 256) (c : UInt8) : ((c.toNat : Int) == (n : Int)) = decide (c = UInt8.ofNat n) := by
  rw [u8_eq_num hn, Bool.eq_iff_iff, beq_iff_eq, decide_eq_true_eq]

theorem esc_index (d : UInt8) : (∃ (n : Nat) (u : UInt8), n < 3 ∧ Lib.indexByte (⟨#[34, 92, 110]⟩ : ByteArray).data.toList ((d.toNat : Int)).toNat.toUInt8 = (n : Int) ∧ unescape d = some u ∧ (n = 0 ∧ u = 34 ∨ n = 1 ∧ u = 92 ∨ n = 2 ∧ u = 10)) ∨
    (Lib.indexByte (⟨#[34, 92, 110]⟩ : ByteArray).data.toList ((d.toNat : Int)).toNat.toUInt8 = -1 ∧ unescape d = none) := by
  have hd : ((d.toNat : Int)).toNat.toUInt8 = d := by simp
  rw [hd]
  by_cases h1 : d = 34
  · subst h1; exact .inl ⟨0, 34, by omega, by decide, by decide, .inl ⟨rfl, rfl⟩⟩
  by_cases h2 : d = 92
  · subst h2; exact .inl ⟨1, 92, by omega, by decide, by decide, .inr (.inl ⟨rfl, rfl⟩)⟩
  by_cases h3 : d = 110
  · subst h3; exact .inl ⟨2, 10, by omega, by decide, by decide, .inr (.inr ⟨rfl, rfl⟩)⟩
  refine .inr ⟨?_, by simp [unescape, h1, h2, h3]⟩
  have g1 : (34 == d) = false := by simp; exact fun h => h1 h.symm
  have g2 : (92 == d) = false := by simp; exact fun h => h2 h.symm
  have g3 : (110 == d) = false := by simp; exact fun h => h3 h.symm
  show Lib.indexByte [34, 92, 110] d = -1
  simp [Lib.indexByte, g1, g2, g3]

set_option maxRecDepth 100000 in
set_option maxHeartbeats 2000000 in
theorem quoted_any (s : ByteArray) (w : World) (hs : s.size ≤ 65536) (h1 : 1 ≤ s.size) :
    Calls Tryz.prog 148 #[.string s] w (PQuoted (quotedL s.data.toList.tail) w) := by
  obtain ⟨i0, hi, hz0, hz1, hz2⟩ := info_parts infoU8
  go_enter Tryz.func148, Tryz.ntmps148
  go_wp2_with fail
  go_loopw [4, 5] (fun v i wr => ∃ (k : Nat) (acc : List UInt8) (v' : Value), v = v' ∧ i = .int .i64 k ∧ 1 ≤ k ∧ k ≤ s.size ∧ acc.length ≤ k ∧ Hid (OwnB wr w.heap.size v' acc) ∧ Below w.heap.size w wr ∧ Hid (QuotedAt s.data.toList k acc)) (fun _ i _ => s.size - (intOf i).toNat)
  case atStart => exact ⟨1, [], _, rfl, rfl, Nat.le_refl _, h1, by simp, Lib.hid (OwnB.nil _ _), Below.refl _ _, Lib.hid (by unfold QuotedAt; simp)⟩
  case round =>
    obtain ⟨k, acc, v, hv, rfl, hk1, hk, hal, hown, hb, hq⟩ := hrel
    have hv := hv.symm
    subst hv
    by_cases hlt : k < s.size
    · have hst := quoted_step hq.out hk1 (get_data s k hlt)
      generalize hc : s[k] = c at hst
      by_cases e34 : c = 34
      · have Hr := Lib.hid (hst.1 e34)
        have Hown := Lib.hid hown.out.convert
        have t1 : (((s[k]).toNat : Int) == 34) = true := by rw [hc, e34]; rfl
        clear hst hc hq hown e34
        have hcv := Hown.out
        go_wp2_with fail
        go_ret2
        rw [Hr.out]
        exact ⟨hb, _, by simp, rfl⟩
      have t1 : (((s[k]).toNat : Int) == 34) = false := by rw [hc]; exact (u8_lit 34 (by omega) c).trans (by simp [e34])
      by_cases ectl : c < 32 ∨ c = 127
      · have Hr := Lib.hid (hst.2.1 ⟨e34, ectl⟩)
        have t2 : decide ((((s[k]).toNat : Int)) < 32) = true ∨ (decide ((((s[k]).toNat : Int)) < 32) = false ∧ (((s[k]).toNat : Int) == 127) = true) := by
          rw [hc]
          by_cases h : c < 32
          · left; rw [UInt8.lt_iff_toNat_lt] at h; exact decide_eq_true (by have : c.toNat < 32 := h; omega)
          · right
            rcases ectl with h' | h'
            · exact absurd h' h
            · rw [h']; exact ⟨rfl, rfl⟩
        clear hst hc hq hown e34 ectl
        rcases t2 with t2 | ⟨t2, t3⟩
        all_goals
          go_wp2_with fail
          go_ret2
          rw [Hr.out]
          exact ⟨hb, rfl⟩
      have hn32 : 32 ≤ c.toNat := by
        have h : ¬ c < 32 := fun h => ectl (.inl h)
        rw [UInt8.lt_iff_toNat_lt] at h
        exact Nat.le_of_not_lt h
      have t2 : decide ((((s[k]).toNat : Int)) < 32) = false := by rw [hc]; simp; omega
      have t3 : (((s[k]).toNat : Int) == 127) = false := by rw [hc]; exact (u8_lit 127 (by omega) c).trans (by simp; exact fun h => ectl (.inr h))
      by_cases e92 : c = 92
      · obtain ⟨he1, he2⟩ := hst.2.2.2 e92
        have t4 : (((s[k]).toNat : Int) == 92) = true := by rw [hc, e92]; rfl
        by_cases hk2 : k + 1 < s.size
        · obtain ⟨hu1, hu2⟩ := he2 _ (get_data s (k + 1) hk2)
          have hk2' : (k : Int) + 1 < s.size := by omega
          generalize hdd : s[k + 1] = d at hu1 hu2
          clear hst hc e34 ectl e92 he1 he2 hn32
          have Hown := Lib.hid hown.out
          have Hdd := Lib.hid hdd
          clear hown hdd hq
          go_wp2_with fail
          refine (Tryz.strings_IndexByte _ _ _).mono ?_
          rintro e w2 ⟨rfl, hw2⟩
          have hw2 := hw2.symm
          subst hw2
          rw [Hdd.out]
          rcases esc_index d with ⟨n, u, hn, hix, hun, hcase⟩ | ⟨hix, hun⟩
          · rw [hix]
            have Hq := Lib.hid (hu2 u hun)
            clear hix hun hu1 hu2 Hdd
            rcases hcase with ⟨rfl, rfl⟩ | ⟨rfl, rfl⟩ | ⟨rfl, rfl⟩
            · have hle2 : k + 2 ≤ s.size := by omega
              clear hk2'
              go_wp2_with (at_builtin; refine wpList_append_own _ rfl _ _ 215 rfl w.heap.size 5 i0 (.int .u8 0) 1 1 Tryz.underlying215 hi hz0 hz1 hz2 rfl (by decide) _ _ _ rfl (Hown.out.alloc _) ⟨wr.heap.size, 0, none⟩ 1 1 [.int .u8 34] rfl rfl ?_ ?_ ?_ ?_ ?_ ?_)
              · exact lit_cell' _ _ _
              · simp [Value.oneCell']
              · unfold maxLen; omega
              · omega
              · have := hb.size; simp; omega
              intro v3 w3 hown3 hgrow3 _
              have Hown3 : Hid (OwnB w3 w.heap.size v3 (acc ++ [34])) := Lib.hid (by unfold OwnB; rw [List.length_append, List.map_append]; exact hown3)
              have hb3 : Below w.heap.size w w3 := (hb.alloc hb.size _).grown hgrow3 (by have := hb.size; simp; omega) (fun g hg => (Hown.out.lt g hg).1)
              clear hown3 hgrow3
              go_wp2_with fail
              go_roundw
              case rel => exact ⟨k + 2, acc ++ [34], _, rfl, by go_num, by omega, by omega, by simp; omega, Hown3, hb3, Hq⟩
              case measure => simp only [intOf]; omega
            · have hle2 : k + 2 ≤ s.size := by omega
              clear hk2'
              go_wp2_with (at_builtin; refine wpList_append_own _ rfl _ _ 215 rfl w.heap.size 5 i0 (.int .u8 0) 1 1 Tryz.underlying215 hi hz0 hz1 hz2 rfl (by decide) _ _ _ rfl (Hown.out.alloc _) ⟨wr.heap.size, 0, none⟩ 1 1 [.int .u8 92] rfl rfl ?_ ?_ ?_ ?_ ?_ ?_)
              · exact lit_cell' _ _ _
              · simp [Value.oneCell']
              · unfold maxLen; omega
              · omega
              · have := hb.size; simp; omega
              intro v3 w3 hown3 hgrow3 _
              have Hown3 : Hid (OwnB w3 w.heap.size v3 (acc ++ [92])) := Lib.hid (by unfold OwnB; rw [List.length_append, List.map_append]; exact hown3)
              have hb3 : Below w.heap.size w w3 := (hb.alloc hb.size _).grown hgrow3 (by have := hb.size; simp; omega) (fun g hg => (Hown.out.lt g hg).1)
              clear hown3 hgrow3
              go_wp2_with fail
              go_roundw
              case rel => exact ⟨k + 2, acc ++ [92], _, rfl, by go_num, by omega, by omega, by simp; omega, Hown3, hb3, Hq⟩
              case measure => simp only [intOf]; omega
            · have hle2 : k + 2 ≤ s.size := by omega
              clear hk2'
              go_wp2_with (at_builtin; refine wpList_append_own _ rfl _ _ 215 rfl w.heap.size 5 i0 (.int .u8 0) 1 1 Tryz.underlying215 hi hz0 hz1 hz2 rfl (by decide) _ _ _ rfl (Hown.out.alloc _) ⟨wr.heap.size, 0, none⟩ 1 1 [.int .u8 10] rfl rfl ?_ ?_ ?_ ?_ ?_ ?_)
              · exact lit_cell' _ _ _
              · simp [Value.oneCell']
              · unfold maxLen; omega
              · omega
              · have := hb.size; simp; omega
              intro v3 w3 hown3 hgrow3 _
              have Hown3 : Hid (OwnB w3 w.heap.size v3 (acc ++ [10])) := Lib.hid (by unfold OwnB; rw [List.length_append, List.map_append]; exact hown3)
              have hb3 : Below w.heap.size w w3 := (hb.alloc hb.size _).grown hgrow3 (by have := hb.size; simp; omega) (fun g hg => (Hown.out.lt g hg).1)
              clear hown3 hgrow3
              go_wp2_with fail
              go_roundw
              case rel => exact ⟨k + 2, acc ++ [10], _, rfl, by go_num, by omega, by omega, by simp; omega, Hown3, hb3, Hq⟩
              case measure => simp only [intOf]; omega
          · rw [hix]
            have Hr := Lib.hid (hu1 hun)
            clear hix hun hu1 hu2 Hdd
            go_wp2_with fail
            go_ret2
            rw [Hr.out]
            exact ⟨hb, rfl⟩
        · have Hr := Lib.hid (he1 (by rw [len_data]; omega))
          have hk2' : ¬ (k : Int) + 1 < s.size := by omega
          clear hst hc hq hown e34 ectl e92 he1 he2
          go_wp2_with fail
          go_ret2
          rw [Hr.out]
          exact ⟨hb, rfl⟩
      · have Hq := Lib.hid (hst.2.2.1 ⟨e34, ectl, e92⟩)
        have t4 : (((s[k]).toNat : Int) == 92) = false := by rw [hc]; exact (u8_lit 92 (by omega) c).trans (by simp [e92])
        have Hc := Lib.hid hc
        clear hst hc hq e34 ectl e92
        have Hown := Lib.hid hown.out
        clear hown
        go_wp2_with (at_builtin; refine wpList_append_own _ rfl _ _ 215 rfl w.heap.size 5 i0 (.int .u8 0) 1 1 Tryz.underlying215 hi hz0 hz1 hz2 rfl (by decide) _ _ _ rfl (Hown.out.alloc _) ⟨wr.heap.size, 0, none⟩ 1 1 [.int .u8 (s[k]).toNat] rfl rfl ?c1 ?c2 ?c3 ?c4 ?c5 ?_)
        case c2 => simp [Value.oneCell']
        case c3 => unfold maxLen; omega
        case c4 => omega
        case c5 => have := hb.size; simp; omega
        intro v3 w3 hown3 hgrow3 _
        have Hown3 : Hid (OwnB w3 w.heap.size v3 (acc ++ [c])) := Lib.hid (by unfold OwnB; rw [List.length_append, List.map_append, ← Hc.out]; exact hown3)
        have hb3 : Below w.heap.size w w3 := (hb.alloc hb.size _).grown hgrow3 (by have := hb.size; simp; omega) (fun g hg => (Hown.out.lt g hg).1)
        clear hown3 hgrow3
        go_wp2_with fail
        go_roundw
        case rel => exact ⟨k + 1, acc ++ [c], _, rfl, by go_num, by omega, by omega, by simp; omega, Hown3, hb3, Hq⟩
        case measure => simp only [intOf]; omega
    · have Hr := Lib.hid (quoted_end hq.out (by rw [len_data]; omega))
      clear hq hown
      go_wp2_with fail
      go_ret2
      rw [Hr.out]
      exact ⟨hb, rfl⟩
end Go.Proofs.YthknljeffpbbmaaGreatDoor
