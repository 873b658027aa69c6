/-
  The walk of the reference's Insert: a text, where it stands among rising ones, once.
-/
import Derived.Test.YtabobdmgjmgifaaDoorRefParts
import Derived.Sort.Walk0
namespace Go.Proofs.YtabobdmgjmgifaaDoor
open Go Go.RowKit

/-- What Insert appends yet: dn tells whether the text itself is in. -/
def insL (s : ByteArray) : Bool → List ByteArray → List ByteArray
  | dn, [] => if dn then [] else [s]
  | dn, x :: t => (if !dn && !Op.bytesLess x.toList s.toList then [s] else []) ++ ((if x.toList == s.toList then [] else [x]) ++ insL s (dn || !Op.bytesLess x.toList s.toList) t)

def POwn (l : List ByteArray) (w : World) (e : Ending) (w' : World) : Prop := ∃ v, e = .returned v ∧ OwnS w' w.heap.size v l ∧ Below w.heap.size w w'

theorem lit_cell (w : World) (t : TypeId) (x : Value) : ∀ (j : Nat) (v : Value), [x][j]? = some v → (w.alloc (.cells #[x] t)).cell? ((⟨w.heap.size, 0, none⟩ : Addr).add j) = some v := by
  intro j v h
  cases j with
  | zero =>
    simp only [List.getElem?_cons_zero, Option.some.injEq] at h
    subst h
    go_simp
  | succ j => simp at h

theorem less_ne {x s : ByteArray} (h : Op.bytesLess x.toList s.toList = true) : (x.toList == s.toList) = false := by
  rw [beq_eq_false_iff_ne]
  intro e
  rw [e, Go.Proofs.bytesLess_eq, decide_eq_true_eq] at h
  exact List.lt_irrefl _ h

set_option maxRecDepth 100000 in
set_option maxHeartbeats 4000000 in
theorem insert_any (a : Option Addr) (cap : Nat) (l : List ByteArray) (s : ByteArray) (w : World) (hl : l.length ≤ 1000) (hat : StrsAt w a l) :
    Calls Tryd.prog 44 #[.slice a l.length cap, .string s] w (POwn (insL s false l) w) := by
  obtain ⟨i0, hi, hz0, hz1, hz2⟩ := info_parts infoStr
  have Hat := Lib.hid hat
  clear hat
  go_enter Tryd.func44, Tryd.ntmps44
  go_wp2_with fail
  go_loopw [5, 6, 12] (fun v d i wr => ∃ (k : Nat) (o : List ByteArray) (v' : Value) (dn : Bool), v = v' ∧ d = .bool dn ∧ i = .int .i64 k ∧ k ≤ l.length ∧ o.length ≤ 2 * k ∧ OwnS wr w.heap.size v' o ∧ Below w.heap.size w wr ∧ Hid (o ++ insL s dn (l.drop k) = insL s false l)) (fun _ _ i _ => l.length - (intOf i).toNat)
  case atStart =>
    refine ⟨0, [], _, false, rfl, rfl, rfl, Nat.zero_le _, Nat.zero_le _, ?_, (Below.refl _ w).alloc (Nat.le_refl _) _, Lib.hid rfl⟩
    exact World.ownsRow_lit (base := w.heap.size) (size := 1) w #[] 0 (Nat.le_refl _) (by decide) rfl
  case round =>
    obtain ⟨k, o, v, dn, hv, rfl, rfl, hk, ho, hown, hb, hO⟩ := hrel
    have hv := hv.symm
    subst hv
    have Hown := Lib.hid hown
    clear hown
    by_cases hlt : k < l.length
    · have Hd : Hid (l.drop k = l[k] :: l.drop (k + 1)) := Lib.hid (List.drop_eq_getElem_cons hlt)
      obtain ⟨b, off, hbb, hc⟩ := (Hat.out.below hb).at hlt
      subst hbb
      generalize l[k] = x at Hd hc
      cases hls : Op.bytesLess x.toList s.toList
      · cases heq : (x.toList == s.toList)
        · cases dn
          · have HN : Hid (((o ++ [s]) ++ [x]) ++ insL s true (l.drop (k + 1)) = insL s false l) := Lib.hid (by rw [← hO.out, Hd.out, insL, hls, heq]; simp)
            go_wp2_with (at_builtin; refine wpList_append_own _ rfl _ _ 28 rfl w.heap.size 9 i0 (.string ByteArray.empty) 1 16 Tryd.underlying28 hi hz0 hz1 hz2 rfl (by decide) _ _ _ rfl (Hown.out.alloc _) ⟨wr.heap.size, 0, none⟩ 1 1 [.string s] rfl rfl (lit_cell _ _ _) ?c2 ?c3 ?c4 ?c5 ?_)
            case c2 => simp [Value.oneCell']
            case c3 =>
              have hla : (o ++ [s]).length = o.length + 1 := by simp
              unfold maxLen; omega
            case c4 =>
              have hla : (o ++ [s]).length = o.length + 1 := by simp
              omega
            case c5 => have := hb.size; simp; omega
            intro v1 w1 hown1 hgrow1 _
            have Hown1 : Hid (OwnS w1 w.heap.size v1 (o ++ [s])) := Lib.hid (by unfold OwnS; simpa [List.length_append, List.map_append, Nat.add_assoc] using hown1)
            have hb1 : Below w.heap.size w w1 := (hb.alloc hb.size _).grown hgrow1 (by have := hb.size; simp; omega) (fun g hg => (Hown.out.lt g hg).1)
            clear hown1 hgrow1
            go_wp2_with (at_builtin; refine wpList_append_own _ rfl _ _ 28 rfl w.heap.size 9 i0 (.string ByteArray.empty) 1 16 Tryd.underlying28 hi hz0 hz1 hz2 rfl (by decide) _ _ _ rfl (Hown1.out.alloc _) ⟨w1.heap.size, 0, none⟩ 1 1 [.string x] rfl rfl (lit_cell _ _ _) ?c2 ?c3 ?c4 ?c5 ?_)
            case c2 => simp [Value.oneCell']
            case c3 =>
              have hla : (o ++ [s]).length = o.length + 1 := by simp
              unfold maxLen; omega
            case c4 =>
              have hla : (o ++ [s]).length = o.length + 1 := by simp
              omega
            case c5 => have := hb1.size; simp; omega
            intro v2 w2 hown2 hgrow2 _
            have Hown2 : Hid (OwnS w2 w.heap.size v2 ((o ++ [s]) ++ [x])) := Lib.hid (by unfold OwnS; simpa [List.length_append, List.map_append, Nat.add_assoc] using hown2)
            have hb2 : Below w.heap.size w w2 := (hb1.alloc hb1.size _).grown hgrow2 (by have := hb1.size; simp; omega) (fun g hg => (Hown1.out.lt g hg).1)
            clear hown2 hgrow2
            go_wp2_with fail
            go_roundw
            case rel => exact ⟨k + 1, ((o ++ [s]) ++ [x]), _, true, rfl, rfl, by go_num, by omega, by (try simp only [List.length_append, List.length_cons, List.length_nil]); omega, Hown2.out, hb2, HN⟩
            case measure => simp only [intOf]; omega
          · have HN : Hid ((o ++ [x]) ++ insL s true (l.drop (k + 1)) = insL s false l) := Lib.hid (by rw [← hO.out, Hd.out, insL, hls, heq]; simp)
            go_wp2_with (at_builtin; refine wpList_append_own _ rfl _ _ 28 rfl w.heap.size 9 i0 (.string ByteArray.empty) 1 16 Tryd.underlying28 hi hz0 hz1 hz2 rfl (by decide) _ _ _ rfl (Hown.out.alloc _) ⟨wr.heap.size, 0, none⟩ 1 1 [.string x] rfl rfl (lit_cell _ _ _) ?c2 ?c3 ?c4 ?c5 ?_)
            case c2 => simp [Value.oneCell']
            case c3 =>
              have hla : (o ++ [s]).length = o.length + 1 := by simp
              unfold maxLen; omega
            case c4 =>
              have hla : (o ++ [s]).length = o.length + 1 := by simp
              omega
            case c5 => have := hb.size; simp; omega
            intro v2 w2 hown2 hgrow2 _
            have Hown2 : Hid (OwnS w2 w.heap.size v2 (o ++ [x])) := Lib.hid (by unfold OwnS; simpa [List.length_append, List.map_append, Nat.add_assoc] using hown2)
            have hb2 : Below w.heap.size w w2 := (hb.alloc hb.size _).grown hgrow2 (by have := hb.size; simp; omega) (fun g hg => (Hown.out.lt g hg).1)
            clear hown2 hgrow2
            go_wp2_with fail
            go_roundw
            case rel => exact ⟨k + 1, (o ++ [x]), _, true, rfl, rfl, by go_num, by omega, by (try simp only [List.length_append, List.length_cons, List.length_nil]); omega, Hown2.out, hb2, HN⟩
            case measure => simp only [intOf]; omega
        · cases dn
          · have HN : Hid ((o ++ [s]) ++ insL s true (l.drop (k + 1)) = insL s false l) := Lib.hid (by rw [← hO.out, Hd.out, insL, hls, heq]; simp)
            go_wp2_with (at_builtin; refine wpList_append_own _ rfl _ _ 28 rfl w.heap.size 9 i0 (.string ByteArray.empty) 1 16 Tryd.underlying28 hi hz0 hz1 hz2 rfl (by decide) _ _ _ rfl (Hown.out.alloc _) ⟨wr.heap.size, 0, none⟩ 1 1 [.string s] rfl rfl (lit_cell _ _ _) ?c2 ?c3 ?c4 ?c5 ?_)
            case c2 => simp [Value.oneCell']
            case c3 =>
              have hla : (o ++ [s]).length = o.length + 1 := by simp
              unfold maxLen; omega
            case c4 =>
              have hla : (o ++ [s]).length = o.length + 1 := by simp
              omega
            case c5 => have := hb.size; simp; omega
            intro v1 w1 hown1 hgrow1 _
            have Hown1 : Hid (OwnS w1 w.heap.size v1 (o ++ [s])) := Lib.hid (by unfold OwnS; simpa [List.length_append, List.map_append, Nat.add_assoc] using hown1)
            have hb1 : Below w.heap.size w w1 := (hb.alloc hb.size _).grown hgrow1 (by have := hb.size; simp; omega) (fun g hg => (Hown.out.lt g hg).1)
            clear hown1 hgrow1
            go_wp2_with fail
            go_roundw
            case rel => exact ⟨k + 1, (o ++ [s]), _, true, rfl, rfl, by go_num, by omega, by (try simp only [List.length_append, List.length_cons, List.length_nil]); omega, Hown1.out, hb1, HN⟩
            case measure => simp only [intOf]; omega
          · have HN : Hid (o ++ insL s true (l.drop (k + 1)) = insL s false l) := Lib.hid (by rw [← hO.out, Hd.out, insL, hls, heq]; simp)
            go_wp2_with fail
            go_roundw
            case rel => exact ⟨k + 1, o, _, true, rfl, rfl, by go_num, by omega, by (try simp only [List.length_append, List.length_cons, List.length_nil]); omega, Hown.out, hb, HN⟩
            case measure => simp only [intOf]; omega
      · have heq := less_ne hls
        cases dn
        · have HN : Hid ((o ++ [x]) ++ insL s false (l.drop (k + 1)) = insL s false l) := Lib.hid (by rw [← hO.out, Hd.out, insL, hls, heq]; simp)
          go_wp2_with (at_builtin; refine wpList_append_own _ rfl _ _ 28 rfl w.heap.size 9 i0 (.string ByteArray.empty) 1 16 Tryd.underlying28 hi hz0 hz1 hz2 rfl (by decide) _ _ _ rfl (Hown.out.alloc _) ⟨wr.heap.size, 0, none⟩ 1 1 [.string x] rfl rfl (lit_cell _ _ _) ?c2 ?c3 ?c4 ?c5 ?_)
          case c2 => simp [Value.oneCell']
          case c3 =>
            have hla : (o ++ [s]).length = o.length + 1 := by simp
            unfold maxLen; omega
          case c4 =>
            have hla : (o ++ [s]).length = o.length + 1 := by simp
            omega
          case c5 => have := hb.size; simp; omega
          intro v2 w2 hown2 hgrow2 _
          have Hown2 : Hid (OwnS w2 w.heap.size v2 (o ++ [x])) := Lib.hid (by unfold OwnS; simpa [List.length_append, List.map_append, Nat.add_assoc] using hown2)
          have hb2 : Below w.heap.size w w2 := (hb.alloc hb.size _).grown hgrow2 (by have := hb.size; simp; omega) (fun g hg => (Hown.out.lt g hg).1)
          clear hown2 hgrow2
          go_wp2_with fail
          go_roundw
          case rel => exact ⟨k + 1, (o ++ [x]), _, false, rfl, rfl, by go_num, by omega, by (try simp only [List.length_append, List.length_cons, List.length_nil]); omega, Hown2.out, hb2, HN⟩
          case measure => simp only [intOf]; omega
        · have HN : Hid ((o ++ [x]) ++ insL s true (l.drop (k + 1)) = insL s false l) := Lib.hid (by rw [← hO.out, Hd.out, insL, hls, heq]; simp)
          go_wp2_with (at_builtin; refine wpList_append_own _ rfl _ _ 28 rfl w.heap.size 9 i0 (.string ByteArray.empty) 1 16 Tryd.underlying28 hi hz0 hz1 hz2 rfl (by decide) _ _ _ rfl (Hown.out.alloc _) ⟨wr.heap.size, 0, none⟩ 1 1 [.string x] rfl rfl (lit_cell _ _ _) ?c2 ?c3 ?c4 ?c5 ?_)
          case c2 => simp [Value.oneCell']
          case c3 =>
            have hla : (o ++ [s]).length = o.length + 1 := by simp
            unfold maxLen; omega
          case c4 =>
            have hla : (o ++ [s]).length = o.length + 1 := by simp
            omega
          case c5 => have := hb.size; simp; omega
          intro v2 w2 hown2 hgrow2 _
          have Hown2 : Hid (OwnS w2 w.heap.size v2 (o ++ [x])) := Lib.hid (by unfold OwnS; simpa [List.length_append, List.map_append, Nat.add_assoc] using hown2)
          have hb2 : Below w.heap.size w w2 := (hb.alloc hb.size _).grown hgrow2 (by have := hb.size; simp; omega) (fun g hg => (Hown.out.lt g hg).1)
          clear hown2 hgrow2
          go_wp2_with fail
          go_roundw
          case rel => exact ⟨k + 1, (o ++ [x]), _, true, rfl, rfl, by go_num, by omega, by (try simp only [List.length_append, List.length_cons, List.length_nil]); omega, Hown2.out, hb2, HN⟩
          case measure => simp only [intOf]; omega
    · have Hd : Hid (l.drop k = []) := Lib.hid (List.drop_of_length_le (by omega))
      cases dn
      · have HN : Hid (o ++ [s] = insL s false l) := Lib.hid (by rw [← hO.out, Hd.out]; rfl)
        go_wp2_with (at_builtin; refine wpList_append_own _ rfl _ _ 28 rfl w.heap.size 9 i0 (.string ByteArray.empty) 1 16 Tryd.underlying28 hi hz0 hz1 hz2 rfl (by decide) _ _ _ rfl (Hown.out.alloc _) ⟨wr.heap.size, 0, none⟩ 1 1 [.string s] rfl rfl (lit_cell _ _ _) ?c2 ?c3 ?c4 ?c5 ?_)
        case c2 => simp [Value.oneCell']
        case c3 =>
          have hla : (o ++ [s]).length = o.length + 1 := by simp
          unfold maxLen; omega
        case c4 =>
          have hla : (o ++ [s]).length = o.length + 1 := by simp
          omega
        case c5 => have := hb.size; simp; omega
        intro v1 w1 hown1 hgrow1 _
        have Hown1 : Hid (OwnS w1 w.heap.size v1 (o ++ [s])) := Lib.hid (by unfold OwnS; simpa [List.length_append, List.map_append, Nat.add_assoc] using hown1)
        have hb1 : Below w.heap.size w w1 := (hb.alloc hb.size _).grown hgrow1 (by have := hb.size; simp; omega) (fun g hg => (Hown.out.lt g hg).1)
        clear hown1 hgrow1
        go_wp2_with fail
        go_ret
        exact ⟨_, rfl, by have := Hown1.out; rwa [HN.out] at this, hb1⟩
      · have HN : Hid (o = insL s false l) := Lib.hid (by rw [← hO.out, Hd.out]; simp [insL])
        go_wp2_with fail
        go_ret
        exact ⟨_, rfl, by have := Hown.out; rwa [HN.out] at this, hb⟩
end Go.Proofs.YtabobdmgjmgifaaDoor
