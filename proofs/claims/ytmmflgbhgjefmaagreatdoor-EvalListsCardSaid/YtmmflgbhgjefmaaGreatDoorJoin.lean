/-
  The walk of the plain host's join, where what is joined isn't too long.
-/
import Derived.Test.YtmmflgbhgjefmaaGreatDoorMTexts
import Derived.Test.YtmmflgbhgjefmaaGreatDoorListsPlain
import Derived.Test.YtmmflgbhgjefmaaGreatDoorShelf
namespace Go.Proofs.YtmmflgbhgjefmaaGreatDoor
open Go Go.RowKit

def sumS (l : List ByteArray) : Nat := (l.map ByteArray.size).sum
theorem sumS_take (l : List ByteArray) (j : Nat) (h : j < l.length) : sumS (l.take (j + 1)) = sumS (l.take j) + l[j].size := by
  unfold sumS
  rw [List.take_add_one, List.getElem?_eq_getElem h, Option.toList_some, List.map_append, List.sum_append]
  simp
theorem sumS_le (l : List ByteArray) (j : Nat) : sumS (l.take j) ≤ sumS l := by
  unfold sumS
  conv => rhs; rw [← List.take_append_drop j l, List.map_append, List.sum_append]
  omega
def joinB (l : List ByteArray) (sep : ByteArray) : ByteArray := ⟨(Lib.join (l.map (·.data.toList)) sep.data.toList).toArray⟩
theorem joinB_size (l : List ByteArray) (sep : ByteArray) : (joinB l sep).size = (l.length - 1) * sep.size + sumS l := by
  have h := join_len sep.data.toList (l.map (·.data.toList))
  rw [List.length_map, List.map_map, len_data] at h
  show (Lib.join (l.map (·.data.toList)) sep.data.toList).toArray.size = _
  rw [List.size_toArray, h]
  unfold sumS
  congr 2

/-- strings.Join at a row of texts. -/
theorem joinS_any (a : Option Addr) (cap : Nat) (ts : List ByteArray) (sep : ByteArray) (w : World) (hst : StrsAt w a ts) (hcap : ts.length ≤ cap) (hlen : ts.length ≤ 1000) (hsz : (joinB ts sep).size ≤ 140737488355328) :
    Calls Tryz.prog 217 #[.slice a ts.length cap, .string sep] w (fun e w' => e = .returned (.string (joinB ts sep)) ∧ Below w.heap.size w w') := by
  cases ts with
  | nil =>
    refine (Tryz.strings_Join_none a cap sep w).mono ?_
    rintro e w' ⟨rfl, hw⟩
    rw [hw]
    exact ⟨rfl, Below.refl _ _⟩
  | cons x r =>
    obtain ⟨b, off, rfl, hc⟩ := hst 0 x rfl
    refine Tryz.strings_Join b off cap (x :: r) sep w (fun j y hj => ?_) ?_ (by omega) hcap hsz
    · obtain ⟨b', off', he, h⟩ := hst j y hj
      cases he
      exact h
    · exact block_of_cell hc

set_option maxRecDepth 100000 in
set_option maxHeartbeats 2000000 in
theorem join_fits (F : Nat → Prop) (n n' : Int) (s s' : ByteArray) (l : List Vl) (ks : List ByteArray) (ts : List ByteArray) (a : Option Addr) (cap : Nat) (w : World) (hF : ∀ b, F b → b < w.heap.size) (hr : RowAt F w a (valsD [.mk 3 n s [] [], .mk 4 n' s' l ks]))
    (hs : smallV (.mk 4 n' s' l ks)) (ht : textsL (.mk 4 n' s' l ks) = some ts) (hlen : ts.length ≤ 1000) (hfit : (ts.length - 1) * s.size + sumS ts ≤ 65536) :
    Calls Tryz.prog 205 #[.slice a 2 cap] w (PCall (.ok (strVl (joinB ts s))) w) := by
  obtain ⟨b, off, a1, c1, a2, c2, rfl, -, hbl, q0, q1, q2, q3, q4, -, -⟩ := hr.val (j := 0) rfl
  obtain ⟨b', off', a3, c3, a4, c4, he, -, -, r0, r1, r2, r3, r4, hv1, hv2⟩ := hr.val (j := 1) rfl
  cases he
  simp only [Nat.zero_mul, Nat.add_zero, Nat.one_mul] at q0 q1 q2 q3 q4 r0 r1 r2 r3 r4
  have hb0 : Below w.heap.size w (w.alloc (.cells #[.int .i64 0, .int .i64 0, .string ⟨#[]⟩, .slice none 0 0, .slice none 0 0] 31)) := (Below.refl _ w).alloc (Nat.le_refl _) _
  have Hc := Lib.hid (texts_any 4 n' s' l ks hs F a3 c3 a4 c4 _ (fun b hb => Nat.lt_of_lt_of_le (hF b hb) hb0.size) (hv1.below hb0) (hv2.below hb0))
  have Hb0 := Lib.hid (And.intro (heap_alloc_new w (.cells #[.int .i64 0, .int .i64 0, .string ⟨#[]⟩, .slice none 0 0, .slice none 0 0] 31)) hb0)
  have Ht := Lib.hid ht
  have Hr := Lib.hid hr
  clear hv1 hv2 hb0 ht hr hF hs
  go_enter Tryz.func205, Tryz.ntmps205
  go_wp2_with fail
  refine Hc.out.mono ?_
  rintro e w1 ⟨hb1, hq⟩
  rw [Ht.out] at hq
  obtain ⟨x, rfl, hown⟩ := hq
  obtain ⟨aT, cT, rfl, hst, hcap⟩ := hown.strsAt
  have Hst := Lib.hid hst
  have hb01 : Below w.heap.size w w1 := Hb0.out.2.trans (hb1.mono Hb0.out.2.size)
  have hres := stays Hb0.out.1 hb1
  have Hres := Lib.hid hres
  have q0 := (hb01.cell (p := ⟨b, off, none⟩) hbl).trans q0
  have q2 := (hb01.cell (p := ⟨b, off + 2, none⟩) hbl).trans q2
  have Hb01 := Lib.hid hb01
  clear hst hb1 hb01 hown Hc Hb0 q1 q3 q4 r0 r1 r2 r3 r4 hres
  go_wp2_with fail
  have hm : max (0 : Int) ((ts.length : Int) - 1) = ((ts.length - 1 : Nat) : Int) := by omega
  have hw : wrap64 ((s.size : Int) * max 0 ((ts.length : Int) - 1)) = (((ts.length - 1) * s.size : Nat) : Int) := by
    rw [hm, Int.mul_comm, ← Int.natCast_mul]
    exact IntWalk.wrap64_in _ ⟨by omega, by omega⟩
  rw [hw]
  clear hm hw
  generalize hn0 : (ts.length - 1) * s.size = n0 at hfit ⊢
  go_loop [6, 38] (fun m i => ∃ j : Nat, i = .int .i64 j ∧ j ≤ ts.length ∧ m = .int .i64 ((n0 + sumS (ts.take j) : Nat) : Int)) (fun _ i => ts.length - (intOf i).toNat)
  case atStart => exact ⟨0, rfl, Nat.zero_le _, rfl⟩
  case round =>
    obtain ⟨j, rfl, hj, rfl⟩ := hrel
    by_cases hlt : j < ts.length
    · obtain ⟨bK, oK, hak, hck⟩ := Hst.out j _ (List.getElem?_eq_getElem hlt)
      subst hak
      have hs1 := sumS_take ts j hlt
      have hs2 := sumS_le ts (j + 1)
      generalize ts[j] = x at hck hs1
      go_wp2_with fail
      go_round
      case rel => exact ⟨j + 1, by go_num, by omega, by go_num⟩
      case measure => simp only [intOf]; omega
    · have hjl : ts.take j = ts := List.take_of_length_le (by omega)
      rw [hjl]
      have hng : ¬ (65536 : Int) < ((n0 + sumS ts : Nat) : Int) := by omega
      go_wp2_with fail
      have hjs : (joinB ts s).size ≤ 65536 := by rw [joinB_size, hn0]; exact hfit
      refine (joinS_any aT cT ts s _ Hst.out hcap hlen (by omega)).mono ?_
      rintro e w2 ⟨rfl, hb2⟩
      have Hres2 := Lib.hid (stays Hres.out hb2)
      have Hb02 := Lib.hid (Hb01.out.trans (hb2.mono Hb01.out.size))
      have hll : limitedL (joinB ts s) = .ok (strVl (joinB ts s)) := by unfold limitedL; rw [if_neg (by omega)]
      clear hb2 Hst Hres Hb01 q0 q2 hng hjl
      go_wp2_with fail
      refine (limited_any (joinB ts s) _ (by omega)).mono ?_
      rw [hll]
      rintro e w3 ⟨hb3, cs, rfl, hag⟩
      obtain ⟨z1, f1, z2, f2, rfl, -, -⟩ := hag.val
      have Hres3 := Lib.hid (stays Hres2.out hb3)
      have Hb03 := Lib.hid (Hb02.out.trans (hb3.mono Hb02.out.size))
      clear hag hb3 Hres2 Hb02 hll
      obtain ⟨p0, p1, p2, p3, p4, p5, p6, p7, p8, p9, p10⟩ := five_facts Hres3.out
      go_wp2_with fail
      have hend := res_set (Nat.le_refl _) Hb03.out Hres3.out (.int .i64 3) (.int .i64 0) (.string (joinB ts s)) (.slice z1 0 f1) (.slice z2 0 f2)
      generalize World.setCell _ _ _ = W9 at hend ⊢
      obtain ⟨p0, p1, p2, p3, p4, p5, p6, p7, p8, p9, p10⟩ := five_facts hend.1
      refine bodyPost_ret (v := .tuple #[.agg #[.int .i64 3, .int .i64 0, .string (joinB ts s), .slice z1 0 f1, .slice z2 0 f2], .int .i64 0]) (by simp [results, Tryz.results205, go_sem, p0, p1, p2, p3, p4, p5]) rfl ?_
      exact ⟨hend.2, _, rfl, AggAt.val_mk (l := []) (ks := []) _ _ _ _ _ (RowAt.nil _) (RowAt.nil _)⟩
end Go.Proofs.YtmmflgbhgjefmaaGreatDoor
