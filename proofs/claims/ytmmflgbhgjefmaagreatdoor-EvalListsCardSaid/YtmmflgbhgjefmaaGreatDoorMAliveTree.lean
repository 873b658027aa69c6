/-
  The walks of the evaluator's made, of value.plus and Op at two small numbers.
  The walk of pack.Int at a number of one or two digits; of value.plus and Op at two small numbers.
  The walks of value.plus and Op at two small numbers.
  How a method of the evaluator that hands back a value and a fault stands on its way: its boxes.
  The chapter's example, in plain words: its tree; what comes of it with 14 steps, and with 13.
-/
import Derived.Test.YtmmflgbhgjefmaaGreatDoorMTexts
import Derived.Test.YtmmflgbhgjefmaaGreatDoorMParseWa
import Derived.Test.YtmmflgbhgjefmaaGreatDoorShelf
namespace Go.Proofs.YtmmflgbhgjefmaaGreatDoor
open Go Go.RowKit

theorem below_set5 {B : Nat} {w W : World} (h : Below B w W) {b : Nat} (hb : B ≤ b) (v0 v1 v2 v3 v4 : Value) : Below B w (((((W.setCell ⟨b, 0, none⟩ v0).setCell ⟨b, 1, none⟩ v1).setCell ⟨b, 2, none⟩ v2).setCell ⟨b, 3, none⟩ v3).setCell ⟨b, 4, none⟩ v4) :=
  ((((h.setCell (p := ⟨b, 0, none⟩) hb _).setCell (p := ⟨b, 1, none⟩) hb _).setCell (p := ⟨b, 2, none⟩) hb _).setCell (p := ⟨b, 3, none⟩) hb _).setCell (p := ⟨b, 4, none⟩) hb _
def PMade (v : Vl) (cs : List Value) (l k : Int) (w : World) (e : Ending) (w' : World) : Prop :=
  Below w.heap.size w w' ∧ e = .returned (if checkV v then .tuple #[.agg cs.toArray, faultV 0 0 0] else badV 6 l k)
set_option maxRecDepth 100000 in
set_option maxHeartbeats 2000000 in
theorem made_any (v : Vl) (hs : smallV v) (F : Nat → Prop) (cs : List Value) (l k : Int) (w : World) (hF : ∀ b, F b → b < w.heap.size) (hc : AggAt F w (valD v) cs) :
    Calls Tryz.prog 106 #[.agg cs.toArray, .agg #[.int .i64 l, .int .i64 k]] w (PMade v cs l k w) := by
  obtain ⟨vk, vn, vs, vl, vks⟩ := v
  obtain ⟨a1, c1, a2, c2, rfl, hr1, hr2⟩ := hc.val
  have H0 := Lib.hid (alloc4 w (.cells #[.int .i64 vk, .int .i64 vn, .string vs, .slice a1 vl.length c1, .slice a2 vks.length c2] 31) (.cells #[.int .i64 l, .int .i64 k] 24) (.cells #[.int .i64 0, .int .i64 0, .string ⟨#[]⟩, .slice none 0 0, .slice none 0 0] 31) (.cells #[.int .i64 0, .int .i64 0, .int .i64 0] 89))
  have Hck := Lib.hid (check_any (.mk vk vn vs vl vks) hs F a1 c1 a2 c2 _ (fun b hb => Nat.lt_of_lt_of_le (hF b hb) H0.out.2.2.2.2.1.size) (hr1.below H0.out.2.2.2.2.1) (hr2.below H0.out.2.2.2.2.1))
  clear hc hr1 hr2 hF hs
  unfold vCells at Hck
  unfold PMade
  cases hck : checkV (.mk vk vn vs vl vks)
  · rw [hck] at Hck
    clear hck
    go_enter Tryz.func106, Tryz.ntmps106
    go_wp2_with fail
    refine Hck.out.mono ?_
    rintro e w1 ⟨rfl, hb1⟩
    go_upto_region 2 with fail
    have H1 := Lib.hid (And.intro (stays H0.out.2.1 hb1) (And.intro (stays H0.out.2.2.1 hb1) (And.intro (stays H0.out.2.2.2.1 hb1) (H0.out.2.2.2.2.1.trans (hb1.mono H0.out.2.2.2.2.1.size)))))
    clear hb1 Hck H0
    refine wp_region_turns (.s 0 (.s 1 (.s 2 (.h 3 (.h 4 .nil))))) 99 (fun W' => W'.heap[w.heap.size + 1]? = some (.cells #[.int .i64 l, .int .i64 k] 24 (0, 0))) (by kernel_rfl) (by kernel_rfl) (fun c a d v w h => by cases d <;> exact h) H1.out.1 ?_
    have hbd : Below w1.heap.size w1 w1.drew := (Below.refl _ w1).drew
    have H2 := Lib.hid (And.intro (stays H1.out.1 hbd) (And.intro (stays H1.out.2.1 hbd) (And.intro (stays H1.out.2.2.1 hbd) (H1.out.2.2.2.trans (hbd.mono H1.out.2.2.2.size)))))
    generalize w1.drew = Wd at H2 ⊢
    clear hbd H1
    refine turn_steady zeroV rfl rfl (fun W' hS => ?_) ?_
    · unfold zeroV
      go_simp
    try simp only [List.getElem_toArray, List.getElem_cons_succ, List.getElem_cons_zero, Act.put, List.setIfInBounds_toArray, List.set_cons_zero, List.set_cons_succ]
    refine turn_steady (.agg #[.int .i64 l, .int .i64 k]) rfl rfl (fun W' hS => ?_) ?_
    · obtain ⟨s0, s1, s2, s3, s4⟩ := two_facts hS
      clear hS
      go_simp
    try simp only [List.getElem_toArray, List.getElem_cons_succ, List.getElem_cons_zero, Act.put, List.setIfInBounds_toArray, List.set_cons_zero, List.set_cons_succ]
    refine turn_steady (faultV 6 l k) rfl rfl (fun W' hS => ?_) ?_
    · unfold faultV
      go_simp
    try simp only [List.getElem_toArray, List.getElem_cons_succ, List.getElem_cons_zero, Act.put, List.setIfInBounds_toArray, List.set_cons_zero, List.set_cons_succ]
    unfold zeroV faultV
    obtain ⟨r0, r1, r2, r3, r4, r5, r6, r7, r8, r9, r10⟩ := five_facts H2.out.2.1
    refine turn_heavy rfl (fun Kx hKx => ?_)
    go_wp2_with fail
    have H3 : Hid ((((((Wd.setCell ⟨w.heap.size + 1 + 1, 0, none⟩ (.int .i64 0)).setCell ⟨w.heap.size + 1 + 1, 1, none⟩ (.int .i64 0)).setCell ⟨w.heap.size + 1 + 1, 2, none⟩ (.string ⟨#[]⟩)).setCell ⟨w.heap.size + 1 + 1, 3, none⟩ (.slice none 0 0)).setCell ⟨w.heap.size + 1 + 1, 4, none⟩ (.slice none 0 0)).heap[w.heap.size + 1]? = some (.cells #[.int .i64 l, .int .i64 k] 24 (0, 0)) ∧
        (((((Wd.setCell ⟨w.heap.size + 1 + 1, 0, none⟩ (.int .i64 0)).setCell ⟨w.heap.size + 1 + 1, 1, none⟩ (.int .i64 0)).setCell ⟨w.heap.size + 1 + 1, 2, none⟩ (.string ⟨#[]⟩)).setCell ⟨w.heap.size + 1 + 1, 3, none⟩ (.slice none 0 0)).setCell ⟨w.heap.size + 1 + 1, 4, none⟩ (.slice none 0 0)).heap[w.heap.size + 1 + 1]? = some (.cells #[.int .i64 0, .int .i64 0, .string ⟨#[]⟩, .slice none 0 0, .slice none 0 0] 31 (0, 0)) ∧
        (((((Wd.setCell ⟨w.heap.size + 1 + 1, 0, none⟩ (.int .i64 0)).setCell ⟨w.heap.size + 1 + 1, 1, none⟩ (.int .i64 0)).setCell ⟨w.heap.size + 1 + 1, 2, none⟩ (.string ⟨#[]⟩)).setCell ⟨w.heap.size + 1 + 1, 3, none⟩ (.slice none 0 0)).setCell ⟨w.heap.size + 1 + 1, 4, none⟩ (.slice none 0 0)).heap[w.heap.size + 1 + 1 + 1]? = some (.cells #[.int .i64 0, .int .i64 0, .int .i64 0] 89 (0, 0)) ∧
        Below w.heap.size w (((((Wd.setCell ⟨w.heap.size + 1 + 1, 0, none⟩ (.int .i64 0)).setCell ⟨w.heap.size + 1 + 1, 1, none⟩ (.int .i64 0)).setCell ⟨w.heap.size + 1 + 1, 2, none⟩ (.string ⟨#[]⟩)).setCell ⟨w.heap.size + 1 + 1, 3, none⟩ (.slice none 0 0)).setCell ⟨w.heap.size + 1 + 1, 4, none⟩ (.slice none 0 0))) := Lib.hid
      ⟨(set5_other (by omega) _ _ _ _ _).trans H2.out.1, by rw [set_same (set_same (set_same (set_same (set_same H2.out.2.1 0 _) 1 _) 2 _) 3 _) 4]; rfl, (set5_other (by omega) _ _ _ _ _).trans H2.out.2.2.1,
        below_set5 H2.out.2.2.2 (by omega) _ _ _ _ _⟩
    refine hKx _ _ (fun _ => H3.out.1) ?_
    generalize World.setCell _ _ _ = W3 at H3 ⊢
    try simp only [List.getElem_toArray, List.getElem_cons_succ, List.getElem_cons_zero, Act.put, List.setIfInBounds_toArray, List.set_cons_zero, List.set_cons_succ]
    clear r0 r1 r2 r3 r4 r5 r6 r7 r8 r9 r10 hKx H2
    obtain ⟨d0, d1, d2, d3, d4, d5, d6⟩ := three_facts H3.out.2.2.1
    refine turn_heavy rfl (fun Ky hKy => ?_)
    go_wp2_with fail
    refine hKy _ _ (fun _ => ((((set_other (by omega) 2 _).trans (set_other (by omega) 1 _)).trans (set_other (by omega) 0 _)).trans H3.out.1)) ?_
    clear hKy
    refine turn_end ?_
    try simp only [List.getElem_toArray, List.getElem_cons_succ, List.getElem_cons_zero, Act.put, List.setIfInBounds_toArray, List.set_cons_zero, List.set_cons_succ]
    obtain ⟨r0, r1, r2, r3, r4, r5, r6, r7, r8, r9, r10⟩ := five_facts H3.out.2.1
    go_wp2_with fail
    refine bodyPost_ret (v := badV 6 l k) (by simp [badV, zeroV, faultV, results, Tryz.results106, go_sem, r0, r1, r2, r3, r4, r5, d0, d1, d2, d3]) rfl ?_
    exact ⟨((H3.out.2.2.2.setCell (p := ⟨w.heap.size + 1 + 1 + 1, 0, none⟩) (by show _ ≤ w.heap.size + 1 + 1 + 1; omega) _).setCell (p := ⟨w.heap.size + 1 + 1 + 1, 1, none⟩) (by show _ ≤ w.heap.size + 1 + 1 + 1; omega) _).setCell (p := ⟨w.heap.size + 1 + 1 + 1, 2, none⟩) (by show _ ≤ w.heap.size + 1 + 1 + 1; omega) _, rfl⟩
  · rw [hck] at Hck
    clear hck
    go_enter Tryz.func106, Tryz.ntmps106
    go_wp2_with fail
    refine Hck.out.mono ?_
    rintro e w1 ⟨rfl, hb1⟩
    have H1 := Lib.hid (And.intro (stays H0.out.1 hb1) (And.intro (stays H0.out.2.2.1 hb1) (And.intro (stays H0.out.2.2.2.1 hb1) (H0.out.2.2.2.2.1.trans (hb1.mono H0.out.2.2.2.2.1.size)))))
    clear hb1 Hck H0
    obtain ⟨t0, t1, t2, t3, t4, t5, t6, t7, t8, t9, t10⟩ := five_facts H1.out.1
    obtain ⟨r0, r1, r2, r3, r4, r5, r6, r7, r8, r9, r10⟩ := five_facts H1.out.2.1
    obtain ⟨d0, d1, d2, d3, d4, d5, d6⟩ := three_facts H1.out.2.2.1
    go_wp2_with fail
    refine bodyPost_ret (v := .tuple #[.agg #[.int .i64 vk, .int .i64 vn, .string vs, .slice a1 vl.length c1, .slice a2 vks.length c2], faultV 0 0 0]) (by simp [faultV, results, Tryz.results106, go_sem, r0, r1, r2, r3, r4, r5, d0, d1, d2, d3]) rfl ?_
    refine ⟨?_, rfl⟩
    exact ((below_set5 H1.out.2.2.2 (by omega) _ _ _ _ _).setCell (p := ⟨w.heap.size + 1 + 1 + 1, 0, none⟩) (by show _ ≤ w.heap.size + 1 + 1 + 1; omega) _).setCell (p := ⟨w.heap.size + 1 + 1 + 1, 1, none⟩) (by show _ ≤ w.heap.size + 1 + 1 + 1; omega) _ |>.setCell (p := ⟨w.heap.size + 1 + 1 + 1, 2, none⟩) (by show _ ≤ w.heap.size + 1 + 1 + 1; omega) _
end Go.Proofs.YtmmflgbhgjefmaaGreatDoor
namespace Go.Proofs.YtmmflgbhgjefmaaGreatDoor
open Go Go.RowKit

set_option maxRecDepth 100000 in
set_option maxHeartbeats 1000000 in
theorem packInt_small (s : ByteArray) (v : Int) (h : smallNum s = some v) (w : World) :
    Calls Tryz.prog 105 #[.string s] w (fun e w' => e = .returned (.tuple #[.int .i64 v, .bool true]) ∧ Below w.heap.size w w') := by
  have hp : Lib.parseIntB 64 s.data.toList = .ok v ∧ 0 ≤ v ∧ v < 100 ∧ s.size ≤ 65536 ∧ Lib.decDigits v.toNat = s.data.toList := by
    unfold smallNum at h
    split at h
    · rename_i v' hv'
      split at h
      · rename_i hc
        cases h
        exact ⟨hv', hc⟩
      · cases h
    · cases h
  obtain ⟨h1, h2, h3, h4, h5⟩ := hp
  obtain ⟨i, rfl⟩ : ∃ i : Nat, v = i := ⟨v.toNat, by omega⟩
  have hs : (⟨(Lib.decDigits i).toArray⟩ : ByteArray) = s := bytes_ext (by show (Lib.decDigits i).toArray.toList = _; rw [List.toList_toArray]; exact h5)
  have Hp := Lib.hid (Tryz.strconv_ParseInt_10_at64_ok s (by omega) i h1 w)
  have Hf := Lib.hid (fun (w1 : World) => Tryz.strconv_FormatInt_10_small i (by omega) w1)
  rw [hs] at Hf
  have hne : (s.toList != s.toList) = false := by simp
  clear h h1 h5 hs
  go_enter Tryz.func105, Tryz.ntmps105
  go_wp2_with fail
  refine Hp.out.mono ?_
  rintro e w1 ⟨rfl, hw1⟩
  have hb1 : Below w.heap.size w w1 := by
    rcases hw1 with rfl | ⟨t, rfl⟩
    · exact Below.refl _ _
    · exact below_bytesWorld w _ t
  clear hw1
  have Hb1 := Lib.hid hb1
  clear hb1
  go_wp2_with (first | (go_at_call 133; go_in) | (go_at_call 155; refine (Hf.out _).mono ?_; rintro e w2 ⟨rfl, rfl⟩))
  go_ret2
  exact ⟨rfl, Hb1.out⟩
end Go.Proofs.YtmmflgbhgjefmaaGreatDoor
namespace Go.Proofs.YtmmflgbhgjefmaaGreatDoor
open Go Go.RowKit

def sumC (z : Int) : Value := .agg #[.int .i64 2, .int .i64 z, .string ⟨#[]⟩, .slice none 0 0, .slice none 0 0]
def PSum (z : Int) (w : World) (e : Ending) (w' : World) : Prop := e = .returned (.tuple #[sumC z, .int .i64 0]) ∧ Below w.heap.size w w'

set_option maxRecDepth 100000 in
set_option maxHeartbeats 1000000 in
theorem plus_small (x y : Int) (hx0 : -1000000 ≤ x) (hx1 : x ≤ 1000000) (hy0 : -1000000 ≤ y) (hy1 : y ≤ 1000000) (s s' : ByteArray) (a1 a2 a3 a4 : Option Addr) (n1 c1 n2 c2 n3 c3 n4 c4 : Nat) (w : World) :
    Calls Tryz.prog 158 #[vCells 2 x s a1 n1 c1 a2 n2 c2, vCells 2 y s' a3 n3 c3 a4 n4 c4] w (PSum (x + y) w) := by
  unfold vCells
  have hb : ∀ o1 o2 o3 : Obj, Below w.heap.size w (((w.alloc o1).alloc o2).alloc o3) := fun o1 o2 o3 => ((((Below.refl _ w).alloc (Nat.le_refl _) _).alloc (by simp) _).alloc (by simp; omega) _)
  have Hb := Lib.hid hb
  clear hb
  by_cases hp : 0 < y
  · have hy2 : (y == 0) = false := by simp; omega
    have h3 : (y != 0) = true := by simp [bne, hy2]
    have h4 : x < x + y := by omega
    go_enter Tryz.func158, Tryz.ntmps158
    go_wp2_with fail
    refine bodyPost_ret (v := .tuple #[sumC (x + y), .int .i64 0]) (by simp [sumC, results, Tryz.results158, go_sem]) rfl ?_
    exact ⟨rfl, Hb.out _ _ _⟩
  · by_cases hz : y = 0
    · subst hz
      go_enter Tryz.func158, Tryz.ntmps158
      go_wp2_with fail
      refine bodyPost_ret (v := .tuple #[sumC (x + 0), .int .i64 0]) (by simp [sumC, results, Tryz.results158, go_sem]) rfl ?_
      first | exact ⟨rfl, Hb.out _ _ _⟩ | (rw [Int.add_zero]; exact ⟨rfl, Hb.out _ _ _⟩)
    · have hy2 : (y == 0) = false := by simp; omega
      have h3 : (y != 0) = true := by simp [bne, hy2]
      have h4 : ¬ x < x + y := by omega
      go_enter Tryz.func158, Tryz.ntmps158
      go_wp2_with fail
      refine bodyPost_ret (v := .tuple #[sumC (x + y), .int .i64 0]) (by simp [sumC, results, Tryz.results158, go_sem]) rfl ?_
      exact ⟨rfl, Hb.out _ _ _⟩

set_option maxRecDepth 100000 in
set_option maxHeartbeats 2000000 in
theorem op_small (t : ByteArray) (ht : t.data.toList = [43]) (a b : Vl) (ha : smallInt a = true) (hb : smallInt b = true) (F : Nat → Prop) (ca cb : List Value) (w : World) (hF : ∀ b, F b → b < w.heap.size) (hca : AggAt F w (valD a) ca) (hcb : AggAt F w (valD b) cb) :
    Calls Tryz.prog 134 #[.string t, .agg ca.toArray, .agg cb.toArray] w (PSum (a.num + b.num) w) := by
  obtain ⟨ak, an, as0, al, aks⟩ := a
  obtain ⟨bk, bn, bs0, bl, bks⟩ := b
  simp only [smallInt, Vl.kind, Vl.num, Bool.and_eq_true, beq_iff_eq, decide_eq_true_eq] at ha hb
  obtain ⟨⟨⟨rfl, ha1⟩, ha2⟩, hac⟩ := ha
  obtain ⟨⟨⟨rfl, hb1⟩, hb2⟩, hbc⟩ := hb
  obtain ⟨a1, c1, a2, c2, rfl, hr1, hr2⟩ := hca.val
  obtain ⟨a3, c3, a4, c4, rfl, hr3, hr4⟩ := hcb.val
  have e1 : (t.toList == [61, 61]) = false := by rw [Lib.toList_data, ht]; rfl
  have e2 : (t.toList == [33, 61]) = false := by rw [Lib.toList_data, ht]; rfl
  have e3 : (t.toList == [43]) = true := by rw [Lib.toList_data, ht]; rfl
  have H0 := Lib.hid (alloc3 w (.cells #[.int .i64 2, .int .i64 an, .string as0, .slice a1 al.length c1, .slice a2 aks.length c2] 31) (.cells #[.int .i64 2, .int .i64 bn, .string bs0, .slice a3 bl.length c3, .slice a4 bks.length c4] 31) (.cells #[.int .i64 0, .int .i64 0, .string ⟨#[]⟩, .slice none 0 0, .slice none 0 0] 31))
  have Hca : Hid (∀ w1, Below w.heap.size w w1 → Calls Tryz.prog 112 #[vCells 2 an as0 a1 al.length c1 a2 aks.length c2] w1 (fun e w' => e = .returned (.bool true) ∧ Below w1.heap.size w1 w')) := Lib.hid (fun w1 hw1 => by
    have := check_any (.mk 2 an as0 al aks) (check_small hac) F a1 c1 a2 c2 w1 (fun b hb => Nat.lt_of_lt_of_le (hF b hb) hw1.size) (hr1.below hw1) (hr2.below hw1)
    rw [hac] at this
    exact this)
  have Hcb : Hid (∀ w1, Below w.heap.size w w1 → Calls Tryz.prog 112 #[vCells 2 bn bs0 a3 bl.length c3 a4 bks.length c4] w1 (fun e w' => e = .returned (.bool true) ∧ Below w1.heap.size w1 w')) := Lib.hid (fun w1 hw1 => by
    have := check_any (.mk 2 bn bs0 bl bks) (check_small hbc) F a3 c3 a4 c4 w1 (fun b hb => Nat.lt_of_lt_of_le (hF b hb) hw1.size) (hr3.below hw1) (hr4.below hw1)
    rw [hbc] at this
    exact this)
  have Hpl := Lib.hid (fun w1 => plus_small an bn (of_decide_eq_true ha1) (of_decide_eq_true ha2) (of_decide_eq_true hb1) (of_decide_eq_true hb2) as0 bs0 a1 a2 a3 a4 al.length c1 aks.length c2 bl.length c3 bks.length c4 w1)
  clear ht hca hcb hr1 hr2 hr3 hr4 hF hac hbc ha1 ha2 hb1 hb2
  show Calls _ _ _ _ (PSum (an + bn) w)
  unfold vCells at Hca Hcb Hpl
  go_enter Tryz.func134, Tryz.ntmps134
  go_wp2_with fail
  refine (Hca.out _ H0.out.2.2.2.1).mono ?_
  rintro e w1 ⟨rfl, hb1⟩
  have H1 := Lib.hid (And.intro (stays H0.out.1 hb1) (And.intro (stays H0.out.2.1 hb1) (And.intro (stays H0.out.2.2.1 hb1) (H0.out.2.2.2.1.trans (hb1.mono H0.out.2.2.2.1.size)))))
  clear hb1 H0
  obtain ⟨r0, r1, r2, r3, r4, r5, r6, r7, r8, r9, r10⟩ := five_facts H1.out.2.1
  go_wp2_with fail
  refine (Hcb.out _ H1.out.2.2.2).mono ?_
  rintro e w2 ⟨rfl, hb2⟩
  have H2 := Lib.hid (And.intro (stays H1.out.1 hb2) (And.intro (stays H1.out.2.1 hb2) (And.intro (stays H1.out.2.2.1 hb2) (H1.out.2.2.2.trans (hb2.mono H1.out.2.2.2.size)))))
  clear hb2 H1 r0 r1 r2 r3 r4 r5 r6 r7 r8 r9 r10
  obtain ⟨r0, r1, r2, r3, r4, r5, r6, r7, r8, r9, r10⟩ := five_facts H2.out.1
  obtain ⟨s0, s1, s2, s3, s4, s5, s6, s7, s8, s9, s10⟩ := five_facts H2.out.2.1
  go_wp2_with fail
  refine (Hpl.out w2).mono ?_
  rintro e w3 ⟨rfl, hb3⟩
  have H3 := Lib.hid (And.intro (stays H2.out.2.2.1 hb3) (H2.out.2.2.2.trans (hb3.mono H2.out.2.2.2.size)))
  clear hb3 H2 r0 r1 r2 r3 r4 r5 r6 r7 r8 r9 r10 s0 s1 s2 s3 s4 s5 s6 s7 s8 s9 s10
  unfold sumC
  obtain ⟨r0, r1, r2, r3, r4, r5, r6, r7, r8, r9, r10⟩ := five_facts H3.out.1
  go_wp2_with fail
  refine bodyPost_ret (v := .tuple #[sumC (an + bn), .int .i64 0]) (by simp [sumC, results, Tryz.results134, go_sem, r0, r1, r2, r3, r4, r5]) rfl ?_
  exact ⟨rfl, below_set5 H3.out.2 (by omega) _ _ _ _ _⟩
end Go.Proofs.YtmmflgbhgjefmaaGreatDoor
namespace Go.Proofs.YtmmflgbhgjefmaaGreatDoor
open Go Go.RowKit

mutual
/-- Nothing of a node is longer than memory is. -/
def smallN : Nd → Prop
  | .mk _ t _ _ l => t.size ≤ maxLen ∧ l.length ≤ 1000000 ∧ smallNs l
def smallNs : List Nd → Prop
  | [] => True
  | v :: t => smallN v ∧ smallNs t
end
theorem smallNs_mem : ∀ {l : List Nd} {x : Nd}, smallNs l → x ∈ l → smallN x
  | _ :: _, _, h, .head _ => h.1
  | _ :: _, _, h, .tail _ hm => smallNs_mem h.2 hm
theorem smallN_zero : smallN ndZero := by
  unfold ndZero
  rw [smallN]
  exact ⟨Nat.zero_le _, by simp, by rw [smallNs]; trivial⟩
theorem smallN_kid {n : Nd} (h : smallN n) (i : Nat) : smallN (kidN n i) := by
  obtain ⟨k, t, l, c, kids⟩ := n
  rw [smallN] at h
  unfold kidN
  show smallN ((kids[i]?).getD ndZero)
  cases hk : kids[i]? with
  | none => exact smallN_zero
  | some x => exact smallNs_mem h.2.2 (List.mem_of_getElem? hk)

/-- Nodes lie in blocks that are not written. -/
def GOk (G : Nat → Prop) (c : Ctx) (w : World) : Prop := ∀ b, G b → b < w.heap.size ∧ ¬ c.M b
theorem GOk.mv {G : Nat → Prop} {c c' : Ctx} {w w' : World} (h : GOk G c w) (k : Mv c w c' w') : GOk G c' w' :=
  fun b hb => ⟨Nat.lt_of_lt_of_le (h b hb).1 k.size, fun hm => by rcases k.m b hm with h1 | h1; exact (h b hb).2 h1; have := (h b hb).1; omega⟩
theorem NodeV.mv {G : Nat → Prop} {c c' : Ctx} {w w' : World} {n : Nd} {v : Value} (h : NodeV G w n v) (hG : GOk G c w) (k : Mv c w c' w') : NodeV G w' n v :=
  h.mono fun b hb hl => ⟨hb, Nat.lt_of_lt_of_le hl k.size, k.block b hl (hG b hb).2⟩
theorem RowAt.gmv {G : Nat → Prop} {c c' : Ctx} {w w' : World} {a : Option Addr} {l : List (List Dat)} (h : RowAt G w a l) (hG : GOk G c w) (k : Mv c w c' w') : RowAt G w' a l :=
  h.mono fun b hb hl => ⟨hb, Nat.lt_of_lt_of_le hl k.size, k.block b hl (hG b hb).2⟩

/-- A method that hands back a value and a fault: the boxes of its node, its value, its fault. -/
structure XB (c0 : Ctx) (w : World) (c : Ctx) (W : World) (n v f : Array Value) : Prop where
  mv : Mv c0 w c W
  size : w.heap.size + 3 ≤ W.heap.size
  na : W.heap[w.heap.size]? = some (.cells n 51 (0, 0))
  vb : W.heap[w.heap.size + 1]? = some (.cells v 31 (0, 0))
  fc : W.heap[w.heap.size + 1 + 1]? = some (.cells f 89 (0, 0))
  out : ∀ b, w.heap.size ≤ b → b < w.heap.size + 3 → ¬ c.M b ∧ ¬ c.F b
section
variable {c0 c c' : Ctx} {w W W' : World} {n v f : Array Value}
theorem XB.start (h : c0.Ok w) (n v f : Array Value) : XB c0 w c0 (((w.alloc (.cells n 51)).alloc (.cells v 31)).alloc (.cells f 89)) n v f := by
  obtain ⟨h1, h2, h3, h4, h5⟩ := alloc3 w (.cells n 51) (.cells v 31) (.cells f 89)
  exact ⟨.of_below c0 h4, by omega, h1, h2, h3, fun b hb _ => ⟨fun hm => by have := h.ml b hm; omega, fun hm => by have := h.fl b hm; omega⟩⟩
theorem XB.later (h : XB c0 w c W n v f) (k : Mv c W c' W') : XB c0 w c' W' n v f := by
  have hs := h.size
  have hk : ∀ b, w.heap.size ≤ b → b < w.heap.size + 3 → W'.heap[b]? = W.heap[b]? := fun b h1 h2 => k.block b (by omega) (h.out b h1 h2).1
  refine ⟨h.mv.trans k, Nat.le_trans hs k.size, (hk _ (by omega) (by omega)).trans h.na, (hk _ (by omega) (by omega)).trans h.vb, (hk _ (by omega) (by omega)).trans h.fc, fun b h1 h2 => ⟨fun hm => ?_, fun hm => ?_⟩⟩
  · rcases k.m b hm with h3 | h3
    · exact (h.out b h1 h2).1 h3
    · omega
  · rcases k.f b hm with h3 | h3
    · exact (h.out b h1 h2).2 h3
    · omega
theorem XB.below (h : XB c0 w c W n v f) (k : Below W.heap.size W W') : XB c0 w c W' n v f := h.later (.of_below c k)
def set5 (W : World) (b : Nat) (v0 v1 v2 v3 v4 : Value) : World := ((((W.setCell ⟨b, 0, none⟩ v0).setCell ⟨b, 1, none⟩ v1).setCell ⟨b, 2, none⟩ v2).setCell ⟨b, 3, none⟩ v3).setCell ⟨b, 4, none⟩ v4
def set3 (W : World) (b : Nat) (v0 v1 v2 : Value) : World := ((W.setCell ⟨b, 0, none⟩ v0).setCell ⟨b, 1, none⟩ v1).setCell ⟨b, 2, none⟩ v2
/-- The value's box is written. -/
theorem XB.setV {x0 x1 x2 x3 x4 : Value} (h : XB c0 w c W n #[x0, x1, x2, x3, x4] f) (v0 v1 v2 v3 v4 : Value) : XB c0 w c (set5 W (w.heap.size + 1) v0 v1 v2 v3 v4) n #[v0, v1, v2, v3, v4] f := by
  unfold set5
  refine ⟨((((h.mv.set (.inl (Nat.le_succ _)) 0 _).set (.inl (Nat.le_succ _)) 1 _).set (.inl (Nat.le_succ _)) 2 _).set (.inl (Nat.le_succ _)) 3 _).set (.inl (Nat.le_succ _)) 4 _, by simpa using h.size, (set5_other (by omega) _ _ _ _ _).trans h.na, ?_, (set5_other (by omega) _ _ _ _ _).trans h.fc, h.out⟩
  rw [set_same (set_same (set_same (set_same (set_same h.vb 0 v0) 1 v1) 2 v2) 3 v3) 4 v4]
  rfl
/-- The fault's box is written. -/
theorem XB.setF {x0 x1 x2 : Value} (h : XB c0 w c W n v #[x0, x1, x2]) (v0 v1 v2 : Value) : XB c0 w c (set3 W (w.heap.size + 1 + 1) v0 v1 v2) n v #[v0, v1, v2] := by
  unfold set3
  refine ⟨((h.mv.set (.inl (by omega)) 0 _).set (.inl (by omega)) 1 _).set (.inl (by omega)) 2 _, by simpa using h.size, by rw [set_other (by omega), set_other (by omega), set_other (by omega)]; exact h.na, by rw [set_other (by omega), set_other (by omega), set_other (by omega)]; exact h.vb, ?_, h.out⟩
  rw [set_same (set_same (set_same h.fc 0 v0) 1 v1) 2 v2]
  rfl
theorem XB.msV {mp mb : Nat} {hv : Value} {st : St} (h : XB c0 w c W n v f) (hm : MS c W mp mb hv st) (v0 v1 v2 v3 v4 : Value) : MS c (set5 W (w.heap.size + 1) v0 v1 v2 v3 v4) mp mb hv st :=
  hm.other (by unfold set5; simp) (fun b _ hMF => set5_other (fun e => by subst e; have := h.out (w.heap.size + 1) (by omega) (by omega); rcases hMF with h1 | h1; exact this.1 h1; exact this.2 h1) _ _ _ _ _)
theorem XB.msF {mp mb : Nat} {hv : Value} {st : St} (h : XB c0 w c W n v f) (hm : MS c W mp mb hv st) (v0 v1 v2 : Value) : MS c (set3 W (w.heap.size + 1 + 1) v0 v1 v2) mp mb hv st :=
  hm.other (by unfold set3; simp) (fun b _ hMF => by
    have hne : b ≠ w.heap.size + 1 + 1 := fun e => by subst e; have := h.out (w.heap.size + 1 + 1) (by omega) (by omega); rcases hMF with h1 | h1; exact this.1 h1; exact this.2 h1
    unfold set3
    rw [set_other hne, set_other hne, set_other hne])
/-- Data stays when the boxes are written. -/
theorem XB.aggV (h : XB c0 w c W n v f) {ds : List Dat} {cs : List Value} (ha : AggAt c.F W ds cs) (v0 v1 v2 v3 v4 : Value) : AggAt c.F (set5 W (w.heap.size + 1) v0 v1 v2 v3 v4) ds cs :=
  ha.mono fun b hF hl => ⟨hF, by unfold set5; simpa using hl, set5_other (fun e => by subst e; exact (h.out (w.heap.size + 1) (by omega) (by omega)).2 hF) _ _ _ _ _⟩
theorem XB.aggF (h : XB c0 w c W n v f) {ds : List Dat} {cs : List Value} (ha : AggAt c.F W ds cs) (v0 v1 v2 : Value) : AggAt c.F (set3 W (w.heap.size + 1 + 1) v0 v1 v2) ds cs :=
  ha.mono fun b hF hl => ⟨hF, by unfold set3; simpa using hl, by
    have hne : b ≠ w.heap.size + 1 + 1 := fun e => by subst e; exact (h.out (w.heap.size + 1 + 1) (by omega) (by omega)).2 hF
    unfold set3
    rw [set_other hne, set_other hne, set_other hne]⟩
end
/-- A method of the machine that works out a node. -/
def XDoes (f mp mb : Nat) (hv : Value) (ex : Nd → EM Vl) : Prop := ∀ (G : Nat → Prop) (c : Ctx) (w : World) (st : St) (n : Nd) (v : Value), MS c w mp mb hv st → GOk G c w → NodeV G w n v → smallN n → ex n st ≠ .out →
  Calls Tryz.prog f #[ptr mp, v] w (EP mp mb hv EVal badV c (ex n st) w)
end Go.Proofs.YtmmflgbhgjefmaaGreatDoor
namespace Go.Proofs.YtmmflgbhgjefmaaGreatDoor
open Go Go.RowKit

def aliveText : ByteArray := ⟨#[120, 32, 61, 32, 49, 59, 32, 102, 111, 114, 32, 105, 32, 105, 110, 32, 91, 50, 44, 32, 51, 93, 32, 123, 32, 120, 32, 61, 32, 120, 32, 43, 32, 105, 59, 32, 125]⟩
def aliveKids : List Nd :=
  [.mk 2 ⟨#[120]⟩ 1 1 [.mk 10 ⟨#[49]⟩ 1 5 []],
   .mk 4 ⟨#[105]⟩ 1 8 [.mk 12 ⟨#[]⟩ 1 17 [.mk 10 ⟨#[50]⟩ 1 18 [], .mk 10 ⟨#[51]⟩ 1 21 []],
     .mk 8 ⟨#[]⟩ 1 24 [.mk 2 ⟨#[120]⟩ 1 26 [.mk 16 ⟨#[43]⟩ 1 32 [.mk 9 ⟨#[120]⟩ 1 30 [], .mk 9 ⟨#[105]⟩ 1 34 []]]]]]
def intV (n : Int) : Vl := .mk 2 n ⟨#[]⟩ [] []
theorem alive_read : readL aliveText.data.toList = some (.ok (.mk 1 ⟨#[]⟩ 1 1 aliveKids)) := by kernel_rfl
theorem alive_14 : eRun 8 aliveKids 14 = .ok () ⟨[(⟨#[120]⟩, intV 6), (⟨#[105]⟩, intV 3)], 0⟩ := by kernel_rfl
theorem alive_13 : eRun 8 aliveKids 13 = .err 12 1 34 := by kernel_rfl
theorem alive_small : smallNs aliveKids := by
  unfold aliveKids
  simp only [smallNs, smallN, and_true, List.length_cons, List.length_nil]
  decide
end Go.Proofs.YtmmflgbhgjefmaaGreatDoor
