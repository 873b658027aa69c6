/-
  The walk of the reference's names, at named values that are alike: yes.
  The walk of the reference's SameTarget, at targets that are alike: yes.
  The walk of the statement RulesOrders, given that of its example.
-/
import Derived.Test.YthknljeffpbbmaaGreatDoorMSame11
import Derived.Test.YthknljeffpbbmaaGreatDoorMFixC
import Derived.Test.YthknljeffpbbmaaGreatDoorLexB
namespace Go.Proofs.YthknljeffpbbmaaGreatDoor
open Go Go.RowKit

set_option maxRecDepth 100000 in
set_option maxHeartbeats 4000000 in
theorem names_any (l : List (ByteArray × Vl)) (hl : l.length ≤ 1000) (hs : ∀ q ∈ l, smallV q.2) (F : Nat → Prop) (a1 : Option Addr) (c1 : Nat) (a2 : Option Addr) (c2 : Nat) (w : World) (hr1 : RowAt F w a1 (namedsD l)) (hr2 : RowAt F w a2 (namedsD l)) :
    Calls Tryz.prog 29 #[.slice a1 l.length c1, .slice a2 l.length c2] w (PYes w) := by
  have Hr := Lib.hid (And.intro hr1 hr2)
  have Hs := Lib.hid hs
  clear hr1 hr2 hs
  go_enter Tryz.func29, Tryz.ntmps29
  go_wp2_with fail
  go_loopw [13] (fun i wr => ∃ j : Nat, i = .int .i64 j ∧ j ≤ l.length ∧ Hid (Below w.heap.size w wr)) (fun i _ => l.length - (intOf i).toNat)
  case atStart => exact ⟨0, rfl, Nat.zero_le _, Lib.hid (Below.refl _ _)⟩
  case round =>
    obtain ⟨i, rfl, hi, hst⟩ := hrel
    by_cases hlt : i < l.length
    · have hx0 : l[i]? = some l[i] := List.getElem?_eq_getElem hlt
      generalize l[i] = x at hx0
      have hsx := Hs.out x (List.mem_of_getElem? hx0)
      obtain ⟨nm, ⟨xk, xn, xs, xl, xks⟩⟩ := x
      have hbd : Below w.heap.size w wr.drew := hst.out.trans ((Below.refl _ wr).drew.mono hst.out.size)
      obtain ⟨b, off, x1, e1, x2, e2, hae, -, hbl, n0, r0, r1, r2, r3, r4, hs1, hs2⟩ := (Hr.out.1.below hbd).named hx0
      obtain ⟨b', off', x3, e3, x4, e4, hae', -, hbl', n0', t0, t1, t2, t3, t4, hs3, hs4⟩ := (Hr.out.2.below hbd).named hx0
      subst hae
      subst hae'
      have HK := Lib.hid (same11_any (.mk xk xn xs xl xks) hsx F x1 e1 x2 e2 x3 e3 x4 e4 wr.drew hs1 hs2 hs3 hs4)
      have Hbd := Lib.hid hbd
      clear hx0 hs1 hs2 hs3 hs4 hst hbd hsx
      go_wp2_with fail
      refine wp_region_turns (.s 0 (.s 1 (.s 2 (.s 3 (.s 4 (.s 5 (.s 6 (.s 7 (.s 8 (.s 9 (.s 10 (.s 11 (.s 12 (.s 13 (.s 14 (.s 15 (.s 16 (.s 17 (.s 18 (.s 19 (.s 20 (.s 21 (.h 22 (.s 23 (.s 24 .nil))))))))))))))))))))))))) 99 (fun W' => Below wr.drew.heap.size wr.drew W') (by kernel_rfl) (by kernel_rfl) (fun c a d v w h => by cases d <;> exact h) (Below.refl _ _) ?_
      generalize wr.drew = Wd at *
      refine turn_steady (.slice (some ⟨b, off, none⟩) l.length c1) rfl rfl (fun W' hS => ?_) ?_
      · go_simp
      try simp only [List.getElem_toArray, List.getElem_cons_zero, Act.put, List.setIfInBounds_toArray, List.set_cons_zero, List.set_cons_succ]
      refine turn_steady (.int .i64 i) rfl rfl (fun W' hS => ?_) ?_
      · go_simp
      try simp only [List.getElem_toArray, List.getElem_cons_succ, List.getElem_cons_zero, Act.put, List.setIfInBounds_toArray, List.set_cons_zero, List.set_cons_succ]
      refine turn_steady (.pointer (some ⟨b, off + i * 6, none⟩)) rfl rfl (fun W' hS => ?_) ?_
      · go_simp
      try simp only [List.getElem_toArray, List.getElem_cons_succ, List.getElem_cons_zero, Act.put, List.setIfInBounds_toArray, List.set_cons_zero, List.set_cons_succ]
      refine turn_steady (.pointer (some ⟨b, off + i * 6, none⟩)) rfl rfl (fun W' hS => ?_) ?_
      · go_simp
      try simp only [List.getElem_toArray, List.getElem_cons_succ, List.getElem_cons_zero, Act.put, List.setIfInBounds_toArray, List.set_cons_zero, List.set_cons_succ]
      refine turn_steady (.string nm) rfl rfl (fun W' hS => ?_) ?_
      · have z0 := (hS.cell (p := ⟨b, off + i * 6, none⟩) hbl).trans n0
        clear hS
        go_simp
      try simp only [List.getElem_toArray, List.getElem_cons_succ, List.getElem_cons_zero, Act.put, List.setIfInBounds_toArray, List.set_cons_zero, List.set_cons_succ]
      refine turn_steady (.slice (some ⟨b', off', none⟩) l.length c2) rfl rfl (fun W' hS => ?_) ?_
      · go_simp
      try simp only [List.getElem_toArray, List.getElem_cons_succ, List.getElem_cons_zero, Act.put, List.setIfInBounds_toArray, List.set_cons_zero, List.set_cons_succ]
      refine turn_steady (.int .i64 i) rfl rfl (fun W' hS => ?_) ?_
      · go_simp
      try simp only [List.getElem_toArray, List.getElem_cons_succ, List.getElem_cons_zero, Act.put, List.setIfInBounds_toArray, List.set_cons_zero, List.set_cons_succ]
      refine turn_steady (.pointer (some ⟨b', off' + i * 6, none⟩)) rfl rfl (fun W' hS => ?_) ?_
      · go_simp
      try simp only [List.getElem_toArray, List.getElem_cons_succ, List.getElem_cons_zero, Act.put, List.setIfInBounds_toArray, List.set_cons_zero, List.set_cons_succ]
      refine turn_steady (.pointer (some ⟨b', off' + i * 6, none⟩)) rfl rfl (fun W' hS => ?_) ?_
      · go_simp
      try simp only [List.getElem_toArray, List.getElem_cons_succ, List.getElem_cons_zero, Act.put, List.setIfInBounds_toArray, List.set_cons_zero, List.set_cons_succ]
      refine turn_steady (.string nm) rfl rfl (fun W' hS => ?_) ?_
      · have z0 := (hS.cell (p := ⟨b', off' + i * 6, none⟩) hbl').trans n0'
        clear hS
        go_simp
      try simp only [List.getElem_toArray, List.getElem_cons_succ, List.getElem_cons_zero, Act.put, List.setIfInBounds_toArray, List.set_cons_zero, List.set_cons_succ]
      refine turn_steady (.bool false) rfl rfl (fun W' hS => ?_) ?_
      · go_simp
      try simp only [List.getElem_toArray, List.getElem_cons_succ, List.getElem_cons_zero, Act.put, List.setIfInBounds_toArray, List.set_cons_zero, List.set_cons_succ]
      refine turn_steady (.bool false) rfl rfl (fun W' hS => ?_) ?_
      · go_simp
      try simp only [List.getElem_toArray, List.getElem_cons_succ, List.getElem_cons_zero, Act.put, List.setIfInBounds_toArray, List.set_cons_zero, List.set_cons_succ]
      refine turn_steady (.slice (some ⟨b, off, none⟩) l.length c1) rfl rfl (fun W' hS => ?_) ?_
      · go_simp
      try simp only [List.getElem_toArray, List.getElem_cons_succ, List.getElem_cons_zero, Act.put, List.setIfInBounds_toArray, List.set_cons_zero, List.set_cons_succ]
      refine turn_steady (.int .i64 i) rfl rfl (fun W' hS => ?_) ?_
      · go_simp
      try simp only [List.getElem_toArray, List.getElem_cons_succ, List.getElem_cons_zero, Act.put, List.setIfInBounds_toArray, List.set_cons_zero, List.set_cons_succ]
      refine turn_steady (.pointer (some ⟨b, off + i * 6, none⟩)) rfl rfl (fun W' hS => ?_) ?_
      · go_simp
      try simp only [List.getElem_toArray, List.getElem_cons_succ, List.getElem_cons_zero, Act.put, List.setIfInBounds_toArray, List.set_cons_zero, List.set_cons_succ]
      refine turn_steady (.pointer (some ⟨b, off + i * 6 + 1, none⟩)) rfl rfl (fun W' hS => ?_) ?_
      · go_simp
      try simp only [List.getElem_toArray, List.getElem_cons_succ, List.getElem_cons_zero, Act.put, List.setIfInBounds_toArray, List.set_cons_zero, List.set_cons_succ]
      refine turn_steady (.agg #[.int .i64 xk, .int .i64 xn, .string xs, .slice x1 xl.length e1, .slice x2 xks.length e2]) rfl rfl (fun W' hS => ?_) ?_
      · have z0 := (hS.cell (p := ⟨b, off + i * 6 + 1, none⟩) hbl).trans r0
        have z1 := (hS.cell (p := ⟨b, off + i * 6 + 2, none⟩) hbl).trans r1
        have z2 := (hS.cell (p := ⟨b, off + i * 6 + 3, none⟩) hbl).trans r2
        have z3 := (hS.cell (p := ⟨b, off + i * 6 + 4, none⟩) hbl).trans r3
        have z4 := (hS.cell (p := ⟨b, off + i * 6 + 5, none⟩) hbl).trans r4
        clear hS
        go_simp
      try simp only [List.getElem_toArray, List.getElem_cons_succ, List.getElem_cons_zero, Act.put, List.setIfInBounds_toArray, List.set_cons_zero, List.set_cons_succ]
      refine turn_steady (.slice (some ⟨b', off', none⟩) l.length c2) rfl rfl (fun W' hS => ?_) ?_
      · go_simp
      try simp only [List.getElem_toArray, List.getElem_cons_succ, List.getElem_cons_zero, Act.put, List.setIfInBounds_toArray, List.set_cons_zero, List.set_cons_succ]
      refine turn_steady (.int .i64 i) rfl rfl (fun W' hS => ?_) ?_
      · go_simp
      try simp only [List.getElem_toArray, List.getElem_cons_succ, List.getElem_cons_zero, Act.put, List.setIfInBounds_toArray, List.set_cons_zero, List.set_cons_succ]
      refine turn_steady (.pointer (some ⟨b', off' + i * 6, none⟩)) rfl rfl (fun W' hS => ?_) ?_
      · go_simp
      try simp only [List.getElem_toArray, List.getElem_cons_succ, List.getElem_cons_zero, Act.put, List.setIfInBounds_toArray, List.set_cons_zero, List.set_cons_succ]
      refine turn_steady (.pointer (some ⟨b', off' + i * 6 + 1, none⟩)) rfl rfl (fun W' hS => ?_) ?_
      · go_simp
      try simp only [List.getElem_toArray, List.getElem_cons_succ, List.getElem_cons_zero, Act.put, List.setIfInBounds_toArray, List.set_cons_zero, List.set_cons_succ]
      refine turn_steady (.agg #[.int .i64 xk, .int .i64 xn, .string xs, .slice x3 xl.length e3, .slice x4 xks.length e4]) rfl rfl (fun W' hS => ?_) ?_
      · have z0 := (hS.cell (p := ⟨b', off' + i * 6 + 1, none⟩) hbl').trans t0
        have z1 := (hS.cell (p := ⟨b', off' + i * 6 + 2, none⟩) hbl').trans t1
        have z2 := (hS.cell (p := ⟨b', off' + i * 6 + 3, none⟩) hbl').trans t2
        have z3 := (hS.cell (p := ⟨b', off' + i * 6 + 4, none⟩) hbl').trans t3
        have z4 := (hS.cell (p := ⟨b', off' + i * 6 + 5, none⟩) hbl').trans t4
        clear hS
        go_simp
      try simp only [List.getElem_toArray, List.getElem_cons_succ, List.getElem_cons_zero, Act.put, List.setIfInBounds_toArray, List.set_cons_zero, List.set_cons_succ]
      clear n0 n0' r0 r1 r2 r3 r4 t0 t1 t2 t3 t4
      refine turn_heavy rfl (fun K10 hK10 => ?_)
      go_wp2_with fail
      refine HK.out.mono ?_
      rintro e w2 ⟨rfl, hb2⟩
      have Hst2 := Lib.hid (Hbd.out.trans (hb2.mono Hbd.out.size))
      have Hb2 := Lib.hid hb2
      clear hb2 Hbd HK hbl hbl'
      go_wp2_with fail
      refine hK10 _ _ (fun _ => Hb2.out) ?_
      try simp only [List.getElem_toArray, List.getElem_cons_succ, List.getElem_cons_zero, Act.put, List.setIfInBounds_toArray, List.set_cons_zero, List.set_cons_succ]
      refine turn_steady (.bool false) rfl rfl (fun W' hS => ?_) ?_
      · go_simp
      try simp only [List.getElem_toArray, List.getElem_cons_succ, List.getElem_cons_zero, Act.put, List.setIfInBounds_toArray, List.set_cons_zero, List.set_cons_succ]
      refine turn_steady (.bool false) rfl rfl (fun W' hS => ?_) ?_
      · go_simp
      try simp only [List.getElem_toArray, List.getElem_cons_succ, List.getElem_cons_zero, Act.put, List.setIfInBounds_toArray, List.set_cons_zero, List.set_cons_succ]
      refine turn_end ?_
      try simp only [List.getElem_toArray, List.getElem_cons_succ, List.getElem_cons_zero, Act.put, List.setIfInBounds_toArray, List.set_cons_zero, List.set_cons_succ]
      go_wp2_with fail
      go_roundw
      case rel => exact ⟨i + 1, by go_num, by omega, Hst2⟩
      case measure => simp only [intOf]; omega
    · go_wp2_with fail
      go_ret
      exact ⟨rfl, hst.out⟩
end Go.Proofs.YthknljeffpbbmaaGreatDoor
namespace Go.Proofs.YthknljeffpbbmaaGreatDoor
open Go Go.RowKit

set_option maxRecDepth 100000 in
set_option maxHeartbeats 4000000 in
theorem sameT_any (p n rn : ByteArray) (VS : List (ByteArray × Vl)) (ds : List LB) (sn : List ByteArray) (hl : VS.length ≤ 1000) (hdl : ds.length ≤ 1000000) (hsl : sn.length ≤ 1000) (hs : ∀ q ∈ VS, smallV q.2) (F : Nat → Prop) (a1 a2 a3 g1 g2 g3 : Option Addr) (c1 c2 c3 d1 d2 d3 : Nat) (w : World)
    (hr1 : RowAt F w a1 (namedsD VS)) (hr2 : RowAt F w a2 (labelsD ds)) (hr3 : StrsAt w a3 sn) (hg1 : RowAt F w g1 (namedsD VS)) (hg2 : RowAt F w g2 (labelsD ds)) (hg3 : StrsAt w g3 sn) :
    Calls Tryz.prog 9 #[.agg #[.string p, .string n, .string rn, .slice a1 VS.length c1, .slice a2 ds.length c2, .slice a3 sn.length c3], .agg #[.string p, .string n, .string rn, .slice g1 VS.length d1, .slice g2 ds.length d2, .slice g3 sn.length d3]] w (PYes w) := by
  obtain ⟨h1, h2, h3, h4⟩ := alloc2 w (.cells #[.string p, .string n, .string rn, .slice a1 VS.length c1, .slice a2 ds.length c2, .slice a3 sn.length c3] 44) (.cells #[.string p, .string n, .string rn, .slice g1 VS.length d1, .slice g2 ds.length d2, .slice g3 sn.length d3] 44)
  have H0 := Lib.hid (And.intro h1 (And.intro h2 h3))
  have HN := Lib.hid (names_any VS hl hs F a1 c1 g1 d1 _ (hr1.below h3) (hg1.below h3))
  have Hr2 := Lib.hid (And.intro hr2 hg2)
  have Hr3 := Lib.hid (And.intro hr3 hg3)
  have hneq : ∀ W, (binOp .neq 41 (.agg #[.string p, .string n]) (.agg #[.string p, .string n])).run Tryz.prog W = .ok (.bool false) W := fun W => by rw [neqLab]; simp
  clear h1 h2 h3 h4 hr1 hr2 hr3 hg1 hg2 hg3 hs
  go_enter Tryz.func9, Tryz.ntmps9
  go_wp2_with fail
  refine HN.out.mono ?_
  rintro e w1 ⟨rfl, hb1⟩
  have H1 := Lib.hid (And.intro (stays H0.out.1 hb1) (And.intro (stays H0.out.2.1 hb1) (H0.out.2.2.trans (hb1.mono H0.out.2.2.size))))
  clear hb1 H0 HN hneq
  obtain ⟨q0, q1, q2, q3, q4, q5, q6, -⟩ := sixW_facts H1.out.1
  obtain ⟨p0, p1, p2, p3, p4, p5, p6, -⟩ := sixW_facts H1.out.2.1
  go_wp2_with fail
  clear q0 q1 q2 q3 q4 q5 q6 p0 p1 p2 p3 p4 p5 p6
  go_loopw [48] (fun i wr => ∃ j : Nat, i = .int .i64 j ∧ j ≤ ds.length ∧ Hid (wr.heap[w.heap.size]? = some (.cells #[.string p, .string n, .string rn, .slice a1 VS.length c1, .slice a2 ds.length c2, .slice a3 sn.length c3] 44 (0, 0)) ∧ wr.heap[w.heap.size + 1]? = some (.cells #[.string p, .string n, .string rn, .slice g1 VS.length d1, .slice g2 ds.length d2, .slice g3 sn.length d3] 44 (0, 0)) ∧ Below w.heap.size w wr)) (fun i _ => ds.length - (intOf i).toNat)
  case atStart => exact ⟨0, rfl, Nat.zero_le _, H1⟩
  case round =>
    obtain ⟨i, rfl, hi, hst⟩ := hrel
    obtain ⟨q0, q1, q2, q3, q4, q5, q6, -⟩ := sixW_facts hst.out.1
    obtain ⟨p0, p1, p2, p3, p4, p5, p6, -⟩ := sixW_facts hst.out.2.1
    by_cases hlt : i < ds.length
    · have hx0 : ds[i]? = some ds[i] := List.getElem?_eq_getElem hlt
      generalize ds[i] = x at hx0
      obtain ⟨u, v⟩ := x
      have hbd : Below wr.heap.size wr wr.drew := (Below.refl _ wr).drew
      have H2 := Lib.hid (And.intro (stays hst.out.1 hbd) (And.intro (stays hst.out.2.1 hbd) (hst.out.2.2.trans (hbd.mono hst.out.2.2.size))))
      obtain ⟨b, off, hae, -, hbl, r0, r1⟩ := (Hr2.out.1.below H2.out.2.2).label hx0
      obtain ⟨b', off', hae', -, hbl', t0, t1⟩ := (Hr2.out.2.below H2.out.2.2).label hx0
      subst hae
      subst hae'
      have hneq : ∀ W, (binOp .neq 41 (.agg #[.string u, .string v]) (.agg #[.string u, .string v])).run Tryz.prog W = .ok (.bool false) W := fun W => by rw [neqLab]; simp
      have Hneq := Lib.hid hneq
      clear hx0 hbd hneq
      go_wp2_with fail
      refine wp_region_turns (.s 0 (.s 1 (.s 2 (.s 3 (.s 4 (.s 5 (.s 6 (.s 7 (.s 8 (.s 9 (.s 10 .nil))))))))))) 99 (fun W' => Below wr.drew.heap.size wr.drew W') (by kernel_rfl) (by kernel_rfl) (fun c a d v w h => by cases d <;> exact h) (Below.refl _ _) ?_
      clear q0 q1 q2 q3 q4 q5 q6 p0 p1 p2 p3 p4 p5 p6 hst
      generalize wr.drew = Wd at *
      refine turn_steady (.pointer (some ⟨w.heap.size, 4, none⟩)) rfl rfl (fun W' hS => ?_) ?_
      · obtain ⟨z0, z1, z2, z3, z4, z5, z6, -⟩ := sixW_facts (stays H2.out.1 hS)
        clear hS
        go_simp
      try simp only [List.getElem_toArray, List.getElem_cons_zero, Act.put, List.setIfInBounds_toArray, List.set_cons_zero, List.set_cons_succ]
      refine turn_steady (.slice (some ⟨b, off, none⟩) ds.length c2) rfl rfl (fun W' hS => ?_) ?_
      · obtain ⟨z0, z1, z2, z3, z4, z5, z6, -⟩ := sixW_facts (stays H2.out.1 hS)
        clear hS
        go_simp
      try simp only [List.getElem_toArray, List.getElem_cons_succ, List.getElem_cons_zero, Act.put, List.setIfInBounds_toArray, List.set_cons_zero, List.set_cons_succ]
      refine turn_steady (.int .i64 i) rfl rfl (fun W' hS => ?_) ?_
      · go_simp
      try simp only [List.getElem_toArray, List.getElem_cons_succ, List.getElem_cons_zero, Act.put, List.setIfInBounds_toArray, List.set_cons_zero, List.set_cons_succ]
      refine turn_steady (.pointer (some ⟨b, off + i * 2, none⟩)) rfl rfl (fun W' hS => ?_) ?_
      · go_simp
      try simp only [List.getElem_toArray, List.getElem_cons_succ, List.getElem_cons_zero, Act.put, List.setIfInBounds_toArray, List.set_cons_zero, List.set_cons_succ]
      refine turn_steady (.agg #[.string u, .string v]) rfl rfl (fun W' hS => ?_) ?_
      · have z0 := (hS.cell (p := ⟨b, off + i * 2, none⟩) hbl).trans r0
        have z1 := (hS.cell (p := ⟨b, off + i * 2 + 1, none⟩) hbl).trans r1
        clear hS
        go_simp
      try simp only [List.getElem_toArray, List.getElem_cons_succ, List.getElem_cons_zero, Act.put, List.setIfInBounds_toArray, List.set_cons_zero, List.set_cons_succ]
      refine turn_steady (.pointer (some ⟨w.heap.size + 1, 4, none⟩)) rfl rfl (fun W' hS => ?_) ?_
      · obtain ⟨z0, z1, z2, z3, z4, z5, z6, -⟩ := sixW_facts (stays H2.out.2.1 hS)
        clear hS
        go_simp
      try simp only [List.getElem_toArray, List.getElem_cons_succ, List.getElem_cons_zero, Act.put, List.setIfInBounds_toArray, List.set_cons_zero, List.set_cons_succ]
      refine turn_steady (.slice (some ⟨b', off', none⟩) ds.length d2) rfl rfl (fun W' hS => ?_) ?_
      · obtain ⟨z0, z1, z2, z3, z4, z5, z6, -⟩ := sixW_facts (stays H2.out.2.1 hS)
        clear hS
        go_simp
      try simp only [List.getElem_toArray, List.getElem_cons_succ, List.getElem_cons_zero, Act.put, List.setIfInBounds_toArray, List.set_cons_zero, List.set_cons_succ]
      refine turn_steady (.int .i64 i) rfl rfl (fun W' hS => ?_) ?_
      · go_simp
      try simp only [List.getElem_toArray, List.getElem_cons_succ, List.getElem_cons_zero, Act.put, List.setIfInBounds_toArray, List.set_cons_zero, List.set_cons_succ]
      refine turn_steady (.pointer (some ⟨b', off' + i * 2, none⟩)) rfl rfl (fun W' hS => ?_) ?_
      · go_simp
      try simp only [List.getElem_toArray, List.getElem_cons_succ, List.getElem_cons_zero, Act.put, List.setIfInBounds_toArray, List.set_cons_zero, List.set_cons_succ]
      refine turn_steady (.agg #[.string u, .string v]) rfl rfl (fun W' hS => ?_) ?_
      · have z0 := (hS.cell (p := ⟨b', off' + i * 2, none⟩) hbl').trans t0
        have z1 := (hS.cell (p := ⟨b', off' + i * 2 + 1, none⟩) hbl').trans t1
        clear hS
        go_simp
      try simp only [List.getElem_toArray, List.getElem_cons_succ, List.getElem_cons_zero, Act.put, List.setIfInBounds_toArray, List.set_cons_zero, List.set_cons_succ]
      refine turn_steady (.bool false) rfl rfl (fun W' hS => ?_) ?_
      · have hneq := Hneq.out W'
        clear hS
        go_simp
      try simp only [List.getElem_toArray, List.getElem_cons_succ, List.getElem_cons_zero, Act.put, List.setIfInBounds_toArray, List.set_cons_zero, List.set_cons_succ]
      refine turn_end ?_
      try simp only [List.getElem_toArray, List.getElem_cons_succ, List.getElem_cons_zero, Act.put, List.setIfInBounds_toArray, List.set_cons_zero, List.set_cons_succ]
      clear r0 r1 t0 t1 Hneq hbl hbl'
      go_wp2_with fail
      go_roundw
      case rel => exact ⟨i + 1, by go_num, by omega, H2⟩
      case measure => simp only [intOf]; omega
    · go_wp2_with fail
      clear q0 q1 q2 q3 q4 q5 q6 p0 p1 p2 p3 p4 p5 p6
      go_loopw [66] (fun i wr2 => ∃ j q : Nat, i = .int .i64 j ∧ j ≤ sn.length ∧ wr2 = wr.drewN q) (fun i _ => sn.length - (intOf i).toNat)
      case atStart => exact ⟨0, 0, rfl, Nat.zero_le _, rfl⟩
      case round =>
        clear hlt hi
        obtain ⟨j, q, rfl, hj, rfl⟩ := hrel
        obtain ⟨q0, q1, q2, q3, q4, q5, q6, -⟩ := sixW_facts hst.out.1
        obtain ⟨p0, p1, p2, p3, p4, p5, p6, -⟩ := sixW_facts hst.out.2.1
        by_cases hlt2 : j < sn.length
        · obtain ⟨b, off, rfl, hc⟩ := (Hr3.out.1.below hst.out.2.2).at hlt2
          obtain ⟨b', off', rfl, hc'⟩ := (Hr3.out.2.below hst.out.2.2).at hlt2
          generalize sn[j] = x at hc hc'
          go_wp2_with fail
          go_quiet (fail)
          go_wp2_with fail
          go_roundw
          case rel => exact ⟨j + 1, q + nq, by go_num, by omega, rfl⟩
          case measure => simp only [intOf]; omega
        · go_wp2_with fail
          go_ret
          exact ⟨rfl, below_drewN hst.out.2.2 q⟩
end Go.Proofs.YthknljeffpbbmaaGreatDoor
namespace Go.Proofs.YthknljeffpbbmaaGreatDoor
open Go Go.RowKit

theorem OwnD.rowOf' {F F2 : Nat → Prop} {w : World} {base : Nat} {e : TypeId} {size : Nat} {a : Option Addr} {n c : Nat} {l : List (List Dat)} (h : OwnD F w base e size (.slice a n c) l) (hF : ∀ b, F b → F2 b) (hF2 : ∀ b, b < w.heap.size → F2 b := by intro b h; exact h) : RowAt F2 w a l :=
  (h.wider (G := F2) hF).rowOf (fun g hg => hF2 g (h.block_lt hg).2)
/-- What Bind hands back, whether a target or none: its parts. -/
def TOut (r : Except Int TargetP) (e : Ending) (w' : World) : Prop := ∃ (p n rr : ByteArray) (VS : List (ByteArray × Vl)) (ds : List LB) (sn : List ByteArray) (a1 : Option Addr) (c1 : Nat) (a2 : Option Addr) (c2 : Nat) (a3 : Option Addr) (c3 : Nat) (k : Int),
  e = .returned (.tuple #[.agg #[.string p, .string n, .string rr, .slice a1 VS.length c1, .slice a2 ds.length c2, .slice a3 sn.length c3], .int .i64 k]) ∧ RowAt (fun _ => True) w' a1 (namedsD VS) ∧ RowAt (fun _ => True) w' a2 (labelsD ds) ∧ StrsAt w' a3 sn ∧ VS.length ≤ 1000 ∧ ds.length ≤ 1000000 ∧ sn.length ≤ 1000 ∧ (∀ q ∈ VS, smallV q.2) ∧
  match r with
  | .ok t => k = 0 ∧ p.data.toList = t.label.pkg ∧ n.data.toList = t.label.name ∧ rr = t.rule ∧ VS = t.vals ∧ ds.map labelOf = t.deps ∧ sn = t.seen
  | .error _ => k ≠ 0 ∧ p = ⟨#[]⟩ ∧ n = ⟨#[]⟩ ∧ rr = ⟨#[]⟩ ∧ VS = [] ∧ ds = [] ∧ sn = []
theorem tout_of_bind {r : Except Int TargetP} {w : World} {e : Ending} {w' : World} (h : PBind r w e w') : TOut r e w' := by
  obtain ⟨-, hq⟩ := h
  cases r with
  | error k =>
    obtain ⟨hk, rfl⟩ := hq
    exact ⟨⟨#[]⟩, ⟨#[]⟩, ⟨#[]⟩, [], [], [], none, 0, none, 0, none, 0, k, rfl, RowAt.nil _, RowAt.nil _, StrsAt.nil _ _, by simp, by simp, by simp, by simp, hk, rfl, rfl, rfl, rfl, rfl, rfl⟩
  | ok t =>
    obtain ⟨p, n, aV, cV, aD, cD, aS, cS, ds, h1, h2, rfl, h3, h4, h5, h6, h7, h8, h9, h10⟩ := hq
    exact ⟨p, n, t.rule, t.vals, ds, t.seen, aV, cV, aD, cD, aS, cS, 0, rfl, h4, h5, h6, h7, h8, h9, fun q hq => check_small (h10 q hq), rfl, h1, h2, rfl, rfl, h3, rfl⟩
theorem labelOf_inj : ∀ {a b : List LB}, a.map labelOf = b.map labelOf → a = b
  | [], [], _ => rfl
  | [], y :: t, h => by simp at h
  | x :: s, [], h => by simp at h
  | x :: s, y :: t, h => by
    simp only [List.map_cons, List.cons.injEq] at h
    obtain ⟨h1, h2⟩ := h
    unfold labelOf at h1
    injection h1 with h3 h4
    rw [labelOf_inj h2, show x = y from Prod.ext (bytes_ext h3) (bytes_ext h4)]
/-- The example holds. -/
def FixedOk : Prop := ∀ w, StdE w → StdB w → Calls Tryz.prog 7 #[] w (PYes w)
set_option maxRecDepth 100000 in
set_option maxHeartbeats 8000000 in
theorem orders_any (hfix : FixedOk) (rn dr : ByteArray) (l : List AttrP) (args : List (ByteArray × Vl)) (pkg : ByteArray) (F : Nat → Prop) (aA aB aC aD : Option Addr) (cA nB cB nC cC cD : Nat) (x1 x2 x3 x4 : Int) (w : World) (hw : StdE w) (hwb : StdB w) (hrz : rn.size ≤ 9223372036854775807) (hl : l.length ≤ 140737488355328) (hla : args.length ≤ 140737488355328) (hcA : l.length ≤ cA)
    (hn : ∀ x ∈ l, x.name.size ≤ 9223372036854775807) (hna : ∀ x ∈ args, x.1.size ≤ 9223372036854775807) (hs : ∀ x ∈ l, smallV x.dflt) (hsa : ∀ q ∈ args, smallV q.2) (hp : pkg.size ≤ 9223372036854775807) (hF : ∀ b, F b → b < w.heap.size) (hr : RowAt F w aA (attrsD l)) (hra : RowAt F w aD (namedsD args)) :
    Calls Tryz.prog 3 #[.agg #[.string rn, .slice aA l.length cA, .slice aB nB cB, .int .i64 x1, .int .i64 x2], .agg #[.string dr, .slice aD args.length cD, .int .i64 x3, .int .i64 x4], .string pkg, .slice aC nC cC] w (PYes w) := by
  obtain ⟨g1, g2, g3, g4⟩ := alloc2 w (.cells #[.string rn, .slice aA l.length cA, .slice aB nB cB, .int .i64 x1, .int .i64 x2] 27) (.cells #[.string dr, .slice aD args.length cD, .int .i64 x3, .int .i64 x4] 30)
  have H0 := Lib.hid (And.intro g1 (And.intro g2 g3))
  have HG := Lib.hid (great16_any rn l F aA aB cA nB cB x1 x2 _ hrz hl hn hs (hr.below g3))
  have HWd := Lib.hid (fun W (h : Below w.heap.size w W) => wide_any dr args F aD cD x3 x4 W hla hna hsa (hra.below h))
  have HX := Lib.hid (fun W (h : Below w.heap.size w W) => hfix W (hw.below h) (hwb.below h))
  have Hr := Lib.hid hr
  have Hra := Lib.hid hra
  have Hs := Lib.hid hs
  have Hsa := Lib.hid hsa
  have HF := Lib.hid hF
  have Hw := Lib.hid (And.intro hw hwb)
  clear g1 g2 g3 g4 hw hwb hn hna hs hsa hF hr hra hfix
  go_enter Tryz.func3, Tryz.ntmps3
  go_wp2_with fail
  refine HG.out.mono ?_
  rintro e w1 ⟨hb1, b1, rfl, hgr⟩
  have H1 := Lib.hid (And.intro (stays H0.out.1 hb1) (And.intro (stays H0.out.2.1 hb1) (H0.out.2.2.trans (hb1.mono H0.out.2.2.size))))
  clear hb1 H0 HG
  cases b1 with
  | true =>
    have HX1 := Lib.hid (HX.out w1 H1.out.2.2)
    clear hgr
    go_wp2_with fail
    refine HX1.out.mono ?_
    rintro e w9 ⟨rfl, hb9⟩
    have Hb9 := Lib.hid (H1.out.2.2.trans (hb9.mono H1.out.2.2.size))
    clear hb9
    go_wp2_with fail
    go_ret
    exact ⟨rfl, Hb9.out⟩
  | false =>
  obtain ⟨hl12, hnm⟩ := hgr rfl
  have Hnm := Lib.hid hnm
  clear hgr hnm
  obtain ⟨d0, d1, d2, d3, d4⟩ := four_facts H1.out.2.1
  have HW1 := Lib.hid (HWd.out w1 H1.out.2.2)
  clear HWd
  go_wp2_with fail
  refine HW1.out.mono ?_
  rintro e w2 ⟨hb2, b2, rfl, hwd⟩
  have H2 := Lib.hid (And.intro (stays H1.out.1 hb2) (And.intro (stays H1.out.2.1 hb2) (H1.out.2.2.trans (hb2.mono H1.out.2.2.size))))
  clear hb2 H1 HW1 d0 d1 d2 d3 d4
  have HX1 := Lib.hid (HX.out w2 H2.out.2.2)
  cases b2 with
  | true =>
    clear hwd
    go_wp2_with fail
    refine HX1.out.mono ?_
    rintro e w9 ⟨rfl, hb9⟩
    have Hb9 := Lib.hid (H2.out.2.2.trans (hb9.mono H2.out.2.2.size))
    clear hb9
    go_wp2_with fail
    go_ret
    exact ⟨rfl, Hb9.out⟩
  | false =>
  have ha12 := hwd rfl
  clear hwd
  by_cases hp100 : (100 : Int) < pkg.size
  · go_wp2_with fail
    refine HX1.out.mono ?_
    rintro e w9 ⟨rfl, hb9⟩
    have Hb9 := Lib.hid (H2.out.2.2.trans (hb9.mono H2.out.2.2.size))
    clear hb9
    go_wp2_with fail
    go_ret
    exact ⟨rfl, Hb9.out⟩
  clear HX1
  obtain ⟨q0, q1, q2, q3, q4, q5, -⟩ := five_facts H2.out.1
  obtain ⟨d0, d1, d2, d3, d4⟩ := four_facts H2.out.2.1
  go_wp2_with fail
  obtain ⟨iN, hiN, hN0, hN1, hN2⟩ := info_parts infoNamed
  obtain ⟨k1, k2, k3, k4⟩ := alloc2 w2 (.cells #[.string rn, .slice aA l.length cA, .slice aC nC cC, .int .i64 x1, .int .i64 x2] 27) (.cells #[.string ⟨#[120]⟩, .slice none 0 0, .int .i64 0, .int .i64 0] 30)
  have hs2 := here H2.out.2.1
  have H3 := Lib.hid (And.intro (stays H2.out.1 k3) (And.intro (stays H2.out.2.1 k3) (And.intro k1 (And.intro k2 (And.intro (H2.out.2.2.trans (k3.mono H2.out.2.2.size)) (Nat.le_of_eq k4.symm))))))
  clear k1 k2 k3 k4 q0 q1 q2 q3 q4 q5 d0 d1 d2 d3 d4 H2
  generalize World.alloc _ _ = W3 at H3 ⊢
  go_loopw [11] (fun i wr => ∃ (m : Nat) (vv : Value), i = .int .i64 ((m : Int) - 1) ∧ m ≤ args.length ∧ Hid (wr.heap[w.heap.size]? = some (.cells #[.string rn, .slice aA l.length cA, .slice aB nB cB, .int .i64 x1, .int .i64 x2] 27 (0, 0)) ∧ wr.heap[w.heap.size + 1]? = some (.cells #[.string dr, .slice aD args.length cD, .int .i64 x3, .int .i64 x4] 30 (0, 0)) ∧ wr.heap[w2.heap.size]? = some (.cells #[.string rn, .slice aA l.length cA, .slice aC nC cC, .int .i64 x1, .int .i64 x2] 27 (0, 0)) ∧ wr.heap[w2.heap.size + 1]? = some (.cells #[.string ⟨#[120]⟩, vv, .int .i64 0, .int .i64 0] 30 (0, 0)) ∧ Below w.heap.size w wr ∧ w2.heap.size + 2 ≤ wr.heap.size ∧ OwnD F wr (w2.heap.size + 2) 39 6 vv (namedsD ((args.drop m).reverse)))) (fun i _ => (intOf i + 1).toNat)
  case atStart => exact ⟨args.length, _, rfl, Nat.le_refl _, Lib.hid ⟨H3.out.1, H3.out.2.1, H3.out.2.2.1, H3.out.2.2.2.1, H3.out.2.2.2.2.1, H3.out.2.2.2.2.2, by rw [List.drop_length]; exact OwnD.nil _ _ _ _ _⟩⟩
  case round =>
    obtain ⟨m, vv, rfl, hm, hS⟩ := hrel
    cases m with
    | succ j =>
      have hlt : j < args.length := by omega
      rw [show (((j + 1 : Nat) : Int) - 1) = (j : Int) by omega]
      have hx0 : args[j]? = some args[j] := List.getElem?_eq_getElem hlt
      have hdr : (args.drop j).reverse = (args.drop (j + 1)).reverse ++ [args[j]] := by rw [List.drop_eq_getElem_cons hlt, List.reverse_cons]
      generalize args[j] = x at hx0 hdr
      obtain ⟨nm, ⟨vk, vn, vs, vl, vks⟩⟩ := x
      have hbd : Below wr.heap.size wr wr.drew := (Below.refl _ wr).drew
      obtain ⟨b, off, y1, e1, y2, e2, hae, hFb, hbl, r0, r1, r2, r3, r4, r5, hs1, hs2'⟩ := (Hra.out.below (hS.out.2.2.2.2.1.trans (hbd.mono hS.out.2.2.2.2.1.size))).named hx0
      subst hae
      have hfb := HF.out b hFb
      obtain ⟨aV, cV, rfl, -⟩ := hS.out.2.2.2.2.2.2.shape
      generalize hgn : (namedsD ((args.drop (j + 1)).reverse)).length = nV at hS ⊢
      have hnV : nV ≤ 12 := by rw [← hgn, namedsD_len, List.length_reverse, List.length_drop]; omega
      have H4 : Hid (wr.drew.heap[w.heap.size]? = some (.cells #[.string rn, .slice aA l.length cA, .slice aB nB cB, .int .i64 x1, .int .i64 x2] 27 (0, 0)) ∧ wr.drew.heap[w.heap.size + 1]? = some (.cells #[.string dr, .slice (some ⟨b, off, none⟩) args.length cD, .int .i64 x3, .int .i64 x4] 30 (0, 0)) ∧ wr.drew.heap[w2.heap.size]? = some (.cells #[.string rn, .slice aA l.length cA, .slice aC nC cC, .int .i64 x1, .int .i64 x2] 27 (0, 0)) ∧ wr.drew.heap[w2.heap.size + 1]? = some (.cells #[.string ⟨#[120]⟩, .slice aV nV cV, .int .i64 0, .int .i64 0] 30 (0, 0)) ∧ Below w.heap.size w wr.drew ∧ w2.heap.size + 2 ≤ wr.drew.heap.size ∧ OwnD F wr.drew (w2.heap.size + 2) 39 6 (.slice aV nV cV) (namedsD ((args.drop (j + 1)).reverse))) := Lib.hid
        ⟨hS.out.1, hS.out.2.1, hS.out.2.2.1, hS.out.2.2.2.1, hS.out.2.2.2.2.1.trans (hbd.mono hS.out.2.2.2.2.1.size), hS.out.2.2.2.2.2.1, hS.out.2.2.2.2.2.2.below hbd⟩
      have Hgn := Lib.hid hgn
      have Hdr := Lib.hid hdr
      have Hag := Lib.hid (And.intro hs1 hs2')
      clear hx0 hdr hbd hS hgn hs1 hs2'
      go_wp2_with fail
      refine wp_region_turns (.s 0 (.s 1 (.s 2 (.s 3 (.s 4 (.s 5 (.s 6 (.h 7 (.h 8 (.s 9 (.h 10 .nil))))))))))) 10 (fun W' => W'.heap[w2.heap.size + 1]? = some (.cells #[.string ⟨#[120]⟩, .slice aV nV cV, .int .i64 0, .int .i64 0] 30 (0, 0)) ∧ W'.heap[w.heap.size + 1]? = some (.cells #[.string dr, .slice (some ⟨b, off, none⟩) args.length cD, .int .i64 x3, .int .i64 x4] 30 (0, 0)) ∧ W'.heap[b]? = wr.drew.heap[b]?) (by kernel_rfl) (by kernel_rfl) (fun c a d v w h => by cases d <;> exact h) ⟨H4.out.2.2.2.1, H4.out.2.1, rfl⟩ ?_
      generalize wr.drew = Wd at *
      refine turn_steady (.pointer (some ⟨w2.heap.size + 1, 1, none⟩)) rfl rfl (fun W' hS => ?_) ?_
      · obtain ⟨z0, z1, z2, z3, z4⟩ := four_facts hS.1
        clear hS
        go_simp
      try simp only [List.getElem_toArray, List.getElem_cons_zero, Act.put, List.setIfInBounds_toArray, List.set_cons_zero, List.set_cons_succ]
      refine turn_steady (.slice aV nV cV) rfl rfl (fun W' hS => ?_) ?_
      · obtain ⟨z0, z1, z2, z3, z4⟩ := four_facts hS.1
        clear hS
        go_simp
      try simp only [List.getElem_toArray, List.getElem_cons_succ, List.getElem_cons_zero, Act.put, List.setIfInBounds_toArray, List.set_cons_zero, List.set_cons_succ]
      refine turn_steady (.pointer (some ⟨w.heap.size + 1, 1, none⟩)) rfl rfl (fun W' hS => ?_) ?_
      · obtain ⟨z0, z1, z2, z3, z4⟩ := four_facts hS.2.1
        clear hS
        go_simp
      try simp only [List.getElem_toArray, List.getElem_cons_succ, List.getElem_cons_zero, Act.put, List.setIfInBounds_toArray, List.set_cons_zero, List.set_cons_succ]
      refine turn_steady (.slice (some ⟨b, off, none⟩) args.length cD) rfl rfl (fun W' hS => ?_) ?_
      · obtain ⟨z0, z1, z2, z3, z4⟩ := four_facts hS.2.1
        clear hS
        go_simp
      try simp only [List.getElem_toArray, List.getElem_cons_succ, List.getElem_cons_zero, Act.put, List.setIfInBounds_toArray, List.set_cons_zero, List.set_cons_succ]
      refine turn_steady (.int .i64 j) rfl rfl (fun W' hS => ?_) ?_
      · go_simp
      try simp only [List.getElem_toArray, List.getElem_cons_succ, List.getElem_cons_zero, Act.put, List.setIfInBounds_toArray, List.set_cons_zero, List.set_cons_succ]
      refine turn_steady (.pointer (some ⟨b, off + j * 6, none⟩)) rfl rfl (fun W' hS => ?_) ?_
      · go_simp
      try simp only [List.getElem_toArray, List.getElem_cons_succ, List.getElem_cons_zero, Act.put, List.setIfInBounds_toArray, List.set_cons_zero, List.set_cons_succ]
      refine turn_steady (.agg #[.string nm, .int .i64 vk, .int .i64 vn, .string vs, .slice y1 vl.length e1, .slice y2 vks.length e2]) rfl rfl (fun W' hS => ?_) ?_
      · have z0 := (World.cell?_of_block (a := ⟨b, off + j * 6, none⟩) hS.2.2).trans r0
        have z1 := (World.cell?_of_block (a := ⟨b, off + j * 6 + 1, none⟩) hS.2.2).trans r1
        have z2 := (World.cell?_of_block (a := ⟨b, off + j * 6 + 2, none⟩) hS.2.2).trans r2
        have z3 := (World.cell?_of_block (a := ⟨b, off + j * 6 + 3, none⟩) hS.2.2).trans r3
        have z4 := (World.cell?_of_block (a := ⟨b, off + j * 6 + 4, none⟩) hS.2.2).trans r4
        have z5 := (World.cell?_of_block (a := ⟨b, off + j * 6 + 5, none⟩) hS.2.2).trans r5
        clear hS
        go_simp
      try simp only [List.getElem_toArray, List.getElem_cons_succ, List.getElem_cons_zero, Act.put, List.setIfInBounds_toArray, List.set_cons_zero, List.set_cons_succ]
      have hbw := Lib.hid (Nat.lt_of_lt_of_le hfb H4.out.2.2.2.2.1.size)
      have hbn : Below Wd.heap.size Wd (Wd.alloc (.cells #[.string nm, .int .i64 vk, .int .i64 vn, .string vs, .slice y1 vl.length e1, .slice y2 vks.length e2] 39)) := (Below.refl _ _).alloc (Nat.le_refl _) _
      have H7 := Lib.hid (And.intro (stays H4.out.1 hbn) (And.intro (stays H4.out.2.1 hbn) (And.intro (stays H4.out.2.2.1 hbn) (And.intro (stays H4.out.2.2.2.1 hbn) (And.intro (H4.out.2.2.2.2.1.trans (hbn.mono H4.out.2.2.2.2.1.size)) (And.intro (H4.out.2.2.2.2.2.2.below hbn) (hbn.block b (by have := H4.out.2.2.2.2.1.size; omega))))))))
      have hob : ∀ g, (Value.slice aV nV cV).ownBlock = some g → w2.heap.size + 2 ≤ g := fun g hg => (H4.out.2.2.2.2.2.2.block_lt hg).1
      have hww := H4.out.2.2.2.2.1.size
      have hw2 : w.heap.size ≤ w2.heap.size := by omega
      have HAg : Hid (AggAt (fun k => F k ∧ (Value.slice aV nV cV).ownBlock ≠ some k) (Wd.alloc (.cells #[.string nm, .int .i64 vk, .int .i64 vn, .string vs, .slice y1 vl.length e1, .slice y2 vks.length e2] 39)) (namedD (nm, .mk vk vn vs vl vks)) [.string nm, .int .i64 vk, .int .i64 vn, .string vs, .slice y1 vl.length e1, .slice y2 vks.length e2]) := Lib.hid (((AggAt.named_mk nm vk vn vs e1 e2 Hag.out.1 Hag.out.2).below hbn).wider fun k hk _ => ⟨hk, fun e => by have := hob k e; have := HF.out k hk; omega⟩)
      have Hnews := Lib.hid (lit_newsP Wd [.string nm, .int .i64 vk, .int .i64 vn, .string vs, .slice y1 vl.length e1, .slice y2 vks.length e2] 39)
      have hsd := H4.out.2.2.2.2.2.1
      refine turn_heavy rfl (fun K7 hK7 => ?_)
      go_wp2_with fail
      refine hK7 _ _ (fun _ => ⟨H7.out.2.2.2.1, H7.out.2.1, H7.out.2.2.2.2.2.2⟩) ?_
      try simp only [List.getElem_toArray, List.getElem_cons_succ, List.getElem_cons_zero, Act.put, List.setIfInBounds_toArray, List.set_cons_zero, List.set_cons_succ]
      refine turn_heavy rfl (fun K8 hK8 => ?_)
      refine (wpList_append_dat rfl _ _ 28 rfl (w2.heap.size + 2) 39 iN _ 6 96 Tryz.underlying28 hiN hN0 hN1 hN2 rfl (by decide) (.slice aV nV cV) F (namedsD ((args.drop (j + 1)).reverse)) rfl H7.out.2.2.2.2.2.1 ⟨Wd.heap.size, 0, none⟩ 1 (namedD (nm, .mk vk vn vs vl vks)) [.string nm, .int .i64 vk, .int .i64 vn, .string vs, .slice y1 vl.length e1, .slice y2 vks.length e2] rfl rfl Hnews.out ?_ HAg.out ?_ ?_ ?_ ?_)
      · simp [Value.oneCell']
      · rw [Hgn.out]; unfold maxLen; omega
      · rw [Hgn.out]; omega
      · simp; omega
      intro v8 w8 hown8 hgrow8 _
      have hown9 : OwnD F w8 (w2.heap.size + 2) 39 6 v8 (namedsD ((args.drop j).reverse)) := by rw [Hdr.out, namedsD_append]; exact hown8
      obtain ⟨aW, cW, rfl, -⟩ := hown9.shape
      generalize (namedsD ((args.drop j).reverse)).length = nW at hown9 hown8 ⊢
      have kp : ∀ k, k < (Wd.alloc (.cells #[.string nm, .int .i64 vk, .int .i64 vn, .string vs, .slice y1 vl.length e1, .slice y2 vks.length e2] 39)).heap.size → k < w2.heap.size + 2 → w8.heap[k]? = (Wd.alloc (.cells #[.string nm, .int .i64 vk, .int .i64 vn, .string vs, .slice y1 vl.length e1, .slice y2 vks.length e2] 39)).heap[k]? := fun k hk hl => hgrow8.block k hk (fun e => by have := hob k e.symm; omega)
      have hz7 : Wd.heap.size < (Wd.alloc (.cells #[.string nm, .int .i64 vk, .int .i64 vn, .string vs, .slice y1 vl.length e1, .slice y2 vks.length e2] 39)).heap.size := by simp
      have E8 : Hid (w8.heap[w.heap.size]? = some (.cells #[.string rn, .slice aA l.length cA, .slice aB nB cB, .int .i64 x1, .int .i64 x2] 27 (0, 0)) ∧ w8.heap[w.heap.size + 1]? = some (.cells #[.string dr, .slice (some ⟨b, off, none⟩) args.length cD, .int .i64 x3, .int .i64 x4] 30 (0, 0)) ∧ w8.heap[w2.heap.size]? = some (.cells #[.string rn, .slice aA l.length cA, .slice aC nC cC, .int .i64 x1, .int .i64 x2] 27 (0, 0)) ∧ w8.heap[w2.heap.size + 1]? = some (.cells #[.string ⟨#[120]⟩, .slice aV nV cV, .int .i64 0, .int .i64 0] 30 (0, 0)) ∧ Below w.heap.size w w8 ∧ w8.heap[b]? = Wd.heap[b]?) := Lib.hid
        ⟨(kp _ (by omega) (by omega)).trans H7.out.1, (kp _ (by omega) (by omega)).trans H7.out.2.1, (kp _ (by omega) (by omega)).trans H7.out.2.2.1, (kp _ (by omega) (by omega)).trans H7.out.2.2.2.1, H7.out.2.2.2.2.1.trans (grown_below hgrow8 (fun g hg => by have := hob g hg; omega) (by omega)), (kp b (by omega) (by omega)).trans H7.out.2.2.2.2.2.2⟩
      have hz8 := hgrow8.size
      have E10 : Hid ((w8.setCell ⟨w2.heap.size + 1, 1, none⟩ (.slice aW nW cW)).heap[w.heap.size]? = some (.cells #[.string rn, .slice aA l.length cA, .slice aB nB cB, .int .i64 x1, .int .i64 x2] 27 (0, 0)) ∧ (w8.setCell ⟨w2.heap.size + 1, 1, none⟩ (.slice aW nW cW)).heap[w.heap.size + 1]? = some (.cells #[.string dr, .slice (some ⟨b, off, none⟩) args.length cD, .int .i64 x3, .int .i64 x4] 30 (0, 0)) ∧ (w8.setCell ⟨w2.heap.size + 1, 1, none⟩ (.slice aW nW cW)).heap[w2.heap.size]? = some (.cells #[.string rn, .slice aA l.length cA, .slice aC nC cC, .int .i64 x1, .int .i64 x2] 27 (0, 0)) ∧ (w8.setCell ⟨w2.heap.size + 1, 1, none⟩ (.slice aW nW cW)).heap[w2.heap.size + 1]? = some (.cells #[.string ⟨#[120]⟩, .slice aW nW cW, .int .i64 0, .int .i64 0] 30 (0, 0)) ∧ Below w.heap.size w (w8.setCell ⟨w2.heap.size + 1, 1, none⟩ (.slice aW nW cW)) ∧ w2.heap.size + 2 ≤ (w8.setCell ⟨w2.heap.size + 1, 1, none⟩ (.slice aW nW cW)).heap.size ∧ OwnD F (w8.setCell ⟨w2.heap.size + 1, 1, none⟩ (.slice aW nW cW)) (w2.heap.size + 2) 39 6 (.slice aW nW cW) (namedsD ((args.drop j).reverse))) := Lib.hid
        ⟨(set_other (by omega) 1 _).trans E8.out.1, (set_other (by omega) 1 _).trans E8.out.2.1, (set_other (by omega) 1 _).trans E8.out.2.2.1, by rw [set_same E8.out.2.2.2.1 1]; rfl, E8.out.2.2.2.2.1.setCell (p := ⟨w2.heap.size + 1, 1, none⟩) (by show _ ≤ w2.heap.size + 1; omega) _, by simp; omega,
          hown9.keep (fun k hk hx => set_other (by
            rcases hx with hx | hx
            · have := HF.out k hx; omega
            · have := (hown9.block_lt hx).1; omega) 1 _) (by simp)⟩
      have hj2 : j ≤ args.length := by omega
      clear hown8 hown9 hgrow8 kp hz7 hz8 H7 H4 HAg Hnews hob hbw hbn Hag
      go_wp2_with fail
      refine hK8 _ _ (fun _ => ⟨E8.out.2.2.2.1, E8.out.2.1, E8.out.2.2.2.2.2⟩) ?_
      try simp only [List.getElem_toArray, List.getElem_cons_succ, List.getElem_cons_zero, Act.put, List.setIfInBounds_toArray, List.set_cons_zero, List.set_cons_succ]
      refine turn_steady (.pointer (some ⟨w2.heap.size + 1, 1, none⟩)) rfl rfl (fun W' hS => ?_) ?_
      · obtain ⟨z0, z1, z2, z3, z4⟩ := four_facts hS.1
        clear hS
        go_simp
      try simp only [List.getElem_toArray, List.getElem_cons_succ, List.getElem_cons_zero, Act.put, List.setIfInBounds_toArray, List.set_cons_zero, List.set_cons_succ]
      obtain ⟨z0, z1, z2, z3, z4, z5, z6, z7, z8⟩ := four_wfacts E8.out.2.2.2.1
      refine turn_heavy rfl (fun K10 hK10 => ?_)
      go_wp2_with fail
      refine hK10 _ _ (fun h => absurd rfl h) ?_
      generalize World.setCell _ _ _ = W10 at E10 ⊢
      refine turn_end ?_
      try simp only [List.getElem_toArray, List.getElem_cons_succ, List.getElem_cons_zero, Act.put, List.setIfInBounds_toArray, List.set_cons_zero, List.set_cons_succ]
      clear z0 z1 z2 z3 z4 z5 z6 z7 z8 E8 r0 r1 r2 r3 r4 r5
      go_wp2_with fail
      go_roundw
      case rel => exact ⟨j, .slice aW nW cW, by go_num, hj2, E10⟩
      case measure => simp only [intOf]; omega
    | zero =>
    have hi1 : (((0 : Nat) : Int) - 1) = -1 := by omega
    rw [hi1]
    clear hi1
    obtain ⟨aV, cV, rfl, -⟩ := hS.out.2.2.2.2.2.2.shape
    have hown := hS.out.2.2.2.2.2.2
    rw [List.drop_zero] at hown
    have hrow := hown.rowOf' (F2 := fun b => b < wr.heap.size) (fun b hb => by have := HF.out b hb; have := hS.out.2.2.2.2.1.size; omega)
    have hlr : (namedsD ((args.drop 0).reverse)).length = args.reverse.length := by rw [List.drop_zero, namedsD_len]
    have hB1 := bind_any rn dr l args pkg F aA aB aD cA nB cB cD x1 x2 x3 x4 wr (Hw.out.2.below hS.out.2.2.2.2.1) (by omega) (by omega) hcA (fun x hx => by have := Hnm.out x hx; omega) Hs.out Hsa.out (by omega) (fun b hb => by have := HF.out b hb; have := hS.out.2.2.2.2.1.size; omega) (Hr.out.below hS.out.2.2.2.2.1) (Hra.out.below hS.out.2.2.2.2.1)
    have HB1 := Lib.hid hB1
    obtain ⟨q0, q1, q2, q3, q4, q5, -⟩ := five_facts hS.out.1
    obtain ⟨d0, d1, d2, d3, d4⟩ := four_facts hS.out.2.1
    have Hrow := Lib.hid hrow
    have Hlr := Lib.hid hlr
    clear hown hrow hlr hB1
    go_wp2_with fail
    refine HB1.out.mono ?_
    rintro e w5 ⟨hb5, hq⟩
    have hto := tout_of_bind ⟨hb5, hq⟩
    obtain ⟨p1, n1, rr1, VS1, ds1, sn1, a1, c1, a2, c2, a3, c3, k1, rfl, R1, R2, R3, L1, L2, L3, L4, M1⟩ := hto
    have HS5 := Lib.hid (And.intro (stays hS.out.1 hb5) (And.intro (stays hS.out.2.2.1 hb5) (And.intro (stays hS.out.2.2.2.1 hb5) (And.intro (hS.out.2.2.2.2.1.trans (hb5.mono hS.out.2.2.2.2.1.size)) (Hrow.out.below hb5)))))
    have hs5 := hb5.size
    have HR := Lib.hid (And.intro R1 (And.intro R2 (And.intro R3 (And.intro L4 M1))))
    have hwr : w2.heap.size + 2 ≤ wr.heap.size := hS.out.2.2.2.2.2.1
    clear hb5 hq hS R1 R2 R3 L4 M1 HB1 q0 q1 q2 q3 q4 q5 d0 d1 d2 d3 d4 Hrow
    obtain ⟨u0, u1, u2, u3, u4, u5, -⟩ := five_facts HS5.out.2.1
    obtain ⟨d0, d1, d2, d3, d4⟩ := four_facts HS5.out.2.2.1
    go_wp2_with fail
    have hn6 : Below w5.heap.size w5 (w5.alloc (.cells #[.string p1, .string n1, .string rr1, .slice a1 VS1.length c1, .slice a2 ds1.length c2, .slice a3 sn1.length c3] 44)) := (Below.refl _ _).alloc (Nat.le_refl _) _
    have hs6 := hn6.size
    have H6 := Lib.hid (And.intro (heap_alloc_new w5 (.cells #[.string p1, .string n1, .string rr1, .slice a1 VS1.length c1, .slice a2 ds1.length c2, .slice a3 sn1.length c3] 44)) (And.intro (HS5.out.2.2.2.1.trans (hn6.mono HS5.out.2.2.2.1.size)) (And.intro (HS5.out.2.2.2.2.below hn6) (And.intro (HR.out.1.below hn6) (And.intro (HR.out.2.1.below hn6) (HR.out.2.2.1.below hn6))))))
    have HR' := Lib.hid HR.out.2.2.2
    clear u0 u1 u2 u3 u4 u5 d0 d1 d2 d3 d4 HS5 hn6 HR
    generalize World.alloc _ _ = W6 at H6 hs6 ⊢
    have hlr2 : (namedsD args.reverse).length = args.reverse.length := namedsD_len _
    have hw6 := H6.out.2.1.size
    have HB2 := Lib.hid (bind_any rn ⟨#[120]⟩ l args.reverse pkg (fun b => b < wr.heap.size) aA aC aV cA nC cC cV x1 x2 0 0 W6 (Hw.out.2.below H6.out.2.1) (by omega) (by rw [List.length_reverse]; omega) hcA (fun x hx => by have := Hnm.out x hx; omega) Hs.out (fun q hq => Hsa.out q (List.mem_reverse.1 hq)) (by omega) (fun b hb => by omega) ((Hr.out.below H6.out.2.1).wider fun b hb _ => by have := HF.out b hb; omega) H6.out.2.2.1)
    rw [hlr2]
    clear hlr2
    refine HB2.out.mono ?_
    rintro e w7 ⟨hb7, hq⟩
    have hto := tout_of_bind ⟨hb7, hq⟩
    obtain ⟨p2, n2, rr2, VS2, ds2, sn2, g1, e1, g2, e2, g3, e3, k2, rfl, R1, R2, R3, L1', L2', L3', L4', M2⟩ := hto
    have hrel : (k1 = 0 ↔ k2 = 0) ∧ p2 = p1 ∧ n2 = n1 ∧ rr2 = rr1 ∧ VS2 = VS1 ∧ ds2 = ds1 ∧ sn2 = sn1 := by
      have M1 := HR'.out.2
      rcases bindL_perm rn l pkg.data.toList (List.reverse_perm args).symm with he | ⟨⟨x, hx⟩, y, hy⟩
      · rw [← he] at M2
        revert M1 M2
        cases bindL rn l args pkg.data.toList with
        | error z =>
          rintro ⟨h2, rfl, rfl, rfl, rfl, rfl, rfl⟩ ⟨h1, rfl, rfl, rfl, rfl, rfl, rfl⟩
          exact ⟨⟨fun h => absurd h h1, fun h => absurd h h2⟩, rfl, rfl, rfl, rfl, rfl, rfl⟩
        | ok t =>
          rintro ⟨h2, h6, h7, h8, h9, h10, h11⟩ ⟨h1, h3, h4, rfl, rfl, h5, rfl⟩
          exact ⟨⟨fun _ => h2, fun _ => h1⟩, bytes_ext (h6.trans h3.symm), bytes_ext (h7.trans h4.symm), h8, h9, labelOf_inj (h10.trans h5.symm), h11⟩
      · rw [hx] at M1
        rw [hy] at M2
        obtain ⟨h1, rfl, rfl, rfl, rfl, rfl, rfl⟩ := M1
        obtain ⟨h2, rfl, rfl, rfl, rfl, rfl, rfl⟩ := M2
        exact ⟨⟨fun h => absurd h h1, fun h => absurd h h2⟩, rfl, rfl, rfl, rfl, rfl, rfl⟩
    obtain ⟨hk, rfl, rfl, rfl, rfl, rfl, rfl⟩ := hrel
    have H7 := Lib.hid (And.intro (stays H6.out.1 hb7) (And.intro (H6.out.2.1.trans (hb7.mono H6.out.2.1.size)) (And.intro (H6.out.2.2.2.1.below hb7) (And.intro (H6.out.2.2.2.2.1.below hb7) (H6.out.2.2.2.2.2.below hb7)))))
    have HR2 := Lib.hid (And.intro R1 (And.intro R2 R3))
    have hs7 := hb7.size
    have HL4 := Lib.hid HR'.out.1
    clear hb7 hq R1 R2 R3 L4' L1' L2' L3' M2 HB2 H6 HR' hw6
    have hsm : (k1 = 0) = (k2 = 0) := propext hk
    have hn8 : Below w7.heap.size w7 (w7.alloc (.cells #[.string p2, .string n2, .string rr2, .slice g1 VS2.length e1, .slice g2 ds2.length e2, .slice g3 sn2.length e3] 44)) := (Below.refl _ _).alloc (Nat.le_refl _) _
    have HT := Lib.hid (sameT_any p2 n2 rr2 VS2 ds2 sn2 L1 L2 L3 HL4.out (fun _ => True) a1 a2 a3 g1 g2 g3 c1 c2 c3 e1 e2 e3 _ (H7.out.2.2.1.below hn8) (H7.out.2.2.2.1.below hn8) (H7.out.2.2.2.2.below hn8) (HR2.out.1.below hn8) (HR2.out.2.1.below hn8) (HR2.out.2.2.below hn8))
    have H8 := Lib.hid (H7.out.2.1.trans (hn8.mono H7.out.2.1.size))
    clear hn8
    obtain ⟨z0, z1, z2, z3, z4, z5, z6, -⟩ := sixW_facts H7.out.1
    by_cases hk1 : k1 = 0
    · have hk2 := hk.1 hk1
      subst hk1 hk2
      clear hk hsm
      go_wp2_with fail
      refine HT.out.mono ?_
      rintro e w9 ⟨rfl, hb9⟩
      have Hb9 := Lib.hid (H8.out.trans (hb9.mono H8.out.size))
      clear hb9
      have HX9 := Lib.hid (HX.out w9 Hb9.out)
      go_wp2_with fail
      refine HX9.out.mono ?_
      rintro e w10 ⟨rfl, hb10⟩
      have Hb10 := Lib.hid (Hb9.out.trans (hb10.mono Hb9.out.size))
      clear hb10
      go_wp2_with fail
      go_ret
      exact ⟨rfl, Hb10.out⟩
    · have hk2 : ¬ k2 = 0 := fun h => hk1 (hk.2 h)
      have hk3 : (k1 == 0) = false := by simpa using hk1
      have hk4 : (k2 == 0) = false := by simpa using hk2
      clear hk hsm
      go_wp2_with fail
      refine HT.out.mono ?_
      rintro e w9 ⟨rfl, hb9⟩
      have Hb9 := Lib.hid (H8.out.trans (hb9.mono H8.out.size))
      clear hb9
      have HX9 := Lib.hid (HX.out w9 Hb9.out)
      go_wp2_with fail
      refine HX9.out.mono ?_
      rintro e w10 ⟨rfl, hb10⟩
      have Hb10 := Lib.hid (Hb9.out.trans (hb10.mono Hb9.out.size))
      clear hb10
      go_wp2_with fail
      go_ret
      exact ⟨rfl, Hb10.out⟩
end Go.Proofs.YthknljeffpbbmaaGreatDoor
