/-
  The walk of the reference's names, at named values that are alike: yes.
  The walk of the reference's SameTarget, at targets that are alike: yes.
  The walk of the statement RulesOrders, given that of its example.
-/
import Derived.Test.YthknljeffpbbmaaGreatDoorMSame11
import Derived.Test.YthknljeffpbbmaaGreatDoorMFixC
import Derived.Test.YthknljeffpbbmaaGreatDoorLexB
open List renaming getElem_toArray → lgA, getElem_cons_succ → lgS, getElem_cons_zero → lgZ, setIfInBounds_toArray → lsA, set_cons_zero → lsZ, set_cons_succ → lsS
namespace Go.Proofs.YthknljeffpbbmaaGreatDoor
open Go Go.RowKit

set_option maxRecDepth 100000 in
set_option maxHeartbeats 4000000 in
theorem names_any (l : List (ByteArray × Vl)) (hl : l.length ≤ 1000) (hs : ∀ q ∈ l, smallV q.2) (F : Nat → Prop) (a1 : Option Addr) (c1 : Nat) (a2 : Option Addr) (c2 : Nat) (w : World) (hr1 : RowAt F w a1 (namedsD l)) (hr2 : RowAt F w a2 (namedsD l)) :
    Calls Tryz.prog 29 #[.slice a1 l.length c1, .slice a2 l.length c2] w (PYes w) := by
  have Hr := Lib.hid (And.intro hr1 hr2)
  have Hs := Lib.hid hs
  clear hr1 hr2 hs
  go_enter Tryz.func29, Tryz.ntmps29
  go_wp2_with fail
  go_loopw [13] (fun i wr => ∃ j : Nat, i = .int .i64 j ∧ j ≤ l.length ∧ Hid (Below w.heap.size w wr)) (fun i _ => l.length - (intOf i).toNat)
  case atStart => exact ⟨0, rfl, Nat.zero_le _, Lib.hid (Below.refl _ _)⟩
  case round =>
    obtain ⟨i, rfl, hi, hst⟩ := hrel
    by_cases hlt : i < l.length
    · have hx0 : l[i]? = some l[i] := List.getElem?_eq_getElem hlt
      generalize l[i] = x at hx0
      have hsx := Hs.out x (List.mem_of_getElem? hx0)
      obtain ⟨nm, ⟨xk, xn, xs, xl, xks⟩⟩ := x
      have hbd : Below w.heap.size w wr.drew := hst.out.trans ((Below.refl _ wr).drew.mono hst.out.size)
      obtain ⟨b, off, x1, e1, x2, e2, hae, -, hbl, n0, r0, r1, r2, r3, r4, hs1, hs2⟩ := (Hr.out.1.below hbd).named hx0
      obtain ⟨b', off', x3, e3, x4, e4, hae', -, hbl', n0', t0, t1, t2, t3, t4, hs3, hs4⟩ := (Hr.out.2.below hbd).named hx0
      subst hae
      subst hae'
      have HK := Lib.hid (same11_any (.mk xk xn xs xl xks) hsx F x1 e1 x2 e2 x3 e3 x4 e4 wr.drew hs1 hs2 hs3 hs4)
      have Hbd := Lib.hid hbd
      clear hx0 hs1 hs2 hs3 hs4 hst hbd hsx
      go_wp2_with fail
      refine wp_region_turns (.s 0 (.s 1 (.s 2 (.s 3 (.s 4 (.s 5 (.s 6 (.s 7 (.s 8 (.s 9 (.s 10 (.s 11 (.s 12 (.s 13 (.s 14 (.s 15 (.s 16 (.s 17 (.s 18 (.s 19 (.s 20 (.s 21 (.h 22 (.s 23 (.s 24 .nil))))))))))))))))))))))))) 99 (fun W' => Below wr.drew.heap.size wr.drew W') (by kernel_rfl) (by kernel_rfl) (fun c a d v w h => by cases d <;> exact h) (Below.refl _ _) ?_
      generalize wr.drew = Wd at *
      refine turn_steady (.slice (some ⟨b, off, none⟩) l.length c1) rfl rfl (fun W' hS => ?_) ?_
      · go_simp
      try simp only [lgA, lgZ, Act.put, lsA, lsZ, lsS]
      refine turn_steady (.int .i64 i) rfl rfl (fun W' hS => ?_) ?_
      · go_simp
      try simp only [lgA, lgS, lgZ, Act.put, lsA, lsZ, lsS]
      refine turn_steady (.pointer (some ⟨b, off + i * 6, none⟩)) rfl rfl (fun W' hS => ?_) ?_
      · go_simp
      try simp only [lgA, lgS, lgZ, Act.put, lsA, lsZ, lsS]
      refine turn_steady (.pointer (some ⟨b, off + i * 6, none⟩)) rfl rfl (fun W' hS => ?_) ?_
      · go_simp
      try simp only [lgA, lgS, lgZ, Act.put, lsA, lsZ, lsS]
      refine turn_steady (.string nm) rfl rfl (fun W' hS => ?_) ?_
      · have z0 := (hS.cell (p := ⟨b, off + i * 6, none⟩) hbl).trans n0
        clear hS
        go_simp
      try simp only [lgA, lgS, lgZ, Act.put, lsA, lsZ, lsS]
      refine turn_steady (.slice (some ⟨b', off', none⟩) l.length c2) rfl rfl (fun W' hS => ?_) ?_
      · go_simp
      try simp only [lgA, lgS, lgZ, Act.put, lsA, lsZ, lsS]
      refine turn_steady (.int .i64 i) rfl rfl (fun W' hS => ?_) ?_
      · go_simp
      try simp only [lgA, lgS, lgZ, Act.put, lsA, lsZ, lsS]
      refine turn_steady (.pointer (some ⟨b', off' + i * 6, none⟩)) rfl rfl (fun W' hS => ?_) ?_
      · go_simp
      try simp only [lgA, lgS, lgZ, Act.put, lsA, lsZ, lsS]
      refine turn_steady (.pointer (some ⟨b', off' + i * 6, none⟩)) rfl rfl (fun W' hS => ?_) ?_
      · go_simp
      try simp only [lgA, lgS, lgZ, Act.put, lsA, lsZ, lsS]
      refine turn_steady (.string nm) rfl rfl (fun W' hS => ?_) ?_
      · have z0 := (hS.cell (p := ⟨b', off' + i * 6, none⟩) hbl').trans n0'
        clear hS
        go_simp
      try simp only [lgA, lgS, lgZ, Act.put, lsA, lsZ, lsS]
      refine turn_steady (.bool false) rfl rfl (fun W' hS => ?_) ?_
      · go_simp
      try simp only [lgA, lgS, lgZ, Act.put, lsA, lsZ, lsS]
      refine turn_steady (.bool false) rfl rfl (fun W' hS => ?_) ?_
      · go_simp
      try simp only [lgA, lgS, lgZ, Act.put, lsA, lsZ, lsS]
      refine turn_steady (.slice (some ⟨b, off, none⟩) l.length c1) rfl rfl (fun W' hS => ?_) ?_
      · go_simp
      try simp only [lgA, lgS, lgZ, Act.put, lsA, lsZ, lsS]
      refine turn_steady (.int .i64 i) rfl rfl (fun W' hS => ?_) ?_
      · go_simp
      try simp only [lgA, lgS, lgZ, Act.put, lsA, lsZ, lsS]
      refine turn_steady (.pointer (some ⟨b, off + i * 6, none⟩)) rfl rfl (fun W' hS => ?_) ?_
      · go_simp
      try simp only [lgA, lgS, lgZ, Act.put, lsA, lsZ, lsS]
      refine turn_steady (.pointer (some ⟨b, off + i * 6 + 1, none⟩)) rfl rfl (fun W' hS => ?_) ?_
      · go_simp
      try simp only [lgA, lgS, lgZ, Act.put, lsA, lsZ, lsS]
      refine turn_steady (.agg #[.int .i64 xk, .int .i64 xn, .string xs, .slice x1 xl.length e1, .slice x2 xks.length e2]) rfl rfl (fun W' hS => ?_) ?_
      · have z0 := (hS.cell (p := ⟨b, off + i * 6 + 1, none⟩) hbl).trans r0
        have z1 := (hS.cell (p := ⟨b, off + i * 6 + 2, none⟩) hbl).trans r1
        have z2 := (hS.cell (p := ⟨b, off + i * 6 + 3, none⟩) hbl).trans r2
        have z3 := (hS.cell (p := ⟨b, off + i * 6 + 4, none⟩) hbl).trans r3
        have z4 := (hS.cell (p := ⟨b, off + i * 6 + 5, none⟩) hbl).trans r4
        clear hS
        go_simp
      try simp only [lgA, lgS, lgZ, Act.put, lsA, lsZ, lsS]
      refine turn_steady (.slice (some ⟨b', off', none⟩) l.length c2) rfl rfl (fun W' hS => ?_) ?_
      · go_simp
      try simp only [lgA, lgS, lgZ, Act.put, lsA, lsZ, lsS]
      refine turn_steady (.int .i64 i) rfl rfl (fun W' hS => ?_) ?_
      · go_simp
      try simp only [lgA, lgS, lgZ, Act.put, lsA, lsZ, lsS]
      refine turn_steady (.pointer (some ⟨b', off' + i * 6, none⟩)) rfl rfl (fun W' hS => ?_) ?_
      · go_simp
      try simp only [lgA, lgS, lgZ, Act.put, lsA, lsZ, lsS]
      refine turn_steady (.pointer (some ⟨b', off' + i * 6 + 1, none⟩)) rfl rfl (fun W' hS => ?_) ?_
      · go_simp
      try simp only [lgA, lgS, lgZ, Act.put, lsA, lsZ, lsS]
      refine turn_steady (.agg #[.int .i64 xk, .int .i64 xn, .string xs, .slice x3 xl.length e3, .slice x4 xks.length e4]) rfl rfl (fun W' hS => ?_) ?_
      · have z0 := (hS.cell (p := ⟨b', off' + i * 6 + 1, none⟩) hbl').trans t0
        have z1 := (hS.cell (p := ⟨b', off' + i * 6 + 2, none⟩) hbl').trans t1
        have z2 := (hS.cell (p := ⟨b', off' + i * 6 + 3, none⟩) hbl').trans t2
        have z3 := (hS.cell (p := ⟨b', off' + i * 6 + 4, none⟩) hbl').trans t3
        have z4 := (hS.cell (p := ⟨b', off' + i * 6 + 5, none⟩) hbl').trans t4
        clear hS
        go_simp
      try simp only [lgA, lgS, lgZ, Act.put, lsA, lsZ, lsS]
      clear n0 n0' r0 r1 r2 r3 r4 t0 t1 t2 t3 t4
      refine turn_heavy rfl (fun K10 hK10 => ?_)
      go_wp2_with fail
      refine HK.out.mono ?_
      rintro e w2 ⟨rfl, hb2⟩
      have Hst2 := Lib.hid (Hbd.out.trans (hb2.mono Hbd.out.size))
      have Hb2 := Lib.hid hb2
      clear hb2 Hbd HK hbl hbl'
      go_wp2_with fail
      refine hK10 _ _ (fun _ => Hb2.out) ?_
      try simp only [lgA, lgS, lgZ, Act.put, lsA, lsZ, lsS]
      refine turn_steady (.bool false) rfl rfl (fun W' hS => ?_) ?_
      · go_simp
      try simp only [lgA, lgS, lgZ, Act.put, lsA, lsZ, lsS]
      refine turn_steady (.bool false) rfl rfl (fun W' hS => ?_) ?_
      · go_simp
      try simp only [lgA, lgS, lgZ, Act.put, lsA, lsZ, lsS]
      refine turn_end ?_
      try simp only [lgA, lgS, lgZ, Act.put, lsA, lsZ, lsS]
      go_wp2_with fail
      go_roundw
      case rel => exact ⟨i + 1, by go_num, by omega, Hst2⟩
      case measure => simp only [intOf]; omega
    · go_wp2_with fail
      go_ret
      exact ⟨rfl, hst.out⟩
end Go.Proofs.YthknljeffpbbmaaGreatDoor
namespace Go.Proofs.YthknljeffpbbmaaGreatDoor
open Go Go.RowKit

set_option maxRecDepth 100000 in
set_option maxHeartbeats 4000000 in
theorem sameT_any (p n rn : ByteArray) (VS : List (ByteArray × Vl)) (ds : List LB) (sn : List ByteArray) (hl : VS.length ≤ 1000) (hdl : ds.length ≤ 1000000) (hsl : sn.length ≤ 1000) (hs : ∀ q ∈ VS, smallV q.2) (F : Nat → Prop) (a1 a2 a3 g1 g2 g3 : Option Addr) (c1 c2 c3 d1 d2 d3 : Nat) (w : World)
    (hr1 : RowAt F w a1 (namedsD VS)) (hr2 : RowAt F w a2 (labelsD ds)) (hr3 : StrsAt w a3 sn) (hg1 : RowAt F w g1 (namedsD VS)) (hg2 : RowAt F w g2 (labelsD ds)) (hg3 : StrsAt w g3 sn) :
    Calls Tryz.prog 9 #[.agg #[.string p, .string n, .string rn, .slice a1 VS.length c1, .slice a2 ds.length c2, .slice a3 sn.length c3], .agg #[.string p, .string n, .string rn, .slice g1 VS.length d1, .slice g2 ds.length d2, .slice g3 sn.length d3]] w (PYes w) := by
  obtain ⟨h1, h2, h3, h4⟩ := alloc2 w (.cells #[.string p, .string n, .string rn, .slice a1 VS.length c1, .slice a2 ds.length c2, .slice a3 sn.length c3] 44) (.cells #[.string p, .string n, .string rn, .slice g1 VS.length d1, .slice g2 ds.length d2, .slice g3 sn.length d3] 44)
  have H0 := Lib.hid (And.intro h1 (And.intro h2 h3))
  have HN := Lib.hid (names_any VS hl hs F a1 c1 g1 d1 _ (hr1.below h3) (hg1.below h3))
  have Hr2 := Lib.hid (And.intro hr2 hg2)
  have Hr3 := Lib.hid (And.intro hr3 hg3)
  have hneq : ∀ W, (binOp .neq 41 (.agg #[.string p, .string n]) (.agg #[.string p, .string n])).run Tryz.prog W = .ok (.bool false) W := fun W => by rw [neqLab]; simp
  clear h1 h2 h3 h4 hr1 hr2 hr3 hg1 hg2 hg3 hs
  go_enter Tryz.func9, Tryz.ntmps9
  go_wp2_with fail
  refine HN.out.mono ?_
  rintro e w1 ⟨rfl, hb1⟩
  have H1 := Lib.hid (And.intro (stays H0.out.1 hb1) (And.intro (stays H0.out.2.1 hb1) (H0.out.2.2.trans (hb1.mono H0.out.2.2.size))))
  clear hb1 H0 HN hneq
  obtain ⟨q0, q1, q2, q3, q4, q5, q6, -⟩ := sixW_facts H1.out.1
  obtain ⟨p0, p1, p2, p3, p4, p5, p6, -⟩ := sixW_facts H1.out.2.1
  go_wp2_with fail
  clear q0 q1 q2 q3 q4 q5 q6 p0 p1 p2 p3 p4 p5 p6
  go_loopw [48] (fun i wr => ∃ j : Nat, i = .int .i64 j ∧ j ≤ ds.length ∧ Hid (wr.heap[w.heap.size]? = some (.cells #[.string p, .string n, .string rn, .slice a1 VS.length c1, .slice a2 ds.length c2, .slice a3 sn.length c3] 44 (0, 0)) ∧ wr.heap[w.heap.size + 1]? = some (.cells #[.string p, .string n, .string rn, .slice g1 VS.length d1, .slice g2 ds.length d2, .slice g3 sn.length d3] 44 (0, 0)) ∧ Below w.heap.size w wr)) (fun i _ => ds.length - (intOf i).toNat)
  case atStart => exact ⟨0, rfl, Nat.zero_le _, H1⟩
  case round =>
    obtain ⟨i, rfl, hi, hst⟩ := hrel
    obtain ⟨q0, q1, q2, q3, q4, q5, q6, -⟩ := sixW_facts hst.out.1
    obtain ⟨p0, p1, p2, p3, p4, p5, p6, -⟩ := sixW_facts hst.out.2.1
    by_cases hlt : i < ds.length
    · have hx0 : ds[i]? = some ds[i] := List.getElem?_eq_getElem hlt
      generalize ds[i] = x at hx0
      obtain ⟨u, v⟩ := x
      have hbd : Below wr.heap.size wr wr.drew := (Below.refl _ wr).drew
      have H2 := Lib.hid (And.intro (stays hst.out.1 hbd) (And.intro (stays hst.out.2.1 hbd) (hst.out.2.2.trans (hbd.mono hst.out.2.2.size))))
      obtain ⟨b, off, hae, -, hbl, r0, r1⟩ := (Hr2.out.1.below H2.out.2.2).label hx0
      obtain ⟨b', off', hae', -, hbl', t0, t1⟩ := (Hr2.out.2.below H2.out.2.2).label hx0
      subst hae
      subst hae'
      have hneq : ∀ W, (binOp .neq 41 (.agg #[.string u, .string v]) (.agg #[.string u, .string v])).run Tryz.prog W = .ok (.bool false) W := fun W => by rw [neqLab]; simp
      have Hneq := Lib.hid hneq
      clear hx0 hbd hneq
      go_wp2_with fail
      refine wp_region_turns (.s 0 (.s 1 (.s 2 (.s 3 (.s 4 (.s 5 (.s 6 (.s 7 (.s 8 (.s 9 (.s 10 .nil))))))))))) 99 (fun W' => Below wr.drew.heap.size wr.drew W') (by kernel_rfl) (by kernel_rfl) (fun c a d v w h => by cases d <;> exact h) (Below.refl _ _) ?_
      clear q0 q1 q2 q3 q4 q5 q6 p0 p1 p2 p3 p4 p5 p6 hst
      generalize wr.drew = Wd at *
      refine turn_steady (.pointer (some ⟨w.heap.size, 4, none⟩)) rfl rfl (fun W' hS => ?_) ?_
      · obtain ⟨z0, z1, z2, z3, z4, z5, z6, -⟩ := sixW_facts (stays H2.out.1 hS)
        clear hS
        go_simp
      try simp only [lgA, lgZ, Act.put, lsA, lsZ, lsS]
      refine turn_steady (.slice (some ⟨b, off, none⟩) ds.length c2) rfl rfl (fun W' hS => ?_) ?_
      · obtain ⟨z0, z1, z2, z3, z4, z5, z6, -⟩ := sixW_facts (stays H2.out.1 hS)
        clear hS
        go_simp
      try simp only [lgA, lgS, lgZ, Act.put, lsA, lsZ, lsS]
      refine turn_steady (.int .i64 i) rfl rfl (fun W' hS => ?_) ?_
      · go_simp
      try simp only [lgA, lgS, lgZ, Act.put, lsA, lsZ, lsS]
      refine turn_steady (.pointer (some ⟨b, off + i * 2, none⟩)) rfl rfl (fun W' hS => ?_) ?_
      · go_simp
      try simp only [lgA, lgS, lgZ, Act.put, lsA, lsZ, lsS]
      refine turn_steady (.agg #[.string u, .string v]) rfl rfl (fun W' hS => ?_) ?_
      · have z0 := (hS.cell (p := ⟨b, off + i * 2, none⟩) hbl).trans r0
        have z1 := (hS.cell (p := ⟨b, off + i * 2 + 1, none⟩) hbl).trans r1
        clear hS
        go_simp
      try simp only [lgA, lgS, lgZ, Act.put, lsA, lsZ, lsS]
      refine turn_steady (.pointer (some ⟨w.heap.size + 1, 4, none⟩)) rfl rfl (fun W' hS => ?_) ?_
      · obtain ⟨z0, z1, z2, z3, z4, z5, z6, -⟩ := sixW_facts (stays H2.out.2.1 hS)
        clear hS
        go_simp
      try simp only [lgA, lgS, lgZ, Act.put, lsA, lsZ, lsS]
      refine turn_steady (.slice (some ⟨b', off', none⟩) ds.length d2) rfl rfl (fun W' hS => ?_) ?_
      · obtain ⟨z0, z1, z2, z3, z4, z5, z6, -⟩ := sixW_facts (stays H2.out.2.1 hS)
        clear hS
        go_simp
      try simp only [lgA, lgS, lgZ, Act.put, lsA, lsZ, lsS]
      refine turn_steady (.int .i64 i) rfl rfl (fun W' hS => ?_) ?_
      · go_simp
      try simp only [lgA, lgS, lgZ, Act.put, lsA, lsZ, lsS]
      refine turn_steady (.pointer (some ⟨b', off' + i * 2, none⟩)) rfl rfl (fun W' hS => ?_) ?_
      · go_simp
      try simp only [lgA, lgS, lgZ, Act.put, lsA, lsZ, lsS]
      refine turn_steady (.agg #[.string u, .string v]) rfl rfl (fun W' hS => ?_) ?_
      · have z0 := (hS.cell (p := ⟨b', off' + i * 2, none⟩) hbl').trans t0
        have z1 := (hS.cell (p := ⟨b', off' + i * 2 + 1, none⟩) hbl').trans t1
        clear hS
        go_simp
      try simp only [lgA, lgS, lgZ, Act.put, lsA, lsZ, lsS]
      refine turn_steady (.bool false) rfl rfl (fun W' hS => ?_) ?_
      · have hneq := Hneq.out W'
        clear hS
        go_simp
      try simp only [lgA, lgS, lgZ, Act.put, lsA, lsZ, lsS]
      refine turn_end ?_
      try simp only [lgA, lgS, lgZ, Act.put, lsA, lsZ, lsS]
      clear r0 r1 t0 t1 Hneq hbl hbl'
      go_wp2_with fail
      go_roundw
      case rel => exact ⟨i + 1, by go_num, by omega, H2⟩
      case measure => simp only [intOf]; omega
    · go_wp2_with fail
      clear q0 q1 q2 q3 q4 q5 q6 p0 p1 p2 p3 p4 p5 p6
      go_loopw [66] (fun i wr2 => ∃ j q : Nat, i = .int .i64 j ∧ j ≤ sn.length ∧ wr2 = wr.drewN q) (fun i _ => sn.length - (intOf i).toNat)
      case atStart => exact ⟨0, 0, rfl, Nat.zero_le _, rfl⟩
      case round =>
        clear hlt hi
        obtain ⟨j, q, rfl, hj, rfl⟩ := hrel
        obtain ⟨q0, q1, q2, q3, q4, q5, q6, -⟩ := sixW_facts hst.out.1
        obtain ⟨p0, p1, p2, p3, p4, p5, p6, -⟩ := sixW_facts hst.out.2.1
        by_cases hlt2 : j < sn.length
        · obtain ⟨b, off, rfl, hc⟩ := (Hr3.out.1.below hst.out.2.2).at hlt2
          obtain ⟨b', off', rfl, hc'⟩ := (Hr3.out.2.below hst.out.2.2).at hlt2
          generalize sn[j] = x at hc hc'
          go_wp2_with fail
          go_quiet (fail)
          go_wp2_with fail
          go_roundw
          case rel => exact ⟨j + 1, q + nq, by go_num, by omega, rfl⟩
          case measure => simp only [intOf]; omega
        · go_wp2_with fail
          go_ret
          exact ⟨rfl, below_drewN hst.out.2.2 q⟩
end Go.Proofs.YthknljeffpbbmaaGreatDoor
namespace Go.Proofs.YthknljeffpbbmaaGreatDoor
open Go Go.RowKit

/-- What Bind hands back, whether a target or none: its parts. -/
def TOut (r : Except Int TargetP) (e : Ending) (w' : World) : Prop := ∃ (p n rr : ByteArray) (VS : List (ByteArray × Vl)) (ds : List LB) (sn : List ByteArray) (a1 : Option Addr) (c1 : Nat) (a2 : Option Addr) (c2 : Nat) (a3 : Option Addr) (c3 : Nat) (k : Int),
  e = .returned (.tuple #[.agg #[.string p, .string n, .string rr, .slice a1 VS.length c1, .slice a2 ds.length c2, .slice a3 sn.length c3], .int .i64 k]) ∧ RowAt (fun _ => True) w' a1 (namedsD VS) ∧ RowAt (fun _ => True) w' a2 (labelsD ds) ∧ StrsAt w' a3 sn ∧ VS.length ≤ 1000 ∧ ds.length ≤ 1000000 ∧ sn.length ≤ 1000 ∧ (∀ q ∈ VS, smallV q.2) ∧
  match r with
  | .ok t => k = 0 ∧ p.data.toList = t.label.pkg ∧ n.data.toList = t.label.name ∧ rr = t.rule ∧ VS = t.vals ∧ ds.map labelOf = t.deps ∧ sn = t.seen
  | .error _ => k ≠ 0 ∧ p = ⟨#[]⟩ ∧ n = ⟨#[]⟩ ∧ rr = ⟨#[]⟩ ∧ VS = [] ∧ ds = [] ∧ sn = []
theorem tout_of_bind {r : Except Int TargetP} {w : World} {e : Ending} {w' : World} (h : PBind r w e w') : TOut r e w' := by
  obtain ⟨-, hq⟩ := h
  cases r with
  | error k =>
    obtain ⟨hk, rfl⟩ := hq
    exact ⟨⟨#[]⟩, ⟨#[]⟩, ⟨#[]⟩, [], [], [], none, 0, none, 0, none, 0, k, rfl, RowAt.nil _, RowAt.nil _, StrsAt.nil _ _, by simp, by simp, by simp, by simp, hk, rfl, rfl, rfl, rfl, rfl, rfl⟩
  | ok t =>
    obtain ⟨p, n, aV, cV, aD, cD, aS, cS, ds, h1, h2, rfl, h3, h4, h5, h6, h7, h8, h9, h10⟩ := hq
    exact ⟨p, n, t.rule, t.vals, ds, t.seen, aV, cV, aD, cD, aS, cS, 0, rfl, h4, h5, h6, h7, h8, h9, fun q hq => check_small (h10 q hq), rfl, h1, h2, rfl, rfl, h3, rfl⟩
/-- The example holds. -/
def FixedOk : Prop := ∀ w, StdE w → StdB w → Calls Tryz.prog 7 #[] w (PYes w)
end Go.Proofs.YthknljeffpbbmaaGreatDoor
