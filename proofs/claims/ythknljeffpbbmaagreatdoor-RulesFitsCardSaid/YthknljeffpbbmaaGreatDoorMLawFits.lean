import Derived.Test.YthknljeffpbbmaaGreatDoorMLawOrdF
import Derived.Test.YthknljeffpbbmaaGreatDoorMFixG
import Derived.Test.YthknljeffpbbmaaGreatDoorMSame0
import Derived.Test.YthknljeffpbbmaaGreatDoorMFitsR
import Derived.Test.YthknljeffpbbmaaGreatDoorMBindFits
open List renaming getElem_toArray → lgA, getElem_cons_succ → lgS, getElem_cons_zero → lgZ, setIfInBounds_toArray → lsA, set_cons_zero → lsZ, set_cons_succ → lsS
namespace Go.Proofs.YthknljeffpbbmaaGreatDoor
open Go Go.RowKit

set_option maxRecDepth 100000 in
theorem eqPlace (a b a' b' : Int) (w : World) : (binOp .eql 25 (.agg #[.int .i64 a, .int .i64 b]) (.agg #[.int .i64 a', .int .i64 b'])).run Tryz.prog w = .ok (.bool (a == a' && b == b')) w := by
  have hS : Tryz.prog.underlying 25 = some (.struct (Tryz.prog.fieldsOf 25)) := by kernel_rfl
  have hp : Tryz.prog.stoodInHeld 25 = false := by kernel_rfl
  have u3 := Tryz.underlying3
  have a3 : ∀ w, (isAgg 3).run Tryz.prog w = .ok false w := fun w => by kernel_rfl
  have z3 : ∀ w, (Go.sizeOf 3).run Tryz.prog w = .ok 1 w := fun w => by kernel_rfl
  rw [run_eql_struct, show (10000 : Nat) = 9999 + 1 from rfl, run_equalIn_agg w 9999 25 _ _ hS hp]
  simp only [Program.fieldsOf, Tryz.underlying25]
  go_simp
  cases h1 : (a == a') <;> cases h2 : (b == b') <;> simp_all
set_option maxRecDepth 100000 in
theorem neqPlace (a b : Int) (w : World) : (binOp .neq 25 (.agg #[.int .i64 a, .int .i64 b]) (.agg #[.int .i64 a, .int .i64 b])).run Tryz.prog w = .ok (.bool false) w := by
  have h := eqPlace a b a b w
  rw [run_eql_struct] at h
  rw [run_neq_struct]
  cases hr : (Op.equalIn 10000 25 (.agg #[.int .i64 a, .int .i64 b]) (.agg #[.int .i64 a, .int .i64 b])).run Tryz.prog w with
  | ok b w' =>
    rw [hr] at h
    simp only [Result.andThen_ok] at h ⊢
    injection h with h1 h2
    injection h1 with h1
    rw [h1, h2]
    simp
  | halt x w' =>
    rw [hr] at h
    cases h

def NdC (n : Nd) : Prop := ∀ (F : Nat → Prop) (a1 : Option Addr) (c1 : Nat) (g1 : Option Addr) (d1 : Nat) (w : World), RowAt F w a1 (ndsD n.kids) → RowAt F w g1 (ndsD n.kids) →
  Calls Tryz.prog 30 #[.agg #[.int .i64 n.kind, .string n.text, .int .i64 n.lnN, .int .i64 n.clN, .slice a1 n.kids.length c1], .agg #[.int .i64 n.kind, .string n.text, .int .i64 n.lnN, .int .i64 n.clN, .slice g1 n.kids.length d1]] w (PYes w)
set_option maxRecDepth 100000 in
set_option maxHeartbeats 4000000 in
theorem nd_node (k : Int) (t : ByteArray) (ln cl : Int) (l : List Nd) (hl : l.length ≤ 140737488355328) (hit : ∀ x ∈ l, NdC x) (F : Nat → Prop) (a1 : Option Addr) (c1 : Nat) (g1 : Option Addr) (d1 : Nat) (w : World) (hr1 : RowAt F w a1 (ndsD l)) (hg1 : RowAt F w g1 (ndsD l)) :
    Calls Tryz.prog 30 #[.agg #[.int .i64 k, .string t, .int .i64 ln, .int .i64 cl, .slice a1 l.length c1], .agg #[.int .i64 k, .string t, .int .i64 ln, .int .i64 cl, .slice g1 l.length d1]] w (PYes w) := by
  obtain ⟨h1, h2, h3, h4⟩ := alloc2 w (.cells #[.int .i64 k, .string t, .int .i64 ln, .int .i64 cl, .slice a1 l.length c1] 83) (.cells #[.int .i64 k, .string t, .int .i64 ln, .int .i64 cl, .slice g1 l.length d1] 83)
  have H0 := Lib.hid (And.intro h1 (And.intro h2 h3))
  have Hr := Lib.hid (And.intro hr1 hg1)
  have Hit := Lib.hid hit
  have hf1 : (k != k) = false := by simp
  have hnp := neqPlace ln cl
  clear h1 h2 h3 h4 hr1 hg1 hit
  go_enter Tryz.func30, Tryz.ntmps30
  go_wp2_with fail
  generalize World.alloc _ _ = W0 at H0 ⊢
  clear hf1 hnp
  go_loopw [37] (fun i wr => ∃ j : Nat, i = .int .i64 j ∧ j ≤ l.length ∧ Hid (wr.heap[w.heap.size]? = some (.cells #[.int .i64 k, .string t, .int .i64 ln, .int .i64 cl, .slice a1 l.length c1] 83 (0, 0)) ∧ wr.heap[w.heap.size + 1]? = some (.cells #[.int .i64 k, .string t, .int .i64 ln, .int .i64 cl, .slice g1 l.length d1] 83 (0, 0)) ∧ Below w.heap.size w wr)) (fun i _ => l.length - (intOf i).toNat)
  case atStart => exact ⟨0, rfl, Nat.zero_le _, H0⟩
  case round =>
    obtain ⟨i, rfl, hi, hst⟩ := hrel
    obtain ⟨q0, q1, q2, q3, q4, q5, -⟩ := five_facts hst.out.1
    obtain ⟨p0, p1, p2, p3, p4, p5, -⟩ := five_facts hst.out.2.1
    by_cases hlt2 : i < l.length
    · have hx0 : l[i]? = some l[i] := List.getElem?_eq_getElem hlt2
      generalize l[i] = x at hx0
      have HC := Lib.hid (Hit.out x (List.mem_of_getElem? hx0))
      obtain ⟨xk, xt, xl, xc, xs⟩ := x
      have hbd : Below wr.heap.size wr wr.drew := (Below.refl _ wr).drew
      have H2 := Lib.hid (And.intro (stays hst.out.1 hbd) (And.intro (stays hst.out.2.1 hbd) (hst.out.2.2.trans (hbd.mono hst.out.2.2.size))))
      obtain ⟨b, off, x1, e1, hae, -, hbl, r0, r1, r2, r3, r4, hs1⟩ := (Hr.out.1.below H2.out.2.2).nd hx0
      obtain ⟨b', off', x3, e3, hae', -, hbl', t0, t1, t2, t3, t4, hs3⟩ := (Hr.out.2.below H2.out.2.2).nd hx0
      subst hae
      subst hae'
      have HK := Lib.hid (HC.out F x1 e1 x3 e3 wr.drew hs1 hs3)
      clear hx0 HC hs1 hs3 hst hbd q0 q1 q2 q3 q4 q5 p0 p1 p2 p3 p4 p5
      go_wp2_with fail
      refine wp_region_turns (.s 0 (.s 1 (.s 2 (.s 3 (.s 4 (.s 5 (.s 6 (.s 7 (.s 8 (.s 9 (.h 10 (.s 11 .nil)))))))))))) 99 (fun W' => Below wr.drew.heap.size wr.drew W') (by kernel_rfl) (by kernel_rfl) (fun c a d v w h => by cases d <;> exact h) (Below.refl _ _) ?_
      generalize wr.drew = Wd at *
      refine turn_steady (.pointer (some ⟨w.heap.size, 4, none⟩)) rfl rfl (fun W' hS => ?_) ?_
      · obtain ⟨z0, z1, z2, z3, z4, z5, -⟩ := five_facts (stays H2.out.1 hS)
        clear hS
        go_simp
      try simp only [lgA, lgZ, Act.put, lsA, lsZ, lsS]
      refine turn_steady (.slice (some ⟨b, off, none⟩) l.length c1) rfl rfl (fun W' hS => ?_) ?_
      · obtain ⟨z0, z1, z2, z3, z4, z5, -⟩ := five_facts (stays H2.out.1 hS)
        clear hS
        go_simp
      try simp only [lgA, lgS, lgZ, Act.put, lsA, lsZ, lsS]
      refine turn_steady (.int .i64 i) rfl rfl (fun W' hS => ?_) ?_
      · go_simp
      try simp only [lgA, lgS, lgZ, Act.put, lsA, lsZ, lsS]
      refine turn_steady (.pointer (some ⟨b, off + i * 5, none⟩)) rfl rfl (fun W' hS => ?_) ?_
      · go_simp
      try simp only [lgA, lgS, lgZ, Act.put, lsA, lsZ, lsS]
      refine turn_steady (.agg #[.int .i64 xk, .string xt, .int .i64 xl, .int .i64 xc, .slice x1 xs.length e1]) rfl rfl (fun W' hS => ?_) ?_
      · have z0 := (hS.cell (p := ⟨b, off + i * 5, none⟩) hbl).trans r0
        have z1 := (hS.cell (p := ⟨b, off + i * 5 + 1, none⟩) hbl).trans r1
        have z2 := (hS.cell (p := ⟨b, off + i * 5 + 2, none⟩) hbl).trans r2
        have z3 := (hS.cell (p := ⟨b, off + i * 5 + 3, none⟩) hbl).trans r3
        have z4 := (hS.cell (p := ⟨b, off + i * 5 + 4, none⟩) hbl).trans r4
        clear hS
        go_simp
      try simp only [lgA, lgS, lgZ, Act.put, lsA, lsZ, lsS]
      refine turn_steady (.pointer (some ⟨w.heap.size + 1, 4, none⟩)) rfl rfl (fun W' hS => ?_) ?_
      · obtain ⟨z0, z1, z2, z3, z4, z5, -⟩ := five_facts (stays H2.out.2.1 hS)
        clear hS
        go_simp
      try simp only [lgA, lgS, lgZ, Act.put, lsA, lsZ, lsS]
      refine turn_steady (.slice (some ⟨b', off', none⟩) l.length d1) rfl rfl (fun W' hS => ?_) ?_
      · obtain ⟨z0, z1, z2, z3, z4, z5, -⟩ := five_facts (stays H2.out.2.1 hS)
        clear hS
        go_simp
      try simp only [lgA, lgS, lgZ, Act.put, lsA, lsZ, lsS]
      refine turn_steady (.int .i64 i) rfl rfl (fun W' hS => ?_) ?_
      · go_simp
      try simp only [lgA, lgS, lgZ, Act.put, lsA, lsZ, lsS]
      refine turn_steady (.pointer (some ⟨b', off' + i * 5, none⟩)) rfl rfl (fun W' hS => ?_) ?_
      · go_simp
      try simp only [lgA, lgS, lgZ, Act.put, lsA, lsZ, lsS]
      refine turn_steady (.agg #[.int .i64 xk, .string xt, .int .i64 xl, .int .i64 xc, .slice x3 xs.length e3]) rfl rfl (fun W' hS => ?_) ?_
      · have z0 := (hS.cell (p := ⟨b', off' + i * 5, none⟩) hbl').trans t0
        have z1 := (hS.cell (p := ⟨b', off' + i * 5 + 1, none⟩) hbl').trans t1
        have z2 := (hS.cell (p := ⟨b', off' + i * 5 + 2, none⟩) hbl').trans t2
        have z3 := (hS.cell (p := ⟨b', off' + i * 5 + 3, none⟩) hbl').trans t3
        have z4 := (hS.cell (p := ⟨b', off' + i * 5 + 4, none⟩) hbl').trans t4
        clear hS
        go_simp
      try simp only [lgA, lgS, lgZ, Act.put, lsA, lsZ, lsS]
      clear r0 r1 r2 r3 r4 t0 t1 t2 t3 t4
      refine turn_heavy rfl (fun K10 hK10 => ?_)
      go_wp2_with fail
      refine HK.out.mono ?_
      rintro e w2 ⟨rfl, hb2⟩
      have Hst2 := Lib.hid (And.intro (stays H2.out.1 hb2) (And.intro (stays H2.out.2.1 hb2) (H2.out.2.2.trans (hb2.mono H2.out.2.2.size))))
      have Hb2 := Lib.hid hb2
      clear hb2 H2 HK hbl hbl'
      go_wp2_with fail
      refine hK10 _ _ (fun _ => Hb2.out) ?_
      try simp only [lgA, lgS, lgZ, Act.put, lsA, lsZ, lsS]
      refine turn_steady (.bool false) rfl rfl (fun W' hS => ?_) ?_
      · go_simp
      try simp only [lgA, lgS, lgZ, Act.put, lsA, lsZ, lsS]
      refine turn_end ?_
      try simp only [lgA, lgS, lgZ, Act.put, lsA, lsZ, lsS]
      go_wp2_with fail
      go_roundw
      case rel => exact ⟨i + 1, by go_num, by omega, Hst2⟩
      case measure => simp only [intOf]; omega
    · go_wp2_with fail
      go_ret
      exact ⟨rfl, hst.out.2.2⟩
theorem nd_any (v : Nd) : fewN v → NdC v :=
  Nd.rec (motive_1 := fun v => fewN v → NdC v) (motive_2 := fun l => fewNs l → ∀ x ∈ l, NdC x)
    (fun k t ln cl l ih h F a1 c1 g1 d1 w hr1 hg1 => by rw [fewN] at h; exact nd_node k t ln cl l h.1 (ih h.2) F a1 c1 g1 d1 w hr1 hg1)
    (fun _ x hx => by cases hx)
    (fun v t hv ht h x hx => by
      rw [fewNs] at h
      rcases List.mem_cons.1 hx with rfl | hx
      · exact hv h.1
      · exact ht h.2 x hx) v
theorem neqInt (a : Int) : (a != a) = false := by simp

set_option maxRecDepth 100000 in
set_option maxHeartbeats 8000000 in
theorem sameRule_any (rn : ByteArray) (l : List AttrP) (body : List Nd) (x1 x2 : Int) (hl : l.length ≤ 140737488355328) (hs : ∀ x ∈ l, smallV x.dflt) (hbn : fewNs body) (hbl : body.length ≤ 140737488355328) (F : Nat → Prop) (a1 a2 g1 g2 : Option Addr) (c1 c2 d1 d2 : Nat) (w : World)
    (hr1 : RowAt F w a1 (attrsD l)) (hr2 : RowAt F w a2 (ndsD body)) (hg1 : RowAt F w g1 (attrsD l)) (hg2 : RowAt F w g2 (ndsD body)) :
    Calls Tryz.prog 11 #[.agg #[.string rn, .slice a1 l.length c1, .slice a2 body.length c2, .int .i64 x1, .int .i64 x2], .agg #[.string rn, .slice g1 l.length d1, .slice g2 body.length d2, .int .i64 x1, .int .i64 x2]] w (PYes w) := by
  obtain ⟨h1, h2, h3, h4⟩ := alloc2 w (.cells #[.string rn, .slice a1 l.length c1, .slice a2 body.length c2, .int .i64 x1, .int .i64 x2] 27) (.cells #[.string rn, .slice g1 l.length d1, .slice g2 body.length d2, .int .i64 x1, .int .i64 x2] 27)
  have H0 := Lib.hid (And.intro h1 (And.intro h2 h3))
  have HN := Lib.hid (nd_any (.mk 0 ⟨#[]⟩ 0 0 body) (by rw [fewN]; exact ⟨hbl, hbn⟩) F a2 c2 g2 d2 _ (hr2.below h3) (hg2.below h3))
  have Hr := Lib.hid (And.intro hr1 hg1)
  have Hs := Lib.hid hs
  have hnp := neqPlace x1 x2
  clear h1 h2 h3 h4 hr1 hr2 hg1 hg2 hs hbn hbl
  go_enter Tryz.func11, Tryz.ntmps11
  go_wp2_with fail
  refine HN.out.mono ?_
  rintro e w1 ⟨rfl, hb1⟩
  have H1 := Lib.hid (And.intro (stays H0.out.1 hb1) (And.intro (stays H0.out.2.1 hb1) (H0.out.2.2.trans (hb1.mono H0.out.2.2.size))))
  clear hb1 H0 HN hnp
  obtain ⟨q0, q1, q2, q3, q4, q5, -⟩ := five_facts H1.out.1
  go_wp2_with fail
  clear q0 q1 q2 q3 q4 q5
  go_loopw [42] (fun i wr => ∃ j : Nat, i = .int .i64 j ∧ j ≤ l.length ∧ Hid (wr.heap[w.heap.size]? = some (.cells #[.string rn, .slice a1 l.length c1, .slice a2 body.length c2, .int .i64 x1, .int .i64 x2] 27 (0, 0)) ∧ wr.heap[w.heap.size + 1]? = some (.cells #[.string rn, .slice g1 l.length d1, .slice g2 body.length d2, .int .i64 x1, .int .i64 x2] 27 (0, 0)) ∧ Below w.heap.size w wr)) (fun i _ => l.length - (intOf i).toNat)
  case atStart => exact ⟨0, rfl, Nat.zero_le _, H1⟩
  case round =>
    obtain ⟨i, rfl, hi, hst⟩ := hrel
    by_cases hlt2 : i < l.length
    · have hx0 : l[i]? = some l[i] := List.getElem?_eq_getElem hlt2
      generalize l[i] = x at hx0
      have hsx := Hs.out x (List.mem_of_getElem? hx0)
      obtain ⟨nm, ty, mu, ⟨xk, xn, xs, xl, xks⟩⟩ := x
      have hsx' : smallV (.mk xk xn xs xl xks) := hsx
      have hbd : Below wr.heap.size wr wr.drew := (Below.refl _ wr).drew
      have H2 := Lib.hid (And.intro (stays hst.out.1 hbd) (And.intro (stays hst.out.2.1 hbd) (hst.out.2.2.trans (hbd.mono hst.out.2.2.size))))
      obtain ⟨b, off, u1, e1, u2, e2, hae, -, hbl, r0, r1, r2, r3, r4, r5, r6, r7, hs1, hs2⟩ := (Hr.out.1.below H2.out.2.2).attr hx0
      obtain ⟨b', off', u3, e3, u4, e4, hae', -, hbl', t0, t1, t2, t3, t4, t5, t6, t7, hs3, hs4⟩ := (Hr.out.2.below H2.out.2.2).attr hx0
      subst hae
      subst hae'
      have HS := Lib.hid (fun W (h : Below wr.drew.heap.size wr.drew W) => same11_any _ hsx' F u1 e1 u2 e2 u3 e3 u4 e4 W (hs1.below h) (hs2.below h) (hs3.below h) (hs4.below h))
      clear hx0 hs1 hs2 hs3 hs4 hst hbd hsx hsx'
      go_wp2_with fail
      go_cut [6, 7] from 45 to 54 (fun v u wc => ∃ gx gy : Nat, v = .pointer (some ⟨gx, 0, none⟩) ∧ u = .pointer (some ⟨gy, 0, none⟩) ∧ Hid (wc.heap[gx]? = some (.cells #[.string nm, .int .i64 ty, .bool mu, .int .i64 xk, .int .i64 xn, .string xs, .slice u1 xl.length e1, .slice u2 xks.length e2] 55 (0, 0)) ∧ wc.heap[gy]? = some (.cells #[.string nm, .int .i64 ty, .bool mu, .int .i64 xk, .int .i64 xn, .string xs, .slice u3 xl.length e3, .slice u4 xks.length e4] 55 (0, 0)) ∧ Below wr.drew.heap.size wr.drew wc))
      case first =>
        refine wp_region_turns (.s 0 (.s 1 (.s 2 (.s 3 (.s 4 (.s 5 (.s 6 (.s 7 (.s 8 (.s 9 (.b 10 (.h 11 (.h 12 (.h 13 .nil))) 11 (.h 10 (.h 12 (.h 13 .nil)))))))))))))) 13 (fun W' => Below wr.drew.heap.size wr.drew W') (by kernel_rfl) (by kernel_rfl) (fun c a d v w h => by cases d <;> exact h) (Below.refl _ _) ?_
        generalize wr.drew = Wd at *
        refine turn_steady (.pointer (some ⟨w.heap.size, 1, none⟩)) rfl rfl (fun W' hS => ?_) ?_
        · obtain ⟨z0, z1, z2, z3, z4, z5, -⟩ := five_facts (stays H2.out.1 hS)
          clear hS
          go_simp
        try simp only [lgA, lgZ, Act.put, lsA, lsZ, lsS]
        refine turn_steady (.slice (some ⟨b, off, none⟩) l.length c1) rfl rfl (fun W' hS => ?_) ?_
        · obtain ⟨z0, z1, z2, z3, z4, z5, -⟩ := five_facts (stays H2.out.1 hS)
          clear hS
          go_simp
        try simp only [lgA, lgS, lgZ, Act.put, lsA, lsZ, lsS]
        refine turn_steady (.int .i64 i) rfl rfl (fun W' hS => ?_) ?_
        · go_simp
        try simp only [lgA, lgS, lgZ, Act.put, lsA, lsZ, lsS]
        refine turn_steady (.pointer (some ⟨b, off + i * 8, none⟩)) rfl rfl (fun W' hS => ?_) ?_
        · go_simp
        try simp only [lgA, lgS, lgZ, Act.put, lsA, lsZ, lsS]
        refine turn_steady (.agg #[.string nm, .int .i64 ty, .bool mu, .int .i64 xk, .int .i64 xn, .string xs, .slice u1 xl.length e1, .slice u2 xks.length e2]) rfl rfl (fun W' hS => ?_) ?_
        · have z0 := (hS.cell (p := ⟨b, off + i * 8, none⟩) hbl).trans r0
          have z1 := (hS.cell (p := ⟨b, off + i * 8 + 1, none⟩) hbl).trans r1
          have z2 := (hS.cell (p := ⟨b, off + i * 8 + 2, none⟩) hbl).trans r2
          have z3 := (hS.cell (p := ⟨b, off + i * 8 + 3, none⟩) hbl).trans r3
          have z4 := (hS.cell (p := ⟨b, off + i * 8 + 4, none⟩) hbl).trans r4
          have z5 := (hS.cell (p := ⟨b, off + i * 8 + 5, none⟩) hbl).trans r5
          have z6 := (hS.cell (p := ⟨b, off + i * 8 + 6, none⟩) hbl).trans r6
          have z7 := (hS.cell (p := ⟨b, off + i * 8 + 7, none⟩) hbl).trans r7
          clear hS
          go_simp
        try simp only [lgA, lgS, lgZ, Act.put, lsA, lsZ, lsS]
        refine turn_steady (.pointer (some ⟨w.heap.size + 1, 1, none⟩)) rfl rfl (fun W' hS => ?_) ?_
        · obtain ⟨z0, z1, z2, z3, z4, z5, -⟩ := five_facts (stays H2.out.2.1 hS)
          clear hS
          go_simp
        try simp only [lgA, lgS, lgZ, Act.put, lsA, lsZ, lsS]
        refine turn_steady (.slice (some ⟨b', off', none⟩) l.length d1) rfl rfl (fun W' hS => ?_) ?_
        · obtain ⟨z0, z1, z2, z3, z4, z5, -⟩ := five_facts (stays H2.out.2.1 hS)
          clear hS
          go_simp
        try simp only [lgA, lgS, lgZ, Act.put, lsA, lsZ, lsS]
        refine turn_steady (.int .i64 i) rfl rfl (fun W' hS => ?_) ?_
        · go_simp
        try simp only [lgA, lgS, lgZ, Act.put, lsA, lsZ, lsS]
        refine turn_steady (.pointer (some ⟨b', off' + i * 8, none⟩)) rfl rfl (fun W' hS => ?_) ?_
        · go_simp
        try simp only [lgA, lgS, lgZ, Act.put, lsA, lsZ, lsS]
        refine turn_steady (.agg #[.string nm, .int .i64 ty, .bool mu, .int .i64 xk, .int .i64 xn, .string xs, .slice u3 xl.length e3, .slice u4 xks.length e4]) rfl rfl (fun W' hS => ?_) ?_
        · have z0 := (hS.cell (p := ⟨b', off' + i * 8, none⟩) hbl').trans t0
          have z1 := (hS.cell (p := ⟨b', off' + i * 8 + 1, none⟩) hbl').trans t1
          have z2 := (hS.cell (p := ⟨b', off' + i * 8 + 2, none⟩) hbl').trans t2
          have z3 := (hS.cell (p := ⟨b', off' + i * 8 + 3, none⟩) hbl').trans t3
          have z4 := (hS.cell (p := ⟨b', off' + i * 8 + 4, none⟩) hbl').trans t4
          have z5 := (hS.cell (p := ⟨b', off' + i * 8 + 5, none⟩) hbl').trans t5
          have z6 := (hS.cell (p := ⟨b', off' + i * 8 + 6, none⟩) hbl').trans t6
          have z7 := (hS.cell (p := ⟨b', off' + i * 8 + 7, none⟩) hbl').trans t7
          clear hS
          go_simp
        try simp only [lgA, lgS, lgZ, Act.put, lsA, lsZ, lsS]
        clear r0 r1 r2 r3 r4 r5 r6 r7 t0 t1 t2 t3 t4 t5 t6 t7 HS
        obtain ⟨n1, n2, n3, n4⟩ := alloc2 Wd (.cells #[.string ⟨#[]⟩, .int .i64 0, .bool false, .int .i64 0, .int .i64 0, .string ⟨#[]⟩, .slice none 0 0, .slice none 0 0] 55) (.cells #[.string ⟨#[]⟩, .int .i64 0, .bool false, .int .i64 0, .int .i64 0, .string ⟨#[]⟩, .slice none 0 0, .slice none 0 0] 55)
        have B0 := Lib.hid (And.intro ((Below.refl Wd.heap.size Wd).alloc (Nat.le_refl _) (.cells #[.string ⟨#[]⟩, .int .i64 0, .bool false, .int .i64 0, .int .i64 0, .string ⟨#[]⟩, .slice none 0 0, .slice none 0 0] 55)) (And.intro n3 (And.intro n1 n2)))
        clear n1 n2 n3 n4
        refine turn_both rfl rfl (fun K10 hK10 => ?_) (fun K11 hK11 => ?_)
        · go_wp2_with fail
          refine hK10 _ _ (fun _ => B0.out.1) ?_
          try simp only [lgA, lgS, lgZ, Act.put, lsA, lsZ, lsS]
          refine turn_heavy rfl (fun K11 hK11 => ?_)
          go_wp2_with fail
          refine hK11 _ _ (fun _ => B0.out.2.1) ?_
          try simp only [lgA, lgS, lgZ, Act.put, lsA, lsZ, lsS]
          refine turn_heavy rfl (fun K12 hK12 => ?_)
          go_wp2_with fail
          refine hK12 _ _ (fun _ => (alloc2 Wd (.cells #[.string nm, .int .i64 ty, .bool mu, .int .i64 xk, .int .i64 xn, .string xs, .slice u1 xl.length e1, .slice u2 xks.length e2] 55) (.cells #[.string ⟨#[]⟩, .int .i64 0, .bool false, .int .i64 0, .int .i64 0, .string ⟨#[]⟩, .slice none 0 0, .slice none 0 0] 55)).2.2.1) ?_
          try simp only [lgA, lgS, lgZ, Act.put, lsA, lsZ, lsS]
          refine turn_heavy rfl (fun K13 hK13 => ?_)
          go_wp2_with fail
          refine hK13 _ _ (fun h => absurd rfl h) ?_
          refine turn_end ?_
          try simp only [lgA, lgS, lgZ, Act.put, lsA, lsZ, lsS]
          go_wp2_with fail
          go_meet
          case rel => exact ⟨Wd.heap.size, Wd.heap.size + 1, rfl, rfl, Lib.hid ⟨(alloc2 Wd (.cells #[.string nm, .int .i64 ty, .bool mu, .int .i64 xk, .int .i64 xn, .string xs, .slice u1 xl.length e1, .slice u2 xks.length e2] 55) (.cells #[.string nm, .int .i64 ty, .bool mu, .int .i64 xk, .int .i64 xn, .string xs, .slice u3 xl.length e3, .slice u4 xks.length e4] 55)).1, (alloc2 Wd (.cells #[.string nm, .int .i64 ty, .bool mu, .int .i64 xk, .int .i64 xn, .string xs, .slice u1 xl.length e1, .slice u2 xks.length e2] 55) (.cells #[.string nm, .int .i64 ty, .bool mu, .int .i64 xk, .int .i64 xn, .string xs, .slice u3 xl.length e3, .slice u4 xks.length e4] 55)).2.1, (alloc2 Wd (.cells #[.string nm, .int .i64 ty, .bool mu, .int .i64 xk, .int .i64 xn, .string xs, .slice u1 xl.length e1, .slice u2 xks.length e2] 55) (.cells #[.string nm, .int .i64 ty, .bool mu, .int .i64 xk, .int .i64 xn, .string xs, .slice u3 xl.length e3, .slice u4 xks.length e4] 55)).2.2.1⟩⟩
        · go_wp2_with fail
          refine hK11 _ _ (fun _ => B0.out.1) ?_
          try simp only [lgA, lgS, lgZ, Act.put, lsA, lsZ, lsS]
          refine turn_heavy rfl (fun K10 hK10 => ?_)
          go_wp2_with fail
          refine hK10 _ _ (fun _ => B0.out.2.1) ?_
          try simp only [lgA, lgS, lgZ, Act.put, lsA, lsZ, lsS]
          refine turn_heavy rfl (fun K12 hK12 => ?_)
          go_wp2_with fail
          refine hK12 _ _ (fun _ => (alloc2 Wd (.cells #[.string ⟨#[]⟩, .int .i64 0, .bool false, .int .i64 0, .int .i64 0, .string ⟨#[]⟩, .slice none 0 0, .slice none 0 0] 55) (.cells #[.string nm, .int .i64 ty, .bool mu, .int .i64 xk, .int .i64 xn, .string xs, .slice u1 xl.length e1, .slice u2 xks.length e2] 55)).2.2.1) ?_
          try simp only [lgA, lgS, lgZ, Act.put, lsA, lsZ, lsS]
          refine turn_heavy rfl (fun K13 hK13 => ?_)
          go_wp2_with fail
          refine hK13 _ _ (fun h => absurd rfl h) ?_
          refine turn_end ?_
          try simp only [lgA, lgS, lgZ, Act.put, lsA, lsZ, lsS]
          go_wp2_with fail
          go_meet
          case rel => exact ⟨Wd.heap.size + 1, Wd.heap.size, rfl, rfl, Lib.hid ⟨(alloc2 Wd (.cells #[.string nm, .int .i64 ty, .bool mu, .int .i64 xk, .int .i64 xn, .string xs, .slice u3 xl.length e3, .slice u4 xks.length e4] 55) (.cells #[.string nm, .int .i64 ty, .bool mu, .int .i64 xk, .int .i64 xn, .string xs, .slice u1 xl.length e1, .slice u2 xks.length e2] 55)).2.1, (alloc2 Wd (.cells #[.string nm, .int .i64 ty, .bool mu, .int .i64 xk, .int .i64 xn, .string xs, .slice u3 xl.length e3, .slice u4 xks.length e4] 55) (.cells #[.string nm, .int .i64 ty, .bool mu, .int .i64 xk, .int .i64 xn, .string xs, .slice u1 xl.length e1, .slice u2 xks.length e2] 55)).1, (alloc2 Wd (.cells #[.string nm, .int .i64 ty, .bool mu, .int .i64 xk, .int .i64 xn, .string xs, .slice u3 xl.length e3, .slice u4 xks.length e4] 55) (.cells #[.string nm, .int .i64 ty, .bool mu, .int .i64 xk, .int .i64 xn, .string xs, .slice u1 xl.length e1, .slice u2 xks.length e2] 55)).2.2.1⟩⟩
      case rest =>
        obtain ⟨gx, gy, rfl, rfl, hcut⟩ := hcut
        have H3 := Lib.hid (And.intro (stays H2.out.1 hcut.out.2.2) (And.intro (stays H2.out.2.1 hcut.out.2.2) (H2.out.2.2.trans (hcut.out.2.2.mono H2.out.2.2.size))))
        have HS1 := Lib.hid (HS.out _ hcut.out.2.2)
        obtain ⟨y0, y1, y2, y3, y4, y5, y6, y7, y8, -⟩ := a8w_facts hcut.out.1
        obtain ⟨v0, v1, v2, v3, v4, v5, v6, v7, v8, -⟩ := a8w_facts hcut.out.2.1
        have hf1 : (ty != ty) = false := by simp
        have hf2 : (mu != mu) = false := by simp
        clear H2 HS hcut r0 r1 r2 r3 r4 r5 r6 r7 t0 t1 t2 t3 t4 t5 t6 t7
        go_wp2_with fail
        refine HS1.out.mono ?_
        rintro e w5 ⟨rfl, hb5⟩
        have H5 := Lib.hid (And.intro (stays H3.out.1 hb5) (And.intro (stays H3.out.2.1 hb5) (H3.out.2.2.trans (hb5.mono H3.out.2.2.size))))
        clear hb5 H3 HS1 y0 y1 y2 y3 y4 y5 y6 y7 y8 v0 v1 v2 v3 v4 v5 v6 v7 v8
        go_wp2_with fail
        go_roundw
        case rel => exact ⟨i + 1, by go_num, by omega, H5⟩
        case measure => simp only [intOf]; omega
    · go_wp2_with fail
      go_ret
      exact ⟨rfl, hst.out.2.2⟩

end Go.Proofs.YthknljeffpbbmaaGreatDoor
namespace Go.Proofs.YthknljeffpbbmaaGreatDoor
open Go Go.RowKit

set_option maxRecDepth 100000 in
set_option maxHeartbeats 2000000 in
theorem find_one (rn : ByteArray) (a1 a2 : Option Addr) (n1 n2 c1 c2 : Nat) (x1 x2 : Int) (rb : Nat) (w : World) (hr : w.heap[rb]? = some (.cells #[.string rn, .slice a1 n1 c1, .slice a2 n2 c2, .int .i64 x1, .int .i64 x2] 27 (0, 0))) :
    Calls Tryz.prog 10 #[.slice (some ⟨rb, 0, none⟩) 1 1, .string rn] w (fun e w' => e = .returned (.tuple #[.agg #[.string rn, .slice a1 n1 c1, .slice a2 n2 c2, .int .i64 x1, .int .i64 x2], .bool true]) ∧ Below w.heap.size w w') := by
  have hw0 := heap_alloc_new w (.cells #[.string ⟨#[]⟩, .slice none 0 0, .slice none 0 0, .int .i64 0, .int .i64 0] 27)
  have hb0 : Below w.heap.size w (w.alloc (.cells #[.string ⟨#[]⟩, .slice none 0 0, .slice none 0 0, .int .i64 0, .int .i64 0] 27)) := (Below.refl _ w).alloc (Nat.le_refl _) _
  have H := Lib.hid (And.intro hw0 (And.intro hb0 (stays hr hb0)))
  clear hw0 hb0 hr
  go_enter Tryz.func10, Tryz.ntmps10
  go_wp2_with fail
  generalize World.alloc _ _ = W at H ⊢
  go_loop [10] (fun i => i = .int .i64 0) (fun _ => 0)
  case atStart => rfl
  case round =>
    obtain rfl := hrel
    obtain ⟨p0, p1, p2, p3, p4, p5, -⟩ := five_facts H.out.2.2
    have hend := val_set (n := w.heap.size) (b := w.heap.size) (Nat.le_refl _) H.out.2.1 H.out.1 (.string rn) (.slice a1 n1 c1) (.slice a2 n2 c2) (.int .i64 x1) (.int .i64 x2)
    have hba : Below (W.setCells w.heap.size 0 [.string rn, .slice a1 n1 c1, .slice a2 n2 c2, .int .i64 x1, .int .i64 x2]).heap.size (W.setCells w.heap.size 0 [.string rn, .slice a1 n1 c1, .slice a2 n2 c2, .int .i64 x1, .int .i64 x2]) ((W.setCells w.heap.size 0 [.string rn, .slice a1 n1 c1, .slice a2 n2 c2, .int .i64 x1, .int .i64 x2]).alloc (.cells #[.string rn, .slice a1 n1 c1, .slice a2 n2 c2, .int .i64 x1, .int .i64 x2] 27)) := (Below.refl _ _).alloc (Nat.le_refl _) _
    have HE := Lib.hid (And.intro (stays hend.1 hba) (hend.2.trans (hba.mono hend.2.size)))
    obtain ⟨q0, q1, q2, q3, q4, q5, q6, q7, q8, q9, q10⟩ := five_facts H.out.1
    clear hend hba H
    go_wp2_with fail
    refine bodyPost_ret (w := (W.setCells w.heap.size 0 [.string rn, .slice a1 n1 c1, .slice a2 n2 c2, .int .i64 x1, .int .i64 x2]).alloc (.cells #[.string rn, .slice a1 n1 c1, .slice a2 n2 c2, .int .i64 x1, .int .i64 x2] 27)) (v := .tuple #[.agg #[.string rn, .slice a1 n1 c1, .slice a2 n2 c2, .int .i64 x1, .int .i64 x2], .bool true]) ?_ rfl ⟨rfl, HE.out.2⟩
    have hh := HE.out.1
    clear HE
    generalize World.alloc _ _ = W9 at hh ⊢
    obtain ⟨t0, t1, t2, t3, t4, t5, -⟩ := five_facts hh
    simp [results, Tryz.results10, go_sem, t1, t2, t3, t4, t5]

structure FitS (w wT : World) (tb : Nat) (rc dc tc : Array Value) (W : World) : Prop where
  r : W.heap[w.heap.size]? = some (.cells rc 27 (0, 0))
  d : W.heap[w.heap.size + 1]? = some (.cells dc 30 (0, 0))
  t : W.heap[tb]? = some (.cells tc 44 (0, 0))
  b : Below w.heap.size w W
  bt : Below wT.heap.size wT W
theorem FitS.below {w wT W W' : World} {tb : Nat} {rc dc tc : Array Value} (h : FitS w wT tb rc dc tc W) (hb : Below W.heap.size W W') : FitS w wT tb rc dc tc W' :=
  ⟨stays h.r hb, stays h.d hb, stays h.t hb, h.b.trans (hb.mono h.b.size), h.bt.trans (hb.mono h.bt.size)⟩
theorem any_take_succ {α : Type} (f : α → Bool) {l : List α} {k : Nat} {a : α} (h : l[k]? = some a) : (l.take (k + 1)).any f = ((l.take k).any f || f a) := by
  rw [List.take_add_one, h, List.any_append]
  simp
end Go.Proofs.YthknljeffpbbmaaGreatDoor
namespace Go.Proofs.YthknljeffpbbmaaGreatDoor
open Go Go.RowKit

theorem sameB_toList (a b : ByteArray) : (a.toList == b.toList) = sameB a b := by unfold sameB; rw [Lib.toList_data, Lib.toList_data]
theorem below_less {a b : ByteArray} (h : a.data.toList < b.data.toList) : Op.bytesLess a.toList b.toList = true := by
  rw [Go.Proofs.bytesLess_eq, decide_eq_true_eq, Lib.toList_data, Lib.toList_data]
  exact h
set_option maxRecDepth 100000 in
set_option maxHeartbeats 16000000 in
theorem fits16_any (hfix : FixedOk) (rn dr : ByteArray) (l : List AttrP) (body : List Nd) (args : List (ByteArray × Vl)) (pkg : ByteArray) (F : Nat → Prop) (aA aB aD : Option Addr) (cA cB cD : Nat) (x1 x2 x3 x4 : Int) (w : World) (hw : StdE w) (hwb : StdB w) (hrz : rn.size ≤ 9223372036854775807) (hl : l.length ≤ 140737488355328) (hla : args.length ≤ 140737488355328) (hcA : l.length ≤ cA)
    (hn : ∀ x ∈ l, x.name.size ≤ 9223372036854775807) (hna : ∀ x ∈ args, x.1.size ≤ 9223372036854775807) (hs : ∀ x ∈ l, smallV x.dflt) (hsa : ∀ q ∈ args, smallV q.2) (hp : pkg.size ≤ 9223372036854775807) (hF : ∀ b, F b → b < w.heap.size) (hr : RowAt F w aA (attrsD l)) (hrb : RowAt F w aB (ndsD body)) (hfn : fewNs body) (hfl : body.length ≤ 140737488355328) (hra : RowAt F w aD (namedsD args)) :
    Calls Tryz.prog 4 #[.agg #[.string rn, .slice aA l.length cA, .slice aB body.length cB, .int .i64 x1, .int .i64 x2], .agg #[.string dr, .slice aD args.length cD, .int .i64 x3, .int .i64 x4], .string pkg] w (PYes w) := by
  obtain ⟨g1, g2, g3, g4⟩ := alloc2 w (.cells #[.string rn, .slice aA l.length cA, .slice aB body.length cB, .int .i64 x1, .int .i64 x2] 27) (.cells #[.string dr, .slice aD args.length cD, .int .i64 x3, .int .i64 x4] 30)
  have H0 := Lib.hid (And.intro g1 (And.intro g2 g3))
  have HG := Lib.hid (great16_any rn l F aA aB cA body.length cB x1 x2 _ hrz hl hn hs (hr.below g3))
  have HWd := Lib.hid (fun W (h : Below w.heap.size w W) => wide_any dr args F aD cD x3 x4 W hla hna hsa (hra.below h))
  have HX := Lib.hid (fun W (h : Below w.heap.size w W) => hfix W (hw.below h) (hwb.below h))
  have HSR := Lib.hid (fun W (h : Below w.heap.size w W) => sameRule_any rn l body x1 x2 hl hs hfn hfl F aA aB aA aB cA cB cA cB W (hr.below h) (hrb.below h) (hr.below h) (hrb.below h))
  have Hr := Lib.hid hr
  have Hra := Lib.hid hra
  have Hs := Lib.hid hs
  have Hsa := Lib.hid hsa
  have HF := Lib.hid hF
  have Hw := Lib.hid (And.intro hw hwb)
  clear g1 g2 g3 g4 hw hwb hn hna hs hsa hF hr hra hfix hrb hfn hfl
  go_enter Tryz.func4, Tryz.ntmps4
  go_wp2_with fail
  refine HG.out.mono ?_
  rintro e w1 ⟨hb1, b1, rfl, hgr⟩
  have H1 := Lib.hid (And.intro (stays H0.out.1 hb1) (And.intro (stays H0.out.2.1 hb1) (H0.out.2.2.trans (hb1.mono H0.out.2.2.size))))
  clear hb1 H0 HG
  cases b1 with
  | true =>
    have HX1 := Lib.hid (HX.out w1 H1.out.2.2)
    clear hgr
    go_wp2_with fail
    refine HX1.out.mono ?_
    rintro e w9 ⟨rfl, hb9⟩
    have Hb9 := Lib.hid (H1.out.2.2.trans (hb9.mono H1.out.2.2.size))
    clear hb9
    go_wp2_with fail
    go_ret
    exact ⟨rfl, Hb9.out⟩
  | false =>
  obtain ⟨hl12, hnm⟩ := hgr rfl
  have Hnm := Lib.hid hnm
  clear hgr hnm
  obtain ⟨d0, d1, d2, d3, d4⟩ := four_facts H1.out.2.1
  have HW1 := Lib.hid (HWd.out w1 H1.out.2.2)
  clear HWd
  go_wp2_with fail
  refine HW1.out.mono ?_
  rintro e w2 ⟨hb2, b2, rfl, hwd⟩
  have H2 := Lib.hid (And.intro (stays H1.out.1 hb2) (And.intro (stays H1.out.2.1 hb2) (H1.out.2.2.trans (hb2.mono H1.out.2.2.size))))
  clear hb2 H1 HW1 d0 d1 d2 d3 d4
  have HX1 := Lib.hid (HX.out w2 H2.out.2.2)
  cases b2 with
  | true =>
    clear hwd
    go_wp2_with fail
    refine HX1.out.mono ?_
    rintro e w9 ⟨rfl, hb9⟩
    have Hb9 := Lib.hid (H2.out.2.2.trans (hb9.mono H2.out.2.2.size))
    clear hb9
    go_wp2_with fail
    go_ret
    exact ⟨rfl, Hb9.out⟩
  | false =>
  have ha12 := hwd rfl
  clear hwd
  by_cases hp100 : (100 : Int) < pkg.size
  · go_wp2_with fail
    refine HX1.out.mono ?_
    rintro e w9 ⟨rfl, hb9⟩
    have Hb9 := Lib.hid (H2.out.2.2.trans (hb9.mono H2.out.2.2.size))
    clear hb9
    go_wp2_with fail
    go_ret
    exact ⟨rfl, Hb9.out⟩
  clear HX1
  obtain ⟨q0, q1, q2, q3, q4, q5, -⟩ := five_facts H2.out.1
  have hb3 : Below w2.heap.size w2 (w2.alloc (.cells #[.string rn, .slice aA l.length cA, .slice aB body.length cB, .int .i64 x1, .int .i64 x2] 27)) := (Below.refl _ w2).alloc (Nat.le_refl _) _
  have HFd := Lib.hid (find_one rn aA aB l.length body.length cA cB x1 x2 w2.heap.size _ (heap_alloc_new w2 (.cells #[.string rn, .slice aA l.length cA, .slice aB body.length cB, .int .i64 x1, .int .i64 x2] 27)))
  have H3 := Lib.hid (And.intro (stays H2.out.1 hb3) (And.intro (stays H2.out.2.1 hb3) (H2.out.2.2.trans (hb3.mono H2.out.2.2.size))))
  clear hb3 H2
  go_wp2_with fail
  refine HFd.out.mono ?_
  rintro e w4 ⟨rfl, hb4⟩
  have hba : Below w4.heap.size w4 (w4.alloc (.cells #[.string rn, .slice aA l.length cA, .slice aB body.length cB, .int .i64 x1, .int .i64 x2] 27)) := (Below.refl _ w4).alloc (Nat.le_refl _) _
  have hb4a := hb4.trans (hba.mono hb4.size)
  have H4 := Lib.hid (And.intro (stays H3.out.1 hb4a) (And.intro (stays H3.out.2.1 hb4a) (H3.out.2.2.trans (hb4a.mono H3.out.2.2.size))))
  have hq4 := stays H3.out.1 hb4
  have HSR1 := Lib.hid (HSR.out _ H4.out.2.2)
  clear hb4 hba hb4a H3 HSR q0 q1 q2 q3 q4 q5 HFd
  obtain ⟨q0, q1, q2, q3, q4, q5, -⟩ := five_facts hq4
  clear hq4
  go_wp2_with fail
  refine HSR1.out.mono ?_
  rintro e w5 ⟨rfl, hb5⟩
  have H5 := Lib.hid (And.intro (stays H4.out.1 hb5) (And.intro (stays H4.out.2.1 hb5) (H4.out.2.2.trans (hb5.mono H4.out.2.2.size))))
  clear hb5 H4 HSR1 q0 q1 q2 q3 q4 q5
  have HB1 := Lib.hid (bind_any rn dr l args pkg F aA aB aD cA body.length cB cD x1 x2 x3 x4 w5 (Hw.out.2.below H5.out.2.2) (by omega) (by omega) hcA (fun x hx => by have := Hnm.out x hx; omega) Hs.out Hsa.out (by omega) (fun b hb => by have := HF.out b hb; have := H5.out.2.2.size; omega) (Hr.out.below H5.out.2.2) (Hra.out.below H5.out.2.2))
  obtain ⟨q0, q1, q2, q3, q4, q5, -⟩ := five_facts H5.out.1
  obtain ⟨d0, d1, d2, d3, d4⟩ := four_facts H5.out.2.1
  go_wp2_with fail
  refine HB1.out.mono ?_
  rintro e w6 ⟨hb6, hq⟩
  have hto := tout_of_bind ⟨hb6, hq⟩
  obtain ⟨p1, n1, rr1, VS1, ds1, sn1, a1, c1, a2, c2, a3, c3, k1, rfl, R1, R2, R3, L1, L2, L3, L4, M1⟩ := hto
  have HR := Lib.hid (And.intro R1 (And.intro R2 R3))
  have HL4 := Lib.hid L4
  have H6 := Lib.hid (And.intro (stays H5.out.1 hb6) (And.intro (stays H5.out.2.1 hb6) (H5.out.2.2.trans (hb6.mono H5.out.2.2.size))))
  clear hq R1 R2 R3 L4 hb6 H5 HB1 q0 q1 q2 q3 q4 q5 d0 d1 d2 d3 d4
  cases hbd : bindL rn l args pkg.data.toList with
  | error k =>
    rw [hbd] at M1
    obtain ⟨hk, rfl, rfl, rfl, rfl, rfl, rfl⟩ := M1
    simp only [List.length_nil]
    obtain ⟨y1, y2, y3, y4⟩ := alloc2 w6 (.cells #[.string ⟨#[]⟩, .string ⟨#[]⟩, .string ⟨#[]⟩, .slice a1 0 c1, .slice a2 0 c2, .slice a3 0 c3] 44) (.cells #[] 44)
    have hba : Below w6.heap.size w6 (w6.alloc (.cells #[.string ⟨#[]⟩, .string ⟨#[]⟩, .string ⟨#[]⟩, .slice a1 0 c1, .slice a2 0 c2, .slice a3 0 c3] 44)) := (Below.refl _ _).alloc (Nat.le_refl _) _
    have HT := Lib.hid (sameT_any ⟨#[]⟩ ⟨#[]⟩ ⟨#[]⟩ [] [] [] (by simp) (by simp) (by simp) (by simp) (fun _ => True) a1 a2 a3 none none none c1 c2 c3 0 0 0 (w6.alloc (.cells #[.string ⟨#[]⟩, .string ⟨#[]⟩, .string ⟨#[]⟩, .slice a1 0 c1, .slice a2 0 c2, .slice a3 0 c3] 44)) (RowAt.nil _) (RowAt.nil _) (StrsAt.nil _ _) (RowAt.nil _) (RowAt.nil _) (StrsAt.nil _ _))
    simp only [List.length_nil] at HT
    have Hb7 := Lib.hid (H6.out.2.2.trans (hba.mono H6.out.2.2.size))
    clear hbd y1 y2 y3 y4 hba H6
    go_wp2_with fail
    refine HT.out.mono ?_
    rintro e w8 ⟨rfl, hb8⟩
    have Hb8 := Lib.hid (Hb7.out.trans (hb8.mono Hb7.out.size))
    have HX8 := Lib.hid (HX.out w8 Hb8.out)
    clear hb8 HX Hb7
    go_wp2_with fail
    refine HX8.out.mono ?_
    rintro e w9 ⟨rfl, hb9⟩
    have Hb9 := Lib.hid (Hb8.out.trans (hb9.mono Hb8.out.size))
    clear hb9
    go_wp2_with fail
    go_ret
    exact ⟨rfl, Hb9.out⟩
  | ok tg =>
    rw [hbd] at M1
    obtain ⟨rfl, hpk, -, hrr, hVS, -, -⟩ := M1
    obtain ⟨b1, b2, b3, b4, b5⟩ := bindL_fits hbd
    obtain rfl : p1 = pkg := bytes_ext (hpk.trans b2)
    obtain rfl : rr1 = rn := hrr.trans b1
    rw [← hVS] at b3 b4 b5
    have Hall := Lib.hid (And.intro b4 b5)
    rw [b3]
    have hba : Below w6.heap.size w6 (w6.alloc (.cells #[.string p1, .string n1, .string rr1, .slice a1 l.length c1, .slice a2 ds1.length c2, .slice a3 sn1.length c3] 44)) := (Below.refl _ _).alloc (Nat.le_refl _) _
    have HS : Hid (FitS w (w6.alloc (.cells #[.string p1, .string n1, .string rr1, .slice a1 l.length c1, .slice a2 ds1.length c2, .slice a3 sn1.length c3] 44)) w6.heap.size #[.string rr1, .slice aA l.length cA, .slice aB body.length cB, .int .i64 x1, .int .i64 x2] #[.string dr, .slice aD args.length cD, .int .i64 x3, .int .i64 x4] #[.string p1, .string n1, .string rr1, .slice a1 l.length c1, .slice a2 ds1.length c2, .slice a3 sn1.length c3] (w6.alloc (.cells #[.string p1, .string n1, .string rr1, .slice a1 l.length c1, .slice a2 ds1.length c2, .slice a3 sn1.length c3] 44))) := Lib.hid ⟨stays H6.out.1 hba, stays H6.out.2.1 hba, heap_alloc_new w6 _, H6.out.2.2.trans (hba.mono H6.out.2.2.size), Below.refl _ _⟩
    have HV := Lib.hid (HR.out.1.below hba)
    have hneq : (l.length : Int) = l.length := rfl
    obtain ⟨q0, q1, q2, q3, q4, q5, -⟩ := five_facts H6.out.1
    clear hbd hba HR H6 hneq hpk hrr b1 b2 b4 b5
    go_wp2_with fail
    generalize World.alloc _ _ = WT at HS HV ⊢
    generalize w6.heap.size = tb at HS ⊢
    clear q0 q1 q2 q3 q4 q5
    go_loopw [11] (fun i wr => ∃ j : Nat, i = .int .i64 j ∧ j ≤ l.length ∧ Hid (FitS w WT tb #[.string rr1, .slice aA l.length cA, .slice aB body.length cB, .int .i64 x1, .int .i64 x2] #[.string dr, .slice aD args.length cD, .int .i64 x3, .int .i64 x4] #[.string p1, .string n1, .string rr1, .slice a1 l.length c1, .slice a2 ds1.length c2, .slice a3 sn1.length c3] wr)) (fun i _ => l.length - (intOf i).toNat)
    case atStart => exact ⟨0, rfl, Nat.zero_le _, HS⟩
    case round =>
      clear HS
      obtain ⟨j, rfl, hj, hS⟩ := hrel
      obtain ⟨t0, t1, t2, t3, t4, t5, t6, -⟩ := sixW_facts hS.out.t
      by_cases hlt : j < l.length
      · have hv0 : VS1[j]? = some (VS1[j]'(by omega)) := List.getElem?_eq_getElem (by omega)
        generalize VS1[j]'(by omega) = v at hv0
        obtain ⟨nm, ⟨vk, vn, vs, vl, vks⟩⟩ := v
        obtain ⟨hex, hfit⟩ := Hall.out.2 _ (List.mem_of_getElem? hv0)
        have hsv := HL4.out _ (List.mem_of_getElem? hv0)
        have Hfit := Lib.hid hfit
        have Hex := Lib.hid hex
        have Hsv := Lib.hid hsv
        have Hv0 := Lib.hid hv0
        clear hex hfit hsv hv0
        go_wp2_with fail
        clear t0 t1 t2 t3 t4 t5 t6
        go_loopw [12, 13] (fun m k wr => ∃ kk : Nat, m = .bool ((l.take kk).any (fun a => sameB a.name nm)) ∧ k = .int .i64 kk ∧ kk ≤ l.length ∧ Hid (FitS w WT tb #[.string rr1, .slice aA l.length cA, .slice aB body.length cB, .int .i64 x1, .int .i64 x2] #[.string dr, .slice aD args.length cD, .int .i64 x3, .int .i64 x4] #[.string p1, .string n1, .string rr1, .slice a1 l.length c1, .slice a2 ds1.length c2, .slice a3 sn1.length c3] wr)) (fun _ k _ => l.length - (intOf k).toNat)
        case atStart => exact ⟨0, rfl, rfl, Nat.zero_le _, hS⟩
        case round =>
          clear hS
          obtain ⟨kk, rfl, rfl, hkk, hS⟩ := hrel
          obtain ⟨q0, q1, q2, q3, q4, q5, -⟩ := five_facts hS.out.r
          obtain ⟨t0, t1, t2, t3, t4, t5, t6, -⟩ := sixW_facts hS.out.t
          obtain ⟨vb, vo, y1, f1, y2, f2, hva, -, hvbl, v0, v1, v2, v3, v4, v5, hvs1, hvs2⟩ := (HV.out.below hS.out.bt).named Hv0.out
          subst hva
          have HVR := Lib.hid (And.intro hvs1 hvs2)
          clear hvs1 hvs2
          by_cases hk2 : kk < l.length
          · have hx0 : l[kk]? = some l[kk] := List.getElem?_eq_getElem hk2
            generalize l[kk] = a at hx0
            obtain ⟨tn, ty, mu, ⟨dk, dn, dx, dl, dks⟩⟩ := a
            have hsd : smallV (.mk dk dn dx dl dks) := Hs.out _ (List.mem_of_getElem? hx0)
            obtain ⟨b, off, u1, e1, u2, e2, hae, -, hbl, r0, r1, r2, r3, r4, r5, r6, r7, hs1, hs2⟩ := (Hr.out.below hS.out.b).attr hx0
            subst hae
            have Hdr := Lib.hid (And.intro hs1 hs2)
            have Hx0 := Lib.hid hx0
            have Hsd := Lib.hid hsd
            have hbn : Below wr.heap.size wr (wr.alloc (.cells #[.string tn, .int .i64 ty, .bool mu, .int .i64 dk, .int .i64 dn, .string dx, .slice u1 dl.length e1, .slice u2 dks.length e2] 55)) := (Below.refl _ wr).alloc (Nat.le_refl _) _
            have H6 := Lib.hid ((hS.out.below hbn).below ((Below.refl _ _).drew))
            have HA : Hid ((wr.alloc (.cells #[.string tn, .int .i64 ty, .bool mu, .int .i64 dk, .int .i64 dn, .string dx, .slice u1 dl.length e1, .slice u2 dks.length e2] 55)).drew.heap[wr.heap.size]? = some (.cells #[.string tn, .int .i64 ty, .bool mu, .int .i64 dk, .int .i64 dn, .string dx, .slice u1 dl.length e1, .slice u2 dks.length e2] 55 (0, 0))) := Lib.hid (heap_alloc_new wr _)
            have HB := Lib.hid (hbn.trans (((Below.refl _ (wr.alloc (.cells #[.string tn, .int .i64 ty, .bool mu, .int .i64 dk, .int .i64 dn, .string dx, .slice u1 dl.length e1, .slice u2 dks.length e2] 55))).drew).mono hbn.size))
            clear hs1 hs2 hx0 hsd hbn hS
            go_wp2_with fail
            clear q0 q1 q2 q3 q4 q5 t0 t1 t2 t3 t4 t5 t6 r0 r1 r2 r3 r4 r5 r6 r7
            refine wp_region_turns (.s 0 (.s 1 (.s 2 (.s 3 (.s 4 (.s 5 (.s 6 (.s 7 (.s 8 .nil))))))))) 99 (fun W' => Below (wr.alloc (.cells #[.string tn, .int .i64 ty, .bool mu, .int .i64 dk, .int .i64 dn, .string dx, .slice u1 dl.length e1, .slice u2 dks.length e2] 55)).drew.heap.size (wr.alloc (.cells #[.string tn, .int .i64 ty, .bool mu, .int .i64 dk, .int .i64 dn, .string dx, .slice u1 dl.length e1, .slice u2 dks.length e2] 55)).drew W') (by kernel_rfl) (by kernel_rfl) (fun c a d v w h => by cases d <;> exact h) (Below.refl _ _) ?_
            generalize World.drew _ = Wd at H6 HA HB ⊢
            generalize hab : wr.heap.size = ab at HA ⊢
            have Hab := Lib.hid hab
            clear hab
            refine turn_steady (.pointer (some ⟨ab, 0, none⟩)) rfl rfl (fun W' hS => ?_) ?_
            · go_simp
            try simp only [lgA, lgZ, Act.put, lsA, lsZ, lsS]
            refine turn_steady (.string tn) rfl rfl (fun W' hS => ?_) ?_
            · obtain ⟨z0, z1, z2, z3, z4, z5, z6, z7, z8, -⟩ := a8w_facts (stays HA.out hS)
              clear hS
              go_simp
            try simp only [lgA, lgS, lgZ, Act.put, lsA, lsZ, lsS]
            refine turn_steady (.pointer (some ⟨tb, 3, none⟩)) rfl rfl (fun W' hS => ?_) ?_
            · go_simp
            try simp only [lgA, lgS, lgZ, Act.put, lsA, lsZ, lsS]
            refine turn_steady (.slice (some ⟨vb, vo, none⟩) l.length c1) rfl rfl (fun W' hS => ?_) ?_
            · obtain ⟨z0, z1, z2, z3, z4, z5, z6, -⟩ := sixW_facts (H6.out.below hS).t
              clear hS
              go_simp
            try simp only [lgA, lgS, lgZ, Act.put, lsA, lsZ, lsS]
            refine turn_steady (.int .i64 j) rfl rfl (fun W' hS => ?_) ?_
            · go_simp
            try simp only [lgA, lgS, lgZ, Act.put, lsA, lsZ, lsS]
            refine turn_steady (.pointer (some ⟨vb, vo + j * 6, none⟩)) rfl rfl (fun W' hS => ?_) ?_
            · go_simp
            try simp only [lgA, lgS, lgZ, Act.put, lsA, lsZ, lsS]
            refine turn_steady (.pointer (some ⟨vb, vo + j * 6, none⟩)) rfl rfl (fun W' hS => ?_) ?_
            · go_simp
            try simp only [lgA, lgS, lgZ, Act.put, lsA, lsZ, lsS]
            refine turn_steady (.string nm) rfl rfl (fun W' hS => ?_) ?_
            · have hB := HB.out.trans (hS.mono HB.out.size)
              have z0 := (hB.cell (p := ⟨vb, vo + j * 6, none⟩) hvbl).trans v0
              clear hS hB
              go_simp
            try simp only [lgA, lgS, lgZ, Act.put, lsA, lsZ, lsS]
            have hsm := sameB_toList tn nm
            cases hsame : sameB tn nm with
            | false =>
              rw [hsame] at hsm
              refine turn_steady (.bool true) rfl rfl (fun W' hS => ?_) ?_
              · clear hS
                go_simp
              try simp only [lgA, lgS, lgZ, Act.put, lsA, lsZ, lsS]
              refine turn_end ?_
              try simp only [lgA, lgS, lgZ, Act.put, lsA, lsZ, lsS]
              have Hm : Hid (Value.bool ((l.take kk).any fun a => sameB a.name nm) = .bool ((l.take (kk + 1)).any fun a => sameB a.name nm)) := Lib.hid (by rw [any_take_succ _ Hx0.out, hsame, Bool.or_false])
              clear hsame hsm
              go_wp2_with fail
              go_roundw
              case rel => exact ⟨kk + 1, Hm.out, by go_num, by omega, H6⟩
              case measure => simp only [intOf]; omega
            | true =>
              rw [hsame] at hsm
              have hsm2 : tn.toList = nm.toList := by simpa using hsm
              refine turn_steady (.bool false) rfl rfl (fun W' hS => ?_) ?_
              · clear hS
                go_simp
              try simp only [lgA, lgS, lgZ, Act.put, lsA, lsZ, lsS]
              refine turn_end ?_
              try simp only [lgA, lgS, lgZ, Act.put, lsA, lsZ, lsS]
              have Hsame := Lib.hid hsame
              clear hsame hsm hsm2
              go_wp2_with fail
              go_loopw [15, 16] (fun g jj w3 => ∃ q : Nat, g = .bool ((args.take q).any (fun x => sameB x.1 tn)) ∧ jj = .int .i64 q ∧ q ≤ args.length ∧ Hid (FitS w WT tb #[.string rr1, .slice (some ⟨b, off, none⟩) l.length cA, .slice aB body.length cB, .int .i64 x1, .int .i64 x2] #[.string dr, .slice aD args.length cD, .int .i64 x3, .int .i64 x4] #[.string p1, .string n1, .string rr1, .slice (some ⟨vb, vo, none⟩) l.length c1, .slice a2 ds1.length c2, .slice a3 sn1.length c3] w3) ∧ Hid (w3.heap[ab]? = some (.cells #[.string tn, .int .i64 ty, .bool mu, .int .i64 dk, .int .i64 dn, .string dx, .slice u1 dl.length e1, .slice u2 dks.length e2] 55 (0, 0))) ∧ Hid (Below wr.heap.size wr w3)) (fun _ jj _ => args.length - (intOf jj).toNat)
              case atStart => exact ⟨0, rfl, rfl, Nat.zero_le _, H6, HA, HB⟩
              case round =>
                clear H6 HA HB
                obtain ⟨q, rfl, rfl, hq, hS, hA, hBw⟩ := hrel
                obtain ⟨d0, d1, d2, d3, d4⟩ := four_facts hS.out.d
                by_cases hq2 : q < args.length
                · have hx1 : args[q]? = some args[q] := List.getElem?_eq_getElem hq2
                  generalize args[q] = x at hx1
                  obtain ⟨xn, ⟨xk, xm, xs, xl, xks⟩⟩ := x
                  have hbd := (Below.refl wr.heap.size wr).drew
                  obtain ⟨db, dof, z1, g1, z2, g2, hda, -, hdbl, w0, -⟩ := (Hra.out.below (hS.out.b.trans (hbd.mono hS.out.b.size))).named hx1
                  subst hda
                  have H6 := Lib.hid (hS.out.below hbd)
                  have HA := Lib.hid (stays hA.out hbd)
                  have HB := Lib.hid (hBw.out.trans (hbd.mono hBw.out.size))
                  have Hx1 := Lib.hid hx1
                  clear hS hA hBw hbd hx1
                  have hsn := sameB_toList xn tn
                  cases hg : (args.take q).any (fun x => sameB x.1 tn) with
                  | true =>
                    have Hm : Hid (Value.bool true = .bool ((args.take (q + 1)).any fun x => sameB x.1 tn)) := Lib.hid (by rw [any_take_succ _ Hx1.out, hg]; rfl)
                    clear hg hsn
                    go_wp2_with fail
                    clear d0 d1 d2 d3 d4
                    refine wp_region_turns (.s 0 (.s 1 (.s 2 (.s 3 (.s 4 (.s 5 (.s 6 (.s 7 (.s 8 (.s 9 (.s 10 (.s 11 (.s 12 .nil))))))))))))) 99 (fun W' => Below wr.drew.heap.size wr.drew W') (by kernel_rfl) (by kernel_rfl) (fun c a d v w h => by cases d <;> exact h) (Below.refl _ _) ?_
                    generalize wr.drew = Wd at *
                    refine turn_steady (.bool true) rfl rfl (fun W' hS => ?_) ?_
                    · go_simp
                    try simp only [lgA, lgZ, Act.put, lsA, lsZ, lsS]
                    refine turn_steady (.bool true) rfl rfl (fun W' hS => ?_) ?_
                    · go_simp
                    try simp only [lgA, lgS, lgZ, Act.put, lsA, lsZ, lsS]
                    refine turn_skip rfl rfl ?_
                    try simp only [lgA, lgS, lgZ, Act.put, lsA, lsZ, lsS]
                    refine turn_skip rfl rfl ?_
                    try simp only [lgA, lgS, lgZ, Act.put, lsA, lsZ, lsS]
                    refine turn_skip rfl rfl ?_
                    try simp only [lgA, lgS, lgZ, Act.put, lsA, lsZ, lsS]
                    refine turn_skip rfl rfl ?_
                    try simp only [lgA, lgS, lgZ, Act.put, lsA, lsZ, lsS]
                    refine turn_skip rfl rfl ?_
                    try simp only [lgA, lgS, lgZ, Act.put, lsA, lsZ, lsS]
                    refine turn_skip rfl rfl ?_
                    try simp only [lgA, lgS, lgZ, Act.put, lsA, lsZ, lsS]
                    refine turn_skip rfl rfl ?_
                    try simp only [lgA, lgS, lgZ, Act.put, lsA, lsZ, lsS]
                    refine turn_skip rfl rfl ?_
                    try simp only [lgA, lgS, lgZ, Act.put, lsA, lsZ, lsS]
                    refine turn_skip rfl rfl ?_
                    try simp only [lgA, lgS, lgZ, Act.put, lsA, lsZ, lsS]
                    refine turn_steady (.bool true) rfl rfl (fun W' hS => ?_) ?_
                    · go_simp
                    try simp only [lgA, lgS, lgZ, Act.put, lsA, lsZ, lsS]
                    refine turn_steady (.bool true) rfl rfl (fun W' hS => ?_) ?_
                    · go_simp
                    try simp only [lgA, lgS, lgZ, Act.put, lsA, lsZ, lsS]
                    refine turn_end ?_
                    try simp only [lgA, lgS, lgZ, Act.put, lsA, lsZ, lsS]
                    go_wp2_with fail
                    go_roundw
                    case rel => exact ⟨q + 1, Hm.out, by go_num, by omega, H6, HA, HB⟩
                    case measure => simp only [intOf]; omega
                  | false =>
                    have Hm : Hid (Value.bool (xn.toList == tn.toList) = .bool ((args.take (q + 1)).any fun x => sameB x.1 tn)) := Lib.hid (by rw [any_take_succ _ Hx1.out, hg, hsn]; rfl)
                    clear hg hsn
                    go_wp2_with fail
                    clear d0 d1 d2 d3 d4
                    refine wp_region_turns (.s 0 (.s 1 (.s 2 (.s 3 (.s 4 (.s 5 (.s 6 (.s 7 (.s 8 (.s 9 (.s 10 (.s 11 (.s 12 .nil))))))))))))) 99 (fun W' => Below wr.drew.heap.size wr.drew W') (by kernel_rfl) (by kernel_rfl) (fun c a d v w h => by cases d <;> exact h) (Below.refl _ _) ?_
                    generalize wr.drew = Wd at *
                    refine turn_steady (.bool false) rfl rfl (fun W' hS => ?_) ?_
                    · go_simp
                    try simp only [lgA, lgZ, Act.put, lsA, lsZ, lsS]
                    refine turn_steady (.bool false) rfl rfl (fun W' hS => ?_) ?_
                    · go_simp
                    try simp only [lgA, lgS, lgZ, Act.put, lsA, lsZ, lsS]
                    refine turn_steady (.pointer (some ⟨w.heap.size + 1, 1, none⟩)) rfl rfl (fun W' hS => ?_) ?_
                    · go_simp
                    try simp only [lgA, lgS, lgZ, Act.put, lsA, lsZ, lsS]
                    refine turn_steady (.slice (some ⟨db, dof, none⟩) args.length cD) rfl rfl (fun W' hS => ?_) ?_
                    · obtain ⟨z0, z1, z2, z3, z4⟩ := four_facts (H6.out.below hS).d
                      clear hS
                      go_simp
                    try simp only [lgA, lgS, lgZ, Act.put, lsA, lsZ, lsS]
                    refine turn_steady (.int .i64 q) rfl rfl (fun W' hS => ?_) ?_
                    · go_simp
                    try simp only [lgA, lgS, lgZ, Act.put, lsA, lsZ, lsS]
                    refine turn_steady (.pointer (some ⟨db, dof + q * 6, none⟩)) rfl rfl (fun W' hS => ?_) ?_
                    · go_simp
                    try simp only [lgA, lgS, lgZ, Act.put, lsA, lsZ, lsS]
                    refine turn_steady (.pointer (some ⟨db, dof + q * 6, none⟩)) rfl rfl (fun W' hS => ?_) ?_
                    · go_simp
                    try simp only [lgA, lgS, lgZ, Act.put, lsA, lsZ, lsS]
                    refine turn_steady (.string xn) rfl rfl (fun W' hS => ?_) ?_
                    · have z0 := (hS.cell (p := ⟨db, dof + q * 6, none⟩) hdbl).trans w0
                      clear hS
                      go_simp
                    try simp only [lgA, lgS, lgZ, Act.put, lsA, lsZ, lsS]
                    refine turn_steady (.pointer (some ⟨ab, 0, none⟩)) rfl rfl (fun W' hS => ?_) ?_
                    · go_simp
                    try simp only [lgA, lgS, lgZ, Act.put, lsA, lsZ, lsS]
                    refine turn_steady (.string tn) rfl rfl (fun W' hS => ?_) ?_
                    · obtain ⟨z0, z1, z2, z3, z4, z5, z6, z7, z8, -⟩ := a8w_facts (stays HA.out hS)
                      clear hS
                      go_simp
                    try simp only [lgA, lgS, lgZ, Act.put, lsA, lsZ, lsS]
                    refine turn_steady (.bool (xn.toList == tn.toList)) rfl rfl (fun W' hS => ?_) ?_
                    · clear hS
                      go_simp
                    try simp only [lgA, lgS, lgZ, Act.put, lsA, lsZ, lsS]
                    refine turn_steady (.bool (xn.toList == tn.toList)) rfl rfl (fun W' hS => ?_) ?_
                    · clear hS
                      go_simp
                    try simp only [lgA, lgS, lgZ, Act.put, lsA, lsZ, lsS]
                    refine turn_steady (.bool (xn.toList == tn.toList)) rfl rfl (fun W' hS => ?_) ?_
                    · clear hS
                      go_simp
                    try simp only [lgA, lgS, lgZ, Act.put, lsA, lsZ, lsS]
                    refine turn_end ?_
                    try simp only [lgA, lgS, lgZ, Act.put, lsA, lsZ, lsS]
                    go_wp2_with fail
                    go_roundw
                    case rel => exact ⟨q + 1, Hm.out, by go_num, by omega, H6, HA, HB⟩
                    case measure => simp only [intOf]; omega
                · rw [List.take_of_length_le (show args.length ≤ q by omega)]
                  have hft := Hfit.out _ (List.mem_of_getElem? Hx0.out) Hsame.out
                  have hfv : fitsV ty (.mk vk vn vs vl vks) = true := hft.1
                  have hbd := (Below.refl wr.heap.size wr).drew
                  have H6 := Lib.hid (hS.out.below hbd)
                  have HA := Lib.hid (stays hA.out hbd)
                  have HB := Lib.hid (hBw.out.trans (hbd.mono hBw.out.size))
                  have HFt := Lib.hid (fitsR_any ty vk vn vs vl vks hfv (fun _ => True) y1 f1 y2 f2 wr.drew (HVR.out.1.below HB.out) (HVR.out.2.below HB.out))
                  have Hm : Hid (Value.bool true = .bool ((l.take (kk + 1)).any fun a => sameB a.name nm)) := Lib.hid (by rw [any_take_succ _ Hx0.out, Hsame.out, Bool.or_true])
                  clear hS hA hBw hbd hfv
                  cases hgv : args.any (fun x => sameB x.1 tn) with
                  | true =>
                    clear hft hgv
                    go_wp2_with fail
                    clear d0 d1 d2 d3 d4
                    refine wp_region_turns (.s 0 (.s 1 (.s 2 (.s 3 (.s 4 (.s 5 (.s 6 (.s 7 (.h 8 (.s 9 (.s 10 (.s 11 (.s 12 (.s 13 (.s 14 (.s 15 (.s 16 (.s 17 (.s 18 (.s 19 (.s 20 (.s 21 (.h 22 (.s 23 (.s 24 (.s 25 .nil)))))))))))))))))))))))))) 99 (fun W' => Below wr.drew.heap.size wr.drew W') (by kernel_rfl) (by kernel_rfl) (fun c a d v w h => by cases d <;> exact h) (Below.refl _ _) ?_
                    generalize wr.drew = Wd at *
                    refine turn_steady (.pointer (some ⟨tb, 3, none⟩)) rfl rfl (fun W' hS => ?_) ?_
                    · go_simp
                    try simp only [lgA, lgZ, Act.put, lsA, lsZ, lsS]
                    refine turn_steady (.slice (some ⟨vb, vo, none⟩) l.length c1) rfl rfl (fun W' hS => ?_) ?_
                    · obtain ⟨z0, z1, z2, z3, z4, z5, z6, -⟩ := sixW_facts (H6.out.below hS).t
                      clear hS
                      go_simp
                    try simp only [lgA, lgS, lgZ, Act.put, lsA, lsZ, lsS]
                    refine turn_steady (.int .i64 j) rfl rfl (fun W' hS => ?_) ?_
                    · go_simp
                    try simp only [lgA, lgS, lgZ, Act.put, lsA, lsZ, lsS]
                    refine turn_steady (.pointer (some ⟨vb, vo + j * 6, none⟩)) rfl rfl (fun W' hS => ?_) ?_
                    · go_simp
                    try simp only [lgA, lgS, lgZ, Act.put, lsA, lsZ, lsS]
                    refine turn_steady (.pointer (some ⟨vb, vo + j * 6 + 1, none⟩)) rfl rfl (fun W' hS => ?_) ?_
                    · go_simp
                    try simp only [lgA, lgS, lgZ, Act.put, lsA, lsZ, lsS]
                    refine turn_steady (.agg #[.int .i64 vk, .int .i64 vn, .string vs, .slice y1 vl.length f1, .slice y2 vks.length f2]) rfl rfl (fun W' hS => ?_) ?_
                    · have hB := HB.out.trans (hS.mono HB.out.size)
                      have z1 := (hB.cell (p := ⟨vb, vo + j * 6 + 1, none⟩) hvbl).trans v1
                      have z2 := (hB.cell (p := ⟨vb, vo + j * 6 + 2, none⟩) hvbl).trans v2
                      have z3 := (hB.cell (p := ⟨vb, vo + j * 6 + 3, none⟩) hvbl).trans v3
                      have z4 := (hB.cell (p := ⟨vb, vo + j * 6 + 4, none⟩) hvbl).trans v4
                      have z5 := (hB.cell (p := ⟨vb, vo + j * 6 + 5, none⟩) hvbl).trans v5
                      clear hS hB
                      go_simp
                    try simp only [lgA, lgS, lgZ, Act.put, lsA, lsZ, lsS]
                    refine turn_steady (.pointer (some ⟨ab, 1, none⟩)) rfl rfl (fun W' hS => ?_) ?_
                    · go_simp
                    try simp only [lgA, lgS, lgZ, Act.put, lsA, lsZ, lsS]
                    refine turn_steady (.int .i64 ty) rfl rfl (fun W' hS => ?_) ?_
                    · obtain ⟨z0, z1, z2, z3, z4, z5, z6, z7, z8, -⟩ := a8w_facts (stays HA.out hS)
                      clear hS
                      go_simp
                    try simp only [lgA, lgS, lgZ, Act.put, lsA, lsZ, lsS]
                    refine turn_heavy rfl (fun K8 hK8 => ?_)
                    go_wp2_with fail
                    refine HFt.out.mono ?_
                    rintro e w8 ⟨rfl, hb8⟩
                    have H8 := Lib.hid (H6.out.below hb8)
                    have HA8 := Lib.hid (stays HA.out hb8)
                    have HB8 := Lib.hid (HB.out.trans (hb8.mono HB.out.size))
                    have Hb8 := Lib.hid hb8
                    clear hb8 HFt
                    go_wp2_with fail
                    refine hK8 _ _ (fun _ => Hb8.out) ?_
                    try simp only [lgA, lgS, lgZ, Act.put, lsA, lsZ, lsS]
                    refine turn_steady (.bool false) rfl rfl (fun W' hS => ?_) ?_
                    · go_simp
                    try simp only [lgA, lgS, lgZ, Act.put, lsA, lsZ, lsS]
                    refine turn_steady (.bool false) rfl rfl (fun W' hS => ?_) ?_
                    · go_simp
                    try simp only [lgA, lgS, lgZ, Act.put, lsA, lsZ, lsS]
                    refine turn_steady (.bool true) rfl rfl (fun W' hS => ?_) ?_
                    · go_simp
                    try simp only [lgA, lgS, lgZ, Act.put, lsA, lsZ, lsS]
                    refine turn_steady (.bool false) rfl rfl (fun W' hS => ?_) ?_
                    · go_simp
                    try simp only [lgA, lgS, lgZ, Act.put, lsA, lsZ, lsS]
                    refine turn_steady (.bool false) rfl rfl (fun W' hS => ?_) ?_
                    · go_simp
                    try simp only [lgA, lgS, lgZ, Act.put, lsA, lsZ, lsS]
                    refine turn_skip rfl rfl ?_
                    try simp only [lgA, lgS, lgZ, Act.put, lsA, lsZ, lsS]
                    refine turn_skip rfl rfl ?_
                    try simp only [lgA, lgS, lgZ, Act.put, lsA, lsZ, lsS]
                    refine turn_skip rfl rfl ?_
                    try simp only [lgA, lgS, lgZ, Act.put, lsA, lsZ, lsS]
                    refine turn_skip rfl rfl ?_
                    try simp only [lgA, lgS, lgZ, Act.put, lsA, lsZ, lsS]
                    refine turn_skip rfl rfl ?_
                    try simp only [lgA, lgS, lgZ, Act.put, lsA, lsZ, lsS]
                    refine turn_skip rfl rfl ?_
                    try simp only [lgA, lgS, lgZ, Act.put, lsA, lsZ, lsS]
                    refine turn_skip rfl rfl ?_
                    try simp only [lgA, lgS, lgZ, Act.put, lsA, lsZ, lsS]
                    refine turn_skip rfl rfl ?_
                    try simp only [lgA, lgS, lgZ, Act.put, lsA, lsZ, lsS]
                    refine turn_hskip rfl rfl (fun _ => Hb8.out) ?_
                    try simp only [lgA, lgS, lgZ, Act.put, lsA, lsZ, lsS]
                    refine turn_skip rfl rfl ?_
                    try simp only [lgA, lgS, lgZ, Act.put, lsA, lsZ, lsS]
                    refine turn_steady (.bool false) rfl rfl (fun W' hS => ?_) ?_
                    · go_simp
                    try simp only [lgA, lgS, lgZ, Act.put, lsA, lsZ, lsS]
                    refine turn_steady (.bool false) rfl rfl (fun W' hS => ?_) ?_
                    · go_simp
                    try simp only [lgA, lgS, lgZ, Act.put, lsA, lsZ, lsS]
                    refine turn_end ?_
                    try simp only [lgA, lgS, lgZ, Act.put, lsA, lsZ, lsS]
                    go_wp2_with fail
                    go_roundw
                    case rel => exact ⟨kk + 1, Hm.out, by go_num, by omega, H8⟩
                    case measure => simp only [intOf]; omega
                  | false =>
                    have hvd : Vl.mk vk vn vs vl vks = .mk dk dn dx dl dks := by
                      rcases hft.2 with ⟨x, hx, he⟩ | h
                      · have h9 := List.any_eq_false.1 hgv x hx
                        exact absurd (by rw [← sameB_toList] at he ⊢; simpa using (by simpa using he : tn.toList = x.1.toList).symm) h9
                      · exact h
                    cases hvd
                    clear hft hgv
                    go_wp2_with fail
                    clear d0 d1 d2 d3 d4
                    refine wp_region_turns (.s 0 (.s 1 (.s 2 (.s 3 (.s 4 (.s 5 (.s 6 (.s 7 (.h 8 (.s 9 (.s 10 (.s 11 (.s 12 (.s 13 (.s 14 (.s 15 (.s 16 (.s 17 (.s 18 (.s 19 (.s 20 (.s 21 (.h 22 (.s 23 (.s 24 (.s 25 .nil)))))))))))))))))))))))))) 99 (fun W' => Below wr.drew.heap.size wr.drew W') (by kernel_rfl) (by kernel_rfl) (fun c a d v w h => by cases d <;> exact h) (Below.refl _ _) ?_
                    generalize wr.drew = Wd at *
                    refine turn_steady (.pointer (some ⟨tb, 3, none⟩)) rfl rfl (fun W' hS => ?_) ?_
                    · go_simp
                    try simp only [lgA, lgZ, Act.put, lsA, lsZ, lsS]
                    refine turn_steady (.slice (some ⟨vb, vo, none⟩) l.length c1) rfl rfl (fun W' hS => ?_) ?_
                    · obtain ⟨z0, z1, z2, z3, z4, z5, z6, -⟩ := sixW_facts (H6.out.below hS).t
                      clear hS
                      go_simp
                    try simp only [lgA, lgS, lgZ, Act.put, lsA, lsZ, lsS]
                    refine turn_steady (.int .i64 j) rfl rfl (fun W' hS => ?_) ?_
                    · go_simp
                    try simp only [lgA, lgS, lgZ, Act.put, lsA, lsZ, lsS]
                    refine turn_steady (.pointer (some ⟨vb, vo + j * 6, none⟩)) rfl rfl (fun W' hS => ?_) ?_
                    · go_simp
                    try simp only [lgA, lgS, lgZ, Act.put, lsA, lsZ, lsS]
                    refine turn_steady (.pointer (some ⟨vb, vo + j * 6 + 1, none⟩)) rfl rfl (fun W' hS => ?_) ?_
                    · go_simp
                    try simp only [lgA, lgS, lgZ, Act.put, lsA, lsZ, lsS]
                    refine turn_steady (.agg #[.int .i64 vk, .int .i64 vn, .string vs, .slice y1 vl.length f1, .slice y2 vks.length f2]) rfl rfl (fun W' hS => ?_) ?_
                    · have hB := HB.out.trans (hS.mono HB.out.size)
                      have z1 := (hB.cell (p := ⟨vb, vo + j * 6 + 1, none⟩) hvbl).trans v1
                      have z2 := (hB.cell (p := ⟨vb, vo + j * 6 + 2, none⟩) hvbl).trans v2
                      have z3 := (hB.cell (p := ⟨vb, vo + j * 6 + 3, none⟩) hvbl).trans v3
                      have z4 := (hB.cell (p := ⟨vb, vo + j * 6 + 4, none⟩) hvbl).trans v4
                      have z5 := (hB.cell (p := ⟨vb, vo + j * 6 + 5, none⟩) hvbl).trans v5
                      clear hS hB
                      go_simp
                    try simp only [lgA, lgS, lgZ, Act.put, lsA, lsZ, lsS]
                    refine turn_steady (.pointer (some ⟨ab, 1, none⟩)) rfl rfl (fun W' hS => ?_) ?_
                    · go_simp
                    try simp only [lgA, lgS, lgZ, Act.put, lsA, lsZ, lsS]
                    refine turn_steady (.int .i64 ty) rfl rfl (fun W' hS => ?_) ?_
                    · obtain ⟨z0, z1, z2, z3, z4, z5, z6, z7, z8, -⟩ := a8w_facts (stays HA.out hS)
                      clear hS
                      go_simp
                    try simp only [lgA, lgS, lgZ, Act.put, lsA, lsZ, lsS]
                    refine turn_heavy rfl (fun K8 hK8 => ?_)
                    go_wp2_with fail
                    refine HFt.out.mono ?_
                    rintro e w8 ⟨rfl, hb8⟩
                    have H8 := Lib.hid (H6.out.below hb8)
                    have HA8 := Lib.hid (stays HA.out hb8)
                    have HB8 := Lib.hid (HB.out.trans (hb8.mono HB.out.size))
                    have Hb8 := Lib.hid hb8
                    clear hb8 HFt
                    go_wp2_with fail
                    refine hK8 _ _ (fun _ => Hb8.out) ?_
                    try simp only [lgA, lgS, lgZ, Act.put, lsA, lsZ, lsS]
                    refine turn_steady (.bool false) rfl rfl (fun W' hS => ?_) ?_
                    · go_simp
                    try simp only [lgA, lgS, lgZ, Act.put, lsA, lsZ, lsS]
                    refine turn_steady (.bool false) rfl rfl (fun W' hS => ?_) ?_
                    · go_simp
                    try simp only [lgA, lgS, lgZ, Act.put, lsA, lsZ, lsS]
                    refine turn_steady (.bool false) rfl rfl (fun W' hS => ?_) ?_
                    · go_simp
                    try simp only [lgA, lgS, lgZ, Act.put, lsA, lsZ, lsS]
                    refine turn_steady (.bool true) rfl rfl (fun W' hS => ?_) ?_
                    · go_simp
                    try simp only [lgA, lgS, lgZ, Act.put, lsA, lsZ, lsS]
                    refine turn_steady (.bool true) rfl rfl (fun W' hS => ?_) ?_
                    · go_simp
                    try simp only [lgA, lgS, lgZ, Act.put, lsA, lsZ, lsS]
                    refine turn_steady (.pointer (some ⟨tb, 3, none⟩)) rfl rfl (fun W' hS => ?_) ?_
                    · go_simp
                    try simp only [lgA, lgS, lgZ, Act.put, lsA, lsZ, lsS]
                    refine turn_steady (.slice (some ⟨vb, vo, none⟩) l.length c1) rfl rfl (fun W' hS => ?_) ?_
                    · obtain ⟨z0, z1, z2, z3, z4, z5, z6, -⟩ := sixW_facts (H6.out.below hS).t
                      clear hS
                      go_simp
                    try simp only [lgA, lgS, lgZ, Act.put, lsA, lsZ, lsS]
                    refine turn_steady (.int .i64 j) rfl rfl (fun W' hS => ?_) ?_
                    · go_simp
                    try simp only [lgA, lgS, lgZ, Act.put, lsA, lsZ, lsS]
                    refine turn_steady (.pointer (some ⟨vb, vo + j * 6, none⟩)) rfl rfl (fun W' hS => ?_) ?_
                    · go_simp
                    try simp only [lgA, lgS, lgZ, Act.put, lsA, lsZ, lsS]
                    refine turn_steady (.pointer (some ⟨vb, vo + j * 6 + 1, none⟩)) rfl rfl (fun W' hS => ?_) ?_
                    · go_simp
                    try simp only [lgA, lgS, lgZ, Act.put, lsA, lsZ, lsS]
                    refine turn_steady (.agg #[.int .i64 vk, .int .i64 vn, .string vs, .slice y1 vl.length f1, .slice y2 vks.length f2]) rfl rfl (fun W' hS => ?_) ?_
                    · have hB := HB.out.trans (hS.mono HB.out.size)
                      have z1 := (hB.cell (p := ⟨vb, vo + j * 6 + 1, none⟩) hvbl).trans v1
                      have z2 := (hB.cell (p := ⟨vb, vo + j * 6 + 2, none⟩) hvbl).trans v2
                      have z3 := (hB.cell (p := ⟨vb, vo + j * 6 + 3, none⟩) hvbl).trans v3
                      have z4 := (hB.cell (p := ⟨vb, vo + j * 6 + 4, none⟩) hvbl).trans v4
                      have z5 := (hB.cell (p := ⟨vb, vo + j * 6 + 5, none⟩) hvbl).trans v5
                      clear hS hB
                      go_simp
                    try simp only [lgA, lgS, lgZ, Act.put, lsA, lsZ, lsS]
                    refine turn_steady (.pointer (some ⟨ab, 3, none⟩)) rfl rfl (fun W' hS => ?_) ?_
                    · go_simp
                    try simp only [lgA, lgS, lgZ, Act.put, lsA, lsZ, lsS]
                    refine turn_steady (.agg #[.int .i64 vk, .int .i64 vn, .string vs, .slice u1 vl.length e1, .slice u2 vks.length e2]) rfl rfl (fun W' hS => ?_) ?_
                    · obtain ⟨z0, z1, z2, z3, z4, z5, z6, z7, z8, -⟩ := a8w_facts (stays HA.out hS)
                      clear hS
                      go_simp
                    try simp only [lgA, lgS, lgZ, Act.put, lsA, lsZ, lsS]
                    have HSm := Lib.hid (same11_any (.mk vk vn vs vl vks) Hsv.out (fun _ => True) y1 f1 y2 f2 u1 e1 u2 e2 w8 (HVR.out.1.below HB8.out) (HVR.out.2.below HB8.out) ((Hdr.out.1.below HB8.out).wider (fun _ _ _ => trivial)) ((Hdr.out.2.below HB8.out).wider (fun _ _ _ => trivial)))
                    refine turn_heavy rfl (fun K22 hK22 => ?_)
                    go_wp2_with fail
                    refine HSm.out.mono ?_
                    rintro e w9 ⟨rfl, hb9⟩
                    have H9 := Lib.hid (H8.out.below hb9)
                    have Hb9 := Lib.hid (Hb8.out.trans (hb9.mono Hb8.out.size))
                    clear hb9 HSm
                    go_wp2_with fail
                    refine hK22 _ _ (fun _ => Hb9.out) ?_
                    try simp only [lgA, lgS, lgZ, Act.put, lsA, lsZ, lsS]
                    refine turn_steady (.bool false) rfl rfl (fun W' hS => ?_) ?_
                    · go_simp
                    try simp only [lgA, lgS, lgZ, Act.put, lsA, lsZ, lsS]
                    refine turn_steady (.bool false) rfl rfl (fun W' hS => ?_) ?_
                    · go_simp
                    try simp only [lgA, lgS, lgZ, Act.put, lsA, lsZ, lsS]
                    refine turn_steady (.bool false) rfl rfl (fun W' hS => ?_) ?_
                    · go_simp
                    try simp only [lgA, lgS, lgZ, Act.put, lsA, lsZ, lsS]
                    refine turn_end ?_
                    try simp only [lgA, lgS, lgZ, Act.put, lsA, lsZ, lsS]
                    go_wp2_with fail
                    go_roundw
                    case rel => exact ⟨kk + 1, Hm.out, by go_num, by omega, H9⟩
                    case measure => simp only [intOf]; omega
          · have hkl : kk = l.length := by omega
            have hmt : (l.take kk).any (fun a => sameB a.name nm) = true := by
              rw [List.take_of_length_le (by omega)]
              obtain ⟨a, ha, he⟩ := Hex.out
              exact List.any_eq_true.2 ⟨a, ha, he⟩
            rw [hmt]
            have hbd := (Below.refl wr.heap.size wr).drew
            have H6 := Lib.hid (hS.out.below hbd)
            have HB := Lib.hid hbd
            clear hmt hbd
            cases j with
            | zero =>
              clear hS
              go_wp2_with fail
              clear q0 q1 q2 q3 q4 q5 t0 t1 t2 t3 t4 t5 t6
              refine wp_region_turns (.s 0 (.s 1 (.s 2 (.s 3 (.s 4 (.s 5 (.s 6 (.s 7 (.s 8 (.s 9 (.s 10 (.s 11 (.s 12 (.s 13 (.s 14 (.s 15 (.s 16 (.s 17 (.s 18 (.s 19 (.s 20 (.s 21 .nil)))))))))))))))))))))) 99 (fun W' => Below wr.drew.heap.size wr.drew W') (by kernel_rfl) (by kernel_rfl) (fun c a d v w h => by cases d <;> exact h) (Below.refl _ _) ?_
              generalize wr.drew = Wd at *
              refine turn_steady (.bool true) rfl rfl (fun W' hS => ?_) ?_
              · go_simp
              try simp only [lgA, lgZ, Act.put, lsA, lsZ, lsS]
              refine turn_steady (.bool false) rfl rfl (fun W' hS => ?_) ?_
              · go_simp
              try simp only [lgA, lgS, lgZ, Act.put, lsA, lsZ, lsS]
              refine turn_steady (.bool false) rfl rfl (fun W' hS => ?_) ?_
              · go_simp
              try simp only [lgA, lgS, lgZ, Act.put, lsA, lsZ, lsS]
              refine turn_steady (.int .i64 (0 : Nat)) rfl rfl (fun W' hS => ?_) ?_
              · go_simp
              try simp only [lgA, lgS, lgZ, Act.put, lsA, lsZ, lsS]
              refine turn_steady (.bool false) rfl rfl (fun W' hS => ?_) ?_
              · go_simp
              try simp only [lgA, lgS, lgZ, Act.put, lsA, lsZ, lsS]
              refine turn_steady (.bool false) rfl rfl (fun W' hS => ?_) ?_
              · go_simp
              try simp only [lgA, lgS, lgZ, Act.put, lsA, lsZ, lsS]
              refine turn_skip rfl rfl ?_
              try simp only [lgA, lgS, lgZ, Act.put, lsA, lsZ, lsS]
              refine turn_skip rfl rfl ?_
              try simp only [lgA, lgS, lgZ, Act.put, lsA, lsZ, lsS]
              refine turn_skip rfl rfl ?_
              try simp only [lgA, lgS, lgZ, Act.put, lsA, lsZ, lsS]
              refine turn_skip rfl rfl ?_
              try simp only [lgA, lgS, lgZ, Act.put, lsA, lsZ, lsS]
              refine turn_skip rfl rfl ?_
              try simp only [lgA, lgS, lgZ, Act.put, lsA, lsZ, lsS]
              refine turn_skip rfl rfl ?_
              try simp only [lgA, lgS, lgZ, Act.put, lsA, lsZ, lsS]
              refine turn_skip rfl rfl ?_
              try simp only [lgA, lgS, lgZ, Act.put, lsA, lsZ, lsS]
              refine turn_skip rfl rfl ?_
              try simp only [lgA, lgS, lgZ, Act.put, lsA, lsZ, lsS]
              refine turn_skip rfl rfl ?_
              try simp only [lgA, lgS, lgZ, Act.put, lsA, lsZ, lsS]
              refine turn_skip rfl rfl ?_
              try simp only [lgA, lgS, lgZ, Act.put, lsA, lsZ, lsS]
              refine turn_skip rfl rfl ?_
              try simp only [lgA, lgS, lgZ, Act.put, lsA, lsZ, lsS]
              refine turn_skip rfl rfl ?_
              try simp only [lgA, lgS, lgZ, Act.put, lsA, lsZ, lsS]
              refine turn_skip rfl rfl ?_
              try simp only [lgA, lgS, lgZ, Act.put, lsA, lsZ, lsS]
              refine turn_skip rfl rfl ?_
              try simp only [lgA, lgS, lgZ, Act.put, lsA, lsZ, lsS]
              refine turn_steady (.bool false) rfl rfl (fun W' hS => ?_) ?_
              · go_simp
              try simp only [lgA, lgS, lgZ, Act.put, lsA, lsZ, lsS]
              refine turn_steady (.bool false) rfl rfl (fun W' hS => ?_) ?_
              · go_simp
              try simp only [lgA, lgS, lgZ, Act.put, lsA, lsZ, lsS]
              refine turn_end ?_
              try simp only [lgA, lgS, lgZ, Act.put, lsA, lsZ, lsS]
              go_wp2_with fail
              go_roundw
              case rel => exact ⟨0 + 1, by go_num, by omega, H6⟩
              case measure => simp only [intOf]; omega
            | succ i =>
              have hv9 : VS1[i]? = some (VS1[i]'(by omega)) := List.getElem?_eq_getElem (by omega)
              generalize VS1[i]'(by omega) = v9 at hv9
              obtain ⟨nm0, ⟨ok, on, os, ol, oks⟩⟩ := v9
              obtain ⟨vb', vo', -, -, -, -, hva', -, hvbl', o0, -⟩ := (HV.out.below hS.out.bt).named hv9
              cases hva'
              have hless : Op.bytesLess nm0.toList nm.toList = true := below_less (by
                have h9 := List.pairwise_iff_getElem.1 Hall.out.1 i (i + 1) (by omega) (by omega) (by omega)
                obtain ⟨g1, g2⟩ := List.getElem?_eq_some_iff.1 hv9
                obtain ⟨g3, g4⟩ := List.getElem?_eq_some_iff.1 Hv0.out
                rw [g2, g4] at h9
                exact h9)
              have hwr : IntKind.i64.wrap (i : Int) = (i : Int) := by
                simp [IntKind.wrap, IntKind.signed, IntKind.bits]
                omega
              have hjn : ((i + 1 : Nat) : Int) - 1 = (i : Int) := by omega
              have hpos : (0 : Int) < ((i + 1 : Nat) : Int) := by omega
              have hnn : ¬ ((i : Int) + 1 < 0) := by omega
              have hil : ¬ l.length ≤ i := by omega
              have hil2 : ¬ l.length ≤ i + 1 := by omega
              have hil3 : ¬ ((l.length : Int) ≤ (i : Int) + 1) := by omega
              clear hS hv9
              go_wp2_with fail
              clear q0 q1 q2 q3 q4 q5 t0 t1 t2 t3 t4 t5 t6
              refine wp_region_turns (.s 0 (.s 1 (.s 2 (.s 3 (.s 4 (.s 5 (.s 6 (.s 7 (.s 8 (.s 9 (.s 10 (.s 11 (.s 12 (.s 13 (.s 14 (.s 15 (.s 16 (.s 17 (.s 18 (.s 19 (.s 20 (.s 21 .nil)))))))))))))))))))))) 99 (fun W' => Below wr.drew.heap.size wr.drew W') (by kernel_rfl) (by kernel_rfl) (fun c a d v w h => by cases d <;> exact h) (Below.refl _ _) ?_
              generalize wr.drew = Wd at *
              refine turn_steady (.bool true) rfl rfl (fun W' hS => ?_) ?_
              · go_simp
              try simp only [lgA, lgZ, Act.put, lsA, lsZ, lsS]
              refine turn_steady (.bool false) rfl rfl (fun W' hS => ?_) ?_
              · go_simp
              try simp only [lgA, lgS, lgZ, Act.put, lsA, lsZ, lsS]
              refine turn_steady (.bool false) rfl rfl (fun W' hS => ?_) ?_
              · go_simp
              try simp only [lgA, lgS, lgZ, Act.put, lsA, lsZ, lsS]
              refine turn_steady (.int .i64 (i + 1 : Nat)) rfl rfl (fun W' hS => ?_) ?_
              · go_simp
              try simp only [lgA, lgS, lgZ, Act.put, lsA, lsZ, lsS]
              refine turn_steady (.bool true) rfl rfl (fun W' hS => ?_) ?_
              · go_simp
              try simp only [lgA, lgS, lgZ, Act.put, lsA, lsZ, lsS]
              refine turn_steady (.bool true) rfl rfl (fun W' hS => ?_) ?_
              · go_simp
              try simp only [lgA, lgS, lgZ, Act.put, lsA, lsZ, lsS]
              refine turn_steady (.pointer (some ⟨tb, 3, none⟩)) rfl rfl (fun W' hS => ?_) ?_
              · go_simp
              try simp only [lgA, lgS, lgZ, Act.put, lsA, lsZ, lsS]
              refine turn_steady (.slice (some ⟨vb, vo, none⟩) l.length c1) rfl rfl (fun W' hS => ?_) ?_
              · obtain ⟨z0, z1, z2, z3, z4, z5, z6, -⟩ := sixW_facts (H6.out.below hS).t
                clear hS
                go_simp
              try simp only [lgA, lgS, lgZ, Act.put, lsA, lsZ, lsS]
              refine turn_steady (.int .i64 (i + 1 : Nat)) rfl rfl (fun W' hS => ?_) ?_
              · go_simp
              try simp only [lgA, lgS, lgZ, Act.put, lsA, lsZ, lsS]
              refine turn_steady (.int .i64 i) rfl rfl (fun W' hS => ?_) ?_
              · go_simp
              try simp only [lgA, lgS, lgZ, Act.put, lsA, lsZ, lsS]
              refine turn_steady (.pointer (some ⟨vb, vo + i * 6, none⟩)) rfl rfl (fun W' hS => ?_) ?_
              · go_simp
              try simp only [lgA, lgS, lgZ, Act.put, lsA, lsZ, lsS]
              refine turn_steady (.pointer (some ⟨vb, vo + i * 6, none⟩)) rfl rfl (fun W' hS => ?_) ?_
              · go_simp
              try simp only [lgA, lgS, lgZ, Act.put, lsA, lsZ, lsS]
              refine turn_steady (.string nm0) rfl rfl (fun W' hS => ?_) ?_
              · have hB := HB.out.trans (hS.mono HB.out.size)
                have z0 := (hB.cell (p := ⟨vb, vo + i * 6, none⟩) hvbl).trans o0
                clear hS hB
                go_simp
              try simp only [lgA, lgS, lgZ, Act.put, lsA, lsZ, lsS]
              refine turn_steady (.pointer (some ⟨tb, 3, none⟩)) rfl rfl (fun W' hS => ?_) ?_
              · go_simp
              try simp only [lgA, lgS, lgZ, Act.put, lsA, lsZ, lsS]
              refine turn_steady (.slice (some ⟨vb, vo, none⟩) l.length c1) rfl rfl (fun W' hS => ?_) ?_
              · obtain ⟨z0, z1, z2, z3, z4, z5, z6, -⟩ := sixW_facts (H6.out.below hS).t
                clear hS
                go_simp
              try simp only [lgA, lgS, lgZ, Act.put, lsA, lsZ, lsS]
              refine turn_steady (.int .i64 (i + 1 : Nat)) rfl rfl (fun W' hS => ?_) ?_
              · go_simp
              try simp only [lgA, lgS, lgZ, Act.put, lsA, lsZ, lsS]
              refine turn_steady (.pointer (some ⟨vb, vo + (i + 1) * 6, none⟩)) rfl rfl (fun W' hS => ?_) ?_
              · go_simp
              try simp only [lgA, lgS, lgZ, Act.put, lsA, lsZ, lsS]
              refine turn_steady (.pointer (some ⟨vb, vo + (i + 1) * 6, none⟩)) rfl rfl (fun W' hS => ?_) ?_
              · go_simp
              try simp only [lgA, lgS, lgZ, Act.put, lsA, lsZ, lsS]
              refine turn_steady (.string nm) rfl rfl (fun W' hS => ?_) ?_
              · have hB := HB.out.trans (hS.mono HB.out.size)
                have z0 := (hB.cell (p := ⟨vb, vo + (i + 1) * 6, none⟩) hvbl).trans v0
                clear hS hB
                go_simp
              try simp only [lgA, lgS, lgZ, Act.put, lsA, lsZ, lsS]
              refine turn_steady (.bool false) rfl rfl (fun W' hS => ?_) ?_
              · go_simp
              try simp only [lgA, lgS, lgZ, Act.put, lsA, lsZ, lsS]
              refine turn_steady (.bool false) rfl rfl (fun W' hS => ?_) ?_
              · go_simp
              try simp only [lgA, lgS, lgZ, Act.put, lsA, lsZ, lsS]
              refine turn_steady (.bool false) rfl rfl (fun W' hS => ?_) ?_
              · go_simp
              try simp only [lgA, lgS, lgZ, Act.put, lsA, lsZ, lsS]
              refine turn_end ?_
              try simp only [lgA, lgS, lgZ, Act.put, lsA, lsZ, lsS]
              go_wp2_with fail
              go_roundw
              case rel => exact ⟨i + 1 + 1, by go_num, by omega, H6⟩
              case measure => simp only [intOf]; omega
      · have HX1 := Lib.hid (HX.out wr hS.out.b)
        go_wp2_with fail
        refine HX1.out.mono ?_
        rintro e w9 ⟨rfl, hb9⟩
        have Hb9 := Lib.hid (hS.out.b.trans (hb9.mono hS.out.b.size))
        clear hb9
        go_wp2_with fail
        go_ret
        exact ⟨rfl, Hb9.out⟩
end Go.Proofs.YthknljeffpbbmaaGreatDoor
