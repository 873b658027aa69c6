/-
  The chapter's example: the walks of rules.Load at its text, and of what asks for it.
-/
import Derived.Test.YthknljeffpbbmaaGreatDoorMFixC
import Derived.Test.YthknljeffpbbmaaGreatDoorMFixG
import Derived.Test.YthknljeffpbbmaaGreatDoorMParseX
import Derived.Test.YthknljeffpbbmaaGreatDoorMLawOrdF
namespace Go.Proofs.YthknljeffpbbmaaGreatDoor
open Go Go.RowKit

/-- A node of a row, its kids' capacity told where it is a rule's. -/
theorem RowAt.nodeC {F : Nat → Prop} {w : World} {a : Option Addr} {l : List Nd} (h : RowAt F w a (nodesD l)) {j : Nat} {k ln cl : Int} {t : ByteArray} {m : List Nd} (hj : l[j]? = some (.mk k t ln cl m)) :
    ∃ b off a1 c1, a = some ⟨b, off, none⟩ ∧ b < w.heap.size ∧ (w.cell? ⟨b, off + j * 5, none⟩ = some (.int .i64 k) ∧ w.cell? ⟨b, off + j * 5 + 1, none⟩ = some (.string t) ∧ w.cell? ⟨b, off + j * 5 + 2, none⟩ = some (.int .i64 ln) ∧
      w.cell? ⟨b, off + j * 5 + 3, none⟩ = some (.int .i64 cl) ∧ w.cell? ⟨b, off + j * 5 + 4, none⟩ = some (.slice a1 m.length c1)) ∧ (k = 6 → m.length ≤ c1) ∧ RowAt F w a1 (nodesD m) := by
  obtain ⟨b, off, cs, ha, hF, hb, hd, hc⟩ := h j (nodeD (.mk k t ln cl m)) (by rw [nodesD_map, List.getElem?_map, hj]; rfl)
  have hv : NodeV F w (.mk k t ln cl m) (.agg cs.toArray) := ⟨cs, rfl, hd⟩
  obtain ⟨a1, c1, he, h6, hr⟩ := hv.openC
  have hcs : cs = [.int .i64 k, .string t, .int .i64 ln, .int .i64 cl, .slice a1 m.length c1] := by simpa using he
  subst hcs
  rw [nodeD_len] at hc
  exact ⟨b, off, a1, c1, ha, hb, ⟨hc 0 _ rfl, hc 1 _ rfl, hc 2 _ rfl, hc 3 _ rfl, hc 4 _ rfl⟩, h6, hr⟩

/-- The example's rule's node in memory, as far as it is read. -/
structure ExN (nb no kb ko kc k2b k2o k2c c3 : Nat) (b3 : Option Addr) (w : World) : Prop where
  n0 : w.cell? ⟨nb, no, none⟩ = some (.int .i64 6)
  n1 : w.cell? ⟨nb, no + 1, none⟩ = some (.string ⟨#[99, 111, 112, 121]⟩)
  n2 : w.cell? ⟨nb, no + 2, none⟩ = some (.int .i64 1)
  n3 : w.cell? ⟨nb, no + 3, none⟩ = some (.int .i64 1)
  n4 : w.cell? ⟨nb, no + 4, none⟩ = some (.slice (some ⟨kb, ko, none⟩) 2 kc)
  cap : 2 ≤ kc
  ex : ExK kb ko k2b k2o k2c c3 b3 w
theorem ExN.below {nb no kb ko kc k2b k2o k2c c3 : Nat} {b3 : Option Addr} {w w' : World} (h : ExN nb no kb ko kc k2b k2o k2c c3 b3 w) (hb : Below w.heap.size w w') : ExN nb no kb ko kc k2b k2o k2c c3 b3 w' :=
  ⟨(hb.cell (p := ⟨nb, no, none⟩) (block_of_cell h.n0)).trans h.n0, (hb.cell (p := ⟨nb, no + 1, none⟩) (block_of_cell h.n1)).trans h.n1, (hb.cell (p := ⟨nb, no + 2, none⟩) (block_of_cell h.n2)).trans h.n2, (hb.cell (p := ⟨nb, no + 3, none⟩) (block_of_cell h.n3)).trans h.n3, (hb.cell (p := ⟨nb, no + 4, none⟩) (block_of_cell h.n4)).trans h.n4, h.cap, h.ex.below hb⟩
theorem exN_of_row {F : Nat → Prop} {w : World} {a : Option Addr} (h : RowAt F w a (nodesD copyKids)) : ∃ nb no kb ko kc k2b k2o k2c c3 : Nat, ∃ b3 : Option Addr, a = some ⟨nb, no, none⟩ ∧ ExN nb no kb ko kc k2b k2o k2c c3 b3 w := by
  obtain ⟨nb, no, a1, kc, rfl, -, ⟨n0, n1, n2, n3, n4⟩, hcap, h1⟩ := h.nodeC (j := 0) rfl
  obtain ⟨kb, ko, a2, k2c, rfl, -, ⟨e0, e1, e2, e3, e4⟩, -, h2⟩ := h1.nodeC (j := 0) rfl
  obtain ⟨kb', ko', b3, c3, he, -, ⟨d0, d1, d2, d3, d4⟩, -, -⟩ := h1.nodeC (j := 1) rfl
  cases he
  obtain ⟨k2b, k2o, a4, k4c, rfl, -, ⟨f0, f1, f2, f3, f4⟩, -, -⟩ := h2.nodeC (j := 0) rfl
  simp only [Nat.zero_mul, Nat.add_zero, Nat.one_mul] at n0 n1 n2 n3 n4 e0 e1 e2 e3 e4 d4 f1
  exact ⟨nb, no, kb, ko, kc, k2b, k2o, k2c, c3, b3, rfl, n0, n1, n2, n3, n4, hcap rfl, e0, e1, e2, e3, e4, d4, f1⟩

/-- What Load hands back at the example, as far as it is looked at. -/
def PEx (w : World) (e : Ending) (w' : World) : Prop := Below w.heap.size w w' ∧ ∃ lb lc ab ac : Nat, e = .returned (.tuple #[.slice (some ⟨lb, 0, none⟩) 1 lc, .int .i64 0, .agg #[.int .i64 0, .int .i64 0]]) ∧
  w'.cell? ⟨lb, 1, none⟩ = some (.slice (some ⟨ab, 0, none⟩) 3 ac) ∧ w'.cell? ⟨ab, 16, none⟩ = some (.string ⟨#[115, 114, 99]⟩) ∧ w'.cell? ⟨ab, 18, none⟩ = some (.bool true)
theorem infoRule : (Tryz.prog.info? 27).map (fun i => (i.zero, i.size, i.bytes)) = some (some (.agg #[.string ByteArray.empty, .slice none 0 0, .slice none 0 0, .int .i64 0, .int .i64 0]), 5, 80) := by kernel_rfl
/-- Plain cells, as data. -/
theorem AggAt.ones {F : Nat → Prop} {w : World} : ∀ cs : List Value, AggAt F w (cs.map .one) cs
  | [] => .nil
  | c :: t => .cons (.one c) (AggAt.ones t)
theorem two_wfacts {w : World} {b : Nat} {x y : Value} {t : TypeId} (h : w.heap[b]? = some (.cells #[x, y] t (0, 0))) (v0 v1 : Value) :
    (w.setCells b 0 [v0, v1]).heap[b]? = some (.cells #[v0, v1] t (0, 0)) := setCells_block b [v0, v1] 0 w _ t (0, 0) h

set_option maxRecDepth 100000 in
set_option maxHeartbeats 8000000 in
theorem loadEx_any (fb : Nat) (w : World) (hw : StdE w) (hwb : StdB w) (hf : w.heap[fb]? = some (.cells #[.string ⟨#[82, 85, 76, 69, 83]⟩, .string copyText] 87 (0, 0))) :
    Calls Tryz.prog 35 #[.slice (some ⟨fb, 0, none⟩) 1 1] w (PEx w) := by
  have hba : Below w.heap.size w (w.alloc (.cells #[.int .i64 0, .int .i64 0] 25)) := (Below.refl _ w).alloc (Nat.le_refl _) _
  have H0 := Lib.hid (And.intro (heap_alloc_new w (.cells #[.int .i64 0, .int .i64 0] 25)) hba)
  have HG := Lib.hid (get_any copyText fb _ (stays hf hba))
  have HR := Lib.hid (fun W (h : Below w.heap.size w W) => read_any copyText W (by decide) (hw.below h) (by rw [copy_read]; exact fun h => by cases h))
  have Hw := Lib.hid hwb
  clear hw hwb hf hba
  go_enter Tryz.func35, Tryz.ntmps35
  go_wp2_with fail
  refine HG.out.mono ?_
  rintro e w1 ⟨rfl, hb1⟩
  have H1 := Lib.hid (And.intro (stays H0.out.1 hb1) (H0.out.2.trans (hb1.mono H0.out.2.size)))
  have HR1 := Lib.hid (HR.out w1 H1.out.2)
  clear hb1 H0 HG HR
  go_wp2_with fail
  refine HR1.out.mono ?_
  rintro e w2 ⟨hb2, hq⟩
  rw [copy_read] at hq
  obtain ⟨v, rfl, hv⟩ := hq
  obtain ⟨a, cap, rfl, hrow⟩ := hv.open
  obtain ⟨nb, no, kb, ko, kc, k2b, k2o, k2c, c3, b3, rfl, hex⟩ := exN_of_row hrow
  have hlen : copyKids.length = 1 := rfl
  rw [hlen]
  obtain ⟨m1, m2, m3, m4⟩ := alloc2 w2 (.cells #[.int .i64 1, .string ⟨#[]⟩, .int .i64 1, .int .i64 1, .slice (some ⟨nb, no, none⟩) 1 cap] 83) (.cells #[.int .i64 0, .int .i64 0] 25)
  have hb3 := hb2.trans (m3.mono hb2.size)
  have H2 := Lib.hid (And.intro (stays H1.out.1 hb3) (And.intro m1 (And.intro m2 (And.intro (H1.out.2.trans (hb3.mono H1.out.2.size)) (hex.below m3)))))
  clear hb2 hb3 m1 m2 m3 hv hrow hex hlen H1 HR1
  obtain ⟨i0, hi, hz0, hz1, hz2⟩ := info_parts infoRule
  go_wp2_with fail
  generalize World.alloc _ _ = W2 at H2 ⊢
  obtain ⟨q0, q1, q2, q3, q4, q5, -⟩ := five_facts H2.out.2.1
  obtain ⟨p0, p1, p2, p3, p4⟩ := two_facts H2.out.2.2.1
  go_wp2_with fail
  clear q0 q1 q2 q3 q4 q5 p0 p1 p2 p3 p4
  go_loopw [10, 36] (fun v i wr => (v = .slice none 0 0 ∧ i = .int .i64 0 ∧ Hid (wr.heap[w.heap.size]? = some (.cells #[.int .i64 0, .int .i64 0] 25 (0, 0)) ∧ Below w.heap.size w wr ∧ ExN nb no kb ko kc k2b k2o k2c c3 b3 wr)) ∨
    (∃ lb lc ab ac : Nat, v = .slice (some ⟨lb, 0, none⟩) 1 lc ∧ i = .int .i64 1 ∧ Hid (wr.heap[w.heap.size]? = some (.cells #[.int .i64 0, .int .i64 0] 25 (0, 0)) ∧ Below w.heap.size w wr ∧ wr.cell? ⟨lb, 1, none⟩ = some (.slice (some ⟨ab, 0, none⟩) 3 ac) ∧ wr.cell? ⟨ab, 16, none⟩ = some (.string ⟨#[115, 114, 99]⟩) ∧ wr.cell? ⟨ab, 18, none⟩ = some (.bool true) ∧ lb ≠ w.heap.size ∧ ab ≠ w.heap.size))) (fun _ i _ => 2 - (intOf i).toNat)
  case atStart => exact .inl ⟨rfl, rfl, Lib.hid ⟨H2.out.1, H2.out.2.2.2.1, H2.out.2.2.2.2⟩⟩
  case round =>
    rcases hrel with ⟨rfl, rfl, hst⟩ | ⟨lb, lc, ab, ac, rfl, rfl, hst⟩
    · obtain ⟨r0, r1, r2, r3, r4, hcap, hk⟩ := hst.out.2.2
      have rb := block_of_cell r0
      have hba : Below wr.heap.size wr (wr.alloc (.cells #[.int .i64 6, .string ⟨#[99, 111, 112, 121]⟩, .int .i64 1, .int .i64 1, .slice (some ⟨kb, ko, none⟩) 2 kc] 83)) := (Below.refl _ _).alloc (Nat.le_refl _) _
      have HU := Lib.hid (ruleEx_any kb ko kc k2b k2o k2c c3 b3 hcap (wr.alloc (.cells #[.int .i64 6, .string ⟨#[99, 111, 112, 121]⟩, .int .i64 1, .int .i64 1, .slice (some ⟨kb, ko, none⟩) 2 kc] 83)) (Hw.out.below (hst.out.2.1.trans (hba.mono hst.out.2.1.size))) (hk.below hba))
      have H3 := Lib.hid (And.intro (stays hst.out.1 hba) (hst.out.2.1.trans (hba.mono hst.out.2.1.size)))
      have hsw := here hst.out.1
      clear hst hba hk
      go_wp2_with fail
      refine HU.out.mono ?_
      rintro e w5 ⟨hb5, ab, ac, rfl, x1, x2⟩
      have hs5 : wr.heap.size < w5.heap.size := by have := hb5.size; simp at this; omega
      obtain ⟨m1, m2, m3, m4⟩ := alloc2 w5 (.cells #[.string ⟨#[99, 111, 112, 121]⟩, .slice (some ⟨ab, 0, none⟩) 3 ac, .slice b3 0 c3, .int .i64 1, .int .i64 1] 27) (.cells #[.int .i64 0, .int .i64 0, .int .i64 0] 114)
      have hb6 : Below w5.heap.size w5 (((w5.alloc (.cells #[.string ⟨#[99, 111, 112, 121]⟩, .slice (some ⟨ab, 0, none⟩) 3 ac, .slice b3 0 c3, .int .i64 1, .int .i64 1] 27)).alloc (.cells #[.int .i64 0, .int .i64 0, .int .i64 0] 114)).alloc (.cells #[.string ⟨#[99, 111, 112, 121]⟩, .slice (some ⟨ab, 0, none⟩) 3 ac, .slice b3 0 c3, .int .i64 1, .int .i64 1] 27)) := m3.alloc (by omega) _
      have hb56 := hb5.trans (hb6.mono hb5.size)
      have H6 := Lib.hid (And.intro (stays H3.out.1 hb56) (And.intro (H3.out.2.trans (hb56.mono H3.out.2.size)) (And.intro ((hb6.cell (p := ⟨ab, 16, none⟩) (block_of_cell x1)).trans x1) ((hb6.cell (p := ⟨ab, 18, none⟩) (block_of_cell x2)).trans x2))))
      have hnews := lit_newsP ((w5.alloc (.cells #[.string ⟨#[99, 111, 112, 121]⟩, .slice (some ⟨ab, 0, none⟩) 3 ac, .slice b3 0 c3, .int .i64 1, .int .i64 1] 27)).alloc (.cells #[.int .i64 0, .int .i64 0, .int .i64 0] 114)) [.string ⟨#[99, 111, 112, 121]⟩, .slice (some ⟨ab, 0, none⟩) 3 ac, .slice b3 0 c3, .int .i64 1, .int .i64 1] 27
      rw [show ((w5.alloc (.cells #[.string ⟨#[99, 111, 112, 121]⟩, .slice (some ⟨ab, 0, none⟩) 3 ac, .slice b3 0 c3, .int .i64 1, .int .i64 1] 27)).alloc (.cells #[.int .i64 0, .int .i64 0, .int .i64 0] 114)).heap.size = w5.heap.size + 1 + 1 by simp] at hnews
      have Hnews := Lib.hid hnews
      clear HU H3 hb5 hb6 hb56 m1 m2 m3 m4 hnews r0 r1 r2 r3 r4 rb x1 x2
      go_wp2_with (at_builtin; refine wpList_append_dat rfl _ _ 52 rfl w.heap.size 27 i0 _ 5 80 Tryz.underlying52 hi hz0 hz1 hz2 rfl (by decide) (.slice none 0 0) (fun _ => True) [] rfl (OwnD.nil _ _ _ _ _) ⟨w5.heap.size + 1 + 1, 0, none⟩ 1 ([.string ⟨#[99, 111, 112, 121]⟩, .slice (some ⟨ab, 0, none⟩) 3 ac, .slice b3 0 c3, .int .i64 1, .int .i64 1].map .one) [.string ⟨#[99, 111, 112, 121]⟩, .slice (some ⟨ab, 0, none⟩) 3 ac, .slice b3 0 c3, .int .i64 1, .int .i64 1] rfl rfl Hnews.out ?_ (AggAt.ones _) ?_ ?_ ?_ ?_)
      · simp [Value.oneCell']
      · unfold maxLen; decide
      · decide
      · simp; omega
      intro v7 w7 hown7 hgrow7 hat7
      obtain ⟨a7, c7, hv7, hc7⟩ := hown7.shape
      subst hv7
      obtain ⟨lb, rfl, hlb, hlbl, -⟩ := hown7.blk (by simp) rfl (fun d hd => by
        simp at hd
        subst hd
        rfl)
      obtain ⟨cs, hag, hcl⟩ := hown7.elt (j := 0) (ds := [.string ⟨#[99, 111, 112, 121]⟩, .slice (some ⟨ab, 0, none⟩) 3 ac, .slice b3 0 c3, .int .i64 1, .int .i64 1].map .one) rfl rfl
      obtain ⟨c0, cs, rfl, -, hag⟩ := hag.cons_inv
      obtain ⟨c1, cs, rfl, g1, -⟩ := hag.cons_inv
      obtain rfl := g1.one_inv
      have y1 := hcl 1 _ rfl
      have hlow : w.heap.size < w5.heap.size := by omega
      have hb7' := hgrow7.block
      have hne1 : lb ≠ w.heap.size := by
        rcases hat7 lb rfl with h | h
        · cases h
        · (try simp at h); omega
      have hp6 := H6.out.1
      have hpl := here hp6
      have z0 := (hb7' _ hpl (by intro h; cases h)).trans hp6
      have x16 := H6.out.2.2.1
      have x18 := H6.out.2.2.2
      have hal := block_of_cell x16
      have z16 := (World.cell?_of_block (hb7' _ hal (by intro h; cases h)) (a := ⟨ab, 16, none⟩)).trans x16
      have z18 := (World.cell?_of_block (hb7' _ hal (by intro h; cases h)) (a := ⟨ab, 18, none⟩)).trans x18
      have hne2 : ab ≠ w.heap.size := by
        intro h
        subst h
        obtain ⟨-, h2, -⟩ := block_facts z0
        rw [h2] at z16
        cases z16
      have hbw := H6.out.2.1
      have hB7 : Below w.heap.size w w7 := ⟨hgrow7.os.trans hbw.os, hgrow7.tape.trans hbw.tape, hgrow7.output.trans hbw.output, Nat.le_trans hbw.size hgrow7.size, fun k hk => (hb7' k (Nat.lt_of_lt_of_le hk hbw.size) (by intro h; cases h)).trans (hbw.block k hk)⟩
      have H7 := Lib.hid (And.intro z0 (And.intro hB7 (And.intro y1 (And.intro z16 (And.intro z18 (And.intro hne1 hne2))))))
      clear hown7 hgrow7 hat7 H6 Hnews hcl hag hb7' hp6 hpl z0 x16 x18 hal z16 z18 hbw hB7 y1 hne1 hne2
      go_wp2_with fail
      go_roundw
      case rel => exact .inr ⟨lb, c7, ab, ac, rfl, by go_num, H7⟩
      case measure => simp [intOf]
    · obtain ⟨p0, p1, p2, p3, p4⟩ := two_facts hst.out.1
      have f1 := two_wfacts hst.out.1 (.int .i64 0) (.int .i64 0)
      have f2 := below_setCells (n := w.heap.size) (g := w.heap.size) (Nat.le_refl _) [.int .i64 0, .int .i64 0] 0 wr hst.out.2.1
      have f3 := setCells_other w.heap.size lb hst.out.2.2.2.2.2.1 [.int .i64 0, .int .i64 0] 0 wr
      have f4 := setCells_other w.heap.size ab hst.out.2.2.2.2.2.2 [.int .i64 0, .int .i64 0] 0 wr
      have HR : Hid (PEx w (.returned (.tuple #[.slice (some ⟨lb, 0, none⟩) 1 lc, .int .i64 0, .agg #[.int .i64 0, .int .i64 0]])) (wr.setCells w.heap.size 0 [.int .i64 0, .int .i64 0])) := Lib.hid
        ⟨f2, lb, lc, ab, ac, rfl, (World.cell?_of_block f3 (a := ⟨lb, 1, none⟩)).trans hst.out.2.2.1, (World.cell?_of_block f4 (a := ⟨ab, 16, none⟩)).trans hst.out.2.2.2.1, (World.cell?_of_block f4 (a := ⟨ab, 18, none⟩)).trans hst.out.2.2.2.2.1⟩
      clear f2 f3 f4 hst
      go_wp2_with fail
      refine bodyPost_ret (w := wr.setCells w.heap.size 0 [.int .i64 0, .int .i64 0]) (v := .tuple #[.slice (some ⟨lb, 0, none⟩) 1 lc, .int .i64 0, .agg #[.int .i64 0, .int .i64 0]]) ?_ rfl HR.out
      clear HR
      generalize World.setCells _ _ _ _ = W9 at f1 ⊢
      obtain ⟨t0, t1, t2, -, -⟩ := two_facts f1
      simp [results, Tryz.results35, go_sem, t1, t2]

set_option maxRecDepth 100000 in
set_option maxHeartbeats 4000000 in
theorem load_any (w : World) (hw : StdE w) (hwb : StdB w) : Calls Tryz.prog 15 #[.string copyText] w (PEx w) := by
  obtain ⟨n1, n2, n3, n4⟩ := alloc2 w (.cells #[.int .i64 0, .int .i64 0] 25) (.cells #[.string ⟨#[82, 85, 76, 69, 83]⟩, .string copyText] 87)
  have H0 := Lib.hid (And.intro n1 n3)
  have HL := Lib.hid (loadEx_any (w.heap.size + 1) _ (hw.below n3) (hwb.below n3) n2)
  clear n1 n2 n3 n4 hw hwb
  go_enter Tryz.func15, Tryz.ntmps15
  go_wp2_with fail
  refine HL.out.mono ?_
  rintro e w1 ⟨hb1, lb, lc, ab, ac, rfl, x1, x2, x3⟩
  have h0 := stays H0.out.1 hb1
  have hbw := H0.out.2.trans (hb1.mono H0.out.2.size)
  obtain ⟨p0, p1, p2, p3, p4⟩ := two_facts h0
  have f1 := two_wfacts h0 (.int .i64 0) (.int .i64 0)
  have f2 := below_setCells (n := w.heap.size) (g := w.heap.size) (Nat.le_refl _) [.int .i64 0, .int .i64 0] 0 w1 hbw
  have hne : ab ≠ w.heap.size := by
    intro h
    subst h
    obtain ⟨-, h2, -⟩ := block_facts h0
    rw [h2] at x2
    cases x2
  have hne2 : lb ≠ w.heap.size := by
    intro h
    subst h
    obtain ⟨-, h2, -⟩ := block_facts h0
    rw [h2] at x1
    cases x1
  have f3 := setCells_other w.heap.size lb hne2 [.int .i64 0, .int .i64 0] 0 w1
  have f4 := setCells_other w.heap.size ab hne [.int .i64 0, .int .i64 0] 0 w1
  have HR : Hid (PEx w (.returned (.tuple #[.slice (some ⟨lb, 0, none⟩) 1 lc, .int .i64 0, .agg #[.int .i64 0, .int .i64 0]])) (w1.setCells w.heap.size 0 [.int .i64 0, .int .i64 0])) := Lib.hid
    ⟨f2, lb, lc, ab, ac, rfl, (World.cell?_of_block f3 (a := ⟨lb, 1, none⟩)).trans x1, (World.cell?_of_block f4 (a := ⟨ab, 16, none⟩)).trans x2, (World.cell?_of_block f4 (a := ⟨ab, 18, none⟩)).trans x3⟩
  clear f2 f3 f4 hb1 hbw x1 x2 x3 h0 hne hne2 HL H0
  go_wp2_with fail
  refine bodyPost_ret (w := w1.setCells w.heap.size 0 [.int .i64 0, .int .i64 0]) (v := .tuple #[.slice (some ⟨lb, 0, none⟩) 1 lc, .int .i64 0, .agg #[.int .i64 0, .int .i64 0]]) ?_ rfl HR.out
  clear HR
  generalize World.setCells _ _ _ _ = W9 at f1 ⊢
  obtain ⟨t0, t1, t2, -, -⟩ := two_facts f1
  simp [results, Tryz.results15, go_sem, t1, t2]

set_option maxRecDepth 100000 in
set_option maxHeartbeats 4000000 in
/-- The example holds. -/
theorem fixed_ok : FixedOk := by
  intro w hw hwb
  have HL := Lib.hid (load_any w hw hwb)
  clear hw hwb
  unfold copyText at HL
  go_enter Tryz.func7, Tryz.ntmps7
  go_wp2_with fail
  refine HL.out.mono ?_
  rintro e w1 ⟨hb1, lb, lc, ab, ac, rfl, x1, x2, x3⟩
  have hba : Below w1.heap.size w1 (w1.alloc (.cells #[.int .i64 0, .int .i64 0] 25)) := (Below.refl _ _).alloc (Nat.le_refl _) _
  have y1 := (hba.cell (p := ⟨lb, 1, none⟩) (block_of_cell x1)).trans x1
  have y2 := (hba.cell (p := ⟨ab, 16, none⟩) (block_of_cell x2)).trans x2
  have y3 := (hba.cell (p := ⟨ab, 18, none⟩) (block_of_cell x3)).trans x3
  have Hb := Lib.hid (hb1.trans (hba.mono hb1.size))
  have b1 := block_of_cell y1
  have b2 := block_of_cell y2
  clear hb1 hba x1 x2 x3 HL
  go_wp2_with fail
  go_ret
  exact ⟨rfl, Hb.out⟩
end Go.Proofs.YthknljeffpbbmaaGreatDoor
