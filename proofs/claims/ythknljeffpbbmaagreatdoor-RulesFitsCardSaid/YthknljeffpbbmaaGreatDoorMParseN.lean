/-
  How a method of the parser stands on its way; what it hands back.
  The walk of the parser's stmts: statements up to a sign.
  What the walks of the parser's other methods want: a box of one cell; depth; what hands on.
  A method of the parser that holds a row of its own, which it appends to.
  Walks of the parser: block call1 prim1 rule1. (Printed by parse_gen.py.)
  Walks of the parser: call. (Printed by parse_gen.py.)
  Walks of the parser: entry. (Printed by parse_gen.py.)
-/
import Derived.Test.YthknljeffpbbmaaGreatDoorParseF
import Derived.Test.YthknljeffpbbmaaGreatDoorMHeldSkip
namespace Go.Proofs.YthknljeffpbbmaaGreatDoor
open Go Go.RowKit

def zeroNode : Array Value := #[.int .i64 0, .string ⟨#[]⟩, .int .i64 0, .int .i64 0, .slice none 0 0]
/-- Blocks of the call's own, known whole. -/
def Locs (w : World) (ls : List (Nat × Array Value × TypeId)) : Prop := ∀ x ∈ ls, w.heap[x.1]? = some (.cells x.2.1 x.2.2 (0, 0))
/-- How a method of the parser stands on its way: what has become of the world since w, the parser's state, its own blocks, the rows of nodes that it holds (in none of these). -/
structure PI (w : World) (bp : Nat) (en : Int × Int) (ts : List Tok) (dp : Int) (ls : List (Nat × Array Value × TypeId)) (rows : List (Option Addr × List Nd)) (W : World) : Prop where
  grown : w.grownBy W (some bp)
  ps : PS W bp en ts dp
  locs : Locs W ls
  own : ∀ x ∈ ls, w.heap.size ≤ x.1
  bpl : bp < w.heap.size
  rows : ∀ r ∈ rows, RowAt (fun b => w.heap.size ≤ b ∧ ∀ x ∈ ls, b ≠ x.1) W r.1 (nodesD r.2)
  dist : (ls.map (·.1)).Nodup
section
variable {w W W' : World} {bp : Nat} {en : Int × Int} {ts ts' : List Tok} {dp dp' : Int} {ls : List (Nat × Array Value × TypeId)} {rows : List (Option Addr × List Nd)}
theorem PI.start (h : PS w bp en ts dp) : PI w bp en ts dp [] [] w := ⟨grownBy_refl _ _, h, (by intro x hx; cases hx), (by intro x hx; cases hx), h.lt, (by intro x hx; cases hx), .nil⟩
theorem Locs.lt (h : Locs W ls) {x : Nat × Array Value × TypeId} (hx : x ∈ ls) : x.1 < W.heap.size := (Array.getElem?_eq_some_iff.1 (h x hx)).1
theorem PI.below (h : PI w bp en ts dp ls rows W) (hb : Below W.heap.size W W') : PI w bp en ts dp ls rows W' :=
  ⟨grownBy_trans h.grown (grownBy_below hb), h.ps.grown hb, fun x hx => (hb.block _ (h.locs.lt hx)).trans (h.locs x hx), h.own, h.bpl, fun r hr => (h.rows r hr).below hb, h.dist⟩
theorem PI.alloc (h : PI w bp en ts dp ls rows W) (cs : Array Value) (T : TypeId) : PI w bp en ts dp ((W.heap.size, cs, T) :: ls) rows (W.alloc (.cells cs T)) := by
  obtain ⟨h1, h2, h3, h4, h5, h6, h8⟩ := h.below ((Below.refl _ W).alloc (Nat.le_refl _) (.cells cs T))
  refine ⟨h1, h2, fun x hx => ?_, fun x hx => ?_, h5, fun r hr => ?_, List.nodup_cons.2 ⟨fun hx => ?_, h8⟩⟩
  · rcases List.mem_cons.1 hx with rfl | hx
    · exact heap_alloc_new W _
    · exact h3 x hx
  · rcases List.mem_cons.1 hx with rfl | hx
    · exact h.grown.size
    · exact h4 x hx
  · have h7 := (h.rows r hr).here
    refine (h7.below ((Below.refl _ W).alloc (Nat.le_refl _) (.cells cs T))).wider (fun b hb _ => ⟨hb.1.1, fun x hx => ?_⟩)
    rcases List.mem_cons.1 hx with rfl | hx
    · exact Nat.ne_of_lt hb.2
    · exact hb.1.2 x hx
  · obtain ⟨x, hx, e⟩ := List.mem_map.1 hx
    have h9 := h.locs.lt hx
    have h10 : x.1 = W.heap.size := e
    omega
theorem PI.call (h : PI w bp en ts dp ls rows W) (hg : W.grownBy W' (some bp)) (hp : PS W' bp en ts' dp') : PI w bp en ts' dp' ls rows W' :=
  ⟨grownBy_trans h.grown hg, hp, fun x hx => (hg.block _ (h.locs.lt hx) (fun e => by cases e; have := h.own x hx; have := h.bpl; omega)).trans (h.locs x hx), h.own, h.bpl,
    fun r hr => (h.rows r hr).mono fun b hb hl => ⟨hb, Nat.lt_of_lt_of_le hl hg.size, hg.block b hl (fun e => by cases e; have := h.bpl; omega)⟩, h.dist⟩
/-- A row more, that was made since. -/
theorem PI.row {B : Nat} {a : Option Addr} {l : List Nd} (h : PI w bp en ts dp ls rows W) (hrow : RowAt (fun b => B ≤ b) W a (nodesD l)) (hw : w.heap.size ≤ B) (hB : ∀ x ∈ ls, x.1 < B) : PI w bp en ts dp ls ((a, l) :: rows) W :=
  ⟨h.grown, h.ps, h.locs, h.own, h.bpl, fun r hr => by
    rcases List.mem_cons.1 hr with rfl | hr
    · exact hrow.wider (fun b hb _ => ⟨by omega, fun x hx e => by have := hB x hx; omega⟩)
    · exact h.rows r hr, h.dist⟩
theorem PI.at (h : PI w bp en ts dp ls rows W) {b : Nat} {cs : Array Value} {T : TypeId} (hx : (b, cs, T) ∈ ls) : W.heap[b]? = some (.cells cs T (0, 0)) := h.locs _ hx
theorem PI.lt (h : PI w bp en ts dp ls rows W) : ∀ x ∈ ls, x.1 < W.heap.size := fun _ hx => h.locs.lt hx
theorem PI.drew (h : PI w bp en ts dp ls rows W) : PI w bp en ts dp ls rows W.drew := h.below ((Below.refl _ W).drew)
/-- A block of its own is written. -/
theorem PI.set (h : PI w bp en ts dp ls rows W) (j : Nat) {b : Nat} {cs : Array Value} {T : TypeId} (hj : ls[j]? = some (b, cs, T)) (i : Nat) (v : Value) : PI w bp en ts dp (ls.set j (b, cs.setIfInBounds i v, T)) rows (W.setCell ⟨b, i, none⟩ v) := by
  have hm : (b, cs, T) ∈ ls := List.mem_of_getElem? hj
  have hb : w.heap.size ≤ b := h.own _ hm
  have hbp := h.bpl
  have hX : ∀ k, k ≠ b → (W.setCell ⟨b, i, none⟩ v).heap[k]? = W.heap[k]? := fun k hk => set_other hk i v
  have hmem : ∀ x ∈ ls.set j (b, cs.setIfInBounds i v, T), x = (b, cs.setIfInBounds i v, T) ∨ (x ∈ ls ∧ x.1 ≠ b) := fun x hx => by
    obtain ⟨k, hk⟩ := List.mem_iff_getElem?.1 hx
    rw [List.getElem?_set] at hk
    split at hk
    · split at hk
      · exact .inl (Option.some.inj hk).symm
      · cases hk
    · rename_i hne
      refine .inr ⟨List.mem_of_getElem? hk, fun e => hne ?_⟩
      have hjl := (List.getElem?_eq_some_iff.1 hj).1
      have hkl := (List.getElem?_eq_some_iff.1 hk).1
      refine (List.getElem_inj (h₀ := by simpa using hjl) (h₁ := by simpa using hkl) h.dist).1 ?_
      have h1 := (List.getElem?_eq_some_iff.1 hj).2
      have h2 := (List.getElem?_eq_some_iff.1 hk).2
      simp only [List.getElem_map, h1, h2, e]
  have hmap : (ls.set j (b, cs.setIfInBounds i v, T)).map (·.1) = ls.map (·.1) := by
    rw [List.map_set]
    refine List.ext_getElem? fun k => ?_
    rw [List.getElem?_set]
    split
    · rename_i e
      subst e
      rw [List.getElem?_map, hj]
      simp [(List.getElem?_eq_some_iff.1 hj).1]
    · rfl
  refine ⟨grownBy_new h.grown hb i v, h.ps.kept (hX _ (by omega)) (fun k hk _ => hX k (by omega)) (by simp), fun x hx => ?_, fun x hx => ?_, hbp, fun r hr => ?_, by rw [hmap]; exact h.dist⟩
  · rcases hmem x hx with rfl | ⟨hx, hne⟩
    · exact set_same (h.locs _ hm) i v
    · rw [hX _ hne]; exact h.locs x hx
  · rcases hmem x hx with rfl | ⟨hx, hne⟩
    · exact hb
    · exact h.own x hx
  · refine (h.rows r hr).mono fun k hk hl => ⟨⟨hk.1, fun x hx => ?_⟩, by simpa using hl, hX k (hk.2 _ hm)⟩
    rcases hmem x hx with rfl | ⟨hx, hne⟩
    · exact hk.2 (b, cs, T) hm
    · exact hk.2 x hx
/-- A struct of five cells is written. -/
theorem PI.put5 (h : PI w bp en ts dp ls rows W) (j : Nat) {b : Nat} {x0 x1 x2 x3 x4 : Value} {T : TypeId} (hj : ls[j]? = some (b, #[x0, x1, x2, x3, x4], T)) (v0 v1 v2 v3 v4 : Value) :
    PI w bp en ts dp (ls.set j (b, #[v0, v1, v2, v3, v4], T)) rows (((((W.setCell ⟨b, 0, none⟩ v0).setCell ⟨b, 1, none⟩ v1).setCell ⟨b, 2, none⟩ v2).setCell ⟨b, 3, none⟩ v3).setCell ⟨b, 4, none⟩ v4) := by
  have hjl := (List.getElem?_eq_some_iff.1 hj).1
  have h1 := h.set j hj 0 v0
  have h2 := h1.set j (b := b) (cs := #[v0, x1, x2, x3, x4]) (T := T) (by rw [List.getElem?_set_self hjl]; rfl) 1 v1
  rw [List.set_set] at h2
  have h3 := h2.set j (b := b) (cs := #[v0, v1, x2, x3, x4]) (T := T) (by rw [List.getElem?_set_self hjl]; rfl) 2 v2
  rw [List.set_set] at h3
  have h4 := h3.set j (b := b) (cs := #[v0, v1, v2, x3, x4]) (T := T) (by rw [List.getElem?_set_self hjl]; rfl) 3 v3
  rw [List.set_set] at h4
  have h5 := h4.set j (b := b) (cs := #[v0, v1, v2, v3, x4]) (T := T) (by rw [List.getElem?_set_self hjl]; rfl) 4 v4
  rw [List.set_set] at h5
  exact h5
/-- What isn't needed any more is let go. -/
theorem PI.less {l2 : List (Nat × Array Value × TypeId)} {r2 : List (Option Addr × List Nd)} (h : PI w bp en ts dp ls rows W) (h1 : l2.Sublist ls) (h2 : ∀ r ∈ r2, r ∈ rows) : PI w bp en ts dp l2 r2 W :=
  ⟨h.grown, h.ps, fun x hx => h.locs x (h1.subset hx), fun x hx => h.own x (h1.subset hx), h.bpl, fun r hr => (h.rows r (h2 r hr)).wider (fun _ hb _ => ⟨hb.1, fun x hx => hb.2 x (h1.subset hx)⟩), (h1.map _).nodup h.dist⟩
/-- What becomes of a row of its own when it is handed back. -/
theorem PI.hand (h : PI w bp en ts dp ls rows W) {a : Option Addr} {l : List Nd} (hr : (a, l) ∈ rows) : RowAt (fun b => w.heap.size ≤ b) W a (nodesD l) := (h.rows (a, l) hr).wider (fun _ hb _ => hb.1)
end

theorem nodeAgg {F : Nat → Prop} {w : World} (k : Int) (t : ByteArray) (l c : Int) {kids : List Nd} {a : Option Addr} (cap : Nat) (h : RowAt F w a (nodesD kids)) (hk : k = 6 → kids.length ≤ cap := by first | exact trivial | (refine Hid.out ?_; assumption) | assumption | (intro _; exact Nat.zero_le _) | (intro h6; exact absurd h6 (by decide))) :
    AggAt F w (nodeD (.mk k t l c kids)) [.int .i64 k, .string t, .int .i64 l, .int .i64 c, .slice a kids.length cap] := by
  rw [nodeD]
  exact .cons (.one _) (.cons (.one _) (.cons (.one _) (.cons (.one _) (.cons (by rw [← nodesD_len kids]; exact DatAt.rowb_mk cap (fun h6 => by rw [nodesD_len]; exact hk (by simpa using h6)) h) .nil))))
/-- A row that a literal lays. -/
theorem RowAt.lit {F : Nat → Prop} {w : World} {b size : Nat} {T : TypeId} {cs : Array Value} (css : List (List Value)) {l : List (List Dat)} (hb : w.heap[b]? = some (.cells cs T (0, 0))) (hcs : cs.toList = css.flatten) (hF : F b)
    (hsz : ∀ c ∈ css, c.length = size) (hlen : css.length = l.length) (hd : ∀ (j : Nat) ds c, l[j]? = some ds → css[j]? = some c → AggAt F w ds c) : RowAt F w (some ⟨b, 0, none⟩) l := by
  intro j ds hj
  have hjl := (List.getElem?_eq_some_iff.1 hj).1
  have hjc : css[j]? = some (css[j]'(by omega)) := List.getElem?_eq_getElem _
  have ha := hd j ds _ hj hjc
  refine ⟨b, 0, _, rfl, hF, (Array.getElem?_eq_some_iff.1 hb).1, ha, fun i u hu => ?_⟩
  have h9 := flatten_get hsz hjc hu
  rw [← hcs, Array.getElem?_toList] at h9
  unfold World.cell?
  rw [hb, Nat.zero_add, ← ha.1, hsz _ (List.mem_of_getElem? hjc)]
  exact h9
/-- The capacities of a literal row of nodes. -/
def CapOk : List (List Value) → List Nd → Prop
  | [_, _, _, _, .slice _ _ cap] :: css, .mk k _ _ _ kids :: l => (k = 6 → kids.length ≤ cap) ∧ CapOk css l
  | _, _ => True
theorem CapOk.get : ∀ {css : List (List Value)} {l : List Nd} {j : Nat} {k ln cl : Int} {t : ByteArray} {kids : List Nd} {c0 c1 c2 c3 : Value} {a : Option Addr} {n cap : Nat}, CapOk css l → l[j]? = some (.mk k t ln cl kids) → css[j]? = some [c0, c1, c2, c3, .slice a n cap] → (∀ (i : Nat) (c : List Value) (x : Nd), css[i]? = some c → l[i]? = some x → ∃ d0 d1 d2 d3 b m e, c = [d0, d1, d2, d3, Value.slice b m e]) → k = 6 → kids.length ≤ cap
  | [], _, _, _, _, _, _, _, _, _, _, _, _, _, _, _, _, hc, _ => by simp at hc
  | _ :: _, [], _, _, _, _, _, _, _, _, _, _, _, _, _, _, hl, _, _ => by simp at hl
  | c :: css, x :: l, j, _, _, _, _, _, _, _, _, _, _, _, _, h, hl, hc, hall => by
    obtain ⟨d0, d1, d2, d3, b, m, e, rfl⟩ := hall 0 c x rfl rfl
    obtain ⟨xk, xt, xl, xc, xs⟩ := x
    rw [CapOk] at h
    cases j with
    | zero =>
      simp at hl hc
      obtain ⟨rfl, rfl, rfl, rfl, rfl⟩ := hl
      obtain ⟨-, -, -, -, -, -, rfl⟩ := hc
      exact h.1
    | succ j => exact CapOk.get h.2 (by simpa using hl) (by simpa using hc) (fun i c x h1 h2 => hall (i + 1) c x (by simpa using h1) (by simpa using h2))
/-- A literal row of nodes: what holds of the parts holds of it. -/
theorem PI.lit {w W : World} {bp : Nat} {en : Int × Int} {ts : List Tok} {dp : Int} {ls : List (Nat × Array Value × TypeId)} {rows : List (Option Addr × List Nd)} (h : PI w bp en ts dp ls rows W) (T : TypeId) {cs : Array Value} (css : List (List Value)) (l : List Nd) (hcs : cs.toList = css.flatten)
    (hsz : ∀ c ∈ css, c.length = 5) (hlen : css.length = l.length)
    (hd : ∀ (j : Nat) n c, l[j]? = some n → css[j]? = some c → ∃ k t ln cl kids a cap, n = .mk k t ln cl kids ∧ c = [.int .i64 k, .string t, .int .i64 ln, .int .i64 cl, .slice a kids.length cap] ∧ ((a, kids) ∈ rows ∨ kids = [])) (hcp : CapOk css l := by (repeat' (first | exact trivial | refine And.intro ?_ ?_)) <;> first | (refine Hid.out ?_; assumption) | assumption | (intro _; exact Nat.zero_le _) | (intro h6; exact absurd h6 (by decide))) :
    PI w bp en ts dp ls ((some ⟨W.heap.size, 0, none⟩, l) :: rows) (W.alloc (.cells cs T)) := by
  have hb := h.below ((Below.refl _ W).alloc (Nat.le_refl _) (.cells cs T))
  refine ⟨hb.grown, hb.ps, hb.locs, hb.own, hb.bpl, fun r hr => ?_, hb.dist⟩
  rcases List.mem_cons.1 hr with rfl | hr
  · refine RowAt.lit (size := 5) css (heap_alloc_new W _) hcs ⟨h.grown.size, fun x hx => Nat.ne_of_gt (h.locs.lt hx)⟩ hsz (by rw [nodesD_len]; exact hlen) (fun j ds c hj hc => ?_)
    simp only [nodesD_map, List.getElem?_map, Option.map_eq_some_iff] at hj
    obtain ⟨n, hn, rfl⟩ := hj
    have hcap := fun k t ln cl kids c0 c1 c2 c3 a n' cap (h1 : n = .mk k t ln cl kids) (h2 : c = [c0, c1, c2, c3, .slice a n' cap]) => CapOk.get hcp (hn.trans (congrArg some h1)) (hc.trans (congrArg some h2)) (fun i c' x' h3 h4 => by obtain ⟨k, t, ln, cl, kids, a, cap, -, rfl, -⟩ := hd i x' c' h4 h3; exact ⟨_, _, _, _, _, _, _, rfl⟩)
    obtain ⟨k, t, ln, cl, kids, a, cap, rfl, rfl, hr | rfl⟩ := hd j n c hn hc
    · exact nodeAgg _ _ _ _ cap (hb.rows _ hr) (hcap _ _ _ _ _ _ _ _ _ _ _ _ rfl rfl)
    · exact nodeAgg _ _ _ _ cap (RowAt.nil _)
  · exact hb.rows r hr
end Go.Proofs.YthknljeffpbbmaaGreatDoor
namespace Go.Proofs.YthknljeffpbbmaaGreatDoor
open Go Go.RowKit

set_option maxRecDepth 100000 in
set_option maxHeartbeats 4000000 in
theorem stmts_any (bp : Nat) (tt : ByteArray) (en : Int × Int) (L : Lvl) (hL : LInc L) (hx : Does 129 bp en VNode L.stmt) (w : World) (ts : List Tok) (dp : Int) (hp : PS w bp en ts dp) (hd0 : 0 ≤ dp) (hd1 : dp ≤ 1000)
    (hr : pStmts en L tt.data.toList ts dp ≠ .out) :
    Calls Tryz.prog 104 #[ptr bp, .string tt] w (PP bp en (VRow w.heap.size) (pStmts en L tt.data.toList ts dp) w) := by
  obtain ⟨i0, hi, hz0, hz1, hz2⟩ := info_parts infoNode
  have hfew := hp.few
  have hbpl := hp.lt
  have Hp := Lib.hid hp
  have Hx := Lib.hid hx
  have Hr := Lib.hid hr
  clear hp hx hr
  unfold ptr
  go_enter Tryz.func104, Tryz.ntmps104
  go_wp2_with fail
  go_loopg [5] (ts.length + 1) (fun g v wr => ∃ (acc : List Nd) (ts1 : List Tok) (v' : Value), v = v' ∧ g ≤ ts.length + 1 ∧ acc.length + g ≤ ts.length + 1 ∧ Hid (pStmts en L tt.data.toList ts dp = pStmtsGo en L tt.data.toList g acc ts1 dp) ∧ Hid (w.grownBy wr (some bp) ∧ PS wr bp en ts1 dp) ∧ Hid (OwnD (fun b => w.heap.size ≤ b) wr w.heap.size 83 5 v' (nodesD acc)))
  case atStart => exact ⟨[], ts, _, rfl, Nat.le_refl _, by simp, Lib.hid rfl, Lib.hid ⟨grownBy_refl _ _, Hp.out⟩, Lib.hid (OwnD.nil _ _ _ _ _)⟩
  case round =>
    obtain ⟨acc, ts1, v, hv, hg1, hal, hspec, hst, hown⟩ := hrel
    have hv := hv.symm
    subst hv
    cases gk with
    | zero => exact absurd hspec.out Hr.out
    | succ g =>
      obtain ⟨ab, capb, hb1, hb2, hb3, hb4⟩ := hst.out.2
      obtain ⟨q0, q1, q2, q3, q4⟩ := four_facts hb1
      clear hb1 hb2 hb3 hb4
      cases ts1 with
      | nil =>
        have Hsp : Hid (pStmts en L tt.data.toList ts dp = .ok acc [] dp) := Lib.hid (by rw [hspec.out]; rfl)
        clear hspec
        go_wp2_with fail
        go_ret
        rw [Hsp.out]
        obtain ⟨a, cap, hva, hrow⟩ := hown.out.rowAt (fun g hg => (hown.out.block_lt hg).1)
        rw [nodesD_len] at hva
        exact ⟨hst.out.1, hst.out.2, _, rfl, a, cap, hva, hrow⟩
      | cons t0 r0 =>
        have Htl := Lib.hid (Lib.toList_data tt)
        cases htt : tt.toList.isEmpty
        · have htd : tt.data.toList.isEmpty = false := by rw [← Htl.out]; exact htt
          cases hb : isSign en (t0 :: r0) 0 tt.data.toList
          · have Hsp : Hid (pStmts en L tt.data.toList ts dp = PM.bind L.stmt (fun x => pStmtsGo en L tt.data.toList g (acc ++ [x])) (t0 :: r0) dp) := Lib.hid (by rw [hspec.out, pStmtsGo, pLook]; simp only [hb, htd]; rfl)
            clear hspec
            have Hs := Lib.hid (sign_any bp 0 tt en (t0 :: r0) dp wr (by omega) hst.out.2)
            unfold ptr at Hs
            rw [hb] at Hs
            clear hb
            go_wp2_with fail
            refine Hs.out.mono ?_
            rintro e w1 ⟨rfl, hb1⟩
            have Hst : Hid (w.grownBy w1 (some bp) ∧ PS w1 bp en (t0 :: r0) dp) := Lib.hid ⟨grownBy_trans hst.out.1 (grownBy_below hb1), hst.out.2.grown hb1⟩
            have Hown := Lib.hid (hown.out.below hb1)
            clear hb1 Hs hst hown q0 q1 q2 q3 q4
            have hne : L.stmt (t0 :: r0) dp ≠ .out := fun h => Hr.out (by rw [Hsp.out, bind_out h])
            have Ho := Lib.hid (Hx.out _ _ _ Hst.out.2 hd0 hd1 hne)
            unfold ptr at Ho
            have hws : w.heap.size ≤ w1.heap.size := Hst.out.1.size
            clear hne
            go_wp2_with fail
            refine Ho.out.mono ?_
            rintro e w3 ⟨hg3, hq⟩
            have Hg3 := Lib.hid (And.intro (grownBy_trans Hst.out.1 hg3) hg3)
            clear hg3 Ho
            cases hm : L.stmt (t0 :: r0) dp with
            | out => exact absurd (by rw [Hsp.out, bind_out hm]) Hr.out
            | err x l c =>
              rw [hm] at hq
              obtain rfl := hq
              have Hf : Hid (pStmts en L tt.data.toList ts dp = .err x l c) := Lib.hid (by rw [Hsp.out, bind_err hm])
              clear hm
              refine ⟨rfl, ?_⟩
              rw [Hf.out]
              exact ⟨Hg3.out.1, rfl⟩
            | ok x ts3 d3 =>
              have hd3 : d3 = dp := by have := hL.stmt _ _ _ _ _ hm; omega
              subst hd3
              rw [hm] at hq
              have Hsp4 : Hid (pStmts en L tt.data.toList ts d3 = pStmtsGo en L tt.data.toList g (acc ++ [x]) ts3 d3) := Lib.hid (by rw [Hsp.out, bind_ok hm])
              obtain ⟨xk, xt, xl, xc, xs⟩ := x
              obtain ⟨hps3, v1, rfl, hv1⟩ := hq
              obtain ⟨a1, cap1, rfl, hrow⟩ := NodeV.open hv1
              have Hccap1 := Lib.hid (NodeV.cap hv1)
              obtain ⟨a, cap, hva, -⟩ := Hown.out.rowAt (fun g hg => (Hown.out.block_lt hg).1)
              rw [nodesD_len] at hva
              subst hva
              have Hown3 : Hid (OwnD (fun b => w.heap.size ≤ b) w3 w.heap.size 83 5 (.slice a acc.length cap) (nodesD acc)) := Lib.hid (Hown.out.keep (fun b hb hF => Hg3.out.2.block b hb (by
                intro e; cases e
                rcases hF with hF | hF
                · omega
                · have := (Hown.out.block_lt hF).1; omega)) Hg3.out.2.size)
              have h5 := heap_alloc_new w3 (.cells #[.int .i64 xk, .string xt, .int .i64 xl, .int .i64 xc, .slice a1 xs.length cap1] 83)
              have hb5 : Below w3.heap.size w3 (w3.alloc (.cells #[.int .i64 xk, .string xt, .int .i64 xl, .int .i64 xc, .slice a1 xs.length cap1] 83)) := (Below.refl _ w3).alloc (Nat.le_refl _) _
              have Hrow3 : Hid (RowAt (fun b => w.heap.size ≤ b ∧ (Value.slice a acc.length cap).ownBlock ≠ some b) (w3.alloc (.cells #[.int .i64 xk, .string xt, .int .i64 xl, .int .i64 xc, .slice a1 xs.length cap1] 83)) (some ⟨w3.heap.size, 0, none⟩) (nodesD [.mk xk xt xl xc xs])) := Lib.hid (by
                refine RowAt.lit (size := 5) [[.int .i64 xk, .string xt, .int .i64 xl, .int .i64 xc, .slice a1 xs.length cap1]] h5 rfl ⟨Hg3.out.1.size, fun e => by have := (Hown3.out.block_lt e).2; omega⟩ (by simp) (by simp [nodesD]) (fun j ds c hj hc => ?_)
                have hjl := (List.getElem?_eq_some_iff.1 hc).1
                simp only [List.length_cons, List.length_nil] at hjl
                obtain rfl : j = 0 := by omega
                simp [nodesD] at hj hc
                subst hj hc
                exact nodeAgg _ _ _ _ cap1 ((hrow.below hb5).wider (fun b hb _ => ⟨by omega, fun e => by have := (Hown.out.block_lt e).2; omega⟩)))
              have Hown5 := Lib.hid (Hown3.out.below ((Below.refl _ w3).alloc (Nat.le_refl _) (.cells #[.int .i64 xk, .string xt, .int .i64 xl, .int .i64 xc, .slice a1 xs.length cap1] 83)))
              have Hps3 := Lib.hid (And.intro (grownBy_trans Hg3.out.1 (grownBy_below hb5)) (hps3.grown hb5))
              clear hm hrow hps3 hv1 h5 hb5 Hown3
              go_wp2_with (at_builtin; refine wpList_append_row rfl _ _ 23 rfl w.heap.size 83 i0 _ 5 64 Tryz.underlying23 hi hz0 hz1 hz2 rfl (by decide) (.slice a acc.length cap) (fun b => w.heap.size ≤ b) (nodesD acc) rfl Hown5.out w3.heap.size 0 1 (nodesD [.mk xk xt xl xc xs]) ?_ Hrow3.out (nodesD_all nodeD_len _) (nodesD_all nodeD_plain _) ?_ ?_ ?_ ?_)
              · rw [nodesD_len]; rfl
              · rw [nodesD_len, nodesD_len]; unfold maxLen; simp only [List.length_cons, List.length_nil] at hal ⊢; omega
              · rw [nodesD_len, nodesD_len]; simp only [List.length_cons, List.length_nil] at hal ⊢; omega
              · exact Hps3.out.1.size
              intro v4 w4 hown4 hgrow4 _
              have Hst4 : Hid (w.grownBy w4 (some bp) ∧ PS w4 bp en ts3 d3) := Lib.hid ⟨grownBy_own Hps3.out.1 hgrow4 (fun g hg => (Hown5.out.block_lt hg).1), Hps3.out.2.own hgrow4 (fun g hg => by have := (Hown5.out.block_lt hg).1; omega)⟩
              have Hown4 : Hid (OwnD (fun b => w.heap.size ≤ b) w4 w.heap.size 83 5 v4 (nodesD (acc ++ [.mk xk xt xl xc xs]))) := Lib.hid (by rw [nodesD_append]; exact hown4)
              clear hown4 hgrow4 Hown5 Hrow3 Hps3 Hg3
              go_wp2_with fail
              go_roundg g
              case measure => omega
              case rel => exact ⟨acc ++ [.mk xk xt xl xc xs], ts3, _, rfl, by omega, by simp only [List.length_append, List.length_cons, List.length_nil] at hal ⊢; omega, Hsp4, Hst4, Hown4⟩
          · have Hsp : Hid (pStmts en L tt.data.toList ts dp = .ok acc (t0 :: r0) dp) := Lib.hid (by rw [hspec.out, pStmtsGo, pLook]; simp only [hb, htd]; rfl)
            clear hspec
            have Hs := Lib.hid (sign_any bp 0 tt en (t0 :: r0) dp wr (by omega) hst.out.2)
            unfold ptr at Hs
            rw [hb] at Hs
            clear hb
            go_wp2_with fail
            refine Hs.out.mono ?_
            rintro e w1 ⟨rfl, hb1⟩
            have Hst : Hid (w.grownBy w1 (some bp) ∧ PS w1 bp en (t0 :: r0) dp) := Lib.hid ⟨grownBy_trans hst.out.1 (grownBy_below hb1), hst.out.2.grown hb1⟩
            have Hown := Lib.hid (hown.out.below hb1)
            clear hb1 Hs hst hown q0 q1 q2 q3 q4
            go_wp2_with fail
            go_ret
            rw [Hsp.out]
            obtain ⟨a, cap, hva, hrow⟩ := Hown.out.rowAt (fun g hg => (Hown.out.block_lt hg).1)
            rw [nodesD_len] at hva
            exact ⟨Hst.out.1, Hst.out.2, _, rfl, a, cap, hva, hrow⟩
        · have htd : tt.data.toList.isEmpty = true := by rw [← Htl.out]; exact htt
          have Hsp : Hid (pStmts en L tt.data.toList ts dp = PM.bind L.stmt (fun x => pStmtsGo en L tt.data.toList g (acc ++ [x])) (t0 :: r0) dp) := Lib.hid (by rw [hspec.out, pStmtsGo, pLook]; simp only [htd, Bool.true_or]; rfl)
          clear hspec
          have Hst := hst
          have Hown := hown
          clear hst hown
          have hne : L.stmt (t0 :: r0) dp ≠ .out := fun h => Hr.out (by rw [Hsp.out, bind_out h])
          have Ho := Lib.hid (Hx.out _ _ _ Hst.out.2 hd0 hd1 hne)
          unfold ptr at Ho
          have hws : w.heap.size ≤ wr.heap.size := Hst.out.1.size
          clear hne
          go_wp2_with fail
          refine Ho.out.mono ?_
          rintro e w3 ⟨hg3, hq⟩
          have Hg3 := Lib.hid (And.intro (grownBy_trans Hst.out.1 hg3) hg3)
          clear hg3 Ho
          cases hm : L.stmt (t0 :: r0) dp with
          | out => exact absurd (by rw [Hsp.out, bind_out hm]) Hr.out
          | err x l c =>
            rw [hm] at hq
            obtain rfl := hq
            have Hf : Hid (pStmts en L tt.data.toList ts dp = .err x l c) := Lib.hid (by rw [Hsp.out, bind_err hm])
            clear hm
            refine ⟨rfl, ?_⟩
            rw [Hf.out]
            exact ⟨Hg3.out.1, rfl⟩
          | ok x ts3 d3 =>
            have hd3 : d3 = dp := by have := hL.stmt _ _ _ _ _ hm; omega
            subst hd3
            rw [hm] at hq
            have Hsp4 : Hid (pStmts en L tt.data.toList ts d3 = pStmtsGo en L tt.data.toList g (acc ++ [x]) ts3 d3) := Lib.hid (by rw [Hsp.out, bind_ok hm])
            obtain ⟨xk, xt, xl, xc, xs⟩ := x
            obtain ⟨hps3, v1, rfl, hv1⟩ := hq
            obtain ⟨a1, cap1, rfl, hrow⟩ := NodeV.open hv1
            have Hccap1 := Lib.hid (NodeV.cap hv1)
            obtain ⟨a, cap, hva, -⟩ := Hown.out.rowAt (fun g hg => (Hown.out.block_lt hg).1)
            rw [nodesD_len] at hva
            subst hva
            have Hown3 : Hid (OwnD (fun b => w.heap.size ≤ b) w3 w.heap.size 83 5 (.slice a acc.length cap) (nodesD acc)) := Lib.hid (Hown.out.keep (fun b hb hF => Hg3.out.2.block b hb (by
              intro e; cases e
              rcases hF with hF | hF
              · omega
              · have := (Hown.out.block_lt hF).1; omega)) Hg3.out.2.size)
            have h5 := heap_alloc_new w3 (.cells #[.int .i64 xk, .string xt, .int .i64 xl, .int .i64 xc, .slice a1 xs.length cap1] 83)
            have hb5 : Below w3.heap.size w3 (w3.alloc (.cells #[.int .i64 xk, .string xt, .int .i64 xl, .int .i64 xc, .slice a1 xs.length cap1] 83)) := (Below.refl _ w3).alloc (Nat.le_refl _) _
            have Hrow3 : Hid (RowAt (fun b => w.heap.size ≤ b ∧ (Value.slice a acc.length cap).ownBlock ≠ some b) (w3.alloc (.cells #[.int .i64 xk, .string xt, .int .i64 xl, .int .i64 xc, .slice a1 xs.length cap1] 83)) (some ⟨w3.heap.size, 0, none⟩) (nodesD [.mk xk xt xl xc xs])) := Lib.hid (by
              refine RowAt.lit (size := 5) [[.int .i64 xk, .string xt, .int .i64 xl, .int .i64 xc, .slice a1 xs.length cap1]] h5 rfl ⟨Hg3.out.1.size, fun e => by have := (Hown3.out.block_lt e).2; omega⟩ (by simp) (by simp [nodesD]) (fun j ds c hj hc => ?_)
              have hjl := (List.getElem?_eq_some_iff.1 hc).1
              simp only [List.length_cons, List.length_nil] at hjl
              obtain rfl : j = 0 := by omega
              simp [nodesD] at hj hc
              subst hj hc
              exact nodeAgg _ _ _ _ cap1 ((hrow.below hb5).wider (fun b hb _ => ⟨by omega, fun e => by have := (Hown.out.block_lt e).2; omega⟩)))
            have Hown5 := Lib.hid (Hown3.out.below ((Below.refl _ w3).alloc (Nat.le_refl _) (.cells #[.int .i64 xk, .string xt, .int .i64 xl, .int .i64 xc, .slice a1 xs.length cap1] 83)))
            have Hps3 := Lib.hid (And.intro (grownBy_trans Hg3.out.1 (grownBy_below hb5)) (hps3.grown hb5))
            clear hm hrow hps3 hv1 h5 hb5 Hown3
            go_wp2_with (at_builtin; refine wpList_append_row rfl _ _ 23 rfl w.heap.size 83 i0 _ 5 64 Tryz.underlying23 hi hz0 hz1 hz2 rfl (by decide) (.slice a acc.length cap) (fun b => w.heap.size ≤ b) (nodesD acc) rfl Hown5.out w3.heap.size 0 1 (nodesD [.mk xk xt xl xc xs]) ?_ Hrow3.out (nodesD_all nodeD_len _) (nodesD_all nodeD_plain _) ?_ ?_ ?_ ?_)
            · rw [nodesD_len]; rfl
            · rw [nodesD_len, nodesD_len]; unfold maxLen; simp only [List.length_cons, List.length_nil] at hal ⊢; omega
            · rw [nodesD_len, nodesD_len]; simp only [List.length_cons, List.length_nil] at hal ⊢; omega
            · exact Hps3.out.1.size
            intro v4 w4 hown4 hgrow4 _
            have Hst4 : Hid (w.grownBy w4 (some bp) ∧ PS w4 bp en ts3 d3) := Lib.hid ⟨grownBy_own Hps3.out.1 hgrow4 (fun g hg => (Hown5.out.block_lt hg).1), Hps3.out.2.own hgrow4 (fun g hg => by have := (Hown5.out.block_lt hg).1; omega)⟩
            have Hown4 : Hid (OwnD (fun b => w.heap.size ≤ b) w4 w.heap.size 83 5 v4 (nodesD (acc ++ [.mk xk xt xl xc xs]))) := Lib.hid (by rw [nodesD_append]; exact hown4)
            clear hown4 hgrow4 Hown5 Hrow3 Hps3 Hg3
            go_wp2_with fail
            go_roundg g
            case measure => omega
            case rel => exact ⟨acc ++ [.mk xk xt xl xc xs], ts3, _, rfl, by omega, by simp only [List.length_append, List.length_cons, List.length_nil] at hal ⊢; omega, Hsp4, Hst4, Hown4⟩
end Go.Proofs.YthknljeffpbbmaaGreatDoor
namespace Go.Proofs.YthknljeffpbbmaaGreatDoor
open Go Go.RowKit

theorem bind_pure {α : Type} (m : PM α) (ts : List Tok) (d : Int) : m ts d = PM.bind m (fun x => PM.pure x) ts d := by
  unfold PM.bind
  cases m ts d <;> rfl
theorem open_lt {en : Int × Int} {is : Bool} {ts ts' : List Tok} {d d' : Int} {x : Tok} (h : pOpen en is ts d = .ok x ts' d') : d < 60 := by
  unfold pOpen at h
  split at h
  · cases h
  · rename_i hn
    cases is with
    | false => cases h
    | true =>
      simp only [Bool.true_and, decide_eq_true_eq] at hn
      omega
def pOne (m : PM Nd) : PM (List Nd) := PM.bind m fun x => PM.pure [x]
theorem pure_one {m : PM Nd} : ∀ ts d l ts' d', PM.bind m (fun x => PM.pure [x]) ts d = .ok l ts' d' → l ≠ [] ∧ l.length ≤ 2 := by
  intro ts d l ts' d' h
  unfold PM.bind at h
  cases hm : m ts d with
  | ok x t1 d1 => rw [hm] at h; cases h; simp
  | err a b c => rw [hm] at h; cases h
  | out => rw [hm] at h; cases h
theorem entry_len {en : Int × Int} {L : Lvl} : ∀ ts d l ts' d', pEntry en L ts d = .ok l ts' d' → l ≠ [] ∧ l.length ≤ 2 := by
  intro ts d l ts' d' h
  unfold pEntry pLook at h
  simp only [PM.bind] at h
  split at h
  · split at h
    · split at h
      · cases h; simp
      · cases h
      · cases h
    · cases h
    · cases h
  · cases h
  · cases h
theorem Inc.one {m : PM Nd} (h : Inc 0 m) : Inc 0 (pOne m) := Inc.bind h (fun _ => Inc.pure _) rfl
section
variable {w W W' : World} {bp : Nat} {en : Int × Int} {ts : List Tok} {dp : Int} {ls : List (Nat × Array Value × TypeId)} {rows : List (Option Addr × List Nd)}
theorem PI.later (h : PI w bp en ts dp ls rows W) (hg : W.grownBy W' (some bp)) {b : Nat} {cs : Array Value} {T : TypeId} (hx : (b, cs, T) ∈ ls) : W'.heap[b]? = some (.cells cs T (0, 0)) :=
  (hg.block _ (h.lt _ hx) (fun e => by cases e; have := h.own _ hx; have := h.bpl; omega)).trans (h.at hx)
/-- The parser's depth is written. -/
theorem PI.down (h : PI w bp en ts dp ls rows W) : ∃ a cap, W.heap[bp]? = some (.cells #[.slice a ts.length cap, .int .i64 en.1, .int .i64 en.2, .int .i64 dp] 155 (0, 0)) ∧
    ∀ d, PI w bp en ts d ls rows (W.setCell ⟨bp, 3, none⟩ (.int .i64 d)) := by
  obtain ⟨a, cap, h1, h2, h3, h4⟩ := h.ps
  have hbp := h.bpl
  have hX : ∀ k, k ≠ bp → ∀ v, (W.setCell ⟨bp, 3, none⟩ v).heap[k]? = W.heap[k]? := fun k hk v => set_other hk 3 v
  refine ⟨a, cap, h1, fun d => ⟨grownBy_set h.grown 3 _, ⟨a, cap, set_same h1 3 _, h2, h3, h4.grown (grownBy_set (grownBy_refl _ _) 3 _)⟩, fun x hx => ?_, h.own, hbp, fun r hr => ?_, h.dist⟩⟩
  · rw [hX _ (by have := h.own x hx; omega)]; exact h.locs x hx
  · exact (h.rows r hr).mono fun k hk hl => ⟨hk, by simpa using hl, hX k (by have := hk.1; omega) _⟩
/-- A struct of four cells is written. -/
theorem PI.put4 (h : PI w bp en ts dp ls rows W) (j : Nat) {b : Nat} {x0 x1 x2 x3 : Value} {T : TypeId} (hj : ls[j]? = some (b, #[x0, x1, x2, x3], T)) (v0 v1 v2 v3 : Value) :
    PI w bp en ts dp (ls.set j (b, #[v0, v1, v2, v3], T)) rows ((((W.setCell ⟨b, 0, none⟩ v0).setCell ⟨b, 1, none⟩ v1).setCell ⟨b, 2, none⟩ v2).setCell ⟨b, 3, none⟩ v3) := by
  have hjl := (List.getElem?_eq_some_iff.1 hj).1
  have h1 := h.set j hj 0 v0
  have h2 := h1.set j (b := b) (cs := #[v0, x1, x2, x3]) (T := T) (by rw [List.getElem?_set_self hjl]; rfl) 1 v1
  rw [List.set_set] at h2
  have h3 := h2.set j (b := b) (cs := #[v0, v1, x2, x3]) (T := T) (by rw [List.getElem?_set_self hjl]; rfl) 2 v2
  rw [List.set_set] at h3
  have h4 := h3.set j (b := b) (cs := #[v0, v1, v2, x3]) (T := T) (by rw [List.getElem?_set_self hjl]; rfl) 3 v3
  rw [List.set_set] at h4
  exact h4
end
end Go.Proofs.YthknljeffpbbmaaGreatDoor
namespace Go.Proofs.YthknljeffpbbmaaGreatDoor
open Go Go.RowKit

theorem OwnD.widerB {F G : Nat → Prop} {w : World} {base base' : Nat} {e : TypeId} {size : Nat} {v : Value} {l : List (List Dat)} (h : OwnD F w base e size v l) (hF : ∀ b, F b → b < w.heap.size → G b) (hb : base' ≤ base) : OwnD G w base' e size v l := by
  obtain ⟨css, hlen, hsz, ⟨h1, h2⟩, hd⟩ := h
  refine ⟨css, hlen, hsz, ⟨h1, ?_⟩, fun j ds cs h5 h6 => (hd j ds cs h5 h6).wider fun b hb' hl => ⟨hF b hb'.1 hl, hb'.2⟩⟩
  rcases h2 with h2 | ⟨g, cap, cur, h3, h4, h5⟩
  · exact .inl h2
  · exact .inr ⟨g, cap, cur, h3, by omega, h5⟩

/-- Where what it holds may lie. -/
def PF (w : World) (ls : List (Nat × Array Value × TypeId)) : Nat → Prop := fun b => w.heap.size ≤ b ∧ ∀ x ∈ ls, b ≠ x.1
structure PO (w : World) (bp : Nat) (en : Int × Int) (ts : List Tok) (dp : Int) (ls : List (Nat × Array Value × TypeId)) (rows : List (Option Addr × List Nd)) (v : Value) (l : List Nd) (W : World) : Prop where
  pi : PI w bp en ts dp ls [] W
  od : OwnD (fun b => w.heap.size ≤ b ∧ ∀ x ∈ ls, b ≠ x.1) W w.heap.size 83 5 v (nodesD l)
  ob : ∀ g, v.ownBlock = some g → ∀ x ∈ ls, g ≠ x.1
  rd : ∀ r ∈ rows, RowAt (fun b => (w.heap.size ≤ b ∧ ∀ x ∈ ls, b ≠ x.1) ∧ v.ownBlock ≠ some b) W r.1 (nodesD r.2)
section
variable {w W W' : World} {bp : Nat} {en : Int × Int} {ts ts' : List Tok} {dp dp' : Int} {ls : List (Nat × Array Value × TypeId)} {rows : List (Option Addr × List Nd)} {v : Value} {l : List Nd}
theorem PO.grown (h : PO w bp en ts dp ls rows v l W) : w.grownBy W (some bp) := h.pi.grown
theorem PO.ps (h : PO w bp en ts dp ls rows v l W) : PS W bp en ts dp := h.pi.ps
theorem PO.at (h : PO w bp en ts dp ls rows v l W) {b : Nat} {cs : Array Value} {T : TypeId} (hx : (b, cs, T) ∈ ls) : W.heap[b]? = some (.cells cs T (0, 0)) := h.pi.at hx
theorem PO.later (h : PO w bp en ts dp ls rows v l W) (hg : W.grownBy W' (some bp)) {b : Nat} {cs : Array Value} {T : TypeId} (hx : (b, cs, T) ∈ ls) : W'.heap[b]? = some (.cells cs T (0, 0)) := h.pi.later hg hx
theorem PO.lt (h : PO w bp en ts dp ls rows v l W) : (∀ x ∈ ls, x.1 < W.heap.size) ∧ ∀ g, v.ownBlock = some g → g < W.heap.size := ⟨h.pi.lt, fun _ hg => (h.od.block_lt hg).2⟩
theorem PO.below (h : PO w bp en ts dp ls rows v l W) (hb : Below W.heap.size W W') : PO w bp en ts dp ls rows v l W' := ⟨h.pi.below hb, h.od.below hb, h.ob, fun r hr => (h.rd r hr).below hb⟩
theorem PO.drew (h : PO w bp en ts dp ls rows v l W) : PO w bp en ts dp ls rows v l W.drew := h.below ((Below.refl _ W).drew)
theorem PO.call (h : PO w bp en ts dp ls rows v l W) (hg : W.grownBy W' (some bp)) (hp : PS W' bp en ts' dp') : PO w bp en ts' dp' ls rows v l W' := by
  have hbp := h.pi.bpl
  refine ⟨h.pi.call hg hp, h.od.keep (fun b hl hF => hg.block b hl (fun e => ?_)) hg.size, h.ob, fun r hr => (h.rd r hr).mono fun b hb hl => ⟨hb, Nat.lt_of_lt_of_le hl hg.size, hg.block b hl (fun e => ?_)⟩⟩
  · cases e
    rcases hF with hF | hF
    · omega
    · have := (h.od.block_lt hF).1; omega
  · cases e; have := hb.1.1; omega
theorem PO.row {B : Nat} {a : Option Addr} {m : List Nd} (h : PO w bp en ts dp ls rows v l W) (hrow : RowAt (fun b => B ≤ b) W a (nodesD m)) (hw : w.heap.size ≤ B) (hB : (∀ x ∈ ls, x.1 < B) ∧ ∀ g, v.ownBlock = some g → g < B) : PO w bp en ts dp ls ((a, m) :: rows) v l W :=
  ⟨h.pi, h.od, h.ob, fun r hr => by
    rcases List.mem_cons.1 hr with rfl | hr
    · exact hrow.wider (fun b hb _ => ⟨⟨by omega, fun x hx e => by have := hB.1 x hx; omega⟩, fun e => by have := hB.2 b e; omega⟩)
    · exact h.rd r hr⟩
theorem PO.lit (h : PO w bp en ts dp ls rows v l W) (T : TypeId) {cs : Array Value} (css : List (List Value)) (m : List Nd) (hcs : cs.toList = css.flatten)
    (hsz : ∀ c ∈ css, c.length = 5) (hlen : css.length = m.length)
    (hd : ∀ (j : Nat) n c, m[j]? = some n → css[j]? = some c → ∃ k t ln cl kids a cap, n = .mk k t ln cl kids ∧ c = [.int .i64 k, .string t, .int .i64 ln, .int .i64 cl, .slice a kids.length cap] ∧ ((a, kids) ∈ rows ∨ kids = [])) (hcp : CapOk css m := by (repeat' (first | exact trivial | refine And.intro ?_ ?_)) <;> first | (refine Hid.out ?_; assumption) | assumption | (intro _; exact Nat.zero_le _) | (intro h6; exact absurd h6 (by decide))) :
    PO w bp en ts dp ls ((some ⟨W.heap.size, 0, none⟩, m) :: rows) v l (W.alloc (.cells cs T)) := by
  have hb := h.below ((Below.refl _ W).alloc (Nat.le_refl _) (.cells cs T))
  refine ⟨hb.pi, hb.od, hb.ob, fun r hr => ?_⟩
  rcases List.mem_cons.1 hr with rfl | hr
  · refine RowAt.lit (size := 5) css (heap_alloc_new W _) hcs ⟨⟨h.grown.size, fun x hx => Nat.ne_of_gt (h.pi.locs.lt hx)⟩, fun e => by have := (h.od.block_lt e).2; omega⟩ hsz (by rw [nodesD_len]; exact hlen) (fun j ds c hj hc => ?_)
    simp only [nodesD_map, List.getElem?_map, Option.map_eq_some_iff] at hj
    obtain ⟨n, hn, rfl⟩ := hj
    have hcap := fun k t ln cl kids c0 c1 c2 c3 a n' cap (h1 : n = .mk k t ln cl kids) (h2 : c = [c0, c1, c2, c3, .slice a n' cap]) => CapOk.get hcp (hn.trans (congrArg some h1)) (hc.trans (congrArg some h2)) (fun i c' x' h3 h4 => by obtain ⟨k, t, ln, cl, kids, a, cap, -, rfl, -⟩ := hd i x' c' h4 h3; exact ⟨_, _, _, _, _, _, _, rfl⟩)
    obtain ⟨k, t, ln, cl, kids, a, cap, rfl, rfl, hr | rfl⟩ := hd j n c hn hc
    · exact nodeAgg _ _ _ _ cap (hb.rd _ hr) (hcap _ _ _ _ _ _ _ _ _ _ _ _ rfl rfl)
    · exact nodeAgg _ _ _ _ cap (RowAt.nil _)
  · exact hb.rd r hr
/-- A literal row is a row of its own. -/
theorem PO.ofLit (h : PI w bp en ts dp ls rows W) {cs : Array Value} (css : List (List Value)) (m : List Nd) (hcs : cs.toList = css.flatten)
    (hsz : ∀ c ∈ css, c.length = 5) (hlen : css.length = m.length) (hcz : cs.size = m.length * 5) (hmx : m.length ≤ 1000)
    (hd : ∀ (j : Nat) n c, m[j]? = some n → css[j]? = some c → ∃ k t ln cl kids a cap, n = .mk k t ln cl kids ∧ c = [.int .i64 k, .string t, .int .i64 ln, .int .i64 cl, .slice a kids.length cap] ∧ ((a, kids) ∈ rows ∨ kids = [])) (hcp : CapOk css m := by (repeat' (first | exact trivial | refine And.intro ?_ ?_)) <;> first | (refine Hid.out ?_; assumption) | assumption | (intro _; exact Nat.zero_le _) | (intro h6; exact absurd h6 (by decide))) :
    PO w bp en ts dp ls [] (.slice (some ⟨W.heap.size, 0, none⟩) m.length m.length) m (W.alloc (.cells cs 83)) := by
  have hb := h.below ((Below.refl _ W).alloc (Nat.le_refl _) (.cells cs 83))
  have hl : css.flatten.length = m.length * 5 := by rw [← hcs, Array.length_toList, hcz]
  refine ⟨⟨hb.grown, hb.ps, hb.locs, hb.own, hb.bpl, (by intro r hr; cases hr), hb.dist⟩, ⟨css, by rw [nodesD_len]; exact hlen, hsz, ⟨by rw [nodesD_len]; exact hl, .inr ⟨W.heap.size, m.length, cs, by rw [nodesD_len], h.grown.size, heap_alloc_new W _, by rw [nodesD_len]; exact Nat.le_refl _, by unfold maxLen; omega, hcz, ?_⟩⟩, fun j ds c hj hc => ?_⟩, fun g hg x hx => ?_, by intro r hr; cases hr⟩
  · rw [nodesD_len, hcs, ← hl, List.take_length]
  · simp only [nodesD_map, List.getElem?_map, Option.map_eq_some_iff] at hj
    obtain ⟨n, hn, rfl⟩ := hj
    have hcap := fun k t ln cl kids c0 c1 c2 c3 a n' cap (h1 : n = .mk k t ln cl kids) (h2 : c = [c0, c1, c2, c3, .slice a n' cap]) => CapOk.get hcp (hn.trans (congrArg some h1)) (hc.trans (congrArg some h2)) (fun i c' x' h3 h4 => by obtain ⟨k, t, ln, cl, kids, a, cap, -, rfl, -⟩ := hd i x' c' h4 h3; exact ⟨_, _, _, _, _, _, _, rfl⟩)
    obtain ⟨k, t, ln, cl, kids, a, cap, rfl, rfl, hr | rfl⟩ := hd j n c hn hc
    · exact nodeAgg _ _ _ _ cap (((h.rows _ hr).here.below ((Below.refl _ W).alloc (Nat.le_refl _) (.cells cs 83))).wider (fun b hb _ => ⟨hb.1, fun e => by have h9 : W.heap.size = b := Option.some.inj e; have h10 : b < W.heap.size := hb.2; omega⟩)) (hcap _ _ _ _ _ _ _ _ _ _ _ _ rfl rfl)
    · exact nodeAgg _ _ _ _ cap (RowAt.nil _)
  · cases hg; exact Nat.ne_of_gt (h.locs.lt hx)
/-- So is what list hands back. -/
theorem PO.ofOwn (h : PI w bp en ts dp ls rows W) (hg : W.grownBy W' (some bp)) (hp : PS W' bp en ts' dp') (hv : VOwn W.heap.size l W' v) : PO w bp en ts' dp' ls [] v l W' := by
  have hc := h.call hg hp
  refine ⟨⟨hc.grown, hc.ps, hc.locs, hc.own, hc.bpl, (by intro r hr; cases hr), hc.dist⟩, hv.1.widerB (fun b hb _ => ⟨Nat.le_trans h.grown.size hb, fun x hx => Nat.ne_of_gt (Nat.lt_of_lt_of_le (h.locs.lt hx) hb)⟩) h.grown.size, fun g hg x hx => ?_, by intro r hr; cases hr⟩
  have := (hv.1.block_lt hg).1
  have := h.locs.lt hx
  omega
/-- It has grown. -/
theorem PO.grew (h : PO w bp en ts dp ls rows v l W) {v' : Value} {m : List Nd} (hown : OwnD (PF w ls) W' w.heap.size 83 5 v' (nodesD l ++ nodesD m)) (hg : W.grownBy W' v.ownBlock)
    (hor : ∀ g, v'.ownBlock = some g → v.ownBlock = some g ∨ W.heap.size ≤ g) : PO w bp en ts dp ls [] v' (l ++ m) W' := by
  have hbp := h.pi.bpl
  refine ⟨⟨grownBy_own h.grown hg (fun g hq => (h.od.block_lt hq).1), h.ps.own hg (fun g hq => by have := (h.od.block_lt hq).1; omega), fun x hx => ?_, h.pi.own, hbp, (by intro r hr; cases hr), h.pi.dist⟩, by rw [nodesD_append]; exact hown, fun g hq x hx => ?_, by intro r hr; cases hr⟩
  · exact (hg.block _ (h.pi.locs.lt hx) (fun e => h.ob _ e.symm x hx rfl)).trans (h.pi.locs x hx)
  · rcases hor g hq with hq | hq
    · exact h.ob g hq x hx
    · exact Nat.ne_of_gt (Nat.lt_of_lt_of_le (h.pi.locs.lt hx) hq)
theorem PO.sliceC (h : PO w bp en ts dp ls rows v l W) : ∃ a cap, v = .slice a l.length cap ∧ l.length ≤ cap := by
  obtain ⟨css, -, -, ⟨-, ⟨rfl, h2⟩ | ⟨g, cap, cur, rfl, -, -, h6, -⟩⟩, -⟩ := h.od
  · rw [nodesD_len] at h2
    exact ⟨none, 0, by rw [h2], by omega⟩
  · rw [nodesD_len] at h6
    exact ⟨_, cap, by rw [nodesD_len], h6⟩
theorem PO.slice (h : PO w bp en ts dp ls rows v l W) : ∃ a cap, v = .slice a l.length cap := by
  obtain ⟨a, cap, h1, -⟩ := h.sliceC
  exact ⟨a, cap, h1⟩
/-- It is handed on. -/
theorem PO.toRow {a : Option Addr} {n cap : Nat} (h : PO w bp en ts dp ls rows (.slice a n cap) l W) : PI w bp en ts dp ls [(a, l)] W := by
  obtain ⟨a', cap', hva, hrow⟩ := h.od.rowAt (fun g hg => ⟨(h.od.block_lt hg).1, h.ob g hg⟩)
  obtain rfl : a = a' := by injection hva
  refine ⟨h.pi.grown, h.pi.ps, h.pi.locs, h.pi.own, h.pi.bpl, fun r hr => ?_, h.pi.dist⟩
  obtain rfl : r = (a, l) := by simpa using hr
  exact hrow
end
end Go.Proofs.YthknljeffpbbmaaGreatDoor
namespace Go.Proofs.YthknljeffpbbmaaGreatDoor
open Go Go.RowKit

set_option maxRecDepth 100000 in
set_option maxHeartbeats 8000000 in
theorem block_any (bp : Nat) (en : Int × Int) (L : Lvl) (hL : LInc L) (hx : Does 129 bp en VNode L.stmt) : Does 156 bp en VNode (pBlock en L) := by
  intro w ts dp hp hd0 hd1 hr
  have Hr := Lib.hid hr
  have Hx := Lib.hid hx
  clear hx
  have hsp : pBlock en L ts dp = PM.bind (pOpen en (isSign en ts 0 [123])) (fun t => PM.bind (pStmts en L [125]) fun l => PM.bind (pClose en [125]) fun _ => PM.pure (nodeT 8 t ⟨#[]⟩ l)) ts dp := rfl
  have Hsp := Lib.hid hsp
  have H0 := Lib.hid ((PI.start hp).alloc #[.int .i64 0, .string ⟨#[]⟩, .int .i64 0, .int .i64 0, .slice none 0 0] 83)
  clear hp hr hsp
  unfold ptr
  go_enter Tryz.func156, Tryz.ntmps156
  go_wp2_with fail
  have Hc1 := Lib.hid (sign_any bp 0 ⟨#[123]⟩ en ts (dp) (w.alloc (.cells #[.int .i64 0, .string ⟨#[]⟩, .int .i64 0, .int .i64 0, .slice none 0 0] 83)) (by omega) H0.out.ps)
  try unfold ptr at Hc1
  refine Hc1.out.mono ?_
  rintro e w2 ⟨rfl, hb⟩
  have H3 := Lib.hid (H0.out.below hb)
  clear hb Hc1 H0
  have hne : (pOpen en (isSign en ts 0 [123])) ts (dp) ≠ .out := fun h => Hr.out (Hsp.out.trans (bind_out h))
  have Hc4 := Lib.hid (open_any bp (isSign en ts 0 [123]) en ts (dp) w2 (by omega) (by omega) H3.out.ps hne)
  try unfold ptr at Hc4
  clear hne
  go_wp2_with fail
  refine Hc4.out.mono ?_
  rintro e w5 ⟨hg, hq⟩
  cases hm : (pOpen en (isSign en ts 0 [123])) ts (dp) with
  | out => exact absurd (Hsp.out.trans (bind_out hm)) Hr.out
  | err ex el ec =>
    rw [hm] at hq
    obtain rfl := hq
    have Hf : Hid (pBlock en L ts dp = .err ex el ec) := Lib.hid (Hsp.out.trans (bind_err hm))
    clear hm
    refine ⟨rfl, ?_⟩
    rw [Hf.out]
    exact ⟨grownBy_trans H3.out.grown hg, rfl⟩
  | ok x9 ts8 dq =>
    have hlt := open_lt hm
    have hdq : dp + 1 = dq := by have := Inc.open _ _ _ _ _ _ hm; omega
    subst hdq
    rw [hm] at hq
    obtain ⟨hps, v, rfl, rfl⟩ := hq
    have H6 := Lib.hid (H3.out.call hg hps)
    try unfold tokV
    have Hsp7 := Lib.hid (Hsp.out.trans (bind_ok hm))
    clear hm hg hps Hc4 H3 Hsp
    have H11 := Lib.hid (H6.out.alloc #[.int .i64 x9.kind, .string x9.text, .int .i64 x9.line, .int .i64 x9.col] 157)
    clear H6
    obtain ⟨W10, hW⟩ : ∃ X, X = w5.alloc (.cells #[.int .i64 x9.kind, .string x9.text, .int .i64 x9.line, .int .i64 x9.col] 157) := ⟨_, rfl⟩
    rw [← hW] at H11
    have HW13 := Lib.hid hW
    clear hW
    generalize hb : w5.heap.size = b12 at H11
    have Hb14 := Lib.hid hb
    clear hb
    go_wp2_with fail
    rw [← HW13.out, Hb14.out]
    clear HW13 Hb14
    have hne : (pStmts en L [125]) ts8 (dp + 1) ≠ .out := fun h => Hr.out (Hsp7.out.trans (bind_out h))
    have Hc15 := Lib.hid (stmts_any bp ⟨#[125]⟩ en L hL Hx.out W10 ts8 (dp + 1) H11.out.ps (by omega) (by omega) hne)
    try unfold ptr at Hc15
    clear hne
    refine Hc15.out.mono ?_
    rintro e w16 ⟨hg, hq⟩
    cases hm : (pStmts en L [125]) ts8 (dp + 1) with
    | out => exact absurd (Hsp7.out.trans (bind_out hm)) Hr.out
    | err ex el ec =>
      rw [hm] at hq
      obtain rfl := hq
      have Hf : Hid (pBlock en L ts dp = .err ex el ec) := Lib.hid (Hsp7.out.trans (bind_err hm))
      clear hm
      refine ⟨rfl, ?_⟩
      rw [Hf.out]
      exact ⟨grownBy_trans H11.out.grown hg, rfl⟩
    | ok x20 ts19 dq =>
      have hdq : dp + 1 = dq := by have := Inc.stmts hL _ _ _ _ _ _ hm; omega
      subst hdq
      rw [hm] at hq
      obtain ⟨hps, v, rfl, a21, cap22, rfl, hrow⟩ := hq
      have H17 := Lib.hid ((H11.out.call hg hps).row hrow H11.out.grown.size H11.out.lt)
      clear hrow
      have Hsp18 := Lib.hid (Hsp7.out.trans (bind_ok hm))
      clear hm hg hps Hc15 H11 Hsp7
      have hne : (pClose en [125]) ts19 (dp + 1) ≠ .out := fun h => Hr.out (Hsp18.out.trans (bind_out h))
      have Hc23 := Lib.hid (close_any bp ⟨#[125]⟩ en ts19 (dp + 1) w16 (by omega) (by omega) H17.out.ps hne)
      try unfold ptr at Hc23
      clear hne
      go_wp2_with fail
      refine Hc23.out.mono ?_
      rintro e w24 ⟨hg, hq⟩
      cases hm : (pClose en [125]) ts19 (dp + 1) with
      | out => exact absurd (Hsp18.out.trans (bind_out hm)) Hr.out
      | err ex el ec =>
        rw [hm] at hq
        obtain rfl := hq
        have Hf : Hid (pBlock en L ts dp = .err ex el ec) := Lib.hid (Hsp18.out.trans (bind_err hm))
        clear hm
        refine ⟨rfl, ?_⟩
        rw [Hf.out]
        exact ⟨grownBy_trans H17.out.grown hg, rfl⟩
      | ok x28 ts27 dq =>
        have hdq : dp = dq := by have := Inc.close _ _ _ _ _ _ hm; omega
        subst hdq
        rw [hm] at hq
        obtain ⟨hps, v, rfl, -⟩ := hq
        have H25 := Lib.hid (H17.out.call hg hps)
        have Hsp26 := Lib.hid (Hsp18.out.trans (bind_ok hm))
        clear hm hg hps Hc23 H17 Hsp18
        obtain ⟨r29, r30, r31, r32, r33⟩ := four_facts (H25.out.at (b := b12) (cs := #[.int .i64 x9.kind, .string x9.text, .int .i64 x9.line, .int .i64 x9.col]) (T := 157) (by simp))
        go_wp2_with fail
        clear r29 r30 r31 r32 r33
        have Hnd := Lib.hid (node_any 8 x9 ⟨#[]⟩ a21 x20.length cap22 w24)
        unfold tokV nodeC at Hnd
        refine Hnd.out.mono ?_
        rintro e w34 ⟨rfl, hb⟩
        have H35 := Lib.hid (H25.out.below hb)
        clear hb Hnd H25
        obtain ⟨r36, r37, r38, r39, r40, r41, r42, r43, r44, r45, r46⟩ := five_facts (H35.out.at (b := w.heap.size) (cs := #[.int .i64 0, .string ⟨#[]⟩, .int .i64 0, .int .i64 0, .slice none 0 0]) (T := 83) (by simp))
        go_wp2_with fail
        refine bodyPost_ret (v := .agg #[.int .i64 8, .string ⟨#[]⟩, .int .i64 x9.line, .int .i64 x9.col, .slice a21 x20.length cap22]) (by simp [results, Tryz.results156, go_sem, r37, r38, r39, r40, r41]) rfl ?_
        have G := Lib.hid (H35.out.put5 1 rfl (.int .i64 8) (.string ⟨#[]⟩) (.int .i64 x9.line) (.int .i64 x9.col) (.slice a21 x20.length cap22))
        rw [Hsp26.out]
        exact ⟨G.out.grown, G.out.ps, _, rfl, NodeV.mk _ _ _ _ _ (G.out.hand (by simp))⟩

set_option maxRecDepth 100000 in
set_option maxHeartbeats 8000000 in
theorem call1_any (bp bb : Nat) (en : Int × Int) (L : Lvl) (hi : Inc 0 (pArg en L)) (hx : Does 177 bp en VNode (pArg en L)) (w : World) (hb : w.heap[bb]? = some (.cells #[ptr bp] 152 (0, 0))) (ts : List Tok) (dp : Int) (hp : PS w bp en ts dp) (hd0 : 0 ≤ dp) (hd1 : dp ≤ 1000)
    (hr : pOne (pArg en L) ts dp ≠ .out) : Calls Tryz.prog 176 #[.pointer (some ⟨bb, 0, none⟩)] w (PP bp en (VRow w.heap.size) (pOne (pArg en L) ts dp) w) := by
  have Hr := Lib.hid hr
  have Hx := Lib.hid hx
  clear hx
  have Hsp : Hid (pOne (pArg en L) ts dp = PM.bind (pArg en L) (fun x => PM.pure [x]) ts dp) := Lib.hid rfl
  have H0 := Lib.hid (PI.start hp)
  unfold ptr at hb
  obtain ⟨hb0, hb1⟩ := one_facts hb
  clear hp hr hb
  go_enter Tryz.func176, Tryz.ntmps176
  go_wp2_with fail
  have hne : (pArg en L) ts (dp) ≠ .out := fun h => Hr.out (Hsp.out.trans (bind_out h))
  have Hc47 := Lib.hid (Hx.out w ts (dp) H0.out.ps (by omega) (by omega) hne)
  try unfold ptr at Hc47
  clear hne
  refine Hc47.out.mono ?_
  rintro e w48 ⟨hg, hq⟩
  cases hm : (pArg en L) ts (dp) with
  | out => exact absurd (Hsp.out.trans (bind_out hm)) Hr.out
  | err ex el ec =>
    rw [hm] at hq
    obtain rfl := hq
    have Hf : Hid (pOne (pArg en L) ts dp = .err ex el ec) := Lib.hid (Hsp.out.trans (bind_err hm))
    clear hm
    refine ⟨rfl, ?_⟩
    rw [Hf.out]
    exact ⟨grownBy_trans H0.out.grown hg, rfl⟩
  | ok x52 ts51 dq =>
    have hdq : dp = dq := by have := hi _ _ _ _ _ hm; omega
    subst hdq
    rw [hm] at hq
    obtain ⟨x52k, x52t, x52l, x52c, x52s⟩ := x52
    obtain ⟨hps, v, rfl, hv⟩ := hq
    obtain ⟨a53, cap54, rfl, hrow⟩ := NodeV.open hv
    have Hccap54 := Lib.hid (NodeV.cap hv)
    have H49 := Lib.hid ((H0.out.call hg hps).row hrow H0.out.grown.size H0.out.lt)
    clear hv hrow
    have Hsp50 := Lib.hid (Hsp.out.trans (bind_ok hm))
    clear hm hg hps Hc47 H0 Hsp
    go_wp2_with fail
    have H55 := Lib.hid (H49.out.lit 83 [[.int .i64 x52k, .string x52t, .int .i64 x52l, .int .i64 x52c, .slice a53 x52s.length cap54]] [.mk x52k x52t x52l x52c x52s] rfl (by simp) rfl (fun j n c hj hc => by
      have hjl := (List.getElem?_eq_some_iff.1 hc).1
      simp only [List.length_cons, List.length_nil] at hjl
      obtain rfl : j = 0 := by omega
      · simp at hj hc
        subst hj hc
        exact ⟨_, _, _, _, _, _, _, rfl, rfl, .inl (by simp)⟩))
    clear H49
    go_ret
    rw [Hsp50.out]
    exact ⟨H55.out.grown, H55.out.ps, _, rfl, _, _, rfl, H55.out.hand (by simp)⟩

set_option maxRecDepth 100000 in
set_option maxHeartbeats 8000000 in
theorem prim1_any (bp bb : Nat) (en : Int × Int) (L : Lvl) (hL : LInc L) (hx : Does 155 bp en VNode L.expr) (w : World) (hb : w.heap[bb]? = some (.cells #[ptr bp] 152 (0, 0))) (ts : List Tok) (dp : Int) (hp : PS w bp en ts dp) (hd0 : 0 ≤ dp) (hd1 : dp ≤ 1000)
    (hr : pOne (L.expr) ts dp ≠ .out) : Calls Tryz.prog 198 #[.pointer (some ⟨bb, 0, none⟩)] w (PP bp en (VRow w.heap.size) (pOne (L.expr) ts dp) w) := by
  have Hr := Lib.hid hr
  have Hx := Lib.hid hx
  clear hx
  have Hsp : Hid (pOne (L.expr) ts dp = PM.bind (L.expr) (fun x => PM.pure [x]) ts dp) := Lib.hid rfl
  have H0 := Lib.hid (PI.start hp)
  unfold ptr at hb
  obtain ⟨hb0, hb1⟩ := one_facts hb
  clear hp hr hb
  go_enter Tryz.func198, Tryz.ntmps198
  go_wp2_with fail
  have hne : (L.expr) ts (dp) ≠ .out := fun h => Hr.out (Hsp.out.trans (bind_out h))
  have Hc56 := Lib.hid (Hx.out w ts (dp) H0.out.ps (by omega) (by omega) hne)
  try unfold ptr at Hc56
  clear hne
  refine Hc56.out.mono ?_
  rintro e w57 ⟨hg, hq⟩
  cases hm : (L.expr) ts (dp) with
  | out => exact absurd (Hsp.out.trans (bind_out hm)) Hr.out
  | err ex el ec =>
    rw [hm] at hq
    obtain rfl := hq
    have Hf : Hid (pOne (L.expr) ts dp = .err ex el ec) := Lib.hid (Hsp.out.trans (bind_err hm))
    clear hm
    refine ⟨rfl, ?_⟩
    rw [Hf.out]
    exact ⟨grownBy_trans H0.out.grown hg, rfl⟩
  | ok x61 ts60 dq =>
    have hdq : dp = dq := by have := hL.expr _ _ _ _ _ hm; omega
    subst hdq
    rw [hm] at hq
    obtain ⟨x61k, x61t, x61l, x61c, x61s⟩ := x61
    obtain ⟨hps, v, rfl, hv⟩ := hq
    obtain ⟨a62, cap63, rfl, hrow⟩ := NodeV.open hv
    have Hccap63 := Lib.hid (NodeV.cap hv)
    have H58 := Lib.hid ((H0.out.call hg hps).row hrow H0.out.grown.size H0.out.lt)
    clear hv hrow
    have Hsp59 := Lib.hid (Hsp.out.trans (bind_ok hm))
    clear hm hg hps Hc56 H0 Hsp
    go_wp2_with fail
    have H64 := Lib.hid (H58.out.lit 83 [[.int .i64 x61k, .string x61t, .int .i64 x61l, .int .i64 x61c, .slice a62 x61s.length cap63]] [.mk x61k x61t x61l x61c x61s] rfl (by simp) rfl (fun j n c hj hc => by
      have hjl := (List.getElem?_eq_some_iff.1 hc).1
      simp only [List.length_cons, List.length_nil] at hjl
      obtain rfl : j = 0 := by omega
      · simp at hj hc
        subst hj hc
        exact ⟨_, _, _, _, _, _, _, rfl, rfl, .inl (by simp)⟩))
    clear H58
    go_ret
    rw [Hsp59.out]
    exact ⟨H64.out.grown, H64.out.ps, _, rfl, _, _, rfl, H64.out.hand (by simp)⟩

set_option maxRecDepth 100000 in
set_option maxHeartbeats 8000000 in
theorem rule1_any (bp bb : Nat) (en : Int × Int) (L : Lvl) (hi : Inc 0 (pParam en L)) (hx : Does 175 bp en VNode (pParam en L)) (w : World) (hb : w.heap[bb]? = some (.cells #[ptr bp] 152 (0, 0))) (ts : List Tok) (dp : Int) (hp : PS w bp en ts dp) (hd0 : 0 ≤ dp) (hd1 : dp ≤ 1000)
    (hr : pOne (pParam en L) ts dp ≠ .out) : Calls Tryz.prog 174 #[.pointer (some ⟨bb, 0, none⟩)] w (PP bp en (VRow w.heap.size) (pOne (pParam en L) ts dp) w) := by
  have Hr := Lib.hid hr
  have Hx := Lib.hid hx
  clear hx
  have Hsp : Hid (pOne (pParam en L) ts dp = PM.bind (pParam en L) (fun x => PM.pure [x]) ts dp) := Lib.hid rfl
  have H0 := Lib.hid (PI.start hp)
  unfold ptr at hb
  obtain ⟨hb0, hb1⟩ := one_facts hb
  clear hp hr hb
  go_enter Tryz.func174, Tryz.ntmps174
  go_wp2_with fail
  have hne : (pParam en L) ts (dp) ≠ .out := fun h => Hr.out (Hsp.out.trans (bind_out h))
  have Hc65 := Lib.hid (Hx.out w ts (dp) H0.out.ps (by omega) (by omega) hne)
  try unfold ptr at Hc65
  clear hne
  refine Hc65.out.mono ?_
  rintro e w66 ⟨hg, hq⟩
  cases hm : (pParam en L) ts (dp) with
  | out => exact absurd (Hsp.out.trans (bind_out hm)) Hr.out
  | err ex el ec =>
    rw [hm] at hq
    obtain rfl := hq
    have Hf : Hid (pOne (pParam en L) ts dp = .err ex el ec) := Lib.hid (Hsp.out.trans (bind_err hm))
    clear hm
    refine ⟨rfl, ?_⟩
    rw [Hf.out]
    exact ⟨grownBy_trans H0.out.grown hg, rfl⟩
  | ok x70 ts69 dq =>
    have hdq : dp = dq := by have := hi _ _ _ _ _ hm; omega
    subst hdq
    rw [hm] at hq
    obtain ⟨x70k, x70t, x70l, x70c, x70s⟩ := x70
    obtain ⟨hps, v, rfl, hv⟩ := hq
    obtain ⟨a71, cap72, rfl, hrow⟩ := NodeV.open hv
    have Hccap72 := Lib.hid (NodeV.cap hv)
    have H67 := Lib.hid ((H0.out.call hg hps).row hrow H0.out.grown.size H0.out.lt)
    clear hv hrow
    have Hsp68 := Lib.hid (Hsp.out.trans (bind_ok hm))
    clear hm hg hps Hc65 H0 Hsp
    go_wp2_with fail
    have H73 := Lib.hid (H67.out.lit 83 [[.int .i64 x70k, .string x70t, .int .i64 x70l, .int .i64 x70c, .slice a71 x70s.length cap72]] [.mk x70k x70t x70l x70c x70s] rfl (by simp) rfl (fun j n c hj hc => by
      have hjl := (List.getElem?_eq_some_iff.1 hc).1
      simp only [List.length_cons, List.length_nil] at hjl
      obtain rfl : j = 0 := by omega
      · simp at hj hc
        subst hj hc
        exact ⟨_, _, _, _, _, _, _, rfl, rfl, .inl (by simp)⟩))
    clear H67
    go_ret
    rw [Hsp68.out]
    exact ⟨H73.out.grown, H73.out.ps, _, rfl, _, _, rfl, H73.out.hand (by simp)⟩

end Go.Proofs.YthknljeffpbbmaaGreatDoor
namespace Go.Proofs.YthknljeffpbbmaaGreatDoor
open Go Go.RowKit

set_option maxRecDepth 100000 in
set_option maxHeartbeats 8000000 in
theorem call_any (bp : Nat) (en : Int × Int) (L : Lvl) (hL : LInc L) (hx : Does 177 bp en VNode (pArg en L)) : Does 158 bp en VNode (pCall en L) := by
  intro w ts dp hp hd0 hd1 hr
  have Hr := Lib.hid hr
  have Hx := Lib.hid hx
  clear hx
  have hsp : pCall en L ts dp = PM.bind (pTake en (isNameT en ts)) (fun name => pLook fun ts => PM.bind (pOpen en (isSign en ts 0 [40])) fun _ => PM.bind (pList en [41] (pOne (pArg en L))) fun kids => PM.bind (pClose en [41]) fun _ => PM.pure (nodeT 14 name name.text kids)) ts dp := rfl
  have Hsp := Lib.hid hsp
  have H0 := Lib.hid (((PI.start hp).alloc #[.pointer (some ⟨bp, 0, none⟩)] 152).alloc #[.int .i64 0, .string ⟨#[]⟩, .int .i64 0, .int .i64 0, .slice none 0 0] 83)
  have hbx : (w.alloc (.cells #[.pointer (some ⟨bp, 0, none⟩)] 152)).heap.size = w.heap.size + 1 := by simp
  rw [hbx] at H0
  clear hp hr hsp hbx
  unfold ptr
  go_enter Tryz.func158, Tryz.ntmps158
  go_wp2_with fail
  go_cut [3] from 5 (fun v wc => ∃ (t : Tok) (ts1 : List Tok) (b : Nat), v = .pointer (some ⟨b, 0, none⟩) ∧ Hid (pCall en L ts dp = PM.bind (pOpen en (isSign en ts1 0 [40])) (fun _ => PM.bind (pList en [41] (pOne (pArg en L))) fun kids => PM.bind (pClose en [41]) fun _ => PM.pure (nodeT 14 t t.text kids)) ts1 dp) ∧ Hid (PI w bp en ts1 (dp) [(b, #[.int .i64 t.kind, .string t.text, .int .i64 t.line, .int .i64 t.col], 157), (w.heap.size + 1, #[.int .i64 0, .string ⟨#[]⟩, .int .i64 0, .int .i64 0, .slice none 0 0], 83), (w.heap.size, #[.pointer (some ⟨bp, 0, none⟩)], 152)] [] wc))
  case first =>
    have H1 := Lib.hid H0.out.drew
    clear H0
    refine wp_region_turns (.s 0 (.s 1 (.b 2 (.b 3 (.h 4 (.h 5 .nil)) 4 (.h 3 (.h 5 .nil))) 4 (.h 2 (.h 3 (.h 5 .nil)))))) 5 (fun W' => W'.heap[w.heap.size]? = some (.cells #[.pointer (some ⟨bp, 0, none⟩)] 152 (0, 0))) (by kernel_rfl) (by kernel_rfl) (fun c a d v w h => by cases d <;> exact h) (H1.out.at (by simp)) ?_
    generalize hW : ((w.alloc (.cells #[.pointer (some ⟨bp, 0, none⟩)] 152)).alloc (.cells #[.int .i64 0, .string ⟨#[]⟩, .int .i64 0, .int .i64 0, .slice none 0 0] 83)).drew = W2 at H1 ⊢
    clear hW
    refine turn_steady (.pointer (some ⟨bp, 0, none⟩)) rfl rfl (fun W' hS => ?_) ?_
    · try unfold tokV
      try unfold ptr
      have hS0 := hS
      obtain ⟨s00, s01⟩ := one_facts hS0
      clear hS0
      go_simp
    refine turn_steady (.pointer (some ⟨bp, 0, none⟩)) rfl rfl (fun W' hS => ?_) ?_
    · try unfold tokV
      try unfold ptr
      have hS0 := hS
      obtain ⟨s00, s01⟩ := one_facts hS0
      clear hS0
      go_simp
    refine turn_both rfl rfl (fun K3 hK3 => ?_) (fun K4 hK4 => ?_)
    · try unfold tokV ptr
      go_wp2_with fail
      have Hc5 := Lib.hid (name_any bp en ts (dp) W2 H1.out.ps)
      try unfold ptr at Hc5
      refine Hc5.out.mono ?_
      rintro e w6 ⟨rfl, hb⟩
      have H7 := Lib.hid (H1.out.below hb)
      clear hb Hc5 H1
      go_wp2_with fail
      refine hK3 _ _ (fun _ => H7.out.at (by simp)) ?_
      refine turn_both rfl rfl (fun K8 hK8 => ?_) (fun K9 hK9 => ?_)
      · try unfold tokV ptr
        go_wp2_with fail
        have hne : (pTake en (isNameT en ts)) ts (dp) ≠ .out := fun h => Hr.out (Hsp.out.trans (bind_out h))
        have Hc10 := Lib.hid (take_any bp (isNameT en ts) en ts (dp) w6 H7.out.ps hne)
        try unfold ptr at Hc10
        clear hne
        refine Hc10.out.mono ?_
        rintro e w11 ⟨hg, hq⟩
        cases hm : (pTake en (isNameT en ts)) ts (dp) with
        | out => exact absurd (Hsp.out.trans (bind_out hm)) Hr.out
        | err ex el ec =>
          rw [hm] at hq
          obtain rfl := hq
          have Hf : Hid (pCall en L ts dp = .err ex el ec) := Lib.hid (Hsp.out.trans (bind_err hm))
          clear hm
          refine ⟨rfl, ?_⟩
          rw [Hf.out]
          exact ⟨grownBy_trans H7.out.grown hg, rfl⟩
        | ok x15 ts14 dq =>
          have hdq : dp = dq := by have := Inc.take _ _ _ _ _ _ hm; omega
          subst hdq
          rw [hm] at hq
          obtain ⟨hps, v, rfl, rfl⟩ := hq
          have H12 := Lib.hid (H7.out.call hg hps)
          try unfold tokV
          have Hsp13 := Lib.hid (Hsp.out.trans (bind_ok hm))
          clear hm hg hps Hc10 H7 Hsp
          go_wp2_with fail
          refine hK8 _ _ (fun _ => H12.out.at (by simp)) ?_
          refine turn_heavy rfl (fun K16 hK16 => ?_)
          try unfold tokV ptr
          go_wp2_with fail
          have H17 := Lib.hid (H12.out.alloc #[.int .i64 0, .string ⟨#[]⟩, .int .i64 0, .int .i64 0] 157)
          clear H12
          generalize hW : w11.alloc (.cells #[.int .i64 0, .string ⟨#[]⟩, .int .i64 0, .int .i64 0] 157) = W19 at H17 ⊢
          clear hW
          generalize hb : w11.heap.size = b18 at H17 ⊢
          clear hb
          refine hK16 _ _ (fun _ => H17.out.at (by simp)) ?_
          obtain ⟨r20, r21, r22, r23, r24, r25, r26, r27, r28⟩ := four_wfacts (H17.out.at (b := b18) (cs := #[.int .i64 0, .string ⟨#[]⟩, .int .i64 0, .int .i64 0]) (T := 157) (by simp))
          refine turn_heavy rfl (fun K29 hK29 => ?_)
          try unfold tokV ptr
          go_wp2_with fail
          have H30 := Lib.hid (H17.out.put4 0 rfl (.int .i64 x15.kind) (.string x15.text) (.int .i64 x15.line) (.int .i64 x15.col))
          refine hK29 _ _ (fun h => absurd rfl h) ?_
          refine turn_end ?_
          go_wp2_with fail
          go_meet
          case rel => exact ⟨x15, ts14, b18, rfl, Hsp13, H30⟩
      · try unfold tokV ptr
        go_wp2_with fail
        have H31 := Lib.hid (H7.out.alloc #[.int .i64 0, .string ⟨#[]⟩, .int .i64 0, .int .i64 0] 157)
        clear H7
        generalize hW : w6.alloc (.cells #[.int .i64 0, .string ⟨#[]⟩, .int .i64 0, .int .i64 0] 157) = W33 at H31 ⊢
        clear hW
        generalize hb : w6.heap.size = b32 at H31 ⊢
        clear hb
        refine hK9 _ _ (fun _ => H31.out.at (by simp)) ?_
        refine turn_heavy rfl (fun K34 hK34 => ?_)
        try unfold tokV ptr
        go_wp2_with fail
        have hne : (pTake en (isNameT en ts)) ts (dp) ≠ .out := fun h => Hr.out (Hsp.out.trans (bind_out h))
        have Hc35 := Lib.hid (take_any bp (isNameT en ts) en ts (dp) W33 H31.out.ps hne)
        try unfold ptr at Hc35
        clear hne
        refine Hc35.out.mono ?_
        rintro e w36 ⟨hg, hq⟩
        cases hm : (pTake en (isNameT en ts)) ts (dp) with
        | out => exact absurd (Hsp.out.trans (bind_out hm)) Hr.out
        | err ex el ec =>
          rw [hm] at hq
          obtain rfl := hq
          have Hf : Hid (pCall en L ts dp = .err ex el ec) := Lib.hid (Hsp.out.trans (bind_err hm))
          clear hm
          refine ⟨rfl, ?_⟩
          rw [Hf.out]
          exact ⟨grownBy_trans H31.out.grown hg, rfl⟩
        | ok x40 ts39 dq =>
          have hdq : dp = dq := by have := Inc.take _ _ _ _ _ _ hm; omega
          subst hdq
          rw [hm] at hq
          obtain ⟨hps, v, rfl, rfl⟩ := hq
          have H37 := Lib.hid (H31.out.call hg hps)
          try unfold tokV
          have Hsp38 := Lib.hid (Hsp.out.trans (bind_ok hm))
          clear hm hg hps Hc35 H31 Hsp
          go_wp2_with fail
          refine hK34 _ _ (fun _ => H37.out.at (by simp)) ?_
          obtain ⟨r41, r42, r43, r44, r45, r46, r47, r48, r49⟩ := four_wfacts (H37.out.at (b := b32) (cs := #[.int .i64 0, .string ⟨#[]⟩, .int .i64 0, .int .i64 0]) (T := 157) (by simp))
          refine turn_heavy rfl (fun K50 hK50 => ?_)
          try unfold tokV ptr
          go_wp2_with fail
          have H51 := Lib.hid (H37.out.put4 0 rfl (.int .i64 x40.kind) (.string x40.text) (.int .i64 x40.line) (.int .i64 x40.col))
          refine hK50 _ _ (fun h => absurd rfl h) ?_
          refine turn_end ?_
          go_wp2_with fail
          go_meet
          case rel => exact ⟨x40, ts39, b32, rfl, Hsp38, H51⟩
    · try unfold tokV ptr
      go_wp2_with fail
      have H52 := Lib.hid (H1.out.alloc #[.int .i64 0, .string ⟨#[]⟩, .int .i64 0, .int .i64 0] 157)
      clear H1
      generalize hW : W2.alloc (.cells #[.int .i64 0, .string ⟨#[]⟩, .int .i64 0, .int .i64 0] 157) = W54 at H52 ⊢
      clear hW
      generalize hb : W2.heap.size = b53 at H52 ⊢
      clear hb
      refine hK4 _ _ (fun _ => H52.out.at (by simp)) ?_
      refine turn_heavy rfl (fun K55 hK55 => ?_)
      try unfold tokV ptr
      go_wp2_with fail
      have Hc56 := Lib.hid (name_any bp en ts (dp) W54 H52.out.ps)
      try unfold ptr at Hc56
      refine Hc56.out.mono ?_
      rintro e w57 ⟨rfl, hb⟩
      have H58 := Lib.hid (H52.out.below hb)
      clear hb Hc56 H52
      go_wp2_with fail
      refine hK55 _ _ (fun _ => H58.out.at (by simp)) ?_
      refine turn_heavy rfl (fun K59 hK59 => ?_)
      try unfold tokV ptr
      go_wp2_with fail
      have hne : (pTake en (isNameT en ts)) ts (dp) ≠ .out := fun h => Hr.out (Hsp.out.trans (bind_out h))
      have Hc60 := Lib.hid (take_any bp (isNameT en ts) en ts (dp) w57 H58.out.ps hne)
      try unfold ptr at Hc60
      clear hne
      refine Hc60.out.mono ?_
      rintro e w61 ⟨hg, hq⟩
      cases hm : (pTake en (isNameT en ts)) ts (dp) with
      | out => exact absurd (Hsp.out.trans (bind_out hm)) Hr.out
      | err ex el ec =>
        rw [hm] at hq
        obtain rfl := hq
        have Hf : Hid (pCall en L ts dp = .err ex el ec) := Lib.hid (Hsp.out.trans (bind_err hm))
        clear hm
        refine ⟨rfl, ?_⟩
        rw [Hf.out]
        exact ⟨grownBy_trans H58.out.grown hg, rfl⟩
      | ok x65 ts64 dq =>
        have hdq : dp = dq := by have := Inc.take _ _ _ _ _ _ hm; omega
        subst hdq
        rw [hm] at hq
        obtain ⟨hps, v, rfl, rfl⟩ := hq
        have H62 := Lib.hid (H58.out.call hg hps)
        try unfold tokV
        have Hsp63 := Lib.hid (Hsp.out.trans (bind_ok hm))
        clear hm hg hps Hc60 H58 Hsp
        go_wp2_with fail
        refine hK59 _ _ (fun _ => H62.out.at (by simp)) ?_
        obtain ⟨r66, r67, r68, r69, r70, r71, r72, r73, r74⟩ := four_wfacts (H62.out.at (b := b53) (cs := #[.int .i64 0, .string ⟨#[]⟩, .int .i64 0, .int .i64 0]) (T := 157) (by simp))
        refine turn_heavy rfl (fun K75 hK75 => ?_)
        try unfold tokV ptr
        go_wp2_with fail
        have H76 := Lib.hid (H62.out.put4 0 rfl (.int .i64 x65.kind) (.string x65.text) (.int .i64 x65.line) (.int .i64 x65.col))
        refine hK75 _ _ (fun h => absurd rfl h) ?_
        refine turn_end ?_
        go_wp2_with fail
        go_meet
        case rel => exact ⟨x65, ts64, b53, rfl, Hsp63, H76⟩
  case rest =>
    obtain ⟨t77, ts78, b79, hv82, Hsp80, H81⟩ := hcut
    subst hv82
    clear Hsp H0
    rename World => w83
    go_wp2_with fail
    have H84 := Lib.hid H81.out.drew
    clear H81
    go_wp2_with fail
    refine wp_region_turns (.s 0 (.s 1 (.h 2 (.h 3 .nil)))) 3 (fun W' => W'.heap[w.heap.size]? = some (.cells #[.pointer (some ⟨bp, 0, none⟩)] 152 (0, 0))) (by kernel_rfl) (by kernel_rfl) (fun c a d v w h => by cases d <;> exact h) (H84.out.at (by simp)) ?_
    refine turn_steady (.pointer (some ⟨bp, 0, none⟩)) rfl rfl (fun W' hS => ?_) ?_
    · try unfold tokV
      try unfold ptr
      have hS0 := hS
      obtain ⟨s00, s01⟩ := one_facts hS0
      clear hS0
      go_simp
    refine turn_steady (.pointer (some ⟨bp, 0, none⟩)) rfl rfl (fun W' hS => ?_) ?_
    · try unfold tokV
      try unfold ptr
      have hS0 := hS
      obtain ⟨s00, s01⟩ := one_facts hS0
      clear hS0
      go_simp
    refine turn_heavy rfl (fun K85 hK85 => ?_)
    try unfold tokV ptr
    go_wp2_with fail
    have Hc86 := Lib.hid (sign_any bp 0 ⟨#[40]⟩ en ts78 (dp) w83.drew (by omega) H84.out.ps)
    try unfold ptr at Hc86
    refine Hc86.out.mono ?_
    rintro e w87 ⟨rfl, hb⟩
    have H88 := Lib.hid (H84.out.below hb)
    clear hb Hc86 H84
    go_wp2_with fail
    refine hK85 _ _ (fun _ => H88.out.at (by simp)) ?_
    refine turn_heavy rfl (fun K89 hK89 => ?_)
    try unfold tokV ptr
    go_wp2_with fail
    have hne : (pOpen en (isSign en ts78 0 [40])) ts78 (dp) ≠ .out := fun h => Hr.out (Hsp80.out.trans (bind_out h))
    have Hc90 := Lib.hid (open_any bp (isSign en ts78 0 [40]) en ts78 (dp) w87 (by omega) (by omega) H88.out.ps hne)
    try unfold ptr at Hc90
    clear hne
    refine Hc90.out.mono ?_
    rintro e w91 ⟨hg, hq⟩
    cases hm : (pOpen en (isSign en ts78 0 [40])) ts78 (dp) with
    | out => exact absurd (Hsp80.out.trans (bind_out hm)) Hr.out
    | err ex el ec =>
      rw [hm] at hq
      obtain rfl := hq
      have Hf : Hid (pCall en L ts dp = .err ex el ec) := Lib.hid (Hsp80.out.trans (bind_err hm))
      clear hm
      refine ⟨rfl, ?_⟩
      rw [Hf.out]
      exact ⟨grownBy_trans H88.out.grown hg, rfl⟩
    | ok x95 ts94 dq =>
      have hlt := open_lt hm
      have hdq : dp + 1 = dq := by have := Inc.open _ _ _ _ _ _ hm; omega
      subst hdq
      rw [hm] at hq
      obtain ⟨hps, v, rfl, rfl⟩ := hq
      have H92 := Lib.hid (H88.out.call hg hps)
      try unfold tokV
      have Hsp93 := Lib.hid (Hsp80.out.trans (bind_ok hm))
      clear hm hg hps Hc90 H88 Hsp80
      go_wp2_with fail
      refine hK89 _ _ (fun h => absurd rfl h) ?_
      refine turn_end ?_
      have hne : (pList en [41] (pOne (pArg en L))) ts94 (dp + 1) ≠ .out := fun h => Hr.out (Hsp93.out.trans (bind_out h))
      have Hc96 := Lib.hid (list_any bp ⟨#[41]⟩ 176 #[] #[.pointer (some ⟨w.heap.size, 0, none⟩)] (pOne (pArg en L)) en ts94 (dp + 1) w91 (by omega) (by omega) H92.out.ps (by intro args w; rfl) (fun w1 ts1 hg hp' hr' => call1_any bp w.heap.size en L (Inc.arg hL) Hx.out w1 (H92.out.later hg (by simp [ptr])) ts1 (dp + 1) hp' (by omega) (by omega) hr') (Inc.one (Inc.arg hL)) pure_one hne)
      try unfold ptr at Hc96
      clear hne
      obtain ⟨r102, r103⟩ := one_facts (H92.out.at (b := w.heap.size) (cs := #[.pointer (some ⟨bp, 0, none⟩)]) (T := 152) (by simp))
      go_wp2_with fail
      clear r102 r103
      refine Hc96.out.mono ?_
      rintro e w97 ⟨hg, hq⟩
      cases hm : (pList en [41] (pOne (pArg en L))) ts94 (dp + 1) with
      | out => exact absurd (Hsp93.out.trans (bind_out hm)) Hr.out
      | err ex el ec =>
        rw [hm] at hq
        obtain rfl := hq
        have Hf : Hid (pCall en L ts dp = .err ex el ec) := Lib.hid (Hsp93.out.trans (bind_err hm))
        clear hm
        refine ⟨rfl, ?_⟩
        rw [Hf.out]
        exact ⟨grownBy_trans H92.out.grown hg, rfl⟩
      | ok x101 ts100 dq =>
        have hdq : dp + 1 = dq := by have := Inc.list (Inc.one (Inc.arg hL)) _ _ _ _ _ hm; omega
        subst hdq
        rw [hm] at hq
        obtain ⟨hps, v, rfl, a104, cap105, rfl, hrow⟩ := hq
        have H98 := Lib.hid ((H92.out.call hg hps).row hrow H92.out.grown.size H92.out.lt)
        clear hrow
        have Hsp99 := Lib.hid (Hsp93.out.trans (bind_ok hm))
        clear hm hg hps Hc96 H92 Hsp93
        have hne : (pClose en [41]) ts100 (dp + 1) ≠ .out := fun h => Hr.out (Hsp99.out.trans (bind_out h))
        have Hc106 := Lib.hid (close_any bp ⟨#[41]⟩ en ts100 (dp + 1) w97 (by omega) (by omega) H98.out.ps hne)
        try unfold ptr at Hc106
        clear hne
        obtain ⟨r112, r113⟩ := one_facts (H98.out.at (b := w.heap.size) (cs := #[.pointer (some ⟨bp, 0, none⟩)]) (T := 152) (by simp))
        go_wp2_with fail
        clear r112 r113
        refine Hc106.out.mono ?_
        rintro e w107 ⟨hg, hq⟩
        cases hm : (pClose en [41]) ts100 (dp + 1) with
        | out => exact absurd (Hsp99.out.trans (bind_out hm)) Hr.out
        | err ex el ec =>
          rw [hm] at hq
          obtain rfl := hq
          have Hf : Hid (pCall en L ts dp = .err ex el ec) := Lib.hid (Hsp99.out.trans (bind_err hm))
          clear hm
          refine ⟨rfl, ?_⟩
          rw [Hf.out]
          exact ⟨grownBy_trans H98.out.grown hg, rfl⟩
        | ok x111 ts110 dq =>
          have hdq : dp = dq := by have := Inc.close _ _ _ _ _ _ hm; omega
          subst hdq
          rw [hm] at hq
          obtain ⟨hps, v, rfl, -⟩ := hq
          have H108 := Lib.hid (H98.out.call hg hps)
          have Hsp109 := Lib.hid (Hsp99.out.trans (bind_ok hm))
          clear hm hg hps Hc106 H98 Hsp99
          obtain ⟨r114, r115⟩ := one_facts (H108.out.at (b := w.heap.size) (cs := #[.pointer (some ⟨bp, 0, none⟩)]) (T := 152) (by simp))
          obtain ⟨r116, r117, r118, r119, r120⟩ := four_facts (H108.out.at (b := b79) (cs := #[.int .i64 t77.kind, .string t77.text, .int .i64 t77.line, .int .i64 t77.col]) (T := 157) (by simp))
          go_wp2_with fail
          clear r114 r115 r116 r117 r118 r119 r120
          have Hnd := Lib.hid (node_any 14 t77 t77.text a104 x101.length cap105 w107)
          unfold tokV nodeC at Hnd
          refine Hnd.out.mono ?_
          rintro e w121 ⟨rfl, hb⟩
          have H122 := Lib.hid (H108.out.below hb)
          clear hb Hnd H108
          obtain ⟨r123, r124, r125, r126, r127, r128, r129, r130, r131, r132, r133⟩ := five_facts (H122.out.at (b := w.heap.size + 1) (cs := #[.int .i64 0, .string ⟨#[]⟩, .int .i64 0, .int .i64 0, .slice none 0 0]) (T := 83) (by simp))
          go_wp2_with fail
          refine bodyPost_ret (v := .agg #[.int .i64 14, .string t77.text, .int .i64 t77.line, .int .i64 t77.col, .slice a104 x101.length cap105]) (by simp [results, Tryz.results158, go_sem, r124, r125, r126, r127, r128]) rfl ?_
          have G := Lib.hid (H122.out.put5 1 rfl (.int .i64 14) (.string t77.text) (.int .i64 t77.line) (.int .i64 t77.col) (.slice a104 x101.length cap105))
          rw [Hsp109.out]
          exact ⟨G.out.grown, G.out.ps, _, rfl, NodeV.mk _ _ _ _ _ (G.out.hand (by simp))⟩

end Go.Proofs.YthknljeffpbbmaaGreatDoor
namespace Go.Proofs.YthknljeffpbbmaaGreatDoor
open Go Go.RowKit

set_option maxRecDepth 100000 in
set_option maxHeartbeats 8000000 in
theorem entry_any (bp : Nat) (en : Int × Int) (L : Lvl) (hL : LInc L) (hx : Does 155 bp en VNode L.expr) : Does 199 bp en VRow (pEntry en L) := by
  intro w ts dp hp hd0 hd1 hr
  have Hr := Lib.hid hr
  have Hx := Lib.hid hx
  clear hx
  have hsp : pEntry en L ts dp = PM.bind (pTake en ((tokAt en ts 0).kind == 3)) (fun t => PM.bind (pEat en [58]) fun _ => PM.bind L.expr fun x => PM.pure [nodeT 11 t t.text [], x]) ts dp := rfl
  have Hsp := Lib.hid hsp
  have H0 := Lib.hid (PI.start hp)
  clear hp hr hsp
  unfold ptr
  go_enter Tryz.func199, Tryz.ntmps199
  go_wp2_with fail
  have Hc1 := Lib.hid (at_any bp 0 en ts (dp) w (by omega) H0.out.ps)
  try unfold ptr at Hc1
  refine Hc1.out.mono ?_
  rintro e w2 ⟨rfl, hb⟩
  have H3 := Lib.hid (H0.out.below hb)
  clear hb Hc1 H0
  try unfold tokV
  generalize tokAt en ts 0 = t at Hsp ⊢
  have k0 := tok_kind
  have hne : (pTake en (t.kind == 3)) ts (dp) ≠ .out := fun h => Hr.out (Hsp.out.trans (bind_out h))
  have Hc4 := Lib.hid (take_any bp (t.kind == 3) en ts (dp) w2 H3.out.ps hne)
  try unfold ptr at Hc4
  clear hne
  go_wp2_with fail
  refine Hc4.out.mono ?_
  rintro e w5 ⟨hg, hq⟩
  cases hm : (pTake en (t.kind == 3)) ts (dp) with
  | out => exact absurd (Hsp.out.trans (bind_out hm)) Hr.out
  | err ex el ec =>
    rw [hm] at hq
    obtain rfl := hq
    have Hf : Hid (pEntry en L ts dp = .err ex el ec) := Lib.hid (Hsp.out.trans (bind_err hm))
    clear hm
    refine ⟨rfl, ?_⟩
    rw [Hf.out]
    exact ⟨grownBy_trans H3.out.grown hg, rfl⟩
  | ok x9 ts8 dq =>
    have hdq : dp = dq := by have := Inc.take _ _ _ _ _ _ hm; omega
    subst hdq
    rw [hm] at hq
    obtain ⟨hps, v, rfl, rfl⟩ := hq
    have H6 := Lib.hid (H3.out.call hg hps)
    try unfold tokV
    have Hsp7 := Lib.hid (Hsp.out.trans (bind_ok hm))
    clear hm hg hps Hc4 H3 Hsp
    clear k0
    have H11 := Lib.hid (H6.out.alloc #[.int .i64 x9.kind, .string x9.text, .int .i64 x9.line, .int .i64 x9.col] 157)
    clear H6
    obtain ⟨W10, hW⟩ : ∃ X, X = w5.alloc (.cells #[.int .i64 x9.kind, .string x9.text, .int .i64 x9.line, .int .i64 x9.col] 157) := ⟨_, rfl⟩
    rw [← hW] at H11
    have HW13 := Lib.hid hW
    clear hW
    generalize hb : w5.heap.size = b12 at H11
    have Hb14 := Lib.hid hb
    clear hb
    go_wp2_with fail
    rw [← HW13.out, Hb14.out]
    clear HW13 Hb14
    have hne : (pEat en [58]) ts8 (dp) ≠ .out := fun h => Hr.out (Hsp7.out.trans (bind_out h))
    have Hc15 := Lib.hid (eat_any bp ⟨#[58]⟩ en ts8 (dp) W10 H11.out.ps hne)
    try unfold ptr at Hc15
    clear hne
    refine Hc15.out.mono ?_
    rintro e w16 ⟨hg, hq⟩
    cases hm : (pEat en [58]) ts8 (dp) with
    | out => exact absurd (Hsp7.out.trans (bind_out hm)) Hr.out
    | err ex el ec =>
      rw [hm] at hq
      obtain rfl := hq
      have Hf : Hid (pEntry en L ts dp = .err ex el ec) := Lib.hid (Hsp7.out.trans (bind_err hm))
      clear hm
      refine ⟨rfl, ?_⟩
      rw [Hf.out]
      exact ⟨grownBy_trans H11.out.grown hg, rfl⟩
    | ok x20 ts19 dq =>
      have hdq : dp = dq := by have := Inc.eat _ _ _ _ _ _ hm; omega
      subst hdq
      rw [hm] at hq
      obtain ⟨hps, v, rfl, -⟩ := hq
      have H17 := Lib.hid (H11.out.call hg hps)
      have Hsp18 := Lib.hid (Hsp7.out.trans (bind_ok hm))
      clear hm hg hps Hc15 H11 Hsp7
      obtain ⟨r21, r22, r23, r24, r25⟩ := four_facts (H17.out.at (b := b12) (cs := #[.int .i64 x9.kind, .string x9.text, .int .i64 x9.line, .int .i64 x9.col]) (T := 157) (by simp))
      go_wp2_with fail
      clear r21 r22 r23 r24 r25
      have Hnd := Lib.hid (node_any 11 x9 x9.text none 0 0 w16)
      unfold tokV nodeC at Hnd
      refine Hnd.out.mono ?_
      rintro e w26 ⟨rfl, hb⟩
      have H27 := Lib.hid (H17.out.below hb)
      clear hb Hnd H17
      have hne : (L.expr) ts19 (dp) ≠ .out := fun h => Hr.out (Hsp18.out.trans (bind_out h))
      have Hc28 := Lib.hid (Hx.out w26 ts19 (dp) H27.out.ps (by omega) (by omega) hne)
      try unfold ptr at Hc28
      clear hne
      go_wp2_with fail
      refine Hc28.out.mono ?_
      rintro e w29 ⟨hg, hq⟩
      cases hm : (L.expr) ts19 (dp) with
      | out => exact absurd (Hsp18.out.trans (bind_out hm)) Hr.out
      | err ex el ec =>
        rw [hm] at hq
        obtain rfl := hq
        have Hf : Hid (pEntry en L ts dp = .err ex el ec) := Lib.hid (Hsp18.out.trans (bind_err hm))
        clear hm
        refine ⟨rfl, ?_⟩
        rw [Hf.out]
        exact ⟨grownBy_trans H27.out.grown hg, rfl⟩
      | ok x33 ts32 dq =>
        have hdq : dp = dq := by have := hL.expr _ _ _ _ _ hm; omega
        subst hdq
        rw [hm] at hq
        obtain ⟨x33k, x33t, x33l, x33c, x33s⟩ := x33
        obtain ⟨hps, v, rfl, hv⟩ := hq
        obtain ⟨a34, cap35, rfl, hrow⟩ := NodeV.open hv
        have Hccap35 := Lib.hid (NodeV.cap hv)
        have H30 := Lib.hid ((H27.out.call hg hps).row hrow H27.out.grown.size H27.out.lt)
        clear hv hrow
        have Hsp31 := Lib.hid (Hsp18.out.trans (bind_ok hm))
        clear hm hg hps Hc28 H27 Hsp18
        go_wp2_with fail
        have H36 := Lib.hid (H30.out.lit 83 [[.int .i64 11, .string x9.text, .int .i64 x9.line, .int .i64 x9.col, .slice none 0 0], [.int .i64 x33k, .string x33t, .int .i64 x33l, .int .i64 x33c, .slice a34 x33s.length cap35]] [.mk 11 x9.text x9.line x9.col [], .mk x33k x33t x33l x33c x33s] rfl (by simp) rfl (fun j n c hj hc => by
          have hjl := (List.getElem?_eq_some_iff.1 hc).1
          simp only [List.length_cons, List.length_nil] at hjl
          obtain rfl | rfl : j = 0 ∨ j = 1 := by omega
          · simp at hj hc
            subst hj hc
            exact ⟨_, _, _, _, _, _, _, rfl, rfl, .inr rfl⟩
          · simp at hj hc
            subst hj hc
            exact ⟨_, _, _, _, _, _, _, rfl, rfl, .inl (by simp)⟩))
        clear H30
        go_ret
        rw [Hsp31.out]
        exact ⟨H36.out.grown, H36.out.ps, _, rfl, _, _, rfl, H36.out.hand (by simp [nodeT])⟩

end Go.Proofs.YthknljeffpbbmaaGreatDoor
