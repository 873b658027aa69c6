/-
  The walk of the parser's list: what stands between commas.
-/
import Derived.Test.YthknljeffpbbmaaGreatDoorMParseE
import Derived.Test.YthknljeffpbbmaaGreatDoorMParseBal
import Derived.Test.YthknljeffpbbmaaGreatDoorMSame0
import Derived.Deep.LoopGhost
namespace Go.Proofs.YthknljeffpbbmaaGreatDoor
open Go Go.RowKit

/-- A node, or a row of nodes, in memory that was made since block number B. -/
def VNode (B : Nat) (x : Nd) (w : World) (v : Value) : Prop := NodeV (fun b => B ≤ b) w x v
def VRow (B : Nat) (l : List Nd) (w : World) (v : Value) : Prop := ∃ a cap, v = .slice a l.length cap ∧ RowAt (fun b => B ≤ b) w a (nodesD l)
/-- A row of its own, which may be appended to. -/
def VOwn (B : Nat) (l : List Nd) (w : World) (v : Value) : Prop := OwnD (fun b => B ≤ b) w B 83 5 v (nodesD l) ∧ l.length ≤ 200000
theorem VOwn.row {B : Nat} {l : List Nd} {w : World} {v : Value} (h : VOwn B l w v) : VRow B l w v := by
  obtain ⟨a, cap, hva, hrow⟩ := h.1.rowAt (fun g hg => (h.1.block_lt hg).1)
  rw [nodesD_len] at hva
  exact ⟨a, cap, hva, hrow⟩
theorem PP.weaker {α : Type} {bp : Nat} {en : Int × Int} {val val' : α → World → Value → Prop} {r : PR α} {w w' : World} {e : Ending} (h : PP bp en val r w e w') (hv : ∀ x v, val x w' v → val' x w' v) : PP bp en val' r w e w' := by
  refine ⟨h.1, ?_⟩
  have h2 := h.2
  cases r with
  | ok x ts dp => obtain ⟨h3, v, h4, h5⟩ := h2; exact ⟨h3, v, h4, hv x v h5⟩
  | err a l c => exact h2
  | out => trivial
/-- A method of the parser, without arguments, does what the plain words say. -/
def Does {α : Type} (f bp : Nat) (en : Int × Int) (val : Nat → α → World → Value → Prop) (m : PM α) : Prop :=
  ∀ (w : World) (ts : List Tok) (dp : Int), PS w bp en ts dp → 0 ≤ dp → dp ≤ 1000 → m ts dp ≠ .out → Calls Tryz.prog f #[ptr bp] w (PP bp en (val w.heap.size) (m ts dp) w)

theorem PS.lt {w : World} {bp : Nat} {en : Int × Int} {ts : List Tok} {dp : Int} (h : PS w bp en ts dp) : bp < w.heap.size := let ⟨_, _, h1, _⟩ := h; (Array.getElem?_eq_some_iff.1 h1).1
theorem PS.few {w : World} {bp : Nat} {en : Int × Int} {ts : List Tok} {dp : Int} (h : PS w bp en ts dp) : ts.length ≤ 70000 := let ⟨_, _, _, h2, _⟩ := h; h2.2
theorem PS.own {w w' : World} {bp : Nat} {en : Int × Int} {ts : List Tok} {dp : Int} {v : Value} (h : PS w bp en ts dp) (k : w.grownBy w' v.ownBlock) (hv : ∀ g, v.ownBlock = some g → bp < g) : PS w' bp en ts dp :=
  h.kept (k.block bp h.lt (fun e => by have := hv bp e.symm; omega)) (fun b hb hl => k.block b hl (fun e => by have := hv b e.symm; omega)) k.size

set_option maxRecDepth 100000 in
set_option maxHeartbeats 4000000 in
theorem list_own (bp : Nat) (tt : ByteArray) (f : Nat) (fa lb : Array Value) (one : PM (List Nd)) (en : Int × Int) (ts : List Tok) (dp : Int) (w : World) (hd0 : 0 ≤ dp) (hd1 : dp ≤ 1000) (hp : PS w bp en ts dp)
    (henter : ∀ (args : Array Value) (w : World), (callFunc f args).run Tryz.prog w = .ok (.enter f args) w)
    (hone : ∀ (w1 : World) (ts1 : List Tok), w.grownBy w1 (some bp) → PS w1 bp en ts1 dp → one ts1 dp ≠ .out → Calls Tryz.prog f (fa ++ lb) w1 (PP bp en (VRow w1.heap.size) (one ts1 dp) w1))
    (hinc : Inc 0 one) (hlen : ∀ ts d l ts' d', one ts d = .ok l ts' d' → l ≠ [] ∧ l.length ≤ 2) (hr : pList en tt.data.toList one ts dp ≠ .out) :
    Calls Tryz.prog 173 #[ptr bp, .string tt, .func (.func f) fa lb] w (PP bp en (VOwn w.heap.size) (pList en tt.data.toList one ts dp) w) := by
  obtain ⟨i0, hi, hz0, hz1, hz2⟩ := info_parts infoNode
  have hfew := hp.few
  have hbpl := hp.lt
  have Hp := Lib.hid hp
  have Hone := Lib.hid hone
  have Hlen := Lib.hid hlen
  have Hr := Lib.hid hr
  clear hp hone hlen hr
  unfold ptr
  go_enter Tryz.func173, Tryz.ntmps173
  go_wp2_with fail
  go_loopg [7] (ts.length + 1) (fun g v wr => ∃ (acc : List Nd) (ts1 : List Tok) (v' : Value), v = v' ∧ g ≤ ts.length + 1 ∧ acc.length + 2 * g ≤ 2 * (ts.length + 1) ∧ Hid (pList en tt.data.toList one ts dp = pListGo en tt.data.toList one g acc ts1 dp) ∧ Hid (w.grownBy wr (some bp) ∧ PS wr bp en ts1 dp) ∧ Hid (OwnD (fun b => w.heap.size ≤ b) wr w.heap.size 83 5 v' (nodesD acc)))
  case atStart => exact ⟨[], ts, _, rfl, Nat.le_refl _, by simp, Lib.hid rfl, Lib.hid ⟨grownBy_refl _ _, Hp.out⟩, Lib.hid (OwnD.nil _ _ _ _ _)⟩
  case round =>
    obtain ⟨acc, ts1, v, hv, hg1, hal, hspec, hst, hown⟩ := hrel
    have hv := hv.symm
    subst hv
    cases gk with
    | zero => exact absurd hspec.out Hr.out
    | succ g =>
      have Hs := Lib.hid (sign_any bp 0 tt en ts1 dp wr (by omega) hst.out.2)
      unfold ptr at Hs
      cases hb : isSign en ts1 0 tt.data.toList
      · rw [hb] at Hs
        have Hsp : Hid (pList en tt.data.toList one ts dp = PM.bind (if acc = [] then PM.pure () else pEat en [44]) (fun _ => PM.bind one fun l => pListGo en tt.data.toList one g (acc ++ l)) ts1 dp) := Lib.hid (by rw [hspec.out, pListGo, pLook, hb]; rfl)
        clear hb hspec
        go_wp2_with fail
        refine Hs.out.mono ?_
        rintro e w1 ⟨rfl, hb1⟩
        have Hst1 : Hid (w.grownBy w1 (some bp) ∧ PS w1 bp en ts1 dp) := Lib.hid ⟨grownBy_trans hst.out.1 (grownBy_below hb1), hst.out.2.grown hb1⟩
        have Hown1 := Lib.hid (hown.out.below hb1)
        clear hb1 Hs hst hown
        obtain ⟨a, cap, hva, -⟩ := Hown1.out.rowAt (fun g hg => (Hown1.out.block_lt hg).1)
        rw [nodesD_len] at hva
        subst hva
        cases acc with
        | nil =>
          have Hsp2 : Hid (pList en tt.data.toList one ts dp = PM.bind one (fun l => pListGo en tt.data.toList one g ([] ++ l)) ts1 dp) := Lib.hid (by rw [Hsp.out, if_pos rfl]; rfl)
          clear Hsp
          have hne : one ts1 dp ≠ .out := fun h => Hr.out (by rw [Hsp2.out, bind_out h])
          have Ho := Lib.hid (Hone.out w1 ts1 Hst1.out.1 Hst1.out.2 hne)
          have hws : w.heap.size ≤ w1.heap.size := Hst1.out.1.size
          clear hne
          go_wp2_with fail
          refine Ho.out.mono ?_
          rintro e w3 ⟨hg3, hq⟩
          have Hg3 := Lib.hid (And.intro (grownBy_trans Hst1.out.1 hg3) hg3)
          clear hg3 Ho
          cases hm : one ts1 dp with
          | out => exact absurd (by rw [Hsp2.out, bind_out hm]) Hr.out
          | err x l c =>
            rw [hm] at hq
            obtain rfl := hq
            have Hf : Hid (pList en tt.data.toList one ts dp = .err x l c) := Lib.hid (by rw [Hsp2.out, bind_err hm])
            clear hm
            refine ⟨rfl, ?_⟩
            rw [Hf.out]
            exact ⟨Hg3.out.1, rfl⟩
          | ok l ts3 d3 =>
            have hd3 : d3 = dp := by have := hinc _ _ _ _ _ hm; omega
            subst hd3
            obtain ⟨hl0, hl2⟩ := Hlen.out _ _ _ _ _ hm
            rw [hm] at hq
            obtain ⟨hps3, v, rfl, a2, cap2, rfl, hrow⟩ := hq
            have ha2 : ∃ b2 off2, a2 = some ⟨b2, off2, none⟩ := by
              cases l with
              | nil => exact absurd rfl hl0
              | cons n t =>
                obtain ⟨b2, off2, cs, ha, -⟩ := hrow 0 (nodeD n) (by rw [nodesD_map]; rfl)
                exact ⟨b2, off2, ha⟩
            obtain ⟨b2, off2, rfl⟩ := ha2
            have Hsp4 : Hid (pList en tt.data.toList one ts d3 = pListGo en tt.data.toList one g ([] ++ l) ts3 d3) := Lib.hid (by rw [Hsp2.out, bind_ok hm])
            have Hown3 : Hid (OwnD (fun b => w.heap.size ≤ b) w3 w.heap.size 83 5 (.slice a 0 cap) (nodesD [])) := Lib.hid (Hown1.out.keep (fun b hb hF => Hg3.out.2.block b hb (by
              intro e; cases e
              rcases hF with hF | hF
              · omega
              · have := (Hown1.out.block_lt hF).1; omega)) Hg3.out.2.size)
            have Hrow3 : Hid (RowAt (fun b => w.heap.size ≤ b ∧ (Value.slice a 0 cap).ownBlock ≠ some b) w3 (some ⟨b2, off2, none⟩) (nodesD l)) := Lib.hid (hrow.wider (fun b hb _ => ⟨by omega, fun e => by have := (Hown1.out.block_lt e).2; omega⟩))
            have Hps3 := Lib.hid hps3
            clear hm hrow hps3 hl0
            go_wp2_with (at_builtin; refine wpList_append_row rfl _ _ 23 rfl w.heap.size 83 i0 _ 5 64 Tryz.underlying23 hi hz0 hz1 hz2 rfl (by decide) (.slice a 0 cap) (fun b => w.heap.size ≤ b) (nodesD []) rfl Hown3.out b2 off2 cap2 (nodesD l) ?_ Hrow3.out (nodesD_all nodeD_len l) (nodesD_all nodeD_plain l) ?_ ?_ ?_ ?_)
            · rw [nodesD_len]; rfl
            · rw [nodesD_len, nodesD_len]; unfold maxLen; simp only [List.length_nil] at hal ⊢; omega
            · rw [nodesD_len, nodesD_len]; simp only [List.length_nil] at hal ⊢; omega
            · exact Hg3.out.1.size
            intro v4 w4 hown4 hgrow4 _
            have Hst4 : Hid (w.grownBy w4 (some bp) ∧ PS w4 bp en ts3 d3) := Lib.hid ⟨grownBy_own Hg3.out.1 hgrow4 (fun g hg => (Hown3.out.block_lt hg).1), Hps3.out.own hgrow4 (fun g hg => by have := (Hown3.out.block_lt hg).1; omega)⟩
            have Hown4 : Hid (OwnD (fun b => w.heap.size ≤ b) w4 w.heap.size 83 5 v4 (nodesD ([] ++ l))) := Lib.hid (by rw [nodesD_append]; exact hown4)
            clear hown4 hgrow4 Hown3 Hrow3 Hps3 Hg3
            go_wp2_with fail
            go_roundg g
            case measure => omega
            case rel => exact ⟨[] ++ l, ts3, _, rfl, by omega, by simp only [List.length_append, List.length_nil] at hal ⊢; omega, Hsp4, Hst4, Hown4⟩
        | cons x0 acc0 =>
          have hne0 : pEat en [44] ts1 dp ≠ .out := fun h => Hr.out (by rw [Hsp.out, if_neg (by simp), bind_out h])
          have He := Lib.hid (eat_any bp ⟨#[44]⟩ en ts1 dp w1 Hst1.out.2 hne0)
          unfold ptr at He
          clear hne0
          go_wp2_with fail
          refine He.out.mono ?_
          rintro e w2 ⟨hg2, hq⟩
          have Hg2 := Lib.hid (And.intro (grownBy_trans Hst1.out.1 hg2) hg2)
          clear hg2 He
          cases hm : pEat en [44] ts1 dp with
          | out => exact absurd (by rw [Hsp.out, if_neg (by simp), bind_out hm]) Hr.out
          | err x l c =>
            rw [hm] at hq
            obtain rfl := hq
            have Hf : Hid (pList en tt.data.toList one ts dp = .err x l c) := Lib.hid (by rw [Hsp.out, if_neg (by simp), bind_err hm])
            clear hm
            refine ⟨rfl, ?_⟩
            rw [Hf.out]
            exact ⟨Hg2.out.1, rfl⟩
          | ok u ts2 d2 =>
            have hd2 : d2 = dp := by have := Inc.eat _ _ _ _ _ _ hm; omega
            subst hd2
            rw [hm] at hq
            obtain ⟨hps2, v, rfl, -⟩ := hq
            have Hst2 := Lib.hid (And.intro Hg2.out.1 hps2)
            have Hown2 : Hid (OwnD (fun b => w.heap.size ≤ b) w2 w.heap.size 83 5 (.slice a (x0 :: acc0).length cap) (nodesD (x0 :: acc0))) := Lib.hid (Hown1.out.keep (fun b hb hF => Hg2.out.2.block b hb (by
              intro e; cases e
              rcases hF with hF | hF
              · omega
              · have := (Hown1.out.block_lt hF).1; omega)) Hg2.out.2.size)
            have Hsp2 : Hid (pList en tt.data.toList one ts d2 = PM.bind one (fun l => pListGo en tt.data.toList one g ((x0 :: acc0) ++ l)) ts2 d2) := Lib.hid (by rw [Hsp.out, if_neg (by simp), bind_ok hm])
            clear hm hps2 Hst1 Hown1 Hsp Hg2
            have hne : one ts2 d2 ≠ .out := fun h => Hr.out (by rw [Hsp2.out, bind_out h])
            have Ho := Lib.hid (Hone.out w2 ts2 Hst2.out.1 Hst2.out.2 hne)
            have hws : w.heap.size ≤ w2.heap.size := Hst2.out.1.size
            clear hne
            go_wp2_with fail
            refine Ho.out.mono ?_
            rintro e w3 ⟨hg3, hq⟩
            have Hg3 := Lib.hid (And.intro (grownBy_trans Hst2.out.1 hg3) hg3)
            clear hg3 Ho
            cases hm : one ts2 d2 with
            | out => exact absurd (by rw [Hsp2.out, bind_out hm]) Hr.out
            | err x l c =>
              rw [hm] at hq
              obtain rfl := hq
              have Hf : Hid (pList en tt.data.toList one ts d2 = .err x l c) := Lib.hid (by rw [Hsp2.out, bind_err hm])
              clear hm
              refine ⟨rfl, ?_⟩
              rw [Hf.out]
              exact ⟨Hg3.out.1, rfl⟩
            | ok l ts3 d3 =>
              have hd3 : d3 = d2 := by have := hinc _ _ _ _ _ hm; omega
              subst hd3
              obtain ⟨hl0, hl2⟩ := Hlen.out _ _ _ _ _ hm
              rw [hm] at hq
              obtain ⟨hps3, v, rfl, a2, cap2, rfl, hrow⟩ := hq
              have ha2 : ∃ b2 off2, a2 = some ⟨b2, off2, none⟩ := by
                cases l with
                | nil => exact absurd rfl hl0
                | cons n t =>
                  obtain ⟨b2, off2, cs, ha, -⟩ := hrow 0 (nodeD n) (by rw [nodesD_map]; rfl)
                  exact ⟨b2, off2, ha⟩
              obtain ⟨b2, off2, rfl⟩ := ha2
              have Hsp4 : Hid (pList en tt.data.toList one ts d3 = pListGo en tt.data.toList one g ((x0 :: acc0) ++ l) ts3 d3) := Lib.hid (by rw [Hsp2.out, bind_ok hm])
              have Hown3 : Hid (OwnD (fun b => w.heap.size ≤ b) w3 w.heap.size 83 5 (.slice a (x0 :: acc0).length cap) (nodesD (x0 :: acc0))) := Lib.hid (Hown2.out.keep (fun b hb hF => Hg3.out.2.block b hb (by
                intro e; cases e
                rcases hF with hF | hF
                · omega
                · have := (Hown2.out.block_lt hF).1; omega)) Hg3.out.2.size)
              have Hrow3 : Hid (RowAt (fun b => w.heap.size ≤ b ∧ (Value.slice a (x0 :: acc0).length cap).ownBlock ≠ some b) w3 (some ⟨b2, off2, none⟩) (nodesD l)) := Lib.hid (hrow.wider (fun b hb _ => ⟨by omega, fun e => by have := (Hown2.out.block_lt e).2; omega⟩))
              have Hps3 := Lib.hid hps3
              clear hm hrow hps3 hl0
              go_wp2_with (at_builtin; refine wpList_append_row rfl _ _ 23 rfl w.heap.size 83 i0 _ 5 64 Tryz.underlying23 hi hz0 hz1 hz2 rfl (by decide) (.slice a (x0 :: acc0).length cap) (fun b => w.heap.size ≤ b) (nodesD (x0 :: acc0)) rfl Hown3.out b2 off2 cap2 (nodesD l) ?_ Hrow3.out (nodesD_all nodeD_len l) (nodesD_all nodeD_plain l) ?_ ?_ ?_ ?_)
              · rw [nodesD_len]; rfl
              · rw [nodesD_len, nodesD_len]; unfold maxLen; simp only [List.length_cons] at hal ⊢; omega
              · rw [nodesD_len, nodesD_len]; simp only [List.length_cons] at hal ⊢; omega
              · exact Hg3.out.1.size
              intro v4 w4 hown4 hgrow4 _
              have Hst4 : Hid (w.grownBy w4 (some bp) ∧ PS w4 bp en ts3 d3) := Lib.hid ⟨grownBy_own Hg3.out.1 hgrow4 (fun g hg => (Hown3.out.block_lt hg).1), Hps3.out.own hgrow4 (fun g hg => by have := (Hown3.out.block_lt hg).1; omega)⟩
              have Hown4 : Hid (OwnD (fun b => w.heap.size ≤ b) w4 w.heap.size 83 5 v4 (nodesD ((x0 :: acc0) ++ l))) := Lib.hid (by rw [nodesD_append]; exact hown4)
              clear hown4 hgrow4 Hown3 Hrow3 Hps3 Hg3
              go_wp2_with fail
              go_roundg g
              case measure => omega
              case rel => exact ⟨(x0 :: acc0) ++ l, ts3, _, rfl, by omega, by simp only [List.length_append, List.length_cons] at hal ⊢; omega, Hsp4, Hst4, Hown4⟩
      · rw [hb] at Hs
        have Hsp : Hid (pList en tt.data.toList one ts dp = .ok acc ts1 dp) := Lib.hid (by rw [hspec.out, pListGo, pLook, hb]; rfl)
        clear hb hspec
        go_wp2_with fail
        refine Hs.out.mono ?_
        rintro e w1 ⟨rfl, hb1⟩
        have Hst1 : Hid (w.grownBy w1 (some bp) ∧ PS w1 bp en ts1 dp) := Lib.hid ⟨grownBy_trans hst.out.1 (grownBy_below hb1), hst.out.2.grown hb1⟩
        have Hown1 := Lib.hid (hown.out.below hb1)
        clear hb1 Hs hst hown
        go_wp2_with fail
        go_ret
        rw [Hsp.out]
        exact ⟨Hst1.out.1, Hst1.out.2, _, rfl, Hown1.out, by omega⟩
theorem list_any (bp : Nat) (tt : ByteArray) (f : Nat) (fa lb : Array Value) (one : PM (List Nd)) (en : Int × Int) (ts : List Tok) (dp : Int) (w : World) (hd0 : 0 ≤ dp) (hd1 : dp ≤ 1000) (hp : PS w bp en ts dp)
    (henter : ∀ (args : Array Value) (w : World), (callFunc f args).run Tryz.prog w = .ok (.enter f args) w)
    (hone : ∀ (w1 : World) (ts1 : List Tok), w.grownBy w1 (some bp) → PS w1 bp en ts1 dp → one ts1 dp ≠ .out → Calls Tryz.prog f (fa ++ lb) w1 (PP bp en (VRow w1.heap.size) (one ts1 dp) w1))
    (hinc : Inc 0 one) (hlen : ∀ ts d l ts' d', one ts d = .ok l ts' d' → l ≠ [] ∧ l.length ≤ 2) (hr : pList en tt.data.toList one ts dp ≠ .out) :
    Calls Tryz.prog 173 #[ptr bp, .string tt, .func (.func f) fa lb] w (PP bp en (VRow w.heap.size) (pList en tt.data.toList one ts dp) w) :=
  (list_own bp tt f fa lb one en ts dp w hd0 hd1 hp henter hone hinc hlen hr).mono fun _ _ h => PP.weaker h fun _ _ hv => hv.row
end Go.Proofs.YthknljeffpbbmaaGreatDoor
