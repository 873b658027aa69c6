/-
  The walk of the lexer's All: the tokens of a text.
  The parser's state in memory; the walks of its small methods.
  The walks of the parser's small methods: what the next tokens say; take, eat, open, close; a break.
  The walks of the parser's reserved, isType, name.
  The walks of the parser's fail, take, eat, open, close; of node.
  The walks of the parser's eat, open, close; of node.
-/
import Derived.RegionTactic
import Derived.Deep.RegionWith
import Derived.Test.YthknljeffpbbmaaGreatDoorMLexF
import Derived.Test.YthknljeffpbbmaaGreatDoorMSame0
import Derived.Test.YthknljeffpbbmaaGreatDoorShelf
namespace Go.Proofs.YthknljeffpbbmaaGreatDoor
open Go Go.RowKit

def tokD (t : Tok) : List Dat := [.one (.int .i64 t.kind), .one (.string t.text), .one (.int .i64 t.line), .one (.int .i64 t.col)]
def tokC (t : Tok) : List Value := [.int .i64 t.kind, .string t.text, .int .i64 t.line, .int .i64 t.col]
theorem tokAgg (F : Nat → Prop) (w : World) (t : Tok) : AggAt F w (tokD t) (tokC t) := .cons (.one _) (.cons (.one _) (.cons (.one _) (.cons (.one _) .nil)))
theorem infoTok : (Tryz.prog.info? 157).map (fun i => (i.zero, i.size, i.bytes)) = some (some (.agg #[.int .i64 0, .string ByteArray.empty, .int .i64 0, .int .i64 0]), 4, 40) := by kernel_rfl

/-- What the lexer hands back: the tokens, in memory of its own; or the error's number and its place. -/
def PLex (r : Except (Int × Int × Int) (List Tok)) (w : World) (e : Ending) (w' : World) : Prop :=
  Below w.heap.size w w' ∧ match r with
    | .ok ts => ∃ a cap, e = .returned (.tuple #[.slice a ts.length cap, .int .i64 0, .agg #[.int .i64 0, .int .i64 0]]) ∧ (ts.length ≤ cap ∧ cap ≤ maxLen) ∧ RowAt (fun b => w.heap.size ≤ b) w' a (ts.map tokD)
    | .error x => e = .returned (.tuple #[.slice none 0 0, .int .i64 x.1, .agg #[.int .i64 x.2.1, .int .i64 x.2.2]])

def strSize (v : Value) : Nat := match v with | .string s => s.size | _ => 0
theorem below_of_drew {B : Nat} {w w' : World} (h : Below B w.drew w') : Below B w w' := ⟨h.os, h.tape, h.output, h.size, h.block⟩
theorem lit_news (w : World) (cs : List Value) (t : TypeId) : ∀ (j : Nat) u, cs[j]? = some u → (w.alloc (.cells cs.toArray t)).cell? ((⟨w.heap.size, 0, none⟩ : Addr).add j) = some u := by
  intro j u hj
  have h : ((⟨w.heap.size, 0, none⟩ : Addr).add j) = ⟨w.heap.size, j, none⟩ := by unfold Addr.add; split <;> simp_all
  rw [h]
  unfold World.cell?
  rw [heap_alloc_new]
  simpa using hj
set_option maxRecDepth 100000 in
set_option maxHeartbeats 4000000 in
theorem all_any (s : ByteArray) (w : World) (hs : s.size ≤ 9223372036854775807) (hw : StdE w) :
    Calls Tryz.prog 100 #[.string s] w (PLex (lexL s.data.toList) w) := by
  obtain ⟨i0, hi, hz0, hz1, hz2⟩ := info_parts infoTok
  by_cases hbig : (65536 : Int) < s.size
  · have Hr : Hid (lexL s.data.toList = .error (6, 1, 1)) := Lib.hid (by unfold lexL; rw [if_pos (by rw [len_data]; omega)])
    go_enter Tryz.func100, Tryz.ntmps100
    go_wp2_with fail
    go_region
    all_goals
      go_wp2_with fail
      refine bodyPost_ret (v := .tuple #[.slice none 0 0, .int .i64 6, .agg #[.int .i64 1, .int .i64 1]]) (by simp [results, Tryz.results100, go_sem]) rfl ?_
      rw [Hr.out]
      first | exact ⟨((Below.refl _ w).alloc (Nat.le_refl _) _).alloc (by simp) _, rfl⟩ | exact ⟨(((Below.refl _ w).alloc (Nat.le_refl _) _).alloc (by simp) _).drew, rfl⟩
  · have Hr : Hid (lexL s.data.toList = tokensL (s.data.toList.length + 1) (1, 1) s.data.toList) := Lib.hid (by unfold lexL; rw [if_neg (by rw [len_data]; omega)])
    go_enter Tryz.func100, Tryz.ntmps100
    go_wp2_with fail
    obtain ⟨W1, hW1⟩ : ∃ W1, W1 = (w.alloc (.cells #[.int .i64 0, .int .i64 0] 25)).alloc (.cells #[.int .i64 1, .int .i64 1] 25) := ⟨_, rfl⟩
    rw [← hW1]
    have hb1 : Below w.heap.size w W1 := by rw [hW1]; exact ((Below.refl _ w).alloc (Nat.le_refl _) _).alloc (by simp) _
    have hr1 : W1.heap[w.heap.size]? = some (.cells #[.int .i64 0, .int .i64 0] 25 (0, 0)) := by rw [hW1]; exact (Below.heap_alloc _ _ _ (by simp)).trans (heap_alloc_new w _)
    have hp1 : W1.heap[w.heap.size + 1]? = some (.cells #[.int .i64 1, .int .i64 1] 25 (0, 0)) := by rw [hW1]; have := heap_alloc_new (w.alloc (.cells #[.int .i64 0, .int .i64 0] 25)) (.cells #[.int .i64 1, .int .i64 1] 25); simpa using this
    have Hb1 := Lib.hid (And.intro hb1 (And.intro hr1 hp1))
    clear hW1 hb1 hr1 hp1
    go_loopw [6, 7] (fun v sv wr => ∃ (acc : List Tok) (s' : ByteArray) (ln cl : Int) (v' : Value), v = v' ∧ sv = .string s' ∧ s'.size ≤ 65536 ∧ 0 ≤ ln ∧ 0 ≤ cl ∧ ln + s'.size ≤ 65537 ∧ cl + s'.size ≤ 65537 ∧ acc.length + s'.size ≤ 65536 ∧
      Hid (LexAt s.data.toList (ln, cl) s'.data.toList acc) ∧ Hid (OwnD (fun b => w.heap.size + 2 ≤ b) wr (w.heap.size + 2) 157 4 v' (acc.map tokD)) ∧ Hid (Below w.heap.size w wr ∧ wr.heap[w.heap.size]? = some (.cells #[.int .i64 0, .int .i64 0] 25 (0, 0)) ∧ wr.heap[w.heap.size + 1]? = some (.cells #[.int .i64 ln, .int .i64 cl] 25 (0, 0)))) (fun _ sv _ => strSize sv)
    case atStart => exact ⟨[], s, 1, 1, _, rfl, rfl, by omega, by omega, by omega, by omega, by omega, by simp; omega, Lib.hid (LexAt.start _), Lib.hid (OwnD.nil _ _ _ _ _), Hb1⟩
    case round =>
      obtain ⟨acc, s', ln, cl, v, hv, rfl, hs', hl0, hc0, hl1, hc1, hacc, hat, hown, hwr⟩ := hrel
      have hv := hv.symm
      subst hv
      by_cases h0 : 0 < s'.size
      · have hne : s'.toList.isEmpty = false := by
          rw [Lib.toList_data]
          cases hl : s'.data.toList with
          | nil => have := len_data s'; rw [hl] at this; simp at this; omega
          | cons => rfl
        obtain ⟨hb, hr, hp⟩ := hwr.out
        have hnx := next_any s' wr hs' h0 (hw.below hb)
        have Hnx := Lib.hid hnx
        clear hnx
        have hrl : s'.data.toList ≠ [] := by intro h; have := len_data s'; rw [h] at this; simp at this; omega
        have Hrl := Lib.hid hrl
        clear hrl hb hr hp
        go_wp2_with fail
        refine Hnx.out.mono ?_
        rintro e w2 ⟨hb2, hq⟩
        have hb02 : Below w.heap.size w w2 := hwr.out.1.trans (hb2.mono hwr.out.1.size)
        obtain ⟨hrl, q0, q1, z0, z1⟩ := two_facts ((hb2.block _ (Array.getElem?_eq_some_iff.1 hwr.out.2.1).1).trans hwr.out.2.1)
        obtain ⟨hpl, p0, p1, y0, y1⟩ := two_facts ((hb2.block _ (Array.getElem?_eq_some_iff.1 hwr.out.2.2).1).trans hwr.out.2.2)
        have Hb2 := Lib.hid (And.intro hb02 hb2)
        clear hb02 hb2 Hnx
        cases hnl : nextL s'.data.toList with
        | error n =>
          have Hf := Lib.hid (hat.out.fail Hrl.out hnl)
          have hn := nextL_err hnl
          rw [hnl] at hq
          obtain rfl := hq
          clear hnl
          rcases hn with rfl | rfl
          · go_wp2_with fail
            go_region
            all_goals
              go_wp2_with fail
              refine bodyPost_ret (v := .tuple #[.slice none 0 0, .int .i64 2, .agg #[.int .i64 ln, .int .i64 cl]]) (by simp [results, Tryz.results100, go_sem, q0, q1, hrl]) rfl ?_
              rw [Hr.out, Hf.out]
              have hbx := (Hb2.out.1.setCell (p := ⟨w.heap.size, 0, none⟩) (Nat.le_refl _) (.int .i64 ln)).setCell (p := ⟨w.heap.size, 1, none⟩) (Nat.le_refl _) (.int .i64 cl)
              first | exact ⟨hbx.alloc hbx.size _, rfl⟩ | exact ⟨(hbx.alloc hbx.size _).drew, rfl⟩
          · go_wp2_with fail
            go_region
            all_goals
              go_wp2_with fail
              refine bodyPost_ret (v := .tuple #[.slice none 0 0, .int .i64 3, .agg #[.int .i64 ln, .int .i64 cl]]) (by simp [results, Tryz.results100, go_sem, q0, q1, hrl]) rfl ?_
              rw [Hr.out, Hf.out]
              have hbx := (Hb2.out.1.setCell (p := ⟨w.heap.size, 0, none⟩) (Nat.le_refl _) (.int .i64 ln)).setCell (p := ⟨w.heap.size, 1, none⟩) (Nat.le_refl _) (.int .i64 cl)
              first | exact ⟨hbx.alloc hbx.size _, rfl⟩ | exact ⟨(hbx.alloc hbx.size _).drew, rfl⟩
        | ok x =>
          have hlen := nextL_len hnl
          have Hnext := Lib.hid (hat.out.next Hrl.out hnl)
          rw [hnl] at hq
          obtain ⟨t, htd, rfl⟩ := hq
          have Htd := Lib.hid htd
          obtain ⟨k, ts, n⟩ := x
          simp only at hlen Hnext Htd ⊢
          rw [len_data] at hlen
          clear hnl hat htd
          obtain ⟨W2, hW2⟩ : ∃ W2, W2 = w2.alloc (.cells #[.int .i64 k, .string t, .int .i64 ln, .int .i64 cl] 157) := ⟨_, rfl⟩
          have h22 : Below w2.heap.size w2 W2 := by rw [hW2]; exact (Below.refl _ w2).alloc (Nat.le_refl _) _
          have hwr2 : Below wr.heap.size wr W2 := Hb2.out.2.trans (h22.mono Hb2.out.2.size)
          have hz2' : W2.heap.size = w2.heap.size + 1 := by rw [hW2]; simp
          by_cases hk : 0 < k
          · have hown2 := (hown.out.below hwr2).below ((Below.refl _ W2).alloc (Nat.le_refl _) (.cells #[.int .i64 k, .string t, .int .i64 ln, .int .i64 cl] 157))
            have hnews := lit_news W2 (tokC ⟨k, t, ln, cl⟩) 157
            rw [hW2] at hown2 hnews
            rw [show (w2.alloc (.cells #[.int .i64 k, .string t, .int .i64 ln, .int .i64 cl] 157)).heap.size = w2.heap.size + 1 from by simp] at hnews
            have Hown2 := Lib.hid hown2
            have Hnews := Lib.hid hnews
            have HW2 := Lib.hid (And.intro hW2 (And.intro hwr2 hz2'))
            clear hown2 hnews hW2 hwr2 hz2' h22 hown
            go_wp2_with (at_builtin; refine wpList_append_dat rfl _ _ 146 rfl (w.heap.size + 2) 157 i0 _ 4 40 Tryz.underlying146 hi hz0 hz1 hz2 rfl (by decide) v (fun b => w.heap.size + 2 ≤ b) (acc.map tokD) rfl Hown2.out ⟨w2.heap.size + 1, 0, none⟩ 1 (tokD ⟨k, t, ln, cl⟩) (tokC ⟨k, t, ln, cl⟩) rfl rfl Hnews.out ?_ (tokAgg _ _ _) ?_ ?_ ?_ ?_)
            · simp [tokC, Value.oneCell']
            · rw [List.length_map]; unfold maxLen; omega
            · rw [List.length_map]; omega
            · have := Hb2.out.1.size; simp; omega
            intro v3 w3 hown3 hgrow3 hfresh3
            have hb3 : Below w.heap.size w w3 := (((Hb2.out.1.alloc Hb2.out.1.size _).alloc (by have := Hb2.out.1.size; simp; omega) _)).grown hgrow3 (by have := Hb2.out.1.size; simp; omega) (fun g hg => by have := (Hown2.out.block_lt hg).1; omega)
            have keep3 : ∀ j, j < w2.heap.size → j < w.heap.size + 2 → w3.heap[j]? = wr.heap[j]? := fun j hj hj2 => by
              rw [hgrow3.block j (by simp; omega) (fun e => by have := (Hown2.out.block_lt e.symm).1; omega), Below.heap_alloc _ _ _ (by simp; omega), Below.heap_alloc _ _ _ hj, Hb2.out.2.block j (by have := hwr.out.1.size; have := (Array.getElem?_eq_some_iff.1 hwr.out.2.2).1; omega)]
            have HW3 : Hid (Below w.heap.size w w3 ∧ w3.heap[w.heap.size]? = some (.cells #[.int .i64 0, .int .i64 0] 25 (0, 0)) ∧ w3.heap[w.heap.size + 1]? = some (.cells #[.int .i64 ln, .int .i64 cl] 25 (0, 0))) :=
              Lib.hid ⟨hb3, (keep3 _ hrl (by omega)).trans hwr.out.2.1, (keep3 _ hpl (by omega)).trans hwr.out.2.2⟩
            have Hown3 : Hid (OwnD (fun b => w.heap.size + 2 ≤ b) w3 (w.heap.size + 2) 157 4 v3 ((acc ++ [(⟨k, t, ln, cl⟩ : Tok)]).map tokD)) := Lib.hid (by rw [List.map_append]; exact hown3)
            have Hnx : Hid (LexAt s.data.toList (passL (ln, cl) (s'.data.toList.take n)) (s'.data.toList.drop n) (acc ++ [(⟨k, t, ln, cl⟩ : Tok)])) := Lib.hid (by
              have h := Hnext.out
              rw [if_pos hk] at h
              rw [show t = ⟨ts.toArray⟩ from bytes_ext (by rw [Htd.out])]
              exact h)
            clear hown3 hgrow3 hfresh3 hb3 keep3 q0 q1 z0 z1 p0 p1 y0 y1 Hnext Hown2 Hnews HW2 Hb2 hwr hrl hpl
            obtain ⟨hpl3, p0, p1, y0, y1⟩ := two_facts HW3.out.2.2
            have hn1 : (n : Int) ≤ s'.size := by omega
            have Hx1 : Hid ((s'.extract 0 n).data.toList = s'.data.toList.take n) := Lib.hid (by rw [Lib.extract_data]; simp)
            have Hx2 : Hid ((s'.extract n s'.size).data.toList = s'.data.toList.drop n) := Lib.hid (drop_data s' n)
            have hxs : (s'.extract 0 n).size = n := by rw [ByteArray.size_extract]; omega
            have hxs2 : (s'.extract n s'.size).size = s'.size - n := by rw [ByteArray.size_extract]; omega
            have hxl : (s'.data.toList.take n).length = n := by rw [List.length_take, len_data]; omega
            have hbd := passL_bounds (l := s'.data.toList.take n) (m := 65537) (r := s'.size - n) hl0 hc0 (by rw [hxl]; omega) (by rw [hxl]; omega) (by rw [hxl]; omega)
            have Hbd := Lib.hid (And.intro hbd hxs2)
            have hxs' : (s'.extract 0 n).size ≤ 65536 := by omega
            clear hxs hxs2 hxl hbd
            go_wp2_with fail
            go_region_with ((go_at_call 127; refine (pass_any ln cl (s'.extract 0 n) _ hxs' hl0 (by omega) hc0 (by omega)).mono ?_; rintro e w5 ⟨hb5, rfl⟩; obtain ⟨hpl5, r0, r1, x0, x1⟩ := two_facts ((hb5.block (w.heap.size + 1) hpl3).trans HW3.out.2.2); have HB5 := Lib.hid (below_of_drew hb5); clear hb5))
            go_wp2_with fail
            go_roundw
            case rel =>
              (repeat apply Exists.intro)
              refine ⟨?_, rfl⟩
              obtain ⟨⟨g1, g2, g3, g4⟩, g5⟩ := Hbd.out
              generalize passL (ln, cl) (s'.data.toList.take n) = q at *
              refine ⟨acc ++ [(⟨k, t, ln, cl⟩ : Tok)], s'.extract n s'.size, q.1, q.2, _, rfl, rfl, by omega, g1, g3, by omega, by omega, by first | omega | (simp only [List.length_append, List.length_singleton]; omega), Lib.hid ?_, Lib.hid ?_, Lib.hid ?_⟩
              · rw [Hx2.out]; exact Hnx.out
              · refine (Hown3.out.below HB5.out).keep (fun b hb hF => ?_) (by simp)
                have hb2 : w.heap.size + 2 ≤ b := by
                  rcases hF with hF | hF
                  · exact hF
                  · exact ((Hown3.out.below HB5.out).block_lt hF).1
                rw [set_other (by omega), set_other (by omega)]
              · refine ⟨((HW3.out.1.trans (HB5.out.mono HW3.out.1.size)).setCell (p := ⟨w.heap.size + 1, 0, none⟩) (by simp) _).setCell (p := ⟨w.heap.size + 1, 1, none⟩) (by simp) _, ?_, ?_⟩
                · rw [set_other (by omega), set_other (by omega), HB5.out.block _ (by have := HW3.out.1.size; have := (Array.getElem?_eq_some_iff.1 HW3.out.2.1).1; exact this)]
                  exact HW3.out.2.1
                · have h5 := (HB5.out.block (w.heap.size + 1) hpl3).trans HW3.out.2.2
                  exact set_same (set_same h5 0 (.int .i64 q.1)) 1 (.int .i64 q.2)
            case measure =>
              have := Hbd.out.2
              show (s'.extract n s'.size).size < s'.size
              omega
          · have hb3 : Below w.heap.size w W2 := Hb2.out.1.trans (h22.mono Hb2.out.1.size)
            have HW3 : Hid (Below w.heap.size w W2 ∧ W2.heap[w.heap.size]? = some (.cells #[.int .i64 0, .int .i64 0] 25 (0, 0)) ∧ W2.heap[w.heap.size + 1]? = some (.cells #[.int .i64 ln, .int .i64 cl] 25 (0, 0))) :=
              Lib.hid ⟨hb3, (hwr2.block _ (Array.getElem?_eq_some_iff.1 hwr.out.2.1).1).trans hwr.out.2.1, (hwr2.block _ (Array.getElem?_eq_some_iff.1 hwr.out.2.2).1).trans hwr.out.2.2⟩
            have Hown3 := Lib.hid (hown.out.below hwr2)
            have Hnx : Hid (LexAt s.data.toList (passL (ln, cl) (s'.data.toList.take n)) (s'.data.toList.drop n) acc) := Lib.hid (by
              have h := Hnext.out
              rw [if_neg hk] at h
              exact h)
            have HW2 := Lib.hid hW2
            clear hb3 hwr2 hz2' h22 hown hW2 Hnext Hb2 hwr
            go_wp2_with fail
            rw [← HW2.out]
            clear HW2 q0 q1 z0 z1 p0 p1 y0 y1 hrl hpl
            obtain ⟨hpl3, p0, p1, y0, y1⟩ := two_facts HW3.out.2.2
            have hn1 : (n : Int) ≤ s'.size := by omega
            have Hx1 : Hid ((s'.extract 0 n).data.toList = s'.data.toList.take n) := Lib.hid (by rw [Lib.extract_data]; simp)
            have Hx2 : Hid ((s'.extract n s'.size).data.toList = s'.data.toList.drop n) := Lib.hid (drop_data s' n)
            have hxs : (s'.extract 0 n).size = n := by rw [ByteArray.size_extract]; omega
            have hxs2 : (s'.extract n s'.size).size = s'.size - n := by rw [ByteArray.size_extract]; omega
            have hxl : (s'.data.toList.take n).length = n := by rw [List.length_take, len_data]; omega
            have hbd := passL_bounds (l := s'.data.toList.take n) (m := 65537) (r := s'.size - n) hl0 hc0 (by rw [hxl]; omega) (by rw [hxl]; omega) (by rw [hxl]; omega)
            have Hbd := Lib.hid (And.intro hbd hxs2)
            have hxs' : (s'.extract 0 n).size ≤ 65536 := by omega
            clear hxs hxs2 hxl hbd
            skip
            go_region_with ((go_at_call 127; refine (pass_any ln cl (s'.extract 0 n) _ hxs' hl0 (by omega) hc0 (by omega)).mono ?_; rintro e w5 ⟨hb5, rfl⟩; obtain ⟨hpl5, r0, r1, x0, x1⟩ := two_facts ((hb5.block (w.heap.size + 1) hpl3).trans HW3.out.2.2); have HB5 := Lib.hid (below_of_drew hb5); clear hb5))
            go_wp2_with fail
            go_roundw
            case rel =>
              (repeat apply Exists.intro)
              refine ⟨?_, rfl⟩
              obtain ⟨⟨g1, g2, g3, g4⟩, g5⟩ := Hbd.out
              generalize passL (ln, cl) (s'.data.toList.take n) = q at *
              refine ⟨acc, s'.extract n s'.size, q.1, q.2, _, rfl, rfl, by omega, g1, g3, by omega, by omega, by first | omega | (simp only [List.length_append, List.length_singleton]; omega), Lib.hid ?_, Lib.hid ?_, Lib.hid ?_⟩
              · rw [Hx2.out]; exact Hnx.out
              · refine (Hown3.out.below HB5.out).keep (fun b hb hF => ?_) (by simp)
                have hb2 : w.heap.size + 2 ≤ b := by
                  rcases hF with hF | hF
                  · exact hF
                  · exact ((Hown3.out.below HB5.out).block_lt hF).1
                rw [set_other (by omega), set_other (by omega)]
              · refine ⟨((HW3.out.1.trans (HB5.out.mono HW3.out.1.size)).setCell (p := ⟨w.heap.size + 1, 0, none⟩) (by simp) _).setCell (p := ⟨w.heap.size + 1, 1, none⟩) (by simp) _, ?_, ?_⟩
                · rw [set_other (by omega), set_other (by omega), HB5.out.block _ (by have := HW3.out.1.size; have := (Array.getElem?_eq_some_iff.1 HW3.out.2.1).1; exact this)]
                  exact HW3.out.2.1
                · have h5 := (HB5.out.block (w.heap.size + 1) hpl3).trans HW3.out.2.2
                  exact set_same (set_same h5 0 (.int .i64 q.1)) 1 (.int .i64 q.2)
            case measure =>
              have := Hbd.out.2
              show (s'.extract n s'.size).size < s'.size
              omega
      · have hne : s'.toList.isEmpty = true := by
          rw [Lib.toList_data, List.isEmpty_iff]
          exact List.length_eq_zero_iff.1 (by rw [len_data]; omega)
        obtain ⟨hb, hr, hp⟩ := hwr.out
        obtain ⟨hrl, q0, q1, z0, z1⟩ := two_facts hr
        have Hb := Lib.hid hb
        have Hst : Hid (tokensL (s.data.toList.length + 1) (1, 1) s.data.toList = .ok acc) := Lib.hid (by
          have h := hat.out
          rw [show s'.data.toList = [] from List.length_eq_zero_iff.1 (by rw [len_data]; omega)] at h
          exact h.stop)
        obtain ⟨a, cap, hva, hcap, hrow⟩ := hown.out.rowAtC (fun g hg => (hown.out.block_lt hg).1)
        have Hrow := Lib.hid hrow
        have Hcap := Lib.hid hcap
        clear hb hr hp hat hrow hcap
        go_wp2_with fail
        refine bodyPost_ret (v := .tuple #[.slice a acc.length cap, .int .i64 0, .agg #[.int .i64 0, .int .i64 0]]) (by simp [results, Tryz.results100, go_sem, q0, q1]) rfl ?_
        rw [Hr.out, Hst.out]
        have hbx := (Hb.out.setCell (p := ⟨w.heap.size, 0, none⟩) (Nat.le_refl _) (.int .i64 0)).setCell (p := ⟨w.heap.size, 1, none⟩) (Nat.le_refl _) (.int .i64 0)
        refine ⟨hbx, a, cap, rfl, ⟨by have := Hcap.out.1; simpa using this, Hcap.out.2⟩, Hrow.out.mono fun b hb hl => ⟨by omega, by simpa using hl, ?_⟩⟩
        rw [set_other (by omega), set_other (by omega)]
end Go.Proofs.YthknljeffpbbmaaGreatDoor
namespace Go.Proofs.YthknljeffpbbmaaGreatDoor
open Go Go.RowKit

def tokV (t : Tok) : Value := .agg #[.int .i64 t.kind, .string t.text, .int .i64 t.line, .int .i64 t.col]

/-- The parser at block bp: the tokens that are left, the text's end, how deep it stands. -/
def PS (w : World) (bp : Nat) (en : Int × Int) (ts : List Tok) (dp : Int) : Prop :=
  ∃ a cap, w.heap[bp]? = some (.cells #[.slice a ts.length cap, .int .i64 en.1, .int .i64 en.2, .int .i64 dp] 155 (0, 0)) ∧ (ts.length ≤ cap ∧ ts.length ≤ 70000) ∧ cap ≤ maxLen ∧ RowAt (fun b => b < bp) w a (ts.map tokD)
def ptr (bp : Nat) : Value := .pointer (some ⟨bp, 0, none⟩)

theorem PS.grown {w w' : World} {bp : Nat} {en : Int × Int} {ts : List Tok} {dp : Int} (h : PS w bp en ts dp) (hb : Below w.heap.size w w') : PS w' bp en ts dp := by
  obtain ⟨a, cap, h1, h2, h3, h4⟩ := h
  exact ⟨a, cap, (hb.block _ (Array.getElem?_eq_some_iff.1 h1).1).trans h1, h2, h3, h4.below hb⟩

/-- A token among others. -/
theorem tok_at {F : Nat → Prop} {w : World} {a : Option Addr} {ts : List Tok} (h : RowAt F w a (ts.map tokD)) {k : Nat} {t : Tok} (ht : ts[k]? = some t) :
    ∃ b off, a = some ⟨b, off, none⟩ ∧ F b ∧ b < w.heap.size ∧ w.cell? ⟨b, off + k * 4, none⟩ = some (.int .i64 t.kind) ∧ w.cell? ⟨b, off + k * 4 + 1, none⟩ = some (.string t.text) ∧ w.cell? ⟨b, off + k * 4 + 2, none⟩ = some (.int .i64 t.line) ∧ w.cell? ⟨b, off + k * 4 + 3, none⟩ = some (.int .i64 t.col) := by
  obtain ⟨b, off, cs, ha, hF, hb, hd, hc⟩ := h k (tokD t) (by rw [List.getElem?_map, ht]; rfl)
  unfold tokD at hd hc
  obtain ⟨c0, cs, rfl, h0, hd⟩ := hd.cons_inv
  obtain ⟨c1, cs, rfl, h1, hd⟩ := hd.cons_inv
  obtain ⟨c2, cs, rfl, h2, hd⟩ := hd.cons_inv
  obtain ⟨c3, cs, rfl, h3, hd⟩ := hd.cons_inv
  obtain rfl := h0.one_inv
  obtain rfl := h1.one_inv
  obtain rfl := h2.one_inv
  obtain rfl := h3.one_inv
  exact ⟨b, off, ha, hF, hb, hc 0 _ rfl, hc 1 _ rfl, hc 2 _ rfl, hc 3 _ rfl⟩

def PTok (t : Tok) (w : World) (e : Ending) (w' : World) : Prop := e = .returned (tokV t) ∧ Below w.heap.size w w'

set_option maxRecDepth 100000 in
set_option maxHeartbeats 1000000 in
theorem at_any (bp n : Nat) (en : Int × Int) (ts : List Tok) (dp : Int) (w : World) (_hn : n ≤ 1000) (hp : PS w bp en ts dp) :
    Calls Tryz.prog 151 #[ptr bp, .int .i64 n] w (PTok (tokAt en ts n) w) := by
  obtain ⟨a, cap, h1, h2, h3, h4⟩ := hp
  obtain ⟨hbp, hc, hf⟩ := block_facts h1
  have q0 := hc 0
  have q1 := hc 1
  have q2 := hc 2
  have q3 := hc 3
  simp at q0 q1 q2 q3
  clear hc hf h1
  unfold maxLen at h3
  unfold ptr
  by_cases hlt : n < ts.length
  · have Hd : Hid (tokAt en ts n = ts[n]) := Lib.hid (by unfold tokAt; rw [List.getElem?_eq_getElem hlt]; rfl)
    obtain ⟨b, off, ha, hF, hb, r0, r1, r2, r3⟩ := tok_at h4 (List.getElem?_eq_getElem hlt)
    subst ha
    have H4 := Lib.hid h4
    clear h4
    generalize ts[n] = t at Hd r0 r1 r2 r3
    have hlt' : ¬ (ts.length : Int) ≤ (n : Int) := by omega
    go_enter Tryz.func151, Tryz.ntmps151
    go_wp2_with fail
    refine bodyPost_ret (v := tokV t) (by simp [tokV, results, Tryz.results151, go_sem]) rfl ?_
    rw [Hd.out]
    exact ⟨rfl, (Below.refl _ _).alloc (Nat.le_refl _) _⟩
  · have Hd : Hid (tokAt en ts n = ⟨0, ⟨#[]⟩, en.1, en.2⟩) := Lib.hid (by unfold tokAt; rw [List.getElem?_eq_none (by omega)]; rfl)
    have hlt' : (ts.length : Int) ≤ (n : Int) := by omega
    clear h4
    go_enter Tryz.func151, Tryz.ntmps151
    go_wp2_with fail
    refine bodyPost_ret (v := tokV ⟨0, ⟨#[]⟩, en.1, en.2⟩) (by simp [tokV, results, Tryz.results151, go_sem]) rfl ?_
    rw [Hd.out]
    exact ⟨rfl, (Below.refl _ _).alloc (Nat.le_refl _) _⟩
end Go.Proofs.YthknljeffpbbmaaGreatDoor
namespace Go.Proofs.YthknljeffpbbmaaGreatDoor
open Go Go.RowKit

theorem tok_kind (a b c d : Value) (w : World) : (Instr.field 157 (.agg #[a, b, c, d]) 0).run Tryz.prog w = .ok a w := by kernel_rfl
theorem tok_text (a b c d : Value) (w : World) : (Instr.field 157 (.agg #[a, b, c, d]) 1).run Tryz.prog w = .ok b w := by kernel_rfl
theorem tok_place (a b c d : Value) (w : World) : (Instr.field 157 (.agg #[a, b, c, d]) 2).run Tryz.prog w = .ok (.agg #[c, d]) w := by kernel_rfl
def PBool (b : Bool) (w : World) (e : Ending) (w' : World) : Prop := e = .returned (.bool b) ∧ Below w.heap.size w w'

set_option maxRecDepth 100000 in
set_option maxHeartbeats 1000000 in
theorem sign_any (bp n : Nat) (s : ByteArray) (en : Int × Int) (ts : List Tok) (dp : Int) (w : World) (hn : n ≤ 1000) (hp : PS w bp en ts dp) :
    Calls Tryz.prog 128 #[ptr bp, .int .i64 n, .string s] w (PBool (isSign en ts n s.data.toList) w) := by
  have Hp := Lib.hid hp
  clear hp
  have Hd : Hid (isSign en ts n s.data.toList = ((tokAt en ts n).kind == 4 && (tokAt en ts n).text.toList == s.toList)) := Lib.hid (by unfold isSign; rw [Lib.toList_data, Lib.toList_data])
  have Hat := Lib.hid (at_any bp n en ts dp w hn Hp.out)
  have Hat2 := Lib.hid (fun (w1 : World) (hb : Below w.heap.size w w1) => at_any bp n en ts dp w1 hn (Hp.out.grown hb))
  unfold ptr at Hat Hat2 ⊢
  generalize tokAt en ts n = t at Hd Hat Hat2
  cases hk : t.kind == 4
  · have Hk := Lib.hid hk
    go_enter Tryz.func128, Tryz.ntmps128
    go_wp2_with fail
    refine Hat.out.mono ?_
    rintro e w1 ⟨rfl, hb1⟩
    unfold tokV
    have k0 := tok_kind
    have k1 := tok_text
    go_wp2_with fail
    go_ret
    exact ⟨ret_bool (by rw [Hd.out, Hk.out]; rfl), hb1⟩
  · have Hk := Lib.hid hk
    go_enter Tryz.func128, Tryz.ntmps128
    go_wp2_with fail
    refine Hat.out.mono ?_
    rintro e w1 ⟨rfl, hb1⟩
    unfold tokV
    have k0 := tok_kind
    have k1 := tok_text
    go_wp2_with fail
    refine (Hat2.out w1 hb1).mono ?_
    rintro e w2 ⟨rfl, hb2⟩
    unfold tokV
    go_wp2_with fail
    go_ret
    exact ⟨ret_bool (by rw [Hd.out, Hk.out, Bool.true_and]), hb1.trans (hb2.mono hb1.size)⟩

set_option maxRecDepth 100000 in
set_option maxHeartbeats 1000000 in
theorem word_any (bp : Nat) (s : ByteArray) (en : Int × Int) (ts : List Tok) (dp : Int) (w : World) (hp : PS w bp en ts dp) :
    Calls Tryz.prog 152 #[ptr bp, .string s] w (PBool (isWordT en ts s.data.toList) w) := by
  have Hp := Lib.hid hp
  clear hp
  have Hd : Hid (isWordT en ts s.data.toList = ((tokAt en ts 0).kind == 1 && (tokAt en ts 0).text.toList == s.toList)) := Lib.hid (by unfold isWordT; rw [Lib.toList_data, Lib.toList_data])
  have Hat := Lib.hid (at_any bp 0 en ts dp w (by omega) Hp.out)
  have Hat2 := Lib.hid (fun (w1 : World) (hb : Below w.heap.size w w1) => at_any bp 0 en ts dp w1 (by omega) (Hp.out.grown hb))
  unfold ptr at Hat Hat2 ⊢
  generalize tokAt en ts 0 = t at Hd Hat Hat2
  cases hk : t.kind == 1
  · have Hk := Lib.hid hk
    go_enter Tryz.func152, Tryz.ntmps152
    go_wp2_with fail
    refine Hat.out.mono ?_
    rintro e w1 ⟨rfl, hb1⟩
    unfold tokV
    have k0 := tok_kind
    have k1 := tok_text
    go_wp2_with fail
    go_ret
    exact ⟨ret_bool (by rw [Hd.out, Hk.out]; rfl), hb1⟩
  · have Hk := Lib.hid hk
    go_enter Tryz.func152, Tryz.ntmps152
    go_wp2_with fail
    refine Hat.out.mono ?_
    rintro e w1 ⟨rfl, hb1⟩
    unfold tokV
    have k0 := tok_kind
    have k1 := tok_text
    go_wp2_with fail
    refine (Hat2.out w1 hb1).mono ?_
    rintro e w2 ⟨rfl, hb2⟩
    unfold tokV
    go_wp2_with fail
    go_ret
    exact ⟨ret_bool (by rw [Hd.out, Hk.out, Bool.true_and]), hb1.trans (hb2.mono hb1.size)⟩
end Go.Proofs.YthknljeffpbbmaaGreatDoor
namespace Go.Proofs.YthknljeffpbbmaaGreatDoor
open Go Go.RowKit

theorem strs_cell (w : World) (t : TypeId) (zs : List ByteArray) : ∀ j, j < zs.length → (w.alloc (.cells (zs.map Value.string).toArray t)).cell? ⟨w.heap.size, 0 + j, none⟩ = some (.string (zs.getD j ByteArray.empty)) := by
  intro j hj
  unfold World.cell?
  rw [heap_alloc_new, Nat.zero_add]
  simp [hj]
theorem containsS_eq (zs : List (List UInt8)) (s : ByteArray) : Lib.containsS (zs.map bs) s = zs.contains s.data.toList := by
  rw [Bool.eq_iff_iff, Lib.containsS_iff, List.contains_iff_mem, List.mem_map]
  constructor
  · rintro ⟨l, hl, rfl⟩; exact hl
  · intro h; exact ⟨_, h, bytes_ext rfl⟩

set_option maxRecDepth 100000 in
set_option maxHeartbeats 1000000 in
theorem reserved_any (s : ByteArray) (w : World) : Calls Tryz.prog 169 #[.string s] w (PBool (reservedL.contains s.data.toList) w) := by
  have Hc := Lib.hid (Tryz.slices_Contains_string w.heap.size 0 6 6 (reservedL.map bs) s (w.alloc (.cells ((reservedL.map bs).map Value.string).toArray 9)) (by decide) (by omega) (strs_cell w 9 (reservedL.map bs)))
  go_enter Tryz.func169, Tryz.ntmps169
  go_wp2_with fail
  refine Hc.out.mono ?_
  rintro e w1 ⟨rfl, rfl⟩
  rw [List.take_of_length_le (by decide), containsS_eq]
  go_wp2_with fail
  go_ret
  exact ⟨ret_bool (by simp), (Below.refl _ w).alloc (Nat.le_refl _) _⟩
set_option maxRecDepth 100000 in
set_option maxHeartbeats 1000000 in
theorem isType_any (s : ByteArray) (w : World) : Calls Tryz.prog 186 #[.string s] w (PBool (typesL.contains s.data.toList) w) := by
  have Hc := Lib.hid (Tryz.slices_Contains_string w.heap.size 0 6 6 (typesL.map bs) s (w.alloc (.cells ((typesL.map bs).map Value.string).toArray 9)) (by decide) (by omega) (strs_cell w 9 (typesL.map bs)))
  go_enter Tryz.func186, Tryz.ntmps186
  go_wp2_with fail
  refine Hc.out.mono ?_
  rintro e w1 ⟨rfl, rfl⟩
  rw [List.take_of_length_le (by decide), containsS_eq]
  go_wp2_with fail
  go_ret
  exact ⟨ret_bool (by simp), (Below.refl _ w).alloc (Nat.le_refl _) _⟩

set_option maxRecDepth 100000 in
set_option maxHeartbeats 1000000 in
theorem name_any (bp : Nat) (en : Int × Int) (ts : List Tok) (dp : Int) (w : World) (hp : PS w bp en ts dp) :
    Calls Tryz.prog 154 #[ptr bp] w (PBool (isNameT en ts) w) := by
  have Hp := Lib.hid hp
  clear hp
  have Hd : Hid (isNameT en ts = ((tokAt en ts 0).kind == 1 && !reservedL.contains (tokAt en ts 0).text.data.toList)) := Lib.hid rfl
  have Hat := Lib.hid (at_any bp 0 en ts dp w (by omega) Hp.out)
  have Hat2 := Lib.hid (fun (w1 : World) (hb : Below w.heap.size w w1) => at_any bp 0 en ts dp w1 (by omega) (Hp.out.grown hb))
  unfold ptr at Hat Hat2 ⊢
  generalize tokAt en ts 0 = t at Hd Hat Hat2
  cases hk : t.kind == 1
  · have Hk := Lib.hid hk
    go_enter Tryz.func154, Tryz.ntmps154
    go_wp2_with fail
    refine Hat.out.mono ?_
    rintro e w1 ⟨rfl, hb1⟩
    unfold tokV
    have k0 := tok_kind
    have k1 := tok_text
    go_wp2_with fail
    go_ret
    exact ⟨ret_bool (by rw [Hd.out, Hk.out]; rfl), hb1⟩
  · have Hk := Lib.hid hk
    go_enter Tryz.func154, Tryz.ntmps154
    go_wp2_with fail
    refine Hat.out.mono ?_
    rintro e w1 ⟨rfl, hb1⟩
    unfold tokV
    have k0 := tok_kind
    have k1 := tok_text
    go_wp2_with fail
    refine (Hat2.out w1 hb1).mono ?_
    rintro e w2 ⟨rfl, hb2⟩
    unfold tokV
    go_wp2_with fail
    refine (reserved_any t.text _).mono ?_
    rintro e w3 ⟨rfl, hb3⟩
    have hbb := hb1.trans (hb2.mono hb1.size)
    go_wp2_with fail
    go_ret
    exact ⟨ret_bool (by rw [Hd.out, Hk.out, Bool.true_and]; simp), hbb.trans (hb3.mono hbb.size)⟩
end Go.Proofs.YthknljeffpbbmaaGreatDoor
namespace Go.Proofs.YthknljeffpbbmaaGreatDoor
open Go Go.RowKit

def wrongV (e l c : Int) : Value := .iface 150 (.agg #[.int .i64 e, .int .i64 l, .int .i64 c])
/-- What a method of the parser does, by what the plain words say: the tokens taken, the value handed back; or the break. -/
def PP {α : Type} (bp : Nat) (en : Int × Int) (val : α → World → Value → Prop) (r : PR α) (w : World) (e : Ending) (w' : World) : Prop :=
  w.grownBy w' (some bp) ∧ match r with
    | .ok x ts dp => PS w' bp en ts dp ∧ ∃ v, e = .returned v ∧ val x w' v
    | .err a l c => e = .panicked [{ v := wrongV a l c, recovered := false }]
    | .out => True

set_option maxRecDepth 100000 in
set_option maxHeartbeats 1000000 in
theorem fail_any (bp : Nat) (n : Int) (en : Int × Int) (ts : List Tok) (dp : Int) (w : World) (hp : PS w bp en ts dp) :
    Calls Tryz.prog 168 #[ptr bp, .int .i64 n] w (fun e w' => e = .panicked [{ v := wrongV n (tokAt en ts 0).line (tokAt en ts 0).col, recovered := false }] ∧ Below w.heap.size w w') := by
  have Hat := Lib.hid (at_any bp 0 en ts dp w (by omega) hp)
  clear hp
  unfold ptr at Hat ⊢
  generalize tokAt en ts 0 = t at Hat ⊢
  go_enter Tryz.func168, Tryz.ntmps168
  go_wp2_with fail
  refine Hat.out.mono ?_
  rintro e w1 ⟨rfl, hb1⟩
  unfold tokV
  have k2 := tok_place
  go_wp2_with fail
  exact ⟨rfl, rfl, hb1⟩

theorem RowAt.grown {w w' : World} {bp : Nat} {a : Option Addr} {l : List (List Dat)} (h : RowAt (fun b => b < bp) w a l) (hg : w.grownBy w' (some bp)) : RowAt (fun b => b < bp) w' a l :=
  h.mono fun b hb hl => ⟨hb, Nat.lt_of_lt_of_le hl hg.size, hg.block b hl (fun e => by cases e; omega)⟩
theorem PS.of_set {w w1 : World} {bp : Nat} {en : Int × Int} {ts : List Tok} {dp : Int} {l0 e1 e2 d0 : Value} {a : Option Addr} {cap : Nat} (hb : Below w.heap.size w w1) (h1 : w.heap[bp]? = some (.cells #[l0, e1, e2, d0] 155 (0, 0)))
    (he1 : e1 = .int .i64 en.1) (he2 : e2 = .int .i64 en.2) (hd : d0 = .int .i64 dp) (hc : ts.length ≤ cap ∧ ts.length ≤ 70000) (hm : cap ≤ maxLen) (h4 : RowAt (fun b => b < bp) w a (ts.map tokD)) (x0 x1 x2 x3 : Value) (o : Obj) :
    let X := ((((((w1.setCell ⟨bp, 0, none⟩ (.slice a ts.length cap)).setCell ⟨w.heap.size, 0, none⟩ x0).setCell ⟨w.heap.size, 1, none⟩ x1).setCell ⟨w.heap.size, 2, none⟩ x2).setCell ⟨w.heap.size, 3, none⟩ x3).alloc o)
    w.grownBy X (some bp) ∧ PS X bp en ts dp := by
  intro X
  have hbp := (Array.getElem?_eq_some_iff.1 h1).1
  have hbp1 : bp < w1.heap.size := Nat.lt_of_lt_of_le hbp hb.size
  have hg : w.grownBy X (some bp) := grownBy_alloc (grownBy_new (grownBy_new (grownBy_new (grownBy_new (grownBy_set (grownBy_below hb) _ _) (Nat.le_refl _) _ _) (Nat.le_refl _) _ _) (Nat.le_refl _) _ _) (Nat.le_refl _) _ _) o
  refine ⟨hg, a, cap, ?_, hc, hm, h4.grown hg⟩
  show ((((((w1.setCell ⟨bp, 0, none⟩ (.slice a ts.length cap)).setCell ⟨w.heap.size, 0, none⟩ x0).setCell ⟨w.heap.size, 1, none⟩ x1).setCell ⟨w.heap.size, 2, none⟩ x2).setCell ⟨w.heap.size, 3, none⟩ x3).alloc o).heap[bp]? = _
  rw [Below.heap_alloc _ _ _ (by simpa using hbp1), set_other (by omega), set_other (by omega), set_other (by omega), set_other (by omega), set_same ((hb.block bp hbp).trans h1) 0 (.slice a ts.length cap), he1, he2, hd]
  rfl
def VTok (t : Tok) (_ : World) (v : Value) : Prop := v = tokV t
set_option maxRecDepth 100000 in
set_option maxHeartbeats 1000000 in
theorem take_any (bp : Nat) (is : Bool) (en : Int × Int) (ts : List Tok) (dp : Int) (w : World) (hp : PS w bp en ts dp) (hr : pTake en is ts dp ≠ .out) :
    Calls Tryz.prog 153 #[ptr bp, .bool is] w (PP bp en VTok (pTake en is ts dp) w) := by
  cases is with
  | false =>
    have hrr : pTake en false ts dp = .err 3 (tokAt en ts 0).line (tokAt en ts 0).col := rfl
    rw [hrr]
    have Hf := Lib.hid (fun (w1 : World) (hb : Below w.heap.size w w1) => fail_any bp 3 en ts dp w1 (hp.grown hb))
    clear hp hr hrr
    unfold ptr at Hf ⊢
    generalize tokAt en ts 0 = t at Hf ⊢
    go_enter Tryz.func153, Tryz.ntmps153
    go_wp2_with fail
    refine (Hf.out _ ((Below.refl _ w).alloc (Nat.le_refl _) _)).mono ?_
    rintro e w1 ⟨rfl, hb1⟩
    exact ⟨rfl, grownBy_below (((Below.refl _ w).alloc (Nat.le_refl _) _).trans (hb1.mono (by simp))), rfl⟩
  | true =>
    cases ts with
    | nil => exact absurd rfl hr
    | cons t r =>
      have hrr : pTake en true (t :: r) dp = .ok t r dp := rfl
      rw [hrr]
      have Hp := Lib.hid hp
      have Hat := Lib.hid (fun (w1 : World) (hb : Below w.heap.size w w1) => at_any bp 0 en (t :: r) dp w1 (by omega) (hp.grown hb))
      clear hp hr hrr
      rw [show tokAt en (t :: r) 0 = t from rfl] at Hat
      obtain ⟨a, cap, h1, h2, h3, h4⟩ := Hp.out
      obtain ⟨b, off, ha, hF, hbl, -⟩ := tok_at h4 (k := 0) (t := t) rfl
      subst ha
      have H4 := Lib.hid h4
      have H1 := Lib.hid h1
      simp only [List.length_cons] at h2
      unfold maxLen at h3
      clear h1 h4
      unfold ptr at Hat ⊢
      go_enter Tryz.func153, Tryz.ntmps153
      go_wp2_with fail
      have hb0 : Below w.heap.size w (w.alloc (.cells #[.int .i64 0, .string ⟨#[]⟩, .int .i64 0, .int .i64 0] 157)) := (Below.refl _ w).alloc (Nat.le_refl _) _
      refine (Hat.out _ hb0).mono ?_
      rintro e w1 ⟨rfl, hb1⟩
      have hb01 := hb0.trans (hb1.mono hb0.size)
      obtain ⟨hbp, hc, hf⟩ := block_facts ((hb01.block bp (Array.getElem?_eq_some_iff.1 H1.out).1).trans H1.out)
      obtain ⟨hbr, hc', hf'⟩ := block_facts (fresh_facts hb1)
      have q0 := hc 0
      have z0 := hf 0
      have r0 := hc' 0
      have r1 := hc' 1
      have r2 := hc' 2
      have r3 := hc' 3
      have y0 := hf' 0
      have y1 := hf' 1
      have y2 := hf' 2
      have y3 := hf' 3
      simp at q0 r0 r1 r2 r3
      have hbpw := (Array.getElem?_eq_some_iff.1 H1.out).1
      have Hb := Lib.hid hb01
      clear hc hf hc' hf' hb1 hb0 hb01 Hat
      unfold tokV
      have h2' : (1 : Int) ≤ (r.length : Int) + 1 := by omega
      by_cases hcap : cap = 1
      · subst hcap
        have hr0 : r = [] := List.length_eq_zero_iff.1 (by omega)
        subst hr0
        go_wp2_with fail
        refine bodyPost_ret (v := tokV t) (by simp [tokV, results, Tryz.results153, go_sem, r0, r1, r2, r3, hbr]) rfl ?_
        obtain ⟨g1, g2⟩ := PS.of_set (ts := []) (a := some ⟨b, off, none⟩) (cap := 0) Hb.out H1.out rfl rfl rfl ⟨Nat.le_refl _, Nat.zero_le _⟩ (Nat.zero_le _) (RowAt.nil _) (.int .i64 t.kind) (.string t.text) (.int .i64 t.line) (.int .i64 t.col) (.cells #[.int .i64 t.kind, .string t.text, .int .i64 t.line, .int .i64 t.col] 157)
        exact ⟨g1, g2, _, rfl, rfl⟩
      · have hcap2 : ¬ cap = 1 := hcap
        go_wp2_with fail
        refine bodyPost_ret (v := tokV t) (by simp [tokV, results, Tryz.results153, go_sem, r0, r1, r2, r3, hbr]) rfl ?_
        have hrest : RowAt (fun b => b < bp) w (some ⟨b, off + 4, none⟩) (r.map tokD) := by
          have := H4.out.drop (n := 4) (fun ds hds => by obtain ⟨x, -, rfl⟩ := List.mem_map.1 hds; rfl) 1
          simpa using this
        obtain ⟨g1, g2⟩ := PS.of_set (ts := r) (a := some ⟨b, off + 4, none⟩) (cap := cap - 1) Hb.out H1.out rfl rfl rfl (by omega) (by unfold maxLen; omega) hrest (.int .i64 t.kind) (.string t.text) (.int .i64 t.line) (.int .i64 t.col) (.cells #[.int .i64 t.kind, .string t.text, .int .i64 t.line, .int .i64 t.col] 157)
        exact ⟨g1, g2, _, rfl, rfl⟩
end Go.Proofs.YthknljeffpbbmaaGreatDoor
namespace Go.Proofs.YthknljeffpbbmaaGreatDoor
open Go Go.RowKit

theorem bind_ok {α β : Type} {m : PM α} {f : α → PM β} {ts ts' : List Tok} {d d' : Int} {x : α} (h : m ts d = .ok x ts' d') : PM.bind m f ts d = f x ts' d' := by unfold PM.bind; rw [h]
theorem bind_err {α β : Type} {m : PM α} {f : α → PM β} {ts : List Tok} {d a b c : Int} (h : m ts d = .err a b c) : PM.bind m f ts d = .err a b c := by unfold PM.bind; rw [h]
theorem bind_out {α β : Type} {m : PM α} {f : α → PM β} {ts : List Tok} {d : Int} (h : m ts d = .out) : PM.bind m f ts d = .out := by unfold PM.bind; rw [h]
theorem PS.kept {w w' : World} {bp : Nat} {en : Int × Int} {ts : List Tok} {dp : Int} (h : PS w bp en ts dp) (hb : w'.heap[bp]? = w.heap[bp]?) (hk : ∀ b, b < bp → b < w.heap.size → w'.heap[b]? = w.heap[b]?) (hs : w.heap.size ≤ w'.heap.size) : PS w' bp en ts dp := by
  obtain ⟨a, cap, h1, h2, h3, h4⟩ := h
  exact ⟨a, cap, hb.trans h1, h2, h3, h4.mono fun b hF hl => ⟨hF, Nat.lt_of_lt_of_le hl hs, hk b hF hl⟩⟩
def VUnit (_ : Unit) (_ : World) (v : Value) : Prop := v = .tuple #[]

set_option maxRecDepth 100000 in
set_option maxHeartbeats 1000000 in
theorem eat_any (bp : Nat) (s : ByteArray) (en : Int × Int) (ts : List Tok) (dp : Int) (w : World) (hp : PS w bp en ts dp) (hr : pEat en s.data.toList ts dp ≠ .out) :
    Calls Tryz.prog 159 #[ptr bp, .string s] w (PP bp en VUnit (pEat en s.data.toList ts dp) w) := by
  have Hs := Lib.hid (sign_any bp 0 s en ts dp w (by omega) hp)
  have Ht := Lib.hid (fun (w1 : World) (hb : Below w.heap.size w w1) (is : Bool) (h : pTake en is ts dp ≠ .out) => take_any bp is en ts dp w1 (hp.grown hb) h)
  have He : Hid (pEat en s.data.toList ts dp = PM.bind (pTake en (isSign en ts 0 s.data.toList)) (fun _ => PM.pure ()) ts dp) := Lib.hid rfl
  have Hr := Lib.hid hr
  clear hp hr
  unfold ptr at Hs Ht ⊢
  generalize isSign en ts 0 s.data.toList = b at Hs He
  go_enter Tryz.func159, Tryz.ntmps159
  go_wp2_with fail
  refine Hs.out.mono ?_
  rintro e w1 ⟨rfl, hb1⟩
  have hne : pTake en b ts dp ≠ .out := fun h => Hr.out (by rw [He.out, bind_out h])
  have Ht1 := Lib.hid (Ht.out w1 hb1 b hne)
  clear hne Ht
  go_wp2_with fail
  refine Ht1.out.mono ?_
  rintro e w2 ⟨hg2, hq⟩
  have Hg : Hid (w.grownBy w2 (some bp)) := Lib.hid (grownBy_trans (grownBy_below hb1) hg2)
  clear hb1 hg2 Ht1
  cases hm : pTake en b ts dp with
  | out => exact absurd (by rw [He.out, bind_out hm]) Hr.out
  | err a l c =>
    rw [hm] at hq
    obtain rfl := hq
    rw [He.out, bind_err hm]
    exact ⟨rfl, Hg.out, rfl⟩
  | ok x ts' d' =>
    rw [hm] at hq
    obtain ⟨hps, v, rfl, hv⟩ := hq
    have Hps := Lib.hid hps
    have Hf : Hid (pEat en s.data.toList ts dp = .ok () ts' d') := Lib.hid (by rw [He.out, bind_ok hm]; rfl)
    clear hm hps hv Hr He
    go_wp2_with fail
    go_end0
    rw [Hf.out]
    exact ⟨Hg.out, Hps.out, _, rfl, rfl⟩

set_option maxRecDepth 100000 in
set_option maxHeartbeats 1000000 in
theorem close_any (bp : Nat) (s : ByteArray) (en : Int × Int) (ts : List Tok) (dp : Int) (w : World) (hd0 : 0 ≤ dp) (hd1 : dp ≤ 1000) (hp : PS w bp en ts dp) (hr : pClose en s.data.toList ts dp ≠ .out) :
    Calls Tryz.prog 172 #[ptr bp, .string s] w (PP bp en VUnit (pClose en s.data.toList ts dp) w) := by
  have hne : pEat en s.data.toList ts dp ≠ .out := fun h => hr (by unfold pClose; rw [bind_out h])
  have Ht1 := Lib.hid (eat_any bp s en ts dp w hp hne)
  have hdd : ∀ x ts' d', pEat en s.data.toList ts dp = .ok x ts' d' → d' = dp := by
    intro x ts' d' h
    unfold pEat PM.bind pTake at h
    split at h
    · rename_i h2
      split at h2
      · split at h2
        · cases h2
        · cases h2; cases h; rfl
      · cases h2
    · cases h
    · cases h
  have Hdd := Lib.hid hdd
  have Hne := Lib.hid hne
  clear hp hne hr hdd
  unfold ptr at Ht1 ⊢
  cases hm : pEat en s.data.toList ts dp with
  | out => exact absurd hm Hne.out
  | err a l c =>
    have Hf : Hid (pClose en s.data.toList ts dp = .err a l c) := Lib.hid (by unfold pClose; rw [bind_err hm])
    rw [hm] at Ht1
    rw [Hf.out]
    clear hm Hdd
    go_enter Tryz.func172, Tryz.ntmps172
    go_wp2_with fail
    refine Ht1.out.mono ?_
    rintro e w2 ⟨hg2, rfl⟩
    exact ⟨rfl, hg2, rfl⟩
  | ok x ts' d' =>
    obtain rfl := Hdd.out _ _ _ hm
    have Hf : Hid (pClose en s.data.toList ts d' = .ok () ts' (d' - 1)) := Lib.hid (by unfold pClose; rw [bind_ok hm]; rfl)
    rw [hm] at Ht1
    rw [Hf.out]
    clear hm Hdd
    go_enter Tryz.func172, Tryz.ntmps172
    go_wp2_with fail
    refine Ht1.out.mono ?_
    rintro e w2 ⟨hg2, ⟨a, cap, h1, h2, h3, h4⟩, v, rfl, -⟩
    obtain ⟨hbp, hc, hf⟩ := block_facts h1
    have q3 := hc 3
    have z3 := hf 3
    simp at q3
    have H1 := Lib.hid h1
    have H4 := Lib.hid h4
    clear hc hf h1 h4
    go_wp2_with fail
    go_end0
    refine ⟨grownBy_set hg2 3 _, ⟨a, cap, set_same H1.out 3 _, h2, h3, H4.out.grown (grownBy_set (grownBy_refl _ _) 3 _)⟩, _, rfl, rfl⟩

set_option maxRecDepth 100000 in
set_option maxHeartbeats 1000000 in
theorem open_any (bp : Nat) (is : Bool) (en : Int × Int) (ts : List Tok) (dp : Int) (w : World) (hd0 : 0 ≤ dp) (hd1 : dp ≤ 1000) (hp : PS w bp en ts dp) (hr : pOpen en is ts dp ≠ .out) :
    Calls Tryz.prog 171 #[ptr bp, .bool is] w (PP bp en VTok (pOpen en is ts dp) w) := by
  have hb0 : Below w.heap.size w (w.alloc (.cells #[.int .i64 0, .string ⟨#[]⟩, .int .i64 0, .int .i64 0] 157)) := (Below.refl _ w).alloc (Nat.le_refl _) _
  by_cases hc : is = true ∧ 60 ≤ dp
  · obtain ⟨rfl, hge⟩ := hc
    have hrr : pOpen en true ts dp = .err 6 (tokAt en ts 0).line (tokAt en ts 0).col := by unfold pOpen; rw [Bool.true_and, decide_eq_true hge, if_pos rfl]; rfl
    rw [hrr]
    have Hf := Lib.hid (fun (w1 : World) (hb : Below w.heap.size w w1) => fail_any bp 6 en ts dp w1 (hp.grown hb))
    obtain ⟨a, cap, h1, -, -, -⟩ := hp
    obtain ⟨hbp, hcs, hf⟩ := block_facts h1
    have q3 := hcs 3
    simp at q3
    clear hr hrr hcs hf h1
    unfold ptr at Hf ⊢
    generalize tokAt en ts 0 = t at Hf ⊢
    go_enter Tryz.func171, Tryz.ntmps171
    go_wp2_with fail
    refine (Hf.out _ hb0).mono ?_
    rintro e w1 ⟨rfl, hb1⟩
    exact ⟨rfl, grownBy_below (hb0.trans (hb1.mono hb0.size)), rfl⟩
  · have hrr : pOpen en is ts dp = pTake en is ts (dp + 1) := by
      unfold pOpen
      cases is with
      | false => rfl
      | true => rw [Bool.true_and, decide_eq_false (fun h => hc ⟨rfl, h⟩)]; rfl
    rw [hrr] at hr ⊢
    have Hp := Lib.hid hp
    have Ht := Lib.hid (fun (w1 : World) (h : PS w1 bp en ts (dp + 1)) => take_any bp is en ts (dp + 1) w1 h hr)
    obtain ⟨a, cap, h1, h2, h3, h4⟩ := hp
    obtain ⟨hbp, hcs, hf⟩ := block_facts h1
    have q3 := hcs 3
    have z3 := hf 3
    simp at q3
    have H1 := Lib.hid h1
    have H4 := Lib.hid h4
    have Hr := Lib.hid hr
    clear hr hrr hcs hf h1 h4 hb0
    have hcase : is = false ∨ (is = true ∧ ¬ 60 ≤ dp) := by
      cases is with
      | false => exact .inl rfl
      | true => exact .inr ⟨rfl, fun h => hc ⟨rfl, h⟩⟩
    clear hc
    unfold ptr at Ht ⊢
    rcases hcase with rfl | ⟨rfl, hlt⟩
    all_goals
      go_enter Tryz.func171, Tryz.ntmps171
      go_wp2_with fail
      obtain ⟨W3, hW3⟩ : ∃ W3, W3 = (w.setCell ⟨bp, 3, none⟩ (.int .i64 (dp + 1))).alloc (.cells #[.int .i64 0, .string ⟨#[]⟩, .int .i64 0, .int .i64 0] 157) := ⟨_, rfl⟩
      rw [← hW3]
      have hg3 : w.grownBy W3 (some bp) := by rw [hW3]; exact grownBy_alloc (grownBy_set (grownBy_refl w _) 3 _) _
      have hps3 : PS W3 bp en ts (dp + 1) := by
        refine ⟨a, cap, ?_, h2, h3, H4.out.grown hg3⟩
        rw [hW3, Below.heap_alloc _ _ _ (by simpa using hbp)]
        exact set_same H1.out 3 _
      have hr3 : W3.heap[w.heap.size]? = some (.cells #[.int .i64 0, .string ⟨#[]⟩, .int .i64 0, .int .i64 0] 157 (0, 0)) := by
        rw [hW3]
        have := heap_alloc_new (w.setCell ⟨bp, 3, none⟩ (.int .i64 (dp + 1))) (.cells #[.int .i64 0, .string ⟨#[]⟩, .int .i64 0, .int .i64 0] 157)
        simpa using this
      have Hg3 := Lib.hid (And.intro hg3 hr3)
      have Ht3 := Lib.hid (Ht.out W3 hps3)
      clear hW3 hg3 hps3 hr3 Ht H1 H4 q3 z3
      refine Ht3.out.mono ?_
      rintro e w2 ⟨hg2, hq⟩
      have Hg : Hid (w.grownBy w2 (some bp)) := Lib.hid (grownBy_trans Hg3.out.1 hg2)
      obtain ⟨hbr, hcs', hf'⟩ := block_facts ((hg2.block _ (Array.getElem?_eq_some_iff.1 Hg3.out.2).1 (by intro e; cases e; omega)).trans Hg3.out.2)
      have r0 := hcs' 0
      have r1 := hcs' 1
      have r2 := hcs' 2
      have r3 := hcs' 3
      have y0 := hf' 0
      have y1 := hf' 1
      have y2 := hf' 2
      have y3 := hf' 3
      simp at r0 r1 r2 r3
      clear hcs' hf' hg2 Ht3 Hg3
      cases hm : pTake en _ ts (dp + 1) with
      | out => exact absurd hm Hr.out
      | err x l c =>
        rw [hm] at hq
        obtain rfl := hq
        exact ⟨rfl, Hg.out, rfl⟩
      | ok x ts' d' =>
        rw [hm] at hq
        obtain ⟨hps, v, rfl, rfl⟩ := hq
        have Hps := Lib.hid hps
        have Hm := Lib.hid hm
        clear hm hps Hr
        unfold tokV
        go_wp2_with fail
        refine bodyPost_ret (v := tokV x) (by simp [tokV, results, Tryz.results171, go_sem, r0, r1, r2, r3]) rfl ?_
        rw [Hm.out]
        have hbw : bp ≠ w.heap.size := by omega
        have hgx : ∀ b, b ≠ w.heap.size → ((((w2.setCell ⟨w.heap.size, 0, none⟩ (.int .i64 x.kind)).setCell ⟨w.heap.size, 1, none⟩ (.string x.text)).setCell ⟨w.heap.size, 2, none⟩ (.int .i64 x.line)).setCell ⟨w.heap.size, 3, none⟩ (.int .i64 x.col)).heap[b]? = w2.heap[b]? := fun b hb => by
          rw [set_other hb, set_other hb, set_other hb, set_other hb]
        exact ⟨grownBy_new (grownBy_new (grownBy_new (grownBy_new Hg.out (Nat.le_refl _) _ _) (Nat.le_refl _) _ _) (Nat.le_refl _) _ _) (Nat.le_refl _) _ _, Hps.out.kept (hgx _ hbw) (fun b hb _ => hgx b (by omega)) (by simp), _, rfl, rfl⟩

def nodeC (kind : Int) (t : Tok) (text : ByteArray) (a : Option Addr) (n cap : Nat) : Value := .agg #[.int .i64 kind, .string text, .int .i64 t.line, .int .i64 t.col, .slice a n cap]
set_option maxRecDepth 100000 in
set_option maxHeartbeats 1000000 in
theorem node_any (kind : Int) (t : Tok) (text : ByteArray) (a : Option Addr) (n cap : Nat) (w : World) :
    Calls Tryz.prog 103 #[.int .i64 kind, tokV t, .string text, .slice a n cap] w (fun e w' => e = .returned (nodeC kind t text a n cap) ∧ Below w.heap.size w w') := by
  unfold tokV nodeC
  go_enter Tryz.func103, Tryz.ntmps103
  go_wp2_with fail
  refine bodyPost_ret (v := nodeC kind t text a n cap) (by simp [nodeC, results, Tryz.results103, go_sem]) rfl ?_
  exact ⟨rfl, ((Below.refl _ w).alloc (Nat.le_refl _) _).alloc (by simp) _⟩
end Go.Proofs.YthknljeffpbbmaaGreatDoor
