/-
  The walk of the evaluator's Run, over no names, where nothing lies in the values that come of it.
-/
import Derived.Test.YtmmflgbhgjefmaaGreatDoorMEvS
import Derived.Test.YtmmflgbhgjefmaaGreatDoorOwnsN
import Derived.Test.YtmmflgbhgjefmaaGreatDoorCopied
import Derived.Test.YtmmflgbhgjefmaaGreatDoorIter
namespace Go.Proofs.YtmmflgbhgjefmaaGreatDoor
open Go Go.RowKit Go.Maps

def PRun (r : ER Unit) (w : World) (e : Ending) (w' : World) : Prop := Below w.heap.size w w' ∧ match r with
  | .ok _ st => ∃ a cap, e = .returned (.tuple #[.slice a (sortN st.names).length cap, .int .i64 0, .agg #[.int .i64 0, .int .i64 0]]) ∧ RowAt (fun b => w.heap.size ≤ b) w' a (namedsD (sortN st.names))
  | .err x l k => e = .returned (.tuple #[.slice none 0 0, .int .i64 x, .agg #[.int .i64 l, .int .i64 k]])
  | .out => True

theorem infoNamed : (Tryz.prog.info? 33).map (fun i => (i.zero, i.size, i.bytes)) = some (some (.agg #[.string ByteArray.empty, .int .i64 0, .int .i64 0, .string ByteArray.empty, .slice none 0 0, .slice none 0 0]), 6, 96) := by kernel_rfl
/-- The sorted names, as they lie in memory. -/
def keysB (m : List (ByteArray × Vl)) : List ByteArray := (sortKeys m).map fun b => ⟨b.toArray⟩
theorem keysB_len (m : List (ByteArray × Vl)) : (keysB m).length = m.length := by
  simp [keysB, sortKeys]
theorem keysB_mem {m : List (ByteArray × Vl)} {s : ByteArray} (h : s ∈ keysB m) : ∃ q ∈ m, q.1 = s := by
  obtain ⟨b, hb, rfl⟩ := List.mem_map.1 h
  have := (List.mergeSort_perm (m.map (·.1.data.toList)) leB).mem_iff.1 hb
  obtain ⟨q, hq, rfl⟩ := List.mem_map.1 this
  exact ⟨q, hq, by simp⟩
theorem sortN_get {m : List (ByteArray × Vl)} {j : Nat} {s : ByteArray} (h : (keysB m)[j]? = some s) : (sortN m)[j]? = some (s, (lookN m s).getD vZero) := by
  unfold keysB at h
  unfold sortN
  rw [List.getElem?_map] at h ⊢
  cases hb : (sortKeys m)[j]? with
  | none => rw [hb] at h; cases h
  | some b => rw [hb] at h; simp only [Option.map_some, Option.some.injEq] at h; subst h; rfl
theorem keysB_own {w : World} {base : Nat} {v : Value} {ss : List (List UInt8)} {m : List (ByteArray × Vl)} (hp : ss.Perm (m.map (·.1.data.toList))) (h : w.ownsRow base 9 1 v ss.length ((ss.mergeSort (fun x y => decide (x ≤ y))).map Go.Proofs.encStr)) : OwnS w base v (keysB m) := by
  have he : ss.mergeSort (fun x y => decide (x ≤ y)) = sortKeys m := mergeSort_of_perm hp
  have hl : ss.length = (keysB m).length := by rw [keysB_len, hp.length_eq, List.length_map]
  unfold OwnS
  rw [← hl]
  rw [he] at h
  have : (sortKeys m).map Go.Proofs.encStr = (keysB m).map Value.string := by simp [keysB, Go.Proofs.encStr, List.map_map, Function.comp_def]
  rwa [this] at h

/-- How Run's machine begins. -/
theorem ms_start (w : World) (o : Obj) (hv : Value) (n : Int) (hn : n ≤ 1000000 ∧ -1 ≤ n) :
    MS ⟨fun b => b = w.heap.size + 1 ∨ b = w.heap.size + 1 + 1, fun _ => False⟩ (((w.alloc o).alloc (.map #[] 0)).alloc (.cells #[.map (some (w.heap.size + 1)), hv, .int .i64 n] 87)) (w.heap.size + 1 + 1) (w.heap.size + 1) hv ⟨[], n⟩ := by
  obtain ⟨h1, h2, h3, h4, h5⟩ := alloc3 w o (.map #[] 0) (.cells #[.map (some (w.heap.size + 1)), hv, .int .i64 n] 87)
  refine ⟨⟨fun b hb => ?_, fun b hb => hb.elim, fun b hb => hb.elim⟩, h3, .inr rfl, .inl rfl, ⟨[], ⟨#[], 0, h2, Go.MapKept.stamped_empty 0, rfl⟩, rfl, fun j p q h => by simp at h⟩, List.nodup_nil, hn, fun q hq => by cases hq⟩
  rw [h5]
  rcases hb with rfl | rfl <;> omega

set_option maxRecDepth 100000 in
set_option maxHeartbeats 2000000 in
theorem erun_any (f : Nat) (G : Nat → Prop) (l : List Nd) (a : Option Addr) (cap : Nat) (te : TypeId) (pe : Value) (n : Int) (w : World) (hn : n ≤ 1000000 ∧ -1 ≤ n) (hG : ∀ b, G b → b < w.heap.size) (hr : RowAt G w a (nodesD l)) (hsn : smallNs l) (hlen : l.length ≤ 1000000)
    (hne : eRun f l n ≠ .out) (hfl : ∀ st, eRun f l n = .ok () st → st.names.length ≤ 1000 ∧ ∀ q ∈ st.names, flatV q.2) :
    Calls Tryz.prog 14 #[.slice a l.length cap, .slice none 0 0, .iface te pe, .int .i64 n] w (PRun (eRun f l n) w) := by
  have hmm := @run_makeMap Tryz.prog
  obtain ⟨h1, h2, h3, h4, h5⟩ := alloc3 w (.cells #[.int .i64 0, .int .i64 0] 24) (.map #[] 0) (.cells #[.map (some (w.heap.size + 1)), .iface te pe, .int .i64 n] 87)
  have H0 := Lib.hid (And.intro (ms_start w (.cells #[.int .i64 0, .int .i64 0] 24) (.iface te pe) n hn) (And.intro h1 (And.intro (hr.below h4) h4)))
  have Hne := Lib.hid hne
  have Hfl := Lib.hid hfl
  have Hsn := Lib.hid hsn
  have HG := Lib.hid hG
  clear hne hfl hsn hG hr h1 h2 h3 h4 h5 hn
  go_enter Tryz.func14, Tryz.ntmps14
  go_wp2_with fail
  generalize World.alloc _ _ = W0 at H0 ⊢
  go_loopw [25] (fun i wr => i = .int .i64 0 ∧ wr = W0) (fun _ _ => 0)
  case atStart => exact ⟨rfl, rfl⟩
  case round =>
    obtain ⟨rfl, hwr⟩ := hrel
    subst hwr
    have Hc := Lib.hid (block_does (mp := w.heap.size + 1 + 1) (mb := w.heap.size + 1) (hv := .iface te pe) (ENz.stmts f) (stmts_does _ _ _ f) G _ wr _ l a cap H0.out.1 (fun b hb => ⟨by have := HG.out b hb; have := H0.out.2.2.2.size; omega, fun h => by have := HG.out b hb; rcases h with h | h <;> omega⟩) H0.out.2.2.1 Hsn.out hlen Hne.out)
    unfold ptr at Hc
    go_wp2_with fail
    refine Hc.out.mono ?_
    rintro e w1 ⟨c', hmv, hq⟩
    have hpl : w1.heap[w.heap.size]? = some (.cells #[.int .i64 0, .int .i64 0] 24 (0, 0)) := (hmv.block _ (here H0.out.2.1) (fun h => by rcases h with h | h <;> omega)).trans H0.out.2.1
    have hbl : Below w.heap.size w w1 := ⟨hmv.os.trans H0.out.2.2.2.os, hmv.tape.trans H0.out.2.2.2.tape, hmv.output.trans H0.out.2.2.2.output, Nat.le_trans H0.out.2.2.2.size hmv.size, fun b hb => (hmv.block b (Nat.lt_of_lt_of_le hb H0.out.2.2.2.size) (fun h => by rcases h with h | h <;> omega)).trans (H0.out.2.2.2.block b hb)⟩
    have H1 := Lib.hid (And.intro hpl hbl)
    clear hpl hbl Hc
    have hre : eRun f l n = eBlock (eStmts f) l ⟨[], n⟩ := rfl
    cases hres : eBlock (eStmts f) l ⟨[], n⟩ with
    | out => exact absurd (hre.trans hres) Hne.out
    | err x y z =>
      rw [hres] at hq
      obtain rfl := hq
      have hxz := ENz.block (ENz.stmts f) l _ _ _ _ hres
      have hxz' : (x == 0) = false := by simpa using hxz
      have Hfin := Lib.hid (hre.trans hres)
      clear hres hre hmv H0
      unfold faultV
      go_upto_region 9 with fail
      have hb1 : Below w1.heap.size w1 (w1.alloc (.cells #[.int .i64 x, .int .i64 y, .int .i64 z] 89)) := (Below.refl _ w1).alloc (Nat.le_refl _) _
      have H2 := Lib.hid (And.intro (stays H1.out.1 hb1) (And.intro (heap_alloc_new w1 (.cells #[.int .i64 x, .int .i64 y, .int .i64 z] 89)) (H1.out.2.trans (hb1.mono H1.out.2.size))))
      have hfb : w.heap.size < w1.heap.size := here H1.out.1
      generalize World.alloc _ _ = W at H2 ⊢
      generalize w1.heap.size = fb at H2 hfb ⊢
      clear hb1 H1
      refine wp_region_turns (.s 0 (.s 1 (.s 2 (.s 3 (.s 4 (.s 5 (.h 6 .nil))))))) 6 (fun W' => W'.heap[fb]? = some (.cells #[.int .i64 x, .int .i64 y, .int .i64 z] 89 (0, 0))) (by kernel_rfl) (by kernel_rfl) (fun c a d v w h => by cases d <;> exact h) H2.out.2.1 ?_
      have hbd := (Below.refl W.heap.size W).drew
      have H3 := Lib.hid (And.intro (stays H2.out.1 hbd) (H2.out.2.2.trans (hbd.mono H2.out.2.2.size)))
      generalize W.drew = Wd at H3 ⊢
      clear hbd H2
      refine turn_steady (.pointer (some ⟨fb, 0, none⟩)) rfl rfl (fun W' hS => ?_) ?_
      · go_simp
      try simp only [List.getElem_toArray, List.getElem_cons_succ, List.getElem_cons_zero, Act.put, List.setIfInBounds_toArray, List.set_cons_zero, List.set_cons_succ]
      refine turn_steady (.int .i64 x) rfl rfl (fun W' hS => ?_) ?_
      · obtain ⟨s0, s1, s2, s3, s4, s5, s6⟩ := three_facts hS
        clear hS
        go_simp
      try simp only [List.getElem_toArray, List.getElem_cons_succ, List.getElem_cons_zero, Act.put, List.setIfInBounds_toArray, List.set_cons_zero, List.set_cons_succ]
      refine turn_steady (.pointer (some ⟨fb, 1, none⟩)) rfl rfl (fun W' hS => ?_) ?_
      · go_simp
      try simp only [List.getElem_toArray, List.getElem_cons_succ, List.getElem_cons_zero, Act.put, List.setIfInBounds_toArray, List.set_cons_zero, List.set_cons_succ]
      refine turn_steady (.agg #[.int .i64 y, .int .i64 z]) rfl rfl (fun W' hS => ?_) ?_
      · obtain ⟨s0, s1, s2, s3, s4, s5, s6⟩ := three_facts hS
        clear hS
        go_simp
      try simp only [List.getElem_toArray, List.getElem_cons_succ, List.getElem_cons_zero, Act.put, List.setIfInBounds_toArray, List.set_cons_zero, List.set_cons_succ]
      refine turn_steady (.slice none 0 0) rfl rfl (fun W' hS => ?_) ?_
      · go_simp
      try simp only [List.getElem_toArray, List.getElem_cons_succ, List.getElem_cons_zero, Act.put, List.setIfInBounds_toArray, List.set_cons_zero, List.set_cons_succ]
      refine turn_steady (.int .i64 x) rfl rfl (fun W' hS => ?_) ?_
      · go_simp
      try simp only [List.getElem_toArray, List.getElem_cons_succ, List.getElem_cons_zero, Act.put, List.setIfInBounds_toArray, List.set_cons_zero, List.set_cons_succ]
      obtain ⟨q0, q1, q2, q3, q4⟩ := two_facts H3.out.1
      refine turn_heavy rfl (fun Kx hKx => ?_)
      go_wp2_with fail
      have H4 := Lib.hid ((H3.out.2.setCell (p := ⟨w.heap.size, 0, none⟩) (Nat.le_refl _) (.int .i64 y)).setCell (p := ⟨w.heap.size, 1, none⟩) (Nat.le_refl _) (.int .i64 z))
      have h5 : ((Wd.setCell ⟨w.heap.size, 0, none⟩ (.int .i64 y)).setCell ⟨w.heap.size, 1, none⟩ (.int .i64 z)).heap[w.heap.size]? = some (.cells #[.int .i64 y, .int .i64 z] 24 (0, 0)) := by rw [set_same (set_same H3.out.1 0 _) 1]; rfl
      refine hKx _ _ (fun h => absurd rfl h) ?_
      generalize World.setCell _ _ _ = W5 at H4 h5 ⊢
      clear q0 q1 q2 q3 q4 hKx H3
      refine turn_end ?_
      try simp only [List.getElem_toArray, List.getElem_cons_succ, List.getElem_cons_zero, Act.put, List.setIfInBounds_toArray, List.set_cons_zero, List.set_cons_succ]
      obtain ⟨q0, q1, q2, q3, q4⟩ := two_facts h5
      go_wp2_with fail
      refine bodyPost_ret (v := .tuple #[.slice none 0 0, .int .i64 x, .agg #[.int .i64 y, .int .i64 z]]) (by simp [results, Tryz.results14, go_sem, q0, q1, q2]) rfl ?_
      rw [Hfin.out]
      exact ⟨H4.out, rfl⟩
    | ok u st =>
      rw [hres] at hq
      obtain ⟨hms, v, rfl, hv⟩ := hq
      obtain rfl : v = faultV 0 0 0 := hv
      have Hfin := Lib.hid (hre.trans hres)
      have Hfl' := Lib.hid (Hfl.out st (hre.trans hres))
      have Hms := Lib.hid hms
      clear hres hre hmv H0 hms
      unfold faultV
      have hb2 : Below w1.heap.size w1 (w1.alloc (.cells #[.int .i64 0, .int .i64 0, .int .i64 0] 89)) := (Below.refl _ w1).alloc (Nat.le_refl _) _
      have H2 := Lib.hid (And.intro (Hms.out.below hb2) (And.intro (stays H1.out.1 hb2) (H1.out.2.trans (hb2.mono H1.out.2.size))))
      obtain ⟨q0, q1, q2, q3, q4, q5, q6⟩ := three_facts Hms.out.head
      clear hb2
      go_wp2_with fail
      have hnl := Hfl'.out.1
      generalize World.alloc _ _ = W at H2 ⊢
      clear q0 q1 q2 q3 q4 q5 q6 H1 Hms
      obtain ⟨D, hown, hperm, hsize⟩ := H2.out.1.owns (by omega)
      refine ((callsIn_wide (n := 5)).1 (Tryz.maps_Keys_38 (some (w.heap.size + 1)) W)).mono ?_
      rintro e w2 ⟨rfl, hw2⟩
      subst hw2
      have HS := Lib.hid ((callsIn_wide (n := 5)).1 (Tryz.slices_Sorted_keys_37_38 (w.heap.size + 1) _ D anyElem W hown (by rw [hsize]; unfold maxLen; omega) (by rw [hsize]; omega)))
      have Hperm := Lib.hid hperm
      have hbW : Below W.heap.size W (W.alloc (.cells #[.map (some (w.heap.size + 1))] 85)) := (Below.refl _ W).alloc (Nat.le_refl _) _
      have H3 := Lib.hid (And.intro (H2.out.1.below hbW) (And.intro (stays H2.out.2.1 hbW) (H2.out.2.2.trans (hbW.mono H2.out.2.2.size))))
      clear hown hperm hsize hbW H2
      go_wp2_with fail
      refine HS.out.mono ?_
      rintro e w3 ⟨v, ss, rfl, hS, hrow, -, hb3⟩
      have hK := keysB_own (hS.trans Hperm.out) hrow
      obtain ⟨aK, cK, rfl, hst, -⟩ := hK.strsAt
      have Hst := Lib.hid hst
      have H4 := Lib.hid (And.intro (H3.out.1.below hb3) (And.intro (stays H3.out.2.1 hb3) (H3.out.2.2.trans (hb3.mono H3.out.2.2.size))))
      have hkl : (keysB st.names).length ≤ 1000 := by rw [keysB_len]; exact hnl
      clear hS hrow hb3 hK hst H3 HS Hperm
      obtain ⟨i0, hi, hz0, hz1, hz2⟩ := info_parts infoNamed
      go_wp2_with fail
      go_loopw [15, 55] (fun v i wr => ∃ j : Nat, i = .int .i64 j ∧ j ≤ (keysB st.names).length ∧ Hid (OwnD (fun b => w.heap.size + 1 ≤ b) wr w3.heap.size 33 6 v (namedsD ((sortN st.names).take j))) ∧ Hid (Below w3.heap.size w3 wr)) (fun _ i _ => (keysB st.names).length - (intOf i).toNat)
      case atStart => exact ⟨0, rfl, Nat.zero_le _, Lib.hid (OwnD.nil _ _ _ _ _), Lib.hid (Below.refl _ _)⟩
      case round =>
        obtain ⟨j, rfl, hj, hown, hbw⟩ := hrel
        have Hm := Lib.hid (H4.out.1.below hbw.out)
        obtain ⟨q0, q1, q2, q3, q4, q5, q6⟩ := three_facts Hm.out.head
        by_cases hlt : j < (keysB st.names).length
        · have hjx : (keysB st.names)[j]? = some (keysB st.names)[j] := List.getElem?_eq_getElem hlt
          obtain ⟨q, hq, hqs⟩ := keysB_mem (List.getElem_mem hlt)
          obtain ⟨bK, oK, hak, hck⟩ := (Hst.out.below hbw.out) j _ hjx
          subst hak
          have hnx := sortN_get hjx
          generalize (keysB st.names)[j] = sn at hjx hqs hck hnx
          subst hqs
          obtain ⟨cs, hlk, hag, hlook⟩ := Hm.out.look1 hq
          obtain ⟨hf1, hf2⟩ := Hfl'.out.2 q hq
          obtain ⟨nm, vk, vn, vs, vl, vks⟩ := q
          obtain rfl : vl = [] := hf1
          obtain rfl : vks = [] := hf2
          obtain ⟨a1, c1, a2, c2, rfl, -, -⟩ := hag.val
          rw [hlk, Option.getD_some] at hnx
          have Htk : Hid (namedsD ((sortN st.names).take (j + 1)) = namedsD ((sortN st.names).take j) ++ [namedD (nm, .mk vk vn vs [] [])]) := Lib.hid (by rw [List.take_add_one, hnx, namedsD_append]; rfl)
          have hlj : (namedsD ((sortN st.names).take j)).length = j := by rw [namedsD_len, List.length_take, sortN_len]; have : (sortKeys st.names).length = (keysB st.names).length := by simp [keysB]
                                                                          omega
          obtain ⟨aO, cO, hO, -⟩ := (hown.out.keep (F := fun b => w.heap.size + 1 ≤ b) (fun _ _ _ => rfl) (Nat.le_refl _)).rowAt (fun g hg => by have := (hown.out.block_lt hg).1; have := here H4.out.2.1; have := H4.out.2.2.size; omega)
          rw [hlj] at hO
          subst hO
          clear hnx hlk hag hjx hq
          simp only [List.length_nil] at hlook
          go_wp2_with fail
          refine (copied_flat vk vn vs a1 c1 a2 c2 _).mono ?_
          rintro e w4 ⟨x1, y1, x2, y2, rfl, hb4⟩
          have hbn : Below w4.heap.size w4 (w4.alloc (.cells #[.string nm, .int .i64 vk, .int .i64 vn, .string vs, .slice x1 0 y1, .slice x2 0 y2] 33)) := (Below.refl _ w4).alloc (Nat.le_refl _) _
          have Hown4 := Lib.hid ((hown.out.below hb4).below hbn)
          have Hbw4 := Lib.hid (hbw.out.trans ((hb4.trans (hbn.mono hb4.size)).mono hbw.out.size))
          have hnews := lit_news w4 [.string nm, .int .i64 vk, .int .i64 vn, .string vs, .slice x1 0 y1, .slice x2 0 y2] 33
          have Hnews := Lib.hid hnews
          have Hag : Hid (AggAt (fun b => w.heap.size + 1 ≤ b ∧ (Value.slice aO j cO).ownBlock ≠ some b) (w4.alloc (.cells #[.string nm, .int .i64 vk, .int .i64 vn, .string vs, .slice x1 0 y1, .slice x2 0 y2] 33)) (namedD (nm, .mk vk vn vs [] [])) [.string nm, .int .i64 vk, .int .i64 vn, .string vs, .slice x1 0 y1, .slice x2 0 y2]) := Lib.hid (AggAt.named_mk (l := []) (ks := []) nm vk vn vs y1 y2 (RowAt.nil _) (RowAt.nil _))
          have hsz4 : w3.heap.size ≤ w4.heap.size := Nat.le_trans hbw.out.size hb4.size
          have Hobl : Hid (∀ g, (Value.slice aO j cO).ownBlock = some g → w3.heap.size ≤ g) := Lib.hid (fun g hg => (hown.out.block_lt hg).1)
          clear hbn hb4 hnews hown hbw Hm
          go_wp2_with (at_builtin; refine wpList_append_dat rfl _ _ 22 rfl w3.heap.size 33 i0 _ 6 96 Tryz.underlying22 hi hz0 hz1 hz2 rfl (by decide) (.slice aO j cO) (fun b => w.heap.size + 1 ≤ b) (namedsD ((sortN st.names).take j)) rfl Hown4.out ⟨w4.heap.size, 0, none⟩ 1 (namedD (nm, .mk vk vn vs [] [])) [.string nm, .int .i64 vk, .int .i64 vn, .string vs, .slice x1 0 y1, .slice x2 0 y2] rfl rfl Hnews.out ?_ Hag.out ?_ ?_ ?_ ?_)
          · simp [Value.oneCell']
          · rw [hlj]; unfold maxLen; omega
          · rw [hlj]; omega
          · simp; omega
          intro v5 w5 hown5 hgrow5 _
          have Hown5 : Hid (OwnD (fun b => w.heap.size + 1 ≤ b) w5 w3.heap.size 33 6 v5 (namedsD ((sortN st.names).take (j + 1)))) := Lib.hid (by rw [Htk.out]; exact hown5)
          have Hbw5 : Hid (Below w3.heap.size w3 w5) := Lib.hid (Hbw4.out.trans (grown_below hgrow5 Hobl.out Hbw4.out.size))
          obtain ⟨aO5, cO5, hO5, -⟩ := Hown5.out.rowAt (fun g hg => by have := (Hown5.out.block_lt hg).1; have := here H4.out.2.1; have := H4.out.2.2.size; omega)
          subst hO5
          clear hown5 hgrow5 Hown4 Hbw4 Hnews Hag Hobl hsz4 q0 q1 q2 q3 q4 q5 q6
          go_wp2_with fail
          go_roundw
          case rel => exact ⟨j + 1, by go_num, by omega, Hown5, Hbw5⟩
          case measure => simp only [intOf]; omega
        · have hjl : (sortN st.names).take j = sortN st.names := List.take_of_length_le (by rw [sortN_len]; have : (sortKeys st.names).length = (keysB st.names).length := by simp [keysB]
                                                                                            omega)
          rw [hjl] at hown
          obtain ⟨aO, cO, hO, hrow⟩ := hown.out.rowAt (fun g hg => by have := (hown.out.block_lt hg).1; have := here H4.out.2.1; have := H4.out.2.2.size; omega)
          subst hO
          have Hrow := Lib.hid hrow
          have Hpl := Lib.hid (stays H4.out.2.1 hbw.out)
          have Hbz := Lib.hid (H4.out.2.2.trans (hbw.out.mono H4.out.2.2.size))
          obtain ⟨r0, r1, r2, r3, r4⟩ := two_facts Hpl.out
          clear hjl hown hrow hbw q0 q1 q2 q3 q4 q5 q6 Hm
          go_wp2_with fail
          have Hend := Lib.hid ((Hbz.out.setCell (p := ⟨w.heap.size, 0, none⟩) (Nat.le_refl _) (.int .i64 0)).setCell (p := ⟨w.heap.size, 1, none⟩) (Nat.le_refl _) (.int .i64 0))
          have hpl2 : ((wr.setCell ⟨w.heap.size, 0, none⟩ (.int .i64 0)).setCell ⟨w.heap.size, 1, none⟩ (.int .i64 0)).heap[w.heap.size]? = some (.cells #[.int .i64 0, .int .i64 0] 24 (0, 0)) := by rw [set_same (set_same Hpl.out 0 _) 1]; rfl
          have Hrow2 : Hid (RowAt (fun b => w.heap.size ≤ b) ((wr.setCell ⟨w.heap.size, 0, none⟩ (.int .i64 0)).setCell ⟨w.heap.size, 1, none⟩ (.int .i64 0)) aO (namedsD (sortN st.names))) := Lib.hid (Hrow.out.mono fun b hb hl => ⟨by show w.heap.size ≤ b; have : w.heap.size + 1 ≤ b := hb; omega, by simpa using hl, by have : w.heap.size + 1 ≤ b := hb; rw [set_other (by omega), set_other (by omega)]⟩)
          generalize World.setCell _ _ _ = W6 at Hend hpl2 Hrow2 ⊢
          obtain ⟨p0, p1, p2, p3, p4⟩ := two_facts hpl2
          refine bodyPost_ret (v := .tuple #[.slice aO (namedsD (sortN st.names)).length cO, .int .i64 0, .agg #[.int .i64 0, .int .i64 0]]) (by simp [results, Tryz.results14, go_sem, p0, p1, p2]) rfl ?_
          rw [Hfin.out]
          exact ⟨Hend.out, aO, cO, by rw [namedsD_len], Hrow2.out⟩
end Go.Proofs.YtmmflgbhgjefmaaGreatDoor
