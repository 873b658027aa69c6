/-
  A map of numbers to values that the program makes, told as a function: what a look-up finds, what a store at a number that is not there leaves.
  The walk of rules.given: the values that a declaration gives to attributes, by their numbers.
  The walks of the reference's Great and Wide: they say yes or no; no: not more than twelve, no long names.
-/
import Derived.Test.YthknljeffpbbmaaGreatDoorRawMap
import Derived.Test.YthknljeffpbbmaaGreatDoorMBindFits
import Derived.Test.YthknljeffpbbmaaGreatDoorMSame0
namespace Go.Proofs.YthknljeffpbbmaaGreatDoor
open Go Go.RowKit Go.Maps

theorem lit_few {i : Nat} (h : i < 1000) : (Lit.int .i64 i).wf = true := by
  have h2 : ((i : Int)) < 1000 := by omega
  have h3 : (0 : Int) ≤ i := by omega
  generalize (i : Int) = x at *
  simp only [Lit.wf, Bool.and_eq_true, decide_eq_true_eq]
  exact ⟨Int.le_trans (show IntKind.i64.min ≤ 0 by decide) h3, Int.le_trans (Int.le_of_lt h2) (show (1000 : Int) ≤ IntKind.i64.max by decide)⟩
/-- The map in block mb; its values' rows lie in blocks F. -/
def GivAt (F : Nat → Prop) (w : World) (mb : Nat) (f : GM) : Prop :=
  ∃ m, RawMap w mb m ∧ (∀ p ∈ m, ∃ (i : Nat) (v : Vl) (cs : List Value), p = (.int .i64 i, .agg cs.toArray) ∧ i < 1000 ∧ f i = some v ∧ AggAt F w (valD v) cs) ∧
    ∀ i : Nat, (∀ p ∈ m, p.1 ≠ .int .i64 i) → f i = none
theorem GivAt.made (F : Nat → Prop) (w : World) : GivAt F (w.alloc (.map #[] 0)) w.heap.size (fun _ => none) := ⟨[], RawMap.made w, (by intro p hp; cases hp), fun _ _ => rfl⟩
theorem GivAt.lt {F : Nat → Prop} {w : World} {mb : Nat} {f : GM} (h : GivAt F w mb f) : mb < w.heap.size := let ⟨_, h, _⟩ := h; h.lt
/-- Where its block and those of its values stay. -/
theorem GivAt.mono {F G : Nat → Prop} {w w' : World} {mb : Nat} {f : GM} (h : GivAt F w mb f) (hm : w'.heap[mb]? = w.heap[mb]?) (hk : ∀ b, F b → b < w.heap.size → G b ∧ b < w'.heap.size ∧ w'.heap[b]? = w.heap[b]?) : GivAt G w' mb f := by
  obtain ⟨m, h1, h2, h3⟩ := h
  refine ⟨m, h1.of_block hm, fun p hp => ?_, h3⟩
  obtain ⟨i, v, cs, e, hi, hf, ha⟩ := h2 p hp
  exact ⟨i, v, cs, e, hi, hf, ha.mono hk⟩
theorem GivAt.below {F : Nat → Prop} {w w' : World} {mb : Nat} {f : GM} (h : GivAt F w mb f) (hb : Below w.heap.size w w') : GivAt F w' mb f := h.mono (hb.block mb h.lt) (keep_below F hb)
section
variable {P : Program} {k e t : TypeId} {F : Nat → Prop} {w : World} {mb : Nat} {f : GM}
theorem GivAt.look (h : GivAt F w mb f) (hk : P.underlying k = some (.int .i64)) (ht : P.underlying t = some (.map k e)) {z : Value} (hz : (zeroValue e).run P w = .ok z w) (c : Bool) (i : Nat) (hi : i < 1000) :
    (f i = none ∧ (Instr.lookup t (.map (some mb)) (.int .i64 i) c).run P w = .ok (if c then .tuple #[z, .bool false] else z) w) ∨
      ∃ v cs, f i = some v ∧ AggAt F w (valD v) cs ∧ (Instr.lookup t (.map (some mb)) (.int .i64 i) c).run P w = .ok (if c then .tuple #[.agg cs.toArray, .bool true] else .agg cs.toArray) w := by
  obtain ⟨m, h1, h2, h3⟩ := h
  have hks : KeysOk P k m := fun p hp => by
    obtain ⟨j, v, cs, rfl, hj, -, -⟩ := h2 p hp
    exact ⟨_, keyOf_int_mk hk (lit_few (by omega))⟩
  rcases h1.look c (int_keyed hk) ht hz hks (key := .int .i64 i) (keyOf_int_mk hk (lit_few (by omega))) with ⟨g1, g2⟩ | ⟨j, v, g1, g2⟩
  · exact .inl ⟨h3 i g1, g2⟩
  · obtain ⟨i', v', cs, he, -, hf, ha⟩ := h2 _ (List.mem_of_getElem? g1)
    simp only [Prod.mk.injEq, Value.int.injEq, true_and] at he
    obtain ⟨he, rfl⟩ := he
    obtain rfl : i = i' := by exact_mod_cast he
    exact .inr ⟨v', cs, hf, ha, g2⟩
/-- No number below nought is there. -/
theorem GivAt.look_neg (h : GivAt F w mb f) (hk : P.underlying k = some (.int .i64)) (ht : P.underlying t = some (.map k e)) {z : Value} (hz : (zeroValue e).run P w = .ok z w) (c : Bool) :
    (Instr.lookup t (.map (some mb)) (.int .i64 (-1)) c).run P w = .ok (if c then .tuple #[z, .bool false] else z) w := by
  obtain ⟨m, h1, h2, h3⟩ := h
  have hks : KeysOk P k m := fun p hp => by
    obtain ⟨j, v, cs, rfl, hj, -, -⟩ := h2 p hp
    exact ⟨_, keyOf_int_mk hk (lit_few (by omega))⟩
  rcases h1.look c (int_keyed hk) ht hz hks (key := .int .i64 (-1)) (keyOf_int_mk hk (by decide)) with ⟨g1, g2⟩ | ⟨j, v, g1, g2⟩
  · exact g2
  · obtain ⟨i', v', cs, he, -, hf, ha⟩ := h2 _ (List.mem_of_getElem? g1)
    simp only [Prod.mk.injEq, Value.int.injEq, true_and] at he
    omega
theorem GivAt.store (h : GivAt F w mb f) (hk : P.underlying k = some (.int .i64)) (ht : P.underlying t = some (.map k e)) (hF : ¬ F mb) (i : Nat) (hi : i < 1000) (hn : f i = none) (v : Vl) (cs : List Value) (hc : AggAt F w (valD v) cs) :
    ∃ o, (Instr.mapUpdate t (.map (some mb)) (.int .i64 i) (.agg cs.toArray)).run P w = .ok () (w.putObj mb o) ∧ GivAt F (w.putObj mb o) mb (gPut f i v) := by
  obtain ⟨m, h1, h2, h3⟩ := h
  have hks : KeysOk P k m := fun p hp => by
    obtain ⟨j, v, cs, rfl, hj, -, -⟩ := h2 p hp
    exact ⟨_, keyOf_int_mk hk (lit_few (by omega))⟩
  obtain ⟨o, m', g1, g2, g3⟩ := h1.store (int_keyed hk) ht hks (key := .int .i64 i) (keyOf_int_mk hk (lit_few (by omega))) (.agg cs.toArray)
  have hst : ∀ b, F b → b < w.heap.size → F b ∧ b < (w.putObj mb o).heap.size ∧ (w.putObj mb o).heap[b]? = w.heap[b]? :=
    fun b hb hl => ⟨hb, by simpa [World.putObj] using hl, World.putObj_heap_other (fun e => hF (by rw [← e]; exact hb))⟩
  refine ⟨o, g1, m', g2, ?_, ?_⟩
  · rcases g3 with ⟨hno, rfl⟩ | ⟨j, u, hj, rfl⟩
    · intro p hp
      rcases List.mem_append.1 hp with hp | hp
      · obtain ⟨i', v', cs', rfl, hi', hf, ha⟩ := h2 p hp
        refine ⟨i', v', cs', rfl, hi', ?_, ha.mono hst⟩
        unfold gPut
        rw [if_neg]
        · exact hf
        · rintro rfl
          rw [hn] at hf
          cases hf
      · rw [List.mem_singleton.1 hp]
        exact ⟨i, v, cs, rfl, hi, by unfold gPut; rw [if_pos rfl], hc.mono hst⟩
    · obtain ⟨i', v', cs', he, -, hf, -⟩ := h2 _ (List.mem_of_getElem? hj)
      simp only [Prod.mk.injEq, Value.int.injEq, true_and] at he
      obtain rfl : i = i' := by have := he.1; omega
      rw [hn] at hf
      cases hf
  · intro i' hno'
    unfold gPut
    rcases g3 with ⟨hno, rfl⟩ | ⟨j, u, hj, rfl⟩
    · rw [if_neg]
      · exact h3 i' fun p hp => hno' p (List.mem_append_left _ hp)
      · rintro rfl
        exact hno' _ (List.mem_append_right _ (List.mem_singleton.2 rfl)) rfl
    · obtain ⟨i2, v', cs', he, -, hf, -⟩ := h2 _ (List.mem_of_getElem? hj)
      simp only [Prod.mk.injEq, Value.int.injEq, true_and] at he
      obtain rfl : i = i2 := by have := he.1; omega
      rw [hn] at hf
      cases hf
end
end Go.Proofs.YthknljeffpbbmaaGreatDoor
namespace Go.Proofs.YthknljeffpbbmaaGreatDoor
open Go Go.RowKit

theorem zeroValV (w : World) : (zeroValue 37).run Tryz.prog w = .ok (.agg #[.int .i64 0, .int .i64 0, .string ⟨#[]⟩, .slice none 0 0, .slice none 0 0]) w := by kernel_rfl
theorem below_putG {w wr : World} {n b : Nat} (h : Below n w wr) (hb : n ≤ b) (o : Obj) : Below n w (wr.putObj b o) :=
  ⟨h.os, h.tape, h.output, by have := h.size; simpa [World.putObj] using this, fun i hi => (World.putObj_heap_other (by omega)).trans (h.block i hi)⟩
def PGiven (F : Nat → Prop) (l : List AttrP) (r : Except Int (List Vl)) (w : World) (e : Ending) (w' : World) : Prop :=
  Below w.heap.size w w' ∧ match r with
    | .ok vs => ∃ (mb : Nat) (f : GM), e = .returned (.tuple #[.map (some mb), .int .i64 0]) ∧ w.heap.size ≤ mb ∧ GivAt F w' mb f ∧ ∀ i, i < l.length → f i = vs[i]?
    | .error k => e = .returned (.tuple #[.map none, .int .i64 k])
theorem six_facts {w : World} {b : Nat} {c0 c1 c2 c3 c4 c5 : Value} {t : TypeId} (h : w.heap[b]? = some (.cells #[c0, c1, c2, c3, c4, c5] t (0, 0))) :
    b < w.heap.size ∧ w.cell? ⟨b, 0, none⟩ = some c0 ∧ w.cell? ⟨b, 1, none⟩ = some c1 ∧ w.cell? ⟨b, 2, none⟩ = some c2 ∧ w.cell? ⟨b, 3, none⟩ = some c3 ∧ w.cell? ⟨b, 4, none⟩ = some c4 ∧ w.cell? ⟨b, 5, none⟩ = some c5 := by
  obtain ⟨h1, h2, h3⟩ := block_facts h
  exact ⟨h1, h2 0, h2 1, h2 2, h2 3, h2 4, h2 5⟩
theorem gGo_at {l : List AttrP} {args : List (ByteArray × Vl)} {j : Nat} {x : ByteArray × Vl} (hx : args[j]? = some x) (m : GM) : gGo l (args.drop j) m = match gStep l m x with | .error e => .error e | .ok m' => gGo l (args.drop (j + 1)) m' := by
  obtain ⟨h1, h2⟩ := List.getElem?_eq_some_iff.1 hx
  rw [List.drop_eq_getElem_cons h1, h2, gGo]
  cases gStep l m x <;> rfl
theorem gLack_at {l : List AttrP} {j : Nat} {x : AttrP} (hx : l[j]? = some x) (m : GM) : gLack m j (l.drop j) = ((x.must && (m j).isNone) || gLack m (j + 1) (l.drop (j + 1))) := by
  obtain ⟨h1, h2⟩ := List.getElem?_eq_some_iff.1 hx
  rw [List.drop_eq_getElem_cons h1, h2, gLack]
theorem idxA_lt {l : List AttrP} {s : ByteArray} {i : Nat} (h : idxA l s = some i) : i < l.length := by
  obtain ⟨a, ha, -⟩ := idxA_some h
  exact (List.getElem?_eq_some_iff.1 ha).1

set_option maxRecDepth 100000 in
set_option maxHeartbeats 8000000 in
theorem given_any (F : Nat → Prop) (a aD : Option Addr) (cap capD : Nat) (l : List AttrP) (args : List (ByteArray × Vl)) (w : World) (hl : l.length ≤ 900) (hla : args.length ≤ 1000) (_hs : ∀ x ∈ l, smallV x.dflt) (hsa : ∀ q ∈ args, smallV q.2) (hF : ∀ b, F b → b < w.heap.size) (hr : RowAt F w a (attrsD l)) (hra : RowAt F w aD (namedsD args)) :
    Calls Tryz.prog 18 #[.slice a l.length cap, .slice aD args.length capD] w (PGiven F l (givenL l args) w) := by
  have Hr := Lib.hid hr
  have Hra := Lib.hid hra
  have Hsa := Lib.hid hsa
  have HF := Lib.hid hF
  have HGm := Lib.hid (GivAt.made F w)
  have Hbm : Hid (Below w.heap.size w (w.alloc (.map #[] 0))) := Lib.hid ((Below.refl _ w).alloc (Nat.le_refl _) _)
  have Hgl : Hid (∀ r, gGo l args (fun _ => none) = r → givenL l args = match r with | .error e => .error e | .ok m => if gLack m 0 l then .error 10 else .ok (gVals m 0 l)) := Lib.hid (fun r h => by unfold givenL; rw [h]; cases r <;> rfl)
  clear hr hra _hs hsa hF
  have hmm := @run_makeMap Tryz.prog
  go_enter Tryz.func18, Tryz.ntmps18
  go_wp2_with fail
  go_loopw [19] (fun i wr => ∃ (j : Nat) (m : GM), i = .int .i64 j ∧ j ≤ args.length ∧ Hid (GivAt F wr w.heap.size m) ∧ Hid (Below w.heap.size w wr) ∧ Hid (gGo l args (fun _ => none) = gGo l (args.drop j) m)) (fun i _ => args.length - (intOf i).toNat)
  case atStart => exact ⟨0, _, rfl, Nat.zero_le _, HGm, Hbm, Lib.hid rfl⟩
  case round =>
    obtain ⟨j, m, rfl, hj, hg, hb, hp⟩ := hrel
    by_cases hlt : j < args.length
    · have hq0 : args[j]? = some args[j] := List.getElem?_eq_getElem hlt
      generalize args[j] = q at hq0
      obtain ⟨nm, ⟨vk, vn, vs, vl, vks⟩⟩ := q
      have hgo := hp.out.trans (gGo_at hq0 m)
      have Hsz := Lib.hid (Hsa.out _ (List.mem_of_getElem? hq0))
      obtain ⟨b0, off0, a1, c1, a2, c2, hae, -, hbl, r0, r1, r2, r3, r4, r5, hv1, hv2⟩ := (Hra.out.below hb.out).named hq0
      subst hae
      clear hq0 hp
      simp only at Hsz
      have hba : Below wr.heap.size wr (wr.alloc (.cells #[.string nm, .int .i64 vk, .int .i64 vn, .string vs, .slice a1 vl.length c1, .slice a2 vks.length c2] 39)) := (Below.refl _ wr).alloc (Nat.le_refl _) _
      have hx := heap_alloc_new wr (.cells #[.string nm, .int .i64 vk, .int .i64 vn, .string vs, .slice a1 vl.length c1, .slice a2 vks.length c2] 39)
      have HN := Lib.hid (named_any F a cap l nm _ (by omega) ((Hr.out.below hb.out).below hba))
      have H1 := Lib.hid (And.intro hx (And.intro (hb.out.trans (hba.mono hb.out.size)) (And.intro (hg.out.below hba) (And.intro (hv1.below hba) (hv2.below hba)))))
      clear hx hba hg hb hv1 hv2
      go_wp2_with fail
      refine HN.out.mono ?_
      rintro e w2 ⟨rfl, hb2⟩
      have H2 := Lib.hid (And.intro (stays H1.out.1 hb2) (And.intro (H1.out.2.1.trans (hb2.mono H1.out.2.1.size)) (And.intro (H1.out.2.2.1.below hb2) (And.intro (H1.out.2.2.2.1.below hb2) (H1.out.2.2.2.2.below hb2)))))
      clear hb2 H1 HN r0 r1 r2 r3 r4 r5
      obtain ⟨s0, s1, s2, s3, s4, s5, s6⟩ := six_facts H2.out.1
      have hmb := H2.out.2.2.1.lt
      by_cases hnm : nm.data.toList = []
      · have Hst : Hid (gGo l args (fun _ => none) = .error 3) := Lib.hid (by rw [hgo]; unfold gStep; rw [if_pos hnm])
        obtain rfl : nm = ⟨#[]⟩ := bytes_ext (by rw [hnm])
        clear hgo hnm
        cases hi : idxA l ⟨#[]⟩ with
        | none =>
          have e : idxI l ⟨#[]⟩ = -1 := by unfold idxI; rw [hi]
          rw [e]
          have hlk : (Instr.lookup 64 (.map (some w.heap.size)) (.int .i64 (-1)) true).run Tryz.prog w2 = .ok (.tuple #[.agg #[.int .i64 0, .int .i64 0, .string ⟨#[]⟩, .slice none 0 0, .slice none 0 0], .bool false]) w2 := H2.out.2.2.1.look_neg Tryz.underlying3 Tryz.underlying64 (zeroValV w2) true
          clear e hi
          go_wp2_with fail
          refine bodyPost_ret (v := .tuple #[.map none, .int .i64 3]) (by simp [results, Tryz.results18, go_sem]) rfl ?_
          unfold PGiven
          rw [show givenL l args = .error 3 from Hgl.out _ Hst.out]
          exact ⟨H2.out.2.1.alloc H2.out.2.1.size _, rfl⟩
        | some i =>
          have e : idxI l ⟨#[]⟩ = (i : Int) := by unfold idxI; rw [hi]
          have hil := idxA_lt hi
          rw [e]
          clear e hi
          rcases H2.out.2.2.1.look Tryz.underlying3 Tryz.underlying64 (zeroValV w2) true i (by omega) with ⟨-, hlk⟩ | ⟨⟨uk, un, us, ul, uks⟩, cs, -, hag, hlk⟩
          · simp only [if_true] at hlk
            go_wp2_with fail
            refine bodyPost_ret (v := .tuple #[.map none, .int .i64 3]) (by simp [results, Tryz.results18, go_sem]) rfl ?_
            unfold PGiven
            rw [show givenL l args = .error 3 from Hgl.out _ Hst.out]
            exact ⟨H2.out.2.1.alloc H2.out.2.1.size _, rfl⟩
          · simp only [if_true] at hlk
            obtain ⟨x1, y1, x2, y2, rfl, -, -⟩ := hag.val
            go_wp2_with fail
            refine bodyPost_ret (v := .tuple #[.map none, .int .i64 3]) (by simp [results, Tryz.results18, go_sem]) rfl ?_
            unfold PGiven
            rw [show givenL l args = .error 3 from Hgl.out _ Hst.out]
            exact ⟨H2.out.2.1.alloc H2.out.2.1.size _, rfl⟩
      have n1 : (nm.toList == []) = false := by rw [Lib.toList_data]; simpa using hnm
      have n2 : nm.toList.isEmpty = false := by rw [Lib.toList_data]; simpa using hnm
      cases hi : idxA l nm with
      | none =>
        have Hst : Hid (gGo l args (fun _ => none) = .error 7) := Lib.hid (by rw [hgo]; unfold gStep; rw [if_neg hnm, hi])
        have e : idxI l nm = -1 := by unfold idxI; rw [hi]
        rw [e]
        have hlk : (Instr.lookup 64 (.map (some w.heap.size)) (.int .i64 (-1)) true).run Tryz.prog w2 = .ok (.tuple #[.agg #[.int .i64 0, .int .i64 0, .string ⟨#[]⟩, .slice none 0 0, .slice none 0 0], .bool false]) w2 := H2.out.2.2.1.look_neg Tryz.underlying3 Tryz.underlying64 (zeroValV w2) true
        clear e hi hgo hnm
        go_wp2_with fail
        refine bodyPost_ret (v := .tuple #[.map none, .int .i64 7]) (by simp [results, Tryz.results18, go_sem]) rfl ?_
        unfold PGiven
        rw [show givenL l args = .error 7 from Hgl.out _ Hst.out]
        exact ⟨H2.out.2.1.alloc H2.out.2.1.size _, rfl⟩
      | some i =>
        have e : idxI l nm = (i : Int) := by unfold idxI; rw [hi]
        have hil := idxA_lt hi
        have hin : ¬ ((i : Int) < 0) := by omega
        rw [e]
        rcases H2.out.2.2.1.look Tryz.underlying3 Tryz.underlying64 (zeroValV w2) true i (by omega) with ⟨hmi, hlk⟩ | ⟨⟨uk, un, us, ul, uks⟩, cs, hmi, hag, hlk⟩
        rotate_left
        · simp only [if_true] at hlk
          have Hst : Hid (gGo l args (fun _ => none) = .error 8) := Lib.hid (by rw [hgo]; unfold gStep; rw [if_neg hnm, hi]; simp only [hmi, Option.isSome_some, if_true])
          obtain ⟨x1, y1, x2, y2, rfl, -, -⟩ := hag.val
          clear hag hmi hgo hnm hi e
          go_wp2_with fail
          refine bodyPost_ret (v := .tuple #[.map none, .int .i64 8]) (by simp [results, Tryz.results18, go_sem]) rfl ?_
          unfold PGiven
          rw [show givenL l args = .error 8 from Hgl.out _ Hst.out]
          exact ⟨H2.out.2.1.alloc H2.out.2.1.size _, rfl⟩
        simp only [if_true] at hlk
        have hx0 : l[i]? = some l[i] := List.getElem?_eq_getElem hil
        have Hst : Hid (gGo l args (fun _ => none) = if fitsV l[i].type (.mk vk vn vs vl vks) = true then gGo l (args.drop (j + 1)) (gPut m i (.mk vk vn vs vl vks)) else .error 9) := Lib.hid (by
          rw [hgo]; unfold gStep
          rw [if_neg hnm, hi]
          simp only [hmi, Option.isSome_none, Bool.false_eq_true, if_false, hx0, Option.any_some]
          cases hff : fitsV l[i].type (.mk vk vn vs vl vks) <;> simp)
        generalize l[i] = x at hx0 Hst
        obtain ⟨nm', ty, mu, ⟨vk', vn', vs', vl', vks'⟩⟩ := x
        simp only at Hst
        have hb3 : Below w2.heap.size w2 (w2.alloc (.cells #[.int .i64 0, .int .i64 0, .string ⟨#[]⟩, .slice none 0 0, .slice none 0 0] 37)).drew := ((Below.refl _ w2).alloc (Nat.le_refl _) _).drew
        obtain ⟨b1, off1, x1, y1, x2, y2, hae, -, hbl1, -, t1, -, -, -, -, -, -, -, -⟩ := (Hr.out.below (H2.out.2.1.trans (hb3.mono H2.out.2.1.size))).attr hx0
        subst hae
        have H3 := Lib.hid (And.intro (And.intro (stays H2.out.1 hb3) t1) (And.intro (H2.out.2.1.trans (hb3.mono H2.out.2.1.size)) (And.intro (H2.out.2.2.1.below hb3) (And.intro (H2.out.2.2.2.1.below hb3) (H2.out.2.2.2.2.below hb3)))))
        have Hmi := Lib.hid hmi
        clear hgo hnm hi e hmi hx0 hb3 t1
        go_wp2_with fail
        refine wp_region_turns (.s 0 (.s 1 (.s 2 (.s 3 (.s 4 (.s 5 (.s 6 (.h 7 (.s 8 (.s 9 .nil)))))))))) 99 (fun W' => W'.heap[wr.heap.size]? = some (.cells #[.string nm, .int .i64 vk, .int .i64 vn, .string vs, .slice a1 vl.length c1, .slice a2 vks.length c2] 39 (0, 0)) ∧ W'.cell? ⟨b1, off1 + i * 8 + 1, none⟩ = some (.int .i64 ty)) (by kernel_rfl) (by kernel_rfl) (fun c a d v w h => by cases d <;> exact h) H3.out.1 ?_
        clear hlk s0 s1 s2 s3 s4 s5 s6 hmb H2
        generalize World.drew _ = W3 at H3 hbl1 ⊢
        refine turn_steady (.slice (some ⟨b1, off1, none⟩) l.length cap) rfl rfl (fun W' hS => ?_) ?_
        · go_simp
        try simp only [List.getElem_toArray, List.getElem_cons_zero, Act.put, List.setIfInBounds_toArray, List.set_cons_zero, List.set_cons_succ]
        refine turn_steady (.int .i64 i) rfl rfl (fun W' hS => ?_) ?_
        · go_simp
        try simp only [List.getElem_toArray, List.getElem_cons_succ, List.getElem_cons_zero, Act.put, List.setIfInBounds_toArray, List.set_cons_zero, List.set_cons_succ]
        refine turn_steady (.pointer (some ⟨b1, off1 + i * 8, none⟩)) rfl rfl (fun W' hS => ?_) ?_
        · go_simp
        try simp only [List.getElem_toArray, List.getElem_cons_succ, List.getElem_cons_zero, Act.put, List.setIfInBounds_toArray, List.set_cons_zero, List.set_cons_succ]
        refine turn_steady (.pointer (some ⟨b1, off1 + i * 8 + 1, none⟩)) rfl rfl (fun W' hS => ?_) ?_
        · go_simp
        try simp only [List.getElem_toArray, List.getElem_cons_succ, List.getElem_cons_zero, Act.put, List.setIfInBounds_toArray, List.set_cons_zero, List.set_cons_succ]
        refine turn_steady (.int .i64 ty) rfl rfl (fun W' hS => ?_) ?_
        · have hS2 := hS.2
          clear hS
          go_simp
        try simp only [List.getElem_toArray, List.getElem_cons_succ, List.getElem_cons_zero, Act.put, List.setIfInBounds_toArray, List.set_cons_zero, List.set_cons_succ]
        refine turn_steady (.pointer (some ⟨wr.heap.size, 1, none⟩)) rfl rfl (fun W' hS => ?_) ?_
        · go_simp
        try simp only [List.getElem_toArray, List.getElem_cons_succ, List.getElem_cons_zero, Act.put, List.setIfInBounds_toArray, List.set_cons_zero, List.set_cons_succ]
        refine turn_steady (.agg #[.int .i64 vk, .int .i64 vn, .string vs, .slice a1 vl.length c1, .slice a2 vks.length c2]) rfl rfl (fun W' hS => ?_) ?_
        · obtain ⟨z0, z1, z2, z3, z4, z5, z6⟩ := six_facts hS.1
          clear hS
          go_simp
        try simp only [List.getElem_toArray, List.getElem_cons_succ, List.getElem_cons_zero, Act.put, List.setIfInBounds_toArray, List.set_cons_zero, List.set_cons_succ]
        refine turn_heavy rfl (fun K7 hK7 => ?_)
        go_wp2_with fail
        refine (fits_any ty vk vn vs vl vks Hsz.out F a1 c1 a2 c2 W3 (fun b hb => Nat.lt_of_lt_of_le (HF.out b hb) H3.out.2.1.size) H3.out.2.2.2.1 H3.out.2.2.2.2).mono ?_
        rintro e w4 ⟨rfl, hb4⟩
        have H4 := Lib.hid (And.intro (And.intro (stays H3.out.1.1 hb4) ((hb4.cell (p := ⟨b1, off1 + i * 8 + 1, none⟩) (by exact hbl1)).trans H3.out.1.2)) (And.intro (H3.out.2.1.trans (hb4.mono H3.out.2.1.size)) (And.intro (H3.out.2.2.1.below hb4) (And.intro (H3.out.2.2.2.1.below hb4) (H3.out.2.2.2.2.below hb4)))))
        clear hb4 H3 hbl1
        go_wp2_with fail
        refine hK7 _ _ (fun _ => H4.out.1) ?_
        try simp only [List.getElem_toArray, List.getElem_cons_succ, List.getElem_cons_zero, Act.put, List.setIfInBounds_toArray, List.set_cons_zero, List.set_cons_succ]
        cases hf : fitsV ty (.mk vk vn vs vl vks) with
        | false =>
          rw [hf, if_neg (by decide)] at Hst
          clear hf
          refine turn_steady (.bool true) rfl rfl (fun W' hS => ?_) ?_
          · go_simp
          try simp only [List.getElem_toArray, List.getElem_cons_succ, List.getElem_cons_zero, Act.put, List.setIfInBounds_toArray, List.set_cons_zero, List.set_cons_succ]
          refine turn_steady (.bool true) rfl rfl (fun W' hS => ?_) ?_
          · go_simp
          try simp only [List.getElem_toArray, List.getElem_cons_succ, List.getElem_cons_zero, Act.put, List.setIfInBounds_toArray, List.set_cons_zero, List.set_cons_succ]
          refine turn_end ?_
          try simp only [List.getElem_toArray, List.getElem_cons_succ, List.getElem_cons_zero, Act.put, List.setIfInBounds_toArray, List.set_cons_zero, List.set_cons_succ]
          go_wp2_with fail
          refine bodyPost_ret (v := .tuple #[.map none, .int .i64 9]) (by simp [results, Tryz.results18, go_sem]) rfl ?_
          unfold PGiven
          rw [show givenL l args = .error 9 from Hgl.out _ Hst.out]
          exact ⟨H4.out.2.1, rfl⟩
        | true =>
          rw [hf, if_pos rfl] at Hst
          clear hf
          refine turn_steady (.bool false) rfl rfl (fun W' hS => ?_) ?_
          · go_simp
          try simp only [List.getElem_toArray, List.getElem_cons_succ, List.getElem_cons_zero, Act.put, List.setIfInBounds_toArray, List.set_cons_zero, List.set_cons_succ]
          refine turn_steady (.bool false) rfl rfl (fun W' hS => ?_) ?_
          · go_simp
          try simp only [List.getElem_toArray, List.getElem_cons_succ, List.getElem_cons_zero, Act.put, List.setIfInBounds_toArray, List.set_cons_zero, List.set_cons_succ]
          refine turn_end ?_
          try simp only [List.getElem_toArray, List.getElem_cons_succ, List.getElem_cons_zero, Act.put, List.setIfInBounds_toArray, List.set_cons_zero, List.set_cons_succ]
          have hagg : AggAt F w4 (valD (.mk vk vn vs vl vks)) [.int .i64 vk, .int .i64 vn, .string vs, .slice a1 vl.length c1, .slice a2 vks.length c2] := AggAt.val_mk vk vn vs c1 c2 H4.out.2.2.2.1 H4.out.2.2.2.2
          obtain ⟨o, hup, hg5⟩ := H4.out.2.2.1.store Tryz.underlying3 Tryz.underlying64 (fun h => Nat.lt_irrefl _ (HF.out _ h)) i (by omega) Hmi.out (.mk vk vn vs vl vks) _ hagg
          have Hg5 := Lib.hid hg5
          have Hb5 := Lib.hid (below_putG H4.out.2.1 (Nat.le_refl _) o)
          obtain ⟨z0, z1, z2, z3, z4, z5, z6⟩ := six_facts H4.out.1.1
          have hmb := H4.out.2.2.1.lt
          clear hagg hg5
          go_wp2_with fail
          go_roundw
          case rel => exact ⟨j + 1, _, by go_num, by omega, Hg5, Hb5, Hst⟩
          case measure => simp only [intOf]; omega
    · have hgo : gGo l args (fun _ => none) = .ok m := by rw [hp.out, List.drop_eq_nil_of_le (by omega), gGo]
      have Hgl2 : Hid (givenL l args = if gLack m 0 l = true then .error 10 else .ok (gVals m 0 l)) := Lib.hid (Hgl.out _ hgo)
      have Hgv : Hid (∀ k x, l[k]? = some x → (gVals m 0 l)[k]? = some ((m k).getD x.dflt)) := Lib.hid (fun k x h => by have := gVals_get m 0 l k x h; rwa [Nat.zero_add] at this)
      have hwr : w.heap.size < wr.heap.size := hg.out.lt
      clear hgo hp Hgl HGm Hbm
      go_wp2_with fail
      go_loopw [59] (fun i wr2 => ∃ (j : Nat) (m2 : GM), i = .int .i64 j ∧ j ≤ l.length ∧ Hid (GivAt F wr2 w.heap.size m2) ∧ Hid (Below w.heap.size w wr2) ∧ Hid (gLack m 0 l = gLack m j (l.drop j)) ∧ Hid (∀ k, k < j → m2 k = (gVals m 0 l)[k]?) ∧ Hid (∀ k, j ≤ k → m2 k = m k)) (fun i _ => l.length - (intOf i).toNat)
      case atStart => exact ⟨0, m, rfl, Nat.zero_le _, hg, hb, Lib.hid rfl, Lib.hid (fun k h => absurd h (Nat.not_lt_zero _)), Lib.hid (fun _ _ => rfl)⟩
      case round =>
        clear hg hb hwr
        obtain ⟨i, m2, rfl, hi, hg, hb, hlk0, hlo, hhi⟩ := hrel
        by_cases hlt2 : i < l.length
        · have hx0 : l[i]? = some l[i] := List.getElem?_eq_getElem hlt2
          generalize l[i] = x at hx0
          obtain ⟨nm, ty, mu, ⟨vk, vn, vs, vl, vks⟩⟩ := x
          have hla2 := hlk0.out.trans (gLack_at hx0 m)
          have hv := Hgv.out i _ hx0
          simp only at hla2 hv
          obtain ⟨b0, off0, a1, c1, a2, c2, hae, -, hbl, r0, r1, r2, r3, r4, r5, r6, r7, hv1, hv2⟩ := (Hr.out.below hb.out).attr hx0
          subst hae
          have hba : Below wr.heap.size wr (wr.alloc (.cells #[.string nm, .int .i64 ty, .bool mu, .int .i64 vk, .int .i64 vn, .string vs, .slice a1 vl.length c1, .slice a2 vks.length c2] 55)) := (Below.refl _ wr).alloc (Nat.le_refl _) _
          have hx := heap_alloc_new wr (.cells #[.string nm, .int .i64 ty, .bool mu, .int .i64 vk, .int .i64 vn, .string vs, .slice a1 vl.length c1, .slice a2 vks.length c2] 55)
          have H1 := Lib.hid (And.intro hx (And.intro (hb.out.trans (hba.mono hb.out.size)) (And.intro (hg.out.below hba) (And.intro (hv1.below hba) (hv2.below hba)))))
          have hmb := hg.out.lt
          have hm2 := hhi.out i (Nat.le_refl _)
          clear hx0 hlk0 hx hba hg hb hv1 hv2
          rcases H1.out.2.2.1.look Tryz.underlying3 Tryz.underlying64 (zeroValV _) true i (by omega) with ⟨hmi, hlk⟩ | ⟨⟨uk, un, us, ul, uks⟩, cs, hmi, hag, hlk⟩
          · simp only [if_true] at hlk
            have hmi' : m i = none := by rw [← hm2]; exact hmi
            rw [hmi'] at hv
            simp only [Option.getD_none] at hv
            have Hv := Lib.hid hv
            have Hmi := Lib.hid hmi
            have hb2 : Below (wr.alloc (.cells #[.string nm, .int .i64 ty, .bool mu, .int .i64 vk, .int .i64 vn, .string vs, .slice a1 vl.length c1, .slice a2 vks.length c2] 55)).heap.size (wr.alloc (.cells #[.string nm, .int .i64 ty, .bool mu, .int .i64 vk, .int .i64 vn, .string vs, .slice a1 vl.length c1, .slice a2 vks.length c2] 55)) ((wr.alloc (.cells #[.string nm, .int .i64 ty, .bool mu, .int .i64 vk, .int .i64 vn, .string vs, .slice a1 vl.length c1, .slice a2 vks.length c2] 55)).alloc (.cells #[.int .i64 0, .int .i64 0, .string ⟨#[]⟩, .slice none 0 0, .slice none 0 0] 37)) := (Below.refl _ _).alloc (Nat.le_refl _) _
            have H2 := Lib.hid (And.intro (stays H1.out.1 hb2) (And.intro (H1.out.2.1.trans (hb2.mono H1.out.2.1.size)) (And.intro (H1.out.2.2.1.below hb2) (And.intro (H1.out.2.2.2.1.below hb2) (H1.out.2.2.2.2.below hb2)))))
            clear hb2
            cases mu with
            | true =>
              have Hla : Hid (gLack m 0 l = true) := Lib.hid (by rw [hla2, hmi']; rfl)
              clear hla2 hmi' hm2 hv hmi
              go_wp2_with fail
              refine bodyPost_ret (v := .tuple #[.map none, .int .i64 10]) (by simp [results, Tryz.results18, go_sem]) rfl ?_
              unfold PGiven
              rw [show givenL l args = .error 10 from by rw [Hgl2.out, if_pos Hla.out]]
              exact ⟨H2.out.2.1, rfl⟩
            | false =>
              have Hla : Hid (gLack m 0 l = gLack m (i + 1) (l.drop (i + 1))) := Lib.hid (by rw [hla2]; rfl)
              have hagg := AggAt.val_mk vk vn vs c1 c2 H2.out.2.2.2.1 H2.out.2.2.2.2
              obtain ⟨o, hup, hg5⟩ := H2.out.2.2.1.store Tryz.underlying3 Tryz.underlying64 (fun h => Nat.lt_irrefl _ (HF.out _ h)) i (by omega) Hmi.out (.mk vk vn vs vl vks) _ hagg
              have Hg5 := Lib.hid hg5
              have Hb5 := Lib.hid (below_putG H2.out.2.1 (Nat.le_refl _) o)
              have Hlo : Hid (∀ k, k < i + 1 → gPut m2 i (.mk vk vn vs vl vks) k = (gVals m 0 l)[k]?) := Lib.hid (fun k hk => by
                unfold gPut
                by_cases h : k = i
                · rw [if_pos h, h]; exact Hv.out.symm
                · rw [if_neg h]; exact hlo.out k (by omega))
              have Hhi : Hid (∀ k, i + 1 ≤ k → gPut m2 i (.mk vk vn vs vl vks) k = m k) := Lib.hid (fun k hk => by
                unfold gPut
                rw [if_neg (by omega)]; exact hhi.out k (by omega))
              clear hla2 hmi' hm2 hv hmi hagg hg5
              go_wp2_with fail
              go_roundw
              case rel => exact ⟨i + 1, _, by go_num, by omega, Hg5, Hb5, Hla, Hlo, Hhi⟩
              case measure => simp only [intOf]; omega
          · simp only [if_true] at hlk
            have hmi' : m i = some (.mk uk un us ul uks) := by rw [← hm2]; exact hmi
            rw [hmi'] at hv
            simp only [Option.getD_some] at hv
            obtain ⟨x1, y1, x2, y2, rfl, -, -⟩ := hag.val
            have Hla : Hid (gLack m 0 l = gLack m (i + 1) (l.drop (i + 1))) := Lib.hid (by rw [hla2, hmi']; simp)
            have Hlo : Hid (∀ k, k < i + 1 → m2 k = (gVals m 0 l)[k]?) := Lib.hid (fun k hk => by
              by_cases h : k = i
              · rw [h, hmi]; exact hv.symm
              · exact hlo.out k (by omega))
            have Hhi : Hid (∀ k, i + 1 ≤ k → m2 k = m k) := Lib.hid (fun k hk => hhi.out k (by omega))
            have hb2 : Below (wr.alloc (.cells #[.string nm, .int .i64 ty, .bool mu, .int .i64 vk, .int .i64 vn, .string vs, .slice a1 vl.length c1, .slice a2 vks.length c2] 55)).heap.size (wr.alloc (.cells #[.string nm, .int .i64 ty, .bool mu, .int .i64 vk, .int .i64 vn, .string vs, .slice a1 vl.length c1, .slice a2 vks.length c2] 55)) ((wr.alloc (.cells #[.string nm, .int .i64 ty, .bool mu, .int .i64 vk, .int .i64 vn, .string vs, .slice a1 vl.length c1, .slice a2 vks.length c2] 55)).alloc (.cells #[.int .i64 uk, .int .i64 un, .string us, .slice x1 ul.length y1, .slice x2 uks.length y2] 37)) := (Below.refl _ _).alloc (Nat.le_refl _) _
            have Hg5 := Lib.hid (H1.out.2.2.1.below hb2)
            have Hb5 := Lib.hid (H1.out.2.1.trans (hb2.mono H1.out.2.1.size))
            clear hla2 hmi' hm2 hv hmi hag hb2
            go_wp2_with fail
            go_roundw
            case rel => exact ⟨i + 1, _, by go_num, by omega, Hg5, Hb5, Hla, Hlo, Hhi⟩
            case measure => simp only [intOf]; omega
        · have hie : i = l.length := by omega
          have Hla : Hid (gLack m 0 l = false) := Lib.hid (by rw [hlk0.out, List.drop_eq_nil_of_le (by omega), gLack])
          have Hlo : Hid (∀ k, k < l.length → m2 k = (gVals m 0 l)[k]?) := Lib.hid (fun k hk => hlo.out k (by omega))
          clear hlk0 hlo hhi
          go_wp2_with fail
          refine bodyPost_ret (v := .tuple #[.map (some w.heap.size), .int .i64 0]) (by simp [results, Tryz.results18, go_sem]) rfl ?_
          unfold PGiven
          rw [Hgl2.out, if_neg (by rw [Hla.out]; decide)]
          exact ⟨hb.out, _, _, rfl, Nat.le_refl _, hg.out, Hlo.out⟩
        end Go.Proofs.YthknljeffpbbmaaGreatDoor
namespace Go.Proofs.YthknljeffpbbmaaGreatDoor
open Go Go.RowKit

def PInt (w : World) (e : Ending) (w' : World) : Prop := (∃ n : Int, e = .returned (.int .i64 n)) ∧ Below w.heap.size w w'
def PSome (w : World) (e : Ending) (w' : World) : Prop := (∃ b : Bool, e = .returned (.bool b)) ∧ Below w.heap.size w w'
def CountC (v : Vl) : Prop := ∀ (F : Nat → Prop) (a1 : Option Addr) (c1 : Nat) (a2 : Option Addr) (c2 : Nat) (w : World), RowAt F w a1 (valsD v.items) → RowAt F w a2 (strsD v.keys) →
  Calls Tryz.prog 33 #[.agg #[.int .i64 v.kind, .int .i64 v.num, .string v.str, .slice a1 v.items.length c1, .slice a2 v.keys.length c2], .int .i64 60] w (PInt w)
def LongC (v : Vl) : Prop := ∀ (F : Nat → Prop) (a1 : Option Addr) (c1 : Nat) (a2 : Option Addr) (c2 : Nat) (w : World), RowAt F w a1 (valsD v.items) → RowAt F w a2 (strsD v.keys) →
  Calls Tryz.prog 34 #[.agg #[.int .i64 v.kind, .int .i64 v.num, .string v.str, .slice a1 v.items.length c1, .slice a2 v.keys.length c2]] w (PSome w)

set_option maxRecDepth 100000 in
set_option maxHeartbeats 2000000 in
theorem count_node (k n1 : Int) (s : ByteArray) (l : List Vl) (ks : List ByteArray) (hl : l.length ≤ 140737488355328) (hit : ∀ x ∈ l, CountC x) (F : Nat → Prop) (a1 : Option Addr) (c1 : Nat) (a2 : Option Addr) (c2 : Nat) (w : World) (hr1 : RowAt F w a1 (valsD l)) (_hr2 : RowAt F w a2 (strsD ks)) :
    Calls Tryz.prog 33 #[.agg #[.int .i64 k, .int .i64 n1, .string s, .slice a1 l.length c1, .slice a2 ks.length c2], .int .i64 60] w (PInt w) := by
  have hba : Below w.heap.size w (w.alloc (.cells #[.int .i64 k, .int .i64 n1, .string s, .slice a1 l.length c1, .slice a2 ks.length c2] 37)) := (Below.refl _ w).alloc (Nat.le_refl _) _
  have H0 := Lib.hid (And.intro (heap_alloc_new w (.cells #[.int .i64 k, .int .i64 n1, .string s, .slice a1 l.length c1, .slice a2 ks.length c2] 37)) hba)
  have Hr := Lib.hid hr1
  have Hit := Lib.hid hit
  clear hr1 _hr2 hit hba
  go_enter Tryz.func33, Tryz.ntmps33
  go_wp2_with fail
  generalize World.alloc _ _ = W0 at H0 ⊢
  go_loopw [5, 10] (fun n i wr => ∃ (N : Int) (j : Nat), n = .int .i64 N ∧ i = .int .i64 j ∧ j ≤ l.length ∧ Hid (wr.heap[w.heap.size]? = some (.cells #[.int .i64 k, .int .i64 n1, .string s, .slice a1 l.length c1, .slice a2 ks.length c2] 37 (0, 0)) ∧ Below w.heap.size w wr)) (fun _ i _ => l.length - (intOf i).toNat)
  case atStart => exact ⟨_, 0, rfl, rfl, Nat.zero_le _, H0⟩
  case round =>
    obtain ⟨N, j, rfl, rfl, hj, hst⟩ := hrel
    by_cases hlt : j < l.length
    · by_cases hN : 60 < N
      · have hN2 : ¬ N ≤ 60 := by omega
        go_wp2_with fail
        go_ret
        exact ⟨⟨_, rfl⟩, hst.out.2⟩
      · have hx0 : l[j]? = some l[j] := List.getElem?_eq_getElem hlt
        generalize l[j] = x at hx0
        have HC := Lib.hid (Hit.out x (List.mem_of_getElem? hx0))
        obtain ⟨xk, xn, xs, xl, xks⟩ := x
        obtain ⟨b, off, b1, e1, b2, e2, rfl, -, hbl, r0, r1, r2, r3, r4, hs1, hs2⟩ := (Hr.out.below hst.out.2).val hx0
        have HK := Lib.hid (HC.out F b1 e1 b2 e2 wr hs1 hs2)
        obtain ⟨q0, q1, q2, q3, q4, q5, -⟩ := five_facts hst.out.1
        clear hx0 HC hs1 hs2
        go_wp2_with fail
        refine HK.out.mono ?_
        rintro e w2 ⟨⟨M, rfl⟩, hb2⟩
        have Hst2 := Lib.hid (And.intro (stays hst.out.1 hb2) (hst.out.2.trans (hb2.mono hst.out.2.size)))
        clear hb2 hst HK r0 r1 r2 r3 r4 q0 q1 q2 q3 q4 q5
        go_wp2_with fail
        go_roundw
        case rel => exact ⟨_, j + 1, rfl, by go_num, by omega, Hst2⟩
        case measure => simp only [intOf]; omega
    · go_wp2_with fail
      go_ret
      exact ⟨⟨_, rfl⟩, hst.out.2⟩
theorem count_any (v : Vl) : smallV v → CountC v :=
  Vl.rec (motive_1 := fun v => smallV v → CountC v) (motive_2 := fun l => smallVs l → ∀ x ∈ l, CountC x)
    (fun k n s l ks ih h F a1 c1 a2 c2 w hr1 hr2 => by rw [smallV] at h; exact count_node k n s l ks h.2.1 (ih h.2.2.2.2) F a1 c1 a2 c2 w hr1 hr2)
    (fun _ x hx => by cases hx)
    (fun v t hv ht h x hx => by
      rw [smallVs] at h
      rcases List.mem_cons.1 hx with rfl | hx
      · exact hv h.1
      · exact ht h.2 x hx) v

set_option maxRecDepth 100000 in
set_option maxHeartbeats 2000000 in
theorem long_node (k n1 : Int) (s : ByteArray) (l : List Vl) (ks : List ByteArray) (_hz : s.size ≤ 9223372036854775807) (hl : l.length ≤ 140737488355328) (hkl : ks.length ≤ 140737488355328) (hkz : ∀ x ∈ ks, x.size ≤ 9223372036854775807) (hit : ∀ x ∈ l, LongC x) (F : Nat → Prop) (a1 : Option Addr) (c1 : Nat) (a2 : Option Addr) (c2 : Nat) (w : World) (hr1 : RowAt F w a1 (valsD l)) (hr2 : RowAt F w a2 (strsD ks)) :
    Calls Tryz.prog 34 #[.agg #[.int .i64 k, .int .i64 n1, .string s, .slice a1 l.length c1, .slice a2 ks.length c2]] w (PSome w) := by
  have hba : Below w.heap.size w (w.alloc (.cells #[.int .i64 k, .int .i64 n1, .string s, .slice a1 l.length c1, .slice a2 ks.length c2] 37)) := (Below.refl _ w).alloc (Nat.le_refl _) _
  have H0 := Lib.hid (And.intro (heap_alloc_new w (.cells #[.int .i64 k, .int .i64 n1, .string s, .slice a1 l.length c1, .slice a2 ks.length c2] 37)) hba)
  have Hr := Lib.hid hr1
  have Hk := Lib.hid hr2.strs
  have Hit := Lib.hid hit
  have Hkz := Lib.hid hkz
  clear hr1 hr2 hit hba hkz
  by_cases h1 : (100 : Int) < s.size
  · go_enter Tryz.func34, Tryz.ntmps34
    go_wp2_with fail
    go_ret
    exact ⟨⟨_, rfl⟩, H0.out.2⟩
  by_cases h2 : (60 : Int) < ks.length
  · go_enter Tryz.func34, Tryz.ntmps34
    go_wp2_with fail
    go_ret
    exact ⟨⟨_, rfl⟩, H0.out.2⟩
  go_enter Tryz.func34, Tryz.ntmps34
  go_wp2_with fail
  generalize World.alloc _ _ = W0 at H0 ⊢
  go_loop [18] (fun i => ∃ j : Nat, i = .int .i64 j ∧ j ≤ ks.length) (fun i => ks.length - (intOf i).toNat)
  case atStart => exact ⟨0, rfl, Nat.zero_le _⟩
  case round =>
    obtain ⟨j, rfl, hj⟩ := hrel
    obtain ⟨q0, q1, q2, q3, q4, q5, -⟩ := five_facts H0.out.1
    by_cases hlt : j < ks.length
    · obtain ⟨b, off, rfl, hc⟩ := (Hk.out.below H0.out.2).at hlt
      have hxz := Hkz.out _ (List.getElem_mem hlt)
      generalize ks[j] = x at hc hxz
      by_cases hbig : (100 : Int) < x.size
      · go_wp2_with fail
        go_ret
        exact ⟨⟨_, rfl⟩, H0.out.2⟩
      · go_wp2_with fail
        go_round
        case rel => exact ⟨j + 1, by go_num, by omega⟩
        case measure => simp only [intOf]; omega
    · go_wp2_with fail
      clear q0 q1 q2 q3 q4 q5
      go_loopw [32] (fun i wr => ∃ j : Nat, i = .int .i64 j ∧ j ≤ l.length ∧ Hid (wr.heap[w.heap.size]? = some (.cells #[.int .i64 k, .int .i64 n1, .string s, .slice a1 l.length c1, .slice a2 ks.length c2] 37 (0, 0)) ∧ Below w.heap.size w wr)) (fun i _ => l.length - (intOf i).toNat)
      case atStart => exact ⟨0, rfl, Nat.zero_le _, H0⟩
      case round =>
        obtain ⟨i, rfl, hi, hst⟩ := hrel
        by_cases hlt2 : i < l.length
        · have hx0 : l[i]? = some l[i] := List.getElem?_eq_getElem hlt2
          generalize l[i] = x at hx0
          have HC := Lib.hid (Hit.out x (List.mem_of_getElem? hx0))
          obtain ⟨xk, xn, xs, xl, xks⟩ := x
          obtain ⟨b, off, b1, e1, b2, e2, rfl, -, hbl, r0, r1, r2, r3, r4, hs1, hs2⟩ := (Hr.out.below hst.out.2).val hx0
          have HK := Lib.hid (HC.out F b1 e1 b2 e2 wr hs1 hs2)
          obtain ⟨q0, q1, q2, q3, q4, q5, -⟩ := five_facts hst.out.1
          clear hx0 HC hs1 hs2
          go_wp2_with fail
          refine HK.out.mono ?_
          rintro e w2 ⟨⟨bb, rfl⟩, hb2⟩
          have Hst2 := Lib.hid (And.intro (stays hst.out.1 hb2) (hst.out.2.trans (hb2.mono hst.out.2.size)))
          clear hb2 hst HK r0 r1 r2 r3 r4 q0 q1 q2 q3 q4 q5
          cases bb with
          | true =>
            go_wp2_with fail
            go_ret
            exact ⟨⟨_, rfl⟩, Hst2.out.2⟩
          | false =>
            go_wp2_with fail
            go_roundw
            case rel => exact ⟨i + 1, by go_num, by omega, Hst2⟩
            case measure => simp only [intOf]; omega
        · go_wp2_with fail
          go_ret
          exact ⟨⟨_, rfl⟩, hst.out.2⟩
theorem long_any (v : Vl) : smallV v → LongC v :=
  Vl.rec (motive_1 := fun v => smallV v → LongC v) (motive_2 := fun l => smallVs l → ∀ x ∈ l, LongC x)
    (fun k n s l ks ih h F a1 c1 a2 c2 w hr1 hr2 => by rw [smallV] at h; exact long_node k n s l ks h.1 h.2.1 h.2.2.1 h.2.2.2.1 (ih h.2.2.2.2) F a1 c1 a2 c2 w hr1 hr2)
    (fun _ x hx => by cases hx)
    (fun v t hv ht h x hx => by
      rw [smallVs] at h
      rcases List.mem_cons.1 hx with rfl | hx
      · exact hv h.1
      · exact ht h.2 x hx) v
end Go.Proofs.YthknljeffpbbmaaGreatDoor
