/-
  The walk of rules.Bind.
  The chapter's example: the walk of rules.rule.
-/
import Derived.Deep.DeepCutAuto
import Derived.Test.YthknljeffpbbmaaGreatDoorMSame11
import Derived.Test.YthknljeffpbbmaaGreatDoorMBindFits
import Derived.Test.YthknljeffpbbmaaGreatDoorMFixG
namespace Go.Proofs.YthknljeffpbbmaaGreatDoor
open Go Go.RowKit Go.Sort

def PBind (r : Except Int TargetP) (w : World) (e : Ending) (w' : World) : Prop := Below w.heap.size w w' ∧ match r with
  | .ok t => ∃ (p n : ByteArray) (aV : Option Addr) (cV : Nat) (aD : Option Addr) (cD : Nat) (aS : Option Addr) (cS : Nat) (ds : List LB), p.data.toList = t.label.pkg ∧ n.data.toList = t.label.name ∧
      e = .returned (.tuple #[.agg #[.string p, .string n, .string t.rule, .slice aV t.vals.length cV, .slice aD ds.length cD, .slice aS t.seen.length cS], .int .i64 0]) ∧
      ds.map labelOf = t.deps ∧ RowAt (fun _ => True) w' aV (namedsD t.vals) ∧ RowAt (fun _ => True) w' aD (labelsD ds) ∧ StrsAt w' aS t.seen ∧ t.vals.length ≤ 1000 ∧ ds.length ≤ 1000000 ∧ t.seen.length ≤ 1000 ∧ ∀ q ∈ t.vals, checkV q.2 = true
  | .error k => k ≠ 0 ∧ e = .returned (.tuple #[.agg zeroT, .int .i64 k])
theorem tgt_set {n b : Nat} {w W : World} {c0 c1 c2 c3 c4 c5 : Value} {t : TypeId} (hn : n ≤ b) (hb : Below n w W) (hr : W.heap[b]? = some (.cells #[c0, c1, c2, c3, c4, c5] t (0, 0))) (v0 v1 v2 v3 v4 v5 : Value) :
    (W.setCells b 0 [v0, v1, v2, v3, v4, v5]).heap[b]? = some (.cells #[v0, v1, v2, v3, v4, v5] t (0, 0)) ∧ Below n w (W.setCells b 0 [v0, v1, v2, v3, v4, v5]) :=
  ⟨by
    show ((((((W.setCell ⟨b, 0, none⟩ v0).setCell ⟨b, 1, none⟩ v1).setCell ⟨b, 2, none⟩ v2).setCell ⟨b, 3, none⟩ v3).setCell ⟨b, 4, none⟩ v4).setCell ⟨b, 5, none⟩ v5).heap[b]? = _
    rw [set_same (set_same (set_same (set_same (set_same (set_same hr 0 _) 1 _) 2 _) 3 _) 4 _) 5]; rfl, below_setCells hn _ _ _ hb⟩
theorem sixW_facts {w : World} {b : Nat} {c0 c1 c2 c3 c4 c5 : Value} {t : TypeId} (h : w.heap[b]? = some (.cells #[c0, c1, c2, c3, c4, c5] t (0, 0))) :
    b < w.heap.size ∧ w.cell? ⟨b, 0, none⟩ = some c0 ∧ w.cell? ⟨b, 1, none⟩ = some c1 ∧ w.cell? ⟨b, 2, none⟩ = some c2 ∧ w.cell? ⟨b, 3, none⟩ = some c3 ∧ w.cell? ⟨b, 4, none⟩ = some c4 ∧ w.cell? ⟨b, 5, none⟩ = some c5 ∧
    w.frozen? ⟨b, 0, none⟩ = false ∧ w.frozen? ⟨b, 1, none⟩ = false ∧ w.frozen? ⟨b, 2, none⟩ = false ∧ w.frozen? ⟨b, 3, none⟩ = false ∧ w.frozen? ⟨b, 4, none⟩ = false ∧ w.frozen? ⟨b, 5, none⟩ = false := by
  obtain ⟨h1, h2, h3⟩ := block_facts h
  exact ⟨h1, h2 0, h2 1, h2 2, h2 3, h2 4, h2 5, h3 0, h3 1, h3 2, h3 3, h3 4, h3 5⟩

theorem leansL_err {a : AttrP} {v : Vl} {pkg : List UInt8} {k : Int} (h : leansL a v pkg = .error k) : k ≠ 0 := by
  unfold leansL at h
  split at h
  · cases h
  · exact leanGo_err h
theorem wpList_append_owned {P : Program} {ops : Array Oper} {rest : List Oper} {o : Oper} {a : Act} {w : World} {Q : Exit → Act → World → Prop} (hgd : o.guard = none) (s x : Operand) (t : TypeId)
    (ho : o.op = .call { callee := .builtin .append, args := #[s, x], argTypes := #[t, t] }) (v : Value) (hs : a.eval s = v) (hx : a.eval x = .slice none 0 0)
    (hr : (Builtin.append_ #[t, t] o.type #[v, .slice none 0 0]).run P w = .ok v w) (h : wpList P ops Q rest (a.put o.dst v) w) : wpList P ops Q (o :: rest) a w := by
  refine wpList_plain hgd fun K hK => ?_
  unfold Oper.wp execOp
  simp only [ho, resolve, invoke, builtin, Sem.run_bind, Sem.run_pure, Result.andThen_ok, List.map_toArray, List.map_cons, List.map_nil, hs, hx, hr]
  exact hK _ _ h
theorem OwnD.rowOf {F : Nat → Prop} {w : World} {base : Nat} {e : TypeId} {size : Nat} {a : Option Addr} {n c : Nat} {l : List (List Dat)} (h : OwnD F w base e size (.slice a n c) l) (hF : ∀ g, (Value.slice a n c).ownBlock = some g → F g) : RowAt F w a l := by
  obtain ⟨a', cap, hv, hr⟩ := h.rowAt hF
  injection hv with e1 e2 e3
  rw [e1]
  exact hr
theorem OwnS.rowOf {w : World} {base : Nat} {a : Option Addr} {n c : Nat} {l : List ByteArray} (h : OwnS w base (.slice a n c) l) : StrsAt w a l := by
  obtain ⟨a', cap, hv, hr, -⟩ := h.strsAt
  injection hv with e1 e2 e3
  rw [e1]
  exact hr
theorem ownS_keep {w w' : World} {base : Nat} {v : Value} {l : List ByteArray} (h : OwnS w base v l) (hk : ∀ g, v.ownBlock = some g → w'.heap[g]? = w.heap[g]?) : OwnS w' base v l := by
  obtain ⟨h1, h2 | ⟨g, cap, cur, rfl, h3, h4, h5⟩⟩ := h
  · exact ⟨h1, .inl h2⟩
  · exact ⟨h1, .inr ⟨g, cap, cur, rfl, h3, (hk g rfl).trans h4, h5⟩⟩
theorem val_str (a b c d e : Value) (w : World) : (Instr.field 37 (.agg #[a, b, c, d, e]) 2).run Tryz.prog w = .ok c w := by kernel_rfl
theorem gGo_err {l : List AttrP} {k : Int} : ∀ {args : List (ByteArray × Vl)} {m : GM}, gGo l args m = .error k → k ≠ 0
  | [], m, h => by rw [gGo] at h; cases h
  | x :: t, m, h => by
    rw [gGo] at h
    cases hs : gStep l m x with
    | error e =>
      rw [hs] at h
      cases h
      unfold gStep at hs
      split at hs
      · cases hs; decide
      · split at hs
        · cases hs; decide
        · split at hs
          · cases hs; decide
          · split at hs <;> cases hs; decide
    | ok m' => rw [hs] at h; exact gGo_err h
theorem givenL_err {l : List AttrP} {args : List (ByteArray × Vl)} {k : Int} (h : givenL l args = .error k) : k ≠ 0 := by
  unfold givenL at h
  split at h
  · rename_i e he; cases h; exact gGo_err he
  · split at h <;> cases h; decide
set_option maxRecDepth 100000 in
set_option maxHeartbeats 8000000 in
theorem bind_any (rn dr : ByteArray) (l : List AttrP) (args : List (ByteArray × Vl)) (pkg : ByteArray) (F : Nat → Prop) (aA aB aD : Option Addr) (cA nB cB cD : Nat) (x1 x2 x3 x4 : Int) (w : World) (hw : StdB w) (hl : l.length ≤ 900) (hla : args.length ≤ 1000) (hcA : l.length ≤ cA)
    (hn : ∀ x ∈ l, x.name.size < 4294967000) (hs : ∀ x ∈ l, smallV x.dflt) (hsa : ∀ q ∈ args, smallV q.2) (hp : pkg.size < 4294967000) (hF : ∀ b, F b → b < w.heap.size) (hr : RowAt F w aA (attrsD l)) (hra : RowAt F w aD (namedsD args)) :
    Calls Tryz.prog 8 #[.agg #[.string rn, .slice aA l.length cA, .slice aB nB cB, .int .i64 x1, .int .i64 x2], .agg #[.string dr, .slice aD args.length cD, .int .i64 x3, .int .i64 x4], .string pkg] w (PBind (bindL rn l args pkg.data.toList) w) := by
  obtain ⟨g1, g2, g3, g4, g5⟩ := alloc3 w (.cells #[.string rn, .slice aA l.length cA, .slice aB nB cB, .int .i64 x1, .int .i64 x2] 27) (.cells #[.string dr, .slice aD args.length cD, .int .i64 x3, .int .i64 x4] 30) (.cells zeroT 44)
  have H0 := Lib.hid (And.intro g1 (And.intro g2 (And.intro g3 g4)))
  have HM := Lib.hid (rmay_any F aA cA l _ (hw.below g4) (by omega) hcA hn hs (fun b hb => Nat.lt_of_lt_of_le (hF b hb) g4.size) (hr.below g4))
  have hbl : bindL rn l args pkg.data.toList = if (!mayAttrs l || (!pkg.data.toList.isEmpty && !pathOk pkg.data.toList)) = true then .error 1
      else match givenL l args with
        | .error e => .error e
        | .ok vs => match labelRead (58 :: ((vs.headD vZero).str.data.toList)) pkg.data.toList with
          | .error _ => .error 7
          | .ok x => match leansAll pkg.data.toList (l.zip vs) with
            | .error e => .error e
            | .ok deps => .ok ⟨x, rn, ((l.zip vs).map fun p => (p.1.name, p.2)).mergeSort leName, dedup (deps.mergeSort labelLe), (textsL ((vs[1]?).getD vZero)).getD []⟩ := rfl
  have Hbl := Lib.hid hbl
  have Hw := Lib.hid hw
  have Hn := Lib.hid hn
  have Hs := Lib.hid hs
  have Hsa := Lib.hid hsa
  have HF := Lib.hid hF
  have Hr := Lib.hid hr
  have Hra := Lib.hid hra
  unfold zeroT at H0 HM
  have hz3 := g5
  clear g1 g2 g3 g4 g5 hw hn hs hsa hF hr hra hbl hz3
  go_enter Tryz.func8, Tryz.ntmps8
  go_upto_region 1 with fail
  go_cut [28] from 16 to 28 (fun v wc => ∃ bb : Bool, v = .bool bb ∧ Hid (bb = (!mayAttrs l || (!pkg.data.toList.isEmpty && !pathOk pkg.data.toList))) ∧ Hid (wc.heap[w.heap.size]? = some (.cells #[.string rn, .slice aA l.length cA, .slice aB nB cB, .int .i64 x1, .int .i64 x2] 27 (0, 0)) ∧ wc.heap[w.heap.size + 1]? = some (.cells #[.string dr, .slice aD args.length cD, .int .i64 x3, .int .i64 x4] 30 (0, 0)) ∧ wc.heap[w.heap.size + 1 + 1]? = some (.cells zeroT 44 (0, 0)) ∧ Below w.heap.size w wc))
  case first =>
    go_wp2_with fail
    refine HM.out.mono ?_
    rintro e w1 ⟨rfl, hb1⟩
    have H1 := Lib.hid (And.intro (stays H0.out.1 hb1) (And.intro (stays H0.out.2.1 hb1) (And.intro (stays H0.out.2.2.1 hb1) (H0.out.2.2.2.trans (hb1.mono H0.out.2.2.2.size)))))
    clear hb1 H0 HM
    cases hm : mayAttrs l with
    | false =>
      have Hm := Lib.hid hm
      clear hm
      go_wp2_with fail
      go_meet
      case rel => exact ⟨true, rfl, Lib.hid (by rw [Hm.out]; rfl), H1⟩
    | true =>
      have Hm := Lib.hid hm
      clear hm
      by_cases hpe : pkg.toList = []
      · obtain rfl : pkg = ByteArray.empty := bytes_ext (by rw [← Lib.toList_data, hpe]; rfl)
        clear hpe
        go_wp2_with fail
        go_meet
        case rel => exact ⟨false, rfl, Lib.hid (by rw [Hm.out]; rfl), H1⟩
      · have h1 : pkg.toList.isEmpty = false := by simpa using hpe
        have h2 : (pkg.toList == []) = false := by simpa using hpe
        have h3 : pkg.data.toList.isEmpty = false := by rw [← Lib.toList_data]; exact h1
        have H3 := Lib.hid h3
        clear hpe h3
        go_wp2_with fail
        refine (pathMay_any pkg _ (by omega)).mono ?_
        rintro e w2 ⟨rfl, hb2⟩
        have H2 := Lib.hid (And.intro (stays H1.out.1 hb2) (And.intro (stays H1.out.2.1 hb2) (And.intro (stays H1.out.2.2.1 hb2) (H1.out.2.2.2.trans (hb2.mono H1.out.2.2.2.size)))))
        clear hb2 H1
        go_wp2_with fail
        go_meet
        case rel => exact ⟨!pathOk pkg.data.toList, rfl, Lib.hid (by rw [H3.out, Hm.out]; rfl), H2⟩
  case rest =>
    obtain ⟨bb, rfl, hbb, hwc⟩ := hcut
    cases bb with
    | true =>
      have Hf : Hid (bindL rn l args pkg.data.toList = .error 1) := Lib.hid (by rw [Hbl.out, if_pos hbb.out.symm])
      obtain ⟨z0, z1, z2, z3, z4, z5, z6, z7, z8, z9, z10, z11, z12⟩ := sixW_facts (show wc.heap[w.heap.size + 1 + 1]? = some (.cells #[.string ⟨#[]⟩, .string ⟨#[]⟩, .string ⟨#[]⟩, .slice none 0 0, .slice none 0 0, .slice none 0 0] 44 (0, 0)) from hwc.out.2.2.1)
      have hend := tgt_set (n := w.heap.size) (w := w) (b := w.heap.size + 1 + 1) (by omega) hwc.out.2.2.2 hwc.out.2.2.1 (.string ⟨#[]⟩) (.string ⟨#[]⟩) (.string ⟨#[]⟩) (.slice none 0 0) (.slice none 0 0) (.slice none 0 0)
      go_wp2_with fail
      refine bodyPost_ret (w := wc.setCells (w.heap.size + 1 + 1) 0 [.string ⟨#[]⟩, .string ⟨#[]⟩, .string ⟨#[]⟩, .slice none 0 0, .slice none 0 0, .slice none 0 0]) (v := .tuple #[.agg #[.string ⟨#[]⟩, .string ⟨#[]⟩, .string ⟨#[]⟩, .slice none 0 0, .slice none 0 0, .slice none 0 0], .int .i64 1]) ?_ rfl ?_
      · generalize World.setCells _ _ _ _ = W9 at hend ⊢
        obtain ⟨t0, t1, t2, t3, t4, t5, t6, -⟩ := sixW_facts hend.1
        simp [results, Tryz.results8, go_sem, t1, t2, t3, t4, t5, t6]
      · unfold PBind
        rw [Hf.out]
        exact ⟨hend.2, by decide, rfl⟩
    | false =>
      have hmay : mayAttrs l = true := by
        have := hbb.out
        cases hm : mayAttrs l with
        | true => rfl
        | false => rw [hm] at this; cases this
      have Hmay := Lib.hid hmay
      have hb1 := Hbl.out
      rw [if_neg (by rw [← hbb.out]; decide)] at hb1
      have Hb1 := Lib.hid hb1
      have H1 := Lib.hid hwc.out
      clear Hbl hbb hwc hmay hb1 H0 HM
      have HG := Lib.hid (given_any F aA aD cA cD l args wc hl hla Hs.out Hsa.out (fun b hb => Nat.lt_of_lt_of_le (HF.out b hb) H1.out.2.2.2.size) (Hr.out.below H1.out.2.2.2) (Hra.out.below H1.out.2.2.2))
      obtain ⟨q0, q1, q2, q3, q4, q5, -⟩ := five_facts H1.out.1
      obtain ⟨d0, d1, d2, d3, d4⟩ := four_facts H1.out.2.1
      have hzc := here H1.out.2.2.1
      go_wp2_with fail
      refine HG.out.mono ?_
      rintro e w2 ⟨hb2, hq⟩
      have H2 := Lib.hid (And.intro (stays H1.out.1 hb2) (And.intro (stays H1.out.2.1 hb2) (And.intro (stays H1.out.2.2.1 hb2) (H1.out.2.2.2.trans (hb2.mono H1.out.2.2.2.size)))))
      clear hb2 H1 HG q0 q1 q2 q3 q4 q5 d0 d1 d2 d3 d4
      cases hg : givenL l args with
      | error k =>
        rw [hg] at hq
        obtain rfl := hq
        have hk0 := givenL_err hg
        have hk1 : (k != 0) = true := by simpa using hk0
        have Hf : Hid (bindL rn l args pkg.data.toList = .error k) := Lib.hid (by rw [Hb1.out, hg])
        have Hk0 := Lib.hid hk0
        clear hg hk0
        obtain ⟨z0, z1, z2, z3, z4, z5, z6, z7, z8, z9, z10, z11, z12⟩ := sixW_facts (show w2.heap[w.heap.size + 1 + 1]? = some (.cells #[.string ⟨#[]⟩, .string ⟨#[]⟩, .string ⟨#[]⟩, .slice none 0 0, .slice none 0 0, .slice none 0 0] 44 (0, 0)) from H2.out.2.2.1)
        have hend := tgt_set (n := w.heap.size) (w := w) (b := w.heap.size + 1 + 1) (by omega) H2.out.2.2.2 H2.out.2.2.1 (.string ⟨#[]⟩) (.string ⟨#[]⟩) (.string ⟨#[]⟩) (.slice none 0 0) (.slice none 0 0) (.slice none 0 0)
        go_wp2_with fail
        refine bodyPost_ret (w := w2.setCells (w.heap.size + 1 + 1) 0 [.string ⟨#[]⟩, .string ⟨#[]⟩, .string ⟨#[]⟩, .slice none 0 0, .slice none 0 0, .slice none 0 0]) (v := .tuple #[.agg #[.string ⟨#[]⟩, .string ⟨#[]⟩, .string ⟨#[]⟩, .slice none 0 0, .slice none 0 0, .slice none 0 0], .int .i64 k]) ?_ rfl ?_
        · generalize World.setCells _ _ _ _ = W9 at hend ⊢
          obtain ⟨t0, t1, t2, t3, t4, t5, t6, -⟩ := sixW_facts hend.1
          simp [results, Tryz.results8, go_sem, t1, t2, t3, t4, t5, t6]
        · unfold PBind
          rw [Hf.out]
          exact ⟨hend.2, Hk0.out, rfl⟩
      | ok vs =>
        rw [hg] at hq
        obtain ⟨mb, f, rfl, hmb, hgiv, hfv⟩ := hq
        have hvl := givenL_len hg
        have hl2 : 2 ≤ l.length := by
          have hm := Hmay.out
          cases hlt : decide (l.length < 2) with
          | true => rw [mayAttrs_few (by simpa using hlt)] at hm; cases hm
          | false => simpa using hlt
        have hdf : ∀ a ∈ l, a.must = false → fitsV a.type a.dflt = true := by
          have hm := Hmay.out
          unfold mayAttrs at hm
          rw [Bool.and_eq_true] at hm
          exact (mayGo_spec l [] 0 hm.2).1
        have hnod : (l.map (·.name.data.toList)).Nodup := by
          have hm := Hmay.out
          unfold mayAttrs at hm
          rw [Bool.and_eq_true] at hm
          exact (mayGo_spec l [] 0 hm.2).2.2
        have HV : Hid (∀ i a, l[i]? = some a → ∃ v, vs[i]? = some v ∧ checkV v = true) := Lib.hid (fun i a ha => by
          obtain ⟨v, h1, h2, -⟩ := givenL_fits hg hdf ha
          unfold fitsV at h2
          rw [Bool.and_eq_true] at h2
          exact ⟨v, h1, h2.1⟩)
        have Hvl := Lib.hid hvl
        have Hnod := Lib.hid hnod
        have Hfv := Lib.hid hfv
        have hb1 := Hb1.out
        rw [hg] at hb1
        simp only at hb1
        obtain ⟨v0, hv0, hc0⟩ := HV.out 0 _ (List.getElem?_eq_getElem (by omega : 0 < l.length))
        have hhd : vs.headD vZero = v0 := by cases vs with | nil => cases hv0 | cons y t => cases hv0; rfl
        rw [hhd] at hb1
        have Hb2 := Lib.hid hb1
        have Hgiv := Lib.hid hgiv
        have hmb3 : w.heap.size + 3 ≤ mb := by omega
        have hmw := hgiv.lt
        have hf0 : f 0 = some v0 := by rw [hfv 0 (by omega)]; exact hv0
        clear hb1 hg hvl hdf hnod hfv hhd hv0 Hb1 Hmay
        rcases hgiv.look Tryz.underlying3 Tryz.underlying64 (zeroValV w2) false 0 (by omega) with ⟨hno, -⟩ | ⟨v0', cs, hf0', hag, hlk⟩
        · rw [hf0] at hno; cases hno
        rw [hf0] at hf0'
        cases hf0'
        obtain ⟨vk, vn, vs0, vl, vks⟩ := v0
        obtain ⟨b3, e3, b4, e4, rfl, -, -⟩ := hag.val
        have hz0 := (check_len hc0).1
        simp only [Bool.false_eq_true, if_false] at hlk
        have hlk' : (Instr.lookup 64 (.map (some mb)) (.int .i64 0) false).run Tryz.prog w2 = .ok (.agg #[.int .i64 vk, .int .i64 vn, .string vs0, .slice b3 vl.length e3, .slice b4 vks.length e4]) w2 := hlk
        have hcat : (⟨#[58]⟩ ++ vs0 : ByteArray).data.toList = 58 :: vs0.data.toList := by rw [ByteArray.data_append, Array.toList_append]; rfl
        have hcz : (⟨#[58]⟩ ++ vs0 : ByteArray).size < 4294967281 := by rw [ByteArray.size_append]; have : (⟨#[58]⟩ : ByteArray).size = 1 := rfl; omega
        have hlr := labelRead_any (⟨#[58]⟩ ++ vs0) pkg w2 (Hw.out.below H2.out.2.2.2) hcz (by omega)
        rw [hcat] at hlr
        have HL := Lib.hid hlr
        have hfd : ∀ W, (Instr.field 37 (.agg #[.int .i64 vk, .int .i64 vn, .string vs0, .slice b3 vl.length e3, .slice b4 vks.length e4]) 2).run Tryz.prog W = .ok (.string vs0) W := fun W => val_str _ _ _ _ _ W
        clear hlr hcat hcz hlk hag hf0 hgiv hc0
        go_wp2_with fail
        refine HL.out.mono ?_
        rintro e w3 ⟨hb3, hq⟩
        have H3 := Lib.hid (And.intro (stays H2.out.1 hb3) (And.intro (stays H2.out.2.1 hb3) (And.intro (stays H2.out.2.2.1 hb3) (H2.out.2.2.2.trans (hb3.mono H2.out.2.2.2.size)))))
        have Hg3 := Lib.hid (Hgiv.out.below hb3)
        have hm3 : mb < w3.heap.size := Nat.lt_of_lt_of_le hmw hb3.size
        clear hb3 H2 Hgiv HL hlk' hmw hfd
        have hb2' := Hb2.out
        simp only [Vl.str] at hb2'
        cases hlr : labelRead (58 :: vs0.data.toList) pkg.data.toList with
        | error k =>
          rw [hlr] at hq hb2'
          obtain rfl := hq
          have hk0 := labelRead_err hlr
          have hk1 : (k != 0) = true := by simpa using hk0
          have Hf : Hid (bindL rn l args pkg.data.toList = .error 7) := Lib.hid hb2'
          have hba : Below w3.heap.size w3 (w3.alloc (.cells #[.string ⟨#[]⟩, .string ⟨#[]⟩] 41)) := (Below.refl _ _).alloc (Nat.le_refl _) _
          have H4 := Lib.hid (And.intro (stays H3.out.2.2.1 hba) (H3.out.2.2.2.trans (hba.mono H3.out.2.2.2.size)))
          clear hb2' hlr hk0 hba
          obtain ⟨z0, z1, z2, z3, z4, z5, z6, z7, z8, z9, z10, z11, z12⟩ := sixW_facts (show (w3.alloc (.cells #[.string ⟨#[]⟩, .string ⟨#[]⟩] 41)).heap[w.heap.size + 1 + 1]? = some (.cells #[.string ⟨#[]⟩, .string ⟨#[]⟩, .string ⟨#[]⟩, .slice none 0 0, .slice none 0 0, .slice none 0 0] 44 (0, 0)) from H4.out.1)
          have hend := tgt_set (n := w.heap.size) (w := w) (b := w.heap.size + 1 + 1) (by omega) H4.out.2 H4.out.1 (.string ⟨#[]⟩) (.string ⟨#[]⟩) (.string ⟨#[]⟩) (.slice none 0 0) (.slice none 0 0) (.slice none 0 0)
          go_wp2_with fail
          refine bodyPost_ret (w := (w3.alloc (.cells #[.string ⟨#[]⟩, .string ⟨#[]⟩] 41)).setCells (w.heap.size + 1 + 1) 0 [.string ⟨#[]⟩, .string ⟨#[]⟩, .string ⟨#[]⟩, .slice none 0 0, .slice none 0 0, .slice none 0 0]) (v := .tuple #[.agg #[.string ⟨#[]⟩, .string ⟨#[]⟩, .string ⟨#[]⟩, .slice none 0 0, .slice none 0 0, .slice none 0 0], .int .i64 7]) ?_ rfl ?_
          · generalize World.setCells _ _ _ _ = W9 at hend ⊢
            obtain ⟨t0, t1, t2, t3, t4, t5, t6, -⟩ := sixW_facts hend.1
            simp [results, Tryz.results8, go_sem, t1, t2, t3, t4, t5, t6]
          · unfold PBind
            rw [Hf.out]
            exact ⟨hend.2, by decide, rfl⟩
        | ok x =>
          rw [hlr] at hq hb2'
          obtain ⟨p, n, hpx, hnx, rfl⟩ := hq
          have Hb3 : Hid (bindL rn l args pkg.data.toList = match leansAll pkg.data.toList (l.zip vs) with
            | .error e => .error e
            | .ok deps => .ok ⟨x, rn, ((l.zip vs).map fun p => (p.1.name, p.2)).mergeSort leName, dedup (deps.mergeSort labelLe), (textsL ((vs[1]?).getD vZero)).getD []⟩) := Lib.hid hb2'
          obtain ⟨a1, a2, a3, a4⟩ := alloc2 w3 (.cells #[.string p, .string n] 41) (.cells #[.string p, .string n, .string rn, .slice none 0 0, .slice none 0 0, .slice none 0 0] 44)
          have hbase : w3.heap.size + 2 ≤ ((w3.alloc (.cells #[.string p, .string n] 41)).alloc (.cells #[.string p, .string n, .string rn, .slice none 0 0, .slice none 0 0, .slice none 0 0] 44)).heap.size := by rw [a4]; exact Nat.le_refl _
          have HN : Hid (BN F w (w3.heap.size + 2) (w3.heap.size + 1) mb) := Lib.hid ⟨HF.out, hmb3, by omega, by omega⟩
          have HB : Hid (BS F w (w3.heap.size + 2) (w3.heap.size + 1) mb p n rn f (.slice none 0 0) (.slice none 0 0) [] [] ((w3.alloc (.cells #[.string p, .string n] 41)).alloc (.cells #[.string p, .string n, .string rn, .slice none 0 0, .slice none 0 0, .slice none 0 0] 44))) := Lib.hid
            ⟨H3.out.2.2.2.trans (a3.mono H3.out.2.2.2.size), hbase, a2, stays H3.out.2.2.1 a3, Hg3.out.below a3, OwnD.nil _ _ _ _ _, OwnD.nil _ _ _ _ _, fun g h => by cases h⟩
          obtain ⟨q0, q1, q2, q3, q4, q5, -⟩ := five_facts H3.out.1
          have Hpn := Lib.hid (And.intro hpx hnx)
          clear hb2' hlr Hb2 a1 a2 a3 a4 hbase hpx hnx
          go_wp2_with fail
          generalize World.alloc _ _ = W4 at HB ⊢
          generalize w3.heap.size = m3 at HB HN hm3 ⊢
          obtain ⟨iL, hiL, hL0, hL1, hL2⟩ := info_parts infoLabel
          obtain ⟨iN, hiN, hN0, hN1, hN2⟩ := info_parts infoNamed
          clear q0 q1 q2 q3 q4 q5
          go_loopw [61] (fun i wr => ∃ (j : Nat) (vv dv : Value) (ds : List LB), i = .int .i64 j ∧ j ≤ l.length ∧ ds.length ≤ 1000 * j ∧ Hid (BS F w (m3 + 2) (m3 + 1) mb p n rn f vv dv (((l.zip vs).take j).map fun q => (q.1.name, q.2)) ds wr) ∧ Hid (leansAll pkg.data.toList (l.zip vs) = leanK (leansAll pkg.data.toList ((l.zip vs).drop j)) (ds.map labelOf))) (fun i _ => l.length - (intOf i).toNat)
          case atStart => exact ⟨0, _, _, [], rfl, Nat.zero_le _, by simp, HB, Lib.hid (by rw [List.drop_zero]; cases leansAll pkg.data.toList (l.zip vs) <;> rfl)⟩
          case round =>
            obtain ⟨j, vv, dv, ds, rfl, hj, hdl, hB, hle⟩ := hrel
            obtain ⟨aL, cL, rfl, -⟩ := hB.out.deps.shape
            obtain ⟨aV, cV, rfl, -⟩ := hB.out.own.shape
            have hvlen : (namedsD (((l.zip vs).take j).map fun q => (q.1.name, q.2))).length = j := by rw [namedsD_len, List.length_map, List.length_take, List.length_zip, Hvl.out]; omega
            rw [hvlen, labelsD_len] at hB
            have hmwr := hB.out.giv.lt
            obtain ⟨y0, y1, y2, y3, y4, y5, y6, y7, y8, y9, y10, y11, y12⟩ := sixW_facts hB.out.tb
            by_cases hlt : j < l.length
            · have hx0 : l[j]? = some l[j] := List.getElem?_eq_getElem hlt
              obtain ⟨v1, hv1, hc1⟩ := HV.out j _ hx0
              have hzip : (l.zip vs)[j]? = some (l[j], v1) := by rw [List.getElem?_zip_eq_some]; exact ⟨hx0, hv1⟩
              have hle2 := hle.out
              rw [show (l.zip vs).drop j = (l[j], v1) :: (l.zip vs).drop (j + 1) from by
                obtain ⟨h1, h2⟩ := List.getElem?_eq_some_iff.1 hzip
                rw [List.drop_eq_getElem_cons h1, h2], leansAll] at hle2
              have hnmz := Hn.out _ (List.mem_of_getElem? hx0)
              have hfj : f j = some v1 := by rw [Hfv.out j hlt]; exact hv1
              generalize hgx : l[j] = x at hx0 hzip hle2 hnmz
              obtain ⟨nm, ty, mu, ⟨dk, dn, dst, dl, dks⟩⟩ := x
              obtain ⟨vk, vn, vs1, vl, vks⟩ := v1
              obtain ⟨b0, off0, d1, e1, d2, e2, hae, -, hbl, r0, r1, r2, r3, r4, r5, r6, r7, -, -⟩ := (Hr.out.below hB.out.below).attr hx0
              subst hae
              have hba : Below wr.heap.size wr (wr.alloc (.cells #[.string nm, .int .i64 ty, .bool mu, .int .i64 dk, .int .i64 dn, .string dst, .slice d1 dl.length e1, .slice d2 dks.length e2] 55)) := (Below.refl _ wr).alloc (Nat.le_refl _) _
              have hxb := heap_alloc_new wr (.cells #[.string nm, .int .i64 ty, .bool mu, .int .i64 dk, .int .i64 dn, .string dst, .slice d1 dl.length e1, .slice d2 dks.length e2] 55)
              have HB1 := Lib.hid (And.intro hxb (hB.out.later hba))
              have Hdold : Hid (∀ g, (Value.slice aL ds.length cL).ownBlock = some g → g < wr.heap.size) := Lib.hid (fun g hg => (hB.out.deps.block_lt hg).2)
              have Hvold : Hid (∀ g, (Value.slice aV j cV).ownBlock = some g → g < wr.heap.size) := Lib.hid (fun g hg => (hB.out.own.block_lt hg).2)
              have hwrs := hB.out.size
              rcases HB1.out.2.giv.look Tryz.underlying3 Tryz.underlying64 (zeroValV _) false j (by omega) with ⟨hno, -⟩ | ⟨v0', cs, hf0', hag, hlk⟩
              · rw [hfj] at hno; cases hno
              rw [hfj] at hf0'
              cases hf0'
              obtain ⟨b3, e3, b4, e4, rfl, hs3, hs4⟩ := hag.val
              simp only [Bool.false_eq_true, if_false] at hlk
              have hlk' : (Instr.lookup 64 (.map (some mb)) (.int .i64 j) false).run Tryz.prog (wr.alloc (.cells #[.string nm, .int .i64 ty, .bool mu, .int .i64 dk, .int .i64 dn, .string dst, .slice d1 dl.length e1, .slice d2 dks.length e2] 55)) = .ok (.agg #[.int .i64 vk, .int .i64 vn, .string vs1, .slice b3 vl.length e3, .slice b4 vks.length e4]) (wr.alloc (.cells #[.string nm, .int .i64 ty, .bool mu, .int .i64 dk, .int .i64 dn, .string dst, .slice d1 dl.length e1, .slice d2 dks.length e2] 55)) := hlk
              have HLE := Lib.hid (leans_any nm ty mu dk dn dst d1 d2 dl.length e1 dks.length e2 vk vn vs1 vl vks pkg F b3 e3 b4 e4 _ (Hw.out.below HB1.out.2.below) hp (check_small hc1) (fun b hb => Nat.lt_of_lt_of_le (HF.out b hb) HB1.out.2.below.size) hs3 hs4 ⟨nm, ty, mu, .mk dk dn dst dl dks⟩ rfl)
              have Hle2 := Lib.hid hle2
              have Hfj := Lib.hid hfj
              have Hzip := Lib.hid hzip
              have Hc1 := Lib.hid hc1
              clear hba hxb hag hlk hs3 hs4 hB hle hle2 hfj hzip hv1 hx0 hgx hc1
              go_wp2_with fail
              clear r0 r1 r2 r3 r4 r5 r6 r7 y0 y1 y2 y3 y4 y5 y6 y7 y8 y9 y10 y11 y12 hlk'
              refine HLE.out.mono ?_
              rintro e w5 ⟨hb5, hq⟩
              have hb5' := HB1.out.2.below.trans (hb5.mono HB1.out.2.below.size)
              have HB5 := Lib.hid (And.intro (stays HB1.out.1 hb5) (HB1.out.2.later hb5))
              clear hb5 hb5' HLE HB1
              have hle3 := Hle2.out
              cases hls : leansL ⟨nm, ty, mu, .mk dk dn dst dl dks⟩ (.mk vk vn vs1 vl vks) pkg.data.toList with
              | error k =>
                rw [hls] at hq hle3
                obtain rfl := hq
                have hk0 := leansL_err hls
                have hk1 : (k != 0) = true := by simpa using hk0
                have Hf : Hid (bindL rn l args pkg.data.toList = .error k) := Lib.hid (by rw [Hb3.out]; simp only [leanK] at hle3; rw [hle3])
                have Hk0 := Lib.hid hk0
                clear hls hk0 hle3
                obtain ⟨z0, z1, z2, z3, z4, z5, z6, z7, z8, z9, z10, z11, z12⟩ := sixW_facts (show w5.heap[w.heap.size + 1 + 1]? = some (.cells #[.string ⟨#[]⟩, .string ⟨#[]⟩, .string ⟨#[]⟩, .slice none 0 0, .slice none 0 0, .slice none 0 0] 44 (0, 0)) from HB5.out.2.zb)
                have hend := tgt_set (n := w.heap.size) (w := w) (b := w.heap.size + 1 + 1) (by omega) HB5.out.2.below HB5.out.2.zb (.string ⟨#[]⟩) (.string ⟨#[]⟩) (.string ⟨#[]⟩) (.slice none 0 0) (.slice none 0 0) (.slice none 0 0)
                go_wp2_with fail
                refine bodyPost_ret (w := w5.setCells (w.heap.size + 1 + 1) 0 [.string ⟨#[]⟩, .string ⟨#[]⟩, .string ⟨#[]⟩, .slice none 0 0, .slice none 0 0, .slice none 0 0]) (v := .tuple #[.agg #[.string ⟨#[]⟩, .string ⟨#[]⟩, .string ⟨#[]⟩, .slice none 0 0, .slice none 0 0, .slice none 0 0], .int .i64 k]) ?_ rfl ?_
                · generalize World.setCells _ _ _ _ = W9 at hend ⊢
                  obtain ⟨t0, t1, t2, t3, t4, t5, t6, -⟩ := sixW_facts hend.1
                  simp [results, Tryz.results8, go_sem, t1, t2, t3, t4, t5, t6]
                · unfold PBind
                  rw [Hf.out]
                  exact ⟨hend.2, Hk0.out, rfl⟩
              | ok ls =>
                rw [hls] at hq hle3
                obtain ⟨ds2, xv, rfl, hdl2, hds2, hnil2, hown2⟩ := hq
                have Hle3 : Hid (leansAll pkg.data.toList (l.zip vs) = leanK (leansAll pkg.data.toList ((l.zip vs).drop (j + 1))) ((ds ++ ds2).map labelOf)) := Lib.hid (by
                  rw [hle3, List.map_append, hdl2]
                  simp only [leanK]
                  cases leansAll pkg.data.toList ((l.zip vs).drop (j + 1)) with
                  | error e => rfl
                  | ok m => simp)
                have hdl3 : (ds ++ ds2).length ≤ 1000 * (j + 1) := by rw [List.length_append]; omega
                clear hle3 hls Hle2
                obtain ⟨a2, c2, rfl, hc2⟩ := hown2.shape
                rw [labelsD_len] at hown2 hnil2 hc2
                rw [labelsD_len]
                have Hmeet : Hid (∀ (dv' : Value) (w6 : World), OwnD (fun _ => True) w6 (m3 + 2) 41 2 dv' (labelsD (ds ++ ds2)) → w5.grownBy w6 (Value.slice aL ds.length cL).ownBlock → (∀ g, dv'.ownBlock = some g → (Value.slice aL ds.length cL).ownBlock = some g ∨ w5.heap.size ≤ g) →
                    (w6.setCell ⟨m3 + 1, 4, none⟩ dv').heap[wr.heap.size]? = some (.cells #[.string nm, .int .i64 ty, .bool mu, .int .i64 dk, .int .i64 dn, .string dst, .slice d1 dl.length e1, .slice d2 dks.length e2] 55 (0, 0)) ∧ BS F w (m3 + 2) (m3 + 1) mb p n rn f (.slice aV j cV) dv' (((l.zip vs).take j).map fun q => (q.1.name, q.2)) (ds ++ ds2) (w6.setCell ⟨m3 + 1, 4, none⟩ dv') ∧ (∀ g, dv'.ownBlock = some g → g ≠ wr.heap.size)) := Lib.hid (fun dv' w6 h1 h2 h3 =>
                  ⟨by
                    rw [set_other (by omega) 4 _, h2.block _ (here HB5.out.1) (fun e => by have := Hdold.out _ e.symm; omega)]
                    exact HB5.out.1, HB5.out.2.dep HN.out h1 h2 h3, fun g hg e => by
                      rcases h3 g hg with h | h
                      · have := Hdold.out g h; omega
                      · have := here HB5.out.1; omega⟩)
                have hsz5 : m3 + 2 ≤ w5.heap.size := HB5.out.2.size
                have Hown2 := Lib.hid hown2
                have Hnil2 := Lib.hid hnil2
                clear hown2 hnil2
                go_upto_region 16 with fail
                go_cut [82] from 79 to 83 (fun v wc => Hid (wc.heap[wr.heap.size]? = some (.cells #[.string nm, .int .i64 ty, .bool mu, .int .i64 dk, .int .i64 dn, .string dst, .slice d1 dl.length e1, .slice d2 dks.length e2] 55 (0, 0)) ∧ BS F w (m3 + 2) (m3 + 1) mb p n rn f (.slice aV j cV) v (((l.zip vs).take j).map fun q => (q.1.name, q.2)) (ds ++ ds2) wc ∧ (∀ g, v.ownBlock = some g → g ≠ wr.heap.size)))
                case first =>
                  obtain ⟨y0, y1, y2, y3, y4, y5, y6, y7, y8, y9, y10, y11, y12⟩ := sixW_facts HB5.out.2.tb
                  by_cases hnil : ds2 = []
                  · subst hnil
                    have hnn := Hnil2.out rfl
                    injection hnn with g1 g2 g3
                    subst g1
                    subst g3
                    have happ : ∀ ty, (Builtin.append_ #[42, 42] ty #[.slice aL ds.length cL, .slice none 0 0]).run Tryz.prog w5 = .ok (.slice aL ds.length cL) w5 := fun ty => run_append_owned_none w5 (m3 + 2) 42 ty 41 iL 2 Tryz.underlying42 hiL _ _ _ (ownD_labels.1 HB5.out.2.deps)
                    have hm := Hmeet.out (.slice aL ds.length cL) w5 (by rw [List.append_nil]; exact HB5.out.2.deps) (grownBy_refl _ _) (fun g hg => .inl hg)
                    have Hm := Lib.hid hm
                    have Happ := Lib.hid happ
                    rw [List.length_nil]
                    clear hm happ
                    go_wp2_with (at_builtin; refine wpList_append_owned rfl _ _ 42 rfl (.slice aL ds.length cL) rfl rfl (Happ.out _) ?_)
                    go_wp2_with fail
                    go_meet
                    case rel => exact Hm
                  · have hne : labelsD ds2 ≠ [] := by intro e; apply hnil; cases ds2 with | nil => rfl | cons x t => simp [labelsD] at e
                    obtain ⟨g2, rfl, hg2, hgl2, -⟩ := Hown2.out.blk hne (by rw [labelsD_len]) (labelsD_all (fun _ => rfl) ds2)
                    have hrow := row_labels Hown2.out
                    have Hrow : Hid (RowAt (fun b => True ∧ (Value.slice aL ds.length cL).ownBlock ≠ some b) w5 (some ⟨g2, 0, none⟩) (labelsD ds2)) := Lib.hid (hrow.wider fun b hb _ => ⟨trivial, fun e => by
                      have h1 : g2 = b := by simpa [Value.ownBlock] using hb
                      have h2 := Hdold.out b e
                      simp at hg2
                      omega⟩)
                    have hobl : Hid (∀ g, (Value.slice aL ds.length cL).ownBlock = some g → m3 + 2 ≤ g) := Lib.hid (fun g hg => (HB5.out.2.deps.block_lt hg).1)
                    clear hne hrow hnil
                    go_wp2_with (at_builtin; refine wpList_append_row rfl _ _ 42 rfl (m3 + 2) 41 iL _ 2 32 Tryz.underlying42 hiL hL0 hL1 hL2 rfl (by decide) (.slice aL ds.length cL) (fun _ => True) (labelsD ds) rfl HB5.out.2.deps g2 0 c2 (labelsD ds2) ?_ Hrow.out (labelsD_all (fun _ => rfl) ds2) (labelsD_all labelD_plain ds2) ?_ ?_ ?_ ?_)
                    · rw [labelsD_len]; rfl
                    · rw [labelsD_len, labelsD_len]; unfold maxLen; omega
                    · rw [labelsD_len, labelsD_len]; omega
                    · omega
                    intro v6 w6 hown6 hgrow6 hat6
                    rw [← labelsD_append] at hown6
                    have Hm := Lib.hid (Hmeet.out v6 w6 hown6 hgrow6 hat6)
                    obtain ⟨y0, y1, y2, y3, y4, y5, y6, y7, y8, y9, y10, y11, y12⟩ : m3 + 1 < w6.heap.size ∧ w6.cell? ⟨m3 + 1, 0, none⟩ = some (.string p) ∧ w6.cell? ⟨m3 + 1, 1, none⟩ = some (.string n) ∧ w6.cell? ⟨m3 + 1, 2, none⟩ = some (.string rn) ∧ w6.cell? ⟨m3 + 1, 3, none⟩ = some (.slice aV j cV) ∧ w6.cell? ⟨m3 + 1, 4, none⟩ = some (.slice aL ds.length cL) ∧ w6.cell? ⟨m3 + 1, 5, none⟩ = some (.slice none 0 0) ∧ w6.frozen? ⟨m3 + 1, 0, none⟩ = false ∧ w6.frozen? ⟨m3 + 1, 1, none⟩ = false ∧ w6.frozen? ⟨m3 + 1, 2, none⟩ = false ∧ w6.frozen? ⟨m3 + 1, 3, none⟩ = false ∧ w6.frozen? ⟨m3 + 1, 4, none⟩ = false ∧ w6.frozen? ⟨m3 + 1, 5, none⟩ = false := sixW_facts ((hgrow6.block (m3 + 1) (by omega) (fun e => by have := hobl.out _ e.symm; omega)).trans HB5.out.2.tb)
                    obtain ⟨a6, c6, rfl, -⟩ := hown6.shape
                    clear hown6 hgrow6 hat6
                    go_wp2_with fail
                    go_meet
                    case rel => exact Hm
                case rest =>
                  rename_i v82
                  obtain ⟨aM, cM, hvM, -⟩ := hcut.out.2.1.deps.shape
                  rw [labelsD_len] at hvM
                  subst hvM
                  have hbd : Below wc.heap.size wc wc.drew := (Below.refl _ wc).drew
                  have HC : Hid (wc.drew.heap[wr.heap.size]? = some (.cells #[.string nm, .int .i64 ty, .bool mu, .int .i64 dk, .int .i64 dn, .string dst, .slice d1 dl.length e1, .slice d2 dks.length e2] 55 (0, 0)) ∧ BS F w (m3 + 2) (m3 + 1) mb p n rn f (.slice aV j cV) (.slice aM (ds ++ ds2).length cM) (((l.zip vs).take j).map fun q => (q.1.name, q.2)) (ds ++ ds2) wc.drew) := Lib.hid ⟨stays hcut.out.1 hbd, hcut.out.2.1.later hbd⟩
                  clear hcut hbd Hmeet HB5 Hown2 Hnil2 Hdold hsz5
                  go_wp2_with fail
                  refine wp_region_turns (.s 0 (.s 1 (.s 2 (.s 3 (.s 4 (.s 5 (.h 6 (.h 7 (.s 8 (.h 9 (.h 10 (.s 11 (.h 12 .nil))))))))))))) 12 (fun W' => W'.heap[m3 + 1]? = some (.cells #[.string p, .string n, .string rn, .slice aV j cV, .slice aM (ds ++ ds2).length cM, .slice none 0 0] 44 (0, 0)) ∧ W'.heap[wr.heap.size]? = some (.cells #[.string nm, .int .i64 ty, .bool mu, .int .i64 dk, .int .i64 dn, .string dst, .slice d1 dl.length e1, .slice d2 dks.length e2] 55 (0, 0))) (by kernel_rfl) (by kernel_rfl) (fun c a d v w h => by cases d <;> exact h) ⟨HC.out.2.tb, HC.out.1⟩ ?_
                  generalize World.drew _ = Wd at HC ⊢
                  refine turn_steady (.pointer (some ⟨m3 + 1, 3, none⟩)) rfl rfl (fun W' hS => ?_) ?_
                  · obtain ⟨z0, z1, z2, z3, z4, z5, z6, -⟩ := sixW_facts hS.1
                    clear hS
                    go_simp
                  try simp only [List.getElem_toArray, List.getElem_cons_zero, Act.put, List.setIfInBounds_toArray, List.set_cons_zero, List.set_cons_succ]
                  refine turn_steady (.slice aV j cV) rfl rfl (fun W' hS => ?_) ?_
                  · obtain ⟨z0, z1, z2, z3, z4, z5, z6, -⟩ := sixW_facts hS.1
                    clear hS
                    go_simp
                  try simp only [List.getElem_toArray, List.getElem_cons_succ, List.getElem_cons_zero, Act.put, List.setIfInBounds_toArray, List.set_cons_zero, List.set_cons_succ]
                  refine turn_steady (.pointer (some ⟨wr.heap.size, 0, none⟩)) rfl rfl (fun W' hS => ?_) ?_
                  · obtain ⟨z0, z1, z2, z3⟩ := a8_facts hS.2
                    clear hS
                    go_simp
                  try simp only [List.getElem_toArray, List.getElem_cons_succ, List.getElem_cons_zero, Act.put, List.setIfInBounds_toArray, List.set_cons_zero, List.set_cons_succ]
                  refine turn_steady (.string nm) rfl rfl (fun W' hS => ?_) ?_
                  · obtain ⟨z0, z1, z2, z3⟩ := a8_facts hS.2
                    clear hS
                    go_simp
                  try simp only [List.getElem_toArray, List.getElem_cons_succ, List.getElem_cons_zero, Act.put, List.setIfInBounds_toArray, List.set_cons_zero, List.set_cons_succ]
                  refine turn_steady (.map (some mb)) rfl rfl (fun W' hS => ?_) ?_
                  · go_simp
                  try simp only [List.getElem_toArray, List.getElem_cons_succ, List.getElem_cons_zero, Act.put, List.setIfInBounds_toArray, List.set_cons_zero, List.set_cons_succ]
                  refine turn_steady (.int .i64 j) rfl rfl (fun W' hS => ?_) ?_
                  · go_simp
                  try simp only [List.getElem_toArray, List.getElem_cons_succ, List.getElem_cons_zero, Act.put, List.setIfInBounds_toArray, List.set_cons_zero, List.set_cons_succ]
                  rcases HC.out.2.giv.look Tryz.underlying3 Tryz.underlying64 (zeroValV _) false j (by omega) with ⟨hno, -⟩ | ⟨v0', cs, hf0', hag, hlk⟩
                  · rw [Hfj.out] at hno; cases hno
                  rw [Hfj.out] at hf0'
                  cases hf0'
                  obtain ⟨b5, e5, b6, e6, rfl, hs5, hs6⟩ := hag.val
                  simp only [Bool.false_eq_true, if_false] at hlk
                  have hlk' : (Instr.lookup 64 (.map (some mb)) (.int .i64 j) false).run Tryz.prog Wd = .ok (.agg #[.int .i64 vk, .int .i64 vn, .string vs1, .slice b5 vl.length e5, .slice b6 vks.length e6]) Wd := hlk
                  have hcp := copied_any (.mk vk vn vs1 vl vks) Hc1.out F b5 e5 b6 e6 Wd (fun b hb => Nat.lt_of_lt_of_le (HF.out b hb) HC.out.2.below.size) hs5 hs6
                  have HCP := Lib.hid hcp
                  clear hag hlk hs5 hs6 hcp
                  refine turn_heavy rfl (fun K6 hK6 => ?_)
                  go_wp2_with fail
                  refine hK6 _ _ (fun _ => ⟨HC.out.2.tb, HC.out.1⟩) ?_
                  try simp only [List.getElem_toArray, List.getElem_cons_succ, List.getElem_cons_zero, Act.put, List.setIfInBounds_toArray, List.set_cons_zero, List.set_cons_succ]
                  clear hlk'
                  refine turn_heavy rfl (fun K7 hK7 => ?_)
                  go_wp2_with fail
                  refine HCP.out.mono ?_
                  rintro e w6 ⟨hb6, cs', rfl, hag6⟩
                  obtain ⟨b7, e7, b8, e8, rfl, -, -⟩ := hag6.val
                  have hszd : m3 + 2 ≤ Wd.heap.size := HC.out.2.size
                  have hdm : ∀ g, (Value.slice aM (ds ++ ds2).length cM).ownBlock = some g → m3 + 2 ≤ g ∧ g < Wd.heap.size := fun g hg => HC.out.2.deps.block_lt hg
                  have hvm : ∀ g, (Value.slice aV j cV).ownBlock = some g → m3 + 2 ≤ g ∧ g < Wd.heap.size := fun g hg => HC.out.2.own.block_lt hg
                  have hFw := HF.out
                  have hnn := HN.out.hmb
                  have hnb := HN.out.hbt
                  have hww := HC.out.2.below.size
                  have hag7 : AggAt (fun b => ((F b ∨ m3 + 2 ≤ b) ∧ (Value.slice aM (ds ++ ds2).length cM).ownBlock ≠ some b) ∧ (Value.slice aV j cV).ownBlock ≠ some b) w6 (valD (.mk vk vn vs1 vl vks)) [.int .i64 vk, .int .i64 vn, .string vs1, .slice b7 vl.length e7, .slice b8 vks.length e8] := hag6.wider fun b hb _ => by
                    rcases hb with hb | hb
                    · have := hFw b hb
                      exact ⟨⟨.inl hb, fun e => by have := (hdm b e).1; omega⟩, fun e => by have := (hvm b e).1; omega⟩
                    · exact ⟨⟨.inr (by omega), fun e => by have := (hdm b e).2; omega⟩, fun e => by have := (hvm b e).2; omega⟩
                  have hb67 : Below w6.heap.size w6 (w6.alloc (.cells #[.string nm, .int .i64 vk, .int .i64 vn, .string vs1, .slice b7 vl.length e7, .slice b8 vks.length e8] 39)) := (Below.refl _ _).alloc (Nat.le_refl _) _
                  have hnews := lit_newsP w6 [.string nm, .int .i64 vk, .int .i64 vn, .string vs1, .slice b7 vl.length e7, .slice b8 vks.length e8] 39
                  have Hnews := Lib.hid hnews
                  have Hag : Hid (AggAt (fun b => ((F b ∨ m3 + 2 ≤ b) ∧ (Value.slice aM (ds ++ ds2).length cM).ownBlock ≠ some b) ∧ (Value.slice aV j cV).ownBlock ≠ some b) (w6.alloc (.cells #[.string nm, .int .i64 vk, .int .i64 vn, .string vs1, .slice b7 vl.length e7, .slice b8 vks.length e8] 39)) (namedD (nm, .mk vk vn vs1 vl vks)) [.string nm, .int .i64 vk, .int .i64 vn, .string vs1, .slice b7 vl.length e7, .slice b8 vks.length e8]) := Lib.hid (.cons (.one _) (hag7.below hb67))
                  have HC6 := Lib.hid (And.intro (stays HC.out.1 hb6) (HC.out.2.later hb6))
                  have HC7 := Lib.hid (And.intro (stays HC6.out.1 hb67) (HC6.out.2.later hb67))
                  have hsz67 : m3 + 2 ≤ w6.heap.size := HC6.out.2.size
                  have Hvm : Hid (∀ g, (Value.slice aV j cV).ownBlock = some g → m3 + 2 ≤ g) := Lib.hid (fun g hg => (hvm g hg).1)
                  clear hag6 hag7 hb6 hb67 hnews HC HCP hdm hvm hFw hnn hnb hww hszd
                  go_wp2_with fail
                  refine hK7 _ _ (fun _ => ⟨HC6.out.2.tb, HC6.out.1⟩) ?_
                  try simp only [List.getElem_toArray, List.getElem_cons_succ, List.getElem_cons_zero, Act.put, List.setIfInBounds_toArray, List.set_cons_zero, List.set_cons_succ]
                  refine turn_steady (.agg #[.string nm, .int .i64 vk, .int .i64 vn, .string vs1, .slice b7 vl.length e7, .slice b8 vks.length e8]) rfl rfl (fun W' hS => ?_) ?_
                  · go_simp
                  try simp only [List.getElem_toArray, List.getElem_cons_succ, List.getElem_cons_zero, Act.put, List.setIfInBounds_toArray, List.set_cons_zero, List.set_cons_succ]
                  refine turn_heavy rfl (fun K9 hK9 => ?_)
                  go_wp2_with fail
                  refine hK9 _ _ (fun _ => ⟨HC7.out.2.tb, HC7.out.1⟩) ?_
                  try simp only [List.getElem_toArray, List.getElem_cons_succ, List.getElem_cons_zero, Act.put, List.setIfInBounds_toArray, List.set_cons_zero, List.set_cons_succ]
                  refine turn_heavy rfl (fun K10 hK10 => ?_)
                  refine (wpList_append_dat rfl _ _ 28 rfl (m3 + 2) 39 iN _ 6 96 Tryz.underlying28 hiN hN0 hN1 hN2 rfl (by decide) (.slice aV j cV) (fun b => (F b ∨ m3 + 2 ≤ b) ∧ (Value.slice aM (ds ++ ds2).length cM).ownBlock ≠ some b) (namedsD (((l.zip vs).take j).map fun q => (q.1.name, q.2))) rfl HC7.out.2.own ⟨w6.heap.size, 0, none⟩ 1 (namedD (nm, .mk vk vn vs1 vl vks)) [.string nm, .int .i64 vk, .int .i64 vn, .string vs1, .slice b7 vl.length e7, .slice b8 vks.length e8] rfl rfl Hnews.out ?_ Hag.out ?_ ?_ ?_ ?_)
                  · simp [Value.oneCell']
                  · rw [hvlen]; unfold maxLen; omega
                  · rw [hvlen]; omega
                  · simp; omega
                  intro v10 w10 hown10 hgrow10 hat10
                  have hvals : (((l.zip vs).take (j + 1)).map fun q => (q.1.name, q.2)) = (((l.zip vs).take j).map fun q => (q.1.name, q.2)) ++ [(nm, .mk vk vn vs1 vl vks)] := by rw [List.take_add_one, Hzip.out, Option.toList_some, List.map_append]; rfl
                  have hown11 : OwnD (fun b => (F b ∨ m3 + 2 ≤ b) ∧ (Value.slice aM (ds ++ ds2).length cM).ownBlock ≠ some b) w10 (m3 + 2) 39 6 v10 (namedsD (((l.zip vs).take (j + 1)).map fun q => (q.1.name, q.2))) := by rw [hvals, namedsD_append]; exact hown10
                  have HB12 := Lib.hid (HC7.out.2.val HN.out hown11 hgrow10 hat10)
                  have hlt7 : m3 + 1 < (w6.alloc (.cells #[.string nm, .int .i64 vk, .int .i64 vn, .string vs1, .slice b7 vl.length e7, .slice b8 vks.length e8] 39)).heap.size := by simp; omega
                  have HS10 : Hid (w10.heap[m3 + 1]? = some (.cells #[.string p, .string n, .string rn, .slice aV j cV, .slice aM (ds ++ ds2).length cM, .slice none 0 0] 44 (0, 0)) ∧ w10.heap[wr.heap.size]? = some (.cells #[.string nm, .int .i64 ty, .bool mu, .int .i64 dk, .int .i64 dn, .string dst, .slice d1 dl.length e1, .slice d2 dks.length e2] 55 (0, 0))) := Lib.hid
                    ⟨(hgrow10.block (m3 + 1) hlt7 (fun e => by have := Hvm.out _ e.symm; omega)).trans HC7.out.2.tb, (hgrow10.block _ (here HC7.out.1) (fun e => by have := Hvold.out _ e.symm; omega)).trans HC7.out.1⟩
                  obtain ⟨aW, cW, rfl, -⟩ := hown11.shape
                  generalize (namedsD (((l.zip vs).take (j + 1)).map fun q => (q.1.name, q.2))).length = n9 at HB12 ⊢
                  clear hown10 hgrow10 hat10 hown11 hvals HC7 HC6 Hag Hnews hlt7
                  go_wp2_with fail
                  refine hK10 _ _ (fun _ => HS10.out) ?_
                  try simp only [List.getElem_toArray, List.getElem_cons_succ, List.getElem_cons_zero, Act.put, List.setIfInBounds_toArray, List.set_cons_zero, List.set_cons_succ]
                  refine turn_steady (.pointer (some ⟨m3 + 1, 3, none⟩)) rfl rfl (fun W' hS => ?_) ?_
                  · obtain ⟨z0, z1, z2, z3, z4, z5, z6, -⟩ := sixW_facts hS.1
                    clear hS
                    go_simp
                  try simp only [List.getElem_toArray, List.getElem_cons_succ, List.getElem_cons_zero, Act.put, List.setIfInBounds_toArray, List.set_cons_zero, List.set_cons_succ]
                  obtain ⟨z0, z1, z2, z3, z4, z5, z6, z7, z8, z9, z10, z11, z12⟩ := sixW_facts HS10.out.1
                  refine turn_heavy rfl (fun K12 hK12 => ?_)
                  go_wp2_with fail
                  refine hK12 _ _ (fun h => absurd rfl h) ?_
                  generalize World.setCell _ _ _ = W12 at HB12 ⊢
                  refine turn_end ?_
                  try simp only [List.getElem_toArray, List.getElem_cons_succ, List.getElem_cons_zero, Act.put, List.setIfInBounds_toArray, List.set_cons_zero, List.set_cons_succ]
                  clear z0 z1 z2 z3 z4 z5 z6 z7 z8 z9 z10 z11 z12 HS10
                  go_wp2_with fail
                  go_roundw
                  case rel => exact ⟨j + 1, _, _, ds ++ ds2, by go_num, by omega, hdl3, HB12, Hle3⟩
                  case measure => simp only [intOf]; omega
            · have hje : j = l.length := by omega
              have hzl : (l.zip vs).length = l.length := by rw [List.length_zip, Hvl.out]; omega
              have htk : (l.zip vs).take j = l.zip vs := List.take_of_length_le (by omega)
              have hle2 := hle.out
              rw [List.drop_eq_nil_of_le (by omega), leansAll] at hle2
              simp only [leanK, List.append_nil] at hle2
              have Hf0 : Hid (bindL rn l args pkg.data.toList = .ok ⟨x, rn, ((l.zip vs).map fun p => (p.1.name, p.2)).mergeSort leName, dedup ((ds.map labelOf).mergeSort labelLe), (textsL ((vs[1]?).getD vZero)).getD []⟩) := Lib.hid (by rw [Hb3.out, hle2])
              rw [htk] at hB
              obtain ⟨v1, hv1, hc1⟩ := HV.out 1 _ (List.getElem?_eq_getElem (by omega : 1 < l.length))
              have Hf : Hid (bindL rn l args pkg.data.toList = .ok ⟨x, rn, ((l.zip vs).map fun p => (p.1.name, p.2)).mergeSort leName, dedup ((ds.map labelOf).mergeSort labelLe), itemsB v1⟩) := Lib.hid (by rw [Hf0.out, hv1]; rfl)
              have Hf1 : Hid (f 1 = some v1) := Lib.hid (by rw [Hfv.out 1 (by omega)]; exact hv1)
              have hvz : ∀ q ∈ ((l.zip vs).map fun p => (p.1.name, p.2)), checkV q.2 = true := by
                intro q hq
                obtain ⟨z, hz, rfl⟩ := List.mem_map.1 hq
                obtain ⟨i, hi⟩ := List.getElem?_of_mem hz
                rw [List.getElem?_zip_eq_some] at hi
                obtain ⟨v, h1, h2⟩ := HV.out i _ hi.1
                rw [hi.2] at h1
                cases h1
                exact h2
              have Hnd2 : Hid ((((l.zip vs).map fun p => (p.1.name, p.2)).map (·.1.data.toList)).Nodup) := Lib.hid (by rw [zip_names l vs Hvl.out]; exact Hnod.out)
              have hVl : ((l.zip vs).map fun p => (p.1.name, p.2)).length = l.length := by rw [List.length_map, hzl]
              have hdl9 : ds.length ≤ 900000 := by omega
              clear hvlen
              generalize hgV : ((l.zip vs).map fun p => (p.1.name, p.2)) = VS at hB Hf hvz Hnd2 hVl
              have Hvz := Lib.hid hvz
              have Hc1 := Lib.hid hc1
              clear hle hle2 Hf0 hgV hvz hv1 hc1 htk hzl Hb3 Hfv HV Hnod
              have hjV : VS.length = j := by omega
              have HjV := Lib.hid hjV
              clear hjV hVl hje
              have HSL := Lib.hid (sortLabels_any aL cL (m3 + 2) ds wr (by omega) hB.out.deps)
              go_wp2_with fail
              refine HSL.out.mono ?_
              rintro e w5 ⟨rfl, ds1, hd1, hd2, hd3, hg5⟩
              have HB5 := Lib.hid (hB.out.depS HN.out hd3 hg5)
              have hCL := compactL_any aL cL (m3 + 2) ds1 w5 (by omega) (by rw [hd1]; exact hd3)
              rw [hd1] at hCL
              have HCL := Lib.hid hCL
              have Hd2 := Lib.hid hd2
              clear hB HSL hd3 hg5 hCL y0 y1 y2 y3 y4 y5 y6 y7 y8 y9 y10 y11 y12 hmwr hd2
              obtain ⟨y0, y1, y2, y3, y4, y5, y6, y7, y8, y9, y10, y11, y12⟩ := sixW_facts HB5.out.tb
              go_wp2_with fail
              refine HCL.out.mono ?_
              rintro e w6 ⟨ds2, a6, c6, hm6, hl6, rfl, hrow6, hg6⟩
              obtain ⟨o1, o2, o3, o4, o5, o6⟩ := HB5.out.others HN.out hg6
              have hdb : ∀ b, (Value.slice aL ds.length cL).ownBlock = some b → m3 + 2 ≤ b := fun b hb => (HB5.out.deps.block_lt hb).1
              have Hsep := Lib.hid HB5.out.sep
              have hnn := HN.out
              have h01 := hnn.hmb
              have h02 := hnn.hbt
              have hmb6 := o5.lt
              have hF1 := HF.out
              have E7 : Hid ((w6.setCell ⟨m3 + 1, 4, none⟩ (.slice a6 ds2.length c6)).heap[m3 + 1]? = some (.cells #[.string p, .string n, .string rn, .slice aV j cV, .slice a6 ds2.length c6, .slice none 0 0] 44 (0, 0)) ∧ (w6.setCell ⟨m3 + 1, 4, none⟩ (.slice a6 ds2.length c6)).heap[w.heap.size + 2]? = some (.cells zeroT 44 (0, 0)) ∧ Below w.heap.size w (w6.setCell ⟨m3 + 1, 4, none⟩ (.slice a6 ds2.length c6)) ∧ GivAt F (w6.setCell ⟨m3 + 1, 4, none⟩ (.slice a6 ds2.length c6)) mb f ∧
                  OwnD (fun b => (F b ∨ m3 + 2 ≤ b) ∧ (Value.slice aL ds.length cL).ownBlock ≠ some b) (w6.setCell ⟨m3 + 1, 4, none⟩ (.slice a6 ds2.length c6)) (m3 + 2) 39 6 (.slice aV j cV) (namedsD VS) ∧ RowAt (fun b => (Value.slice aL ds.length cL).ownBlock = some b) (w6.setCell ⟨m3 + 1, 4, none⟩ (.slice a6 ds2.length c6)) a6 (labelsD ds2) ∧ m3 + 2 ≤ (w6.setCell ⟨m3 + 1, 4, none⟩ (.slice a6 ds2.length c6)).heap.size) := Lib.hid
                ⟨by rw [set_same o3 4]; rfl, (set_other (by omega) 4 _).trans o4, o1.setCell (p := ⟨m3 + 1, 4, none⟩) (by show _ ≤ m3 + 1; omega) _,
                  o5.mono (set_other (by omega) 4 _) (fun b hb hl => ⟨hb, by simpa using hl, set_other (by have := hF1 b hb; omega) 4 _⟩),
                  o6.keep (fun b hb hx => set_other (by
                    rcases hx with hx | hx
                    · rcases hx.1 with h1 | h1
                      · have := hF1 b h1; omega
                      · omega
                    · have := (o6.block_lt hx).1; omega) 4 _) (by simp),
                  hrow6.mono (fun b hb hl => ⟨hb, by simpa using hl, set_other (by have := hdb b hb; omega) 4 _⟩), by simpa using o2⟩
              clear y0 y1 y2 y3 y4 y5 y6 y7 y8 y9 y10 y11 y12 HCL
              obtain ⟨y0, y1, y2, y3, y4, y5, y6, y7, y8, y9, y10, y11, y12⟩ := sixW_facts o3
              have Hm6 := Lib.hid hm6
              have Hdb := Lib.hid hdb
              clear HB5 hrow6 hg6 o1 o2 o3 o4 o5 o6 hdb hF1 hm6
              go_wp2_with fail
              generalize World.setCell _ _ _ = W7 at E7 ⊢
              clear y0 y1 y2 y3 y4 y5 y6 y7 y8 y9 y10 y11 y12 hmb6
              have hSN := sortNamed_any (fun b => (F b ∨ m3 + 2 ≤ b) ∧ (Value.slice aL ds.length cL).ownBlock ≠ some b) aV cV (m3 + 2) VS W7 (by rw [HjV.out]; omega) Hnd2.out (by rw [HjV.out]; exact E7.out.2.2.2.2.1)
              rw [HjV.out] at hSN
              have HSN := Lib.hid hSN
              clear hSN
              obtain ⟨y0, y1, y2, y3, y4, y5, y6, y7, y8, y9, y10, y11, y12⟩ := sixW_facts E7.out.1
              go_wp2_with fail
              refine HSN.out.mono ?_
              rintro e w8 ⟨rfl, hown8, hg8⟩
              have hvb : ∀ b, (Value.slice aV j cV).ownBlock = some b → m3 + 2 ≤ b := fun b hb => (E7.out.2.2.2.2.1.block_lt hb).1
              have hs7 := E7.out.2.2.2.2.2.2
              have hlw := E7.out.2.2.1.size
              have hF1 := HF.out
              have hmb7 := E7.out.2.2.2.1.lt
              have hs8 := hg8.size
              have keep8 : ∀ b, b < W7.heap.size → (Value.slice aV j cV).ownBlock ≠ some b → w8.heap[b]? = W7.heap[b]? := fun b hb hne => hg8.block b hb (fun e => hne e.symm)
              have E8 : Hid (w8.heap[m3 + 1]? = some (.cells #[.string p, .string n, .string rn, .slice aV j cV, .slice a6 ds2.length c6, .slice none 0 0] 44 (0, 0)) ∧ w8.heap[w.heap.size + 2]? = some (.cells zeroT 44 (0, 0)) ∧ Below w.heap.size w w8 ∧ GivAt F w8 mb f ∧
                  OwnD (fun b => (F b ∨ m3 + 2 ≤ b) ∧ (Value.slice aL ds.length cL).ownBlock ≠ some b) w8 (m3 + 2) 39 6 (.slice aV j cV) (namedsD (VS.mergeSort leName)) ∧ RowAt (fun b => (Value.slice aL ds.length cL).ownBlock = some b) w8 a6 (labelsD ds2) ∧ m3 + 2 ≤ w8.heap.size) := Lib.hid
                ⟨(keep8 _ (by omega) (fun e => by have := hvb _ e; omega)).trans E7.out.1, (keep8 _ (by omega) (fun e => by have := hvb _ e; omega)).trans E7.out.2.1,
                  ⟨hg8.os.trans E7.out.2.2.1.os, hg8.tape.trans E7.out.2.2.1.tape, hg8.output.trans E7.out.2.2.1.output, by omega, fun i hi => (keep8 i (by omega) (fun e => by have := hvb _ e; omega)).trans (E7.out.2.2.1.block i hi)⟩,
                  E7.out.2.2.2.1.mono (keep8 mb hmb7 (fun e => by have := hvb _ e; omega)) (fun b hb hl => ⟨hb, by omega, keep8 b hl (fun e => by have := hvb _ e; have := hF1 b hb; omega)⟩),
                  hown8, E7.out.2.2.2.2.2.1.mono (fun b hb hl => ⟨hb, by omega, keep8 b hl (fun e => Hsep.out b e hb)⟩), by omega⟩
              have Hvb := Lib.hid hvb
              clear y0 y1 y2 y3 y4 y5 y6 y7 y8 y9 y10 y11 y12 hown8 hg8 keep8 hvb HSN E7 hs7 hs8 hlw hF1 hmb7
              rcases E8.out.2.2.2.1.look Tryz.underlying3 Tryz.underlying64 (zeroValV w8) false 1 (by omega) with ⟨hno, -⟩ | ⟨v0', cs, hf0', hag, hlk⟩
              · rw [Hf1.out] at hno; cases hno
              rw [Hf1.out] at hf0'
              cases hf0'
              obtain ⟨vk, vn, vs1, vl, vks⟩ := v1
              obtain ⟨b3, e3, b4, e4, rfl, hs3, hs4⟩ := hag.val
              simp only [Bool.false_eq_true, if_false] at hlk
              have hlk' : (Instr.lookup 64 (.map (some mb)) (.int .i64 1) false).run Tryz.prog w8 = .ok (.agg #[.int .i64 vk, .int .i64 vn, .string vs1, .slice b3 vl.length e3, .slice b4 vks.length e4]) w8 := hlk
              have HT := Lib.hid (texts_any vk vn vs1 vl vks (check_small Hc1.out) F b3 e3 b4 e4 w8 (fun b hb => Nat.lt_of_lt_of_le (HF.out b hb) E8.out.2.2.1.size) hs3 hs4)
              clear hag hlk hs3 hs4
              go_wp2_with fail
              refine HT.out.mono ?_
              rintro e w9 ⟨hb9, hq⟩
              clear hlk' HT
              have Hit : Hid (∃ (aT : Option Addr) (cT : Nat) (bb : Bool), e = .returned (.tuple #[.slice aT (itemsB (.mk vk vn vs1 vl vks)).length cT, .bool bb]) ∧ OwnS w9 w8.heap.size (.slice aT (itemsB (.mk vk vn vs1 vl vks)).length cT) (itemsB (.mk vk vn vs1 vl vks)) ∧ (itemsB (.mk vk vn vs1 vl vks)).length ≤ 1000) := Lib.hid (by
                unfold itemsB
                cases hx : textsL (.mk vk vn vs1 vl vks) with
                | none =>
                  rw [hx] at hq
                  obtain rfl := hq
                  exact ⟨none, 0, false, rfl, OwnS.nil _ _, by simp⟩
                | some l9 =>
                  rw [hx] at hq
                  obtain ⟨x9, rfl, hown9⟩ := hq
                  obtain ⟨aT, cT, rfl, -, -⟩ := hown9.strsAt
                  exact ⟨aT, cT, true, rfl, hown9, (texts_short hx).1⟩)
              obtain ⟨aT, cT, bb9, rfl, hown9, hlen9⟩ := Hit.out
              have Hown9 := Lib.hid hown9
              have hs8 := E8.out.2.2.2.2.2.2
              have hs9 := hb9.size
              have E9 : Hid (w9.heap[m3 + 1]? = some (.cells #[.string p, .string n, .string rn, .slice aV j cV, .slice a6 ds2.length c6, .slice none 0 0] 44 (0, 0)) ∧ w9.heap[w.heap.size + 2]? = some (.cells zeroT 44 (0, 0)) ∧ Below w.heap.size w w9 ∧
                  OwnD (fun b => (F b ∨ m3 + 2 ≤ b) ∧ (Value.slice aL ds.length cL).ownBlock ≠ some b) w9 (m3 + 2) 39 6 (.slice aV j cV) (namedsD (VS.mergeSort leName)) ∧ RowAt (fun b => (Value.slice aL ds.length cL).ownBlock = some b) w9 a6 (labelsD ds2)) := Lib.hid
                ⟨stays E8.out.1 hb9, stays E8.out.2.1 hb9, E8.out.2.2.1.trans (hb9.mono E8.out.2.2.1.size), E8.out.2.2.2.2.1.below hb9, E8.out.2.2.2.2.2.1.below hb9⟩
              obtain ⟨y0, y1, y2, y3, y4, y5, y6, y7, y8, y9, y10, y11, y12⟩ := sixW_facts E9.out.1
              obtain ⟨z0, z1, z2, z3, z4, z5, z6, z7, z8, z9, z10, z11, z12⟩ := sixW_facts (show w9.heap[w.heap.size + 1 + 1]? = some (.cells #[.string ⟨#[]⟩, .string ⟨#[]⟩, .string ⟨#[]⟩, .slice none 0 0, .slice none 0 0, .slice none 0 0] 44 (0, 0)) from E9.out.2.1)
              clear hb9 hq hown9 Hit E8
              generalize hgi : itemsB (.mk vk vn vs1 vl vks) = its at Hf Hown9 hlen9 ⊢
              go_wp2_with fail
              have E10 : Hid ((w9.setCell ⟨m3 + 1, 5, none⟩ (.slice aT its.length cT)).heap[w.heap.size + 1 + 1]? = some (.cells zeroT 44 (0, 0)) ∧ Below w.heap.size w (w9.setCell ⟨m3 + 1, 5, none⟩ (.slice aT its.length cT)) ∧ (w9.setCell ⟨m3 + 1, 5, none⟩ (.slice aT its.length cT)).heap.size = w9.heap.size ∧ ∀ b, b ≠ m3 + 1 → (w9.setCell ⟨m3 + 1, 5, none⟩ (.slice aT its.length cT)).heap[b]? = w9.heap[b]?) := Lib.hid ⟨(set_other (by omega) 5 _).trans E9.out.2.1, E9.out.2.2.1.setCell (p := ⟨m3 + 1, 5, none⟩) (by show _ ≤ m3 + 1; omega) _, by simp, fun b hb => set_other hb 5 _⟩
              generalize hW10 : w9.setCell ⟨m3 + 1, 5, none⟩ (.slice aT its.length cT) = W10 at E10 ⊢
              clear hW10
              have hend := tgt_set (n := w.heap.size) (w := w) (b := w.heap.size + 1 + 1) (by omega) E10.out.2.1 E10.out.1 (.string p) (.string n) (.string rn) (.slice aV j cV) (.slice a6 ds2.length c6) (.slice aT its.length cT)
              have hsF : (W10.setCells (w.heap.size + 1 + 1) 0 [.string p, .string n, .string rn, .slice aV j cV, .slice a6 ds2.length c6, .slice aT its.length cT]).heap.size = w9.heap.size := (setCells_size (w.heap.size + 1 + 1) [.string p, .string n, .string rn, .slice aV j cV, .slice a6 ds2.length c6, .slice aT its.length cT] 0 W10).trans E10.out.2.2.1
              have keepF : ∀ b, b ≠ m3 + 1 → b ≠ w.heap.size + 1 + 1 → (W10.setCells (w.heap.size + 1 + 1) 0 [.string p, .string n, .string rn, .slice aV j cV, .slice a6 ds2.length c6, .slice aT its.length cT]).heap[b]? = w9.heap[b]? := fun b h1 h2 => (setCells_other (w.heap.size + 1 + 1) b h2 [.string p, .string n, .string rn, .slice aV j cV, .slice a6 ds2.length c6, .slice aT its.length cT] 0 W10).trans (E10.out.2.2.2 b h1)
              have hF1 := HF.out
              have hrX := (E9.out.2.2.2.1.wider (G := fun b => F b ∨ m3 + 2 ≤ b) fun b hb => hb.1).rowOf (fun g hg => .inr (E9.out.2.2.2.1.block_lt hg).1)
              obtain ⟨W11, hW11⟩ : ∃ W11, W11 = W10.setCells (w.heap.size + 1 + 1) 0 [.string p, .string n, .string rn, .slice aV j cV, .slice a6 ds2.length c6, .slice aT its.length cT] := ⟨_, rfl⟩
              rw [← hW11] at hsF
              have keepF2 : ∀ b, b ≠ m3 + 1 → b ≠ w.heap.size + 1 + 1 → W11.heap[b]? = w9.heap[b]? := fun b h1 h2 => by rw [hW11]; exact keepF b h1 h2
              have R1 := hrX.mono (w' := W11) (G := fun _ => True) (fun b hb hl => ⟨trivial, by rw [hsF]; exact hl, keepF2 b (by rcases hb with h | h; (have := hF1 b h; omega); omega) (by rcases hb with h | h; (have := hF1 b h; omega); omega)⟩)
              have R2 := E9.out.2.2.2.2.mono (w' := W11) (G := fun _ => True) (fun b hb hl => ⟨trivial, by rw [hsF]; exact hl, keepF2 b (by have := Hdb.out b hb; omega) (by have := Hdb.out b hb; omega)⟩)
              have R3 := ownS_keep (w' := W11) Hown9.out (fun g hg => keepF2 g (by have := (Hown9.out.block hg).1; omega) (by have := (Hown9.out.block hg).1; omega))
              refine bodyPost_ret (w := W10.setCells (w.heap.size + 1 + 1) 0 [.string p, .string n, .string rn, .slice aV j cV, .slice a6 ds2.length c6, .slice aT its.length cT]) (v := .tuple #[.agg #[.string p, .string n, .string rn, .slice aV j cV, .slice a6 ds2.length c6, .slice aT its.length cT], .int .i64 0]) ?_ rfl ?_
              · clear R1 R2 R3 keepF keepF2 hsF hW11
                generalize World.setCells _ _ _ _ = W11 at hend ⊢
                obtain ⟨t0, t1, t2, t3, t4, t5, t6, -⟩ := sixW_facts hend.1
                simp [results, Tryz.results8, go_sem, t1, t2, t3, t4, t5, t6]
              · unfold PBind
                rw [Hf.out]
                rw [← hW11] at hend ⊢
                have hms : (VS.mergeSort leName).length = j := by rw [List.length_mergeSort]; exact HjV.out
                have hst := R3.rowOf
                refine ⟨hend.2, p, n, aV, cV, a6, c6, aT, cT, ds2, Hpn.out.1, Hpn.out.2, by rw [hms], by rw [Hm6.out, Hd2.out], R1, R2, hst, by rw [hms]; omega, by omega, hlen9, fun q hq => Hvz.out q (List.mem_mergeSort.1 hq)⟩
end Go.Proofs.YthknljeffpbbmaaGreatDoor
namespace Go.Proofs.YthknljeffpbbmaaGreatDoor
open Go Go.RowKit

/-- The example's nodes in memory, as far as they are read. -/
structure ExK (kb ko k2b k2o k2c c3 : Nat) (b3 : Option Addr) (w : World) : Prop where
  e0 : w.cell? ⟨kb, ko, none⟩ = some (.int .i64 7)
  e1 : w.cell? ⟨kb, ko + 1, none⟩ = some (.string ⟨#[115, 114, 99]⟩)
  e2 : w.cell? ⟨kb, ko + 2, none⟩ = some (.int .i64 1)
  e3 : w.cell? ⟨kb, ko + 3, none⟩ = some (.int .i64 11)
  e4 : w.cell? ⟨kb, ko + 4, none⟩ = some (.slice (some ⟨k2b, k2o, none⟩) 1 k2c)
  ed : w.cell? ⟨kb, ko + 5 + 4, none⟩ = some (.slice b3 0 c3)
  ef : w.cell? ⟨k2b, k2o + 1, none⟩ = some (.string ⟨#[102, 105, 108, 101, 115]⟩)
theorem ExK.below {kb ko k2b k2o k2c c3 : Nat} {b3 : Option Addr} {w w' : World} (h : ExK kb ko k2b k2o k2c c3 b3 w) (hb : Below w.heap.size w w') : ExK kb ko k2b k2o k2c c3 b3 w' :=
  ⟨(hb.cell (p := ⟨kb, ko, none⟩) (block_of_cell h.e0)).trans h.e0, (hb.cell (p := ⟨kb, ko + 1, none⟩) (block_of_cell h.e1)).trans h.e1, (hb.cell (p := ⟨kb, ko + 2, none⟩) (block_of_cell h.e2)).trans h.e2, (hb.cell (p := ⟨kb, ko + 3, none⟩) (block_of_cell h.e3)).trans h.e3, (hb.cell (p := ⟨kb, ko + 4, none⟩) (block_of_cell h.e4)).trans h.e4, (hb.cell (p := ⟨kb, ko + 5 + 4, none⟩) (block_of_cell h.ed)).trans h.ed, (hb.cell (p := ⟨k2b, k2o + 1, none⟩) (block_of_cell h.ef)).trans h.ef⟩
set_option maxRecDepth 100000 in
set_option maxHeartbeats 8000000 in
theorem ruleEx_any (kb ko kc k2b k2o k2c c3 : Nat) (b3 : Option Addr) (hkc : 2 ≤ kc) (w : World) (hw : StdB w) (hk : ExK kb ko k2b k2o k2c c3 b3 w) :
    Calls Tryz.prog 61 #[.agg #[.int .i64 6, .string ⟨#[99, 111, 112, 121]⟩, .int .i64 1, .int .i64 1, .slice (some ⟨kb, ko, none⟩) 2 kc], .slice none 0 0] w (fun e w' => Below w.heap.size w w' ∧ ∃ ab ac : Nat, e = .returned (.tuple #[.agg #[.string ⟨#[99, 111, 112, 121]⟩, .slice (some ⟨ab, 0, none⟩) 3 ac, .slice b3 0 c3, .int .i64 1, .int .i64 1], .agg #[.int .i64 0, .int .i64 0, .int .i64 0]]) ∧ w'.cell? ⟨ab, 16, none⟩ = some (.string ⟨#[115, 114, 99]⟩) ∧ w'.cell? ⟨ab, 18, none⟩ = some (.bool true)) := by
  obtain ⟨h1, h2, h3, h4, h5⟩ := alloc3 w (.cells #[.int .i64 6, .string ⟨#[99, 111, 112, 121]⟩, .int .i64 1, .int .i64 1, .slice (some ⟨kb, ko, none⟩) 2 kc] 83) (.cells #[.string ⟨#[]⟩, .slice none 0 0, .slice none 0 0, .int .i64 0, .int .i64 0] 27) (.cells #[.int .i64 0, .int .i64 0, .int .i64 0] 114)
  have H0 := Lib.hid (And.intro h1 (And.intro h2 (And.intro h3 h4)))
  have Hk := Lib.hid hk
  have Hw := Lib.hid hw
  have HT := Lib.hid (isTaken_any ⟨#[99, 111, 112, 121]⟩ _ (hw.below h4) (show (4 : Nat) < 4294967000 by decide))
  rw [show isTakenL (⟨#[99, 111, 112, 121]⟩ : ByteArray).data.toList = false from copy_free] at HT
  clear h1 h2 h3 h4 h5 hk hw
  go_enter Tryz.func61, Tryz.ntmps61
  go_wp2_with fail
  refine HT.out.mono ?_
  rintro e w1 ⟨rfl, hb1⟩
  have H1 := Lib.hid (And.intro (stays H0.out.1 hb1) (And.intro (stays H0.out.2.1 hb1) (And.intro (stays H0.out.2.2.1 hb1) (H0.out.2.2.2.trans (hb1.mono H0.out.2.2.2.size)))))
  clear hb1 H0 HT
  obtain ⟨q0, q1, q2, q3, q4, q5, -⟩ := five_facts H1.out.1
  go_wp2_with fail
  refine (find_none _ _).mono ?_
  rintro e w2 ⟨rfl, hb2⟩
  have hba : Below w2.heap.size w2 (w2.alloc (.cells #[.string ⟨#[]⟩, .slice none 0 0, .slice none 0 0, .int .i64 0, .int .i64 0] 27)) := (Below.refl _ _).alloc (Nat.le_refl _) _
  have hb2' := hb2.trans (hba.mono hb2.size)
  have H2 := Lib.hid (And.intro (stays H1.out.1 hb2') (And.intro (stays H1.out.2.1 hb2') (And.intro (stays H1.out.2.2.1 hb2') (H1.out.2.2.2.trans (hb2'.mono H1.out.2.2.2.size)))))
  have hq := stays H1.out.1 hb2
  clear hb2 hba hb2' H1 q0 q1 q2 q3 q4 q5
  obtain ⟨q0, q1, q2, q3, q4, q5, -⟩ := five_facts hq
  clear hq
  go_upto_region 9 with fail
  generalize World.alloc _ _ = W2 at H2 ⊢
  clear q0 q1 q2 q3 q4 q5
  go_cut [9] from 44 to 55 (fun v wc => ∃ g ab : Nat, v = .pointer (some ⟨g, 0, none⟩) ∧ W2.heap.size ≤ g ∧ g ≠ ab ∧ Hid (wc.heap[g]? = some (.cells #[.string ⟨#[99, 111, 112, 121]⟩, .slice (some ⟨ab, 0, none⟩) 2 2, .slice b3 0 c3, .int .i64 1, .int .i64 1] 27 (0, 0)) ∧ OwnD (fun k => W2.heap.size ≤ k ∧ k ≠ g) wc W2.heap.size 55 8 (.slice (some ⟨ab, 0, none⟩) 2 2) (attrsD ownL) ∧ Below W2.heap.size W2 wc))
  case first =>
    obtain ⟨Wd, hWd⟩ : ∃ Wd, Wd = W2.drew := ⟨_, rfl⟩
    have hb0 : Below W2.heap.size W2 W2.drew := (Below.refl _ W2).drew
    have H3 : Hid (Wd.heap[w.heap.size]? = some (.cells #[.int .i64 6, .string ⟨#[99, 111, 112, 121]⟩, .int .i64 1, .int .i64 1, .slice (some ⟨kb, ko, none⟩) 2 kc] 83 (0, 0)) ∧ ExK kb ko k2b k2o k2c c3 b3 Wd ∧ Below W2.heap.size W2 Wd ∧ Wd.heap.size = W2.heap.size) := Lib.hid (by rw [hWd]; exact ⟨stays H2.out.1 hb0, Hk.out.below (H2.out.2.2.2.trans (hb0.mono H2.out.2.2.2.size)), hb0, rfl⟩)
    clear H2 Hw Hk hb0
    refine wp_region_turns (.s 0 (.s 1 (.s 3 (.s 4 (.s 5 (.s 6 (.s 7 (.s 8 (.s 9 (.s 10 (.b 2 (.s 11 (.h 12 (.h 13 .nil))) 12 (.h 2 (.s 11 (.h 13 .nil)))))))))))))) 13 (fun W' => Below Wd.heap.size Wd W') (by kernel_rfl) (by kernel_rfl) (fun c a d v w h => by cases d <;> exact h) (by rw [hWd]; exact Below.refl _ _) ?_
    rw [← hWd]
    clear hWd
    refine turn_steady (.pointer (some ⟨w.heap.size, 1, none⟩)) rfl rfl (fun W' hS => ?_) ?_
    · obtain ⟨z0, z1, z2, z3, z4, z5, -⟩ := five_facts (stays H3.out.1 hS)
      clear hS
      go_simp
    try simp only [List.getElem_toArray, List.getElem_cons_zero, Act.put, List.setIfInBounds_toArray, List.set_cons_zero, List.set_cons_succ]
    refine turn_steady (.string ⟨#[99, 111, 112, 121]⟩) rfl rfl (fun W' hS => ?_) ?_
    · obtain ⟨z0, z1, z2, z3, z4, z5, -⟩ := five_facts (stays H3.out.1 hS)
      clear hS
      go_simp
    try simp only [List.getElem_toArray, List.getElem_cons_succ, List.getElem_cons_zero, Act.put, List.setIfInBounds_toArray, List.set_cons_zero, List.set_cons_succ]
    refine turn_steady (.pointer (some ⟨w.heap.size, 4, none⟩)) rfl rfl (fun W' hS => ?_) ?_
    · obtain ⟨z0, z1, z2, z3, z4, z5, -⟩ := five_facts (stays H3.out.1 hS)
      clear hS
      go_simp
    try simp only [List.getElem_toArray, List.getElem_cons_succ, List.getElem_cons_zero, Act.put, List.setIfInBounds_toArray, List.set_cons_zero, List.set_cons_succ]
    refine turn_steady (.slice (some ⟨kb, ko, none⟩) 2 kc) rfl rfl (fun W' hS => ?_) ?_
    · obtain ⟨z0, z1, z2, z3, z4, z5, -⟩ := five_facts (stays H3.out.1 hS)
      clear hS
      go_simp
    try simp only [List.getElem_toArray, List.getElem_cons_succ, List.getElem_cons_zero, Act.put, List.setIfInBounds_toArray, List.set_cons_zero, List.set_cons_succ]
    refine turn_steady (.int .i64 1) rfl rfl (fun W' hS => ?_) ?_
    · go_simp
    try simp only [List.getElem_toArray, List.getElem_cons_succ, List.getElem_cons_zero, Act.put, List.setIfInBounds_toArray, List.set_cons_zero, List.set_cons_succ]
    refine turn_steady (.pointer (some ⟨kb, ko + 5, none⟩)) rfl rfl (fun W' hS => ?_) ?_
    · have z1 := (H3.out.2.1.below hS).ed
      have z0 := block_of_cell z1
      clear hS
      go_simp
    try simp only [List.getElem_toArray, List.getElem_cons_succ, List.getElem_cons_zero, Act.put, List.setIfInBounds_toArray, List.set_cons_zero, List.set_cons_succ]
    refine turn_steady (.pointer (some ⟨kb, ko + 5 + 4, none⟩)) rfl rfl (fun W' hS => ?_) ?_
    · have z1 := (H3.out.2.1.below hS).ed
      have z0 := block_of_cell z1
      clear hS
      go_simp
    try simp only [List.getElem_toArray, List.getElem_cons_succ, List.getElem_cons_zero, Act.put, List.setIfInBounds_toArray, List.set_cons_zero, List.set_cons_succ]
    refine turn_steady (.slice b3 0 c3) rfl rfl (fun W' hS => ?_) ?_
    · have z1 := (H3.out.2.1.below hS).ed
      have z0 := block_of_cell z1
      clear hS
      go_simp
    try simp only [List.getElem_toArray, List.getElem_cons_succ, List.getElem_cons_zero, Act.put, List.setIfInBounds_toArray, List.set_cons_zero, List.set_cons_succ]
    refine turn_steady (.pointer (some ⟨w.heap.size, 2, none⟩)) rfl rfl (fun W' hS => ?_) ?_
    · obtain ⟨z0, z1, z2, z3, z4, z5, -⟩ := five_facts (stays H3.out.1 hS)
      clear hS
      go_simp
    try simp only [List.getElem_toArray, List.getElem_cons_succ, List.getElem_cons_zero, Act.put, List.setIfInBounds_toArray, List.set_cons_zero, List.set_cons_succ]
    refine turn_steady (.agg #[.int .i64 1, .int .i64 1]) rfl rfl (fun W' hS => ?_) ?_
    · obtain ⟨z0, z1, z2, z3, z4, z5, -⟩ := five_facts (stays H3.out.1 hS)
      clear hS
      go_simp
    try simp only [List.getElem_toArray, List.getElem_cons_succ, List.getElem_cons_zero, Act.put, List.setIfInBounds_toArray, List.set_cons_zero, List.set_cons_succ]
    refine turn_both rfl rfl (fun K2 hK2 => ?_) (fun K12 hK12 => ?_)
    · go_wp2_with fail
      refine (own_any _).mono ?_
      rintro e w3 ⟨hb3, ab, hab, rfl, hown⟩
      have hba : Below w3.heap.size w3 (w3.alloc (.cells #[.string ⟨#[]⟩, .slice none 0 0, .slice none 0 0, .int .i64 0, .int .i64 0] 27)) := (Below.refl _ _).alloc (Nat.le_refl _) _
      have hbc : Below w3.heap.size w3 (w3.alloc (.cells #[.string ⟨#[99, 111, 112, 121]⟩, .slice (some ⟨ab, 0, none⟩) 2 2, .slice b3 0 c3, .int .i64 1, .int .i64 1] 27)) := (Below.refl _ _).alloc (Nat.le_refl _) _
      have habl := (hown.block_lt (g := ab) rfl).2
      have HB := Lib.hid (And.intro hb3 (hb3.trans (hba.mono hb3.size)))
      have hsz := H3.out.2.2.2
      have hs3 := hb3.size
      have HC : Hid ((w3.alloc (.cells #[.string ⟨#[99, 111, 112, 121]⟩, .slice (some ⟨ab, 0, none⟩) 2 2, .slice b3 0 c3, .int .i64 1, .int .i64 1] 27)).heap[w3.heap.size]? = some (.cells #[.string ⟨#[99, 111, 112, 121]⟩, .slice (some ⟨ab, 0, none⟩) 2 2, .slice b3 0 c3, .int .i64 1, .int .i64 1] 27 (0, 0)) ∧ OwnD (fun k => W2.heap.size ≤ k ∧ k ≠ w3.heap.size) (w3.alloc (.cells #[.string ⟨#[99, 111, 112, 121]⟩, .slice (some ⟨ab, 0, none⟩) 2 2, .slice b3 0 c3, .int .i64 1, .int .i64 1] 27)) W2.heap.size 55 8 (.slice (some ⟨ab, 0, none⟩) 2 2) (attrsD ownL) ∧ Below W2.heap.size W2 (w3.alloc (.cells #[.string ⟨#[99, 111, 112, 121]⟩, .slice (some ⟨ab, 0, none⟩) 2 2, .slice b3 0 c3, .int .i64 1, .int .i64 1] 27))) := Lib.hid
        ⟨heap_alloc_new _ _, ((hown.widerLt (G := fun k => W2.heap.size ≤ k ∧ k ≠ w3.heap.size) fun k hk hl => ⟨by omega, by omega⟩).lower (Nat.le_of_eq hsz.symm)).below hbc, H3.out.2.2.1.trans ((hb3.trans (hbc.mono hb3.size)).mono H3.out.2.2.1.size)⟩
      have hne : w3.heap.size ≠ ab := by omega
      have hle : W2.heap.size ≤ w3.heap.size := by omega
      clear hb3 hba hbc hown habl H3 hab hsz hs3
      go_wp2_with fail
      refine hK2 _ _ (fun _ => HB.out.1) ?_
      try simp only [List.getElem_toArray, List.getElem_cons_succ, List.getElem_cons_zero, Act.put, List.setIfInBounds_toArray, List.set_cons_zero, List.set_cons_succ]
      refine turn_steady (.agg #[.string ⟨#[99, 111, 112, 121]⟩, .slice (some ⟨ab, 0, none⟩) 2 2, .slice b3 0 c3, .int .i64 1, .int .i64 1]) rfl rfl (fun W' hS => ?_) ?_
      · go_simp
      try simp only [List.getElem_toArray, List.getElem_cons_succ, List.getElem_cons_zero, Act.put, List.setIfInBounds_toArray, List.set_cons_zero, List.set_cons_succ]
      refine turn_heavy rfl (fun K12 hK12 => ?_)
      go_wp2_with fail
      refine hK12 _ _ (fun _ => HB.out.2) ?_
      try simp only [List.getElem_toArray, List.getElem_cons_succ, List.getElem_cons_zero, Act.put, List.setIfInBounds_toArray, List.set_cons_zero, List.set_cons_succ]
      refine turn_heavy rfl (fun K13 hK13 => ?_)
      go_wp2_with fail
      refine hK13 _ _ (fun h => absurd rfl h) ?_
      refine turn_end ?_
      try simp only [List.getElem_toArray, List.getElem_cons_succ, List.getElem_cons_zero, Act.put, List.setIfInBounds_toArray, List.set_cons_zero, List.set_cons_succ]
      go_wp2_with fail
      go_meet
      case rel => exact ⟨_, ab, rfl, hle, hne, HC⟩
    · have hba : Below Wd.heap.size Wd (Wd.alloc (.cells #[.string ⟨#[]⟩, .slice none 0 0, .slice none 0 0, .int .i64 0, .int .i64 0] 27)) := (Below.refl _ _).alloc (Nat.le_refl _) _
      have HA := Lib.hid (And.intro (heap_alloc_new Wd (.cells #[.string ⟨#[]⟩, .slice none 0 0, .slice none 0 0, .int .i64 0, .int .i64 0] 27)) hba)
      clear hba
      go_wp2_with fail
      refine hK12 _ _ (fun _ => HA.out.2) ?_
      try simp only [List.getElem_toArray, List.getElem_cons_succ, List.getElem_cons_zero, Act.put, List.setIfInBounds_toArray, List.set_cons_zero, List.set_cons_succ]
      have hsa : (Wd.alloc (.cells #[.string ⟨#[]⟩, .slice none 0 0, .slice none 0 0, .int .i64 0, .int .i64 0] 27)).heap.size = Wd.heap.size + 1 := by simp
      generalize World.alloc _ _ = Wa at HA hsa ⊢
      refine turn_heavy rfl (fun K2 hK2 => ?_)
      go_wp2_with fail
      refine (own_any _).mono ?_
      rintro e w3 ⟨hb3, ab, hab, rfl, hown⟩
      have hb9 := HA.out.2.trans (hb3.mono HA.out.2.size)
      have h9 := stays HA.out.1 hb3
      have HB := Lib.hid hb9
      have hsz := H3.out.2.2.2
      have e1 := val_set (n := Wd.heap.size) (w := Wd) (b := Wd.heap.size) (Nat.le_refl _) hb9 h9 (.string ⟨#[99, 111, 112, 121]⟩) (.slice (some ⟨ab, 0, none⟩) 2 2) (.slice b3 0 c3) (.int .i64 1) (.int .i64 1)
      have hne : Wd.heap.size ≠ ab := by omega
      have hle : W2.heap.size ≤ Wd.heap.size := by omega
      have HC : Hid ((w3.setCells Wd.heap.size 0 [.string ⟨#[99, 111, 112, 121]⟩, .slice (some ⟨ab, 0, none⟩) 2 2, .slice b3 0 c3, .int .i64 1, .int .i64 1]).heap[Wd.heap.size]? = some (.cells #[.string ⟨#[99, 111, 112, 121]⟩, .slice (some ⟨ab, 0, none⟩) 2 2, .slice b3 0 c3, .int .i64 1, .int .i64 1] 27 (0, 0)) ∧ OwnD (fun k => W2.heap.size ≤ k ∧ k ≠ Wd.heap.size) (w3.setCells Wd.heap.size 0 [.string ⟨#[99, 111, 112, 121]⟩, .slice (some ⟨ab, 0, none⟩) 2 2, .slice b3 0 c3, .int .i64 1, .int .i64 1]) W2.heap.size 55 8 (.slice (some ⟨ab, 0, none⟩) 2 2) (attrsD ownL) ∧ Below W2.heap.size W2 (w3.setCells Wd.heap.size 0 [.string ⟨#[99, 111, 112, 121]⟩, .slice (some ⟨ab, 0, none⟩) 2 2, .slice b3 0 c3, .int .i64 1, .int .i64 1])) := Lib.hid
        ⟨e1.1, ((hown.widerLt (G := fun k => W2.heap.size ≤ k ∧ k ≠ Wd.heap.size) fun k hk hl => ⟨by omega, by omega⟩).lower (by omega)).keep (fun k hk hx => setCells_other Wd.heap.size k (by
          rcases hx with hx | hx
          · exact hx.2
          · have : ab = k := by simpa [Value.ownBlock] using hx
            omega) [.string ⟨#[99, 111, 112, 121]⟩, .slice (some ⟨ab, 0, none⟩) 2 2, .slice b3 0 c3, .int .i64 1, .int .i64 1] 0 w3) (by rw [setCells_size]; exact Nat.le_refl _), H3.out.2.2.1.trans (e1.2.mono H3.out.2.2.1.size)⟩
      obtain ⟨q0, q1, q2, q3, q4, q5, q6, q7, q8, q9, q10⟩ := five_facts h9
      clear hb3 hb9 h9 e1 hown H3 hab hsz hsa
      go_wp2_with fail
      refine hK2 _ _ (fun _ => HB.out) ?_
      try simp only [List.getElem_toArray, List.getElem_cons_succ, List.getElem_cons_zero, Act.put, List.setIfInBounds_toArray, List.set_cons_zero, List.set_cons_succ]
      refine turn_steady (.agg #[.string ⟨#[99, 111, 112, 121]⟩, .slice (some ⟨ab, 0, none⟩) 2 2, .slice b3 0 c3, .int .i64 1, .int .i64 1]) rfl rfl (fun W' hS => ?_) ?_
      · go_simp
      try simp only [List.getElem_toArray, List.getElem_cons_succ, List.getElem_cons_zero, Act.put, List.setIfInBounds_toArray, List.set_cons_zero, List.set_cons_succ]
      refine turn_heavy rfl (fun K13 hK13 => ?_)
      go_wp2_with fail
      refine hK13 _ (w3.setCells Wd.heap.size 0 [.string ⟨#[99, 111, 112, 121]⟩, .slice (some ⟨ab, 0, none⟩) 2 2, .slice b3 0 c3, .int .i64 1, .int .i64 1]) (fun h => absurd rfl h) ?_
      generalize World.setCells _ _ _ _ = W13 at HC ⊢
      refine turn_end ?_
      try simp only [List.getElem_toArray, List.getElem_cons_succ, List.getElem_cons_zero, Act.put, List.setIfInBounds_toArray, List.set_cons_zero, List.set_cons_succ]
      clear q0 q1 q2 q3 q4 q5 q6 q7 q8 q9 q10
      go_wp2_with fail
      go_meet
      case rel => exact ⟨_, ab, rfl, hle, hne, HC⟩
  case rest =>
    obtain ⟨g, ab, rfl, hg, hga, hst⟩ := hcut
    obtain ⟨iA, hiA, hA0, hA1, hA2⟩ := info_parts infoAttr
    have hs2 := here H2.out.2.2.1
    have hb := hst.out.2.2
    have H3 := Lib.hid (And.intro (stays H2.out.1 hb) (And.intro (stays H2.out.2.1 hb) (And.intro (stays H2.out.2.2.1 hb) (H2.out.2.2.2.trans (hb.mono H2.out.2.2.2.size)))))
    have Hst := Lib.hid (And.intro hst.out.1 hst.out.2.1)
    have hsz := hb.size
    clear H2 hst hb
    obtain ⟨q0, q1, q2, q3, q4, q5, -⟩ := five_facts H3.out.1
    go_wp2_with fail
    clear q0 q1 q2 q3 q4 q5
    go_loopw [61] (fun i wr => (i = .int .i64 0 ∧ Hid (wr.heap[w.heap.size]? = some (.cells #[.int .i64 6, .string ⟨#[99, 111, 112, 121]⟩, .int .i64 1, .int .i64 1, .slice (some ⟨kb, ko, none⟩) 2 kc] 83 (0, 0)) ∧ wr.heap[w.heap.size + 1]? = some (.cells #[.string ⟨#[]⟩, .slice none 0 0, .slice none 0 0, .int .i64 0, .int .i64 0] 27 (0, 0)) ∧ wr.heap[w.heap.size + 1 + 1]? = some (.cells #[.int .i64 0, .int .i64 0, .int .i64 0] 114 (0, 0)) ∧ Below w.heap.size w wr ∧ W2.heap.size ≤ wr.heap.size ∧ wr.heap[g]? = some (.cells #[.string ⟨#[99, 111, 112, 121]⟩, .slice (some ⟨ab, 0, none⟩) 2 2, .slice b3 0 c3, .int .i64 1, .int .i64 1] 27 (0, 0)) ∧ OwnD (fun k => W2.heap.size ≤ k ∧ k ≠ g) wr W2.heap.size 55 8 (.slice (some ⟨ab, 0, none⟩) 2 2) (attrsD ownL))) ∨
      (i = .int .i64 1 ∧ ∃ an cn : Nat, Hid (wr.heap[w.heap.size + 1]? = some (.cells #[.string ⟨#[]⟩, .slice none 0 0, .slice none 0 0, .int .i64 0, .int .i64 0] 27 (0, 0)) ∧ wr.heap[w.heap.size + 1 + 1]? = some (.cells #[.int .i64 0, .int .i64 0, .int .i64 0] 114 (0, 0)) ∧ Below w.heap.size w wr ∧ wr.heap[g]? = some (.cells #[.string ⟨#[99, 111, 112, 121]⟩, .slice (some ⟨an, 0, none⟩) 3 cn, .slice b3 0 c3, .int .i64 1, .int .i64 1] 27 (0, 0)) ∧ OwnD (fun k => W2.heap.size ≤ k ∧ k ≠ g) wr W2.heap.size 55 8 (.slice (some ⟨an, 0, none⟩) 3 cn) (attrsD (ownL ++ [⟨⟨#[115, 114, 99]⟩, 5, true, vZero⟩]))))) (fun i _ => 2 - (intOf i).toNat)
    case atStart => exact .inl ⟨rfl, Lib.hid ⟨H3.out.1, H3.out.2.1, H3.out.2.2.1, H3.out.2.2.2, hsz, Hst.out.1, Hst.out.2⟩⟩
    case round =>
      rcases hrel with ⟨rfl, hS⟩ | ⟨rfl, an, cn, hS⟩
      · have hk := Hk.out.below hS.out.2.2.2.1
        have r0 := hk.e0
        have r1 := hk.e1
        have r2 := hk.e2
        have r3 := hk.e3
        have r4 := hk.e4
        have rb := block_of_cell r0
        have hba : Below wr.heap.size wr (wr.alloc (.cells #[.int .i64 7, .string ⟨#[115, 114, 99]⟩, .int .i64 1, .int .i64 11, .slice (some ⟨k2b, k2o, none⟩) 1 k2c] 83)) := (Below.refl _ _).alloc (Nat.le_refl _) _
        have HA := Lib.hid (attr_any (fun _ => True) k2b k2o k2c ab (wr.alloc (.cells #[.int .i64 7, .string ⟨#[115, 114, 99]⟩, .int .i64 1, .int .i64 11, .slice (some ⟨k2b, k2o, none⟩) 1 k2c] 83)) (Hw.out.below (hS.out.2.2.2.1.trans (hba.mono hS.out.2.2.2.1.size))) (hk.below hba).ef ((hS.out.2.2.2.2.2.2.below hba).wider (G := fun _ => True) (fun _ _ => trivial) |>.rowOf (fun _ _ => trivial)))
        have HS1 := Lib.hid (And.intro (stays hS.out.2.1 hba) (And.intro (stays hS.out.2.2.1 hba) (And.intro (hS.out.2.2.2.1.trans (hba.mono hS.out.2.2.2.1.size)) (And.intro (stays hS.out.2.2.2.2.2.1 hba) (hS.out.2.2.2.2.2.2.below hba)))))
        have hsw := hS.out.2.2.2.2.1
        obtain ⟨u0, u1, u2, u3, u4, u5, -⟩ := five_facts hS.out.2.2.2.2.2.1
        clear hS hk hba
        go_wp2_with fail
        refine HA.out.mono ?_
        rintro e w5 ⟨rfl, hb5⟩
        unfold srcA faultZ
        have hs5 : wr.heap.size < w5.heap.size := by have := hb5.size; simp at this; omega
        obtain ⟨m1, m2, m3, m4⟩ := alloc2 w5 (.cells #[.string ⟨#[115, 114, 99]⟩, .int .i64 5, .bool true, .int .i64 0, .int .i64 0, .string ⟨#[]⟩, .slice none 0 0, .slice none 0 0] 55) (.cells #[.int .i64 0, .int .i64 0, .int .i64 0] 114)
        have hb6 : Below w5.heap.size w5 (((w5.alloc (.cells #[.string ⟨#[115, 114, 99]⟩, .int .i64 5, .bool true, .int .i64 0, .int .i64 0, .string ⟨#[]⟩, .slice none 0 0, .slice none 0 0] 55)).alloc (.cells #[.int .i64 0, .int .i64 0, .int .i64 0] 114)).alloc (.cells #[.string ⟨#[115, 114, 99]⟩, .int .i64 5, .bool true, .int .i64 0, .int .i64 0, .string ⟨#[]⟩, .slice none 0 0, .slice none 0 0] 55)) := m3.alloc (by omega) _
        have hb56 := hb5.trans (hb6.mono hb5.size)
        have HS6 := Lib.hid (And.intro (stays HS1.out.1 hb56) (And.intro (stays HS1.out.2.1 hb56) (And.intro (HS1.out.2.2.1.trans (hb56.mono HS1.out.2.2.1.size)) (And.intro (stays HS1.out.2.2.2.1 hb56) (HS1.out.2.2.2.2.below hb56)))))
        have hg5 := stays HS1.out.2.2.2.1 hb5
        obtain ⟨y0, y1, y2, y3, y4, y5, -⟩ := five_facts hg5
        have hnews := lit_newsP ((w5.alloc (.cells #[.string ⟨#[115, 114, 99]⟩, .int .i64 5, .bool true, .int .i64 0, .int .i64 0, .string ⟨#[]⟩, .slice none 0 0, .slice none 0 0] 55)).alloc (.cells #[.int .i64 0, .int .i64 0, .int .i64 0] 114)) [.string ⟨#[115, 114, 99]⟩, .int .i64 5, .bool true, .int .i64 0, .int .i64 0, .string ⟨#[]⟩, .slice none 0 0, .slice none 0 0] 55
        rw [show ((w5.alloc (.cells #[.string ⟨#[115, 114, 99]⟩, .int .i64 5, .bool true, .int .i64 0, .int .i64 0, .string ⟨#[]⟩, .slice none 0 0, .slice none 0 0] 55)).alloc (.cells #[.int .i64 0, .int .i64 0, .int .i64 0] 114)).heap.size = w5.heap.size + 1 + 1 by simp] at hnews
        have Hnews := Lib.hid hnews
        clear HA HS1 hb5 hb6 hb56 m1 m2 m3 m4 hnews hg5 r0 r1 r2 r3 r4 rb u0 u1 u2 u3 u4 u5
        go_wp2_with (at_builtin; refine wpList_append_dat rfl _ _ 22 rfl W2.heap.size 55 iA _ 8 112 Tryz.underlying22 hiA hA0 hA1 hA2 rfl (by decide) (.slice (some ⟨ab, 0, none⟩) 2 2) (fun k => W2.heap.size ≤ k ∧ k ≠ g) (attrsD ownL) rfl HS6.out.2.2.2.2 ⟨w5.heap.size + 1 + 1, 0, none⟩ 1 (attrD ⟨⟨#[115, 114, 99]⟩, 5, true, vZero⟩) [.string ⟨#[115, 114, 99]⟩, .int .i64 5, .bool true, .int .i64 0, .int .i64 0, .string ⟨#[]⟩, .slice none 0 0, .slice none 0 0] rfl rfl Hnews.out ?_ (AggAt.attr_mk (l := []) (ks := []) _ _ _ _ _ _ _ _ (RowAt.nil _) (RowAt.nil _)) ?_ ?_ ?_ ?_)
        · simp [Value.oneCell']
        · rw [attrsD_len]; decide
        · rw [attrsD_len]; decide
        · simp; omega
        intro v7 w7 hown7 hgrow7 hat7
        have hown8 : OwnD (fun k => W2.heap.size ≤ k ∧ k ≠ g) w7 W2.heap.size 55 8 v7 (attrsD (ownL ++ [⟨⟨#[115, 114, 99]⟩, 5, true, vZero⟩])) := by
          rw [show attrsD (ownL ++ [⟨⟨#[115, 114, 99]⟩, 5, true, vZero⟩]) = attrsD ownL ++ [attrD ⟨⟨#[115, 114, 99]⟩, 5, true, vZero⟩] from rfl]
          exact hown7
        obtain ⟨a7, c7, hv7, hc7⟩ := hown8.shape
        rw [show (attrsD (ownL ++ [⟨⟨#[115, 114, 99]⟩, 5, true, vZero⟩])).length = 3 from rfl] at hv7
        subst hv7
        obtain ⟨an, rfl, -, -, -⟩ := hown8.blk (by simp [attrsD, ownL]) rfl (fun d hd => by obtain ⟨y, -, rfl⟩ := List.mem_map.1 hd; exact attrD_len y)
        have hgl := here HS6.out.2.2.2.1
        have hb7 : ∀ k, k < (((w5.alloc (.cells #[.string ⟨#[115, 114, 99]⟩, .int .i64 5, .bool true, .int .i64 0, .int .i64 0, .string ⟨#[]⟩, .slice none 0 0, .slice none 0 0] 55)).alloc (.cells #[.int .i64 0, .int .i64 0, .int .i64 0] 114)).alloc (.cells #[.string ⟨#[115, 114, 99]⟩, .int .i64 5, .bool true, .int .i64 0, .int .i64 0, .string ⟨#[]⟩, .slice none 0 0, .slice none 0 0] 55)).heap.size → k ≠ ab → w7.heap[k]? = (((w5.alloc (.cells #[.string ⟨#[115, 114, 99]⟩, .int .i64 5, .bool true, .int .i64 0, .int .i64 0, .string ⟨#[]⟩, .slice none 0 0, .slice none 0 0] 55)).alloc (.cells #[.int .i64 0, .int .i64 0, .int .i64 0] 114)).alloc (.cells #[.string ⟨#[115, 114, 99]⟩, .int .i64 5, .bool true, .int .i64 0, .int .i64 0, .string ⟨#[]⟩, .slice none 0 0, .slice none 0 0] 55)).heap[k]? := fun k hk hne => hgrow7.block k hk (fun e => hne (by have h : k = ab := (by simpa [Value.ownBlock] using e); exact h))
        have habw := (HS6.out.2.2.2.2.block_lt (g := ab) rfl).1
        have hang : an ≠ g := fun e => by
          rcases hat7 an rfl with h | h
          · have : ab = an := by simpa [Value.ownBlock] using h
            omega
          · omega
        have hz7 := hgrow7.size
        have hgr7 := (hb7 g hgl hga).trans HS6.out.2.2.2.1
        have hw6 := HS6.out.2.2.1.size
        have hlt1 := here HS6.out.1
        have hlt2 := here HS6.out.2.1
        have HS8 : Hid ((w7.setCell ⟨g, 1, none⟩ (.slice (some ⟨an, 0, none⟩) 3 c7)).heap[w.heap.size + 1]? = some (.cells #[.string ⟨#[]⟩, .slice none 0 0, .slice none 0 0, .int .i64 0, .int .i64 0] 27 (0, 0)) ∧ (w7.setCell ⟨g, 1, none⟩ (.slice (some ⟨an, 0, none⟩) 3 c7)).heap[w.heap.size + 1 + 1]? = some (.cells #[.int .i64 0, .int .i64 0, .int .i64 0] 114 (0, 0)) ∧ Below w.heap.size w (w7.setCell ⟨g, 1, none⟩ (.slice (some ⟨an, 0, none⟩) 3 c7)) ∧ (w7.setCell ⟨g, 1, none⟩ (.slice (some ⟨an, 0, none⟩) 3 c7)).heap[g]? = some (.cells #[.string ⟨#[99, 111, 112, 121]⟩, .slice (some ⟨an, 0, none⟩) 3 c7, .slice b3 0 c3, .int .i64 1, .int .i64 1] 27 (0, 0)) ∧ OwnD (fun k => W2.heap.size ≤ k ∧ k ≠ g) (w7.setCell ⟨g, 1, none⟩ (.slice (some ⟨an, 0, none⟩) 3 c7)) W2.heap.size 55 8 (.slice (some ⟨an, 0, none⟩) 3 c7) (attrsD (ownL ++ [⟨⟨#[115, 114, 99]⟩, 5, true, vZero⟩]))) := Lib.hid
          ⟨(set_other (by omega) 1 _).trans ((hb7 _ hlt1 (by omega)).trans HS6.out.1), (set_other (by omega) 1 _).trans ((hb7 _ hlt2 (by omega)).trans HS6.out.2.1),
            (HS6.out.2.2.1.trans (grown_below hgrow7 (fun k hk => by have h : ab = k := (by simpa [Value.ownBlock] using hk); omega) hw6)).setCell (p := ⟨g, 1, none⟩) (by show _ ≤ g; omega) _,
            by rw [set_same hgr7 1]; rfl,
            hown8.keep (fun k hk hx => set_other (by
              rcases hx with hx | hx
              · exact hx.2
              · have h : an = k := (by simpa [Value.ownBlock] using hx)
                omega) 1 _) (by simp)⟩
        obtain ⟨y0, y1, y2, y3, y4, y5, y6, y7, y8, y9, y10⟩ := five_facts hgr7
        clear hown7 hgrow7 hat7 hown8 HS6 Hnews hb7 hgr7 hgl hlt1 hlt2
        go_wp2_with fail
        generalize World.setCell _ _ _ = W8 at HS8 ⊢
        go_roundw
        case rel => exact .inr ⟨by go_num, an, c7, HS8⟩
        case measure => simp [intOf]
      · obtain ⟨u0, u1, u2, u3, u4, u5, -⟩ := five_facts hS.out.2.2.2.1
        obtain ⟨y0, y1, y2, y3, y4, y5, y6, y7, y8, y9, y10⟩ := five_facts hS.out.1
        obtain ⟨z0, z1, z2, z3, z4, z5, z6⟩ := three_facts hS.out.2.1
        have hel := hS.out.2.2.2.2.elt (j := 2) (ds := attrD ⟨⟨#[115, 114, 99]⟩, 5, true, vZero⟩) rfl rfl
        have hanl := hS.out.2.2.2.2.block_lt (g := an) rfl
        obtain ⟨cs, hag, hcl⟩ := hel
        obtain ⟨a1, e1, a2, e2, rfl, -, -⟩ := AggAt.attr (l := []) (ks := []) hag
        have c16 := hcl 0 _ rfl
        have c18 := hcl 2 _ rfl
        rw [attrD_len] at c16 c18
        have f1 := val_set (n := w.heap.size) (b := w.heap.size + 1) (by omega) hS.out.2.2.1 hS.out.1 (.string ⟨#[99, 111, 112, 121]⟩) (.slice (some ⟨an, 0, none⟩) 3 cn) (.slice b3 0 c3) (.int .i64 1) (.int .i64 1)
        have f2 := three_set (n := w.heap.size) (b := w.heap.size + 1 + 1) (W := wr.setCells (w.heap.size + 1) 0 [.string ⟨#[99, 111, 112, 121]⟩, .slice (some ⟨an, 0, none⟩) 3 cn, .slice b3 0 c3, .int .i64 1, .int .i64 1]) (by omega) f1.2 ((setCells_other (w.heap.size + 1) (w.heap.size + 1 + 1) (by omega) [.string ⟨#[99, 111, 112, 121]⟩, .slice (some ⟨an, 0, none⟩) 3 cn, .slice b3 0 c3, .int .i64 1, .int .i64 1] 0 wr).trans hS.out.2.1) (.int .i64 0) (.int .i64 0) (.int .i64 0)
        have f3 := (setCells_other (w.heap.size + 1 + 1) (w.heap.size + 1) (by omega) [.int .i64 0, .int .i64 0, .int .i64 0] 0 (wr.setCells (w.heap.size + 1) 0 [.string ⟨#[99, 111, 112, 121]⟩, .slice (some ⟨an, 0, none⟩) 3 cn, .slice b3 0 c3, .int .i64 1, .int .i64 1])).trans f1.1
        have f4 : ((wr.setCells (w.heap.size + 1) 0 [.string ⟨#[99, 111, 112, 121]⟩, .slice (some ⟨an, 0, none⟩) 3 cn, .slice b3 0 c3, .int .i64 1, .int .i64 1]).setCells (w.heap.size + 1 + 1) 0 [.int .i64 0, .int .i64 0, .int .i64 0]).heap[an]? = wr.heap[an]? := (setCells_other (w.heap.size + 1 + 1) an (by omega) [.int .i64 0, .int .i64 0, .int .i64 0] 0 (wr.setCells (w.heap.size + 1) 0 [.string ⟨#[99, 111, 112, 121]⟩, .slice (some ⟨an, 0, none⟩) 3 cn, .slice b3 0 c3, .int .i64 1, .int .i64 1])).trans (setCells_other (w.heap.size + 1) an (by omega) [.string ⟨#[99, 111, 112, 121]⟩, .slice (some ⟨an, 0, none⟩) 3 cn, .slice b3 0 c3, .int .i64 1, .int .i64 1] 0 wr)
        obtain ⟨WF, hWF⟩ : ∃ WF, WF = (wr.setCells (w.heap.size + 1) 0 [.string ⟨#[99, 111, 112, 121]⟩, .slice (some ⟨an, 0, none⟩) 3 cn, .slice b3 0 c3, .int .i64 1, .int .i64 1]).setCells (w.heap.size + 1 + 1) 0 [.int .i64 0, .int .i64 0, .int .i64 0] := ⟨_, rfl⟩
        have c16' : wr.cell? ⟨an, 16, none⟩ = some (.string ⟨#[115, 114, 99]⟩) := c16
        have c18' : wr.cell? ⟨an, 18, none⟩ = some (.bool true) := c18
        rw [← hWF] at f4
        have g16 : WF.cell? ⟨an, 16, none⟩ = some (.string ⟨#[115, 114, 99]⟩) := (World.cell?_of_block (w := wr) (w' := WF) (a := ⟨an, 16, none⟩) f4).trans c16'
        have g18 : WF.cell? ⟨an, 18, none⟩ = some (.bool true) := (World.cell?_of_block (w := wr) (w' := WF) (a := ⟨an, 18, none⟩) f4).trans c18'
        have gb : Below w.heap.size w WF := by rw [hWF]; exact f2.2
        have HG := Lib.hid (And.intro gb (And.intro g16 g18))
        clear f4 c16 c18 c16' c18' g16 g18 gb hag hcl
        go_wp2_with fail
        refine bodyPost_ret (w := (wr.setCells (w.heap.size + 1) 0 [.string ⟨#[99, 111, 112, 121]⟩, .slice (some ⟨an, 0, none⟩) 3 cn, .slice b3 0 c3, .int .i64 1, .int .i64 1]).setCells (w.heap.size + 1 + 1) 0 [.int .i64 0, .int .i64 0, .int .i64 0]) (v := .tuple #[.agg #[.string ⟨#[99, 111, 112, 121]⟩, .slice (some ⟨an, 0, none⟩) 3 cn, .slice b3 0 c3, .int .i64 1, .int .i64 1], .agg #[.int .i64 0, .int .i64 0, .int .i64 0]]) ?_ rfl ?_
        · clear hWF HG
          generalize World.setCells _ _ _ _ = W9 at f2 f3 ⊢
          obtain ⟨t0, t1, t2, t3, t4, t5, -⟩ := five_facts f3
          obtain ⟨v0, v1, v2, v3, -⟩ := three_facts f2.1
          simp [results, Tryz.results61, go_sem, t1, t2, t3, t4, t5, v1, v2, v3]
        · rw [← hWF]
          exact ⟨HG.out.1, an, cn, rfl, HG.out.2.1, HG.out.2.2⟩
end Go.Proofs.YthknljeffpbbmaaGreatDoor
