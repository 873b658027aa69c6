/-
  The walk of rules.leans: the labels among an attribute's items.
-/
import Derived.Test.YthknljeffpbbmaaGreatDoorMGreat
import Derived.Test.YthknljeffpbbmaaGreatDoorLabelS
import Derived.Test.YthknljeffpbbmaaGreatDoorMEvQ
import Derived.Test.YthknljeffpbbmaaGreatDoorMLabelPlain
namespace Go.Proofs.YthknljeffpbbmaaGreatDoor
open Go Go.RowKit

theorem infoLabel : (Tryz.prog.info? 41).map (fun i => (i.zero, i.size, i.bytes)) = some (some (.agg #[.string ByteArray.empty, .string ByteArray.empty]), 2, 32) := by kernel_rfl
theorem labelRead_err {s pkg : List UInt8} {k : Int} (h : labelRead s pkg = .error k) : k ≠ 0 := by
  unfold labelRead at h
  split at h
  · split at h
    · cases h; decide
    · split at h <;> cases h; decide
  · split at h
    · split at h
      · cases h; decide
      · split at h <;> cases h; decide
    · cases h; decide
theorem pathJoin_err {s pkg : List UInt8} {k : Int} (h : pathJoin s pkg = .error k) : k ≠ 0 := by
  unfold pathJoin at h
  split at h
  · cases h; decide
  · split at h
    · cases h
    · split at h <;> cases h; decide
theorem leanGo_err {t : Int} {pkg : List UInt8} {k : Int} : ∀ {l : List (List UInt8)}, leanGo t pkg l = .error k → k ≠ 0
  | [], h => by rw [leanGo] at h; cases h
  | s :: r, h => by
    rw [leanGo] at h
    split at h
    · split at h
      · rename_i e he; cases h; exact pathJoin_err he
      · exact leanGo_err h
    · split at h
      · rename_i e he; cases h; exact labelRead_err he
      · split at h
        · rename_i e he; cases h; exact leanGo_err he
        · cases h
/-- The texts of a list that may be are short. -/
theorem texts_short {v : Vl} {l : List ByteArray} (h : textsL v = some l) : l.length ≤ 1000 ∧ ∀ s ∈ l, s.size ≤ 65536 := by
  obtain ⟨k, n, s, m, ks⟩ := v
  unfold textsL at h
  split at h
  · rename_i hc
    cases h
    refine ⟨by rw [List.length_map]; exact (check_len hc.2.1).2.1, fun x hx => ?_⟩
    obtain ⟨y, hy, rfl⟩ := List.mem_map.1 hx
    obtain ⟨k', n', s', m', ks'⟩ := y
    exact (check_len (check_items hc.2.1 _ hy)).1
  · cases h
theorem OwnD.lower {F : Nat → Prop} {w : World} {base base' : Nat} {e : TypeId} {size : Nat} {v : Value} {l : List (List Dat)} (h : OwnD F w base e size v l) (hb : base' ≤ base) : OwnD F w base' e size v l := by
  obtain ⟨css, h1, h2, ⟨h3, h4⟩, h5⟩ := h
  refine ⟨css, h1, h2, ⟨h3, ?_⟩, h5⟩
  rcases h4 with h | ⟨g, cap, cur, hv, hg, h⟩
  · exact .inl h
  · exact .inr ⟨g, cap, cur, hv, by omega, h⟩
theorem lit_newsP (w : World) (cs : List Value) (t : TypeId) : ∀ (j : Nat) u, cs[j]? = some u → (w.alloc (.cells cs.toArray t)).cell? ((⟨w.heap.size, 0, none⟩ : Addr).add j) = some u := by
  intro j u hj
  have h : ((⟨w.heap.size, 0, none⟩ : Addr).add j) = ⟨w.heap.size, j, none⟩ := by unfold Addr.add; split <;> simp_all
  rw [h]
  unfold World.cell?
  rw [heap_alloc_new]
  simpa using hj
def itemsB (v : Vl) : List ByteArray := (textsL v).getD []
def PLeans (r : Except Int (List LabelP)) (w : World) (e : Ending) (w' : World) : Prop :=
  Below w.heap.size w w' ∧ match r with
    | .ok ls => ∃ (ds : List (ByteArray × ByteArray)) (x : Value), e = .returned (.tuple #[x, .int .i64 0]) ∧ ds.map labelOf = ls ∧ ds.length ≤ 1000 ∧ (ds = [] → x = .slice none 0 0) ∧ OwnD (fun _ => True) w' w.heap.size 41 2 x (labelsD ds)
    | .error k => e = .returned (.tuple #[.slice none 0 0, .int .i64 k])
def leanK (r : Except Int (List LabelP)) (ls : List LabelP) : Except Int (List LabelP) := match r with | .error e => .error e | .ok l => .ok (ls ++ l)
theorem leanGo_at {t : Int} {pkg : List UInt8} {l : List ByteArray} {j : Nat} {s : ByteArray} (hs : l[j]? = some s) : leanGo t pkg ((l.drop j).map (·.data.toList)) =
    if t = 5 ∧ s.data.toList.head? ≠ some 58 ∧ s.data.toList.take 2 ≠ [47, 47] then
      match pathJoin pkg s.data.toList with | .error e => .error e | .ok _ => leanGo t pkg ((l.drop (j + 1)).map (·.data.toList))
    else match labelRead s.data.toList pkg with
      | .error e => .error e
      | .ok x => match leanGo t pkg ((l.drop (j + 1)).map (·.data.toList)) with | .error e => .error e | .ok l => .ok (x :: l) := by
  obtain ⟨h1, h2⟩ := List.getElem?_eq_some_iff.1 hs
  rw [List.drop_eq_getElem_cons h1, h2, List.map_cons, leanGo]
  rfl

set_option maxRecDepth 100000 in
set_option maxHeartbeats 8000000 in
theorem leans_any (nm : ByteArray) (ty : Int) (mu : Bool) (dk dn : Int) (dstr : ByteArray) (d1 d2 : Option Addr) (dl dc1 dl2 dc2 : Nat) (vk vn : Int) (vs : ByteArray) (vl : List Vl) (vks : List ByteArray) (pkg : ByteArray) (F : Nat → Prop) (a1 : Option Addr) (c1 : Nat) (a2 : Option Addr) (c2 : Nat) (w : World)
    (hw : StdB w) (hp : pkg.size < 4294967000) (hs : smallV (.mk vk vn vs vl vks)) (hF : ∀ b, F b → b < w.heap.size) (hr1 : RowAt F w a1 (valsD vl)) (hr2 : RowAt F w a2 (strsD vks)) (a : AttrP) (ha : a.type = ty) :
    Calls Tryz.prog 20 #[.agg #[.string nm, .int .i64 ty, .bool mu, .int .i64 dk, .int .i64 dn, .string dstr, .slice d1 dl dc1, .slice d2 dl2 dc2], .agg #[.int .i64 vk, .int .i64 vn, .string vs, .slice a1 vl.length c1, .slice a2 vks.length c2], .string pkg] w (PLeans (leansL a (.mk vk vn vs vl vks) pkg.data.toList) w) := by
  obtain ⟨b1, b2, b3, b4⟩ := alloc2 w (.cells #[.string nm, .int .i64 ty, .bool mu, .int .i64 dk, .int .i64 dn, .string dstr, .slice d1 dl dc1, .slice d2 dl2 dc2] 55) (.cells #[.int .i64 vk, .int .i64 vn, .string vs, .slice a1 vl.length c1, .slice a2 vks.length c2] 37)
  have H0 := Lib.hid (And.intro b1 (And.intro b2 b3))
  have Ht := Lib.hid (texts_any vk vn vs vl vks hs F a1 c1 a2 c2 _ (fun b hb => Nat.lt_of_lt_of_le (hF b hb) b3.size) (hr1.below b3) (hr2.below b3))
  have Hw := Lib.hid hw
  have hll : leansL a (.mk vk vn vs vl vks) pkg.data.toList = if ty ≠ 5 ∧ ty ≠ 6 then .ok [] else leanGo ty pkg.data.toList ((itemsB (.mk vk vn vs vl vks)).map (·.data.toList)) := by unfold leansL itemsB; rw [ha]
  have Hsh : Hid (∀ l, textsL (.mk vk vn vs vl vks) = some l → l.length ≤ 1000 ∧ ∀ s ∈ l, s.size ≤ 65536) := Lib.hid (fun l h => texts_short h)
  clear b1 b2 b3 b4 hw hs hF hr1 hr2 ha
  by_cases h56 : ty ≠ 5 ∧ ty ≠ 6
  · have Hl : Hid (leansL a (.mk vk vn vs vl vks) pkg.data.toList = .ok []) := Lib.hid (by rw [hll, if_pos h56])
    have h5 : (ty != 5) = true := by simpa using h56.1
    have h6 : (ty != 6) = true := by simpa using h56.2
    clear hll h56
    go_enter Tryz.func20, Tryz.ntmps20
    go_wp2_with fail
    refine bodyPost_ret (v := .tuple #[.slice none 0 0, .int .i64 0]) (by simp [results, Tryz.results20, go_sem]) rfl ?_
    unfold PLeans
    rw [Hl.out]
    exact ⟨H0.out.2.2, [], _, rfl, rfl, by simp, fun _ => rfl, OwnD.nil _ _ _ _ _⟩
  have Hl : Hid (leansL a (.mk vk vn vs vl vks) pkg.data.toList = leanGo ty pkg.data.toList ((itemsB (.mk vk vn vs vl vks)).map (·.data.toList))) := Lib.hid (by rw [hll, if_neg h56])
  have hty : ty = 5 ∨ ty = 6 := by omega
  have Hty := Lib.hid hty
  clear hll h56
  obtain ⟨i0, hi, hz0, hz1, hz2⟩ := info_parts infoLabel
  have ht5 : (ty != 5) = !(ty == 5) := rfl
  have key : ∀ (t5 t6 : Bool), (ty == 5) = t5 → (ty == 6) = t6 → (t5 || t6) = true := by
    intro t5 t6 e1 e2
    rcases Hty.out with h | h <;> subst h <;> subst e1 <;> subst e2 <;> rfl
  clear ht5 key
  have hgen : ∀ tt : Int, ty = tt → ty = tt := fun _ h => h
  clear hgen
  go_enter Tryz.func20, Tryz.ntmps20
  have hcond : Hid True := Lib.hid trivial
  clear hcond
  rcases hty with h | h
  · subst h
    go_wp2_with fail
    refine Ht.out.mono ?_
    rintro e w1 ⟨hb1, hq⟩
    have H1 := Lib.hid (And.intro (stays H0.out.1 hb1) (H0.out.2.2.trans (hb1.mono H0.out.2.2.size)))
    clear hb1 H0 Ht
    have hz1' : w.heap.size + 1 ≤ w1.heap.size := here H1.out.1
    have Hit : Hid (∃ (aT : Option Addr) (cT : Nat), (match textsL (.mk vk vn vs vl vks) with | some l => ∃ x, e = .returned (.tuple #[x, .bool true]) ∧ x = .slice aT l.length cT | none => e = .returned (.tuple #[.slice none 0 0, .bool false]) ∧ aT = none ∧ cT = 0) ∧ StrsAt w1 aT (itemsB (.mk vk vn vs vl vks)) ∧ (itemsB (.mk vk vn vs vl vks)).length ≤ 1000 ∧ ∀ s ∈ itemsB (.mk vk vn vs vl vks), s.size ≤ 65536) := Lib.hid (by
      cases hx : textsL (.mk vk vn vs vl vks) with
      | none =>
        rw [hx] at hq
        refine ⟨none, 0, ⟨hq, rfl, rfl⟩, ?_⟩
        unfold itemsB
        rw [hx]
        exact ⟨StrsAt.nil _ _, by simp, by simp⟩
      | some l =>
        rw [hx] at hq
        obtain ⟨x, rfl, hown⟩ := hq
        obtain ⟨aT, cT, rfl, hst, -⟩ := hown.strsAt
        refine ⟨aT, cT, ⟨_, rfl, rfl⟩, ?_⟩
        unfold itemsB
        rw [hx]
        exact ⟨hst, (Hsh.out l hx).1, (Hsh.out l hx).2⟩)
    obtain ⟨aT, cT, hend, hst, hlen, hsz⟩ := Hit.out
    have hend' : ∃ bb, e = .returned (.tuple #[.slice aT (itemsB (.mk vk vn vs vl vks)).length cT, .bool bb]) := by
      unfold itemsB
      cases hx : textsL (.mk vk vn vs vl vks) with
      | none => rw [hx] at hend; obtain ⟨rfl, rfl, rfl⟩ := hend; exact ⟨_, rfl⟩
      | some l => rw [hx] at hend; obtain ⟨x, rfl, rfl⟩ := hend; exact ⟨_, rfl⟩
    obtain ⟨bb, rfl⟩ := hend'
    have Hst := Lib.hid hst
    have Hsz := Lib.hid hsz
    clear hq Hit hend hst hsz Hsh
    generalize itemsB (.mk vk vn vs vl vks) = its at Hst Hsz Hl hlen ⊢
    go_wp2_with fail
    go_loopw [8, 32] (fun v i wr => ∃ (j : Nat) (ds : List (ByteArray × ByteArray)), i = .int .i64 j ∧ j ≤ its.length ∧ ds.length ≤ j ∧ Hid (ds = [] → v = .slice none 0 0) ∧ Hid (OwnD (fun _ => True) wr w1.heap.size 41 2 v (labelsD ds)) ∧ Hid (Below w1.heap.size w1 wr) ∧ Hid (leansL a (.mk vk vn vs vl vks) pkg.data.toList = leanK (leanGo 5 pkg.data.toList ((its.drop j).map (·.data.toList))) (ds.map labelOf))) (fun _ i _ => its.length - (intOf i).toNat)
    case atStart => exact ⟨0, [], rfl, Nat.zero_le _, Nat.le_refl _, Lib.hid (fun _ => rfl), Lib.hid (OwnD.nil _ _ _ _ _), Lib.hid (Below.refl _ _), Lib.hid (by rw [Hl.out, List.drop_zero]; cases leanGo 5 pkg.data.toList (its.map (·.data.toList)) <;> rfl)⟩
    case round =>
      obtain ⟨j, ds, rfl, hj, hdj, hnil, hown, hbb, hgo⟩ := hrel
      have Hbb : Hid (Below w.heap.size w wr ∧ Below w1.heap.size w1 wr) := Lib.hid ⟨H1.out.2.trans (hbb.out.mono H1.out.2.size), hbb.out⟩
      clear hbb
      obtain ⟨aL, cL, hvL, -⟩ := hown.out.rowAt (fun g hg => trivial)
      rw [labelsD_len] at hvL
      subst hvL
      by_cases hlt : j < its.length
      · have hs0 : its[j]? = some its[j] := List.getElem?_eq_getElem hlt
        have hzs := Hsz.out _ (List.getElem_mem hlt)
        obtain ⟨bK, oK, hak, hck⟩ := (Hst.out.below Hbb.out.2) j _ hs0
        have hgo2 := hgo.out
        rw [leanGo_at hs0] at hgo2
        generalize its[j] = s at hs0 hzs hck hgo2
        subst hak
        have Hxa := Lib.hid (stays H1.out.1 Hbb.out.2)
        obtain ⟨z0, z1, z2, z3⟩ := a8_facts Hxa.out
        clear hgo hs0
        cases hc1 : Lib.hasPrefix s.data.toList [58] with
        | false =>
          cases hc2 : Lib.hasPrefix s.data.toList [47, 47] with
          | false =>
            have g1 : s.data.toList.head? ≠ some 58 := by rw [prefix_one] at hc1; simpa using hc1
            have g2 : s.data.toList.take 2 ≠ [47, 47] := by rw [prefix_two] at hc2; simpa using hc2
            rw [if_pos ⟨rfl, g1, g2⟩] at hgo2
            clear g1 g2
            go_wp2_with fail
            refine (Tryz.strings_HasPrefix s _ _).mono ?_
            rintro e w3 ⟨rfl, rfl⟩
            rw [show (⟨#[58]⟩ : ByteArray).data.toList = [58] from rfl, hc1]
            go_wp2_with fail
            refine (Tryz.strings_HasPrefix s _ _).mono ?_
            rintro e w3 ⟨rfl, rfl⟩
            rw [show (⟨#[47, 47]⟩ : ByteArray).data.toList = [47, 47] from rfl, hc2]
            clear hc1 hc2
            go_wp2_with fail
            refine (join_any pkg s _ (by omega) (by omega)).mono ?_
            rintro e w2 ⟨hb2, hq⟩
            cases hjn : pathJoin pkg.data.toList s.data.toList with
            | error k =>
              rw [hjn] at hq hgo2
              obtain rfl := hq
              have hk0 := pathJoin_err hjn
              have hk1 : (k != 0) = true := by simpa using hk0
              have Hf : Hid (leansL a (.mk vk vn vs vl vks) pkg.data.toList = .error k) := Lib.hid hgo2
              have Hb2 := Lib.hid (Hbb.out.1.trans (hb2.mono Hbb.out.1.size))
              clear hb2 hjn hgo2 hk0
              go_wp2_with fail
              refine bodyPost_ret (v := .tuple #[.slice none 0 0, .int .i64 k]) (by simp [results, Tryz.results20, go_sem]) rfl ?_
              unfold PLeans
              rw [Hf.out]
              exact ⟨Hb2.out, rfl⟩
            | ok y =>
              rw [hjn] at hq hgo2
              obtain ⟨o, -, rfl⟩ := hq
              have Hgo := Lib.hid hgo2
              have Hb2 : Hid (Below w1.heap.size w1 w2) := Lib.hid (Hbb.out.2.trans (hb2.mono Hbb.out.2.size))
              have Hown2 := Lib.hid (hown.out.below hb2)
              clear hb2 hjn hgo2 hown
              go_wp2_with fail
              go_roundw
              case rel => exact ⟨j + 1, ds, by go_num, by omega, by omega, hnil, Hown2, Hb2, Hgo⟩
              case measure => simp only [intOf]; omega
          | true =>
            have g2 : s.data.toList.take 2 = [47, 47] := by rw [prefix_two] at hc2; simpa using hc2
            rw [if_neg (fun h => h.2.2 g2)] at hgo2
            clear g2
            go_wp2_with fail
            refine (Tryz.strings_HasPrefix s _ _).mono ?_
            rintro e w3 ⟨rfl, rfl⟩
            rw [show (⟨#[58]⟩ : ByteArray).data.toList = [58] from rfl, hc1]
            go_wp2_with fail
            refine (Tryz.strings_HasPrefix s _ _).mono ?_
            rintro e w3 ⟨rfl, rfl⟩
            rw [show (⟨#[47, 47]⟩ : ByteArray).data.toList = [47, 47] from rfl, hc2]
            clear hc1 hc2
            go_wp2_with fail
            refine (labelRead_any s pkg _ (Hw.out.below Hbb.out.1) (by omega) (by omega)).mono ?_
            rintro e w2 ⟨hb2, hq⟩
            cases hlr : labelRead s.data.toList pkg.data.toList with
            | error k =>
              rw [hlr] at hq hgo2
              obtain rfl := hq
              have hk0 := labelRead_err hlr
              have hk1 : (k != 0) = true := by simpa using hk0
              have Hf : Hid (leansL a (.mk vk vn vs vl vks) pkg.data.toList = .error k) := Lib.hid hgo2
              have Hb2 : Hid (Below w.heap.size w (w2.alloc (.cells #[.string ⟨#[]⟩, .string ⟨#[]⟩] 41))) := Lib.hid ((Hbb.out.1.trans (hb2.mono Hbb.out.1.size)).alloc (Nat.le_trans Hbb.out.1.size hb2.size) _)
              clear hb2 hlr hgo2 hk0
              go_wp2_with fail
              refine bodyPost_ret (v := .tuple #[.slice none 0 0, .int .i64 k]) (by simp [results, Tryz.results20, go_sem]) rfl ?_
              unfold PLeans
              rw [Hf.out]
              exact ⟨Hb2.out, rfl⟩
            | ok y =>
              rw [hlr] at hq hgo2
              obtain ⟨lp, ln, e1, e2, rfl⟩ := hq
              have hy : labelOf (lp, ln) = y := by obtain ⟨yp, yn⟩ := y; simp only at e1 e2; unfold labelOf; rw [← e1, ← e2]
              have Hgo : Hid (leansL a (.mk vk vn vs vl vks) pkg.data.toList = leanK (leanGo 5 pkg.data.toList ((its.drop (j + 1)).map (·.data.toList))) ((ds ++ [(lp, ln)]).map labelOf)) := Lib.hid (by
                rw [hgo2, List.map_append, List.map_cons, List.map_nil, hy]
                simp only [leanK]
                cases leanGo 5 pkg.data.toList ((its.drop (j + 1)).map (·.data.toList)) with
                | error e => rfl
                | ok m => simp)
              have hb3 : Below w2.heap.size w2 (w2.alloc (.cells #[.string lp, .string ln] 41)) := (Below.refl _ _).alloc (Nat.le_refl _) _
              have hb4 : Below w2.heap.size w2 ((w2.alloc (.cells #[.string lp, .string ln] 41)).alloc (.cells #[.string lp, .string ln] 41)) := hb3.alloc (by simp) _
              have Hown4 := Lib.hid ((hown.out.below hb2).below hb4)
              have hb24 := hb2.trans (hb4.mono hb2.size)
              have Hb4 := Lib.hid (Hbb.out.2.trans (hb24.mono Hbb.out.2.size))
              have hnews := lit_newsP (w2.alloc (.cells #[.string lp, .string ln] 41)) [.string lp, .string ln] 41
              rw [show (w2.alloc (.cells #[.string lp, .string ln] 41)).heap.size = w2.heap.size + 1 by simp] at hnews
              have Hnews := Lib.hid hnews
              have Hobl : Hid (∀ g, (Value.slice aL ds.length cL).ownBlock = some g → w1.heap.size ≤ g) := Lib.hid (fun g hg => (Hown4.out.block_lt hg).1)
              have hw12 : w1.heap.size ≤ w2.heap.size := Nat.le_trans Hbb.out.2.size hb2.size
              clear hb2 hb24 hb3 hb4 hlr hgo2 hown hnews e1 e2 hy
              go_wp2_with (at_builtin; refine wpList_append_dat rfl _ _ 42 rfl w1.heap.size 41 i0 _ 2 32 Tryz.underlying42 hi hz0 hz1 hz2 rfl (by decide) (.slice aL ds.length cL) (fun _ => True) (labelsD ds) rfl Hown4.out ⟨w2.heap.size + 1, 0, none⟩ 1 (labelD (lp, ln)) [.string lp, .string ln] rfl rfl Hnews.out ?_ (AggAt.label_mk (lp, ln)) ?_ ?_ ?_ ?_)
              · simp [Value.oneCell']
              · rw [labelsD_len]; unfold maxLen; omega
              · rw [labelsD_len]; omega
              · simp; omega
              intro v5 w5 hown5 hgrow5 _
              have Hown5 : Hid (OwnD (fun _ => True) w5 w1.heap.size 41 2 v5 (labelsD (ds ++ [(lp, ln)]))) := Lib.hid (by rw [labelsD_append]; exact hown5)
              have Hb5 : Hid (Below w1.heap.size w1 w5) := Lib.hid (Hb4.out.trans (grown_below hgrow5 Hobl.out (by simp; omega)))
              have Hnil5 : Hid (ds ++ [(lp, ln)] = [] → v5 = .slice none 0 0) := Lib.hid (fun h => by simp at h)
              have hdl : (ds ++ [(lp, ln)]).length ≤ j + 1 := by rw [List.length_append, List.length_singleton]; omega
              clear hown5 hgrow5 Hown4 Hb4 Hnews Hobl
              go_wp2_with fail
              go_roundw
              case rel => exact ⟨j + 1, _, by go_num, by omega, hdl, Hnil5, Hown5, Hb5, Hgo⟩
              case measure => simp only [intOf]; omega
        | true =>
          have g1 : s.data.toList.head? = some 58 := by rw [prefix_one] at hc1; simpa using hc1
          rw [if_neg (fun h => h.2.1 g1)] at hgo2
          clear g1
          go_wp2_with fail
          refine (Tryz.strings_HasPrefix s _ _).mono ?_
          rintro e w3 ⟨rfl, rfl⟩
          rw [show (⟨#[58]⟩ : ByteArray).data.toList = [58] from rfl, hc1]
          clear hc1
          go_wp2_with fail
          refine (labelRead_any s pkg _ (Hw.out.below Hbb.out.1) (by omega) (by omega)).mono ?_
          rintro e w2 ⟨hb2, hq⟩
          cases hlr : labelRead s.data.toList pkg.data.toList with
          | error k =>
            rw [hlr] at hq hgo2
            obtain rfl := hq
            have hk0 := labelRead_err hlr
            have hk1 : (k != 0) = true := by simpa using hk0
            have Hf : Hid (leansL a (.mk vk vn vs vl vks) pkg.data.toList = .error k) := Lib.hid hgo2
            have Hb2 : Hid (Below w.heap.size w (w2.alloc (.cells #[.string ⟨#[]⟩, .string ⟨#[]⟩] 41))) := Lib.hid ((Hbb.out.1.trans (hb2.mono Hbb.out.1.size)).alloc (Nat.le_trans Hbb.out.1.size hb2.size) _)
            clear hb2 hlr hgo2 hk0
            go_wp2_with fail
            refine bodyPost_ret (v := .tuple #[.slice none 0 0, .int .i64 k]) (by simp [results, Tryz.results20, go_sem]) rfl ?_
            unfold PLeans
            rw [Hf.out]
            exact ⟨Hb2.out, rfl⟩
          | ok y =>
            rw [hlr] at hq hgo2
            obtain ⟨lp, ln, e1, e2, rfl⟩ := hq
            have hy : labelOf (lp, ln) = y := by obtain ⟨yp, yn⟩ := y; simp only at e1 e2; unfold labelOf; rw [← e1, ← e2]
            have Hgo : Hid (leansL a (.mk vk vn vs vl vks) pkg.data.toList = leanK (leanGo 5 pkg.data.toList ((its.drop (j + 1)).map (·.data.toList))) ((ds ++ [(lp, ln)]).map labelOf)) := Lib.hid (by
              rw [hgo2, List.map_append, List.map_cons, List.map_nil, hy]
              simp only [leanK]
              cases leanGo 5 pkg.data.toList ((its.drop (j + 1)).map (·.data.toList)) with
              | error e => rfl
              | ok m => simp)
            have hb3 : Below w2.heap.size w2 (w2.alloc (.cells #[.string lp, .string ln] 41)) := (Below.refl _ _).alloc (Nat.le_refl _) _
            have hb4 : Below w2.heap.size w2 ((w2.alloc (.cells #[.string lp, .string ln] 41)).alloc (.cells #[.string lp, .string ln] 41)) := hb3.alloc (by simp) _
            have Hown4 := Lib.hid ((hown.out.below hb2).below hb4)
            have hb24 := hb2.trans (hb4.mono hb2.size)
            have Hb4 := Lib.hid (Hbb.out.2.trans (hb24.mono Hbb.out.2.size))
            have hnews := lit_newsP (w2.alloc (.cells #[.string lp, .string ln] 41)) [.string lp, .string ln] 41
            rw [show (w2.alloc (.cells #[.string lp, .string ln] 41)).heap.size = w2.heap.size + 1 by simp] at hnews
            have Hnews := Lib.hid hnews
            have Hobl : Hid (∀ g, (Value.slice aL ds.length cL).ownBlock = some g → w1.heap.size ≤ g) := Lib.hid (fun g hg => (Hown4.out.block_lt hg).1)
            have hw12 : w1.heap.size ≤ w2.heap.size := Nat.le_trans Hbb.out.2.size hb2.size
            clear hb2 hb24 hb3 hb4 hlr hgo2 hown hnews e1 e2 hy
            go_wp2_with (at_builtin; refine wpList_append_dat rfl _ _ 42 rfl w1.heap.size 41 i0 _ 2 32 Tryz.underlying42 hi hz0 hz1 hz2 rfl (by decide) (.slice aL ds.length cL) (fun _ => True) (labelsD ds) rfl Hown4.out ⟨w2.heap.size + 1, 0, none⟩ 1 (labelD (lp, ln)) [.string lp, .string ln] rfl rfl Hnews.out ?_ (AggAt.label_mk (lp, ln)) ?_ ?_ ?_ ?_)
            · simp [Value.oneCell']
            · rw [labelsD_len]; unfold maxLen; omega
            · rw [labelsD_len]; omega
            · simp; omega
            intro v5 w5 hown5 hgrow5 _
            have Hown5 : Hid (OwnD (fun _ => True) w5 w1.heap.size 41 2 v5 (labelsD (ds ++ [(lp, ln)]))) := Lib.hid (by rw [labelsD_append]; exact hown5)
            have Hb5 : Hid (Below w1.heap.size w1 w5) := Lib.hid (Hb4.out.trans (grown_below hgrow5 Hobl.out (by simp; omega)))
            have Hnil5 : Hid (ds ++ [(lp, ln)] = [] → v5 = .slice none 0 0) := Lib.hid (fun h => by simp at h)
            have hdl : (ds ++ [(lp, ln)]).length ≤ j + 1 := by rw [List.length_append, List.length_singleton]; omega
            clear hown5 hgrow5 Hown4 Hb4 Hnews Hobl
            go_wp2_with fail
            go_roundw
            case rel => exact ⟨j + 1, _, by go_num, by omega, hdl, Hnil5, Hown5, Hb5, Hgo⟩
            case measure => simp only [intOf]; omega
      · have hjl : its.drop j = [] := List.drop_eq_nil_of_le (by omega)
        have Hf : Hid (leansL a (.mk vk vn vs vl vks) pkg.data.toList = .ok (ds.map labelOf)) := Lib.hid (by rw [hgo.out, hjl]; simp [leanGo, leanK])
        clear hjl hgo
        go_wp2_with fail
        refine bodyPost_ret (v := .tuple #[.slice aL ds.length cL, .int .i64 0]) (by simp [results, Tryz.results20, go_sem]) rfl ?_
        unfold PLeans
        rw [Hf.out]
        exact ⟨Hbb.out.1, ds, _, rfl, rfl, by omega, hnil.out, hown.out.lower (by omega)⟩
  · subst h
    go_wp2_with fail
    refine Ht.out.mono ?_
    rintro e w1 ⟨hb1, hq⟩
    have H1 := Lib.hid (And.intro (stays H0.out.1 hb1) (H0.out.2.2.trans (hb1.mono H0.out.2.2.size)))
    clear hb1 H0 Ht
    have hz1' : w.heap.size + 1 ≤ w1.heap.size := here H1.out.1
    have Hit : Hid (∃ (aT : Option Addr) (cT : Nat), (match textsL (.mk vk vn vs vl vks) with | some l => ∃ x, e = .returned (.tuple #[x, .bool true]) ∧ x = .slice aT l.length cT | none => e = .returned (.tuple #[.slice none 0 0, .bool false]) ∧ aT = none ∧ cT = 0) ∧ StrsAt w1 aT (itemsB (.mk vk vn vs vl vks)) ∧ (itemsB (.mk vk vn vs vl vks)).length ≤ 1000 ∧ ∀ s ∈ itemsB (.mk vk vn vs vl vks), s.size ≤ 65536) := Lib.hid (by
      cases hx : textsL (.mk vk vn vs vl vks) with
      | none =>
        rw [hx] at hq
        refine ⟨none, 0, ⟨hq, rfl, rfl⟩, ?_⟩
        unfold itemsB
        rw [hx]
        exact ⟨StrsAt.nil _ _, by simp, by simp⟩
      | some l =>
        rw [hx] at hq
        obtain ⟨x, rfl, hown⟩ := hq
        obtain ⟨aT, cT, rfl, hst, -⟩ := hown.strsAt
        refine ⟨aT, cT, ⟨_, rfl, rfl⟩, ?_⟩
        unfold itemsB
        rw [hx]
        exact ⟨hst, (Hsh.out l hx).1, (Hsh.out l hx).2⟩)
    obtain ⟨aT, cT, hend, hst, hlen, hsz⟩ := Hit.out
    have hend' : ∃ bb, e = .returned (.tuple #[.slice aT (itemsB (.mk vk vn vs vl vks)).length cT, .bool bb]) := by
      unfold itemsB
      cases hx : textsL (.mk vk vn vs vl vks) with
      | none => rw [hx] at hend; obtain ⟨rfl, rfl, rfl⟩ := hend; exact ⟨_, rfl⟩
      | some l => rw [hx] at hend; obtain ⟨x, rfl, rfl⟩ := hend; exact ⟨_, rfl⟩
    obtain ⟨bb, rfl⟩ := hend'
    have Hst := Lib.hid hst
    have Hsz := Lib.hid hsz
    clear hq Hit hend hst hsz Hsh
    generalize itemsB (.mk vk vn vs vl vks) = its at Hst Hsz Hl hlen ⊢
    go_wp2_with fail
    go_loopw [8, 32] (fun v i wr => ∃ (j : Nat) (ds : List (ByteArray × ByteArray)), i = .int .i64 j ∧ j ≤ its.length ∧ ds.length ≤ j ∧ Hid (ds = [] → v = .slice none 0 0) ∧ Hid (OwnD (fun _ => True) wr w1.heap.size 41 2 v (labelsD ds)) ∧ Hid (Below w1.heap.size w1 wr) ∧ Hid (leansL a (.mk vk vn vs vl vks) pkg.data.toList = leanK (leanGo 6 pkg.data.toList ((its.drop j).map (·.data.toList))) (ds.map labelOf))) (fun _ i _ => its.length - (intOf i).toNat)
    case atStart => exact ⟨0, [], rfl, Nat.zero_le _, Nat.le_refl _, Lib.hid (fun _ => rfl), Lib.hid (OwnD.nil _ _ _ _ _), Lib.hid (Below.refl _ _), Lib.hid (by rw [Hl.out, List.drop_zero]; cases leanGo 6 pkg.data.toList (its.map (·.data.toList)) <;> rfl)⟩
    case round =>
      obtain ⟨j, ds, rfl, hj, hdj, hnil, hown, hbb, hgo⟩ := hrel
      have Hbb : Hid (Below w.heap.size w wr ∧ Below w1.heap.size w1 wr) := Lib.hid ⟨H1.out.2.trans (hbb.out.mono H1.out.2.size), hbb.out⟩
      clear hbb
      obtain ⟨aL, cL, hvL, -⟩ := hown.out.rowAt (fun g hg => trivial)
      rw [labelsD_len] at hvL
      subst hvL
      by_cases hlt : j < its.length
      · have hs0 : its[j]? = some its[j] := List.getElem?_eq_getElem hlt
        have hzs := Hsz.out _ (List.getElem_mem hlt)
        obtain ⟨bK, oK, hak, hck⟩ := (Hst.out.below Hbb.out.2) j _ hs0
        have hgo2 := hgo.out
        rw [leanGo_at hs0] at hgo2
        generalize its[j] = s at hs0 hzs hck hgo2
        subst hak
        have Hxa := Lib.hid (stays H1.out.1 Hbb.out.2)
        obtain ⟨z0, z1, z2, z3⟩ := a8_facts Hxa.out
        clear hgo hs0
        have hno : ¬ ((6 : Int) = 5 ∧ s.data.toList.head? ≠ some 58 ∧ s.data.toList.take 2 ≠ [47, 47]) := fun h => absurd h.1 (by decide)
        rw [if_neg hno] at hgo2
        clear hno
        go_wp2_with fail
        refine (labelRead_any s pkg _ (Hw.out.below Hbb.out.1) (by omega) (by omega)).mono ?_
        rintro e w2 ⟨hb2, hq⟩
        cases hlr : labelRead s.data.toList pkg.data.toList with
        | error k =>
          rw [hlr] at hq hgo2
          obtain rfl := hq
          have hk0 := labelRead_err hlr
          have hk1 : (k != 0) = true := by simpa using hk0
          have Hf : Hid (leansL a (.mk vk vn vs vl vks) pkg.data.toList = .error k) := Lib.hid hgo2
          have Hb2 : Hid (Below w.heap.size w (w2.alloc (.cells #[.string ⟨#[]⟩, .string ⟨#[]⟩] 41))) := Lib.hid ((Hbb.out.1.trans (hb2.mono Hbb.out.1.size)).alloc (Nat.le_trans Hbb.out.1.size hb2.size) _)
          clear hb2 hlr hgo2 hk0
          go_wp2_with fail
          refine bodyPost_ret (v := .tuple #[.slice none 0 0, .int .i64 k]) (by simp [results, Tryz.results20, go_sem]) rfl ?_
          unfold PLeans
          rw [Hf.out]
          exact ⟨Hb2.out, rfl⟩
        | ok y =>
          rw [hlr] at hq hgo2
          obtain ⟨lp, ln, e1, e2, rfl⟩ := hq
          have hy : labelOf (lp, ln) = y := by obtain ⟨yp, yn⟩ := y; simp only at e1 e2; unfold labelOf; rw [← e1, ← e2]
          have Hgo : Hid (leansL a (.mk vk vn vs vl vks) pkg.data.toList = leanK (leanGo 6 pkg.data.toList ((its.drop (j + 1)).map (·.data.toList))) ((ds ++ [(lp, ln)]).map labelOf)) := Lib.hid (by
            rw [hgo2, List.map_append, List.map_cons, List.map_nil, hy]
            simp only [leanK]
            cases leanGo 6 pkg.data.toList ((its.drop (j + 1)).map (·.data.toList)) with
            | error e => rfl
            | ok m => simp)
          have hb3 : Below w2.heap.size w2 (w2.alloc (.cells #[.string lp, .string ln] 41)) := (Below.refl _ _).alloc (Nat.le_refl _) _
          have hb4 : Below w2.heap.size w2 ((w2.alloc (.cells #[.string lp, .string ln] 41)).alloc (.cells #[.string lp, .string ln] 41)) := hb3.alloc (by simp) _
          have Hown4 := Lib.hid ((hown.out.below hb2).below hb4)
          have hb24 := hb2.trans (hb4.mono hb2.size)
          have Hb4 := Lib.hid (Hbb.out.2.trans (hb24.mono Hbb.out.2.size))
          have hnews := lit_newsP (w2.alloc (.cells #[.string lp, .string ln] 41)) [.string lp, .string ln] 41
          rw [show (w2.alloc (.cells #[.string lp, .string ln] 41)).heap.size = w2.heap.size + 1 by simp] at hnews
          have Hnews := Lib.hid hnews
          have Hobl : Hid (∀ g, (Value.slice aL ds.length cL).ownBlock = some g → w1.heap.size ≤ g) := Lib.hid (fun g hg => (Hown4.out.block_lt hg).1)
          have hw12 : w1.heap.size ≤ w2.heap.size := Nat.le_trans Hbb.out.2.size hb2.size
          clear hb2 hb24 hb3 hb4 hlr hgo2 hown hnews e1 e2 hy
          go_wp2_with (at_builtin; refine wpList_append_dat rfl _ _ 42 rfl w1.heap.size 41 i0 _ 2 32 Tryz.underlying42 hi hz0 hz1 hz2 rfl (by decide) (.slice aL ds.length cL) (fun _ => True) (labelsD ds) rfl Hown4.out ⟨w2.heap.size + 1, 0, none⟩ 1 (labelD (lp, ln)) [.string lp, .string ln] rfl rfl Hnews.out ?_ (AggAt.label_mk (lp, ln)) ?_ ?_ ?_ ?_)
          · simp [Value.oneCell']
          · rw [labelsD_len]; unfold maxLen; omega
          · rw [labelsD_len]; omega
          · simp; omega
          intro v5 w5 hown5 hgrow5 _
          have Hown5 : Hid (OwnD (fun _ => True) w5 w1.heap.size 41 2 v5 (labelsD (ds ++ [(lp, ln)]))) := Lib.hid (by rw [labelsD_append]; exact hown5)
          have Hb5 : Hid (Below w1.heap.size w1 w5) := Lib.hid (Hb4.out.trans (grown_below hgrow5 Hobl.out (by simp; omega)))
          have Hnil5 : Hid (ds ++ [(lp, ln)] = [] → v5 = .slice none 0 0) := Lib.hid (fun h => by simp at h)
          have hdl : (ds ++ [(lp, ln)]).length ≤ j + 1 := by rw [List.length_append, List.length_singleton]; omega
          clear hown5 hgrow5 Hown4 Hb4 Hnews Hobl
          go_wp2_with fail
          go_roundw
          case rel => exact ⟨j + 1, _, by go_num, by omega, hdl, Hnil5, Hown5, Hb5, Hgo⟩
          case measure => simp only [intOf]; omega
      · have hjl : its.drop j = [] := List.drop_eq_nil_of_le (by omega)
        have Hf : Hid (leansL a (.mk vk vn vs vl vks) pkg.data.toList = .ok (ds.map labelOf)) := Lib.hid (by rw [hgo.out, hjl]; simp [leanGo, leanK])
        clear hjl hgo
        go_wp2_with fail
        refine bodyPost_ret (v := .tuple #[.slice aL ds.length cL, .int .i64 0]) (by simp [results, Tryz.results20, go_sem]) rfl ?_
        unfold PLeans
        rw [Hf.out]
        exact ⟨Hbb.out.1, ds, _, rfl, rfl, by omega, hnil.out, hown.out.lower (by omega)⟩
end Go.Proofs.YthknljeffpbbmaaGreatDoor
