/-
  The library's sort at labels and at named values.
  The walk of slices.Compact at labels.
  The walk of slices.Compact at labels: each run's first is kept.
  How rules.Bind stands on its way: the target's box, the values gathered, the labels gathered.
  The walks of the reference's Great and Wide of layer 16.
  The walk of the reference's Same, at two values that are alike: yes.
-/
import Derived.Test.YthknljeffpbbmaaGreatDoorSortL
import Derived.Test.YthknljeffpbbmaaGreatDoorRowK
import Derived.Test.YthknljeffpbbmaaGreatDoorMLess
import Derived.Test.YthknljeffpbbmaaGreatDoorMFixG
import Derived.Test.YthknljeffpbbmaaGreatDoorShelf
import Derived.Test.YthknljeffpbbmaaGreatDoorMGreat
namespace Go.Proofs.YthknljeffpbbmaaGreatDoor
open Go Go.RowKit Go.Sort

def encL (x : ByteArray × ByteArray) : List Value := [.string x.1, .string x.2]
theorem isAggL (w : World) : (isAgg 41).run Tryz.prog w = .ok true w := by kernel_rfl
theorem sizeOfL (w : World) : (Go.sizeOf 41).run Tryz.prog w = .ok 2 w := by kernel_rfl
theorem isAggN (w : World) : (isAgg 39).run Tryz.prog w = .ok true w := by kernel_rfl
theorem sizeOfN (w : World) : (Go.sizeOf 39).run Tryz.prog w = .ok 6 w := by kernel_rfl
theorem css_labels {F : Nat → Prop} {w : World} {ds : List (ByteArray × ByteArray)} {css : List (List Value)} (hlen : css.length = (labelsD ds).length) (h : ∀ (j : Nat) d cs, (labelsD ds)[j]? = some d → css[j]? = some cs → AggAt F w d cs) : css = ds.map encL := by
  rw [labelsD_len] at hlen
  apply List.ext_getElem?
  intro j
  rw [List.getElem?_map]
  by_cases hj : j < ds.length
  · have h1 : ds[j]? = some ds[j] := List.getElem?_eq_getElem hj
    have h2 : css[j]? = some (css[j]'(by omega)) := List.getElem?_eq_getElem _
    have h3 := (h j (labelD ds[j]) _ (by rw [labelsD, List.getElem?_map, h1]; rfl) h2).label
    rw [h1, h2, h3]
    rfl
  · rw [List.getElem?_eq_none (by omega), List.getElem?_eq_none (by omega)]
    rfl
theorem ownD_labels {w : World} {base : Nat} {v : Value} {ds : List (ByteArray × ByteArray)} : OwnD (fun _ => True) w base 41 2 v (labelsD ds) ↔ w.ownsRow base 41 2 v ds.length (ds.map encL).flatten := by
  constructor
  · rintro ⟨css, h1, h2, h3, h4⟩
    rw [css_labels h1 h4, labelsD_len] at h3
    exact h3
  · intro h
    refine ⟨ds.map encL, by rw [labelsD_len, List.length_map], fun cs hc => by obtain ⟨x, -, rfl⟩ := List.mem_map.1 hc; rfl, by rw [labelsD_len]; exact h, fun j d cs h1 h2 => ?_⟩
    rw [labelsD, List.getElem?_map] at h1
    rw [List.getElem?_map] at h2
    cases hj : ds[j]? with
    | none => rw [hj] at h1; cases h1
    | some x =>
      rw [hj] at h1 h2
      cases h1
      cases h2
      exact AggAt.label_mk x
def PSortL (a : Option Addr) (n c : Nat) (base : Nat) (ds : List (ByteArray × ByteArray)) (w : World) (e : Ending) (w' : World) : Prop :=
  e = .returned (.tuple #[]) ∧ ∃ ds', ds'.length = ds.length ∧ ds'.map labelOf = (ds.map labelOf).mergeSort labelLe ∧ OwnD (fun _ => True) w' base 41 2 (.slice a n c) (labelsD ds') ∧ w.grownBy w' (Value.slice a n c).ownBlock
set_option maxRecDepth 100000 in
theorem sortLabels_any (a : Option Addr) (c base : Nat) (ds : List (ByteArray × ByteArray)) (w : World) (hl : ds.length < 4611686018427387904) (h : OwnD (fun _ => True) w base 41 2 (.slice a ds.length c) (labelsD ds)) :
    Calls Tryz.prog 22 #[.slice a ds.length c, .func (.func 23) #[] #[]] w (PSortL a ds.length c base ds w) := by
  cases hds : ds with
  | nil =>
    subst hds
    have hcon := AnyF.slices_SortFunc_none Tryz.sortLabel a c (.func (.func 23) #[] #[]) w
    change Calls Tryz.prog 22 _ _ _ at hcon
    refine hcon.mono ?_
    rintro e w' ⟨rfl, rfl⟩
    exact ⟨rfl, [], rfl, by simp, h, grownBy_refl _ _⟩
  | cons x t =>
    rw [← hds]
    have hne : labelsD ds ≠ [] := by rw [hds]; simp [labelsD]
    clear hds
    obtain ⟨g, rfl, hg, hlt, -⟩ := h.blk hne (by rw [labelsD_len]) (fun d hd => by obtain ⟨y, -, rfl⟩ := List.mem_map.1 hd; rfl)
    have hown := ownD_labels.1 h
    obtain ⟨hH, -, -⟩ := holdsK_of_own (enc := encL) (k := 2) (fun _ => rfl) (by decide) hown
    have eg : ∀ args w, (callFunc 23 args).run Tryz.prog w = .ok (.enter 23 args) w := enters_of Tryz.func23 (by kernel_rfl) rfl
    have hcmp : CmpLays Tryz.prog 23 #[] encL 2 cfLabel g 0 ds.toArray.size w := fun m os dk _ x y => order_any x.1 x.2 y.1 y.2 _
    have hcon := AnyQ.slices_SortFunc Tryz.sortLabel 2 isAggL sizeOfL encL (fun _ => rfl) (fun x v hv => by simp [encL] at hv; rcases hv with rfl | rfl <;> rfl) cfLabel swo_label 23 #[] g 0 c ds.toArray w eg hcmp hH hlt (by simpa using hl)
    change Calls Tryz.prog 22 _ _ _ at hcon
    rw [List.size_toArray] at hcon
    refine hcon.mono ?_
    rintro e w' ⟨rfl, d', m, os, hp, hs, rfl⟩
    have hp0 : PermIn 0 ds.toArray.size ds.toArray d' := by rw [List.size_toArray]; exact hp
    have hpl := permIn_list hp0
    have hsz : d'.size = ds.length := by have := hpl.length_eq; simpa using this
    have hsl : d'.toList.Pairwise fun a b => decide (cfLabel b a < 0) = false := sortedIn_list (lt := fun x y => decide (cfLabel x y < 0)) (d := d') (by rw [hsz]; exact hs)
    obtain ⟨ho, hgr⟩ := own_of_sorted (enc := encL) (k := 2) (fun _ => rfl) (by decide) hown (d := d') hsz m os
    refine ⟨rfl, d'.toList, by simpa using hsz, labels_sorted (hpl.map _) ?_, ownD_labels.2 (by rw [show d'.toList.length = ds.length by simpa using hsz]; exact ho), hgr⟩
    rw [List.pairwise_map]
    exact hsl.imp fun {a b} h => by rw [← cfLabel_lt]; exact h

/-- A named value's cells, and what it is in plain words. -/
structure NC where
  nm : ByteArray
  k : Int
  n : Int
  s : ByteArray
  a1 : Option Addr
  l1 : Nat
  c1 : Nat
  a2 : Option Addr
  l2 : Nat
  c2 : Nat
  v : Vl
instance : Inhabited NC := ⟨⟨⟨#[]⟩, 0, 0, ⟨#[]⟩, none, 0, 0, none, 0, 0, vZero⟩⟩
def encN (x : NC) : List Value := [.string x.nm, .int .i64 x.k, .int .i64 x.n, .string x.s, .slice x.a1 x.l1 x.c1, .slice x.a2 x.l2 x.c2]
def plainN (x : NC) : ByteArray × Vl := (x.nm, x.v)
def cfNC (x y : NC) : Int := cfName x.nm.data.toList y.nm.data.toList
theorem swo_NC : Sort.SWO fun x y => decide (cfNC x y < 0) := swo_name fun x : NC => x.nm.data.toList
theorem css_named {F : Nat → Prop} {w : World} {l : List (ByteArray × Vl)} {css : List (List Value)} (hlen : css.length = (namedsD l).length) (h : ∀ (j : Nat) d cs, (namedsD l)[j]? = some d → css[j]? = some cs → AggAt F w d cs) :
    ∃ xs : List NC, css = xs.map encN ∧ xs.map plainN = l ∧ ∀ x ∈ xs, AggAt F w (namedD (plainN x)) (encN x) := by
  rw [namedsD_len] at hlen
  have hex : ∀ j : Fin l.length, ∃ x : NC, css[j.1]? = some (encN x) ∧ plainN x = l[j] ∧ AggAt F w (namedD (plainN x)) (encN x) := by
    intro j
    have h2 : css[j.1]? = some (css[j.1]'(by omega)) := List.getElem?_eq_getElem _
    have hag := h j (namedD l[j]) _ (by rw [namedsD, List.getElem?_map, List.getElem?_eq_getElem j.2]; rfl) h2
    cases hq : l[j] with
    | mk nm v =>
      rw [hq] at hag
      obtain ⟨k, n, s, m, ks⟩ := v
      obtain ⟨a, c, a', c', he, -, -⟩ := hag.named
      rw [he] at h2 hag
      exact ⟨⟨nm, k, n, s, a, m.length, c, a', ks.length, c', .mk k n s m ks⟩, h2, rfl, hag⟩
  obtain ⟨f, hf⟩ := Classical.axiomOfChoice hex
  refine ⟨List.ofFn f, ?_, ?_, ?_⟩
  · apply List.ext_getElem?
    intro j
    by_cases hj : j < l.length
    · rw [(hf ⟨j, hj⟩).1, List.getElem?_map, List.getElem?_eq_getElem (by simpa using hj), List.getElem_ofFn]
      rfl
    · rw [List.getElem?_eq_none (by omega), List.getElem?_eq_none (by simpa using hj)]
  · apply List.ext_getElem
    · simp
    · intro j h1 h2
      simp only [List.getElem_map, List.getElem_ofFn]
      exact (hf ⟨j, h2⟩).2.1
  · intro x hx
    obtain ⟨j, rfl⟩ := List.mem_ofFn.1 hx
    exact (hf j).2.2
set_option maxRecDepth 100000 in
set_option maxHeartbeats 1000000 in
theorem nmcmp_any (x y : NC) (w : World) : Calls Tryz.prog 26 #[.agg (encN x).toArray, .agg (encN y).toArray] w (fun e w' => e = .returned (.int .i64 (cfNC x y)) ∧ Grows w w') := by
  obtain ⟨nm, k, n, s, a1, l1, c1, a2, l2, c2, v⟩ := x
  obtain ⟨nm', k', n', s', a1', l1', c1', a2', l2', c2', v'⟩ := y
  show Calls Tryz.prog 26 #[.agg #[.string nm, .int .i64 k, .int .i64 n, .string s, .slice a1 l1 c1, .slice a2 l2 c2], .agg #[.string nm', .int .i64 k', .int .i64 n', .string s', .slice a1' l1' c1', .slice a2' l2' c2']] w (fun e w' => e = .returned (.int .i64 (cfName nm.data.toList nm'.data.toList)) ∧ Grows w w')
  have HC := Lib.hid (fun W => Tryz.strings_Compare nm nm' W)
  rw [compare_name] at HC
  generalize cfName nm.data.toList nm'.data.toList = r at HC ⊢
  have Hg := Lib.hid (((Grows.refl w).alloc (.cells #[.string nm, .int .i64 k, .int .i64 n, .string s, .slice a1 l1 c1, .slice a2 l2 c2] 39)).alloc (.cells #[.string nm', .int .i64 k', .int .i64 n', .string s', .slice a1' l1' c1', .slice a2' l2' c2'] 39))
  go_enter Tryz.func26, Tryz.ntmps26
  go_wp2_with fail
  refine (HC.out _).mono ?_
  rintro e w' ⟨rfl, rfl⟩
  go_wp2_with fail
  go_ret
  exact ⟨rfl, Hg.out⟩
def PSortN (F : Nat → Prop) (a : Option Addr) (n c : Nat) (base : Nat) (l : List (ByteArray × Vl)) (w : World) (e : Ending) (w' : World) : Prop :=
  e = .returned (.tuple #[]) ∧ OwnD F w' base 39 6 (.slice a n c) (namedsD (l.mergeSort leName)) ∧ w.grownBy w' (Value.slice a n c).ownBlock
set_option maxRecDepth 100000 in
theorem sortNamed_any (F : Nat → Prop) (a : Option Addr) (c base : Nat) (l : List (ByteArray × Vl)) (w : World) (hl : l.length < 4611686018427387904) (hn : (l.map (·.1.data.toList)).Nodup) (h : OwnD F w base 39 6 (.slice a l.length c) (namedsD l)) :
    Calls Tryz.prog 25 #[.slice a l.length c, .func (.func 26) #[] #[]] w (PSortN F a l.length c base l w) := by
  cases hds : l with
  | nil =>
    subst hds
    have hcon := AnyF.slices_SortFunc_none Tryz.sortNamed a c (.func (.func 26) #[] #[]) w
    change Calls Tryz.prog 25 _ _ _ at hcon
    refine hcon.mono ?_
    rintro e w' ⟨rfl, rfl⟩
    exact ⟨rfl, by simpa using h, grownBy_refl _ _⟩
  | cons x t =>
    rw [← hds]
    have hne : namedsD l ≠ [] := by rw [hds]; simp [namedsD]
    clear hds
    obtain ⟨g, rfl, hg, hlt, -⟩ := h.blk hne (by rw [namedsD_len]) (fun d hd => by obtain ⟨y, -, rfl⟩ := List.mem_map.1 hd; exact namedD_len y)
    obtain ⟨css, h1, h2, h3, h4⟩ := h
    obtain ⟨xs, rfl, hxl, hxa⟩ := css_named h1 h4
    have hxn : xs.length = l.length := by rw [← hxl, List.length_map]
    rw [namedsD_len, ← hxn] at h3
    obtain ⟨hH, -, -⟩ := holdsK_of_own (enc := encN) (k := 6) (fun _ => rfl) (by decide) h3
    have eg : ∀ args w, (callFunc 26 args).run Tryz.prog w = .ok (.enter 26 args) w := enters_of Tryz.func26 (by kernel_rfl) rfl
    have hcmp : CmpLays Tryz.prog 26 #[] encN 6 cfNC g 0 xs.toArray.size w := fun m os dk _ x y => nmcmp_any x y _
    have hcon := AnyQ.slices_SortFunc Tryz.sortNamed 6 isAggN sizeOfN encN (fun _ => rfl) (fun x v hv => by simp [encN] at hv; rcases hv with rfl | rfl | rfl | rfl | rfl | rfl <;> rfl) cfNC swo_NC 26 #[] g 0 c xs.toArray w eg hcmp hH hlt (by simpa [hxn] using hl)
    change Calls Tryz.prog 25 _ _ _ at hcon
    rw [List.size_toArray, hxn] at hcon
    refine hcon.mono ?_
    rintro e w' ⟨rfl, d', m, os, hp, hs, rfl⟩
    have hp0 : PermIn 0 xs.toArray.size xs.toArray d' := by rw [List.size_toArray, hxn]; exact hp
    have hpl := permIn_list hp0
    have hsz : d'.size = xs.length := by have := hpl.length_eq; simpa using this
    have hsl : d'.toList.Pairwise fun a b => decide (cfNC b a < 0) = false := sortedIn_list (lt := fun x y => decide (cfNC x y < 0)) (d := d') (by rw [hsz, hxn]; exact hs)
    obtain ⟨ho, hgr⟩ := own_of_sorted (enc := encN) (k := 6) (fun _ => rfl) (by decide) h3 (d := d') hsz m os
    have hso : d'.toList.map plainN = l.mergeSort leName := by
      refine named_sorted hn (by rw [← hxl]; exact hpl.map _) ?_
      rw [List.pairwise_map]
      exact hsl.imp fun {a b} h => by
        unfold cfNC at h
        rw [cfName_lt] at h
        simpa [plainN] using h
    have hdl : d'.toList.length = l.length := by simpa [hxn] using hsz
    refine ⟨rfl, ⟨d'.toList.map encN, ?_, ?_, ?_, ?_⟩, hgr⟩
    · rw [namedsD_len, ← hso, List.length_map, List.length_map]
    · intro cs hc
      obtain ⟨x, -, rfl⟩ := List.mem_map.1 hc
      rfl
    · rw [namedsD_len, ← hso, List.length_map, hdl]
      rw [hxn] at ho
      exact ho
    · intro j d cs h5 h6
      rw [← hso, namedsD, List.map_map, List.getElem?_map] at h5
      rw [List.getElem?_map] at h6
      cases hj : d'.toList[j]? with
      | none => rw [hj] at h5; cases h5
      | some x =>
        rw [hj] at h5 h6
        cases h5
        cases h6
        refine (hxa x (hpl.mem_iff.1 (List.mem_of_getElem? hj))).mono fun b hb hlb => ⟨hb, Nat.lt_of_lt_of_le hlb hgr.size, hgr.block b hlb (fun e => hb.2 e.symm)⟩
end Go.Proofs.YthknljeffpbbmaaGreatDoor
namespace Go.Proofs.YthknljeffpbbmaaGreatDoor
open Go Go.RowKit Go.Sort

abbrev LB := ByteArray × ByteArray
def eqP (x y : LB) : Bool := x.1.toList == y.1.toList && x.2.toList == y.2.toList
theorem eqP_iff (x y : LB) : eqP x y = true ↔ labelOf x = labelOf y := by
  unfold eqP labelOf
  rw [Bool.and_eq_true, beq_iff_eq, beq_iff_eq, Lib.toList_data, Lib.toList_data, Lib.toList_data, Lib.toList_data]
  constructor
  · rintro ⟨h1, h2⟩; rw [h1, h2]
  · intro h; injection h with h1 h2; exact ⟨h1, h2⟩
/-- Each run's first. -/
def ndF : Option LB → List LB → List LB
  | _, [] => []
  | p, x :: t => (match p with | some y => if eqP x y = true then [] else [x] | none => [x]) ++ ndF (some x) t
def lastO (p : Option LB) : List LB → Option LB
  | [] => p
  | x :: t => lastO (some x) t
theorem lastO_snoc : ∀ (a : List LB) (p : Option LB) (x : LB), lastO p (a ++ [x]) = some x
  | [], _, _ => rfl
  | z :: t, _p, x => lastO_snoc t (some z) x
theorem ndF_snoc : ∀ (a : List LB) (p : Option LB) (x : LB), ndF p (a ++ [x]) = ndF p a ++ (match lastO p a with | some y => if eqP x y = true then [] else [x] | none => [x])
  | [], p, x => by simp [ndF, lastO]
  | z :: t, p, x => by
    simp only [List.cons_append, ndF, ndF_snoc t (some z) x, List.append_assoc, lastO]
def nd (l : List LB) (m : Nat) : List LB := ndF none (l.take m)
theorem nd_one {l : List LB} {x : LB} (h : l[0]? = some x) : nd l 1 = [x] := by
  cases l with
  | nil => cases h
  | cons y t => cases h; simp [nd, ndF]
theorem nd_step {l : List LB} {m : Nat} {x y : LB} (hx : l[m + 1]? = some x) (hy : l[m]? = some y) : nd l (m + 2) = nd l (m + 1) ++ (if eqP x y = true then [] else [x]) := by
  unfold nd
  rw [List.take_add_one (i := m + 1), hx, Option.toList_some, ndF_snoc]
  have : lastO none (l.take (m + 1)) = some y := by rw [List.take_add_one, hy, Option.toList_some, lastO_snoc]
  rw [this]
theorem ndF_dedup : ∀ (t : List LB) (x : LB), labelOf x :: (ndF (some x) t).map labelOf = dedup ((x :: t).map labelOf)
  | [], x => by simp [ndF, dedup]
  | y :: t, x => by
    have ih := ndF_dedup t y
    simp only [List.map_cons] at ih ⊢
    by_cases h : labelOf x = labelOf y
    · have h1 : eqP y x = true := (eqP_iff y x).2 h.symm
      have e1 : ndF (some x) (y :: t) = ndF (some y) t := by simp only [ndF, h1, if_true, List.nil_append]
      have e2 : dedup (labelOf x :: labelOf y :: t.map labelOf) = dedup (labelOf y :: t.map labelOf) := by rw [dedup, if_pos ⟨by rw [h], by rw [h]⟩]
      rw [e1, e2, h]
      exact ih
    · have h1 : eqP y x = false := by
        cases he : eqP y x with
        | false => rfl
        | true => exact absurd ((eqP_iff y x).1 he).symm h
      have e1 : ndF (some x) (y :: t) = y :: ndF (some y) t := by simp only [ndF, h1, Bool.false_eq_true, if_false, List.cons_append, List.nil_append]
      have e2 : dedup (labelOf x :: labelOf y :: t.map labelOf) = labelOf x :: dedup (labelOf y :: t.map labelOf) := by
        rw [dedup, if_neg]
        rintro ⟨p, q⟩
        apply h
        unfold labelOf at *
        simp only at p q
        rw [p, q]
      rw [e1, e2, List.map_cons, ih]
theorem nd_dedup (l : List LB) : (nd l l.length).map labelOf = dedup (l.map labelOf) := by
  unfold nd
  rw [List.take_length]
  cases l with
  | nil => rfl
  | cons x t => rw [← ndF_dedup t x, ndF]; rfl
/-- Where no two neighbours are alike, all are kept. -/
theorem nd_all {l : List LB} : ∀ {m : Nat}, m ≤ l.length → (∀ (i : Nat) (x y : LB), i + 1 < m → l[i + 1]? = some x → l[i]? = some y → eqP x y = false) → nd l m = l.take m
  | 0, _, _ => by simp [nd, ndF]
  | 1, hm, _ => by
    have h0 : l[0]? = some (l[0]'(by omega)) := List.getElem?_eq_getElem _
    rw [nd_one h0, List.take_add_one, h0]
    simp
  | m + 2, hm, h => by
    have hx : l[m + 1]? = some (l[m + 1]'(by omega)) := List.getElem?_eq_getElem _
    have hy : l[m]? = some (l[m]'(by omega)) := List.getElem?_eq_getElem _
    rw [nd_step hx hy, nd_all (by omega) (fun i x y hi => h i x y (by omega)), h m _ _ (by omega) hx hy, List.take_add_one (i := m + 1), hx]
    simp
theorem nd_len_le (l : List LB) : ∀ m, m ≤ l.length → (nd l m).length ≤ m
  | 0, _ => by simp [nd, ndF]
  | 1, hm => by
    have h0 : l[0]? = some (l[0]'(by omega)) := List.getElem?_eq_getElem _
    rw [nd_one h0]; simp
  | m + 2, hm => by
    have hx : l[m + 1]? = some (l[m + 1]'(by omega)) := List.getElem?_eq_getElem _
    have hy : l[m]? = some (l[m]'(by omega)) := List.getElem?_eq_getElem _
    have := nd_len_le l (m + 1) (by omega)
    rw [nd_step hx hy, List.length_append]
    split <;> simp <;> omega

set_option maxRecDepth 100000 in
theorem eqLab (p n p' n' : ByteArray) (w : World) : (binOp .eql 41 (.agg #[.string p, .string n]) (.agg #[.string p', .string n'])).run Tryz.prog w = .ok (.bool (p.toList == p'.toList && n.toList == n'.toList)) w := by
  have hS : Tryz.prog.underlying 41 = some (.struct (Tryz.prog.fieldsOf 41)) := by kernel_rfl
  have hp : Tryz.prog.stoodInHeld 41 = false := by kernel_rfl
  have u3 := Tryz.underlying9
  have a3 : ∀ w, (isAgg 9).run Tryz.prog w = .ok false w := fun w => by kernel_rfl
  have z3 : ∀ w, (Go.sizeOf 9).run Tryz.prog w = .ok 1 w := fun w => by kernel_rfl
  rw [run_eql_struct, show (10000 : Nat) = 9999 + 1 from rfl, run_equalIn_agg w 9999 41 _ _ hS hp]
  simp only [Program.fieldsOf, Tryz.underlying41]
  go_simp
  cases h1 : (p.toList == p'.toList) <;> cases h2 : (n.toList == n'.toList) <;> simp_all
set_option maxRecDepth 100000 in
theorem neqLab (p n p' n' : ByteArray) (w : World) : (binOp .neq 41 (.agg #[.string p, .string n]) (.agg #[.string p', .string n'])).run Tryz.prog w = .ok (.bool (!(p.toList == p'.toList && n.toList == n'.toList))) w := by
  have h := eqLab p n p' n' w
  rw [run_eql_struct] at h
  rw [run_neq_struct]
  cases hr : (Op.equalIn 10000 41 (.agg #[.string p, .string n]) (.agg #[.string p', .string n'])).run Tryz.prog w with
  | ok b w' =>
    rw [hr] at h
    simp only [Result.andThen_ok] at h ⊢
    injection h with h1 h2
    injection h1 with h1
    rw [h1, h2]
  | halt x w' =>
    rw [hr] at h
    cases h
theorem zeroLab (w : World) : (zeroValue 41).run Tryz.prog w = .ok (.agg #[.string ⟨#[]⟩, .string ⟨#[]⟩]) w := by kernel_rfl
set_option maxRecDepth 100000 in
/-- The end of a row of labels is wiped. -/
theorem run_clearL (w : World) (ty : TypeId) (b o n c : Nat) (hn : 0 < n) (hc : ∀ j, j < n * 2 → (w.cell? ⟨b, o + j, none⟩).isSome = true) (hf : ∀ j, j < n * 2 → w.frozen? ⟨b, o + j, none⟩ = false) :
    ∃ zs : List Value, zs.length = n * 2 ∧ (Builtin.clear_ #[42] ty #[.slice (some ⟨b, o, none⟩) n c]).run Tryz.prog w = .ok (.tuple #[]) (w.setCells b o zs) := by
  have hz : (Value.agg #[.string ⟨#[]⟩, .string ⟨#[]⟩]).cells = #[.string ⟨#[]⟩, .string ⟨#[]⟩] := by rfl
  have hlen : (Builtin.zeroCells #[.string ⟨#[]⟩, .string ⟨#[]⟩] n).toList.length = n * 2 := by simp [Builtin.zeroCells]
  have hone : ∀ v ∈ (Builtin.zeroCells #[.string ⟨#[]⟩, .string ⟨#[]⟩] n).toList, v.oneCell' = true := by
    intro v hv
    simp only [Builtin.zeroCells, Array.toList_map, List.mem_map] at hv
    obtain ⟨i, -, rfl⟩ := hv
    have : i % 2 < 2 := Nat.mod_lt _ (by decide)
    show (#[Value.string ⟨#[]⟩, Value.string ⟨#[]⟩][i % 2]!).oneCell' = true
    rcases (show i % 2 = 0 ∨ i % 2 = 1 by omega) with h | h <;> rw [h] <;> rfl
  have hst := run_storeCells_cells (P := Tryz.prog) b o (Builtin.zeroCells #[.string ⟨#[]⟩, .string ⟨#[]⟩] n).toList 0 w (by rw [hlen]; simpa using hc) (by rw [hlen]; simpa using hf) hone
  simp only [Nat.add_zero] at hst
  obtain ⟨m, rfl⟩ : ∃ m, n = m + 1 := ⟨n - 1, by omega⟩
  exact ⟨_, hlen, by simp [Builtin.clear_, run_underlying Tryz.underlying42, hz, hst]⟩
/-- A row's head, where its end is written. -/
theorem row_head {F : Nat → Prop} {w : World} {base : Nat} {e : TypeId} {g n c : Nat} {L : List LB} (h : OwnD F w base e 2 (.slice (some ⟨g, 0, none⟩) n c) (labelsD L)) (kk : Nat) (hk : kk ≤ L.length) (zs : List Value) (hz : zs.length = (L.length - kk) * 2) :
    RowAt (fun b => (Value.slice (some ⟨g, 0, none⟩) n c).ownBlock = some b) (w.setCells g (kk * 2) zs) (some ⟨g, 0, none⟩) (labelsD (L.take kk)) := by
  intro i ds hi
  have hik : i < kk := by
    have := (List.getElem?_eq_some_iff.1 hi).1
    rw [labelsD_len, List.length_take] at this
    omega
  have hi2 : (labelsD L)[i]? = some ds := by
    rw [labelsD, List.getElem?_map] at hi ⊢
    rw [List.getElem?_take_of_lt hik] at hi
    exact hi
  obtain ⟨cs, hag, hc⟩ := h.elt hi2 rfl
  have hds : ds.length = 2 := by
    rw [labelsD, List.getElem?_map] at hi2
    cases hl : L[i]? with
    | none => rw [hl] at hi2; cases hi2
    | some x => rw [hl] at hi2; cases hi2; rfl
  obtain ⟨css, h1, h2, ⟨h3, ⟨h4, -⟩ | ⟨g', cap, cur, h4, hg, hb, hcc, -, hs, -⟩⟩, -⟩ := h
  · cases h4
  · cases h4
    rw [labelsD_len] at hcc
    have hroom : kk * 2 + zs.length ≤ cur.size := by rw [hz, hs]; omega
    have hb2 := setCells_block g zs (kk * 2) w cur e (0, 0) hb
    obtain ⟨hlt2, hcell2, -⟩ := block_facts hb2
    obtain ⟨-, hcell, -⟩ := block_facts hb
    have hnm : ∃ x : LB, ds = labelD x := by
      rw [labelsD, List.getElem?_map] at hi2
      cases hl : L[i]? with
      | none => rw [hl] at hi2; cases hi2
      | some x => rw [hl] at hi2; cases hi2; exact ⟨x, rfl⟩
    obtain ⟨x, rfl⟩ := hnm
    have hcs := hag.label
    refine ⟨g, 0, cs, rfl, rfl, hlt2, by rw [hcs]; exact AggAt.label_mk x, fun j u hu => ?_⟩
    have hj : j < 2 := by have := (List.getElem?_eq_some_iff.1 hu).1; rw [hcs] at this; simpa using this
    rw [hcell2, wrote_get _ _ _ _ hroom, if_neg (by rw [hds]; omega), ← hcell]
    have := hc j u hu
    rw [Nat.zero_add]
    exact this
end Go.Proofs.YthknljeffpbbmaaGreatDoor
namespace Go.Proofs.YthknljeffpbbmaaGreatDoor
open Go Go.RowKit Go.Sort

def PCompact (_base : Nat) (a : Option Addr) (n c : Nat) (ds : List LB) (w : World) (e : Ending) (w' : World) : Prop :=
  ∃ (ds' : List LB) (a' : Option Addr) (c' : Nat), ds'.map labelOf = dedup (ds.map labelOf) ∧ ds'.length ≤ ds.length ∧ e = .returned (.slice a' ds'.length c') ∧ RowAt (fun b => (Value.slice a n c).ownBlock = some b) w' a' (labelsD ds') ∧ w.grownBy w' (Value.slice a n c).ownBlock
theorem row_labels {w : World} {base : Nat} {a : Option Addr} {n c : Nat} {ds : List LB} (h : OwnD (fun _ => True) w base 41 2 (.slice a n c) (labelsD ds)) : RowAt (fun b => (Value.slice a n c).ownBlock = some b) w a (labelsD ds) := by
  intro j d hj
  obtain ⟨a', cap, hv, hr⟩ := h.rowAt (fun _ _ => trivial)
  injection hv with e1 e2 e3
  subst e1
  obtain ⟨b, off, cs, ha, -, hb, hag, hc⟩ := hr j d hj
  subst ha
  rw [labelsD, List.getElem?_map] at hj
  cases hl : ds[j]? with
  | none => rw [hl] at hj; cases hj
  | some x =>
    rw [hl] at hj
    cases hj
    exact ⟨b, off, cs, rfl, rfl, hb, by rw [hag.label]; exact AggAt.label_mk x, hc⟩
theorem own_cells {w : World} {base g n c : Nat} {L : List LB} (h : OwnD (fun _ => True) w base 41 2 (.slice (some ⟨g, 0, none⟩) n c) (labelsD L)) {i : Nat} {p m : ByteArray} (hi : L[i]? = some (p, m)) : w.cell? ⟨g, i * 2, none⟩ = some (.string p) ∧ w.cell? ⟨g, i * 2 + 1, none⟩ = some (.string m) := by
  obtain ⟨cs, hag, hc⟩ := h.elt (j := i) (ds := labelD (p, m)) (by rw [labelsD, List.getElem?_map, hi]; rfl) rfl
  rw [hag.label] at hc
  exact ⟨hc 0 _ rfl, hc 1 _ rfl⟩
theorem compact_all {ds : List LB} (h : ∀ (i : Nat) (x y : LB), i + 1 < ds.length → ds[i + 1]? = some x → ds[i]? = some y → eqP x y = false) : ds.map labelOf = dedup (ds.map labelOf) := by
  rw [← nd_dedup, nd_all (Nat.le_refl _) h, List.take_length]

theorem wrap_small (j : Nat) (h : j ≤ 140737488355328) : IntKind.i64.wrap (j : Int) = (j : Int) := by
  have h1 : (j : Int) ≤ 140737488355328 := by omega
  have h0 : (0 : Int) ≤ (j : Int) := by omega
  generalize (j : Int) = x at *
  simp only [IntKind.wrap, IntKind.bits, IntKind.signed]
  simp
  omega
set_option maxRecDepth 100000 in
set_option maxHeartbeats 8000000 in
theorem compactL_any (a : Option Addr) (c base : Nat) (ds : List LB) (w : World) (hl : ds.length ≤ 140737488355328) (h : OwnD (fun _ => True) w base 41 2 (.slice a ds.length c) (labelsD ds)) :
    Calls Tryz.prog 24 #[.slice a ds.length c] w (PCompact base a ds.length c ds w) := by
  by_cases h2 : ds.length < 2
  · have Hp : Hid (PCompact base a ds.length c ds w (.returned (.slice a ds.length c)) w) := Lib.hid ⟨ds, a, c, compact_all (fun i x y hi => by omega), Nat.le_refl _, rfl, row_labels h, grownBy_refl _ _⟩
    have h2' : (ds.length : Int) < 2 := by omega
    clear h
    go_enter Tryz.func24, Tryz.ntmps24
    go_wp2_with fail
    go_ret
    exact Hp.out
  have h2' : ¬ ((ds.length : Int) < 2) := by omega
  have hne : labelsD ds ≠ [] := by intro e; have := congrArg List.length e; rw [labelsD_len] at this; simp at this; simp [this] at h2
  have hll : ∀ d ∈ labelsD ds, d.length = 2 := fun d hd => by obtain ⟨y, -, rfl⟩ := List.mem_map.1 hd; rfl
  obtain ⟨g, rfl, hg, hlt, -⟩ := h.blk hne (by rw [labelsD_len]) hll
  have hcap : ds.length ≤ c := by
    obtain ⟨a', cap', hv, hc'⟩ := h.shape
    injection hv with e1 e2 e3
    rw [labelsD_len] at hc'
    omega
  have H := Lib.hid h
  clear h hne hll
  go_enter Tryz.func24, Tryz.ntmps24
  go_wp2_with fail
  go_loopw [3] (fun i wr => ∃ j q : Nat, i = .int .i64 ((j + 1 : Nat) : Int) ∧ j + 1 ≤ ds.length ∧ wr = w.drewN q ∧ Hid (∀ (i : Nat) (x y : LB), i + 1 < j + 1 → ds[i + 1]? = some x → ds[i]? = some y → eqP x y = false)) (fun i _ => ds.length - (intOf i).toNat)
  case atStart => exact ⟨0, 0, by go_num, by omega, rfl, Lib.hid (fun i x y hi => by omega)⟩
  case round =>
    obtain ⟨j, q, rfl, hj, rfl, hall⟩ := hrel
    by_cases hjl : j + 1 < ds.length
    · have hx0 : ds[j + 1]? = some ds[j + 1] := List.getElem?_eq_getElem _
      have hy0 : ds[j]? = some (ds[j]'(by omega)) := List.getElem?_eq_getElem _
      generalize ds[j + 1] = x at hx0
      generalize ds[j]'(by omega) = y at hy0
      have hxb := own_cells (H.out.below (below_drewN (Below.refl _ _) q)) hx0
      have hyb := own_cells (H.out.below (below_drewN (Below.refl _ _) q)) hy0
      obtain ⟨x0, x1⟩ := hxb
      obtain ⟨y0, y1⟩ := hyb
      have hjn : ((j + 1 : Nat) : Int) - 1 = (j : Int) := by omega
      have heq := fun W => eqLab x.1 x.2 y.1 y.2 W
      have HX := Lib.hid (And.intro hx0 hy0)
      have hxy : eqP x y = (x.1.toList == y.1.toList && x.2.toList == y.2.toList) := rfl
      clear hx0 hy0
      cases he : eqP x y with
      | false =>
        rw [he] at hxy
        rw [← hxy] at heq
        have Hall : Hid (∀ (i : Nat) (x y : LB), i + 1 < j + 1 + 1 → ds[i + 1]? = some x → ds[i]? = some y → eqP x y = false) := Lib.hid (by
          intro i x' y' hi h1 h2
          by_cases hij : i = j
          · subst hij
            rw [HX.out.1] at h1
            rw [HX.out.2] at h2
            cases h1
            cases h2
            exact he
          · exact hall.out i x' y' (by omega) h1 h2)
        clear hxy he
        go_wp2_with fail
        refine wp_region_turns (.s 0 (.s 1 (.s 2 (.s 3 (.s 4 (.s 5 (.s 6 (.s 7 (.s 8 (.s 9 .nil)))))))))) 99 (fun W' => W'.cell? ⟨g, (j + 1) * 2, none⟩ = some (.string x.1) ∧ W'.cell? ⟨g, (j + 1) * 2 + 1, none⟩ = some (.string x.2) ∧ W'.cell? ⟨g, j * 2, none⟩ = some (.string y.1) ∧ W'.cell? ⟨g, j * 2 + 1, none⟩ = some (.string y.2)) (by kernel_rfl) (by kernel_rfl) (fun c a d v w h => by cases d <;> exact h) ⟨x0, x1, y0, y1⟩ ?_
        refine turn_steady (.slice (some ⟨g, 0, none⟩) ds.length c) rfl rfl (fun W' hS => ?_) ?_
        · obtain ⟨z0, z1, z2, z3⟩ := hS
          go_simp
        try simp only [List.getElem_toArray, List.getElem_cons_zero, Act.put, List.setIfInBounds_toArray, List.set_cons_zero, List.set_cons_succ]
        refine turn_steady (.int .i64 ((j + 1 : Nat) : Int)) rfl rfl (fun W' hS => ?_) ?_
        · obtain ⟨z0, z1, z2, z3⟩ := hS
          go_simp
        try simp only [List.getElem_toArray, List.getElem_cons_succ, List.getElem_cons_zero, Act.put, List.setIfInBounds_toArray, List.set_cons_zero, List.set_cons_succ]
        refine turn_steady (.pointer (some ⟨g, (j + 1) * 2, none⟩)) rfl rfl (fun W' hS => ?_) ?_
        · have n1 : ¬ ((j : Int) + 1 < 0) := by omega
          have n2 : ¬ (ds.length ≤ j + 1) := by omega
          have n3 : ¬ (((ds.length : Nat) : Int) ≤ (j : Int) + 1) := by omega
          have n4 : ((j : Int) + 1) < ((ds.length : Nat) : Int) := by omega
          go_simp
        try simp only [List.getElem_toArray, List.getElem_cons_succ, List.getElem_cons_zero, Act.put, List.setIfInBounds_toArray, List.set_cons_zero, List.set_cons_succ]
        refine turn_steady (.agg #[.string x.1, .string x.2]) rfl rfl (fun W' hS => ?_) ?_
        · obtain ⟨z0, z1, z2, z3⟩ := hS
          go_simp
        try simp only [List.getElem_toArray, List.getElem_cons_succ, List.getElem_cons_zero, Act.put, List.setIfInBounds_toArray, List.set_cons_zero, List.set_cons_succ]
        refine turn_steady (.slice (some ⟨g, 0, none⟩) ds.length c) rfl rfl (fun W' hS => ?_) ?_
        · obtain ⟨z0, z1, z2, z3⟩ := hS
          go_simp
        try simp only [List.getElem_toArray, List.getElem_cons_succ, List.getElem_cons_zero, Act.put, List.setIfInBounds_toArray, List.set_cons_zero, List.set_cons_succ]
        refine turn_steady (.int .i64 ((j + 1 : Nat) : Int)) rfl rfl (fun W' hS => ?_) ?_
        · obtain ⟨z0, z1, z2, z3⟩ := hS
          go_simp
        try simp only [List.getElem_toArray, List.getElem_cons_succ, List.getElem_cons_zero, Act.put, List.setIfInBounds_toArray, List.set_cons_zero, List.set_cons_succ]
        refine turn_steady (.int .i64 (j : Int)) rfl rfl (fun W' hS => ?_) ?_
        · have hwr := wrap_small j (by omega)
          go_simp
        try simp only [List.getElem_toArray, List.getElem_cons_succ, List.getElem_cons_zero, Act.put, List.setIfInBounds_toArray, List.set_cons_zero, List.set_cons_succ]
        refine turn_steady (.pointer (some ⟨g, j * 2, none⟩)) rfl rfl (fun W' hS => ?_) ?_
        · have n2 : ¬ (ds.length ≤ j) := by omega
          have n3 : ¬ (((ds.length : Nat) : Int) ≤ (j : Int)) := by omega
          go_simp
        try simp only [List.getElem_toArray, List.getElem_cons_succ, List.getElem_cons_zero, Act.put, List.setIfInBounds_toArray, List.set_cons_zero, List.set_cons_succ]
        refine turn_steady (.agg #[.string y.1, .string y.2]) rfl rfl (fun W' hS => ?_) ?_
        · obtain ⟨z0, z1, z2, z3⟩ := hS
          go_simp
        try simp only [List.getElem_toArray, List.getElem_cons_succ, List.getElem_cons_zero, Act.put, List.setIfInBounds_toArray, List.set_cons_zero, List.set_cons_succ]
        refine turn_steady (.bool false) rfl rfl (fun W' hS => ?_) ?_
        · obtain ⟨z0, z1, z2, z3⟩ := hS
          go_simp
        try simp only [List.getElem_toArray, List.getElem_cons_succ, List.getElem_cons_zero, Act.put, List.setIfInBounds_toArray, List.set_cons_zero, List.set_cons_succ]
        refine turn_end ?_
        try simp only [List.getElem_toArray, List.getElem_cons_succ, List.getElem_cons_zero, Act.put, List.setIfInBounds_toArray, List.set_cons_zero, List.set_cons_succ]
        clear x0 x1 y0 y1 heq hjn
        go_wp2_with fail
        go_roundw
        case rel => exact ⟨j + 1, q + 1, by go_num, by omega, rfl, Hall⟩
        case measure => simp only [intOf]; omega
      | true =>
        rw [he] at hxy
        rw [← hxy] at heq
        have Hnd0 : Hid (nd ds (j + 1 + 1) = ds.take (j + 1)) := Lib.hid (by rw [nd_step HX.out.1 HX.out.2, he, if_pos rfl, List.append_nil]; exact nd_all (by omega) hall.out)
        clear hxy he
        go_wp2_with fail
        refine wp_region_turns (.s 0 (.s 1 (.s 2 (.s 3 (.s 4 (.s 5 (.s 6 (.s 7 (.s 8 (.s 9 .nil)))))))))) 99 (fun W' => W'.cell? ⟨g, (j + 1) * 2, none⟩ = some (.string x.1) ∧ W'.cell? ⟨g, (j + 1) * 2 + 1, none⟩ = some (.string x.2) ∧ W'.cell? ⟨g, j * 2, none⟩ = some (.string y.1) ∧ W'.cell? ⟨g, j * 2 + 1, none⟩ = some (.string y.2)) (by kernel_rfl) (by kernel_rfl) (fun c a d v w h => by cases d <;> exact h) ⟨x0, x1, y0, y1⟩ ?_
        refine turn_steady (.slice (some ⟨g, 0, none⟩) ds.length c) rfl rfl (fun W' hS => ?_) ?_
        · obtain ⟨z0, z1, z2, z3⟩ := hS
          go_simp
        try simp only [List.getElem_toArray, List.getElem_cons_zero, Act.put, List.setIfInBounds_toArray, List.set_cons_zero, List.set_cons_succ]
        refine turn_steady (.int .i64 ((j + 1 : Nat) : Int)) rfl rfl (fun W' hS => ?_) ?_
        · obtain ⟨z0, z1, z2, z3⟩ := hS
          go_simp
        try simp only [List.getElem_toArray, List.getElem_cons_succ, List.getElem_cons_zero, Act.put, List.setIfInBounds_toArray, List.set_cons_zero, List.set_cons_succ]
        refine turn_steady (.pointer (some ⟨g, (j + 1) * 2, none⟩)) rfl rfl (fun W' hS => ?_) ?_
        · have n1 : ¬ ((j : Int) + 1 < 0) := by omega
          have n2 : ¬ (ds.length ≤ j + 1) := by omega
          have n3 : ¬ (((ds.length : Nat) : Int) ≤ (j : Int) + 1) := by omega
          have n4 : ((j : Int) + 1) < ((ds.length : Nat) : Int) := by omega
          go_simp
        try simp only [List.getElem_toArray, List.getElem_cons_succ, List.getElem_cons_zero, Act.put, List.setIfInBounds_toArray, List.set_cons_zero, List.set_cons_succ]
        refine turn_steady (.agg #[.string x.1, .string x.2]) rfl rfl (fun W' hS => ?_) ?_
        · obtain ⟨z0, z1, z2, z3⟩ := hS
          go_simp
        try simp only [List.getElem_toArray, List.getElem_cons_succ, List.getElem_cons_zero, Act.put, List.setIfInBounds_toArray, List.set_cons_zero, List.set_cons_succ]
        refine turn_steady (.slice (some ⟨g, 0, none⟩) ds.length c) rfl rfl (fun W' hS => ?_) ?_
        · obtain ⟨z0, z1, z2, z3⟩ := hS
          go_simp
        try simp only [List.getElem_toArray, List.getElem_cons_succ, List.getElem_cons_zero, Act.put, List.setIfInBounds_toArray, List.set_cons_zero, List.set_cons_succ]
        refine turn_steady (.int .i64 ((j + 1 : Nat) : Int)) rfl rfl (fun W' hS => ?_) ?_
        · obtain ⟨z0, z1, z2, z3⟩ := hS
          go_simp
        try simp only [List.getElem_toArray, List.getElem_cons_succ, List.getElem_cons_zero, Act.put, List.setIfInBounds_toArray, List.set_cons_zero, List.set_cons_succ]
        refine turn_steady (.int .i64 (j : Int)) rfl rfl (fun W' hS => ?_) ?_
        · have hwr := wrap_small j (by omega)
          go_simp
        try simp only [List.getElem_toArray, List.getElem_cons_succ, List.getElem_cons_zero, Act.put, List.setIfInBounds_toArray, List.set_cons_zero, List.set_cons_succ]
        refine turn_steady (.pointer (some ⟨g, j * 2, none⟩)) rfl rfl (fun W' hS => ?_) ?_
        · have n2 : ¬ (ds.length ≤ j) := by omega
          have n3 : ¬ (((ds.length : Nat) : Int) ≤ (j : Int)) := by omega
          go_simp
        try simp only [List.getElem_toArray, List.getElem_cons_succ, List.getElem_cons_zero, Act.put, List.setIfInBounds_toArray, List.set_cons_zero, List.set_cons_succ]
        refine turn_steady (.agg #[.string y.1, .string y.2]) rfl rfl (fun W' hS => ?_) ?_
        · obtain ⟨z0, z1, z2, z3⟩ := hS
          go_simp
        try simp only [List.getElem_toArray, List.getElem_cons_succ, List.getElem_cons_zero, Act.put, List.setIfInBounds_toArray, List.set_cons_zero, List.set_cons_succ]
        refine turn_steady (.bool true) rfl rfl (fun W' hS => ?_) ?_
        · obtain ⟨z0, z1, z2, z3⟩ := hS
          go_simp
        try simp only [List.getElem_toArray, List.getElem_cons_succ, List.getElem_cons_zero, Act.put, List.setIfInBounds_toArray, List.set_cons_zero, List.set_cons_succ]
        refine turn_end ?_
        try simp only [List.getElem_toArray, List.getElem_cons_succ, List.getElem_cons_zero, Act.put, List.setIfInBounds_toArray, List.set_cons_zero, List.set_cons_succ]
        clear x0 x1 y0 y1 heq hjn
        have hcj : j + 1 ≤ c := by omega
        have hjn1 : j + 1 ≤ ds.length := by omega
        go_wp2_with fail
        have HoW : Hid (OwnD (fun _ => True) (w.drewN (q + 1)) base 41 2 (.slice (some ⟨g, 0, none⟩) ds.length c) (labelsD ds) ∧ w.grownBy (w.drewN (q + 1)) (some g)) := Lib.hid ⟨H.out.below (below_drewN (Below.refl _ _) (q + 1)), grownBy_below (below_drewN (Below.refl _ _) (q + 1))⟩
        generalize w.drewN (q + 1) = W0 at HoW ⊢
        go_loopw [3, 5] (fun s3 s5 wr => ∃ (kk j2 : Nat) (L : List LB), s3 = .int .i64 (kk : Int) ∧ s5 = .int .i64 ((j2 + 1 : Nat) : Int) ∧ (j + 1) + (j2 + 1) ≤ ds.length ∧ 0 < kk ∧ kk ≤ (j + 1) + j2 ∧ L.length = ds.length ∧ Hid (OwnD (fun _ => True) wr base 41 2 (.slice (some ⟨g, 0, none⟩) ds.length c) (labelsD L)) ∧ Hid (w.grownBy wr (some g)) ∧ Hid (L.take kk = nd ds ((j + 1) + (j2 + 1))) ∧ Hid (∀ i, (j + 1) + j2 ≤ i → L[i]? = ds[i]?)) (fun _ s5 _ => ds.length - (intOf s5).toNat)
        case atStart => exact ⟨j + 1, 0, ds, rfl, by go_num, by omega, by omega, by omega, rfl, Lib.hid HoW.out.1, Lib.hid HoW.out.2, Lib.hid Hnd0.out.symm, Lib.hid (fun _ _ => rfl)⟩
        case round =>
          obtain ⟨kk, j2, L, rfl, rfl, hle, hk0, hk2, hLn, hown, hgr, hnd, hhi⟩ := hrel
          by_cases hlt2 : (j + 1) + (j2 + 1) < ds.length
          · have hu0 : ds[(j + 1) + (j2 + 1)]? = some ds[(j + 1) + (j2 + 1)] := List.getElem?_eq_getElem _
            have hv0 : ds[(j + 1) + j2]? = some (ds[(j + 1) + j2]'(by omega)) := List.getElem?_eq_getElem _
            generalize ds[(j + 1) + (j2 + 1)] = u at hu0
            generalize ds[(j + 1) + j2]'(by omega) = v at hv0
            obtain ⟨u0, u1⟩ := own_cells hown.out ((hhi.out _ (by omega)).trans hu0)
            obtain ⟨v0, v1⟩ := own_cells hown.out ((hhi.out _ (by omega)).trans hv0)
            rw [Nat.add_mul] at u0 u1 v0 v1
            have hjn : ((j2 + 1 : Nat) : Int) - 1 = (j2 : Int) := by omega
            have hb1 : j2 + 1 < ds.length - (j + 1) := by omega
            have hb2 : j2 < ds.length - (j + 1) := by omega
            have hneq := fun W => neqLab u.1 u.2 v.1 v.2 W
            have huv : eqP u v = (u.1.toList == v.1.toList && u.2.toList == v.2.toList) := rfl
            have hstep := nd_step (m := (j + 1) + j2) (l := ds) hu0 hv0
            have HU := Lib.hid hu0
            have Hob : Hid (w.grownBy wr.drew (some g)) := Lib.hid ⟨hgr.out.os, hgr.out.tape, hgr.out.output, hgr.out.size, hgr.out.block⟩
            have Hod := Lib.hid (hown.out.below ((Below.refl _ wr).drew))
            clear hu0 hv0 hown hgr
            cases he : eqP u v with
            | true =>
              rw [he] at huv hstep
              rw [← huv] at hneq
              simp only [Bool.not_true] at hneq
              have Hnd : Hid (L.take kk = nd ds ((j + 1) + (j2 + 1 + 1))) := Lib.hid (by rw [hnd.out]; rw [show (j + 1) + (j2 + 1 + 1) = (j + 1) + j2 + 2 by omega, hstep]; simp; rfl)
              have Hhi : Hid (∀ i, (j + 1) + (j2 + 1) ≤ i → L[i]? = ds[i]?) := Lib.hid (fun i hi => hhi.out i (by omega))
              clear huv he hstep
              go_wp2_with fail
              refine wp_region_turns (.s 0 (.s 1 (.s 2 (.s 3 (.s 4 (.s 5 (.s 6 (.s 7 (.s 8 (.s 9 .nil)))))))))) 99 (fun W' => W'.cell? ⟨g, (j + 1) * 2 + (j2 + 1) * 2, none⟩ = some (.string u.1) ∧ W'.cell? ⟨g, (j + 1) * 2 + (j2 + 1) * 2 + 1, none⟩ = some (.string u.2) ∧ W'.cell? ⟨g, (j + 1) * 2 + j2 * 2, none⟩ = some (.string v.1) ∧ W'.cell? ⟨g, (j + 1) * 2 + j2 * 2 + 1, none⟩ = some (.string v.2)) (by kernel_rfl) (by kernel_rfl) (fun c a d v w h => by cases d <;> exact h) ⟨u0, u1, v0, v1⟩ ?_
              refine turn_steady (.slice (some ⟨g, (j + 1) * 2, none⟩) (ds.length - (j + 1)) (c - (j + 1))) rfl rfl (fun W' hS => ?_) ?_
              · obtain ⟨z0, z1, z2, z3⟩ := hS
                go_simp
              try simp only [List.getElem_toArray, List.getElem_cons_zero, Act.put, List.setIfInBounds_toArray, List.set_cons_zero, List.set_cons_succ]
              refine turn_steady (.int .i64 ((j2 + 1 : Nat) : Int)) rfl rfl (fun W' hS => ?_) ?_
              · obtain ⟨z0, z1, z2, z3⟩ := hS
                go_simp
              try simp only [List.getElem_toArray, List.getElem_cons_succ, List.getElem_cons_zero, Act.put, List.setIfInBounds_toArray, List.set_cons_zero, List.set_cons_succ]
              refine turn_steady (.pointer (some ⟨g, (j + 1) * 2 + (j2 + 1) * 2, none⟩)) rfl rfl (fun W' hS => ?_) ?_
              · have n1 : ¬ ((j2 : Int) + 1 < 0) := by omega
                have n2 : ¬ ((ds.length - (j + 1)) ≤ j2 + 1) := by omega
                have n3 : ¬ ((((ds.length - (j + 1)) : Nat) : Int) ≤ (j2 : Int) + 1) := by omega
                have n4 : ((j2 : Int) + 1) < (((ds.length - (j + 1)) : Nat) : Int) := by omega
                go_simp
              try simp only [List.getElem_toArray, List.getElem_cons_succ, List.getElem_cons_zero, Act.put, List.setIfInBounds_toArray, List.set_cons_zero, List.set_cons_succ]
              refine turn_steady (.agg #[.string u.1, .string u.2]) rfl rfl (fun W' hS => ?_) ?_
              · obtain ⟨z0, z1, z2, z3⟩ := hS
                go_simp
              try simp only [List.getElem_toArray, List.getElem_cons_succ, List.getElem_cons_zero, Act.put, List.setIfInBounds_toArray, List.set_cons_zero, List.set_cons_succ]
              refine turn_steady (.slice (some ⟨g, (j + 1) * 2, none⟩) (ds.length - (j + 1)) (c - (j + 1))) rfl rfl (fun W' hS => ?_) ?_
              · obtain ⟨z0, z1, z2, z3⟩ := hS
                go_simp
              try simp only [List.getElem_toArray, List.getElem_cons_succ, List.getElem_cons_zero, Act.put, List.setIfInBounds_toArray, List.set_cons_zero, List.set_cons_succ]
              refine turn_steady (.int .i64 ((j2 + 1 : Nat) : Int)) rfl rfl (fun W' hS => ?_) ?_
              · obtain ⟨z0, z1, z2, z3⟩ := hS
                go_simp
              try simp only [List.getElem_toArray, List.getElem_cons_succ, List.getElem_cons_zero, Act.put, List.setIfInBounds_toArray, List.set_cons_zero, List.set_cons_succ]
              refine turn_steady (.int .i64 (j2 : Int)) rfl rfl (fun W' hS => ?_) ?_
              · have hwr := wrap_small j2 (by omega)
                go_simp
              try simp only [List.getElem_toArray, List.getElem_cons_succ, List.getElem_cons_zero, Act.put, List.setIfInBounds_toArray, List.set_cons_zero, List.set_cons_succ]
              refine turn_steady (.pointer (some ⟨g, (j + 1) * 2 + j2 * 2, none⟩)) rfl rfl (fun W' hS => ?_) ?_
              · have n2 : ¬ ((ds.length - (j + 1)) ≤ j2) := by omega
                have n3 : ¬ ((((ds.length - (j + 1)) : Nat) : Int) ≤ (j2 : Int)) := by omega
                go_simp
              try simp only [List.getElem_toArray, List.getElem_cons_succ, List.getElem_cons_zero, Act.put, List.setIfInBounds_toArray, List.set_cons_zero, List.set_cons_succ]
              refine turn_steady (.agg #[.string v.1, .string v.2]) rfl rfl (fun W' hS => ?_) ?_
              · obtain ⟨z0, z1, z2, z3⟩ := hS
                go_simp
              try simp only [List.getElem_toArray, List.getElem_cons_succ, List.getElem_cons_zero, Act.put, List.setIfInBounds_toArray, List.set_cons_zero, List.set_cons_succ]
              refine turn_steady (.bool false) rfl rfl (fun W' hS => ?_) ?_
              · obtain ⟨z0, z1, z2, z3⟩ := hS
                go_simp
              try simp only [List.getElem_toArray, List.getElem_cons_succ, List.getElem_cons_zero, Act.put, List.setIfInBounds_toArray, List.set_cons_zero, List.set_cons_succ]
              refine turn_end ?_
              try simp only [List.getElem_toArray, List.getElem_cons_succ, List.getElem_cons_zero, Act.put, List.setIfInBounds_toArray, List.set_cons_zero, List.set_cons_succ]
              clear u0 u1 v0 v1 hneq
              go_wp2_with fail
              go_roundw
              case rel => exact ⟨kk, j2 + 1, L, rfl, by go_num, by omega, hk0, by omega, hLn, Hod, Hob, Hnd, Hhi⟩
              case measure => simp only [intOf]; omega
            | false =>
              rw [he] at huv hstep
              rw [← huv] at hneq
              simp only [Bool.not_false] at hneq
              have hkl : kk < ds.length := by omega
              obtain ⟨g', hge, -, hglt, hgc⟩ := Hod.out.blk (by intro e; have := congrArg List.length e; rw [labelsD_len] at this; simp at this; simp [this] at hLn; omega) (by rw [labelsD_len, hLn]) (fun d hd => by obtain ⟨y, -, rfl⟩ := List.mem_map.1 hd; rfl)
              cases hge
              rw [labelsD_len] at hgc
              obtain ⟨⟨o0, p0⟩, f0⟩ := hgc kk (by omega) 0 (by omega)
              obtain ⟨⟨o1, p1⟩, f1⟩ := hgc kk (by omega) 1 (by omega)
              rw [Nat.add_zero] at p0 f0
              have hput := Hod.out.put (by decide) (j := kk) (by rw [labelsD_len]; omega) (cs := [.string u.1, .string u.2]) rfl (AggAt.label_mk u)
              have hset : (labelsD L).set kk (labelD u) = labelsD (L.set kk u) := by unfold labelsD; rw [List.map_set]
              rw [hset] at hput
              have Hput := Lib.hid hput
              have Hgr : Hid (w.grownBy (wr.drew.setCells g (kk * 2) [.string u.1, .string u.2]) (some g)) := Lib.hid (grownBy_set (grownBy_set Hob.out (kk * 2) (.string u.1)) (kk * 2 + 1) (.string u.2))
              have Hnd : Hid ((L.set kk u).take (kk + 1) = nd ds ((j + 1) + (j2 + 1 + 1))) := Lib.hid (by
                rw [show (j + 1) + (j2 + 1 + 1) = (j + 1) + j2 + 2 by omega, hstep, List.take_add_one, List.getElem?_set_self (by omega), List.take_set_of_le (Nat.le_refl _), hnd.out]
                simp
                rfl)
              have Hhi : Hid (∀ i, (j + 1) + (j2 + 1) ≤ i → (L.set kk u)[i]? = ds[i]?) := Lib.hid (fun i hi => by rw [List.getElem?_set_ne (by omega)]; exact hhi.out i (by omega))
              have hLn2 : (L.set kk u).length = ds.length := by rw [List.length_set]; exact hLn
              clear huv he hstep hput hset hgc
              go_wp2_with fail
              refine wp_region_turns (.s 0 (.s 1 (.s 2 (.s 3 (.s 4 (.s 5 (.s 6 (.s 7 (.s 8 (.s 9 .nil)))))))))) 99 (fun W' => W'.cell? ⟨g, (j + 1) * 2 + (j2 + 1) * 2, none⟩ = some (.string u.1) ∧ W'.cell? ⟨g, (j + 1) * 2 + (j2 + 1) * 2 + 1, none⟩ = some (.string u.2) ∧ W'.cell? ⟨g, (j + 1) * 2 + j2 * 2, none⟩ = some (.string v.1) ∧ W'.cell? ⟨g, (j + 1) * 2 + j2 * 2 + 1, none⟩ = some (.string v.2)) (by kernel_rfl) (by kernel_rfl) (fun c a d v w h => by cases d <;> exact h) ⟨u0, u1, v0, v1⟩ ?_
              refine turn_steady (.slice (some ⟨g, (j + 1) * 2, none⟩) (ds.length - (j + 1)) (c - (j + 1))) rfl rfl (fun W' hS => ?_) ?_
              · obtain ⟨z0, z1, z2, z3⟩ := hS
                go_simp
              try simp only [List.getElem_toArray, List.getElem_cons_zero, Act.put, List.setIfInBounds_toArray, List.set_cons_zero, List.set_cons_succ]
              refine turn_steady (.int .i64 ((j2 + 1 : Nat) : Int)) rfl rfl (fun W' hS => ?_) ?_
              · obtain ⟨z0, z1, z2, z3⟩ := hS
                go_simp
              try simp only [List.getElem_toArray, List.getElem_cons_succ, List.getElem_cons_zero, Act.put, List.setIfInBounds_toArray, List.set_cons_zero, List.set_cons_succ]
              refine turn_steady (.pointer (some ⟨g, (j + 1) * 2 + (j2 + 1) * 2, none⟩)) rfl rfl (fun W' hS => ?_) ?_
              · have n1 : ¬ ((j2 : Int) + 1 < 0) := by omega
                have n2 : ¬ ((ds.length - (j + 1)) ≤ j2 + 1) := by omega
                have n3 : ¬ ((((ds.length - (j + 1)) : Nat) : Int) ≤ (j2 : Int) + 1) := by omega
                have n4 : ((j2 : Int) + 1) < (((ds.length - (j + 1)) : Nat) : Int) := by omega
                go_simp
              try simp only [List.getElem_toArray, List.getElem_cons_succ, List.getElem_cons_zero, Act.put, List.setIfInBounds_toArray, List.set_cons_zero, List.set_cons_succ]
              refine turn_steady (.agg #[.string u.1, .string u.2]) rfl rfl (fun W' hS => ?_) ?_
              · obtain ⟨z0, z1, z2, z3⟩ := hS
                go_simp
              try simp only [List.getElem_toArray, List.getElem_cons_succ, List.getElem_cons_zero, Act.put, List.setIfInBounds_toArray, List.set_cons_zero, List.set_cons_succ]
              refine turn_steady (.slice (some ⟨g, (j + 1) * 2, none⟩) (ds.length - (j + 1)) (c - (j + 1))) rfl rfl (fun W' hS => ?_) ?_
              · obtain ⟨z0, z1, z2, z3⟩ := hS
                go_simp
              try simp only [List.getElem_toArray, List.getElem_cons_succ, List.getElem_cons_zero, Act.put, List.setIfInBounds_toArray, List.set_cons_zero, List.set_cons_succ]
              refine turn_steady (.int .i64 ((j2 + 1 : Nat) : Int)) rfl rfl (fun W' hS => ?_) ?_
              · obtain ⟨z0, z1, z2, z3⟩ := hS
                go_simp
              try simp only [List.getElem_toArray, List.getElem_cons_succ, List.getElem_cons_zero, Act.put, List.setIfInBounds_toArray, List.set_cons_zero, List.set_cons_succ]
              refine turn_steady (.int .i64 (j2 : Int)) rfl rfl (fun W' hS => ?_) ?_
              · have hwr := wrap_small j2 (by omega)
                go_simp
              try simp only [List.getElem_toArray, List.getElem_cons_succ, List.getElem_cons_zero, Act.put, List.setIfInBounds_toArray, List.set_cons_zero, List.set_cons_succ]
              refine turn_steady (.pointer (some ⟨g, (j + 1) * 2 + j2 * 2, none⟩)) rfl rfl (fun W' hS => ?_) ?_
              · have n2 : ¬ ((ds.length - (j + 1)) ≤ j2) := by omega
                have n3 : ¬ ((((ds.length - (j + 1)) : Nat) : Int) ≤ (j2 : Int)) := by omega
                go_simp
              try simp only [List.getElem_toArray, List.getElem_cons_succ, List.getElem_cons_zero, Act.put, List.setIfInBounds_toArray, List.set_cons_zero, List.set_cons_succ]
              refine turn_steady (.agg #[.string v.1, .string v.2]) rfl rfl (fun W' hS => ?_) ?_
              · obtain ⟨z0, z1, z2, z3⟩ := hS
                go_simp
              try simp only [List.getElem_toArray, List.getElem_cons_succ, List.getElem_cons_zero, Act.put, List.setIfInBounds_toArray, List.set_cons_zero, List.set_cons_succ]
              refine turn_steady (.bool true) rfl rfl (fun W' hS => ?_) ?_
              · obtain ⟨z0, z1, z2, z3⟩ := hS
                go_simp
              try simp only [List.getElem_toArray, List.getElem_cons_succ, List.getElem_cons_zero, Act.put, List.setIfInBounds_toArray, List.set_cons_zero, List.set_cons_succ]
              refine turn_end ?_
              try simp only [List.getElem_toArray, List.getElem_cons_succ, List.getElem_cons_zero, Act.put, List.setIfInBounds_toArray, List.set_cons_zero, List.set_cons_succ]
              clear hneq
              have u0' : wr.drew.cell? ⟨g, (j + 1) * 2 + (j2 + 1) * 2, none⟩ = some (.string u.1) := u0
              have u1' : wr.drew.cell? ⟨g, (j + 1) * 2 + (j2 + 1) * 2 + 1, none⟩ = some (.string u.2) := u1
              clear u0 u1 v0 v1
              generalize wr.drew = Wd at *
              go_wp2_with fail
              have hfold : (Wd.setCell ⟨g, kk * 2, none⟩ (.string u.1)).setCell ⟨g, kk * 2 + 1, none⟩ (.string u.2) = Wd.setCells g (kk * 2) [.string u.1, .string u.2] := rfl
              rw [hfold]
              generalize World.setCells _ _ _ _ = W9 at Hput Hgr ⊢
              go_roundw
              case rel => exact ⟨kk + 1, j2 + 1, L.set kk u, by go_num, by go_num, by omega, by omega, by omega, hLn2, Hput, Hgr, Hnd, Hhi⟩
              case measure => simp only [intOf]; omega
          · have hend : (j + 1) + (j2 + 1) = ds.length := by omega
            have hb1 : ¬ (j2 + 1 < ds.length - (j + 1)) := by omega
            have hkl : kk < ds.length := by omega
            have hkc : kk ≤ c := by omega
            obtain ⟨g', hge, -, hglt, hgc⟩ := hown.out.blk (by intro e; have := congrArg List.length e; rw [labelsD_len] at this; simp at this; simp [this] at hLn; omega) (by rw [labelsD_len, hLn]) (fun d hd => by obtain ⟨y, -, rfl⟩ := List.mem_map.1 hd; rfl)
            cases hge
            rw [labelsD_len] at hgc
            have hcell : ∀ i, i < (ds.length - kk) * 2 → (wr.cell? ⟨g, kk * 2 + i, none⟩).isSome = true ∧ wr.frozen? ⟨g, kk * 2 + i, none⟩ = false := by
              intro i hi
              obtain ⟨⟨u, hu⟩, hf⟩ := hgc (kk + i / 2) (by omega) (i % 2) (by omega)
              have e : (kk + i / 2) * 2 + i % 2 = kk * 2 + i := by omega
              rw [e] at hu hf
              exact ⟨by rw [hu]; rfl, hf⟩
            obtain ⟨zs, hzl, hcl⟩ := run_clearL wr 0 g (kk * 2) (ds.length - kk) (c - kk) (by omega) (fun i hi => (hcell i hi).1) (fun i hi => (hcell i hi).2)
            have hcl' : ∀ ty, (Builtin.clear_ #[42] ty #[.slice (some ⟨g, kk * 2, none⟩) (ds.length - kk) (c - kk)]).run Tryz.prog wr = .ok (.tuple #[]) (wr.setCells g (kk * 2) zs) := fun ty => hcl
            have hgr2 : ∀ (vs : List Value) (o : Nat) (W : World), w.grownBy W (some g) → w.grownBy (W.setCells g o vs) (some g) := by
              intro vs
              induction vs with
              | nil => intro o W h; exact h
              | cons v r ih => intro o W h; rw [World.setCells]; exact ih _ _ (grownBy_set h o v)
            have hlt9 : (L.take kk).length = kk := by rw [List.length_take]; omega
            have Hp : Hid (PCompact base (some ⟨g, 0, none⟩) ds.length c ds w (.returned (.slice (some ⟨g, 0, none⟩) kk c)) (wr.setCells g (kk * 2) zs)) := Lib.hid
              ⟨L.take kk, _, c, by rw [hnd.out, hend, nd_dedup], by omega, by rw [hlt9], row_head hown.out kk (by omega) zs (by rw [hLn]; exact hzl), hgr2 zs _ _ hgr.out⟩
            clear hcell hgc hcl hgr2 hown hgr hnd hhi hlt9
            go_wp2_with fail
            go_ret
            exact Hp.out
    · have hje : j + 1 = ds.length := by omega
      have Hp : Hid (PCompact base (some ⟨g, 0, none⟩) ds.length c ds w (.returned (.slice (some ⟨g, 0, none⟩) ds.length c)) (w.drewN q)) := Lib.hid ⟨ds, _, c, compact_all (fun i x y hi => hall.out i x y (by omega)), Nat.le_refl _, rfl, row_labels (H.out.below (below_drewN (Below.refl _ _) q)), grownBy_below (below_drewN (Below.refl _ _) q)⟩
      go_wp2_with fail
      go_ret
      exact Hp.out
end Go.Proofs.YthknljeffpbbmaaGreatDoor
namespace Go.Proofs.YthknljeffpbbmaaGreatDoor
open Go Go.RowKit Go.Sort

theorem infoNamed : (Tryz.prog.info? 39).map (fun i => (i.zero, i.size, i.bytes)) = some (some (.agg #[.string ByteArray.empty, .int .i64 0, .int .i64 0, .string ByteArray.empty, .slice none 0 0, .slice none 0 0]), 6, 96) := by kernel_rfl
def zeroT : Array Value := #[.string ⟨#[]⟩, .string ⟨#[]⟩, .string ⟨#[]⟩, .slice none 0 0, .slice none 0 0, .slice none 0 0]
theorem OwnD.widerLt {F G : Nat → Prop} {w : World} {base : Nat} {e : TypeId} {size : Nat} {v : Value} {l : List (List Dat)} (h : OwnD F w base e size v l) (hg : ∀ b, F b → b < w.heap.size → G b) : OwnD G w base e size v l := by
  obtain ⟨css, h1, h2, h3, h4⟩ := h
  exact ⟨css, h1, h2, h3, fun j ds cs h5 h6 => (h4 j ds cs h5 h6).wider fun b hb hl => ⟨hg b hb.1 hl, hb.2⟩⟩
theorem labels_keep {w w' : World} {base : Nat} {v : Value} {ds : List LB} (h : OwnD (fun _ => True) w base 41 2 v (labelsD ds)) (hk : ∀ b, b < w.heap.size → v.ownBlock = some b → w'.heap[b]? = w.heap[b]?) : OwnD (fun _ => True) w' base 41 2 v (labelsD ds) := by
  refine ownD_labels.2 ?_
  obtain ⟨h1, h2 | ⟨g, cap, cur, rfl, h3, h4, h5⟩⟩ := ownD_labels.1 h
  · exact ⟨h1, .inl h2⟩
  · exact ⟨h1, .inr ⟨g, cap, cur, rfl, h3, (hk g (Array.getElem?_eq_some_iff.1 h4).1 rfl).trans h4, h5⟩⟩

structure BS (F : Nat → Prop) (w : World) (base bt mb : Nat) (p n rule : ByteArray) (f : GM) (vv dv : Value) (vals : List (ByteArray × Vl)) (ds : List LB) (wr : World) : Prop where
  below : Below w.heap.size w wr
  size : base ≤ wr.heap.size
  tb : wr.heap[bt]? = some (.cells #[.string p, .string n, .string rule, vv, dv, .slice none 0 0] 44 (0, 0))
  zb : wr.heap[w.heap.size + 2]? = some (.cells zeroT 44 (0, 0))
  giv : GivAt F wr mb f
  own : OwnD (fun b => (F b ∨ base ≤ b) ∧ dv.ownBlock ≠ some b) wr base 39 6 vv (namedsD vals)
  deps : OwnD (fun _ => True) wr base 41 2 dv (labelsD ds)
  sep : ∀ g, vv.ownBlock = some g → dv.ownBlock ≠ some g
/-- Which blocks are which. -/
structure BN (F : Nat → Prop) (w : World) (base bt mb : Nat) : Prop where
  hf : ∀ b, F b → b < w.heap.size
  hmb : w.heap.size + 3 ≤ mb
  hbt : mb < bt
  hbase : bt < base
section
variable {F : Nat → Prop} {w : World} {base bt mb : Nat} {p n rule : ByteArray} {f : GM} {vv dv : Value} {vals : List (ByteArray × Vl)} {ds : List LB} {wr wr' : World}
theorem BS.later (h : BS F w base bt mb p n rule f vv dv vals ds wr) (hb : Below wr.heap.size wr wr') : BS F w base bt mb p n rule f vv dv vals ds wr' :=
  ⟨h.below.trans (hb.mono h.below.size), Nat.le_trans h.size hb.size, stays h.tb hb, stays h.zb hb, h.giv.below hb, h.own.below hb, h.deps.below hb, h.sep⟩
/-- The labels have grown: their row, and the box that holds it. -/
theorem BS.dep (h : BS F w base bt mb p n rule f vv dv vals ds wr) (hn : BN F w base bt mb) {dv' : Value} {ds' : List LB} (hown : OwnD (fun _ => True) wr' base 41 2 dv' (labelsD ds')) (hg : wr.grownBy wr' dv.ownBlock)
    (hd : ∀ g, dv'.ownBlock = some g → dv.ownBlock = some g ∨ wr.heap.size ≤ g) : BS F w base bt mb p n rule f vv dv' vals ds' (wr'.setCell ⟨bt, 4, none⟩ dv') := by
  have hnb := hn.hbase
  have hnt := hn.hbt
  have hnm := hn.hmb
  have hdl : ∀ g, dv.ownBlock = some g → base ≤ g := fun g hg => (h.deps.block_lt hg).1
  have hblk : ∀ b, b < wr.heap.size → b < base → wr'.heap[b]? = wr.heap[b]? := fun b hb hlt => hg.block b hb (fun e => by have := hdl b e.symm; omega)
  have hs := h.size
  have hw : w.heap.size ≤ wr.heap.size := h.below.size
  have tb' := (hblk bt (by omega) hnb).trans h.tb
  have hs' := hg.size
  have stay : ∀ b, b < wr.heap.size → dv.ownBlock ≠ some b → b ≠ bt → (wr'.setCell ⟨bt, 4, none⟩ dv').heap[b]? = wr.heap[b]? := fun b hb hne hbt => (set_other hbt 4 _).trans (hg.block b hb (fun e => hne e.symm))
  refine ⟨?_, ?_, ?_, ?_, ?_, ?_, ?_, ?_⟩
  · have hb1 : Below w.heap.size w wr' := ⟨hg.os.trans h.below.os, hg.tape.trans h.below.tape, hg.output.trans h.below.output, by omega, fun i hi => (hblk i (by omega) (by omega)).trans (h.below.block i hi)⟩
    exact hb1.setCell (p := ⟨bt, 4, none⟩) (by show _ ≤ bt; omega) _
  · have : (wr'.setCell ⟨bt, 4, none⟩ dv').heap.size = wr'.heap.size := by simp
    omega
  · rw [set_same tb' 4]; rfl
  · rw [set_other (by omega) 4 _, hblk _ (by omega) (by omega)]; exact h.zb
  · exact h.giv.mono (stay mb h.giv.lt (fun e => by have := hdl _ e; omega) (by omega)) (fun b hb hl => ⟨hb, by simp; omega, stay b hl (fun e => by have := hdl _ e; have := hn.hf b hb; omega) (by have := hn.hf b hb; omega)⟩)
  · have h1 : OwnD (fun b => ((F b ∨ base ≤ b) ∧ dv.ownBlock ≠ some b) ∧ b < wr.heap.size) wr base 39 6 vv (namedsD vals) := h.own.widerLt fun b hb hl => ⟨hb, hl⟩
    refine (h1.keep (w' := wr'.setCell ⟨bt, 4, none⟩ dv') (fun b hb hx => ?_) (by simp; omega)).wider fun b hb => ⟨hb.1.1, fun e => ?_⟩
    · rcases hx with hx | hx
      · exact stay b hb hx.1.2 (by rcases hx.1.1 with h1 | h1; (have := hn.hf b h1; omega); omega)
      · exact stay b hb (h.sep b hx) (by have := (h.own.block_lt hx).1; omega)
    · rcases hd b e with h2 | h2
      · exact hb.1.2 h2
      · have := hb.2; omega
  · exact labels_keep hown (fun b hb hx => set_other (by
      have := (hown.block_lt hx).1
      omega) 4 _)
  · intro g hg1 hg2
    rcases hd g hg2 with h1 | h1
    · exact h.sep g hg1 h1
    · have := (h.own.block_lt hg1).2
      omega
/-- The labels' row alone is another. -/
theorem BS.depS (h : BS F w base bt mb p n rule f vv dv vals ds wr) (hn : BN F w base bt mb) {ds' : List LB} (hown : OwnD (fun _ => True) wr' base 41 2 dv (labelsD ds')) (hg : wr.grownBy wr' dv.ownBlock) : BS F w base bt mb p n rule f vv dv vals ds' wr' := by
  have hnb := hn.hbase
  have hnt := hn.hbt
  have hnm := hn.hmb
  have hdl : ∀ g, dv.ownBlock = some g → base ≤ g := fun g hg => (h.deps.block_lt hg).1
  have hblk : ∀ b, b < wr.heap.size → b < base → wr'.heap[b]? = wr.heap[b]? := fun b hb hlt => hg.block b hb (fun e => by have := hdl b e.symm; omega)
  have hs := h.size
  have hw : w.heap.size ≤ wr.heap.size := h.below.size
  have tb' := (hblk bt (by omega) hnb).trans h.tb
  have hs' := hg.size
  have stay : ∀ b, b < wr.heap.size → dv.ownBlock ≠ some b → b ≠ bt → wr'.heap[b]? = wr.heap[b]? := fun b hb hne hbt => (hg.block b hb (fun e => hne e.symm))
  refine ⟨?_, ?_, ?_, ?_, ?_, ?_, ?_, ?_⟩
  · have hb1 : Below w.heap.size w wr' := ⟨hg.os.trans h.below.os, hg.tape.trans h.below.tape, hg.output.trans h.below.output, by omega, fun i hi => (hblk i (by omega) (by omega)).trans (h.below.block i hi)⟩
    exact hb1
  · omega
  · exact tb'
  · rw [hblk _ (by omega) (by omega)]; exact h.zb
  · exact h.giv.mono (stay mb h.giv.lt (fun e => by have := hdl _ e; omega) (by omega)) (fun b hb hl => ⟨hb, by omega, stay b hl (fun e => by have := hdl _ e; have := hn.hf b hb; omega) (by have := hn.hf b hb; omega)⟩)
  · have h1 : OwnD (fun b => ((F b ∨ base ≤ b) ∧ dv.ownBlock ≠ some b) ∧ b < wr.heap.size) wr base 39 6 vv (namedsD vals) := h.own.widerLt fun b hb hl => ⟨hb, hl⟩
    refine (h1.keep (w' := wr') (fun b hb hx => ?_) (by omega)).wider fun b hb => ⟨hb.1.1, fun e => ?_⟩
    · rcases hx with hx | hx
      · exact stay b hb hx.1.2 (by rcases hx.1.1 with h1 | h1; (have := hn.hf b h1; omega); omega)
      · exact stay b hb (h.sep b hx) (by have := (h.own.block_lt hx).1; omega)
    · exact hb.1.2 e
  · exact hown
  · exact h.sep
/-- Where the labels' row alone is another: all else. -/
theorem BS.others (h : BS F w base bt mb p n rule f vv dv vals ds wr) (hn : BN F w base bt mb) (hg : wr.grownBy wr' dv.ownBlock) : Below w.heap.size w wr' ∧ base ≤ wr'.heap.size ∧ wr'.heap[bt]? = some (.cells #[.string p, .string n, .string rule, vv, dv, .slice none 0 0] 44 (0, 0)) ∧ wr'.heap[w.heap.size + 2]? = some (.cells zeroT 44 (0, 0)) ∧ GivAt F wr' mb f ∧ OwnD (fun b => (F b ∨ base ≤ b) ∧ dv.ownBlock ≠ some b) wr' base 39 6 vv (namedsD vals) := by
  have hnb := hn.hbase
  have hnt := hn.hbt
  have hnm := hn.hmb
  have hdl : ∀ g, dv.ownBlock = some g → base ≤ g := fun g hg => (h.deps.block_lt hg).1
  have hblk : ∀ b, b < wr.heap.size → b < base → wr'.heap[b]? = wr.heap[b]? := fun b hb hlt => hg.block b hb (fun e => by have := hdl b e.symm; omega)
  have hs := h.size
  have hw : w.heap.size ≤ wr.heap.size := h.below.size
  have tb' := (hblk bt (by omega) hnb).trans h.tb
  have hs' := hg.size
  have stay : ∀ b, b < wr.heap.size → dv.ownBlock ≠ some b → b ≠ bt → wr'.heap[b]? = wr.heap[b]? := fun b hb hne hbt => (hg.block b hb (fun e => hne e.symm))
  refine ⟨?_, ?_, ?_, ?_, ?_, ?_⟩
  · have hb1 : Below w.heap.size w wr' := ⟨hg.os.trans h.below.os, hg.tape.trans h.below.tape, hg.output.trans h.below.output, by omega, fun i hi => (hblk i (by omega) (by omega)).trans (h.below.block i hi)⟩
    exact hb1
  · omega
  · exact tb'
  · rw [hblk _ (by omega) (by omega)]; exact h.zb
  · exact h.giv.mono (stay mb h.giv.lt (fun e => by have := hdl _ e; omega) (by omega)) (fun b hb hl => ⟨hb, by omega, stay b hl (fun e => by have := hdl _ e; have := hn.hf b hb; omega) (by have := hn.hf b hb; omega)⟩)
  · have h1 : OwnD (fun b => ((F b ∨ base ≤ b) ∧ dv.ownBlock ≠ some b) ∧ b < wr.heap.size) wr base 39 6 vv (namedsD vals) := h.own.widerLt fun b hb hl => ⟨hb, hl⟩
    refine (h1.keep (w' := wr') (fun b hb hx => ?_) (by omega)).wider fun b hb => ⟨hb.1.1, fun e => ?_⟩
    · rcases hx with hx | hx
      · exact stay b hb hx.1.2 (by rcases hx.1.1 with h1 | h1; (have := hn.hf b h1; omega); omega)
      · exact stay b hb (h.sep b hx) (by have := (h.own.block_lt hx).1; omega)
    · exact hb.1.2 e
/-- The values have grown. -/
theorem BS.val (h : BS F w base bt mb p n rule f vv dv vals ds wr) (hn : BN F w base bt mb) {vv' : Value} {vals' : List (ByteArray × Vl)} (hown : OwnD (fun b => (F b ∨ base ≤ b) ∧ dv.ownBlock ≠ some b) wr' base 39 6 vv' (namedsD vals')) (hg : wr.grownBy wr' vv.ownBlock)
    (hd : ∀ g, vv'.ownBlock = some g → vv.ownBlock = some g ∨ wr.heap.size ≤ g) : BS F w base bt mb p n rule f vv' dv vals' ds (wr'.setCell ⟨bt, 3, none⟩ vv') := by
  have hnb := hn.hbase
  have hnt := hn.hbt
  have hnm := hn.hmb
  have hdl : ∀ g, vv.ownBlock = some g → base ≤ g := fun g hg => (h.own.block_lt hg).1
  have hblk : ∀ b, b < wr.heap.size → b < base → wr'.heap[b]? = wr.heap[b]? := fun b hb hlt => hg.block b hb (fun e => by have := hdl b e.symm; omega)
  have hs := h.size
  have hw : w.heap.size ≤ wr.heap.size := h.below.size
  have tb' := (hblk bt (by omega) hnb).trans h.tb
  have hs' := hg.size
  have stay : ∀ b, b < wr.heap.size → vv.ownBlock ≠ some b → b ≠ bt → (wr'.setCell ⟨bt, 3, none⟩ vv').heap[b]? = wr.heap[b]? := fun b hb hne hbt => (set_other hbt 3 _).trans (hg.block b hb (fun e => hne e.symm))
  refine ⟨?_, ?_, ?_, ?_, ?_, ?_, ?_, ?_⟩
  · have hb1 : Below w.heap.size w wr' := ⟨hg.os.trans h.below.os, hg.tape.trans h.below.tape, hg.output.trans h.below.output, by omega, fun i hi => (hblk i (by omega) (by omega)).trans (h.below.block i hi)⟩
    exact hb1.setCell (p := ⟨bt, 3, none⟩) (by show _ ≤ bt; omega) _
  · have : (wr'.setCell ⟨bt, 3, none⟩ vv').heap.size = wr'.heap.size := by simp
    omega
  · rw [set_same tb' 3]; rfl
  · rw [set_other (by omega) 3 _, hblk _ (by omega) (by omega)]; exact h.zb
  · exact h.giv.mono (stay mb h.giv.lt (fun e => by have := hdl _ e; omega) (by omega)) (fun b hb hl => ⟨hb, by simp; omega, stay b hl (fun e => by have := hdl _ e; have := hn.hf b hb; omega) (by have := hn.hf b hb; omega)⟩)
  · exact hown.keep (fun b hb hx => set_other (by
      rcases hx with hx | hx
      · rcases hx.1 with h1 | h1
        · have := hn.hf b h1; omega
        · omega
      · have := (hown.block_lt hx).1; omega) 3 _) (by simp)
  · exact labels_keep h.deps (fun b hb hx => stay b hb (fun e => h.sep b e hx) (by have := (h.deps.block_lt hx).1; omega))
  · intro g hg1 hg2
    rcases hd g hg1 with h1 | h1
    · exact h.sep g h1 hg2
    · have := (h.deps.block_lt hg2).2
      omega
end
theorem labelD_plain (x : LB) : PlainD (labelD x) := by
  intro u hu
  simp only [labelD, List.mem_cons, List.not_mem_nil, or_false, Dat.one.injEq] at hu
  rcases hu with rfl | rfl <;> rfl
theorem labelsD_all {q : List Dat → Prop} (h : ∀ x, q (labelD x)) (l : List LB) : ∀ d ∈ labelsD l, q d := by
  intro d hd
  obtain ⟨x, -, rfl⟩ := List.mem_map.1 hd
  exact h x
end Go.Proofs.YthknljeffpbbmaaGreatDoor
namespace Go.Proofs.YthknljeffpbbmaaGreatDoor
open Go Go.RowKit

set_option maxRecDepth 100000 in
set_option maxHeartbeats 2000000 in
theorem great11_any (k n1 : Int) (s : ByteArray) (l : List Vl) (ks : List ByteArray) (hs : smallV (.mk k n1 s l ks)) (F : Nat → Prop) (a1 : Option Addr) (c1 : Nat) (a2 : Option Addr) (c2 : Nat) (w : World) (hr1 : RowAt F w a1 (valsD l)) (hr2 : RowAt F w a2 (strsD ks)) :
    Calls Tryz.prog 14 #[.agg #[.int .i64 k, .int .i64 n1, .string s, .slice a1 l.length c1, .slice a2 ks.length c2]] w (PSome w) := by
  have hba : Below w.heap.size w (w.alloc (.cells #[.int .i64 k, .int .i64 n1, .string s, .slice a1 l.length c1, .slice a2 ks.length c2] 37)) := (Below.refl _ w).alloc (Nat.le_refl _) _
  have H0 := Lib.hid (And.intro (heap_alloc_new w (.cells #[.int .i64 k, .int .i64 n1, .string s, .slice a1 l.length c1, .slice a2 ks.length c2] 37)) hba)
  have HC := Lib.hid (count_any _ hs F a1 c1 a2 c2 _ (hr1.below hba) (hr2.below hba))
  have HL := Lib.hid (fun W (h : Below w.heap.size w W) => long_any _ hs F a1 c1 a2 c2 W (hr1.below h) (hr2.below h))
  clear hba hr1 hr2 hs
  go_enter Tryz.func14, Tryz.ntmps14
  go_wp2_with fail
  refine HC.out.mono ?_
  rintro e w1 ⟨⟨N, rfl⟩, hb1⟩
  have H1 := Lib.hid (And.intro (stays H0.out.1 hb1) (H0.out.2.trans (hb1.mono H0.out.2.size)))
  clear hb1 H0 HC
  by_cases hN : 60 < N
  · go_wp2_with fail
    go_ret
    exact ⟨⟨_, rfl⟩, H1.out.2⟩
  · obtain ⟨q0, q1, q2, q3, q4, q5, -⟩ := five_facts H1.out.1
    have HL1 := Lib.hid (HL.out w1 H1.out.2)
    clear HL
    go_wp2_with fail
    refine HL1.out.mono ?_
    rintro e w2 ⟨⟨bb, rfl⟩, hb2⟩
    have Hb2 := Lib.hid (H1.out.2.trans (hb2.mono H1.out.2.size))
    clear hb2
    go_wp2_with fail
    go_ret
    exact ⟨⟨_, rfl⟩, Hb2.out⟩

def PGreat (l : List AttrP) (w : World) (e : Ending) (w' : World) : Prop := Below w.heap.size w w' ∧ ∃ b : Bool, e = .returned (.bool b) ∧ (b = false → l.length ≤ 12 ∧ ∀ x ∈ l, x.name.size ≤ 100)
set_option maxRecDepth 100000 in
set_option maxHeartbeats 2000000 in
theorem great16_any (rn : ByteArray) (l : List AttrP) (F : Nat → Prop) (aA aB : Option Addr) (cA nB cB : Nat) (x1 x2 : Int) (w : World) (_hrz : rn.size ≤ 9223372036854775807) (hl : l.length ≤ 140737488355328) (hn : ∀ x ∈ l, x.name.size ≤ 9223372036854775807) (hs : ∀ x ∈ l, smallV x.dflt) (hr : RowAt F w aA (attrsD l)) :
    Calls Tryz.prog 5 #[.agg #[.string rn, .slice aA l.length cA, .slice aB nB cB, .int .i64 x1, .int .i64 x2]] w (PGreat l w) := by
  have hba : Below w.heap.size w (w.alloc (.cells #[.string rn, .slice aA l.length cA, .slice aB nB cB, .int .i64 x1, .int .i64 x2] 27)) := (Below.refl _ w).alloc (Nat.le_refl _) _
  have H0 := Lib.hid (And.intro (heap_alloc_new w (.cells #[.string rn, .slice aA l.length cA, .slice aB nB cB, .int .i64 x1, .int .i64 x2] 27)) hba)
  have Hr := Lib.hid hr
  have Hn := Lib.hid hn
  have Hs := Lib.hid hs
  clear hr hn hs hba
  by_cases h12 : (12 : Int) < l.length
  · go_enter Tryz.func5, Tryz.ntmps5
    go_wp2_with fail
    go_ret
    exact ⟨H0.out.2, true, rfl, fun h => by cases h⟩
  by_cases h100 : (100 : Int) < rn.size
  · go_enter Tryz.func5, Tryz.ntmps5
    go_wp2_with fail
    go_ret
    exact ⟨H0.out.2, true, rfl, fun h => by cases h⟩
  go_enter Tryz.func5, Tryz.ntmps5
  go_wp2_with fail
  generalize World.alloc _ _ = W0 at H0 ⊢
  go_loopw [17] (fun i wr => ∃ j : Nat, i = .int .i64 j ∧ j ≤ l.length ∧ Hid (wr.heap[w.heap.size]? = some (.cells #[.string rn, .slice aA l.length cA, .slice aB nB cB, .int .i64 x1, .int .i64 x2] 27 (0, 0)) ∧ Below w.heap.size w wr) ∧ Hid (∀ (i : Nat) (x : AttrP), i < j → l[i]? = some x → x.name.size ≤ 100)) (fun i _ => l.length - (intOf i).toNat)
  case atStart => exact ⟨0, rfl, Nat.zero_le _, H0, Lib.hid (fun i x h => absurd h (Nat.not_lt_zero _))⟩
  case round =>
    obtain ⟨j, rfl, hj, hst, hall⟩ := hrel
    by_cases hlt : j < l.length
    · have hx0 : l[j]? = some l[j] := List.getElem?_eq_getElem hlt
      generalize l[j] = x at hx0
      have hnz := Hn.out x (List.mem_of_getElem? hx0)
      have hsv := Hs.out x (List.mem_of_getElem? hx0)
      obtain ⟨nm, ty, mu, ⟨xk, xn, xs, xl, xks⟩⟩ := x
      obtain ⟨b, off, b1, e1, b2, e2, rfl, -, hbl, r0, r1, r2, r3, r4, r5, r6, r7, hs1, hs2⟩ := (Hr.out.below hst.out.2).attr hx0
      have HG := Lib.hid (great11_any xk xn xs xl xks hsv F b1 e1 b2 e2 wr hs1 hs2)
      obtain ⟨q0, q1, q2, q3, q4, q5, -⟩ := five_facts hst.out.1
      have Hx0 := Lib.hid hx0
      simp only at hnz
      clear hx0 hs1 hs2 hsv
      by_cases hbig : (100 : Int) < nm.size
      · go_wp2_with fail
        go_ret
        exact ⟨hst.out.2, true, rfl, fun h => by cases h⟩
      · have Hall : Hid (∀ (i : Nat) (x : AttrP), i < j + 1 → l[i]? = some x → x.name.size ≤ 100) := Lib.hid (fun i x hi hx => by
          by_cases h : i = j
          · subst h
            rw [Hx0.out] at hx
            cases hx
            show nm.size ≤ 100
            omega
          · exact hall.out i x (by omega) hx)
        go_wp2_with fail
        refine HG.out.mono ?_
        rintro e w2 ⟨⟨bb, rfl⟩, hb2⟩
        have Hst2 := Lib.hid (And.intro (stays hst.out.1 hb2) (hst.out.2.trans (hb2.mono hst.out.2.size)))
        clear hb2 hst HG r0 r1 r2 r3 r4 r5 r6 r7 q0 q1 q2 q3 q4 q5 hall
        cases bb with
        | true =>
          go_wp2_with fail
          go_ret
          exact ⟨Hst2.out.2, true, rfl, fun h => by cases h⟩
        | false =>
          go_wp2_with fail
          go_roundw
          case rel => exact ⟨j + 1, by go_num, by omega, Hst2, Hall⟩
          case measure => simp only [intOf]; omega
    · go_wp2_with fail
      go_ret
      refine ⟨hst.out.2, false, rfl, fun _ => ⟨by omega, fun x hx => ?_⟩⟩
      obtain ⟨i, hi⟩ := List.getElem?_of_mem hx
      exact hall.out i x (by have := (List.getElem?_eq_some_iff.1 hi).1; omega) hi

def PWide (l : List (ByteArray × Vl)) (w : World) (e : Ending) (w' : World) : Prop := Below w.heap.size w w' ∧ ∃ b : Bool, e = .returned (.bool b) ∧ (b = false → l.length ≤ 12)
set_option maxRecDepth 100000 in
set_option maxHeartbeats 2000000 in
theorem wide_any (dr : ByteArray) (l : List (ByteArray × Vl)) (F : Nat → Prop) (aD : Option Addr) (cD : Nat) (x1 x2 : Int) (w : World) (hl : l.length ≤ 140737488355328) (hn : ∀ x ∈ l, x.1.size ≤ 9223372036854775807) (hs : ∀ x ∈ l, smallV x.2) (hr : RowAt F w aD (namedsD l)) :
    Calls Tryz.prog 6 #[.agg #[.string dr, .slice aD l.length cD, .int .i64 x1, .int .i64 x2]] w (PWide l w) := by
  have hba : Below w.heap.size w (w.alloc (.cells #[.string dr, .slice aD l.length cD, .int .i64 x1, .int .i64 x2] 30)) := (Below.refl _ w).alloc (Nat.le_refl _) _
  have H0 := Lib.hid (And.intro (heap_alloc_new w (.cells #[.string dr, .slice aD l.length cD, .int .i64 x1, .int .i64 x2] 30)) hba)
  have Hr := Lib.hid hr
  have Hn := Lib.hid hn
  have Hs := Lib.hid hs
  clear hr hn hs hba
  by_cases h12 : (12 : Int) < l.length
  · go_enter Tryz.func6, Tryz.ntmps6
    go_wp2_with fail
    go_ret
    exact ⟨H0.out.2, true, rfl, fun h => by cases h⟩
  go_enter Tryz.func6, Tryz.ntmps6
  go_wp2_with fail
  generalize World.alloc _ _ = W0 at H0 ⊢
  go_loopw [11] (fun i wr => ∃ j : Nat, i = .int .i64 j ∧ j ≤ l.length ∧ Hid (wr.heap[w.heap.size]? = some (.cells #[.string dr, .slice aD l.length cD, .int .i64 x1, .int .i64 x2] 30 (0, 0)) ∧ Below w.heap.size w wr)) (fun i _ => l.length - (intOf i).toNat)
  case atStart => exact ⟨0, rfl, Nat.zero_le _, H0⟩
  case round =>
    obtain ⟨j, rfl, hj, hst⟩ := hrel
    by_cases hlt : j < l.length
    · have hx0 : l[j]? = some l[j] := List.getElem?_eq_getElem hlt
      generalize l[j] = x at hx0
      have hnz := Hn.out x (List.mem_of_getElem? hx0)
      have hsv := Hs.out x (List.mem_of_getElem? hx0)
      obtain ⟨nm, ⟨xk, xn, xs, xl, xks⟩⟩ := x
      obtain ⟨b, off, b1, e1, b2, e2, rfl, -, hbl, r0, r1, r2, r3, r4, r5, hs1, hs2⟩ := (Hr.out.below hst.out.2).named hx0
      have HG := Lib.hid (great11_any xk xn xs xl xks hsv F b1 e1 b2 e2 wr hs1 hs2)
      obtain ⟨q0, q1, q2, q3, q4⟩ := four_facts hst.out.1
      simp only at hnz
      clear hx0 hs1 hs2 hsv
      by_cases hbig : (100 : Int) < nm.size
      · go_wp2_with fail
        go_ret
        exact ⟨hst.out.2, true, rfl, fun h => by cases h⟩
      · go_wp2_with fail
        refine HG.out.mono ?_
        rintro e w2 ⟨⟨bb, rfl⟩, hb2⟩
        have Hst2 := Lib.hid (And.intro (stays hst.out.1 hb2) (hst.out.2.trans (hb2.mono hst.out.2.size)))
        clear hb2 hst HG r0 r1 r2 r3 r4 r5 q0 q1 q2 q3 q4
        cases bb with
        | true =>
          go_wp2_with fail
          go_ret
          exact ⟨Hst2.out.2, true, rfl, fun h => by cases h⟩
        | false =>
          go_wp2_with fail
          go_roundw
          case rel => exact ⟨j + 1, by go_num, by omega, Hst2⟩
          case measure => simp only [intOf]; omega
    · go_wp2_with fail
      go_ret
      exact ⟨hst.out.2, false, rfl, fun _ => by omega⟩
end Go.Proofs.YthknljeffpbbmaaGreatDoor
namespace Go.Proofs.YthknljeffpbbmaaGreatDoor
open Go Go.RowKit

def PYes (w : World) (e : Ending) (w' : World) : Prop := e = .returned (.bool true) ∧ Below w.heap.size w w'
def SameC (v : Vl) : Prop := ∀ (F : Nat → Prop) (a1 : Option Addr) (c1 : Nat) (a2 : Option Addr) (c2 : Nat) (g1 : Option Addr) (d1 : Nat) (g2 : Option Addr) (d2 : Nat) (w : World), RowAt F w a1 (valsD v.items) → RowAt F w a2 (strsD v.keys) → RowAt F w g1 (valsD v.items) → RowAt F w g2 (strsD v.keys) →
  Calls Tryz.prog 13 #[.agg #[.int .i64 v.kind, .int .i64 v.num, .string v.str, .slice a1 v.items.length c1, .slice a2 v.keys.length c2], .agg #[.int .i64 v.kind, .int .i64 v.num, .string v.str, .slice g1 v.items.length d1, .slice g2 v.keys.length d2]] w (PYes w)
set_option maxRecDepth 100000 in
set_option maxHeartbeats 4000000 in
theorem same_node (k n : Int) (s : ByteArray) (l : List Vl) (ks : List ByteArray) (hl : l.length ≤ 140737488355328) (hkl : ks.length ≤ 140737488355328) (hit : ∀ x ∈ l, SameC x) (F : Nat → Prop) (a1 : Option Addr) (c1 : Nat) (a2 : Option Addr) (c2 : Nat) (g1 : Option Addr) (d1 : Nat) (g2 : Option Addr) (d2 : Nat) (w : World) (hr1 : RowAt F w a1 (valsD l)) (hr2 : RowAt F w a2 (strsD ks)) (hg1 : RowAt F w g1 (valsD l)) (hg2 : RowAt F w g2 (strsD ks)) :
    Calls Tryz.prog 13 #[.agg #[.int .i64 k, .int .i64 n, .string s, .slice a1 l.length c1, .slice a2 ks.length c2], .agg #[.int .i64 k, .int .i64 n, .string s, .slice g1 l.length d1, .slice g2 ks.length d2]] w (PYes w) := by
  obtain ⟨h1, h2, h3, h4⟩ := alloc2 w (.cells #[.int .i64 k, .int .i64 n, .string s, .slice a1 l.length c1, .slice a2 ks.length c2] 37) (.cells #[.int .i64 k, .int .i64 n, .string s, .slice g1 l.length d1, .slice g2 ks.length d2] 37)
  have H0 := Lib.hid (And.intro h1 (And.intro h2 h3))
  have Hr := Lib.hid (And.intro hr1 hg1)
  have Hk := Lib.hid (And.intro hr2.strs hg2.strs)
  have Hit := Lib.hid hit
  have hf1 : (k != k) = false := by simp
  have hf2 : (n != n) = false := by simp
  clear h1 h2 h3 h4 hr1 hr2 hg1 hg2 hit
  go_enter Tryz.func13, Tryz.ntmps13
  go_wp2_with fail
  generalize World.alloc _ _ = W0 at H0 ⊢
  clear hf1 hf2
  go_loopw [47] (fun i wr => ∃ j q : Nat, i = .int .i64 j ∧ j ≤ ks.length ∧ wr = W0.drewN q) (fun i _ => ks.length - (intOf i).toNat)
  case atStart => exact ⟨0, 0, rfl, Nat.zero_le _, rfl⟩
  case round =>
    obtain ⟨j, q, rfl, hj, rfl⟩ := hrel
    obtain ⟨q0, q1, q2, q3, q4, q5, -⟩ := five_facts H0.out.1
    obtain ⟨p0, p1, p2, p3, p4, p5, -⟩ := five_facts H0.out.2.1
    by_cases hlt : j < ks.length
    · obtain ⟨b, off, rfl, hc⟩ := (Hk.out.1.below H0.out.2.2).at hlt
      obtain ⟨b', off', rfl, hc'⟩ := (Hk.out.2.below H0.out.2.2).at hlt
      generalize ks[j] = x at hc hc'
      go_wp2_with fail
      go_quiet (fail)
      go_wp2_with fail
      go_roundw
      case rel => exact ⟨j + 1, q + nq, by go_num, by omega, rfl⟩
      case measure => simp only [intOf]; omega
    · go_wp2_with fail
      clear q0 q1 q2 q3 q4 q5 p0 p1 p2 p3 p4 p5
      have H1 : Hid ((W0.drewN q).heap[w.heap.size]? = some (.cells #[.int .i64 k, .int .i64 n, .string s, .slice a1 l.length c1, .slice a2 ks.length c2] 37 (0, 0)) ∧ (W0.drewN q).heap[w.heap.size + 1]? = some (.cells #[.int .i64 k, .int .i64 n, .string s, .slice g1 l.length d1, .slice g2 ks.length d2] 37 (0, 0)) ∧ Below w.heap.size w (W0.drewN q)) := Lib.hid ⟨H0.out.1, H0.out.2.1, below_drewN H0.out.2.2 q⟩
      clear H0
      generalize W0.drewN q = W1 at H1 ⊢
      go_loopw [65] (fun i wr => ∃ j : Nat, i = .int .i64 j ∧ j ≤ l.length ∧ Hid (wr.heap[w.heap.size]? = some (.cells #[.int .i64 k, .int .i64 n, .string s, .slice a1 l.length c1, .slice a2 ks.length c2] 37 (0, 0)) ∧ wr.heap[w.heap.size + 1]? = some (.cells #[.int .i64 k, .int .i64 n, .string s, .slice g1 l.length d1, .slice g2 ks.length d2] 37 (0, 0)) ∧ Below w.heap.size w wr)) (fun i _ => l.length - (intOf i).toNat)
      case atStart => exact ⟨0, rfl, Nat.zero_le _, H1⟩
      case round =>
        clear hlt hj
        obtain ⟨i, rfl, hi, hst⟩ := hrel
        obtain ⟨q0, q1, q2, q3, q4, q5, -⟩ := five_facts hst.out.1
        obtain ⟨p0, p1, p2, p3, p4, p5, -⟩ := five_facts hst.out.2.1
        by_cases hlt2 : i < l.length
        · have hx0 : l[i]? = some l[i] := List.getElem?_eq_getElem hlt2
          generalize l[i] = x at hx0
          have HC := Lib.hid (Hit.out x (List.mem_of_getElem? hx0))
          obtain ⟨xk, xn, xs, xl, xks⟩ := x
          have hbd : Below wr.heap.size wr wr.drew := (Below.refl _ wr).drew
          have H2 := Lib.hid (And.intro (stays hst.out.1 hbd) (And.intro (stays hst.out.2.1 hbd) (hst.out.2.2.trans (hbd.mono hst.out.2.2.size))))
          obtain ⟨b, off, x1, e1, x2, e2, hae, -, hbl, r0, r1, r2, r3, r4, hs1, hs2⟩ := (Hr.out.1.below H2.out.2.2).val hx0
          obtain ⟨b', off', x3, e3, x4, e4, hae', -, hbl', t0, t1, t2, t3, t4, hs3, hs4⟩ := (Hr.out.2.below H2.out.2.2).val hx0
          subst hae
          subst hae'
          have HK := Lib.hid (HC.out F x1 e1 x2 e2 x3 e3 x4 e4 wr.drew hs1 hs2 hs3 hs4)
          clear hx0 HC hs1 hs2 hs3 hs4 hst hbd q0 q1 q2 q3 q4 q5 p0 p1 p2 p3 p4 p5
          go_wp2_with fail
          refine wp_region_turns (.s 0 (.s 1 (.s 2 (.s 3 (.s 4 (.s 5 (.s 6 (.s 7 (.s 8 (.s 9 (.h 10 (.s 11 .nil)))))))))))) 99 (fun W' => Below wr.drew.heap.size wr.drew W') (by kernel_rfl) (by kernel_rfl) (fun c a d v w h => by cases d <;> exact h) (Below.refl _ _) ?_
          generalize wr.drew = Wd at *
          refine turn_steady (.pointer (some ⟨w.heap.size, 3, none⟩)) rfl rfl (fun W' hS => ?_) ?_
          · obtain ⟨z0, z1, z2, z3, z4, z5, -⟩ := five_facts (stays H2.out.1 hS)
            clear hS
            go_simp
          try simp only [List.getElem_toArray, List.getElem_cons_zero, Act.put, List.setIfInBounds_toArray, List.set_cons_zero, List.set_cons_succ]
          refine turn_steady (.slice (some ⟨b, off, none⟩) l.length c1) rfl rfl (fun W' hS => ?_) ?_
          · obtain ⟨z0, z1, z2, z3, z4, z5, -⟩ := five_facts (stays H2.out.1 hS)
            clear hS
            go_simp
          try simp only [List.getElem_toArray, List.getElem_cons_succ, List.getElem_cons_zero, Act.put, List.setIfInBounds_toArray, List.set_cons_zero, List.set_cons_succ]
          refine turn_steady (.int .i64 i) rfl rfl (fun W' hS => ?_) ?_
          · go_simp
          try simp only [List.getElem_toArray, List.getElem_cons_succ, List.getElem_cons_zero, Act.put, List.setIfInBounds_toArray, List.set_cons_zero, List.set_cons_succ]
          refine turn_steady (.pointer (some ⟨b, off + i * 5, none⟩)) rfl rfl (fun W' hS => ?_) ?_
          · go_simp
          try simp only [List.getElem_toArray, List.getElem_cons_succ, List.getElem_cons_zero, Act.put, List.setIfInBounds_toArray, List.set_cons_zero, List.set_cons_succ]
          refine turn_steady (.agg #[.int .i64 xk, .int .i64 xn, .string xs, .slice x1 xl.length e1, .slice x2 xks.length e2]) rfl rfl (fun W' hS => ?_) ?_
          · have z0 := (hS.cell (p := ⟨b, off + i * 5, none⟩) hbl).trans r0
            have z1 := (hS.cell (p := ⟨b, off + i * 5 + 1, none⟩) hbl).trans r1
            have z2 := (hS.cell (p := ⟨b, off + i * 5 + 2, none⟩) hbl).trans r2
            have z3 := (hS.cell (p := ⟨b, off + i * 5 + 3, none⟩) hbl).trans r3
            have z4 := (hS.cell (p := ⟨b, off + i * 5 + 4, none⟩) hbl).trans r4
            clear hS
            go_simp
          try simp only [List.getElem_toArray, List.getElem_cons_succ, List.getElem_cons_zero, Act.put, List.setIfInBounds_toArray, List.set_cons_zero, List.set_cons_succ]
          refine turn_steady (.pointer (some ⟨w.heap.size + 1, 3, none⟩)) rfl rfl (fun W' hS => ?_) ?_
          · obtain ⟨z0, z1, z2, z3, z4, z5, -⟩ := five_facts (stays H2.out.2.1 hS)
            clear hS
            go_simp
          try simp only [List.getElem_toArray, List.getElem_cons_succ, List.getElem_cons_zero, Act.put, List.setIfInBounds_toArray, List.set_cons_zero, List.set_cons_succ]
          refine turn_steady (.slice (some ⟨b', off', none⟩) l.length d1) rfl rfl (fun W' hS => ?_) ?_
          · obtain ⟨z0, z1, z2, z3, z4, z5, -⟩ := five_facts (stays H2.out.2.1 hS)
            clear hS
            go_simp
          try simp only [List.getElem_toArray, List.getElem_cons_succ, List.getElem_cons_zero, Act.put, List.setIfInBounds_toArray, List.set_cons_zero, List.set_cons_succ]
          refine turn_steady (.int .i64 i) rfl rfl (fun W' hS => ?_) ?_
          · go_simp
          try simp only [List.getElem_toArray, List.getElem_cons_succ, List.getElem_cons_zero, Act.put, List.setIfInBounds_toArray, List.set_cons_zero, List.set_cons_succ]
          refine turn_steady (.pointer (some ⟨b', off' + i * 5, none⟩)) rfl rfl (fun W' hS => ?_) ?_
          · go_simp
          try simp only [List.getElem_toArray, List.getElem_cons_succ, List.getElem_cons_zero, Act.put, List.setIfInBounds_toArray, List.set_cons_zero, List.set_cons_succ]
          refine turn_steady (.agg #[.int .i64 xk, .int .i64 xn, .string xs, .slice x3 xl.length e3, .slice x4 xks.length e4]) rfl rfl (fun W' hS => ?_) ?_
          · have z0 := (hS.cell (p := ⟨b', off' + i * 5, none⟩) hbl').trans t0
            have z1 := (hS.cell (p := ⟨b', off' + i * 5 + 1, none⟩) hbl').trans t1
            have z2 := (hS.cell (p := ⟨b', off' + i * 5 + 2, none⟩) hbl').trans t2
            have z3 := (hS.cell (p := ⟨b', off' + i * 5 + 3, none⟩) hbl').trans t3
            have z4 := (hS.cell (p := ⟨b', off' + i * 5 + 4, none⟩) hbl').trans t4
            clear hS
            go_simp
          try simp only [List.getElem_toArray, List.getElem_cons_succ, List.getElem_cons_zero, Act.put, List.setIfInBounds_toArray, List.set_cons_zero, List.set_cons_succ]
          clear r0 r1 r2 r3 r4 t0 t1 t2 t3 t4
          refine turn_heavy rfl (fun K10 hK10 => ?_)
          go_wp2_with fail
          refine HK.out.mono ?_
          rintro e w2 ⟨rfl, hb2⟩
          have Hst2 := Lib.hid (And.intro (stays H2.out.1 hb2) (And.intro (stays H2.out.2.1 hb2) (H2.out.2.2.trans (hb2.mono H2.out.2.2.size))))
          have Hb2 := Lib.hid hb2
          clear hb2 H2 HK hbl hbl'
          go_wp2_with fail
          refine hK10 _ _ (fun _ => Hb2.out) ?_
          try simp only [List.getElem_toArray, List.getElem_cons_succ, List.getElem_cons_zero, Act.put, List.setIfInBounds_toArray, List.set_cons_zero, List.set_cons_succ]
          refine turn_steady (.bool false) rfl rfl (fun W' hS => ?_) ?_
          · go_simp
          try simp only [List.getElem_toArray, List.getElem_cons_succ, List.getElem_cons_zero, Act.put, List.setIfInBounds_toArray, List.set_cons_zero, List.set_cons_succ]
          refine turn_end ?_
          try simp only [List.getElem_toArray, List.getElem_cons_succ, List.getElem_cons_zero, Act.put, List.setIfInBounds_toArray, List.set_cons_zero, List.set_cons_succ]
          go_wp2_with fail
          go_roundw
          case rel => exact ⟨i + 1, by go_num, by omega, Hst2⟩
          case measure => simp only [intOf]; omega
        · go_wp2_with fail
          go_ret
          exact ⟨rfl, hst.out.2.2⟩
theorem same11_any (v : Vl) : smallV v → SameC v :=
  Vl.rec (motive_1 := fun v => smallV v → SameC v) (motive_2 := fun l => smallVs l → ∀ x ∈ l, SameC x)
    (fun k n s l ks ih h F a1 c1 a2 c2 g1 d1 g2 d2 w hr1 hr2 hg1 hg2 => by rw [smallV] at h; exact same_node k n s l ks h.2.1 h.2.2.1 (ih h.2.2.2.2) F a1 c1 a2 c2 g1 d1 g2 d2 w hr1 hr2 hg1 hg2)
    (fun _ x hx => by cases hx)
    (fun v t hv ht h x hx => by
      rw [smallVs] at h
      rcases List.mem_cons.1 hx with rfl | hx
      · exact hv h.1
      · exact ht h.2 x hx) v
end Go.Proofs.YthknljeffpbbmaaGreatDoor
