/-
  What a declaration makes of a rule, in plain words; the order of its values plays no part. No program in sight.
  Attributes and labels in memory.
  The walk of rules.named: which of some attributes has a name.
  The walk of rules.fits.
  The walk of rules.may: may a rule's attributes be?
  Plain law: the values of a target fit their attributes' types, one that wasn't given is the default, and they stand by rising names. No program in sight.
  Plain law: what is sorted by an order in which two alike are one is THE sorted row: of labels, and of values whose names differ. No program in sight.
  The chapter's example "rule copy(src: files) {}", in plain words: its tree; neither name is taken.
  Plain law: what a target holds of its rule: its values fit, given or default, by rising names; its label stands in its package; a declaration that may not be makes none. No program in sight.
-/
import Derived.Test.YthknljeffpbbmaaGreatDoorMEvQ
import Derived.Test.YthknljeffpbbmaaGreatDoorMTaken
import Derived.Test.YthknljeffpbbmaaGreatDoorMSame0
import Derived.Test.YthknljeffpbbmaaGreatDoorMPathMay
import Derived.Test.YthknljeffpbbmaaGreatDoorMHeldSkip
import Derived.Test.YthknljeffpbbmaaGreatDoorMParseBal
namespace Go.Proofs.YthknljeffpbbmaaGreatDoor
open Go Go.RowKit

structure AttrP where
  name : ByteArray
  type : Int
  must : Bool
  dflt : Vl

def sameB (a b : ByteArray) : Bool := a.data.toList == b.data.toList
def idxA (l : List AttrP) (s : ByteArray) : Option Nat := l.findIdx? fun a => sameB a.name s
/-- Does a value fit a type? -/
def fitsV (t : Int) (v : Vl) : Bool := checkV v && (if t = 1 then v.kind == 3 else if t = 2 then v.kind == 1 else if t = 3 then v.kind == 2 else if t = 4 ∨ t = 5 ∨ t = 6 then (textsL v).isSome else false)

/-- The values given, by their attributes' numbers. -/
abbrev GM := Nat → Option Vl
def gPut (m : GM) (i : Nat) (v : Vl) : GM := fun k => if k = i then some v else m k
def gStep (l : List AttrP) (m : GM) (x : ByteArray × Vl) : Except Int GM :=
  if x.1.data.toList = [] then .error 3
  else match idxA l x.1 with
    | none => .error 7
    | some i => if (m i).isSome then .error 8 else if (l[i]?).any (fun a => fitsV a.type x.2) then .ok (gPut m i x.2) else .error 9
def gGo (l : List AttrP) : List (ByteArray × Vl) → GM → Except Int GM
  | [], m => .ok m
  | x :: t, m => match gStep l m x with | .error e => .error e | .ok m' => gGo l t m'
/-- Each attribute's value: what is given, or the default. -/
def gVals (m : GM) : Nat → List AttrP → List Vl
  | _, [] => []
  | i, a :: t => (m i).getD a.dflt :: gVals m (i + 1) t
def gLack (m : GM) : Nat → List AttrP → Bool
  | _, [] => false
  | i, a :: t => (a.must && (m i).isNone) || gLack m (i + 1) t
def givenL (l : List AttrP) (args : List (ByteArray × Vl)) : Except Int (List Vl) :=
  match gGo l args (fun _ => none) with
  | .error e => .error e
  | .ok m => if gLack m 0 l then .error 10 else .ok (gVals m 0 l)

theorem gPut_comm (m : GM) {i j : Nat} (h : i ≠ j) (v u : Vl) : gPut (gPut m i v) j u = gPut (gPut m j u) i v := by
  funext k
  unfold gPut
  by_cases h1 : k = j
  · subst h1; simp [Ne.symm h]
  · simp [h1]
theorem gStep_ok {l : List AttrP} {m m' : GM} {x : ByteArray × Vl} (h : gStep l m x = .ok m') : x.1.data.toList ≠ [] ∧ ∃ i, idxA l x.1 = some i ∧ m i = none ∧ (l[i]?).any (fun a => fitsV a.type x.2) = true ∧ m' = gPut m i x.2 := by
  unfold gStep at h
  split at h
  · cases h
  · rename_i hne
    split at h
    · cases h
    · rename_i i hi
      split at h
      · cases h
      · rename_i hs
        split at h
        · rename_i hf
          cases h
          exact ⟨hne, i, hi, by cases hmi : m i with | none => rfl | some v => rw [hmi] at hs; exact absurd rfl hs, hf, rfl⟩
        · cases h
theorem gStep_mk {l : List AttrP} {m : GM} {x : ByteArray × Vl} {i : Nat} (hne : x.1.data.toList ≠ []) (hi : idxA l x.1 = some i) (hm : m i = none) (hf : (l[i]?).any (fun a => fitsV a.type x.2) = true) : gStep l m x = .ok (gPut m i x.2) := by
  unfold gStep
  rw [if_neg hne, hi]
  simp only [hm, Option.isSome_none, Bool.false_eq_true, if_false, hf, if_true]
/-- In whatever order they are given. -/
theorem gGo_perm {l : List AttrP} {a b : List (ByteArray × Vl)} (hp : a.Perm b) : ∀ {m m' : GM}, gGo l a m = .ok m' → gGo l b m = .ok m' := by
  induction hp with
  | nil => exact fun h => h
  | cons x _ ih =>
    intro m m' h
    rw [gGo] at h ⊢
    cases hs : gStep l m x with
    | error e => rw [hs] at h; cases h
    | ok m1 => rw [hs] at h; exact ih h
  | swap x y t =>
    intro m m' h
    rw [gGo] at h
    cases hs : gStep l m y with
    | error e => rw [hs] at h; cases h
    | ok m1 =>
      rw [hs] at h
      simp only [gGo] at h
      cases hs2 : gStep l m1 x with
      | error e => rw [hs2] at h; cases h
      | ok m2 =>
        rw [hs2] at h
        obtain ⟨a1, i, a2, a3, a4, rfl⟩ := gStep_ok hs
        obtain ⟨b1, j, b2, b3, b4, rfl⟩ := gStep_ok hs2
        have hij : j ≠ i := by
          rintro rfl
          simp [gPut] at b3
        have b3' : m j = none := by simpa [gPut, hij] using b3
        have s1 := gStep_mk (m := m) b1 b2 b3' b4
        have s2 := gStep_mk (m := gPut m j x.2) a1 a2 (by simpa [gPut, Ne.symm hij] using a3) a4
        rw [gGo, s1]
        simp only [gGo, s2]
        rw [gPut_comm m hij]
        exact h
  | trans _ _ ih1 ih2 => exact fun h => ih2 (ih1 h)
theorem givenL_perm {l : List AttrP} {a b : List (ByteArray × Vl)} (hp : a.Perm b) : (∃ vs, givenL l a = .ok vs ∧ givenL l b = .ok vs) ∨ ((∃ e, givenL l a = .error e) ∧ ∃ e, givenL l b = .error e) := by
  unfold givenL
  cases ha : gGo l a (fun _ => none) with
  | ok m =>
    rw [gGo_perm hp ha]
    simp only
    by_cases hl : gLack m 0 l = true
    · right; simp [hl]
    · left; simp [hl]
  | error e =>
    right
    refine ⟨⟨e, rfl⟩, ?_⟩
    cases hb : gGo l b (fun _ => none) with
    | error e' => exact ⟨e', rfl⟩
    | ok m => rw [gGo_perm hp.symm hb] at ha; cases ha

/-- The labels among an attribute's items. -/
def leanGo (t : Int) (pkg : List UInt8) : List (List UInt8) → Except Int (List LabelP)
  | [] => .ok []
  | s :: r =>
    if t = 5 ∧ s.head? ≠ some 58 ∧ s.take 2 ≠ [47, 47] then
      match pathJoin pkg s with | .error e => .error e | .ok _ => leanGo t pkg r
    else match labelRead s pkg with
      | .error e => .error e
      | .ok x => match leanGo t pkg r with | .error e => .error e | .ok l => .ok (x :: l)
def leansL (a : AttrP) (v : Vl) (pkg : List UInt8) : Except Int (List LabelP) :=
  if a.type ≠ 5 ∧ a.type ≠ 6 then .ok [] else leanGo a.type pkg (((textsL v).getD []).map (·.data.toList))
def leansAll (pkg : List UInt8) : List (AttrP × Vl) → Except Int (List LabelP)
  | [] => .ok []
  | p :: r => match leansL p.1 p.2 pkg with
    | .error e => .error e
    | .ok l => match leansAll pkg r with | .error e => .error e | .ok m => .ok (l ++ m)
def labelLe (a b : LabelP) : Bool := decide (a.pkg < b.pkg) || (a.pkg == b.pkg && decide (a.name ≤ b.name))
def dedup : List LabelP → List LabelP
  | [] => []
  | [x] => [x]
  | x :: y :: t => if x.pkg = y.pkg ∧ x.name = y.name then dedup (y :: t) else x :: dedup (y :: t)
structure TargetP where
  label : LabelP
  rule : ByteArray
  vals : List (ByteArray × Vl)
  deps : List LabelP
  seen : List ByteArray
/-- May a rule's attributes be? -/
def mayGo (ahead : List AttrP) (i : Nat) : List AttrP → Bool
  | [] => true
  | a :: t => (idxA ahead a.name).isNone && (i == 0 || !isTakenL a.name.data.toList) && decide (1 ≤ a.type) && decide (a.type ≤ 6) && (if a.must then sameV a.dflt vZero else fitsV a.type a.dflt) && mayGo (ahead ++ [a]) (i + 1) t
def mayAttrs (l : List AttrP) : Bool :=
  (match l with
    | a :: b :: _ => a.name.data.toList == [110, 97, 109, 101] && a.type == 1 && a.must && b.name.data.toList == [115, 101, 101, 110] && b.type == 4 && !b.must
    | _ => false) && mayGo [] 0 l
def leName (p q : ByteArray × Vl) : Bool := decide (p.1.data.toList ≤ q.1.data.toList)
/-- The target that a declaration makes. -/
def bindL (rule : ByteArray) (l : List AttrP) (args : List (ByteArray × Vl)) (pkg : List UInt8) : Except Int TargetP :=
  if !mayAttrs l || (!pkg.isEmpty && !pathOk pkg) then .error 1
  else match givenL l args with
    | .error e => .error e
    | .ok vs => match labelRead (58 :: ((vs.headD vZero).str.data.toList)) pkg with
      | .error _ => .error 7
      | .ok x => match leansAll pkg (l.zip vs) with
        | .error e => .error e
        | .ok deps => .ok ⟨x, rule, ((l.zip vs).map fun p => (p.1.name, p.2)).mergeSort leName, dedup (deps.mergeSort labelLe), (textsL ((vs[1]?).getD vZero)).getD []⟩
theorem bindL_perm (rule : ByteArray) (l : List AttrP) {a b : List (ByteArray × Vl)} (pkg : List UInt8) (hp : a.Perm b) : bindL rule l a pkg = bindL rule l b pkg ∨ ((∃ e, bindL rule l a pkg = .error e) ∧ ∃ e, bindL rule l b pkg = .error e) := by
  unfold bindL
  split
  · exact .inl rfl
  · rcases givenL_perm (l := l) hp with ⟨vs, h1, h2⟩ | ⟨⟨e, h1⟩, e', h2⟩
    · left; rw [h1, h2]
    · right; rw [h1, h2]; exact ⟨⟨e, rfl⟩, e', rfl⟩
end Go.Proofs.YthknljeffpbbmaaGreatDoor
namespace Go.Proofs.YthknljeffpbbmaaGreatDoor
open Go Go.RowKit

def attrD (a : AttrP) : List Dat := .one (.string a.name) :: .one (.int .i64 a.type) :: .one (.bool a.must) :: valD a.dflt
def attrsD (l : List AttrP) : List (List Dat) := l.map attrD
theorem attrD_len (a : AttrP) : (attrD a).length = 8 := by simp [attrD, valD_len]
theorem attrsD_len (l : List AttrP) : (attrsD l).length = l.length := by simp [attrsD]
def labelD (x : ByteArray × ByteArray) : List Dat := [.one (.string x.1), .one (.string x.2)]
def labelsD (l : List (ByteArray × ByteArray)) : List (List Dat) := l.map labelD
theorem labelD_len (x : ByteArray × ByteArray) : (labelD x).length = 2 := rfl
theorem labelsD_len (l : List (ByteArray × ByteArray)) : (labelsD l).length = l.length := by simp [labelsD]
theorem labelsD_append (l m : List (ByteArray × ByteArray)) : labelsD (l ++ m) = labelsD l ++ labelsD m := by simp [labelsD]

section
variable {F : Nat → Prop} {w : World}
theorem AggAt.attr {nm : ByteArray} {ty : Int} {mu : Bool} {k n : Int} {s : ByteArray} {l : List Vl} {ks : List ByteArray} {cs : List Value} (h : AggAt F w (attrD ⟨nm, ty, mu, .mk k n s l ks⟩) cs) :
    ∃ a c a' c', cs = [.string nm, .int .i64 ty, .bool mu, .int .i64 k, .int .i64 n, .string s, .slice a l.length c, .slice a' ks.length c'] ∧ RowAt F w a (valsD l) ∧ RowAt F w a' (strsD ks) := by
  obtain ⟨c0, cs0, rfl, h0, g1⟩ := AggAt.cons_inv (d := .one (.string nm)) (ds := .one (.int .i64 ty) :: .one (.bool mu) :: valD (.mk k n s l ks)) h
  obtain ⟨c1, cs1, rfl, h1, g2⟩ := g1.cons_inv
  obtain ⟨c2, cs2, rfl, h2, g3⟩ := g2.cons_inv
  obtain rfl := h0.one_inv
  obtain rfl := h1.one_inv
  obtain rfl := h2.one_inv
  obtain ⟨a, c, a', c', rfl, h1, h2⟩ := AggAt.val g3
  exact ⟨a, c, a', c', rfl, h1, h2⟩
theorem AggAt.attr_mk (nm : ByteArray) (ty : Int) (mu : Bool) (k n : Int) (s : ByteArray) {l : List Vl} {ks : List ByteArray} {a a' : Option Addr} (c c' : Nat) (h : RowAt F w a (valsD l)) (h' : RowAt F w a' (strsD ks)) :
    AggAt F w (attrD ⟨nm, ty, mu, .mk k n s l ks⟩) [.string nm, .int .i64 ty, .bool mu, .int .i64 k, .int .i64 n, .string s, .slice a l.length c, .slice a' ks.length c'] :=
  .cons (.one _) (.cons (.one _) (.cons (.one _) (AggAt.val_mk k n s c c' h h')))
/-- An attribute among others. -/
theorem RowAt.attr {a : Option Addr} {l : List AttrP} (h : RowAt F w a (attrsD l)) {j : Nat} {nm : ByteArray} {ty : Int} {mu : Bool} {k n : Int} {s : ByteArray} {m : List Vl} {ks : List ByteArray} (hj : l[j]? = some ⟨nm, ty, mu, .mk k n s m ks⟩) :
    ∃ b off a1 c1 a2 c2, a = some ⟨b, off, none⟩ ∧ F b ∧ b < w.heap.size ∧ w.cell? ⟨b, off + j * 8, none⟩ = some (.string nm) ∧ w.cell? ⟨b, off + j * 8 + 1, none⟩ = some (.int .i64 ty) ∧ w.cell? ⟨b, off + j * 8 + 2, none⟩ = some (.bool mu) ∧
      w.cell? ⟨b, off + j * 8 + 3, none⟩ = some (.int .i64 k) ∧ w.cell? ⟨b, off + j * 8 + 4, none⟩ = some (.int .i64 n) ∧ w.cell? ⟨b, off + j * 8 + 5, none⟩ = some (.string s) ∧
      w.cell? ⟨b, off + j * 8 + 6, none⟩ = some (.slice a1 m.length c1) ∧ w.cell? ⟨b, off + j * 8 + 7, none⟩ = some (.slice a2 ks.length c2) ∧ RowAt F w a1 (valsD m) ∧ RowAt F w a2 (strsD ks) := by
  obtain ⟨b, off, cs, ha, hF, hb, hd, hc⟩ := h j (attrD ⟨nm, ty, mu, .mk k n s m ks⟩) (by rw [attrsD, List.getElem?_map, hj]; rfl)
  obtain ⟨a1, c1, a2, c2, rfl, hr, hr'⟩ := AggAt.attr hd
  rw [attrD_len] at hc
  exact ⟨b, off, a1, c1, a2, c2, ha, hF, hb, hc 0 _ rfl, hc 1 _ rfl, hc 2 _ rfl, hc 3 _ rfl, hc 4 _ rfl, hc 5 _ rfl, hc 6 _ rfl, hc 7 _ rfl, hr, hr'⟩
theorem AggAt.label {x : ByteArray × ByteArray} {cs : List Value} (h : AggAt F w (labelD x) cs) : cs = [.string x.1, .string x.2] := by
  obtain ⟨c0, cs0, rfl, h0, g1⟩ := h.cons_inv
  obtain ⟨c1, cs1, rfl, h1, g2⟩ := g1.cons_inv
  obtain rfl := g2.nil_inv
  rw [h0.one_inv, h1.one_inv]
theorem AggAt.label_mk (x : ByteArray × ByteArray) : AggAt F w (labelD x) [.string x.1, .string x.2] := .cons (.one _) (.cons (.one _) .nil)
/-- A label among others. -/
theorem RowAt.label {a : Option Addr} {l : List (ByteArray × ByteArray)} (h : RowAt F w a (labelsD l)) {j : Nat} {p n : ByteArray} (hj : l[j]? = some (p, n)) :
    ∃ b off, a = some ⟨b, off, none⟩ ∧ F b ∧ b < w.heap.size ∧ w.cell? ⟨b, off + j * 2, none⟩ = some (.string p) ∧ w.cell? ⟨b, off + j * 2 + 1, none⟩ = some (.string n) := by
  obtain ⟨b, off, cs, ha, hF, hb, hd, hc⟩ := h j (labelD (p, n)) (by rw [labelsD, List.getElem?_map, hj]; rfl)
  rw [AggAt.label hd] at hc
  rw [labelD_len] at hc
  exact ⟨b, off, ha, hF, hb, hc 0 _ rfl, hc 1 _ rfl⟩
end
end Go.Proofs.YthknljeffpbbmaaGreatDoor
namespace Go.Proofs.YthknljeffpbbmaaGreatDoor
open Go Go.RowKit

def idxI (l : List AttrP) (s : ByteArray) : Int := match idxA l s with | some i => (i : Int) | none => -1
theorem idxI_none {l : List AttrP} {s : ByteArray} (h : ∀ (j : Nat) (a : AttrP), l[j]? = some a → sameB a.name s = false) : idxI l s = -1 := by
  have : idxA l s = none := by
    unfold idxA
    rw [List.findIdx?_eq_none_iff]
    intro x hx
    obtain ⟨j, hj⟩ := List.getElem?_of_mem hx
    exact h j x hj
  unfold idxI
  rw [this]
theorem idxI_some {l : List AttrP} {s : ByteArray} {k : Nat} {a : AttrP} (hk : l[k]? = some a) (ha : sameB a.name s = true) (h : ∀ (j : Nat) (a : AttrP), j < k → l[j]? = some a → sameB a.name s = false) : idxI l s = k := by
  have : idxA l s = some k := by
    unfold idxA
    rw [List.findIdx?_eq_some_iff_getElem]
    obtain ⟨h1, h2⟩ := List.getElem?_eq_some_iff.1 hk
    refine ⟨h1, by rw [h2]; exact ha, fun j hj => ?_⟩
    have := h j _ hj (List.getElem?_eq_getElem (Nat.lt_trans hj h1))
    simpa using this
  unfold idxI
  rw [this]
set_option maxRecDepth 100000 in
set_option maxHeartbeats 1000000 in
theorem named1_any (nm : ByteArray) (ty : Int) (mu : Bool) (k n : Int) (s : ByteArray) (a1 : Option Addr) (l1 c1 : Nat) (a2 : Option Addr) (l2 c2 : Nat) (name : ByteArray) (bn : Nat) (w : World) (hn : w.heap[bn]? = some (.cells #[.string name] 9 (0, 0))) :
    Calls Tryz.prog 63 #[.agg #[.string nm, .int .i64 ty, .bool mu, .int .i64 k, .int .i64 n, .string s, .slice a1 l1 c1, .slice a2 l2 c2], .pointer (some ⟨bn, 0, none⟩)] w (fun e w' => e = .returned (.bool (sameB nm name)) ∧ Below w.heap.size w w') := by
  have H : Hid (sameB nm name = (nm.toList == name.toList)) := Lib.hid (by unfold sameB; rw [Lib.toList_data, Lib.toList_data])
  obtain ⟨s0, s1⟩ := one_facts hn
  clear hn
  go_enter Tryz.func63, Tryz.ntmps63
  go_wp2_with fail
  go_ret
  exact ⟨ret_bool H.out.symm, (Below.refl _ w).alloc (Nat.le_refl _) _⟩

set_option maxRecDepth 100000 in
set_option maxHeartbeats 1000000 in
theorem indexAttrs_any (F : Nat → Prop) (a : Option Addr) (cap : Nat) (l : List AttrP) (name : ByteArray) (bn : Nat) (w : World) (hl : l.length ≤ 140737488355328) (hr : RowAt F w a (attrsD l)) (hn : w.heap[bn]? = some (.cells #[.string name] 9 (0, 0))) :
    Calls Tryz.prog 62 #[.slice a l.length cap, .func (.func 63) #[] #[.pointer (some ⟨bn, 0, none⟩)]] w (fun e w' => e = .returned (.int .i64 (idxI l name)) ∧ Below w.heap.size w w') := by
  have eg : ∀ args w, (callFunc 63 args).run Tryz.prog w = .ok (.enter 63 args) w := enters_of Tryz.func63 (by kernel_rfl) rfl
  have Hr := Lib.hid hr
  have Hn := Lib.hid hn
  clear hr hn
  go_enter Tryz.func62, Tryz.ntmps62
  go_wp2
  go_loopw [8] (fun i wr => ∃ k : Nat, i = .int .i64 k ∧ k ≤ l.length ∧ Hid (Below w.heap.size w wr) ∧ Hid (∀ (j : Nat) (a : AttrP), j < k → l[j]? = some a → sameB a.name name = false)) (fun i _ => l.length - (intOf i).toNat)
  case atStart => exact ⟨0, rfl, Nat.zero_le _, Lib.hid (Below.refl _ _), Lib.hid fun j a h => absurd h (Nat.not_lt_zero _)⟩
  case round =>
    obtain ⟨k, rfl, hk, hb, hq⟩ := hrel
    by_cases hlt : k < l.length
    · have hj0 : l[k]? = some l[k] := List.getElem?_eq_getElem hlt
      generalize l[k] = x at hj0
      obtain ⟨nm, ty, mu, ⟨vk, vn, vs, vl, vks⟩⟩ := x
      obtain ⟨b, off, a1, c1, a2, c2, rfl, hF, hbl, r0, r1, r2, r3, r4, r5, r6, r7, -, -⟩ := (Hr.out.below hb.out).attr hj0
      have HC := Lib.hid (named1_any nm ty mu vk vn vs a1 vl.length c1 a2 vks.length c2 name bn wr (stays Hn.out hb.out))
      have Hj := Lib.hid hj0
      clear hj0
      cases hs : sameB nm name
      · have Hs := Lib.hid hs
        rw [hs] at HC
        clear hs
        go_wp2_with fail
        refine HC.out.mono ?_
        rintro e w2 ⟨rfl, hb2⟩
        have Hb2 := Lib.hid (hb.out.trans (hb2.mono hb.out.size))
        have Hq2 : Hid (∀ (j : Nat) (a : AttrP), j < k + 1 → l[j]? = some a → sameB a.name name = false) := Lib.hid (by
          intro j a hj hja
          by_cases h : j = k
          · subst h
            rw [Hj.out] at hja
            cases hja
            exact Hs.out
          · exact hq.out j a (by omega) hja)
        clear r0 r1 r2 r3 r4 r5 r6 r7 hb2
        go_wp2
        go_roundw
        case rel => exact ⟨k + 1, by go_num, by omega, Hb2, Hq2⟩
        case measure => simp only [intOf]; omega
      · have Hs := Lib.hid hs
        rw [hs] at HC
        clear hs
        go_wp2_with fail
        refine HC.out.mono ?_
        rintro e w2 ⟨rfl, hb2⟩
        have Hb2 := Lib.hid (hb.out.trans (hb2.mono hb.out.size))
        clear r0 r1 r2 r3 r4 r5 r6 r7 hb2
        go_wp2
        go_ret
        exact ⟨ret_int (idxI_some Hj.out Hs.out hq.out).symm, Hb2.out⟩
    · obtain rfl : k = l.length := by omega
      go_wp2
      go_ret
      exact ⟨ret_int (idxI_none fun j a hj => hq.out j a (List.getElem?_eq_some_iff.1 hj).1 hj).symm, hb.out⟩

set_option maxRecDepth 100000 in
set_option maxHeartbeats 1000000 in
theorem named_any (F : Nat → Prop) (a : Option Addr) (cap : Nat) (l : List AttrP) (name : ByteArray) (w : World) (hl : l.length ≤ 140737488355328) (hr : RowAt F w a (attrsD l)) :
    Calls Tryz.prog 36 #[.slice a l.length cap, .string name] w (fun e w' => e = .returned (.int .i64 (idxI l name)) ∧ Below w.heap.size w w') := by
  have hb0 : Below w.heap.size w (w.alloc (.cells #[.string name] 9)) := (Below.refl _ w).alloc (Nat.le_refl _) _
  have HC := Lib.hid (indexAttrs_any F a cap l name w.heap.size _ hl (hr.below hb0) (heap_alloc_new w (.cells #[.string name] 9)))
  have Hb0 := Lib.hid hb0
  clear hr hb0
  go_enter Tryz.func36, Tryz.ntmps36
  go_wp2_with fail
  refine HC.out.mono ?_
  rintro e w1 ⟨rfl, hb1⟩
  have Hb1 := Lib.hid (Hb0.out.trans (hb1.mono Hb0.out.size))
  clear hb1
  go_wp2_with fail
  go_ret
  exact ⟨rfl, Hb1.out⟩
end Go.Proofs.YthknljeffpbbmaaGreatDoor
namespace Go.Proofs.YthknljeffpbbmaaGreatDoor
open Go Go.RowKit

set_option maxRecDepth 100000 in
set_option maxHeartbeats 2000000 in
theorem fits_any (t : Int) (k n : Int) (s : ByteArray) (l : List Vl) (ks : List ByteArray) (hs : smallV (.mk k n s l ks)) (F : Nat → Prop) (a1 : Option Addr) (c1 : Nat) (a2 : Option Addr) (c2 : Nat) (w : World) (hF : ∀ b, F b → b < w.heap.size) (hr1 : RowAt F w a1 (valsD l)) (hr2 : RowAt F w a2 (strsD ks)) :
    Calls Tryz.prog 39 #[.int .i64 t, .agg #[.int .i64 k, .int .i64 n, .string s, .slice a1 l.length c1, .slice a2 ks.length c2]] w (PBelow (fitsV t (.mk k n s l ks)) w) := by
  have hb0 : Below w.heap.size w (w.alloc (.cells #[.int .i64 k, .int .i64 n, .string s, .slice a1 l.length c1, .slice a2 ks.length c2] 37)) := (Below.refl _ w).alloc (Nat.le_refl _) _
  have H0 := Lib.hid (heap_alloc_new w (.cells #[.int .i64 k, .int .i64 n, .string s, .slice a1 l.length c1, .slice a2 ks.length c2] 37))
  have Hck := Lib.hid (check_any (.mk k n s l ks) hs F a1 c1 a2 c2 _ (fun b hb => Nat.lt_of_lt_of_le (hF b hb) hb0.size) (hr1.below hb0) (hr2.below hb0))
  have Hb0 := Lib.hid hb0
  have HF := Lib.hid hF
  have Hr1 := Lib.hid (hr1.below hb0)
  have Hr2 := Lib.hid (hr2.below hb0)
  have Hs := Lib.hid hs
  unfold vCells at Hck
  have hfv : fitsV t (.mk k n s l ks) = (checkV (.mk k n s l ks) && (if t = 1 then k == 3 else if t = 2 then k == 1 else if t = 3 then k == 2 else if t = 4 ∨ t = 5 ∨ t = 6 then (textsL (.mk k n s l ks)).isSome else false)) := rfl
  clear hs hF hr1 hr2 hb0
  cases hck : checkV (.mk k n s l ks) with
  | false =>
    rw [hck, Bool.false_and] at hfv
    have Hf := Lib.hid hfv
    rw [hck] at Hck
    clear hck hfv
    go_enter Tryz.func39, Tryz.ntmps39
    go_wp2_with fail
    refine Hck.out.mono ?_
    rintro e w1 ⟨rfl, hb1⟩
    have Hb1 := Lib.hid (Hb0.out.trans (hb1.mono Hb0.out.size))
    clear hb1
    go_wp2_with fail
    go_ret
    exact ⟨ret_bool Hf.out.symm, Hb1.out⟩
  | true =>
    rw [hck, Bool.true_and] at hfv
    rw [hck] at Hck
    clear hck
    by_cases h1 : t = 1
    · subst h1
      rw [if_pos rfl] at hfv
      have Hf := Lib.hid hfv
      clear hfv
      go_enter Tryz.func39, Tryz.ntmps39
      go_wp2_with fail
      refine Hck.out.mono ?_
      rintro e w1 ⟨rfl, hb1⟩
      have Hb1 := Lib.hid (Hb0.out.trans (hb1.mono Hb0.out.size))
      have H1 := Lib.hid (stays H0.out hb1)
      have Ht := Lib.hid (texts_any k n s l ks Hs.out F a1 c1 a2 c2 w1 (fun b hb => Nat.lt_of_lt_of_le (HF.out b hb) Hb1.out.size) (Hr1.out.below hb1) (Hr2.out.below hb1))
      clear hb1 H0 Hb0 Hr1 Hr2 Hck
      obtain ⟨q0, q1, q2, q3, q4, q5, q6, q7, q8, q9, q10⟩ := five_facts H1.out
      go_wp2_with fail
      go_ret
      exact ⟨ret_bool Hf.out.symm, Hb1.out⟩
    by_cases h2 : t = 2
    · subst h2
      clear h1
      rw [if_neg (by decide), if_pos rfl] at hfv
      have Hf := Lib.hid hfv
      clear hfv
      go_enter Tryz.func39, Tryz.ntmps39
      go_wp2_with fail
      refine Hck.out.mono ?_
      rintro e w1 ⟨rfl, hb1⟩
      have Hb1 := Lib.hid (Hb0.out.trans (hb1.mono Hb0.out.size))
      have H1 := Lib.hid (stays H0.out hb1)
      have Ht := Lib.hid (texts_any k n s l ks Hs.out F a1 c1 a2 c2 w1 (fun b hb => Nat.lt_of_lt_of_le (HF.out b hb) Hb1.out.size) (Hr1.out.below hb1) (Hr2.out.below hb1))
      clear hb1 H0 Hb0 Hr1 Hr2 Hck
      obtain ⟨q0, q1, q2, q3, q4, q5, q6, q7, q8, q9, q10⟩ := five_facts H1.out
      go_wp2_with fail
      go_ret
      exact ⟨ret_bool Hf.out.symm, Hb1.out⟩
    by_cases h3 : t = 3
    · subst h3
      clear h1
      clear h2
      rw [if_neg (by decide), if_neg (by decide), if_pos rfl] at hfv
      have Hf := Lib.hid hfv
      clear hfv
      go_enter Tryz.func39, Tryz.ntmps39
      go_wp2_with fail
      refine Hck.out.mono ?_
      rintro e w1 ⟨rfl, hb1⟩
      have Hb1 := Lib.hid (Hb0.out.trans (hb1.mono Hb0.out.size))
      have H1 := Lib.hid (stays H0.out hb1)
      have Ht := Lib.hid (texts_any k n s l ks Hs.out F a1 c1 a2 c2 w1 (fun b hb => Nat.lt_of_lt_of_le (HF.out b hb) Hb1.out.size) (Hr1.out.below hb1) (Hr2.out.below hb1))
      clear hb1 H0 Hb0 Hr1 Hr2 Hck
      obtain ⟨q0, q1, q2, q3, q4, q5, q6, q7, q8, q9, q10⟩ := five_facts H1.out
      go_wp2_with fail
      go_ret
      exact ⟨ret_bool Hf.out.symm, Hb1.out⟩
    rw [if_neg h1, if_neg h2, if_neg h3] at hfv
    by_cases h4 : t = 4
    · subst h4
      clear h1 h2 h3
      rw [if_pos (by decide)] at hfv
      have Hf := Lib.hid hfv
      clear hfv
      go_enter Tryz.func39, Tryz.ntmps39
      go_wp2_with fail
      refine Hck.out.mono ?_
      rintro e w1 ⟨rfl, hb1⟩
      have Hb1 := Lib.hid (Hb0.out.trans (hb1.mono Hb0.out.size))
      have H1 := Lib.hid (stays H0.out hb1)
      have Ht := Lib.hid (texts_any k n s l ks Hs.out F a1 c1 a2 c2 w1 (fun b hb => Nat.lt_of_lt_of_le (HF.out b hb) Hb1.out.size) (Hr1.out.below hb1) (Hr2.out.below hb1))
      clear hb1 H0 Hb0 Hr1 Hr2 Hck
      obtain ⟨q0, q1, q2, q3, q4, q5, q6, q7, q8, q9, q10⟩ := five_facts H1.out
      go_wp2_with fail
      refine Ht.out.mono ?_
      rintro e w2 ⟨hb2, hq⟩
      have Hb2 := Lib.hid (Hb1.out.trans (hb2.mono Hb1.out.size))
      clear hb2 q0 q1 q2 q3 q4 q5 q6 q7 q8 q9 q10
      cases hx : textsL (.mk k n s l ks) with
      | none =>
        rw [hx] at hq Hf
        obtain rfl := hq
        clear hx
        go_wp2_with fail
        go_ret
        exact ⟨ret_bool Hf.out.symm, Hb2.out⟩
      | some l2 =>
        rw [hx] at hq Hf
        obtain ⟨x, rfl, -⟩ := hq
        clear hx
        go_wp2_with fail
        go_ret
        exact ⟨ret_bool Hf.out.symm, Hb2.out⟩
    by_cases h5 : t = 5
    · subst h5
      clear h1 h2 h3 h4
      rw [if_pos (by decide)] at hfv
      have Hf := Lib.hid hfv
      clear hfv
      go_enter Tryz.func39, Tryz.ntmps39
      go_wp2_with fail
      refine Hck.out.mono ?_
      rintro e w1 ⟨rfl, hb1⟩
      have Hb1 := Lib.hid (Hb0.out.trans (hb1.mono Hb0.out.size))
      have H1 := Lib.hid (stays H0.out hb1)
      have Ht := Lib.hid (texts_any k n s l ks Hs.out F a1 c1 a2 c2 w1 (fun b hb => Nat.lt_of_lt_of_le (HF.out b hb) Hb1.out.size) (Hr1.out.below hb1) (Hr2.out.below hb1))
      clear hb1 H0 Hb0 Hr1 Hr2 Hck
      obtain ⟨q0, q1, q2, q3, q4, q5, q6, q7, q8, q9, q10⟩ := five_facts H1.out
      go_wp2_with fail
      refine Ht.out.mono ?_
      rintro e w2 ⟨hb2, hq⟩
      have Hb2 := Lib.hid (Hb1.out.trans (hb2.mono Hb1.out.size))
      clear hb2 q0 q1 q2 q3 q4 q5 q6 q7 q8 q9 q10
      cases hx : textsL (.mk k n s l ks) with
      | none =>
        rw [hx] at hq Hf
        obtain rfl := hq
        clear hx
        go_wp2_with fail
        go_ret
        exact ⟨ret_bool Hf.out.symm, Hb2.out⟩
      | some l2 =>
        rw [hx] at hq Hf
        obtain ⟨x, rfl, -⟩ := hq
        clear hx
        go_wp2_with fail
        go_ret
        exact ⟨ret_bool Hf.out.symm, Hb2.out⟩
    by_cases h6 : t = 6
    · subst h6
      clear h1 h2 h3 h4 h5
      rw [if_pos (by decide)] at hfv
      have Hf := Lib.hid hfv
      clear hfv
      go_enter Tryz.func39, Tryz.ntmps39
      go_wp2_with fail
      refine Hck.out.mono ?_
      rintro e w1 ⟨rfl, hb1⟩
      have Hb1 := Lib.hid (Hb0.out.trans (hb1.mono Hb0.out.size))
      have H1 := Lib.hid (stays H0.out hb1)
      have Ht := Lib.hid (texts_any k n s l ks Hs.out F a1 c1 a2 c2 w1 (fun b hb => Nat.lt_of_lt_of_le (HF.out b hb) Hb1.out.size) (Hr1.out.below hb1) (Hr2.out.below hb1))
      clear hb1 H0 Hb0 Hr1 Hr2 Hck
      obtain ⟨q0, q1, q2, q3, q4, q5, q6, q7, q8, q9, q10⟩ := five_facts H1.out
      go_wp2_with fail
      refine Ht.out.mono ?_
      rintro e w2 ⟨hb2, hq⟩
      have Hb2 := Lib.hid (Hb1.out.trans (hb2.mono Hb1.out.size))
      clear hb2 q0 q1 q2 q3 q4 q5 q6 q7 q8 q9 q10
      cases hx : textsL (.mk k n s l ks) with
      | none =>
        rw [hx] at hq Hf
        obtain rfl := hq
        clear hx
        go_wp2_with fail
        go_ret
        exact ⟨ret_bool Hf.out.symm, Hb2.out⟩
      | some l2 =>
        rw [hx] at hq Hf
        obtain ⟨x, rfl, -⟩ := hq
        clear hx
        go_wp2_with fail
        go_ret
        exact ⟨ret_bool Hf.out.symm, Hb2.out⟩
    · rw [if_neg (by rintro (h | h | h); exact h4 h; exact h5 h; exact h6 h)] at hfv
      have Hf := Lib.hid hfv
      clear hfv
      have e1 : (t == 1) = false := by simpa using h1
      have e2 : (t == 2) = false := by simpa using h2
      have e3 : (t == 3) = false := by simpa using h3
      have e4 : (t == 4) = false := by simpa using h4
      have e5 : (t == 5) = false := by simpa using h5
      have e6 : (t == 6) = false := by simpa using h6
      go_enter Tryz.func39, Tryz.ntmps39
      go_wp2_with fail
      refine Hck.out.mono ?_
      rintro e w1 ⟨rfl, hb1⟩
      have Hb1 := Lib.hid (Hb0.out.trans (hb1.mono Hb0.out.size))
      have H1 := Lib.hid (stays H0.out hb1)
      have Ht := Lib.hid (texts_any k n s l ks Hs.out F a1 c1 a2 c2 w1 (fun b hb => Nat.lt_of_lt_of_le (HF.out b hb) Hb1.out.size) (Hr1.out.below hb1) (Hr2.out.below hb1))
      clear hb1 H0 Hb0 Hr1 Hr2 Hck
      obtain ⟨q0, q1, q2, q3, q4, q5, q6, q7, q8, q9, q10⟩ := five_facts H1.out
      go_wp2_with fail
      go_ret
      exact ⟨ret_bool Hf.out.symm, Hb1.out⟩

end Go.Proofs.YthknljeffpbbmaaGreatDoor
namespace Go.Proofs.YthknljeffpbbmaaGreatDoor
open Go Go.RowKit

theorem mayAttrs_few {l : List AttrP} (h : l.length < 2) : mayAttrs l = false := by
  match l, h with
  | [], _ => rfl
  | [x], _ => rfl
theorem mayAttrs_head {l : List AttrP} {x y : AttrP} (hx : l[0]? = some x) (hy : l[1]? = some y) :
    mayAttrs l = ((x.name.data.toList == [110, 97, 109, 101] && x.type == 1 && x.must && y.name.data.toList == [115, 101, 101, 110] && y.type == 4 && !y.must) && mayGo [] 0 l) := by
  match l, hx, hy with
  | [], h, _ => cases h
  | [x], _, h => cases h
  | a :: b :: t, h1, h2 => cases h1; cases h2; rfl
theorem mayGo_step {l : List AttrP} {j : Nat} {x : AttrP} (hx : l[j]? = some x) : mayGo (l.take j) j (l.drop j) =
    ((idxA (l.take j) x.name).isNone && (j == 0 || !isTakenL x.name.data.toList) && decide (1 ≤ x.type) && decide (x.type ≤ 6) && (if x.must then sameV x.dflt vZero else fitsV x.type x.dflt) && mayGo (l.take (j + 1)) (j + 1) (l.drop (j + 1))) := by
  obtain ⟨h1, h2⟩ := List.getElem?_eq_some_iff.1 hx
  rw [List.drop_eq_getElem_cons h1, h2, mayGo, List.take_add_one, hx]
  rfl

theorem row_take {F : Nat → Prop} {w : World} {a : Option Addr} {l : List AttrP} (h : RowAt F w a (attrsD l)) (j : Nat) : RowAt F w a (attrsD (l.take j)) := by
  intro i ds hi
  refine h i ds ?_
  rw [attrsD, List.getElem?_map] at hi ⊢
  by_cases hij : i < j
  · rw [List.getElem?_take_of_lt hij] at hi; exact hi
  · rw [List.getElem?_eq_none (by rw [List.length_take]; omega)] at hi; cases hi
theorem a8_facts {w : World} {b : Nat} {c0 c1 c2 c3 c4 c5 c6 c7 : Value} {t : TypeId} (h : w.heap[b]? = some (.cells #[c0, c1, c2, c3, c4, c5, c6, c7] t (0, 0))) : b < w.heap.size ∧ w.cell? ⟨b, 0, none⟩ = some c0 ∧ w.cell? ⟨b, 1, none⟩ = some c1 ∧ w.cell? ⟨b, 2, none⟩ = some c2 := by
  obtain ⟨h1, h2, -⟩ := block_facts h
  exact ⟨h1, h2 0, h2 1, h2 2⟩
theorem a8_rest {w : World} {b : Nat} {c0 c1 c2 c3 c4 c5 c6 c7 : Value} {t : TypeId} (h : w.heap[b]? = some (.cells #[c0, c1, c2, c3, c4, c5, c6, c7] t (0, 0))) : w.cell? ⟨b, 3, none⟩ = some c3 ∧ w.cell? ⟨b, 4, none⟩ = some c4 ∧ w.cell? ⟨b, 5, none⟩ = some c5 ∧ w.cell? ⟨b, 6, none⟩ = some c6 ∧ w.cell? ⟨b, 7, none⟩ = some c7 := by
  obtain ⟨-, h2, -⟩ := block_facts h
  exact ⟨h2 3, h2 4, h2 5, h2 6, h2 7⟩

set_option maxRecDepth 100000 in
set_option maxHeartbeats 8000000 in
theorem rmay_any (F : Nat → Prop) (a : Option Addr) (cap : Nat) (l : List AttrP) (w : World) (hw : StdB w) (hl : l.length ≤ 1000) (hcap : l.length ≤ cap) (hn : ∀ x ∈ l, x.name.size < 4294967000) (hs : ∀ x ∈ l, smallV x.dflt) (hF : ∀ b, F b → b < w.heap.size) (hr : RowAt F w a (attrsD l)) :
    Calls Tryz.prog 16 #[.slice a l.length cap] w (PBelow (mayAttrs l) w) := by
  by_cases h2 : l.length < 2
  · have Hf := Lib.hid (mayAttrs_few h2)
    clear hr hs hn
    have h2' : ((l.length : Int) < 2) := by omega
    go_enter Tryz.func16, Tryz.ntmps16
    go_wp2_with fail
    go_ret
    exact ⟨ret_bool Hf.out.symm, Below.refl _ _⟩
  have h2' : ¬ ((l.length : Int) < 2) := by omega
  have hx0 : l[0]? = some (l[0]'(by omega)) := List.getElem?_eq_getElem _
  have hy0 : l[1]? = some (l[1]'(by omega)) := List.getElem?_eq_getElem _
  generalize l[0]'(by omega) = x at hx0
  generalize l[1]'(by omega) = y at hy0
  have hh := mayAttrs_head hx0 hy0
  obtain ⟨nm, ty, mu, ⟨vk, vn, vs, vl, vks⟩⟩ := x
  obtain ⟨nm', ty', mu', ⟨vk', vn', vs', vl', vks'⟩⟩ := y
  obtain ⟨b, off, a1, c1, a2, c2, rfl, -, hbl, r0, r1, r2, -, -, -, -, -, -, -⟩ := hr.attr hx0
  obtain ⟨b', off', a1', c1', a2', c2', hbe, -, -, s0, s1, s2, -, -, -, -, -, -, -⟩ := hr.attr hy0
  cases hbe
  simp only [Nat.zero_mul, Nat.add_zero, Nat.one_mul] at r0 r1 r2 s0 s1 s2
  have Hr := Lib.hid hr
  have Hn := Lib.hid hn
  have Hs := Lib.hid hs
  have Hw := Lib.hid hw
  have HF := Lib.hid hF
  clear hr hn hs hx0 hy0 hw hF
  have hlen1 : (0 : Int) < (l.length : Int) := by omega
  have hlen2 : (1 : Int) < (l.length : Int) := by omega
  by_cases e1 : nm.data.toList = [110, 97, 109, 101]
  case neg =>
    have Hf : Hid (mayAttrs l = false) := Lib.hid (by rw [hh]; simp [e1])
    have e1' : (nm.toList == [110, 97, 109, 101]) = false := by rw [Lib.toList_data]; simpa using e1
    clear hh e1
    go_enter Tryz.func16, Tryz.ntmps16
    go_wp2_with fail
    go_ret
    exact ⟨ret_bool Hf.out.symm, Below.refl _ _⟩
  obtain rfl : nm = ⟨#[110, 97, 109, 101]⟩ := bytes_ext e1
  clear e1
  by_cases e2 : ty = 1
  case neg =>
    have Hf : Hid (mayAttrs l = false) := Lib.hid (by rw [hh]; simp [e2])
    have e2' : (ty != 1) = true := by simpa using e2
    clear hh
    go_enter Tryz.func16, Tryz.ntmps16
    go_wp2_with fail
    go_ret
    exact ⟨ret_bool Hf.out.symm, Below.refl _ _⟩
  subst e2
  cases mu with
  | false =>
    have Hf : Hid (mayAttrs l = false) := Lib.hid (by rw [hh]; simp)
    clear hh
    go_enter Tryz.func16, Tryz.ntmps16
    go_wp2_with fail
    go_ret
    exact ⟨ret_bool Hf.out.symm, Below.refl _ _⟩
  | true =>
  by_cases e1 : nm'.data.toList = [115, 101, 101, 110]
  case neg =>
    have Hf : Hid (mayAttrs l = false) := Lib.hid (by rw [hh]; simp [e1])
    have e1' : (nm'.toList == [115, 101, 101, 110]) = false := by rw [Lib.toList_data]; simpa using e1
    clear hh e1
    go_enter Tryz.func16, Tryz.ntmps16
    go_wp2_with fail
    go_ret
    exact ⟨ret_bool Hf.out.symm, Below.refl _ _⟩
  obtain rfl : nm' = ⟨#[115, 101, 101, 110]⟩ := bytes_ext e1
  clear e1
  by_cases e2 : ty' = 4
  case neg =>
    have Hf : Hid (mayAttrs l = false) := Lib.hid (by rw [hh]; simp [e2])
    have e2' : (ty' != 4) = true := by simpa using e2
    clear hh
    go_enter Tryz.func16, Tryz.ntmps16
    go_wp2_with fail
    go_ret
    exact ⟨ret_bool Hf.out.symm, Below.refl _ _⟩
  subst e2
  cases mu' with
  | true =>
    have Hf : Hid (mayAttrs l = false) := Lib.hid (by rw [hh]; simp)
    clear hh
    go_enter Tryz.func16, Tryz.ntmps16
    go_wp2_with fail
    go_ret
    exact ⟨ret_bool Hf.out.symm, Below.refl _ _⟩
  | false =>
  have Hh : Hid (mayAttrs l = mayGo [] 0 l) := Lib.hid (by rw [hh]; simp)
  clear hh
  go_enter Tryz.func16, Tryz.ntmps16
  go_wp2_with fail
  clear r0 r1 r2 s0 s1 s2
  go_loopw [51] (fun i wr => ∃ j : Nat, i = .int .i64 j ∧ j ≤ l.length ∧ Hid (Below w.heap.size w wr) ∧ Hid (mayAttrs l = mayGo (l.take j) j (l.drop j))) (fun i _ => l.length - (intOf i).toNat)
  case atStart => exact ⟨0, rfl, Nat.zero_le _, Lib.hid (Below.refl _ _), Hh⟩
  case round =>
    obtain ⟨j, rfl, hj, hb, hg⟩ := hrel
    by_cases hlt : j < l.length
    · have hj0 : l[j]? = some l[j] := List.getElem?_eq_getElem hlt
      generalize l[j] = x at hj0
      obtain ⟨nm, ty, mu, ⟨vk, vn, vs, vl, vks⟩⟩ := x
      have hgs := mayGo_step hj0
      have Hg : Hid (mayAttrs l = _) := Lib.hid (hg.out.trans hgs)
      clear hgs hg
      have hnz := Hn.out _ (List.mem_of_getElem? hj0)
      have Hsz := Lib.hid (Hs.out _ (List.mem_of_getElem? hj0))
      obtain ⟨b0, off0, a1, c1, a2, c2, hae, hF, hbl, r0, r1, r2, r3, r4, r5, r6, r7, hra, hrb⟩ := (Hr.out.below hb.out).attr hj0
      cases hae
      clear hj0 hF
      simp only at hnz Hsz
      have hba : Below wr.heap.size wr (wr.alloc (.cells #[.string nm, .int .i64 ty, .bool mu, .int .i64 vk, .int .i64 vn, .string vs, .slice a1 vl.length c1, .slice a2 vks.length c2] 55)).drew := ((Below.refl _ wr).alloc (Nat.le_refl _) _).drew
      have hx : (wr.alloc (.cells #[.string nm, .int .i64 ty, .bool mu, .int .i64 vk, .int .i64 vn, .string vs, .slice a1 vl.length c1, .slice a2 vks.length c2] 55)).drew.heap[wr.heap.size]? = some (.cells #[.string nm, .int .i64 ty, .bool mu, .int .i64 vk, .int .i64 vn, .string vs, .slice a1 vl.length c1, .slice a2 vks.length c2] 55 (0, 0)) := heap_alloc_new wr _
      have H1 := Lib.hid (And.intro hx (hb.out.trans (hba.mono hb.out.size)))
      have Hrow : Hid (RowAt F (wr.alloc (.cells #[.string nm, .int .i64 ty, .bool mu, .int .i64 vk, .int .i64 vn, .string vs, .slice a1 vl.length c1, .slice a2 vks.length c2] 55)).drew (some ⟨b, off, none⟩) (attrsD (l.take j))) := Lib.hid (row_take ((Hr.out.below hb.out).below hba) j)
      have Hvr := Lib.hid (And.intro (hra.below hba) (hrb.below hba))
      have hlj : (l.take j).length = j := by rw [List.length_take]; omega
      have hnamed := fun W h => named_any F (some ⟨b, off, none⟩) cap (l.take j) nm W (by rw [hlj]; omega) h
      rw [hlj] at hnamed
      have HN := Lib.hid hnamed
      clear hx hba hlj hnamed hra hrb
      go_wp2_with fail
      refine wp_region_turns (.s 0 (.s 1 (.s 2 (.s 3 (.s 4 (.h 5 (.s 6 (.s 7 (.s 8 (.s 9 (.s 10 (.s 11 (.s 12 (.h 13 (.s 14 (.s 15 (.s 16 (.s 17 (.s 18 (.s 19 (.s 20 (.s 21 (.s 22 (.s 23 (.s 24 (.s 25 .nil)))))))))))))))))))))))))) 99 (fun W' => W'.heap[wr.heap.size]? = some (.cells #[.string nm, .int .i64 ty, .bool mu, .int .i64 vk, .int .i64 vn, .string vs, .slice a1 vl.length c1, .slice a2 vks.length c2] 55 (0, 0))) (by kernel_rfl) (by kernel_rfl) (fun c a d v w h => by cases d <;> exact h) H1.out.1 ?_
      generalize World.drew _ = Wd at H1 Hrow Hvr ⊢
      have hszd : wr.heap.size < Wd.heap.size := here H1.out.1
      have hjc : ¬ cap < j := by omega
      have hjc' : j ≤ cap := by omega
      clear r0 r1 r2 r3 r4 r5 r6 r7
      refine turn_steady (.slice (some ⟨b, off, none⟩) l.length cap) rfl rfl (fun W' hS => ?_) ?_
      · go_simp
      try simp only [List.getElem_toArray, List.getElem_cons_zero, Act.put, List.setIfInBounds_toArray, List.set_cons_zero, List.set_cons_succ]
      refine turn_steady (.int .i64 j) rfl rfl (fun W' hS => ?_) ?_
      · go_simp
      try simp only [List.getElem_toArray, List.getElem_cons_succ, List.getElem_cons_zero, Act.put, List.setIfInBounds_toArray, List.set_cons_zero, List.set_cons_succ]
      refine turn_steady (.slice (some ⟨b, off, none⟩) j cap) rfl rfl (fun W' hS => ?_) ?_
      · go_simp
      try simp only [List.getElem_toArray, List.getElem_cons_succ, List.getElem_cons_zero, Act.put, List.setIfInBounds_toArray, List.set_cons_zero, List.set_cons_succ]
      refine turn_steady (.pointer (some ⟨wr.heap.size, 0, none⟩)) rfl rfl (fun W' hS => ?_) ?_
      · go_simp
      try simp only [List.getElem_toArray, List.getElem_cons_succ, List.getElem_cons_zero, Act.put, List.setIfInBounds_toArray, List.set_cons_zero, List.set_cons_succ]
      refine turn_steady (.string nm) rfl rfl (fun W' hS => ?_) ?_
      · obtain ⟨z0, z1, z2, z3⟩ := a8_facts hS
        clear hS
        go_simp
      try simp only [List.getElem_toArray, List.getElem_cons_succ, List.getElem_cons_zero, Act.put, List.setIfInBounds_toArray, List.set_cons_zero, List.set_cons_succ]
      refine turn_heavy rfl (fun K5 hK5 => ?_)
      go_wp2_with fail
      refine (HN.out _ Hrow.out).mono ?_
      rintro e w2 ⟨rfl, hb2⟩
      have H2 := Lib.hid (And.intro (stays H1.out.1 hb2) (H1.out.2.trans (hb2.mono H1.out.2.size)))
      have Hvr2 := Lib.hid (And.intro (Hvr.out.1.below hb2) (Hvr.out.2.below hb2))
      clear hb2 H1 Hrow Hvr HN
      go_wp2_with fail
      refine hK5 _ _ (fun _ => H2.out.1) ?_
      try simp only [List.getElem_toArray, List.getElem_cons_succ, List.getElem_cons_zero, Act.put, List.setIfInBounds_toArray, List.set_cons_zero, List.set_cons_succ]
      cases hi : idxA (l.take j) nm with
      | some i =>
        have e : idxI (l.take j) nm = (i : Int) := by unfold idxI; rw [hi]
        rw [e]
        have Hi := Lib.hid hi
        have h0i : (0 : Int) ≤ (i : Int) := by omega
        clear e hi
        refine turn_steady (.bool true) rfl rfl (fun W' hS => ?_) ?_
        · go_simp
        try simp only [List.getElem_toArray, List.getElem_cons_succ, List.getElem_cons_zero, Act.put, List.setIfInBounds_toArray, List.set_cons_zero, List.set_cons_succ]
        refine turn_steady (.bool true) rfl rfl (fun W' hS => ?_) ?_
        · go_simp
        try simp only [List.getElem_toArray, List.getElem_cons_succ, List.getElem_cons_zero, Act.put, List.setIfInBounds_toArray, List.set_cons_zero, List.set_cons_succ]
        refine turn_skip rfl rfl ?_
        try simp only [List.getElem_toArray, List.getElem_cons_succ, List.getElem_cons_zero, Act.put, List.setIfInBounds_toArray, List.set_cons_zero, List.set_cons_succ]
        refine turn_skip rfl rfl ?_
        try simp only [List.getElem_toArray, List.getElem_cons_succ, List.getElem_cons_zero, Act.put, List.setIfInBounds_toArray, List.set_cons_zero, List.set_cons_succ]
        refine turn_skip rfl rfl ?_
        try simp only [List.getElem_toArray, List.getElem_cons_succ, List.getElem_cons_zero, Act.put, List.setIfInBounds_toArray, List.set_cons_zero, List.set_cons_succ]
        refine turn_skip rfl rfl ?_
        try simp only [List.getElem_toArray, List.getElem_cons_succ, List.getElem_cons_zero, Act.put, List.setIfInBounds_toArray, List.set_cons_zero, List.set_cons_succ]
        refine turn_skip rfl rfl ?_
        try simp only [List.getElem_toArray, List.getElem_cons_succ, List.getElem_cons_zero, Act.put, List.setIfInBounds_toArray, List.set_cons_zero, List.set_cons_succ]
        refine turn_hskip rfl rfl (fun _ => H2.out.1) ?_
        try simp only [List.getElem_toArray, List.getElem_cons_succ, List.getElem_cons_zero, Act.put, List.setIfInBounds_toArray, List.set_cons_zero, List.set_cons_succ]
        refine turn_skip rfl rfl ?_
        try simp only [List.getElem_toArray, List.getElem_cons_succ, List.getElem_cons_zero, Act.put, List.setIfInBounds_toArray, List.set_cons_zero, List.set_cons_succ]
        refine turn_steady (.bool true) rfl rfl (fun W' hS => ?_) ?_
        · go_simp
        try simp only [List.getElem_toArray, List.getElem_cons_succ, List.getElem_cons_zero, Act.put, List.setIfInBounds_toArray, List.set_cons_zero, List.set_cons_succ]
        refine turn_steady (.bool true) rfl rfl (fun W' hS => ?_) ?_
        · go_simp
        try simp only [List.getElem_toArray, List.getElem_cons_succ, List.getElem_cons_zero, Act.put, List.setIfInBounds_toArray, List.set_cons_zero, List.set_cons_succ]
        refine turn_skip rfl rfl ?_
        try simp only [List.getElem_toArray, List.getElem_cons_succ, List.getElem_cons_zero, Act.put, List.setIfInBounds_toArray, List.set_cons_zero, List.set_cons_succ]
        refine turn_skip rfl rfl ?_
        try simp only [List.getElem_toArray, List.getElem_cons_succ, List.getElem_cons_zero, Act.put, List.setIfInBounds_toArray, List.set_cons_zero, List.set_cons_succ]
        refine turn_skip rfl rfl ?_
        try simp only [List.getElem_toArray, List.getElem_cons_succ, List.getElem_cons_zero, Act.put, List.setIfInBounds_toArray, List.set_cons_zero, List.set_cons_succ]
        refine turn_steady (.bool true) rfl rfl (fun W' hS => ?_) ?_
        · go_simp
        try simp only [List.getElem_toArray, List.getElem_cons_succ, List.getElem_cons_zero, Act.put, List.setIfInBounds_toArray, List.set_cons_zero, List.set_cons_succ]
        refine turn_steady (.bool true) rfl rfl (fun W' hS => ?_) ?_
        · go_simp
        try simp only [List.getElem_toArray, List.getElem_cons_succ, List.getElem_cons_zero, Act.put, List.setIfInBounds_toArray, List.set_cons_zero, List.set_cons_succ]
        refine turn_skip rfl rfl ?_
        try simp only [List.getElem_toArray, List.getElem_cons_succ, List.getElem_cons_zero, Act.put, List.setIfInBounds_toArray, List.set_cons_zero, List.set_cons_succ]
        refine turn_skip rfl rfl ?_
        try simp only [List.getElem_toArray, List.getElem_cons_succ, List.getElem_cons_zero, Act.put, List.setIfInBounds_toArray, List.set_cons_zero, List.set_cons_succ]
        refine turn_skip rfl rfl ?_
        try simp only [List.getElem_toArray, List.getElem_cons_succ, List.getElem_cons_zero, Act.put, List.setIfInBounds_toArray, List.set_cons_zero, List.set_cons_succ]
        refine turn_steady (.bool true) rfl rfl (fun W' hS => ?_) ?_
        · go_simp
        try simp only [List.getElem_toArray, List.getElem_cons_succ, List.getElem_cons_zero, Act.put, List.setIfInBounds_toArray, List.set_cons_zero, List.set_cons_succ]
        refine turn_end ?_
        try simp only [List.getElem_toArray, List.getElem_cons_succ, List.getElem_cons_zero, Act.put, List.setIfInBounds_toArray, List.set_cons_zero, List.set_cons_succ]
        go_wp2_with fail
        go_ret
        exact ⟨ret_bool (show false = mayAttrs l from by rw [Hg.out, Hi.out]; rfl), H2.out.2⟩
      | none =>
        have e : idxI (l.take j) nm = -1 := by unfold idxI; rw [hi]
        rw [e]
        have Hi := Lib.hid hi
        clear e hi
        refine turn_steady (.bool false) rfl rfl (fun W' hS => ?_) ?_
        · go_simp
        try simp only [List.getElem_toArray, List.getElem_cons_succ, List.getElem_cons_zero, Act.put, List.setIfInBounds_toArray, List.set_cons_zero, List.set_cons_succ]
        refine turn_steady (.bool false) rfl rfl (fun W' hS => ?_) ?_
        · go_simp
        try simp only [List.getElem_toArray, List.getElem_cons_succ, List.getElem_cons_zero, Act.put, List.setIfInBounds_toArray, List.set_cons_zero, List.set_cons_succ]
        refine turn_steady (.int .i64 j) rfl rfl (fun W' hS => ?_) ?_
        · go_simp
        try simp only [List.getElem_toArray, List.getElem_cons_succ, List.getElem_cons_zero, Act.put, List.setIfInBounds_toArray, List.set_cons_zero, List.set_cons_succ]
        by_cases hjp : j = 0
        · have hjp' : ¬ ((0 : Int) < (j : Int)) := by omega
          have Hg2 : Hid (mayAttrs l = (decide (1 ≤ ty) && decide (ty ≤ 6) && (if mu = true then sameV (.mk vk vn vs vl vks) vZero else fitsV ty (.mk vk vn vs vl vks)) && mayGo (l.take (j + 1)) (j + 1) (l.drop (j + 1)))) := Lib.hid (by rw [Hg.out, Hi.out, hjp]; rfl)
          refine turn_steady (.bool false) rfl rfl (fun W' hS => ?_) ?_
          · go_simp
          try simp only [List.getElem_toArray, List.getElem_cons_succ, List.getElem_cons_zero, Act.put, List.setIfInBounds_toArray, List.set_cons_zero, List.set_cons_succ]
          refine turn_steady (.bool false) rfl rfl (fun W' hS => ?_) ?_
          · go_simp
          try simp only [List.getElem_toArray, List.getElem_cons_succ, List.getElem_cons_zero, Act.put, List.setIfInBounds_toArray, List.set_cons_zero, List.set_cons_succ]
          refine turn_skip rfl rfl ?_
          try simp only [List.getElem_toArray, List.getElem_cons_succ, List.getElem_cons_zero, Act.put, List.setIfInBounds_toArray, List.set_cons_zero, List.set_cons_succ]
          refine turn_skip rfl rfl ?_
          try simp only [List.getElem_toArray, List.getElem_cons_succ, List.getElem_cons_zero, Act.put, List.setIfInBounds_toArray, List.set_cons_zero, List.set_cons_succ]
          refine turn_hskip rfl rfl (fun _ => H2.out.1) ?_
          try simp only [List.getElem_toArray, List.getElem_cons_succ, List.getElem_cons_zero, Act.put, List.setIfInBounds_toArray, List.set_cons_zero, List.set_cons_succ]
          refine turn_steady (.bool false) rfl rfl (fun W' hS => ?_) ?_
          · go_simp
          try simp only [List.getElem_toArray, List.getElem_cons_succ, List.getElem_cons_zero, Act.put, List.setIfInBounds_toArray, List.set_cons_zero, List.set_cons_succ]
          refine turn_steady (.bool false) rfl rfl (fun W' hS => ?_) ?_
          · go_simp
          try simp only [List.getElem_toArray, List.getElem_cons_succ, List.getElem_cons_zero, Act.put, List.setIfInBounds_toArray, List.set_cons_zero, List.set_cons_succ]
          refine turn_steady (.bool false) rfl rfl (fun W' hS => ?_) ?_
          · go_simp
          try simp only [List.getElem_toArray, List.getElem_cons_succ, List.getElem_cons_zero, Act.put, List.setIfInBounds_toArray, List.set_cons_zero, List.set_cons_succ]
          by_cases hlo : ty < 1
          · have Hf : Hid (mayAttrs l = false) := Lib.hid (by rw [Hg2.out, decide_eq_false (show ¬ 1 ≤ ty by omega)]; rfl)
            refine turn_steady (.pointer (some ⟨wr.heap.size, 1, none⟩)) rfl rfl (fun W' hS => ?_) ?_
            · go_simp
            try simp only [List.getElem_toArray, List.getElem_cons_succ, List.getElem_cons_zero, Act.put, List.setIfInBounds_toArray, List.set_cons_zero, List.set_cons_succ]
            refine turn_steady (.int .i64 ty) rfl rfl (fun W' hS => ?_) ?_
            · obtain ⟨z0, z1, z2, z3⟩ := a8_facts hS
              clear hS
              go_simp
            try simp only [List.getElem_toArray, List.getElem_cons_succ, List.getElem_cons_zero, Act.put, List.setIfInBounds_toArray, List.set_cons_zero, List.set_cons_succ]
            refine turn_steady (.bool true) rfl rfl (fun W' hS => ?_) ?_
            · go_simp
            try simp only [List.getElem_toArray, List.getElem_cons_succ, List.getElem_cons_zero, Act.put, List.setIfInBounds_toArray, List.set_cons_zero, List.set_cons_succ]
            refine turn_steady (.bool true) rfl rfl (fun W' hS => ?_) ?_
            · go_simp
            try simp only [List.getElem_toArray, List.getElem_cons_succ, List.getElem_cons_zero, Act.put, List.setIfInBounds_toArray, List.set_cons_zero, List.set_cons_succ]
            refine turn_steady (.bool true) rfl rfl (fun W' hS => ?_) ?_
            · go_simp
            try simp only [List.getElem_toArray, List.getElem_cons_succ, List.getElem_cons_zero, Act.put, List.setIfInBounds_toArray, List.set_cons_zero, List.set_cons_succ]
            refine turn_skip rfl rfl ?_
            try simp only [List.getElem_toArray, List.getElem_cons_succ, List.getElem_cons_zero, Act.put, List.setIfInBounds_toArray, List.set_cons_zero, List.set_cons_succ]
            refine turn_skip rfl rfl ?_
            try simp only [List.getElem_toArray, List.getElem_cons_succ, List.getElem_cons_zero, Act.put, List.setIfInBounds_toArray, List.set_cons_zero, List.set_cons_succ]
            refine turn_skip rfl rfl ?_
            try simp only [List.getElem_toArray, List.getElem_cons_succ, List.getElem_cons_zero, Act.put, List.setIfInBounds_toArray, List.set_cons_zero, List.set_cons_succ]
            refine turn_steady (.bool true) rfl rfl (fun W' hS => ?_) ?_
            · go_simp
            try simp only [List.getElem_toArray, List.getElem_cons_succ, List.getElem_cons_zero, Act.put, List.setIfInBounds_toArray, List.set_cons_zero, List.set_cons_succ]
            refine turn_end ?_
            try simp only [List.getElem_toArray, List.getElem_cons_succ, List.getElem_cons_zero, Act.put, List.setIfInBounds_toArray, List.set_cons_zero, List.set_cons_succ]
            go_wp2_with fail
            go_ret
            exact ⟨ret_bool Hf.out.symm, H2.out.2⟩
          refine turn_steady (.pointer (some ⟨wr.heap.size, 1, none⟩)) rfl rfl (fun W' hS => ?_) ?_
          · go_simp
          try simp only [List.getElem_toArray, List.getElem_cons_succ, List.getElem_cons_zero, Act.put, List.setIfInBounds_toArray, List.set_cons_zero, List.set_cons_succ]
          refine turn_steady (.int .i64 ty) rfl rfl (fun W' hS => ?_) ?_
          · obtain ⟨z0, z1, z2, z3⟩ := a8_facts hS
            clear hS
            go_simp
          try simp only [List.getElem_toArray, List.getElem_cons_succ, List.getElem_cons_zero, Act.put, List.setIfInBounds_toArray, List.set_cons_zero, List.set_cons_succ]
          refine turn_steady (.bool false) rfl rfl (fun W' hS => ?_) ?_
          · go_simp
          try simp only [List.getElem_toArray, List.getElem_cons_succ, List.getElem_cons_zero, Act.put, List.setIfInBounds_toArray, List.set_cons_zero, List.set_cons_succ]
          refine turn_steady (.bool false) rfl rfl (fun W' hS => ?_) ?_
          · go_simp
          try simp only [List.getElem_toArray, List.getElem_cons_succ, List.getElem_cons_zero, Act.put, List.setIfInBounds_toArray, List.set_cons_zero, List.set_cons_succ]
          refine turn_steady (.bool false) rfl rfl (fun W' hS => ?_) ?_
          · go_simp
          try simp only [List.getElem_toArray, List.getElem_cons_succ, List.getElem_cons_zero, Act.put, List.setIfInBounds_toArray, List.set_cons_zero, List.set_cons_succ]
          by_cases hhi : 6 < ty
          · have Hf : Hid (mayAttrs l = false) := Lib.hid (by rw [Hg2.out, decide_eq_false (show ¬ ty ≤ 6 by omega), Bool.and_false]; rfl)
            refine turn_steady (.pointer (some ⟨wr.heap.size, 1, none⟩)) rfl rfl (fun W' hS => ?_) ?_
            · go_simp
            try simp only [List.getElem_toArray, List.getElem_cons_succ, List.getElem_cons_zero, Act.put, List.setIfInBounds_toArray, List.set_cons_zero, List.set_cons_succ]
            refine turn_steady (.int .i64 ty) rfl rfl (fun W' hS => ?_) ?_
            · obtain ⟨z0, z1, z2, z3⟩ := a8_facts hS
              clear hS
              go_simp
            try simp only [List.getElem_toArray, List.getElem_cons_succ, List.getElem_cons_zero, Act.put, List.setIfInBounds_toArray, List.set_cons_zero, List.set_cons_succ]
            refine turn_steady (.bool true) rfl rfl (fun W' hS => ?_) ?_
            · go_simp
            try simp only [List.getElem_toArray, List.getElem_cons_succ, List.getElem_cons_zero, Act.put, List.setIfInBounds_toArray, List.set_cons_zero, List.set_cons_succ]
            refine turn_steady (.bool true) rfl rfl (fun W' hS => ?_) ?_
            · go_simp
            try simp only [List.getElem_toArray, List.getElem_cons_succ, List.getElem_cons_zero, Act.put, List.setIfInBounds_toArray, List.set_cons_zero, List.set_cons_succ]
            refine turn_end ?_
            try simp only [List.getElem_toArray, List.getElem_cons_succ, List.getElem_cons_zero, Act.put, List.setIfInBounds_toArray, List.set_cons_zero, List.set_cons_succ]
            go_wp2_with fail
            go_ret
            exact ⟨ret_bool Hf.out.symm, H2.out.2⟩
          have Hg3 : Hid (mayAttrs l = ((if mu = true then sameV (.mk vk vn vs vl vks) vZero else fitsV ty (.mk vk vn vs vl vks)) && mayGo (l.take (j + 1)) (j + 1) (l.drop (j + 1)))) := Lib.hid (by rw [Hg2.out, decide_eq_true (show 1 ≤ ty by omega), decide_eq_true (show ty ≤ 6 by omega)]; rfl)
          refine turn_steady (.pointer (some ⟨wr.heap.size, 1, none⟩)) rfl rfl (fun W' hS => ?_) ?_
          · go_simp
          try simp only [List.getElem_toArray, List.getElem_cons_succ, List.getElem_cons_zero, Act.put, List.setIfInBounds_toArray, List.set_cons_zero, List.set_cons_succ]
          refine turn_steady (.int .i64 ty) rfl rfl (fun W' hS => ?_) ?_
          · obtain ⟨z0, z1, z2, z3⟩ := a8_facts hS
            clear hS
            go_simp
          try simp only [List.getElem_toArray, List.getElem_cons_succ, List.getElem_cons_zero, Act.put, List.setIfInBounds_toArray, List.set_cons_zero, List.set_cons_succ]
          refine turn_steady (.bool false) rfl rfl (fun W' hS => ?_) ?_
          · go_simp
          try simp only [List.getElem_toArray, List.getElem_cons_succ, List.getElem_cons_zero, Act.put, List.setIfInBounds_toArray, List.set_cons_zero, List.set_cons_succ]
          refine turn_steady (.bool false) rfl rfl (fun W' hS => ?_) ?_
          · go_simp
          try simp only [List.getElem_toArray, List.getElem_cons_succ, List.getElem_cons_zero, Act.put, List.setIfInBounds_toArray, List.set_cons_zero, List.set_cons_succ]
          refine turn_end ?_
          try simp only [List.getElem_toArray, List.getElem_cons_succ, List.getElem_cons_zero, Act.put, List.setIfInBounds_toArray, List.set_cons_zero, List.set_cons_succ]
          obtain ⟨z0, z1, z2, z3⟩ := a8_facts H2.out.1
          obtain ⟨z4, z5, z6, z7, z8⟩ := a8_rest H2.out.1
          have hse := Lib.hid (same0_any vk vn vs vl vks a1 c1 a2 c2 w2)
          have hfi := Lib.hid (fits_any ty vk vn vs vl vks Hsz.out F a1 c1 a2 c2 w2 (fun b hb => Nat.lt_of_lt_of_le (HF.out b hb) H2.out.2.size) Hvr2.out.1 Hvr2.out.2)
          cases mu with
          | true =>
            rw [if_pos rfl] at Hg3
            go_wp2_with fail
            refine hse.out.mono ?_
            rintro e w5 ⟨rfl, hb5⟩
            have H5 := Lib.hid (And.intro (stays H2.out.1 hb5) (H2.out.2.trans (hb5.mono H2.out.2.size)))
            clear hb5 z0 z1 z2 z3 z4 z5 z6 z7 z8 hse hfi
            obtain ⟨z0, z1, z2, z3⟩ := a8_facts H5.out.1
            cases hq : sameV (.mk vk vn vs vl vks) vZero with
            | false =>
              rw [hq, Bool.false_and] at Hg3
              clear hq
              go_wp2_with fail
              go_ret
              exact ⟨ret_bool Hg3.out.symm, H5.out.2⟩
            | true =>
              rw [hq, Bool.true_and] at Hg3
              have Hb5 := Lib.hid H5.out.2
              clear hq
              go_wp2_with fail
              go_roundw
              case rel => exact ⟨j + 1, by go_num, by omega, Hb5, Hg3⟩
              case measure => simp only [intOf]; omega
          | false =>
            rw [if_neg (by decide)] at Hg3
            go_wp2_with fail
            refine hfi.out.mono ?_
            rintro e w5 ⟨rfl, hb5⟩
            have H5 := Lib.hid (And.intro (stays H2.out.1 hb5) (H2.out.2.trans (hb5.mono H2.out.2.size)))
            clear hb5 z0 z1 z2 z3 z4 z5 z6 z7 z8 hse hfi
            obtain ⟨z0, z1, z2, z3⟩ := a8_facts H5.out.1
            cases hq : fitsV ty (.mk vk vn vs vl vks) with
            | false =>
              rw [hq, Bool.false_and] at Hg3
              clear hq
              go_wp2_with fail
              go_ret
              exact ⟨ret_bool Hg3.out.symm, H5.out.2⟩
            | true =>
              rw [hq, Bool.true_and] at Hg3
              have Hb5 := Lib.hid H5.out.2
              clear hq
              go_wp2_with fail
              go_roundw
              case rel => exact ⟨j + 1, by go_num, by omega, Hb5, Hg3⟩
              case measure => simp only [intOf]; omega
        have hjp' : (0 : Int) < (j : Int) := by omega
        have hjp0 : 0 < j := by omega
        have Hjn := Lib.hid hjp
        clear hjp
        refine turn_steady (.bool true) rfl rfl (fun W' hS => ?_) ?_
        · go_simp
        try simp only [List.getElem_toArray, List.getElem_cons_succ, List.getElem_cons_zero, Act.put, List.setIfInBounds_toArray, List.set_cons_zero, List.set_cons_succ]
        refine turn_steady (.bool true) rfl rfl (fun W' hS => ?_) ?_
        · go_simp
        try simp only [List.getElem_toArray, List.getElem_cons_succ, List.getElem_cons_zero, Act.put, List.setIfInBounds_toArray, List.set_cons_zero, List.set_cons_succ]
        refine turn_steady (.pointer (some ⟨wr.heap.size, 0, none⟩)) rfl rfl (fun W' hS => ?_) ?_
        · go_simp
        try simp only [List.getElem_toArray, List.getElem_cons_succ, List.getElem_cons_zero, Act.put, List.setIfInBounds_toArray, List.set_cons_zero, List.set_cons_succ]
        refine turn_steady (.string nm) rfl rfl (fun W' hS => ?_) ?_
        · obtain ⟨z0, z1, z2, z3⟩ := a8_facts hS
          clear hS
          go_simp
        try simp only [List.getElem_toArray, List.getElem_cons_succ, List.getElem_cons_zero, Act.put, List.setIfInBounds_toArray, List.set_cons_zero, List.set_cons_succ]
        refine turn_heavy rfl (fun K13 hK13 => ?_)
        go_wp2_with fail
        refine (isTaken_any nm _ (Hw.out.below H2.out.2) hnz).mono ?_
        rintro e w3 ⟨rfl, hb3⟩
        have H3 := Lib.hid (And.intro (stays H2.out.1 hb3) (H2.out.2.trans (hb3.mono H2.out.2.size)))
        have Hvr3 := Lib.hid (And.intro (Hvr2.out.1.below hb3) (Hvr2.out.2.below hb3))
        clear hb3 H2 Hvr2
        go_wp2_with fail
        refine hK13 _ _ (fun _ => H3.out.1) ?_
        try simp only [List.getElem_toArray, List.getElem_cons_succ, List.getElem_cons_zero, Act.put, List.setIfInBounds_toArray, List.set_cons_zero, List.set_cons_succ]
        cases htk : isTakenL nm.data.toList with
        | true =>
          have Hf : Hid (mayAttrs l = false) := Lib.hid (by rw [Hg.out, Hi.out, htk, beq_eq_false_iff_ne.2 Hjn.out]; rfl)
          clear htk
          refine turn_steady (.bool true) rfl rfl (fun W' hS => ?_) ?_
          · go_simp
          try simp only [List.getElem_toArray, List.getElem_cons_succ, List.getElem_cons_zero, Act.put, List.setIfInBounds_toArray, List.set_cons_zero, List.set_cons_succ]
          refine turn_steady (.bool true) rfl rfl (fun W' hS => ?_) ?_
          · go_simp
          try simp only [List.getElem_toArray, List.getElem_cons_succ, List.getElem_cons_zero, Act.put, List.setIfInBounds_toArray, List.set_cons_zero, List.set_cons_succ]
          refine turn_steady (.bool true) rfl rfl (fun W' hS => ?_) ?_
          · go_simp
          try simp only [List.getElem_toArray, List.getElem_cons_succ, List.getElem_cons_zero, Act.put, List.setIfInBounds_toArray, List.set_cons_zero, List.set_cons_succ]
          refine turn_skip rfl rfl ?_
          try simp only [List.getElem_toArray, List.getElem_cons_succ, List.getElem_cons_zero, Act.put, List.setIfInBounds_toArray, List.set_cons_zero, List.set_cons_succ]
          refine turn_skip rfl rfl ?_
          try simp only [List.getElem_toArray, List.getElem_cons_succ, List.getElem_cons_zero, Act.put, List.setIfInBounds_toArray, List.set_cons_zero, List.set_cons_succ]
          refine turn_skip rfl rfl ?_
          try simp only [List.getElem_toArray, List.getElem_cons_succ, List.getElem_cons_zero, Act.put, List.setIfInBounds_toArray, List.set_cons_zero, List.set_cons_succ]
          refine turn_steady (.bool true) rfl rfl (fun W' hS => ?_) ?_
          · go_simp
          try simp only [List.getElem_toArray, List.getElem_cons_succ, List.getElem_cons_zero, Act.put, List.setIfInBounds_toArray, List.set_cons_zero, List.set_cons_succ]
          refine turn_steady (.bool true) rfl rfl (fun W' hS => ?_) ?_
          · go_simp
          try simp only [List.getElem_toArray, List.getElem_cons_succ, List.getElem_cons_zero, Act.put, List.setIfInBounds_toArray, List.set_cons_zero, List.set_cons_succ]
          refine turn_skip rfl rfl ?_
          try simp only [List.getElem_toArray, List.getElem_cons_succ, List.getElem_cons_zero, Act.put, List.setIfInBounds_toArray, List.set_cons_zero, List.set_cons_succ]
          refine turn_skip rfl rfl ?_
          try simp only [List.getElem_toArray, List.getElem_cons_succ, List.getElem_cons_zero, Act.put, List.setIfInBounds_toArray, List.set_cons_zero, List.set_cons_succ]
          refine turn_skip rfl rfl ?_
          try simp only [List.getElem_toArray, List.getElem_cons_succ, List.getElem_cons_zero, Act.put, List.setIfInBounds_toArray, List.set_cons_zero, List.set_cons_succ]
          refine turn_steady (.bool true) rfl rfl (fun W' hS => ?_) ?_
          · go_simp
          try simp only [List.getElem_toArray, List.getElem_cons_succ, List.getElem_cons_zero, Act.put, List.setIfInBounds_toArray, List.set_cons_zero, List.set_cons_succ]
          refine turn_end ?_
          try simp only [List.getElem_toArray, List.getElem_cons_succ, List.getElem_cons_zero, Act.put, List.setIfInBounds_toArray, List.set_cons_zero, List.set_cons_succ]
          go_wp2_with fail
          go_ret
          exact ⟨ret_bool Hf.out.symm, H3.out.2⟩
        | false =>
          have Hg2 : Hid (mayAttrs l = (decide (1 ≤ ty) && decide (ty ≤ 6) && (if mu = true then sameV (.mk vk vn vs vl vks) vZero else fitsV ty (.mk vk vn vs vl vks)) && mayGo (l.take (j + 1)) (j + 1) (l.drop (j + 1)))) := Lib.hid (by rw [Hg.out, Hi.out, htk, beq_eq_false_iff_ne.2 Hjn.out]; rfl)
          clear htk
          refine turn_steady (.bool false) rfl rfl (fun W' hS => ?_) ?_
          · go_simp
          try simp only [List.getElem_toArray, List.getElem_cons_succ, List.getElem_cons_zero, Act.put, List.setIfInBounds_toArray, List.set_cons_zero, List.set_cons_succ]
          refine turn_steady (.bool false) rfl rfl (fun W' hS => ?_) ?_
          · go_simp
          try simp only [List.getElem_toArray, List.getElem_cons_succ, List.getElem_cons_zero, Act.put, List.setIfInBounds_toArray, List.set_cons_zero, List.set_cons_succ]
          refine turn_steady (.bool false) rfl rfl (fun W' hS => ?_) ?_
          · go_simp
          try simp only [List.getElem_toArray, List.getElem_cons_succ, List.getElem_cons_zero, Act.put, List.setIfInBounds_toArray, List.set_cons_zero, List.set_cons_succ]
          by_cases hlo : ty < 1
          · have Hf : Hid (mayAttrs l = false) := Lib.hid (by rw [Hg2.out, decide_eq_false (show ¬ 1 ≤ ty by omega)]; rfl)
            refine turn_steady (.pointer (some ⟨wr.heap.size, 1, none⟩)) rfl rfl (fun W' hS => ?_) ?_
            · go_simp
            try simp only [List.getElem_toArray, List.getElem_cons_succ, List.getElem_cons_zero, Act.put, List.setIfInBounds_toArray, List.set_cons_zero, List.set_cons_succ]
            refine turn_steady (.int .i64 ty) rfl rfl (fun W' hS => ?_) ?_
            · obtain ⟨z0, z1, z2, z3⟩ := a8_facts hS
              clear hS
              go_simp
            try simp only [List.getElem_toArray, List.getElem_cons_succ, List.getElem_cons_zero, Act.put, List.setIfInBounds_toArray, List.set_cons_zero, List.set_cons_succ]
            refine turn_steady (.bool true) rfl rfl (fun W' hS => ?_) ?_
            · go_simp
            try simp only [List.getElem_toArray, List.getElem_cons_succ, List.getElem_cons_zero, Act.put, List.setIfInBounds_toArray, List.set_cons_zero, List.set_cons_succ]
            refine turn_steady (.bool true) rfl rfl (fun W' hS => ?_) ?_
            · go_simp
            try simp only [List.getElem_toArray, List.getElem_cons_succ, List.getElem_cons_zero, Act.put, List.setIfInBounds_toArray, List.set_cons_zero, List.set_cons_succ]
            refine turn_steady (.bool true) rfl rfl (fun W' hS => ?_) ?_
            · go_simp
            try simp only [List.getElem_toArray, List.getElem_cons_succ, List.getElem_cons_zero, Act.put, List.setIfInBounds_toArray, List.set_cons_zero, List.set_cons_succ]
            refine turn_skip rfl rfl ?_
            try simp only [List.getElem_toArray, List.getElem_cons_succ, List.getElem_cons_zero, Act.put, List.setIfInBounds_toArray, List.set_cons_zero, List.set_cons_succ]
            refine turn_skip rfl rfl ?_
            try simp only [List.getElem_toArray, List.getElem_cons_succ, List.getElem_cons_zero, Act.put, List.setIfInBounds_toArray, List.set_cons_zero, List.set_cons_succ]
            refine turn_skip rfl rfl ?_
            try simp only [List.getElem_toArray, List.getElem_cons_succ, List.getElem_cons_zero, Act.put, List.setIfInBounds_toArray, List.set_cons_zero, List.set_cons_succ]
            refine turn_steady (.bool true) rfl rfl (fun W' hS => ?_) ?_
            · go_simp
            try simp only [List.getElem_toArray, List.getElem_cons_succ, List.getElem_cons_zero, Act.put, List.setIfInBounds_toArray, List.set_cons_zero, List.set_cons_succ]
            refine turn_end ?_
            try simp only [List.getElem_toArray, List.getElem_cons_succ, List.getElem_cons_zero, Act.put, List.setIfInBounds_toArray, List.set_cons_zero, List.set_cons_succ]
            go_wp2_with fail
            go_ret
            exact ⟨ret_bool Hf.out.symm, H3.out.2⟩
          refine turn_steady (.pointer (some ⟨wr.heap.size, 1, none⟩)) rfl rfl (fun W' hS => ?_) ?_
          · go_simp
          try simp only [List.getElem_toArray, List.getElem_cons_succ, List.getElem_cons_zero, Act.put, List.setIfInBounds_toArray, List.set_cons_zero, List.set_cons_succ]
          refine turn_steady (.int .i64 ty) rfl rfl (fun W' hS => ?_) ?_
          · obtain ⟨z0, z1, z2, z3⟩ := a8_facts hS
            clear hS
            go_simp
          try simp only [List.getElem_toArray, List.getElem_cons_succ, List.getElem_cons_zero, Act.put, List.setIfInBounds_toArray, List.set_cons_zero, List.set_cons_succ]
          refine turn_steady (.bool false) rfl rfl (fun W' hS => ?_) ?_
          · go_simp
          try simp only [List.getElem_toArray, List.getElem_cons_succ, List.getElem_cons_zero, Act.put, List.setIfInBounds_toArray, List.set_cons_zero, List.set_cons_succ]
          refine turn_steady (.bool false) rfl rfl (fun W' hS => ?_) ?_
          · go_simp
          try simp only [List.getElem_toArray, List.getElem_cons_succ, List.getElem_cons_zero, Act.put, List.setIfInBounds_toArray, List.set_cons_zero, List.set_cons_succ]
          refine turn_steady (.bool false) rfl rfl (fun W' hS => ?_) ?_
          · go_simp
          try simp only [List.getElem_toArray, List.getElem_cons_succ, List.getElem_cons_zero, Act.put, List.setIfInBounds_toArray, List.set_cons_zero, List.set_cons_succ]
          by_cases hhi : 6 < ty
          · have Hf : Hid (mayAttrs l = false) := Lib.hid (by rw [Hg2.out, decide_eq_false (show ¬ ty ≤ 6 by omega), Bool.and_false]; rfl)
            refine turn_steady (.pointer (some ⟨wr.heap.size, 1, none⟩)) rfl rfl (fun W' hS => ?_) ?_
            · go_simp
            try simp only [List.getElem_toArray, List.getElem_cons_succ, List.getElem_cons_zero, Act.put, List.setIfInBounds_toArray, List.set_cons_zero, List.set_cons_succ]
            refine turn_steady (.int .i64 ty) rfl rfl (fun W' hS => ?_) ?_
            · obtain ⟨z0, z1, z2, z3⟩ := a8_facts hS
              clear hS
              go_simp
            try simp only [List.getElem_toArray, List.getElem_cons_succ, List.getElem_cons_zero, Act.put, List.setIfInBounds_toArray, List.set_cons_zero, List.set_cons_succ]
            refine turn_steady (.bool true) rfl rfl (fun W' hS => ?_) ?_
            · go_simp
            try simp only [List.getElem_toArray, List.getElem_cons_succ, List.getElem_cons_zero, Act.put, List.setIfInBounds_toArray, List.set_cons_zero, List.set_cons_succ]
            refine turn_steady (.bool true) rfl rfl (fun W' hS => ?_) ?_
            · go_simp
            try simp only [List.getElem_toArray, List.getElem_cons_succ, List.getElem_cons_zero, Act.put, List.setIfInBounds_toArray, List.set_cons_zero, List.set_cons_succ]
            refine turn_end ?_
            try simp only [List.getElem_toArray, List.getElem_cons_succ, List.getElem_cons_zero, Act.put, List.setIfInBounds_toArray, List.set_cons_zero, List.set_cons_succ]
            go_wp2_with fail
            go_ret
            exact ⟨ret_bool Hf.out.symm, H3.out.2⟩
          have Hg3 : Hid (mayAttrs l = ((if mu = true then sameV (.mk vk vn vs vl vks) vZero else fitsV ty (.mk vk vn vs vl vks)) && mayGo (l.take (j + 1)) (j + 1) (l.drop (j + 1)))) := Lib.hid (by rw [Hg2.out, decide_eq_true (show 1 ≤ ty by omega), decide_eq_true (show ty ≤ 6 by omega)]; rfl)
          refine turn_steady (.pointer (some ⟨wr.heap.size, 1, none⟩)) rfl rfl (fun W' hS => ?_) ?_
          · go_simp
          try simp only [List.getElem_toArray, List.getElem_cons_succ, List.getElem_cons_zero, Act.put, List.setIfInBounds_toArray, List.set_cons_zero, List.set_cons_succ]
          refine turn_steady (.int .i64 ty) rfl rfl (fun W' hS => ?_) ?_
          · obtain ⟨z0, z1, z2, z3⟩ := a8_facts hS
            clear hS
            go_simp
          try simp only [List.getElem_toArray, List.getElem_cons_succ, List.getElem_cons_zero, Act.put, List.setIfInBounds_toArray, List.set_cons_zero, List.set_cons_succ]
          refine turn_steady (.bool false) rfl rfl (fun W' hS => ?_) ?_
          · go_simp
          try simp only [List.getElem_toArray, List.getElem_cons_succ, List.getElem_cons_zero, Act.put, List.setIfInBounds_toArray, List.set_cons_zero, List.set_cons_succ]
          refine turn_steady (.bool false) rfl rfl (fun W' hS => ?_) ?_
          · go_simp
          try simp only [List.getElem_toArray, List.getElem_cons_succ, List.getElem_cons_zero, Act.put, List.setIfInBounds_toArray, List.set_cons_zero, List.set_cons_succ]
          refine turn_end ?_
          try simp only [List.getElem_toArray, List.getElem_cons_succ, List.getElem_cons_zero, Act.put, List.setIfInBounds_toArray, List.set_cons_zero, List.set_cons_succ]
          obtain ⟨z0, z1, z2, z3⟩ := a8_facts H3.out.1
          obtain ⟨z4, z5, z6, z7, z8⟩ := a8_rest H3.out.1
          have hse := Lib.hid (same0_any vk vn vs vl vks a1 c1 a2 c2 w3)
          have hfi := Lib.hid (fits_any ty vk vn vs vl vks Hsz.out F a1 c1 a2 c2 w3 (fun b hb => Nat.lt_of_lt_of_le (HF.out b hb) H3.out.2.size) Hvr3.out.1 Hvr3.out.2)
          cases mu with
          | true =>
            rw [if_pos rfl] at Hg3
            go_wp2_with fail
            refine hse.out.mono ?_
            rintro e w5 ⟨rfl, hb5⟩
            have H5 := Lib.hid (And.intro (stays H3.out.1 hb5) (H3.out.2.trans (hb5.mono H3.out.2.size)))
            clear hb5 z0 z1 z2 z3 z4 z5 z6 z7 z8 hse hfi
            obtain ⟨z0, z1, z2, z3⟩ := a8_facts H5.out.1
            cases hq : sameV (.mk vk vn vs vl vks) vZero with
            | false =>
              rw [hq, Bool.false_and] at Hg3
              clear hq
              go_wp2_with fail
              go_ret
              exact ⟨ret_bool Hg3.out.symm, H5.out.2⟩
            | true =>
              rw [hq, Bool.true_and] at Hg3
              have Hb5 := Lib.hid H5.out.2
              clear hq
              go_wp2_with fail
              go_roundw
              case rel => exact ⟨j + 1, by go_num, by omega, Hb5, Hg3⟩
              case measure => simp only [intOf]; omega
          | false =>
            rw [if_neg (by decide)] at Hg3
            go_wp2_with fail
            refine hfi.out.mono ?_
            rintro e w5 ⟨rfl, hb5⟩
            have H5 := Lib.hid (And.intro (stays H3.out.1 hb5) (H3.out.2.trans (hb5.mono H3.out.2.size)))
            clear hb5 z0 z1 z2 z3 z4 z5 z6 z7 z8 hse hfi
            obtain ⟨z0, z1, z2, z3⟩ := a8_facts H5.out.1
            cases hq : fitsV ty (.mk vk vn vs vl vks) with
            | false =>
              rw [hq, Bool.false_and] at Hg3
              clear hq
              go_wp2_with fail
              go_ret
              exact ⟨ret_bool Hg3.out.symm, H5.out.2⟩
            | true =>
              rw [hq, Bool.true_and] at Hg3
              have Hb5 := Lib.hid H5.out.2
              clear hq
              go_wp2_with fail
              go_roundw
              case rel => exact ⟨j + 1, by go_num, by omega, Hb5, Hg3⟩
              case measure => simp only [intOf]; omega
    · have Hf : Hid (mayAttrs l = true) := Lib.hid (by rw [hg.out, List.drop_eq_nil_of_le (by omega), mayGo])
      go_wp2_with fail
      go_ret
      exact ⟨ret_bool Hf.out.symm, hb.out⟩
end Go.Proofs.YthknljeffpbbmaaGreatDoor
namespace Go.Proofs.YthknljeffpbbmaaGreatDoor
open Go Go.RowKit

theorem sameB_iff {a b : ByteArray} : sameB a b = true ↔ a.data.toList = b.data.toList := by unfold sameB; rw [beq_iff_eq]
theorem idxA_some {l : List AttrP} {s : ByteArray} {i : Nat} (h : idxA l s = some i) : ∃ a, l[i]? = some a ∧ sameB a.name s = true := by
  unfold idxA at h
  obtain ⟨hi, hp, -⟩ := List.findIdx?_eq_some_iff_getElem.1 h
  exact ⟨l[i], List.getElem?_eq_getElem hi, hp⟩
/-- What has been given. -/
def GInv (l : List AttrP) (args : List (ByteArray × Vl)) (m : GM) : Prop := ∀ i v, m i = some v → ∃ x ∈ args, ∃ a, l[i]? = some a ∧ sameB a.name x.1 = true ∧ x.2 = v ∧ fitsV a.type v = true
theorem gGo_inv {l : List AttrP} {all : List (ByteArray × Vl)} : ∀ (args : List (ByteArray × Vl)) (m m' : GM), (∀ x ∈ args, x ∈ all) → GInv l all m → gGo l args m = .ok m' → GInv l all m'
  | [], m, m', _, hi, h => by rw [gGo] at h; cases h; exact hi
  | x :: t, m, m', hs, hi, h => by
    rw [gGo] at h
    cases hst : gStep l m x with
    | error e => rw [hst] at h; cases h
    | ok m1 =>
      rw [hst] at h
      refine gGo_inv t m1 m' (fun y hy => hs y (List.mem_cons_of_mem _ hy)) ?_ h
      obtain ⟨-, i, h1, -, h3, rfl⟩ := gStep_ok hst
      obtain ⟨a, ha, hn⟩ := idxA_some h1
      intro k v hk
      unfold gPut at hk
      split at hk
      · rename_i he
        subst he
        cases hk
        rw [ha] at h3
        exact ⟨x, hs x (List.mem_cons_self ..), a, ha, hn, rfl, by simpa using h3⟩
      · exact hi k v hk
theorem gVals_len (m : GM) : ∀ (i : Nat) (l : List AttrP), (gVals m i l).length = l.length
  | _, [] => rfl
  | i, a :: t => by rw [gVals, List.length_cons, List.length_cons, gVals_len m (i + 1) t]
theorem gVals_get (m : GM) : ∀ (i : Nat) (l : List AttrP) (k : Nat) (a : AttrP), l[k]? = some a → (gVals m i l)[k]? = some ((m (i + k)).getD a.dflt)
  | i, a :: t, 0, b, h => by simp at h; subst h; simp [gVals]
  | i, a :: t, k + 1, b, h => by
    rw [gVals, List.getElem?_cons_succ]
    have := gVals_get m (i + 1) t k b (by simpa using h)
    rw [this, show i + 1 + k = i + (k + 1) by omega]
theorem gLack_get (m : GM) : ∀ (i : Nat) (l : List AttrP), gLack m i l = false → ∀ (k : Nat) (a : AttrP), l[k]? = some a → a.must = true → (m (i + k)).isSome = true
  | i, a :: t, h, 0, b, hb, hm => by
    simp at hb
    subst hb
    simp only [gLack, hm, Bool.true_and, Bool.or_eq_false_iff] at h
    cases hmi : m i with
    | none => rw [hmi] at h; simp at h
    | some v => rfl
  | i, a :: t, h, k + 1, b, hb, hm => by
    simp only [gLack, Bool.or_eq_false_iff] at h
    have := gLack_get m (i + 1) t h.2 k b (by simpa using hb) hm
    rwa [show i + 1 + k = i + (k + 1) by omega] at this
theorem givenL_len {l : List AttrP} {args : List (ByteArray × Vl)} {vs : List Vl} (h : givenL l args = .ok vs) : vs.length = l.length := by
  unfold givenL at h
  split at h
  · cases h
  · split at h
    · cases h
    · cases h
      exact gVals_len _ _ _
/-- Each value fits, and is given or the default. -/
theorem givenL_fits {l : List AttrP} {args : List (ByteArray × Vl)} {vs : List Vl} (h : givenL l args = .ok vs) (hd : ∀ a ∈ l, a.must = false → fitsV a.type a.dflt = true) {k : Nat} {a : AttrP} (ha : l[k]? = some a) :
    ∃ v, vs[k]? = some v ∧ fitsV a.type v = true ∧ ((∃ x ∈ args, sameB a.name x.1 = true) ∨ v = a.dflt) := by
  unfold givenL at h
  cases hg : gGo l args (fun _ => none) with
  | error e => rw [hg] at h; cases h
  | ok m =>
    rw [hg] at h
    simp only at h
    split at h
    · cases h
    · rename_i hl
      cases h
      have hinv := gGo_inv (all := args) args _ m (fun x hx => hx) (fun i v hv => by cases hv) hg
      refine ⟨_, gVals_get m 0 l k a ha, ?_⟩
      rw [Nat.zero_add]
      cases hm : m k with
      | some v =>
        obtain ⟨x, hx, b, hb, hn, -, hf⟩ := hinv k v hm
        rw [ha] at hb
        cases hb
        exact ⟨hf, .inl ⟨x, hx, hn⟩⟩
      | none =>
        refine ⟨?_, .inr rfl⟩
        cases hmust : a.must with
        | false => exact hd a (List.mem_of_getElem? ha) hmust
        | true =>
          have := gLack_get m 0 l (by simpa using hl) k a ha hmust
          rw [Nat.zero_add, hm] at this
          cases this

theorem mayGo_spec : ∀ (l ahead : List AttrP) (i : Nat), mayGo ahead i l = true → (∀ a ∈ l, a.must = false → fitsV a.type a.dflt = true) ∧ (∀ a ∈ l, ∀ b ∈ ahead, ¬ b.name.data.toList = a.name.data.toList) ∧ (l.map (·.name.data.toList)).Nodup
  | [], _, _, _ => ⟨(fun a h => by cases h), (fun a h => by cases h), List.nodup_nil⟩
  | a :: t, ahead, i, h => by
    simp only [mayGo, Bool.and_eq_true] at h
    obtain ⟨⟨⟨⟨⟨h1, -⟩, -⟩, -⟩, h5⟩, h6⟩ := h
    obtain ⟨g1, g2, g3⟩ := mayGo_spec t (ahead ++ [a]) (i + 1) h6
    have hno : ∀ b ∈ ahead, ¬ b.name.data.toList = a.name.data.toList := by
      intro b hb he
      rw [Option.isNone_iff_eq_none] at h1
      unfold idxA at h1
      rw [List.findIdx?_eq_none_iff] at h1
      have := h1 b hb
      rw [sameB_iff.2 he] at this
      cases this
    refine ⟨?_, ?_, ?_⟩
    · intro x hx hm
      rcases List.mem_cons.1 hx with rfl | hx
      · rw [hm] at h5; simpa using h5
      · exact g1 x hx hm
    · intro x hx b hb
      rcases List.mem_cons.1 hx with rfl | hx
      · exact hno b hb
      · exact g2 x hx b (List.mem_append_left _ hb)
    · rw [List.map_cons, List.nodup_cons]
      refine ⟨fun hm => ?_, g3⟩
      obtain ⟨x, hx, he⟩ := List.mem_map.1 hm
      exact g2 x hx a (List.mem_append_right _ (List.mem_singleton.2 rfl)) he.symm
theorem leName_trans (a b c : ByteArray × Vl) (h1 : leName a b = true) (h2 : leName b c = true) : leName a c = true := by
  simp only [leName, decide_eq_true_eq] at *; exact List.le_trans h1 h2
theorem leName_total (a b : ByteArray × Vl) : (leName a b || leName b a) = true := by
  simp only [leName, Bool.or_eq_true, decide_eq_true_eq]; exact List.le_total _ _
/-- Sorted by names of which none is there twice, they rise. -/
theorem sorted_rises {l : List (ByteArray × Vl)} (hn : (l.map (·.1.data.toList)).Nodup) : (l.mergeSort leName).Pairwise (fun p q => p.1.data.toList < q.1.data.toList) := by
  have h1 := List.pairwise_mergeSort leName_trans leName_total l
  have hp := List.mergeSort_perm l leName
  have h2 : ((l.mergeSort leName).map (·.1.data.toList)).Nodup := (hp.map _).nodup_iff.2 hn
  rw [List.Nodup, List.pairwise_map] at h2
  refine (h1.and h2).imp ?_
  rintro p q ⟨h3, h4⟩
  simp only [leName, decide_eq_true_eq] at h3
  by_cases hlt : p.1.data.toList < q.1.data.toList
  · exact hlt
  · exact absurd (List.le_antisymm h3 (List.not_lt.1 hlt)) h4
end Go.Proofs.YthknljeffpbbmaaGreatDoor
namespace Go.Proofs.YthknljeffpbbmaaGreatDoor
open Go Go.RowKit

theorem bytes_tri (a b : List UInt8) (h1 : ¬ a < b) (h2 : ¬ b < a) : a = b := List.le_antisymm (List.not_lt.1 h2) (List.not_lt.1 h1)
/-- Does a label stand ahead of another one? -/
def labelLt (a b : LabelP) : Bool := decide (a.pkg < b.pkg) || (a.pkg == b.pkg && decide (a.name < b.name))
theorem labelLe_lt (a b : LabelP) : labelLe a b = !labelLt b a := by
  unfold labelLe labelLt
  by_cases h1 : a.pkg < b.pkg
  · have h2 : ¬ b.pkg < a.pkg := List.not_lt.2 (List.le_of_lt h1)
    have h3 : ¬ b.pkg = a.pkg := fun he => by rw [he] at h1; exact List.lt_irrefl _ h1
    simp [h1, h2, h3]
  · by_cases h2 : b.pkg < a.pkg
    · have h3 : ¬ a.pkg = b.pkg := fun he => by rw [he] at h2; exact List.lt_irrefl _ h2
      simp [h1, h2, h3]
    · obtain he := bytes_tri _ _ h1 h2
      rw [he]
      by_cases h4 : b.name < a.name
      · have h5 : ¬ a.name ≤ b.name := fun h => absurd h4 (List.not_lt.2 h)
        simp [List.lt_irrefl, h4, h5]
      · have h5 : a.name ≤ b.name := List.not_lt.1 h4
        simp [List.lt_irrefl, h4, h5]
theorem labelLt_trans {a b c : LabelP} (h1 : labelLt a b = true) (h2 : labelLt b c = true) : labelLt a c = true := by
  unfold labelLt at *
  simp only [Bool.or_eq_true, Bool.and_eq_true, decide_eq_true_eq, beq_iff_eq] at *
  rcases h1 with h1 | ⟨e1, h1⟩
  · rcases h2 with h2 | ⟨e2, h2⟩
    · exact .inl (List.lt_trans h1 h2)
    · exact .inl (by rw [← e2]; exact h1)
  · rcases h2 with h2 | ⟨e2, h2⟩
    · exact .inl (by rw [e1]; exact h2)
    · exact .inr ⟨e1.trans e2, List.lt_trans h1 h2⟩
theorem labelLt_irrefl (a : LabelP) : labelLt a a = false := by
  unfold labelLt
  simp [List.lt_irrefl]
theorem labelLt_tri {a b : LabelP} (h1 : labelLt a b = false) (h2 : labelLt b a = false) : a = b := by
  obtain ⟨ap, an⟩ := a
  obtain ⟨bp, bn⟩ := b
  unfold labelLt at h1 h2
  simp only [Bool.or_eq_false_iff, decide_eq_false_iff_not] at h1 h2
  obtain rfl := bytes_tri _ _ h1.1 h2.1
  have g1 := h1.2
  have g2 := h2.2
  simp only [BEq.rfl, Bool.true_and, decide_eq_false_iff_not] at g1 g2
  obtain rfl := bytes_tri _ _ g1 g2
  rfl
theorem labelLe_trans (a b c : LabelP) (h1 : labelLe a b = true) (h2 : labelLe b c = true) : labelLe a c = true := by
  rw [labelLe_lt, Bool.not_eq_true'] at *
  cases hc : labelLt c a with
  | false => rfl
  | true =>
    cases hb : labelLt b c with
    | true => rw [labelLt_trans hb hc] at h1; cases h1
    | false =>
      have := labelLt_tri hb h2
      subst this
      rw [hc] at h1
      cases h1
theorem labelLe_total (a b : LabelP) : (labelLe a b || labelLe b a) = true := by
  rw [labelLe_lt, labelLe_lt]
  cases h : labelLt b a with
  | false => rfl
  | true =>
    cases h2 : labelLt a b with
    | false => rfl
    | true => have := labelLt_trans h h2; rw [labelLt_irrefl] at this; cases this
theorem labelLe_anti {a b : LabelP} (h1 : labelLe a b = true) (h2 : labelLe b a = true) : a = b := by
  rw [labelLe_lt, Bool.not_eq_true'] at h1 h2
  exact labelLt_tri h2 h1
/-- Labels, sorted. -/
theorem labels_sorted {l d : List LabelP} (hp : d.Perm l) (hs : d.Pairwise fun a b => labelLt b a = false) : d = l.mergeSort labelLe := by
  refine List.Perm.eq_of_pairwise (le := fun a b => labelLe a b = true) (fun a b _ _ h1 h2 => labelLe_anti h1 h2) (hs.imp fun {a b} h => by rw [labelLe_lt, h]; rfl) (List.pairwise_mergeSort labelLe_trans labelLe_total l) (hp.trans (List.mergeSort_perm l labelLe).symm)
theorem nodup_name {l : List (ByteArray × Vl)} (hn : (l.map (·.1.data.toList)).Nodup) {p q : ByteArray × Vl} (hp : p ∈ l) (hq : q ∈ l) (he : p.1.data.toList = q.1.data.toList) : p = q := by
  obtain ⟨i, hi⟩ := List.mem_iff_getElem?.1 hp
  obtain ⟨k, hk⟩ := List.mem_iff_getElem?.1 hq
  rw [List.Nodup, List.pairwise_map, List.pairwise_iff_getElem] at hn
  obtain ⟨hi', ga⟩ := List.getElem?_eq_some_iff.1 hi
  obtain ⟨hk', gb⟩ := List.getElem?_eq_some_iff.1 hk
  rcases Nat.lt_trichotomy i k with h | h | h
  · exact absurd (by rw [ga, gb]; exact he) (hn i k hi' hk' h)
  · subst h; rw [hi] at hk; exact Option.some.inj hk
  · exact absurd (by rw [ga, gb]; exact he.symm) (hn k i hk' hi' h)
/-- Values whose names differ, sorted by these. -/
theorem named_sorted {l d : List (ByteArray × Vl)} (hn : (l.map (·.1.data.toList)).Nodup) (hp : d.Perm l) (hs : d.Pairwise fun p q => ¬ q.1.data.toList < p.1.data.toList) : d = l.mergeSort leName := by
  have h := List.mergeSort_perm l leName
  refine List.Perm.eq_of_pairwise (le := fun a b => leName a b = true) (fun a b ha hb h1 h2 => ?_) (hs.imp fun {a b} h => by unfold leName; exact decide_eq_true (List.not_lt.1 h)) (List.pairwise_mergeSort leName_trans leName_total l) (hp.trans h.symm)
  simp only [leName, decide_eq_true_eq] at h1 h2
  exact nodup_name hn (hp.mem_iff.1 ha) (h.mem_iff.1 hb) (List.le_antisymm h1 h2)
/-- Sorted labels, each once: they rise. -/
theorem dedup_head : ∀ (l : List LabelP) (x : LabelP), x ∈ dedup l → x ∈ l
  | [], x, h => by rw [dedup] at h; cases h
  | [y], x, h => by rw [dedup] at h; exact h
  | y :: z :: t, x, h => by
    rw [dedup] at h
    split at h
    · exact List.mem_cons_of_mem _ (dedup_head (z :: t) x h)
    · rcases List.mem_cons.1 h with rfl | h
      · exact List.mem_cons_self ..
      · exact List.mem_cons_of_mem _ (dedup_head (z :: t) x h)
theorem dedup_rises : ∀ (l : List LabelP), l.Pairwise (fun a b => labelLt b a = false) → (dedup l).Pairwise (fun a b => labelLt a b = true)
  | [], _ => .nil
  | [y], _ => by rw [dedup]; exact List.pairwise_singleton _ _
  | y :: z :: t, h => by
    have ht := List.pairwise_cons.1 h
    rw [dedup]
    split
    · exact dedup_rises (z :: t) ht.2
    · rename_i hne
      refine List.pairwise_cons.2 ⟨fun x hx => ?_, dedup_rises (z :: t) ht.2⟩
      have hm := dedup_head (z :: t) x hx
      have hyz := ht.1 z (List.mem_cons_self ..)
      have hlt : labelLt y z = true := by
        cases hc : labelLt y z with
        | true => rfl
        | false => have := labelLt_tri hc hyz; subst this; exact absurd ⟨rfl, rfl⟩ hne
      rcases List.mem_cons.1 hm with rfl | hm
      · exact hlt
      · have hzx := (List.pairwise_cons.1 ht.2).1 x hm
        cases hc : labelLt z x with
        | true => exact labelLt_trans hlt hc
        | false => have := labelLt_tri hc hzx; subst this; exact hlt
end Go.Proofs.YthknljeffpbbmaaGreatDoor
namespace Go.Proofs.YthknljeffpbbmaaGreatDoor
open Go Go.RowKit

def copyText : ByteArray := ⟨#[114, 117, 108, 101, 32, 99, 111, 112, 121, 40, 115, 114, 99, 58, 32, 102, 105, 108, 101, 115, 41, 32, 123, 125]⟩
def copyKids : List Nd :=
  [.mk 6 ⟨#[99, 111, 112, 121]⟩ 1 1 [.mk 7 ⟨#[115, 114, 99]⟩ 1 11 [.mk 9 ⟨#[102, 105, 108, 101, 115]⟩ 1 16 []], .mk 8 ⟨#[]⟩ 1 23 []]]
theorem copy_read : readL copyText.data.toList = some (.ok (.mk 1 ⟨#[]⟩ 1 1 copyKids)) := by kernel_rfl
theorem copy_free : isTakenL [99, 111, 112, 121] = false := by kernel_rfl
theorem src_free : isTakenL [115, 114, 99] = false := by kernel_rfl
end Go.Proofs.YthknljeffpbbmaaGreatDoor
namespace Go.Proofs.YthknljeffpbbmaaGreatDoor
open Go Go.RowKit

theorem labelRead_own {n pkg : List UInt8} {x : LabelP} (h : labelRead (58 :: n) pkg = .ok x) : x.pkg = pkg := by
  unfold labelRead at h
  rw [if_pos (by rfl)] at h
  split at h
  · cases h
  · split at h
    · cases h; rfl
    · cases h
theorem zip_names : ∀ (l : List AttrP) (vs : List Vl), vs.length = l.length → ((l.zip vs).map fun p => (p.1.name, p.2)).map (·.1.data.toList) = l.map (·.name.data.toList)
  | [], _, _ => rfl
  | a :: t, [], h => by cases h
  | a :: t, v :: vs, h => by
    rw [List.zip_cons_cons, List.map_cons, List.map_cons, List.map_cons, zip_names t vs (by simpa using h)]
/-- No two attributes have one name. -/
theorem nodup_same {l : List AttrP} (hn : (l.map (·.name.data.toList)).Nodup) {i k : Nat} {a b : AttrP} (ha : l[i]? = some a) (hb : l[k]? = some b) (he : a.name.data.toList = b.name.data.toList) : i = k := by
  rw [List.Nodup, List.pairwise_map, List.pairwise_iff_getElem] at hn
  obtain ⟨hi, ga⟩ := List.getElem?_eq_some_iff.1 ha
  obtain ⟨hk, gb⟩ := List.getElem?_eq_some_iff.1 hb
  rcases Nat.lt_trichotomy i k with h | h | h
  · exact absurd (by rw [ga, gb]; exact he) (hn i k hi hk h)
  · exact h
  · exact absurd (by rw [ga, gb]; exact he.symm) (hn k i hk hi h)
/-- What the statement asks of a target's values. -/
def FitsAll (l : List AttrP) (args vals : List (ByteArray × Vl)) : Prop :=
  vals.length = l.length ∧ vals.Pairwise (fun p q => p.1.data.toList < q.1.data.toList) ∧
  ∀ p ∈ vals, (∃ a ∈ l, sameB a.name p.1 = true) ∧ ∀ a ∈ l, sameB a.name p.1 = true → fitsV a.type p.2 = true ∧ ((∃ x ∈ args, sameB a.name x.1 = true) ∨ p.2 = a.dflt)
theorem bindL_fits {rule : ByteArray} {l : List AttrP} {args : List (ByteArray × Vl)} {pkg : List UInt8} {t : TargetP} (h : bindL rule l args pkg = .ok t) :
    t.rule = rule ∧ t.label.pkg = pkg ∧ FitsAll l args t.vals := by
  unfold bindL at h
  split at h
  · cases h
  · rename_i hm
    simp only [Bool.or_eq_true, Bool.not_eq_true', not_or, Bool.not_eq_false] at hm
    have hmay := hm.1
    unfold mayAttrs at hmay
    rw [Bool.and_eq_true] at hmay
    obtain ⟨g1, -, g3⟩ := mayGo_spec l [] 0 hmay.2
    cases hg : givenL l args with
    | error e => rw [hg] at h; cases h
    | ok vs =>
      rw [hg] at h
      simp only at h
      split at h
      · cases h
      · rename_i x hx
        split at h
        · cases h
        · cases h
          have hlen := givenL_len hg
          refine ⟨rfl, labelRead_own hx, ?_⟩
          show FitsAll l args (((l.zip vs).map fun p => (p.1.name, p.2)).mergeSort leName)
          have hp := List.mergeSort_perm ((l.zip vs).map fun p => (p.1.name, p.2)) leName
          refine ⟨?_, sorted_rises (by rw [zip_names l vs hlen]; exact g3), ?_⟩
          · rw [hp.length_eq, List.length_map, List.length_zip, hlen, Nat.min_self]
          · intro p hpm
            obtain ⟨q, hq, rfl⟩ := List.mem_map.1 (hp.mem_iff.1 hpm)
            obtain ⟨i, hi⟩ := List.mem_iff_getElem?.1 hq
            rw [List.getElem?_zip_eq_some] at hi
            obtain ⟨ha, hv⟩ := hi
            refine ⟨⟨q.1, List.mem_of_getElem? ha, sameB_iff.2 rfl⟩, ?_⟩
            intro a hal hn
            obtain ⟨k, hk⟩ := List.mem_iff_getElem?.1 hal
            obtain rfl := nodup_same g3 hk ha (sameB_iff.1 hn)
            rw [ha] at hk
            cases hk
            obtain ⟨v, hv', hf, hgd⟩ := givenL_fits hg (fun a h => g1 a h) ha
            rw [hv] at hv'
            cases hv'
            exact ⟨hf, hgd⟩
end Go.Proofs.YthknljeffpbbmaaGreatDoor
