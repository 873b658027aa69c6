/-
  Labels and names in plain words; what the library's searches say of them. No program in sight.
  The walks of label.isPkg, isName, may and Read.
  The walks of label.may and label.Read.
  The walks of rules.isTaken and path.Join.
-/
import Derived.Lib.IndexMore
import Derived.Lib.Strings
import Derived.Lib.Bytealg
import Derived.Test.YthknljeffpbbmaaGreatDoorMPathMay
import Derived.Test.YthknljeffpbbmaaGreatDoorShelf
namespace Go.Proofs.YthknljeffpbbmaaGreatDoor
open Go Go.RowKit

/-- Labels. -/
structure LabelP where
  pkg : List UInt8
  name : List UInt8
def isPkg (s : List UInt8) : Bool := s.isEmpty || pathOk s
def isNameL (s : List UInt8) : Bool := pathOk s && !s.contains 47
def labelMay (x : LabelP) : Bool := isPkg x.pkg && isNameL x.name
/-- What stands ahead of the first colon, and behind it. -/
def cutColon : List UInt8 → Option (List UInt8 × List UInt8)
  | [] => none
  | c :: t => if c = 58 then some ([], t) else (cutColon t).map fun r => (c :: r.1, r.2)
def labelRead (s pkg : List UInt8) : Except Int LabelP :=
  if s.head? = some 58 then
    if !isPkg pkg then .error 1 else if labelMay ⟨pkg, s.tail⟩ then .ok ⟨pkg, s.tail⟩ else .error 7
  else if s.take 2 = [47, 47] then
    match cutColon (s.drop 2) with
    | none => .error 3
    | some r => if labelMay ⟨r.1, r.2⟩ then .ok ⟨r.1, r.2⟩ else .error 7
  else .error 3
def pathJoin (dir s : List UInt8) : Except Int (List UInt8) :=
  if (!dir.isEmpty && !pathOk dir) || !pathOk s then .error 1 else if dir.isEmpty then .ok s else if pathOk (dir ++ [47] ++ s) then .ok (dir ++ [47] ++ s) else .error 6
/-- Names that no attribute may have but those of each rule: what stands between blanks, blanks in it too. -/
def takenT : List UInt8 := [32, 110, 97, 109, 101, 32, 112, 107, 103, 32, 108, 101, 110, 32, 106, 111, 105, 110, 32, 108, 105, 110, 101, 115, 32, 115, 111, 114, 116, 101, 100, 32, 115, 116, 114, 32, 114, 101, 112, 108, 97, 99, 101, 32, 115, 116, 101, 109, 32, 101, 120, 116, 32, 98, 97, 115, 101, 32, 103, 108, 111, 98, 32, 115, 101, 108, 101, 99, 116, 32, 97, 99, 116, 105, 111, 110, 32, 102, 105, 108, 101, 115, 32, 112, 97, 116, 104, 32, 111, 117, 116, 32, 103, 105, 118, 101, 32, 116, 114, 117, 101, 32, 102, 97, 108, 115, 101, 32, 110, 111, 110, 101, 32]
def hasIn (p : List UInt8) : List UInt8 → Bool
  | [] => p.isEmpty
  | c :: t => p.isPrefixOf (c :: t) || hasIn p t
def isTakenL (s : List UInt8) : Bool := hasIn (32 :: s ++ [32]) takenT
theorem contains_has (s p : List UInt8) : Lib.contains s p = hasIn p s := by
  unfold Lib.contains
  induction s with
  | nil =>
    unfold Lib.index hasIn
    cases p.isEmpty <;> rfl
  | cons c t ih =>
    unfold Lib.index hasIn
    cases h : p.isPrefixOf (c :: t) with
    | true => simp
    | false =>
      rw [if_neg (by simp), Bool.false_or, ← ih]
      have hg := Lib.index_ge t p
      by_cases h1 : Lib.index t p = -1
      · rw [if_pos (by rw [h1]; rfl), h1]
      · rw [if_neg (by simpa using h1)]
        have : 0 ≤ Lib.index t p := by omega
        rw [decide_eq_true this, decide_eq_true (by omega)]
theorem has_one (c : UInt8) (s : List UInt8) : hasIn [c] s = s.contains c := by
  induction s with
  | nil => rfl
  | cons x t ih =>
    unfold hasIn
    rw [ih, List.contains_cons]
    simp [List.isPrefixOf]
theorem prefix_one (c : UInt8) (s : List UInt8) : Lib.hasPrefix s [c] = (s.head? == some c) := by
  unfold Lib.hasPrefix
  cases s with
  | nil => rfl
  | cons x t =>
    simp only [List.isPrefixOf, Bool.and_true, List.head?_cons]
    rw [Bool.beq_comm]
    rfl
theorem prefix_two (a b : UInt8) (s : List UInt8) : Lib.hasPrefix s [a, b] = (s.take 2 == [a, b]) := by
  unfold Lib.hasPrefix
  cases s with
  | nil => rfl
  | cons x t =>
    cases t with
    | nil => simp [List.isPrefixOf]
    | cons y t =>
      simp only [List.isPrefixOf, Bool.and_true, List.take_succ_cons, List.take_zero]
      rw [Bool.beq_comm (a := a), Bool.beq_comm (a := b)]
      simp
/-- What is cut at the first colon. -/
theorem cut_colon (s : List UInt8) : Lib.cut s [58] = match cutColon s with | some r => (r.1, r.2, true) | none => (s, [], false) := by
  induction s with
  | nil => rfl
  | cons c t ih =>
    unfold Lib.cut at ih ⊢
    unfold cutColon
    by_cases h : c = 58
    · subst h
      have h0 : Lib.index (58 :: t) [58] = 0 := by unfold Lib.index; simp [List.isPrefixOf]
      rw [h0]
      simp
    · have hp : ([58] : List UInt8).isPrefixOf (c :: t) = false := by
        simp only [List.isPrefixOf, Bool.and_true]
        exact beq_eq_false_iff_ne.2 fun e => h e.symm
      have hg := Lib.index_ge t [58]
      rw [if_neg h]
      by_cases h1 : Lib.index t [58] = -1
      · have h0 : Lib.index (c :: t) [58] = -1 := by rw [Lib.index, hp, if_neg (by simp), if_pos (by rw [h1]; rfl)]
        rw [h1] at ih
        rw [h0]
        simp only [Int.reduceNeg, Int.reduceLE, if_false] at ih ⊢
        cases hc : cutColon t with
        | none => rfl
        | some r => rw [hc] at ih; simp at ih
      · have hge : 0 ≤ Lib.index t [58] := by omega
        have h0 : Lib.index (c :: t) [58] = Lib.index t [58] + 1 := by rw [Lib.index, hp, if_neg (by simp), if_neg (by simpa using h1)]
        rw [if_pos hge] at ih
        rw [h0, if_pos (by omega)]
        cases hc : cutColon t with
        | none => rw [hc] at ih; simp at ih
        | some r =>
          rw [hc] at ih
          simp only [Prod.mk.injEq, and_true] at ih
          simp only [Option.map_some, Prod.mk.injEq, and_true]
          have e1 : (Lib.index t [58] + 1).toNat = (Lib.index t [58]).toNat + 1 := by omega
          rw [e1, List.take_succ_cons]
          refine ⟨by rw [ih.1], ?_⟩
          rw [← ih.2]
          show List.drop ((Lib.index t [58]).toNat + 1 + 1) (c :: t) = _
          rw [List.drop_succ_cons]
          rfl
/-- What is read, as the walk meets it. -/
theorem labelRead_prog (s pkg : List UInt8) : labelRead s pkg =
    (let own := Lib.hasPrefix s [58]
     let far := Lib.hasPrefix s [47, 47]
     let c := Lib.cut (Lib.trimPrefix s [47, 47]) [58]
     if own = true then (if isPkg pkg = false then .error 1 else if labelMay ⟨pkg, c.2.1⟩ = true then .ok ⟨pkg, c.2.1⟩ else .error 7)
     else if far = false then .error 3 else if c.2.2 = false then .error 3 else if labelMay ⟨c.1, c.2.1⟩ = true then .ok ⟨c.1, c.2.1⟩ else .error 7) := by
  show labelRead s pkg = _
  simp only [prefix_one, cut_colon, Lib.trimPrefix]
  unfold labelRead
  cases s with
  | nil => rfl
  | cons x t =>
    by_cases h : x = 58
    · subst h
      have hf : Lib.hasPrefix (58 :: t) [47, 47] = false := by rw [prefix_two]; cases t <;> rfl
      have hc : cutColon (58 :: t) = some ([], t) := by unfold cutColon; simp
      rw [hf]
      simp only [List.head?_cons, BEq.rfl, if_true, Bool.false_eq_true, if_false, hc, List.tail_cons]
      cases isPkg pkg
      · rfl
      · by_cases hm : labelMay ⟨pkg, t⟩ = true
        · simp [hm]
        · simp [hm]
    · have h0 : ¬ (some x = some (58 : UInt8)) := fun e => h (Option.some.inj e)
      have hb : (some x == some (58 : UInt8)) = false := beq_eq_false_iff_ne.2 h0
      rw [List.head?_cons, if_neg h0, hb, if_neg Bool.false_ne_true]
      by_cases h2 : (x :: t).take 2 = [47, 47]
      · have hf : Lib.hasPrefix (x :: t) [47, 47] = true := by rw [prefix_two, h2]; rfl
        rw [if_pos h2, hf]
        simp only [if_true, Bool.true_eq_false, if_false, List.length_cons, List.length_nil, Nat.zero_add, Nat.reduceAdd]
        cases cutColon ((x :: t).drop 2) with
        | none => rfl
        | some r => simp
      · have hf : Lib.hasPrefix (x :: t) [47, 47] = false := by rw [prefix_two]; exact beq_eq_false_iff_ne.2 h2
        rw [if_neg h2, hf]
        rfl
end Go.Proofs.YthknljeffpbbmaaGreatDoor
namespace Go.Proofs.YthknljeffpbbmaaGreatDoor
open Go Go.RowKit

/-- What the library's searches ask of the world: how long a text may be that is searched at once is told by some number. -/
def StdB (w : World) : Prop := ∃ m, w.cell? ⟨0, 0, none⟩ = some (.int .i64 m)
theorem StdB.below {w w' : World} (h : StdB w) (hb : Below w.heap.size w w') : StdB w' := by
  obtain ⟨m, h1⟩ := h
  exact ⟨m, (hb.cell (p := ⟨0, 0, none⟩) (block_of_cell h1)).trans h1⟩

set_option maxRecDepth 100000 in
set_option maxHeartbeats 1000000 in
theorem isPkg_any (s : ByteArray) (w : World) (hs : s.size ≤ 9223372036854775807) :
    Calls Tryz.prog 45 #[.string s] w (PBelow (isPkg s.data.toList) w) := by
  by_cases h : s.toList = []
  · obtain rfl : s = ByteArray.empty := bytes_ext (by rw [← Lib.toList_data, h]; rfl)
    clear h
    go_enter Tryz.func45, Tryz.ntmps45
    go_wp2_with fail
    go_ret
    exact ⟨ret_bool rfl, Below.refl _ _⟩
  have H : Hid (isPkg s.data.toList = pathOk s.data.toList) := Lib.hid (by
    unfold isPkg
    rw [List.isEmpty_eq_false_iff.2 (by rw [← Lib.toList_data]; exact h), Bool.false_or])
  have h1 : s.toList.isEmpty = false := by simpa using h
  have h2 : (s.toList == []) = false := by simpa using h
  clear h
  go_enter Tryz.func45, Tryz.ntmps45
  go_wp2_with fail
  refine (pathMay_any s _ hs).mono ?_
  rintro e w1 ⟨rfl, hb1⟩
  go_wp2_with fail
  go_ret
  exact ⟨ret_bool H.out.symm, hb1⟩

set_option maxRecDepth 100000 in
set_option maxHeartbeats 1000000 in
theorem isName_any (s : ByteArray) (w : World) (hw : StdB w) (hs : s.size < 4294967281) :
    Calls Tryz.prog 74 #[.string s] w (PBelow (isNameL s.data.toList) w) := by
  have Hw := Lib.hid hw
  clear hw
  go_enter Tryz.func74, Tryz.ntmps74
  go_wp2_with fail
  refine (pathMay_any s _ (by omega)).mono ?_
  rintro e w1 ⟨rfl, hb1⟩
  have Hb := Lib.hid hb1
  cases hp : pathOk s.data.toList
  · have H : Hid (isNameL s.data.toList = false) := Lib.hid (by unfold isNameL; rw [hp]; rfl)
    clear hp hb1
    go_wp2_with fail
    go_ret
    exact ⟨ret_bool H.out.symm, Hb.out⟩
  · have H : Hid (isNameL s.data.toList = !(Lib.contains s.data.toList [47])) := Lib.hid (by unfold isNameL; rw [hp, contains_has, has_one]; rfl)
    obtain ⟨m, hm⟩ := Hw.out.below hb1
    clear hp hb1
    go_wp2_with fail
    refine (Tryz.strings_Contains s ⟨#[47]⟩ m _ hs hm).mono ?_
    rintro e w2 ⟨rfl, rfl⟩
    go_wp2_with fail
    go_ret
    exact ⟨ret_bool H.out.symm, Hb.out⟩
end Go.Proofs.YthknljeffpbbmaaGreatDoor
namespace Go.Proofs.YthknljeffpbbmaaGreatDoor
open Go Go.RowKit

set_option maxRecDepth 100000 in
set_option maxHeartbeats 1000000 in
theorem labelMay_any (p n : ByteArray) (w : World) (hw : StdB w) (hp : p.size < 4294967281) (hn : n.size < 4294967281) :
    Calls Tryz.prog 46 #[.agg #[.string p, .string n]] w (PBelow (labelMay ⟨p.data.toList, n.data.toList⟩) w) := by
  have Hw := Lib.hid hw
  clear hw
  go_enter Tryz.func46, Tryz.ntmps46
  go_wp2_with fail
  refine (isPkg_any p _ (by omega)).mono ?_
  rintro e w1 ⟨rfl, hb1⟩
  have c1 : w1.cell? ⟨w.heap.size, 1, none⟩ = some (.string n) := (hb1.cell (p := ⟨w.heap.size, 1, none⟩) (by simp)).trans (by go_simp)
  have hb : Below w.heap.size w w1 := ((Below.refl _ w).alloc (Nat.le_refl _) _).trans (hb1.mono (by simp))
  have HB := Lib.hid (And.intro hb (Hw.out.below hb))
  clear hb hb1
  cases hk : isPkg p.data.toList
  · have H : Hid (labelMay ⟨p.data.toList, n.data.toList⟩ = false) := Lib.hid (by unfold labelMay; rw [hk]; rfl)
    clear hk
    go_wp2_with fail
    go_ret
    exact ⟨ret_bool H.out.symm, HB.out.1⟩
  · have H : Hid (labelMay ⟨p.data.toList, n.data.toList⟩ = isNameL n.data.toList) := Lib.hid (by unfold labelMay; rw [hk]; rfl)
    clear hk
    go_wp2_with fail
    refine (isName_any n _ HB.out.2 hn).mono ?_
    rintro e w2 ⟨rfl, hb2⟩
    go_wp2_with fail
    go_ret
    exact ⟨ret_bool H.out.symm, HB.out.1.trans (hb2.mono HB.out.1.size)⟩
end Go.Proofs.YthknljeffpbbmaaGreatDoor
namespace Go.Proofs.YthknljeffpbbmaaGreatDoor
open Go Go.RowKit

set_option maxRecDepth 100000 in
set_option maxHeartbeats 2000000 in
theorem isTaken_any (s : ByteArray) (w : World) (hw : StdB w) (hs : s.size < 4294967000) :
    Calls Tryz.prog 37 #[.string s] w (PBelow (isTakenL s.data.toList) w) := by
  obtain ⟨m, hm⟩ := hw
  have hz : (⟨takenT.toArray⟩ : ByteArray).size < 4294967281 := by
    show takenT.toArray.size < _
    rw [List.size_toArray]
    have : takenT.length = 113 := by kernel_rfl
    omega
  have HC := Lib.hid (Tryz.strings_Contains ⟨takenT.toArray⟩ (⟨#[32]⟩ ++ s ++ ⟨#[32]⟩) m w hz hm)
  clear hz
  have H : Hid (Lib.contains (⟨takenT.toArray⟩ : ByteArray).data.toList (⟨#[32]⟩ ++ s ++ ⟨#[32]⟩ : ByteArray).data.toList = isTakenL s.data.toList) := Lib.hid (by
    rw [contains_has]
    unfold isTakenL
    rw [ByteArray.data_append, ByteArray.data_append, Array.toList_append, Array.toList_append]
    rfl)
  clear hm
  go_enter Tryz.func37, Tryz.ntmps37
  go_wp2_with fail
  refine HC.out.mono ?_
  rintro e w2 ⟨rfl, rfl⟩
  go_wp2_with fail
  go_ret
  exact ⟨ret_bool H.out, Below.refl _ _⟩

def PJoin (r : Except Int (List UInt8)) (w : World) (e : Ending) (w' : World) : Prop :=
  Below w.heap.size w w' ∧ match r with
    | .ok x => ∃ o : ByteArray, o.data.toList = x ∧ e = .returned (.tuple #[.string o, .int .i64 0])
    | .error k => e = .returned (.tuple #[.string ⟨#[]⟩, .int .i64 k])
set_option maxRecDepth 100000 in
set_option maxHeartbeats 2000000 in
theorem join_any (d s : ByteArray) (w : World) (hd : d.size < 4294967281) (hs : s.size < 4294967281) :
    Calls Tryz.prog 47 #[.string d, .string s] w (PJoin (pathJoin d.data.toList s.data.toList) w) := by
  by_cases h : d.toList = []
  · obtain rfl : d = ByteArray.empty := bytes_ext (by rw [← Lib.toList_data, h]; rfl)
    clear h hd
    have Hj : Hid (pathJoin (ByteArray.empty).data.toList s.data.toList = if pathOk s.data.toList = false then .error 1 else .ok s.data.toList) := Lib.hid (by
      unfold pathJoin
      show (if (!true && !pathOk []) || !pathOk s.data.toList then _ else if true = true then _ else _) = _
      cases pathOk s.data.toList <;> rfl)
    go_enter Tryz.func47, Tryz.ntmps47
    go_wp2_with fail
    refine (pathMay_any s _ (by omega)).mono ?_
    rintro e w1 ⟨rfl, hb1⟩
    have Hb1 := Lib.hid hb1
    clear hb1
    cases hp : pathOk s.data.toList
    · rw [hp, if_pos rfl] at Hj
      clear hp
      go_wp2_with fail
      refine bodyPost_ret (v := .tuple #[.string ⟨#[]⟩, .int .i64 1]) (by simp [results, Tryz.results47, go_sem]) rfl ?_
      unfold PJoin
      rw [Hj.out]
      exact ⟨Hb1.out, rfl⟩
    · rw [hp, if_neg (by decide)] at Hj
      clear hp
      go_wp2_with fail
      refine bodyPost_ret (v := .tuple #[.string s, .int .i64 0]) (by simp [results, Tryz.results47, go_sem]) rfl ?_
      unfold PJoin
      rw [Hj.out]
      exact ⟨Hb1.out, s, rfl, rfl⟩
  · have h1 : d.toList.isEmpty = false := by simpa using h
    have h2 : (d.toList == []) = false := by simpa using h
    have h3 : d.data.toList.isEmpty = false := by rw [← Lib.toList_data]; exact h1
    have hjj : pathJoin d.data.toList s.data.toList = if pathOk d.data.toList = false then .error 1 else if pathOk s.data.toList = false then .error 1 else if pathOk (d.data.toList ++ [47] ++ s.data.toList) = true then .ok (d.data.toList ++ [47] ++ s.data.toList) else .error 6 := by
      unfold pathJoin
      rw [h3]
      cases pathOk d.data.toList <;> cases pathOk s.data.toList <;> rfl
    have Hj := Lib.hid hjj
    have Hcat : Hid (d.data.toList ++ [47] ++ s.data.toList = (d ++ ⟨#[47]⟩ ++ s).data.toList) := Lib.hid (by
      rw [ByteArray.data_append, ByteArray.data_append, Array.toList_append, Array.toList_append])
    have hsz : (d ++ ⟨#[47]⟩ ++ s).size ≤ 9223372036854775807 := by
      rw [ByteArray.size_append, ByteArray.size_append]
      have : (⟨#[47]⟩ : ByteArray).size = 1 := rfl
      omega
    have HPc := Lib.hid (fun W => pathMay_any (d ++ ⟨#[47]⟩ ++ s) W hsz)
    generalize hcat : d ++ ⟨#[47]⟩ ++ s = dc at Hcat HPc
    clear h3 hjj hsz
    have hcat' : d ++ (⟨#[47]⟩ : ByteArray) ++ s = dc := hcat
    go_enter Tryz.func47, Tryz.ntmps47
    go_wp2_with fail
    refine (pathMay_any d _ (by omega)).mono ?_
    rintro e w1 ⟨rfl, hb1⟩
    have Hb1 := Lib.hid hb1
    clear hb1
    cases hp : pathOk d.data.toList
    · rw [hp, if_pos rfl] at Hj
      clear hp
      go_wp2_with fail
      refine bodyPost_ret (v := .tuple #[.string ⟨#[]⟩, .int .i64 1]) (by simp [results, Tryz.results47, go_sem]) rfl ?_
      unfold PJoin
      rw [Hj.out]
      exact ⟨Hb1.out, rfl⟩
    rw [hp, if_neg (by decide)] at Hj
    clear hp
    go_wp2_with fail
    refine (pathMay_any s _ (by omega)).mono ?_
    rintro e w2 ⟨rfl, hb2⟩
    have Hb2 := Lib.hid (Hb1.out.trans (hb2.mono Hb1.out.size))
    clear hb2 Hb1
    cases hp : pathOk s.data.toList
    · rw [hp, if_pos rfl] at Hj
      clear hp
      go_wp2_with fail
      refine bodyPost_ret (v := .tuple #[.string ⟨#[]⟩, .int .i64 1]) (by simp [results, Tryz.results47, go_sem]) rfl ?_
      unfold PJoin
      rw [Hj.out]
      exact ⟨Hb2.out, rfl⟩
    rw [hp, if_neg (by decide), Hcat.out] at Hj
    clear hp
    go_wp2_with fail
    refine (HPc.out _).mono ?_
    rintro e w3 ⟨rfl, hb3⟩
    have Hb3 := Lib.hid (Hb2.out.trans (hb3.mono Hb2.out.size))
    clear hb3 Hb2
    cases hp : pathOk dc.data.toList
    · rw [hp, if_neg (by decide)] at Hj
      clear hp
      go_wp2_with fail
      refine bodyPost_ret (v := .tuple #[.string ⟨#[]⟩, .int .i64 6]) (by simp [results, Tryz.results47, go_sem]) rfl ?_
      unfold PJoin
      rw [Hj.out]
      exact ⟨Hb3.out, rfl⟩
    · rw [hp, if_pos rfl] at Hj
      clear hp
      go_wp2_with fail
      refine bodyPost_ret (v := .tuple #[.string dc, .int .i64 0]) (by simp [results, Tryz.results47, go_sem]) rfl ?_
      unfold PJoin
      rw [Hj.out]
      exact ⟨Hb3.out, _, rfl, rfl⟩
end Go.Proofs.YthknljeffpbbmaaGreatDoor
