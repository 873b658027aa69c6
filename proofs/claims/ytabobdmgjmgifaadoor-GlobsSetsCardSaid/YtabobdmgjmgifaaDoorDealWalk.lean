/-
  The walk of globs.Match's inner function: it deals the names to the parts, and keeps in a map from which places it was found that they can't be dealt.
-/
import Derived.Test.YtabobdmgjmgifaaDoorOne
import Derived.Test.YtabobdmgjmgifaaDoorDeal
import Derived.Test.YtabobdmgjmgifaaDoorRawMap
import Derived.Test.YtabobdmgjmgifaaDoorMay
import Derived.Test.YtabobdmgjmgifaaDoorRegionMix
import Derived.Deep.RegionWith
import Derived.IntWalk
namespace Go.Proofs.YtabobdmgjmgifaaDoor
open Go Go.RowKit Go.WideMaps

theorem laidOut : laidOutB Tryd.prog = true := by kernel_rfl
theorem rowPair : (41 : TypeId) < Tryd.prog.types.size := of_decide_eq_true (by kernel_rfl)
theorem cellsPair : Tryd.prog.cellsOf 41 = 2 := by kernel_rfl
theorem widePair : (match Tryd.prog.underlying 41 with | some (.array _ _) | some (.struct _) => true | _ => false) = true := by rw [Tryd.underlying41]
set_option maxRecDepth 100000 in
theorem pairKeyed : Maps.Keyed Tryd.prog 41 := Maps.Keyed.of_law (deep_law_laid laidOut (m := 2) (by omega) rowPair (by kernel_rfl) widePair)
theorem pairArr : ArrKey Tryd.prog 41 3 2 := ⟨Tryd.underlying41, by kernel_rfl, by kernel_rfl, cellsPair⟩
theorem typesSize : ∃ m, Tryd.prog.types.size = m + 1 := ⟨Tryd.prog.types.size - 1, by have h := rowPair; have h2 : 0 < Tryd.prog.types.size := Nat.lt_of_le_of_lt (Nat.zero_le _) h; omega⟩
theorem zeroBool (w : World) : (zeroValue 4).run Tryd.prog w = .ok (.bool false) w := by kernel_rfl
theorem pairKey (i k : Nat) (hi : i ≤ 9223372036854775807) (hk : k ≤ 9223372036854775807) : ∃ l, keyOf Tryd.prog 41 (.agg #[.int .i64 i, .int .i64 k]) = some l :=
  ⟨_, keyOf_pair pairArr Tryd.underlying3 typesSize (WalkArith.wf_i64 (by omega)) (WalkArith.wf_i64 (by omega))⟩

/-- The places of what Match keeps: the two variables of slices, that of the map, that of the function; the map itself; the slices' arrays. -/
structure Places where
  vp : Nat
  vn : Nat
  vm : Nat
  vd : Nat
  m : Nat
  ap : Nat
  an : Nat

def bytesOf (l : List ByteArray) : List Bs := l.map (·.data.toList)

/-- What is remembered is true. -/
def MemoOk (ps ns : List Bs) (m : List (Value × Value)) : Prop := ∀ p ∈ m, ∃ (i k : Nat) (b : Bool), p.1 = .agg #[.int .i64 i, .int .i64 k] ∧ p.2 = .bool b ∧ (b = true → dealAt ps ns i k = false)

def DealInv (w0 : World) (L : Places) (parts names : List ByteArray) (W : World) : Prop :=
  W.cell? ⟨L.vp, 0, none⟩ = some (.slice (some ⟨L.ap, 0, none⟩) parts.length parts.length) ∧
  W.cell? ⟨L.vn, 0, none⟩ = some (.slice (some ⟨L.an, 0, none⟩) names.length names.length) ∧
  W.cell? ⟨L.vm, 0, none⟩ = some (.map (some L.m)) ∧
  W.cell? ⟨L.vd, 0, none⟩ = some (.func (.func 31) #[] #[.pointer (some ⟨L.vp, 0, none⟩), .pointer (some ⟨L.vn, 0, none⟩), .pointer (some ⟨L.vm, 0, none⟩), .pointer (some ⟨L.vd, 0, none⟩)]) ∧
  StrsAt W (some ⟨L.ap, 0, none⟩) parts ∧ StrsAt W (some ⟨L.an, 0, none⟩) names ∧
  (∃ m, RawMap W L.m m ∧ KeysOk Tryd.prog 41 m ∧ MemoOk (bytesOf parts) (bytesOf names) m) ∧
  w0.heap.size ≤ L.m ∧ Below w0.heap.size w0 W

theorem DealInv.drewN {w0 : World} {L : Places} {parts names : List ByteArray} {W : World} (h : DealInv w0 L parts names W) (n : Nat) : DealInv w0 L parts names (W.drewN n) := by
  obtain ⟨h1, h2, h3, h4, h5, h6, ⟨m, h7, h8, h9⟩, h10, h11⟩ := h
  exact ⟨h1, h2, h3, h4, h5, h6, ⟨m, h7, h8, h9⟩, h10, ⟨h11.os, h11.tape, h11.output, h11.size, h11.block⟩⟩

theorem cell_putObj_map {A : World} {k : Nat} {o : Obj} {a : Addr} {v : Value} {m : List (Value × Value)} (h : A.cell? a = some v) (hm : RawMap A k m) : (A.putObj k o).cell? a = some v := by
  rw [← h]
  apply cell_putObj
  intro e
  obtain ⟨es, c, hb, -⟩ := hm
  unfold World.cell? at h
  rw [e, hb] at h
  cases h
theorem DealInv.put {w0 : World} {L : Places} {parts names : List ByteArray} {W : World} (h : DealInv w0 L parts names W) {o : Obj} {m' : List (Value × Value)} (hm : RawMap (W.putObj L.m o) L.m m') (hk : KeysOk Tryd.prog 41 m') (hd : MemoOk (bytesOf parts) (bytesOf names) m') :
    DealInv w0 L parts names (W.putObj L.m o) := by
  obtain ⟨h1, h2, h3, h4, h5, h6, ⟨m, h7, h8, h9⟩, h10, h11⟩ := h
  refine ⟨cell_putObj_map h1 h7, cell_putObj_map h2 h7, cell_putObj_map h3 h7, cell_putObj_map h4 h7, ?_, ?_, ⟨m', hm, hk, hd⟩, h10, below_putObj h11 _ h10⟩
  · intro j x hx; obtain ⟨b, off, e, hc⟩ := h5 j x hx; exact ⟨b, off, e, cell_putObj_map hc h7⟩
  · intro j x hx; obtain ⟨b, off, e, hc⟩ := h6 j x hx; exact ⟨b, off, e, cell_putObj_map hc h7⟩

/-- The look-up, at the places (i, k). -/
theorem DealInv.look {w0 : World} {L : Places} {parts names : List ByteArray} {W : World} (h : DealInv w0 L parts names W) {i k : Nat} (hi : i ≤ 9223372036854775807) (hk : k ≤ 9223372036854775807) :
    ∃ b, (Instr.lookup 39 (.map (some L.m)) (.agg #[.int .i64 i, .int .i64 k]) false).run Tryd.prog W = .ok (.bool b) W ∧ (b = true → dealAt (bytesOf parts) (bytesOf names) i k = false) := by
  obtain ⟨-, -, -, -, -, -, ⟨m, h7, h8, h9⟩, -, -⟩ := h
  obtain ⟨l, hl⟩ := pairKey i k hi hk
  rcases h7.look false pairKeyed Tryd.underlying39 (zeroBool W) h8 hl with ⟨-, hr⟩ | ⟨j, v, hj, hr⟩
  · exact ⟨false, hr, fun e => by cases e⟩
  · obtain ⟨i', k', b, e1, e2, e3⟩ := h9 _ (List.mem_of_getElem? hj)
    obtain rfl : v = .bool b := e2
    refine ⟨b, hr, fun e => ?_⟩
    simp only [Value.agg.injEq, Array.mk.injEq, List.cons.injEq, Value.int.injEq, true_and, and_true] at e1
    obtain ⟨q1, q2⟩ := e1
    have := e3 e
    rwa [show i' = i by omega, show k' = k by omega] at this
/-- The store. -/
theorem DealInv.store {w0 : World} {L : Places} {parts names : List ByteArray} {W : World} (h : DealInv w0 L parts names W) {i k : Nat} (hi : i ≤ 9223372036854775807) (hk : k ≤ 9223372036854775807) (b : Bool) (hb : b = true → dealAt (bytesOf parts) (bytesOf names) i k = false) :
    ∃ W', (Instr.mapUpdate 39 (.map (some L.m)) (.agg #[.int .i64 i, .int .i64 k]) (.bool b)).run Tryd.prog W = .ok () W' ∧ DealInv w0 L parts names W' := by
  have hh := h
  obtain ⟨-, -, -, -, -, -, ⟨m, h7, h8, h9⟩, -, -⟩ := h
  obtain ⟨l, hl⟩ := pairKey i k hi hk
  obtain ⟨o, m', hr, hm, hs⟩ := h7.store pairKeyed Tryd.underlying39 h8 hl (.bool b)
  refine ⟨_, hr, hh.put hm (hs.keys h8 hl) ?_⟩
  intro p hp
  rcases hs.mem hp with h | rfl
  · exact h9 p h
  · exact ⟨i, k, b, rfl, rfl, hb⟩

def PDeal (w0 : World) (L : Places) (parts names : List ByteArray) (b : Bool) (e : Ending) (w' : World) : Prop := e = .returned (.bool b) ∧ DealInv w0 L parts names w'

theorem len_bytes (l : List ByteArray) : (bytesOf l).length = l.length := List.length_map ..
theorem get_bytes {l : List ByteArray} {i : Nat} (h : i < l.length) : (bytesOf l)[i]? = some l[i].data.toList := by
  unfold bytesOf; rw [List.getElem?_map, List.getElem?_eq_getElem h]; rfl

set_option maxRecDepth 100000 in
set_option maxHeartbeats 400000 in
theorem deal_end (w0 : World) (L : Places) (parts names : List ByteArray) (k : Nat) (W : World) (hk : k ≤ names.length) (hW : DealInv w0 L parts names W) :
    Calls Tryd.prog 31 #[.int .i64 parts.length, .int .i64 k, .pointer (some ⟨L.vp, 0, none⟩), .pointer (some ⟨L.vn, 0, none⟩), .pointer (some ⟨L.vm, 0, none⟩), .pointer (some ⟨L.vd, 0, none⟩)] W (PDeal w0 L parts names (dealAt (bytesOf parts) (bytesOf names) parts.length k)) := by
  have hW' := hW
  obtain ⟨c1, c2, c3, c4, s1, s2, -, -, -⟩ := hW'
  have HW := Lib.hid hW
  clear hW s1 s2
  go_enter Tryd.func31, Tryd.ntmps31
  go_wp2_with fail
  go_ret
  refine ⟨ret_bool ?_, HW.out⟩
  rw [dealAt_end (len_bytes parts).symm, len_bytes, Bool.eq_iff_iff, beq_iff_eq, decide_eq_true_eq]
  omega


set_option maxRecDepth 100000 in
set_option maxHeartbeats 400000 in
/-- The map remembers that it can't be. -/
theorem deal_memo (w0 : World) (L : Places) (parts names : List ByteArray) (_hp : parts.length ≤ 1000000) (_hn : names.length ≤ 1000000) (i k : Nat) (W : World) (hilt : i < parts.length) (_hk : k ≤ names.length) (hW : DealInv w0 L parts names W)
    (hlook : (Instr.lookup 39 (.map (some L.m)) (.agg #[.int .i64 i, .int .i64 k]) false).run Tryd.prog W = .ok (.bool true) W) (hno : dealAt (bytesOf parts) (bytesOf names) i k = false) :
    Calls Tryd.prog 31 #[.int .i64 i, .int .i64 k, .pointer (some ⟨L.vp, 0, none⟩), .pointer (some ⟨L.vn, 0, none⟩), .pointer (some ⟨L.vm, 0, none⟩), .pointer (some ⟨L.vd, 0, none⟩)] W (PDeal w0 L parts names (dealAt (bytesOf parts) (bytesOf names) i k)) := by
  have hie' : ((i : Int) == (parts.length : Int)) = false := by simp; omega
  have hW' := hW
  obtain ⟨c1, c2, c3, c4, s1, s2, -, -, -⟩ := hW'
  obtain ⟨b1, o1, e1, hc1⟩ := s1.at hilt
  cases e1
  rw [Nat.zero_add] at hc1
  have HW := Lib.hid hW
  have S2 := Lib.hid s2
  have HI := Lib.hid (get_bytes hilt)
  clear hW s1 s2
  have Hno := Lib.hid hno
  clear hno
  go_enter Tryd.func31, Tryd.ntmps31
  go_wp2_with fail
  go_ret
  exact ⟨ret_bool Hno.out.symm, HW.out⟩

set_option maxRecDepth 100000 in
set_option maxHeartbeats 400000 in
theorem deal_name_out (w0 : World) (L : Places) (parts names : List ByteArray) (_hp : parts.length ≤ 1000000) (_hn : names.length ≤ 1000000) (i k : Nat) (W : World) (hilt : i < parts.length) (_hk : k ≤ names.length) (hW : DealInv w0 L parts names W)
    (hlook : (Instr.lookup 39 (.map (some L.m)) (.agg #[.int .i64 i, .int .i64 k]) false).run Tryd.prog W = .ok (.bool false) W) (hst : (parts[i].toList == [42, 42]) = false) (hkn : k = names.length) :
    Calls Tryd.prog 31 #[.int .i64 i, .int .i64 k, .pointer (some ⟨L.vp, 0, none⟩), .pointer (some ⟨L.vn, 0, none⟩), .pointer (some ⟨L.vm, 0, none⟩), .pointer (some ⟨L.vd, 0, none⟩)] W (PDeal w0 L parts names (dealAt (bytesOf parts) (bytesOf names) i k)) := by
  have hie' : ((i : Int) == (parts.length : Int)) = false := by simp; omega
  have hW' := hW
  obtain ⟨c1, c2, c3, c4, s1, s2, -, -, -⟩ := hW'
  obtain ⟨b1, o1, e1, hc1⟩ := s1.at hilt
  cases e1
  rw [Nat.zero_add] at hc1
  have HW := Lib.hid hW
  have S2 := Lib.hid s2
  have HI := Lib.hid (get_bytes hilt)
  clear hW s1 s2
  have Hst : Hid (parts[i].data.toList ≠ [42, 42]) := Lib.hid (by rw [← Lib.toList_data]; exact beq_eq_false_iff_ne.1 hst)
  have Hd := Lib.hid (dealAt_none HI.out Hst.out (show (bytesOf names).length ≤ k by rw [len_bytes]; omega))
  have hd1 : decide ((k : Int) < (names.length : Int)) = false := by simp; omega
  subst hkn
  go_enter Tryd.func31, Tryd.ntmps31
  go_wp2_with fail
  go_quiet (fail)
  go_wp2_with fail
  go_ret
  exact ⟨ret_bool Hd.out.symm, HW.out.drewN _⟩

set_option maxRecDepth 100000 in
set_option maxHeartbeats 1000000 in
theorem deal_name_no (w0 : World) (L : Places) (parts names : List ByteArray) (_hp : parts.length ≤ 1000000) (_hn : names.length ≤ 1000000) (i k : Nat) (W : World) (hilt : i < parts.length) (_hk : k ≤ names.length) (hW : DealInv w0 L parts names W)
    (hlook : (Instr.lookup 39 (.map (some L.m)) (.agg #[.int .i64 i, .int .i64 k]) false).run Tryd.prog W = .ok (.bool false) W) (hst : (parts[i].toList == [42, 42]) = false) (hkn : k < names.length) (hps : parts[i].size ≤ 9223372036854775807) (hns : names[k].size ≤ 9223372036854775807) (hwild : wild parts[i].data.toList names[k].data.toList = false) :
    Calls Tryd.prog 31 #[.int .i64 i, .int .i64 k, .pointer (some ⟨L.vp, 0, none⟩), .pointer (some ⟨L.vn, 0, none⟩), .pointer (some ⟨L.vm, 0, none⟩), .pointer (some ⟨L.vd, 0, none⟩)] W (PDeal w0 L parts names (dealAt (bytesOf parts) (bytesOf names) i k)) := by
  have hie' : ((i : Int) == (parts.length : Int)) = false := by simp; omega
  have hW' := hW
  obtain ⟨c1, c2, c3, c4, s1, s2, -, -, -⟩ := hW'
  obtain ⟨b1, o1, e1, hc1⟩ := s1.at hilt
  cases e1
  rw [Nat.zero_add] at hc1
  have HW := Lib.hid hW
  have S2 := Lib.hid s2
  have HI := Lib.hid (get_bytes hilt)
  clear hW s1 s2
  have Hst : Hid (parts[i].data.toList ≠ [42, 42]) := Lib.hid (by rw [← Lib.toList_data]; exact beq_eq_false_iff_ne.1 hst)
  obtain ⟨b2, o2, e2, hc2⟩ := S2.out.at hkn
  cases e2
  rw [Nat.zero_add] at hc2
  have Hd := Lib.hid (dealAt_name HI.out Hst.out (get_bytes hkn))
  have hd1 : decide ((k : Int) < (names.length : Int)) = true := by simp; omega
  have Hone : ∀ n, Hid (Calls Tryd.prog 32 #[.string parts[i], .string names[k]] (W.drewN n) fun e w' => e = .returned (.bool false) ∧ ∃ m, w' = (W.drewN n).drewN m) := fun n =>
    Lib.hid ((one_any _ _ _ hps hns).mono (by rw [hwild]; exact fun _ _ h => h))
  have Hwild := Lib.hid hwild
  clear hwild
  go_enter Tryd.func31, Tryd.ntmps31
  go_wp2_with fail
  go_quiet ((go_at_call 32; exact Calls.quiet_of (Hone _).out))
  go_wp2_with fail
  go_ret
  exact ⟨ret_bool (by rw [Hd.out, Hwild.out]; rfl), HW.out.drewN _⟩

set_option maxRecDepth 100000 in
set_option maxHeartbeats 8000000 in
theorem deal_name_yes (w0 : World) (L : Places) (parts names : List ByteArray) (_hp : parts.length ≤ 1000000) (_hn : names.length ≤ 1000000) (i k : Nat) (W : World) (hilt : i < parts.length) (_hk : k ≤ names.length) (hW : DealInv w0 L parts names W)
    (hlook : (Instr.lookup 39 (.map (some L.m)) (.agg #[.int .i64 i, .int .i64 k]) false).run Tryd.prog W = .ok (.bool false) W) (hst : (parts[i].toList == [42, 42]) = false) (hkn : k < names.length) (hps : parts[i].size ≤ 9223372036854775807) (hns : names[k].size ≤ 9223372036854775807) (hwild : wild parts[i].data.toList names[k].data.toList = true)
    (hnext : ∀ W', DealInv w0 L parts names W' → Calls Tryd.prog 31 #[.int .i64 ((i : Int) + 1), .int .i64 ((k : Int) + 1), .pointer (some ⟨L.vp, 0, none⟩), .pointer (some ⟨L.vn, 0, none⟩), .pointer (some ⟨L.vm, 0, none⟩), .pointer (some ⟨L.vd, 0, none⟩)] W' (PDeal w0 L parts names (dealAt (bytesOf parts) (bytesOf names) (i + 1) (k + 1)))) :
    Calls Tryd.prog 31 #[.int .i64 i, .int .i64 k, .pointer (some ⟨L.vp, 0, none⟩), .pointer (some ⟨L.vn, 0, none⟩), .pointer (some ⟨L.vm, 0, none⟩), .pointer (some ⟨L.vd, 0, none⟩)] W (PDeal w0 L parts names (dealAt (bytesOf parts) (bytesOf names) i k)) := by
  have hie' : ((i : Int) == (parts.length : Int)) = false := by simp; omega
  have hW' := hW
  obtain ⟨c1, c2, c3, c4, s1, s2, -, -, -⟩ := hW'
  obtain ⟨b1, o1, e1, hc1⟩ := s1.at hilt
  cases e1
  rw [Nat.zero_add] at hc1
  have HW := Lib.hid hW
  have S2 := Lib.hid s2
  have HI := Lib.hid (get_bytes hilt)
  clear hW s1 s2
  have Hst : Hid (parts[i].data.toList ≠ [42, 42]) := Lib.hid (by rw [← Lib.toList_data]; exact beq_eq_false_iff_ne.1 hst)
  obtain ⟨b2, o2, e2, hc2⟩ := S2.out.at hkn
  cases e2
  rw [Nat.zero_add] at hc2
  have Hd := Lib.hid (dealAt_name HI.out Hst.out (get_bytes hkn))
  have hd1 : decide ((k : Int) < (names.length : Int)) = true := by simp; omega
  have Hone : ∀ n, Hid (Calls Tryd.prog 32 #[.string parts[i], .string names[k]] (W.drewN n) fun e w' => e = .returned (.bool true) ∧ ∃ m, w' = (W.drewN n).drewN m) := fun n =>
    Lib.hid ((one_any _ _ _ hps hns).mono (by rw [hwild]; exact fun _ _ h => h))
  have Hwild := Lib.hid hwild
  have Hnext := Lib.hid hnext
  clear hwild hnext
  have Hwi := Lib.hid (IntWalk.i64_in ((i : Int) + 1) (by omega))
  have Hwk := Lib.hid (IntWalk.i64_in ((k : Int) + 1) (by omega))
  go_enter Tryd.func31, Tryd.ntmps31
  go_wp2_with fail
  refine wp_region_mix [21] (by kernel_rfl) (by kernel_rfl) ?_
  refine mix_quiet 21 (by decide) ?_
  simp only [List.take_succ_cons, List.take_zero, List.drop_succ_cons, List.drop_zero]
  repeat (first
    | go_big_quiet_step ((go_at_call 32; exact Calls.quiet_of (Hone _).out))
    | quiet_step ((go_at_call 32; exact Calls.quiet_of (Hone _).out)))
  refine wpQuiet_nil ?_
  refine mix_heavy (by decide) (fun n K hK => ?_)
  go_wp2_with fail
  refine (Hnext.out _ (HW.out.drewN _)).mono ?_
  rintro e w' ⟨rfl, hW2⟩
  go_wp2_with fail
  refine mix_quiet 2 (by decide) ?_
  simp only [List.take_succ_cons, List.take_zero, List.drop_succ_cons, List.drop_zero]
  repeat (first
    | go_big_quiet_step (fail)
    | quiet_step (fail))
  refine wpQuiet_nil ?_
  refine mix_end (fun n => ?_)
  go_wp2_with fail
  go_ret
  refine ⟨ret_bool ?_, hW2.drewN _⟩
  rw [Hd.out, Hwild.out, Bool.true_and]


set_option maxRecDepth 100000 in
set_option maxHeartbeats 400000 in
theorem deal_last (w0 : World) (L : Places) (parts names : List ByteArray) (_hp : parts.length ≤ 1000000) (_hn : names.length ≤ 1000000) (i k : Nat) (W : World) (hilt : i < parts.length) (_hk : k ≤ names.length) (hW : DealInv w0 L parts names W)
    (hlook : (Instr.lookup 39 (.map (some L.m)) (.agg #[.int .i64 i, .int .i64 k]) false).run Tryd.prog W = .ok (.bool false) W) (hst : (parts[i].toList == [42, 42]) = true) (hl : i + 1 = parts.length) :
    Calls Tryd.prog 31 #[.int .i64 i, .int .i64 k, .pointer (some ⟨L.vp, 0, none⟩), .pointer (some ⟨L.vn, 0, none⟩), .pointer (some ⟨L.vm, 0, none⟩), .pointer (some ⟨L.vd, 0, none⟩)] W (PDeal w0 L parts names (dealAt (bytesOf parts) (bytesOf names) i k)) := by
  have hie' : ((i : Int) == (parts.length : Int)) = false := by simp; omega
  have hW' := hW
  obtain ⟨c1, c2, c3, c4, s1, s2, -, -, -⟩ := hW'
  obtain ⟨b1, o1, e1, hc1⟩ := s1.at hilt
  cases e1
  rw [Nat.zero_add] at hc1
  have HW := Lib.hid hW
  have S2 := Lib.hid s2
  have HI := Lib.hid (get_bytes hilt)
  clear hW s1 s2
  have hl' : ((i : Int) == (parts.length : Int) - 1) = true := by simp; omega
  have Hst : Hid (parts[i].data.toList = [42, 42]) := Lib.hid (by rw [← Lib.toList_data]; exact beq_iff_eq.1 hst)
  have Hd := Lib.hid (dealAt_last (ps := bytesOf parts) (ns := bytesOf names) (k := k) (by rw [HI.out, Hst.out]) (by rw [len_bytes]; omega))
  go_enter Tryd.func31, Tryd.ntmps31
  go_wp2_with fail
  go_ret
  refine ⟨ret_bool ?_, HW.out⟩
  rw [Hd.out, len_bytes, decide_eq_decide]

set_option maxRecDepth 100000 in
set_option maxHeartbeats 1000000 in
theorem deal_stars (w0 : World) (L : Places) (parts names : List ByteArray) (_hp : parts.length ≤ 1000000) (_hn : names.length ≤ 1000000) (i k : Nat) (W : World) (hilt : i < parts.length) (_hk : k ≤ names.length) (hW : DealInv w0 L parts names W)
    (hlook : (Instr.lookup 39 (.map (some L.m)) (.agg #[.int .i64 i, .int .i64 k]) false).run Tryd.prog W = .ok (.bool false) W) (hst : (parts[i].toList == [42, 42]) = true) (hl : i + 1 < parts.length)
    (hnext1 : ∀ W', DealInv w0 L parts names W' → Calls Tryd.prog 31 #[.int .i64 ((i : Int) + 1), .int .i64 k, .pointer (some ⟨L.vp, 0, none⟩), .pointer (some ⟨L.vn, 0, none⟩), .pointer (some ⟨L.vm, 0, none⟩), .pointer (some ⟨L.vd, 0, none⟩)] W' (PDeal w0 L parts names (dealAt (bytesOf parts) (bytesOf names) (i + 1) k)))
    (hnext2 : k < names.length → ∀ W', DealInv w0 L parts names W' → Calls Tryd.prog 31 #[.int .i64 i, .int .i64 ((k : Int) + 1), .pointer (some ⟨L.vp, 0, none⟩), .pointer (some ⟨L.vn, 0, none⟩), .pointer (some ⟨L.vm, 0, none⟩), .pointer (some ⟨L.vd, 0, none⟩)] W' (PDeal w0 L parts names (dealAt (bytesOf parts) (bytesOf names) i (k + 1)))) :
    Calls Tryd.prog 31 #[.int .i64 i, .int .i64 k, .pointer (some ⟨L.vp, 0, none⟩), .pointer (some ⟨L.vn, 0, none⟩), .pointer (some ⟨L.vm, 0, none⟩), .pointer (some ⟨L.vd, 0, none⟩)] W (PDeal w0 L parts names (dealAt (bytesOf parts) (bytesOf names) i k)) := by
  have hie' : ((i : Int) == (parts.length : Int)) = false := by simp; omega
  have hW' := hW
  obtain ⟨c1, c2, c3, c4, s1, s2, -, -, -⟩ := hW'
  obtain ⟨b1, o1, e1, hc1⟩ := s1.at hilt
  cases e1
  rw [Nat.zero_add] at hc1
  have HW := Lib.hid hW
  have S2 := Lib.hid s2
  have HI := Lib.hid (get_bytes hilt)
  clear hW s1 s2
  have hl' : ((i : Int) == (parts.length : Int) - 1) = false := by simp; omega
  have Hst : Hid (parts[i].data.toList = [42, 42]) := Lib.hid (by rw [← Lib.toList_data]; exact beq_iff_eq.1 hst)
  have Hd := Lib.hid (dealAt_stars (ps := bytesOf parts) (ns := bytesOf names) (k := k) (by rw [HI.out, Hst.out]) (by rw [len_bytes]; omega))
  have H1 := Lib.hid hnext1
  have H2 := Lib.hid hnext2
  clear hnext1 hnext2
  go_enter Tryd.func31, Tryd.ntmps31
  go_wp2_with fail
  refine (H1.out _ HW.out).mono ?_
  rintro e w1 ⟨rfl, hW1⟩
  cases h1 : dealAt (bytesOf parts) (bytesOf names) (i + 1) k
  · have Hf1 := Lib.hid h1
    clear h1
    have hW1' := hW1
    obtain ⟨d1, d2, d3, d4, -, -, -, -, -⟩ := hW1'
    have HW1 := Lib.hid hW1
    clear hW1
    by_cases hkn : k < names.length
    · have hd1 : decide ((k : Int) < (names.length : Int)) = true := by simp; omega
      go_wp2_with fail
      refine (H2.out hkn _ HW1.out).mono ?_
      rintro e w2 ⟨rfl, hW2⟩
      cases h2 : dealAt (bytesOf parts) (bytesOf names) i (k + 1)
      · have Hf2 : Hid (dealAt (bytesOf parts) (bytesOf names) i k = false) := Lib.hid (by rw [Hd.out, Hf1.out, h2, Bool.and_false]; rfl)
        clear h2
        have hW2' := hW2
        obtain ⟨e1, e2, e3, e4, -, -, -, -, -⟩ := hW2'
        obtain ⟨W3, hst3, hW3⟩ := hW2.store (i := i) (k := k) (by omega) (by omega) true (fun _ => Hf2.out)
        have HW3 := Lib.hid hW3
        clear hW2 hW3
        go_wp2_with fail
        go_ret
        exact ⟨ret_bool Hf2.out.symm, HW3.out⟩
      · have Hf2 : Hid (dealAt (bytesOf parts) (bytesOf names) i k = true) := Lib.hid (by rw [Hd.out, Hf1.out, h2, len_bytes, decide_eq_true hkn]; rfl)
        clear h2
        have hW2' := hW2
        obtain ⟨e1, e2, e3, e4, -, -, -, -, -⟩ := hW2'
        obtain ⟨W3, hst3, hW3⟩ := hW2.store (i := i) (k := k) (by omega) (by omega) false (fun h => by cases h)
        have HW3 := Lib.hid hW3
        clear hW2 hW3
        go_wp2_with fail
        go_ret
        exact ⟨ret_bool Hf2.out.symm, HW3.out⟩
    · have hd1 : decide ((k : Int) < (names.length : Int)) = false := by simp; omega
      have Hf2 : Hid (dealAt (bytesOf parts) (bytesOf names) i k = false) := Lib.hid (by rw [Hd.out, Hf1.out, len_bytes, decide_eq_false hkn]; rfl)
      obtain ⟨W3, hst3, hW3⟩ := HW1.out.store (i := i) (k := k) (by omega) (by omega) true (fun _ => Hf2.out)
      have HW3 := Lib.hid hW3
      clear hW3
      go_wp2_with fail
      go_ret
      exact ⟨ret_bool Hf2.out.symm, HW3.out⟩
  · have Hf2 : Hid (dealAt (bytesOf parts) (bytesOf names) i k = true) := Lib.hid (by rw [Hd.out, h1]; rfl)
    clear h1
    have hW2' := hW1
    obtain ⟨e1, e2, e3, e4, -, -, -, -, -⟩ := hW2'
    obtain ⟨W3, hst3, hW3⟩ := hW1.store (i := i) (k := k) (by omega) (by omega) false (fun h => by cases h)
    have HW3 := Lib.hid hW3
    clear hW1 hW3
    go_wp2_with fail
    go_ret
    exact ⟨ret_bool Hf2.out.symm, HW3.out⟩

theorem deal_any (w0 : World) (L : Places) (parts names : List ByteArray) (hp : parts.length ≤ 1000000) (hn : names.length ≤ 1000000) (hps : ∀ x ∈ parts, x.size ≤ 9223372036854775807) (hns : ∀ x ∈ names, x.size ≤ 9223372036854775807) (f : Nat) :
    ∀ (i k : Nat) (W : World), i ≤ parts.length → k ≤ names.length → (parts.length - i) + (names.length - k) ≤ f → DealInv w0 L parts names W →
    Calls Tryd.prog 31 #[.int .i64 i, .int .i64 k, .pointer (some ⟨L.vp, 0, none⟩), .pointer (some ⟨L.vn, 0, none⟩), .pointer (some ⟨L.vm, 0, none⟩), .pointer (some ⟨L.vd, 0, none⟩)] W (PDeal w0 L parts names (dealAt (bytesOf parts) (bytesOf names) i k)) := by
  induction f with
  | zero =>
    intro i k W hi hk hf hW
    obtain rfl : i = parts.length := by omega
    exact deal_end w0 L parts names k W hk hW
  | succ f ih =>
    intro i k W hi hk hf hW
    by_cases hie : i = parts.length
    · subst hie; exact deal_end w0 L parts names k W hk hW
    have hilt : i < parts.length := by omega
    obtain ⟨bl, hlook, hbl⟩ := hW.look (i := i) (k := k) (by omega) (by omega)
    cases bl with
    | true => exact deal_memo w0 L parts names hp hn i k W hilt hk hW hlook (hbl rfl)
    | false =>
      cases hst : (parts[i].toList == [42, 42]) with
      | false =>
        by_cases hkn : k < names.length
        · cases hwild : wild parts[i].data.toList names[k].data.toList with
          | false => exact deal_name_no w0 L parts names hp hn i k W hilt hk hW hlook hst hkn (hps _ (List.getElem_mem hilt)) (hns _ (List.getElem_mem hkn)) hwild
          | true => exact deal_name_yes w0 L parts names hp hn i k W hilt hk hW hlook hst hkn (hps _ (List.getElem_mem hilt)) (hns _ (List.getElem_mem hkn)) hwild (fun W' h => ih (i + 1) (k + 1) W' (by omega) (by omega) (by omega) h)
        · exact deal_name_out w0 L parts names hp hn i k W hilt hk hW hlook hst (by omega)
      | true =>
        by_cases hl : i + 1 = parts.length
        · exact deal_last w0 L parts names hp hn i k W hilt hk hW hlook hst hl
        · exact deal_stars w0 L parts names hp hn i k W hilt hk hW hlook hst (by omega) (fun W' h => ih (i + 1) k W' (by omega) (by omega) (by omega) h) (fun hkn W' h => ih i (k + 1) W' (by omega) (by omega) (by omega) h)

end Go.Proofs.YtabobdmgjmgifaaDoor
