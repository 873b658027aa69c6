/-
  The kit's contracts on the keys of a map, sorted, laid at this translation (printed by the kit's lay-iter and lay-plain).
-/
import Derived.Shelf.SlIter.Nil
import Derived.Shelf.SortM.Plain
import Derived.Shelf.SortM.SortNone
import Derived.Ground.GgzProg
import Derived.Ground.SlgmProg
import Derived.Test.YtcofbdjakicojaaGreatDoorProg
namespace Go.Proofs
open Go.RowKit Go.Maps Go.Sort Go.Shelf
def Tryz.keys46_ren : Go.Shelf.Ren := ⟨fun | 7 => 46 | 10 => 65 | n => n, fun | 23 => 102 | 26 => 9 | 3 => 31 | 28 => 110 | 0 => 0 | 27 => 109 | 33 => 76 | 4 => 4 | n => n, fun | n => n⟩
theorem Tryz.keys46 : Go.Proofs.SlLaysZ.n7 Tryz.prog Tryz.keys46_ren := {
  mixed := by kernel_rfl
  f7 := ⟨Tryz.f46.name, by decide, Tryz.func46.trans (congrArg some (by kernel_rfl))⟩
  f10 := ⟨Tryz.f65.name, by decide, Tryz.func65.trans (congrArg some (by kernel_rfl))⟩
  t0 := Tryz.underlying0
  a0 := Tryz.isAgg0
  z0 := Tryz.sizeOf0
  v0 := Tryz.zeroValue0
  t4 := Tryz.underlying4
  a4 := Tryz.isAgg4
  z4 := Tryz.sizeOf4
  v4 := Tryz.zeroValue4
  t23 := Tryz.underlying102
  a23 := Tryz.isAgg102
  z23 := Tryz.sizeOf102
  v23 := Tryz.zeroValue102
  t26 := Tryz.underlying9
  a26 := Tryz.isAgg9
  z26 := Tryz.sizeOf9
  v26 := Tryz.zeroValue9
  t27 := Tryz.underlying109
  a27 := Tryz.isAgg109
  z27 := Tryz.sizeOf109
  v27 := Tryz.zeroValue109
  t28 := Tryz.underlying110
  a28 := Tryz.isAgg110
  z28 := Tryz.sizeOf110
  v28 := Tryz.zeroValue110
  t33 := Tryz.underlying76
  a33 := Tryz.isAgg76
  z33 := Tryz.sizeOf76
  v33 := Tryz.zeroValue76 }
def Tryz.sorted45_ren : Go.Shelf.Ren := ⟨fun | 6 => 45 | 8 => 63 | 9 => 64 | 11 => 103 | 13 => 105 | 12 => 104 | 23 => 144 | 24 => 145 | 14 => 135 | 15 => 136 | 16 => 137 | 17 => 138 | 18 => 139 | 19 => 140 | 20 => 141 | 21 => 142 | 22 => 143 | 25 => 158 | 26 => 159 | 27 => 160 | 28 => 161 | 29 => 162 | 30 => 163 | 31 => 185 | n => n, fun | 26 => 9 | 28 => 110 | 24 => 29 | 0 => 0 | 3 => 3 | 37 => 153 | 48 => 181 | 50 => 158 | 4 => 4 | 40 => 174 | 39 => 173 | 45 => 178 | 5 => 5 | 9 => 9 | 51 => 191 | 55 => 184 | 57 => 208 | 58 => 209 | 33 => 76 | n => n, fun | n => n⟩
theorem Tryz.sorted45 : Go.Proofs.SlLaysZ.n6 Tryz.prog Tryz.sorted45_ren := {
  mixed := by kernel_rfl
  f6 := ⟨Tryz.f45.name, by decide, Tryz.func45.trans (congrArg some (by kernel_rfl))⟩
  f8 := ⟨Tryz.f63.name, by decide, Tryz.func63.trans (congrArg some (by kernel_rfl))⟩
  f11 := ⟨Tryz.f103.name, by decide, Tryz.func103.trans (congrArg some (by kernel_rfl))⟩
  t0 := Tryz.underlying0
  a0 := Tryz.isAgg0
  z0 := Tryz.sizeOf0
  v0 := Tryz.zeroValue0
  t24 := Tryz.underlying29
  a24 := Tryz.isAgg29
  z24 := Tryz.sizeOf29
  v24 := Tryz.zeroValue29
  t26 := Tryz.underlying9
  a26 := Tryz.isAgg9
  z26 := Tryz.sizeOf9
  v26 := Tryz.zeroValue9
  t28 := Tryz.underlying110
  a28 := Tryz.isAgg110
  z28 := Tryz.sizeOf110
  v28 := Tryz.zeroValue110
  i26 := by kernel_rfl }
def Tryz.sort64_ren : Go.Shelf.Ren := ⟨fun | 6 => 64 | 8 => 105 | 9 => 104 | 19 => 144 | 20 => 145 | 21 => 135 | 22 => 136 | 23 => 137 | 24 => 138 | 25 => 139 | 26 => 140 | 27 => 141 | 28 => 142 | 29 => 143 | 36 => 158 | 31 => 159 | 32 => 160 | 37 => 161 | 38 => 162 | 39 => 163 | 41 => 185 | n => n, fun | 27 => 29 | 29 => 9 | 3 => 3 | 32 => 153 | 26 => 29 | 0 => 0 | 44 => 181 | 46 => 158 | 4 => 4 | 36 => 174 | 35 => 173 | 41 => 178 | 5 => 5 | 9 => 9 | 53 => 191 | 57 => 184 | 63 => 208 | 64 => 209 | n => n, fun | n => n⟩
theorem Tryz.sort64 : Go.Proofs.SlLaysM.n6 Tryz.prog Tryz.sort64_ren := {
  mixed := by kernel_rfl
  f6 := ⟨Tryz.f64.name, by decide, Tryz.func64.trans (congrArg some (by kernel_rfl))⟩
  f8 := Tryz.func105.trans (congrArg some (by kernel_rfl))
  f9 := ⟨Tryz.f104.name, by decide, Tryz.func104.trans (congrArg some (by kernel_rfl))⟩
  f19 := Tryz.func144.trans (congrArg some (by kernel_rfl))
  f20 := Tryz.func145.trans (congrArg some (by kernel_rfl))
  f21 := ⟨Tryz.f135.name, by decide, Tryz.func135.trans (congrArg some (by kernel_rfl))⟩
  f22 := ⟨Tryz.f136.name, by decide, Tryz.func136.trans (congrArg some (by kernel_rfl))⟩
  f23 := ⟨Tryz.f137.name, by decide, Tryz.func137.trans (congrArg some (by kernel_rfl))⟩
  f24 := ⟨Tryz.f138.name, by decide, Tryz.func138.trans (congrArg some (by kernel_rfl))⟩
  f25 := ⟨Tryz.f139.name, by decide, Tryz.func139.trans (congrArg some (by kernel_rfl))⟩
  f26 := ⟨Tryz.f140.name, by decide, Tryz.func140.trans (congrArg some (by kernel_rfl))⟩
  f27 := ⟨Tryz.f141.name, by decide, Tryz.func141.trans (congrArg some (by kernel_rfl))⟩
  f28 := ⟨Tryz.f142.name, by decide, Tryz.func142.trans (congrArg some (by kernel_rfl))⟩
  f29 := ⟨Tryz.f143.name, by decide, Tryz.func143.trans (congrArg some (by kernel_rfl))⟩
  f31 := Tryz.func159.trans (congrArg some (by kernel_rfl))
  f32 := Tryz.func160.trans (congrArg some (by kernel_rfl))
  f36 := ⟨Tryz.f158.name, by decide, Tryz.func158.trans (congrArg some (by kernel_rfl))⟩
  f37 := ⟨Tryz.f161.name, by decide, Tryz.func161.trans (congrArg some (by kernel_rfl))⟩
  f38 := ⟨Tryz.f162.name, by decide, Tryz.func162.trans (congrArg some (by kernel_rfl))⟩
  f39 := ⟨Tryz.f163.name, by decide, Tryz.func163.trans (congrArg some (by kernel_rfl))⟩
  f41 := ⟨Tryz.f185.name, by decide, Tryz.func185.trans (congrArg some (by kernel_rfl))⟩
  t0 := Tryz.underlying0
  a0 := Tryz.isAgg0
  z0 := Tryz.sizeOf0
  v0 := Tryz.zeroValue0
  t3 := Tryz.underlying3
  a3 := Tryz.isAgg3
  z3 := Tryz.sizeOf3
  v3 := Tryz.zeroValue3
  t4 := Tryz.underlying4
  a4 := Tryz.isAgg4
  z4 := Tryz.sizeOf4
  v4 := Tryz.zeroValue4
  t5 := Tryz.underlying5
  a5 := Tryz.isAgg5
  z5 := Tryz.sizeOf5
  v5 := Tryz.zeroValue5
  t9 := Tryz.underlying9
  a9 := Tryz.isAgg9
  z9 := Tryz.sizeOf9
  v9 := Tryz.zeroValue9
  t26 := Tryz.underlying29
  a26 := Tryz.isAgg29
  z26 := Tryz.sizeOf29
  v26 := Tryz.zeroValue29
  t27 := Tryz.underlying29
  a27 := Tryz.isAgg29
  z27 := Tryz.sizeOf29
  v27 := Tryz.zeroValue29
  t29 := Tryz.underlying9
  a29 := Tryz.isAgg9
  z29 := Tryz.sizeOf9
  v29 := Tryz.zeroValue9
  t32 := Tryz.underlying153
  a32 := Tryz.isAgg153
  z32 := Tryz.sizeOf153
  v32 := Tryz.zeroValue153
  t35 := Tryz.underlying173
  a35 := Tryz.isAgg173
  z35 := Tryz.sizeOf173
  v35 := Tryz.zeroValue173
  t36 := Tryz.underlying174
  a36 := Tryz.isAgg174
  z36 := Tryz.sizeOf174
  v36 := Tryz.zeroValue174
  t41 := Tryz.underlying178
  a41 := Tryz.isAgg178
  z41 := Tryz.sizeOf178
  v41 := Tryz.zeroValue178
  t44 := Tryz.underlying181
  a44 := Tryz.isAgg181
  z44 := Tryz.sizeOf181
  v44 := Tryz.zeroValue181
  t46 := Tryz.underlying158
  a46 := Tryz.isAgg158
  z46 := Tryz.sizeOf158
  v46 := Tryz.zeroValue158
  t53 := Tryz.underlying191
  a53 := Tryz.isAgg191
  z53 := Tryz.sizeOf191
  v53 := Tryz.zeroValue191
  t57 := Tryz.underlying184
  a57 := Tryz.isAgg184
  z57 := Tryz.sizeOf184
  v57 := Tryz.zeroValue184
  t63 := Tryz.underlying208
  a63 := Tryz.isAgg208
  z63 := Tryz.sizeOf208
  v63 := Tryz.zeroValue208
  t64 := Tryz.underlying209
  a64 := Tryz.isAgg209
  z64 := Tryz.sizeOf209
  v64 := Tryz.zeroValue209 }


theorem Tryz.sorts45 (m : Nat) : AnyZ.SortsIn Tryz.prog Tryz.sorted45_ren Fence.wide m :=
  ⟨fun blk off cap ss W hH hblk hsz => callsIn_wide.2 (AnyM.slices_Sort_string Tryz.sort64 blk off cap ss W hH hblk hsz),
   fun p cap W => callsIn_wide.2 (AnyM.slices_Sort_string_none Tryz.sort64 p cap W)⟩

theorem Tryz.maps_Keys_46 (mb : Option Nat) (W : World) : CallsIn Fence.wide 5 Tryz.prog 46 #[.map mb] W fun e w' => e = .returned (.func (.func 65) #[] #[.pointer (some ⟨W.heap.size, 0, none⟩)]) ∧ w' = W.alloc (.cells #[.map mb] 102) :=
  AnyZ.keys_in Tryz.keys46 Fence.wide 5 trivial rfl mb W

set_option maxHeartbeats 1000000 in
theorem Tryz.slices_Sorted_keys_45_46 {H : Type} (b nn : Nat) (D0 : DataW H) (R : Value → Option (DataW H × List MemPlace)) (w : World) (hown : w.ownsMap Tryz.prog 9 R b nn D0) (hmax : Maps.size D0 ≤ maxLen) (hbytes : Maps.size D0 * 16 ≤ 140737488355328) :
    CallsIn Fence.wide 5 Tryz.prog 45 #[.func (.func 65) #[] #[.pointer (some ⟨w.heap.size, 0, none⟩)]] (w.alloc (.cells #[.map (some b)] 102)) fun e w' => ∃ (v : Value) (ss : List (List UInt8)), e = .returned v ∧ ss.Perm (strKeys D0) ∧
      w'.ownsRow (w.alloc (.cells #[.map (some b)] 102)).heap.size 9 1 v ss.length ((ss.mergeSort (fun x y => decide (x ≤ y))).map encStr) ∧ (v = .slice none 0 0 ↔ ss = []) ∧ Below (w.alloc (.cells #[.map (some b)] 102)).heap.size (w.alloc (.cells #[.map (some b)] 102)) w' := by
  have hbl := hown.lt
  have hseq : SeqGives Fence.wide 2 Tryz.prog 65 #[.pointer (some ⟨w.heap.size, 0, none⟩)] encStr (fun ss => ss.Perm (strKeys D0)) (Maps.size D0) (w.alloc (.cells #[.map (some b)] 102)) :=
    AnyZ.keys_gives (ρ := Tryz.keys46_ren) { Tryz.keys46 with } Fence.wide _ trivial rfl (by omega) w.heap.size b nn D0 _ (by simp) (by simp) (by
      obtain ⟨es, clock, hb, Ft, hs, hD⟩ := hown
      exact ⟨es, clock, (Below.heap_alloc _ _ b hbl).trans hb, Ft, hs, hD⟩)
  exact AnyZ.sorted_in Tryz.sorted45 Fence.wide 5 trivial trivial trivial trivial rfl (by omega) (Tryz.sorts45 _) (enters_of Tryz.func64 (by kernel_rfl) rfl) 65 #[.pointer (some ⟨w.heap.size, 0, none⟩)] trivial (enters_of Tryz.func65 (by kernel_rfl) rfl) _ _ hmax hbytes _ hseq

set_option maxHeartbeats 1000000 in
theorem Tryz.slices_Sorted_keys_nil_45_46 (w : World) :
    CallsIn Fence.wide 5 Tryz.prog 45 #[.func (.func 65) #[] #[.pointer (some ⟨w.heap.size, 0, none⟩)]] (w.alloc (.cells #[.map none] 102)) fun e w' => ∃ (v : Value) (ss : List (List UInt8)), e = .returned v ∧ ss = [] ∧
      w'.ownsRow (w.alloc (.cells #[.map none] 102)).heap.size 9 1 v ss.length ((ss.mergeSort (fun x y => decide (x ≤ y))).map encStr) ∧ (v = .slice none 0 0 ↔ ss = []) ∧ Below (w.alloc (.cells #[.map none] 102)).heap.size (w.alloc (.cells #[.map none] 102)) w' := by
  have hseq : SeqGives Fence.wide 2 Tryz.prog 65 #[.pointer (some ⟨w.heap.size, 0, none⟩)] encStr (fun ss : List (List UInt8) => ss = []) 0 (w.alloc (.cells #[.map none] 102)) :=
    AnyZ.keys_gives_nil (ρ := Tryz.keys46_ren) { Tryz.keys46 with } Fence.wide _ trivial rfl w.heap.size _ (by simp) (by simp)
  exact AnyZ.sorted_in Tryz.sorted45 Fence.wide 5 trivial trivial trivial trivial rfl (by omega) (Tryz.sorts45 _) (enters_of Tryz.func64 (by kernel_rfl) rfl) 65 #[.pointer (some ⟨w.heap.size, 0, none⟩)] trivial (enters_of Tryz.func65 (by kernel_rfl) rfl) _ 0 (Nat.zero_le _) (by omega) _ hseq



end Go.Proofs
