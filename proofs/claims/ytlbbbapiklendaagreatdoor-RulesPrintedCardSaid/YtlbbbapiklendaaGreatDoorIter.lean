/-
  The kit's contracts on the keys of a map,sorted,laid at this translation (printed by the kit's lay-iter and lay-plain).
-/
import Derived.Shelf.SlIter.Nil
import Derived.Shelf.SortM.Plain
import Derived.Shelf.SortM.SortNone
import Derived.Test.YtlbbbapiklendaaGreatDoorProg
namespace Go.Proofs
open Go.RowKit Go.Maps Go.Sort Go.Shelf
def Tryz.keys22_ren:Go.Shelf.Ren:=⟨fun|7=>22|10=>38|n=>n,fun|23=>71|26=>9|3=>53|28=>79|0=>0|27=>78|33=>49|4=>4|n=>n,fun|n=>n⟩
theorem Tryz.keys22:Go.Proofs.SlLaysZ.n7 Tryz.prog Tryz.keys22_ren:={
  mixed:=by kernel_rfl
  f7:=⟨Tryz.f22.name,by decide,Tryz.func22.trans (congrArg some (by kernel_rfl))⟩
  f10:=⟨Tryz.f38.name,by decide,Tryz.func38.trans (congrArg some (by kernel_rfl))⟩
  t0:=Tryz.underlying0
  a0:=Tryz.isAgg0
  z0:=Tryz.sizeOf0
  v0:=Tryz.zeroValue0
  t4:=Tryz.underlying4
  a4:=Tryz.isAgg4
  z4:=Tryz.sizeOf4
  v4:=Tryz.zeroValue4
  t23:=Tryz.underlying71
  a23:=Tryz.isAgg71
  z23:=Tryz.sizeOf71
  v23:=Tryz.zeroValue71
  t26:=Tryz.underlying9
  a26:=Tryz.isAgg9
  z26:=Tryz.sizeOf9
  v26:=Tryz.zeroValue9
  t27:=Tryz.underlying78
  a27:=Tryz.isAgg78
  z27:=Tryz.sizeOf78
  v27:=Tryz.zeroValue78
  t28:=Tryz.underlying79
  a28:=Tryz.isAgg79
  z28:=Tryz.sizeOf79
  v28:=Tryz.zeroValue79
  t33:=Tryz.underlying49
  a33:=Tryz.isAgg49
  z33:=Tryz.sizeOf49
  v33:=Tryz.zeroValue49}
def Tryz.sorted21_ren:Go.Shelf.Ren:=⟨fun|6=>21|8=>36|9=>37|11=>79|13=>81|12=>80|23=>138|24=>139|14=>129|15=>130|16=>131|17=>132|18=>133|19=>134|20=>135|21=>136|22=>137|25=>165|26=>166|27=>167|28=>168|29=>169|30=>170|31=>199|n=>n,fun|26=>9|28=>79|24=>51|0=>0|3=>3|37=>141|48=>178|50=>156|4=>4|40=>171|39=>170|45=>175|5=>5|9=>9|51=>207|55=>206|57=>246|58=>247|33=>49|n=>n,fun|n=>n⟩
theorem Tryz.sorted21:Go.Proofs.SlLaysZ.n6 Tryz.prog Tryz.sorted21_ren:={
  mixed:=by kernel_rfl
  f6:=⟨Tryz.f21.name,by decide,Tryz.func21.trans (congrArg some (by kernel_rfl))⟩
  f8:=⟨Tryz.f36.name,by decide,Tryz.func36.trans (congrArg some (by kernel_rfl))⟩
  f11:=⟨Tryz.f79.name,by decide,Tryz.func79.trans (congrArg some (by kernel_rfl))⟩
  t0:=Tryz.underlying0
  a0:=Tryz.isAgg0
  z0:=Tryz.sizeOf0
  v0:=Tryz.zeroValue0
  t24:=Tryz.underlying51
  a24:=Tryz.isAgg51
  z24:=Tryz.sizeOf51
  v24:=Tryz.zeroValue51
  t26:=Tryz.underlying9
  a26:=Tryz.isAgg9
  z26:=Tryz.sizeOf9
  v26:=Tryz.zeroValue9
  t28:=Tryz.underlying79
  a28:=Tryz.isAgg79
  z28:=Tryz.sizeOf79
  v28:=Tryz.zeroValue79
  i26:=by kernel_rfl}
def Tryz.sort37_ren:Go.Shelf.Ren:=⟨fun|6=>37|8=>81|9=>80|19=>138|20=>139|21=>129|22=>130|23=>131|24=>132|25=>133|26=>134|27=>135|28=>136|29=>137|36=>165|31=>166|32=>167|37=>168|38=>169|39=>170|41=>199|n=>n,fun|27=>51|29=>9|3=>3|32=>141|26=>51|0=>0|44=>178|46=>156|4=>4|36=>171|35=>170|41=>175|5=>5|9=>9|53=>207|57=>206|63=>246|64=>247|n=>n,fun|n=>n⟩
theorem Tryz.sort37:Go.Proofs.SlLaysM.n6 Tryz.prog Tryz.sort37_ren:={
  mixed:=by kernel_rfl
  f6:=⟨Tryz.f37.name,by decide,Tryz.func37.trans (congrArg some (by kernel_rfl))⟩
  f8:=Tryz.func81.trans (congrArg some (by kernel_rfl))
  f9:=⟨Tryz.f80.name,by decide,Tryz.func80.trans (congrArg some (by kernel_rfl))⟩
  f19:=Tryz.func138.trans (congrArg some (by kernel_rfl))
  f20:=Tryz.func139.trans (congrArg some (by kernel_rfl))
  f21:=⟨Tryz.f129.name,by decide,Tryz.func129.trans (congrArg some (by kernel_rfl))⟩
  f22:=⟨Tryz.f130.name,by decide,Tryz.func130.trans (congrArg some (by kernel_rfl))⟩
  f23:=⟨Tryz.f131.name,by decide,Tryz.func131.trans (congrArg some (by kernel_rfl))⟩
  f24:=⟨Tryz.f132.name,by decide,Tryz.func132.trans (congrArg some (by kernel_rfl))⟩
  f25:=⟨Tryz.f133.name,by decide,Tryz.func133.trans (congrArg some (by kernel_rfl))⟩
  f26:=⟨Tryz.f134.name,by decide,Tryz.func134.trans (congrArg some (by kernel_rfl))⟩
  f27:=⟨Tryz.f135.name,by decide,Tryz.func135.trans (congrArg some (by kernel_rfl))⟩
  f28:=⟨Tryz.f136.name,by decide,Tryz.func136.trans (congrArg some (by kernel_rfl))⟩
  f29:=⟨Tryz.f137.name,by decide,Tryz.func137.trans (congrArg some (by kernel_rfl))⟩
  f31:=Tryz.func166.trans (congrArg some (by kernel_rfl))
  f32:=Tryz.func167.trans (congrArg some (by kernel_rfl))
  f36:=⟨Tryz.f165.name,by decide,Tryz.func165.trans (congrArg some (by kernel_rfl))⟩
  f37:=⟨Tryz.f168.name,by decide,Tryz.func168.trans (congrArg some (by kernel_rfl))⟩
  f38:=⟨Tryz.f169.name,by decide,Tryz.func169.trans (congrArg some (by kernel_rfl))⟩
  f39:=⟨Tryz.f170.name,by decide,Tryz.func170.trans (congrArg some (by kernel_rfl))⟩
  f41:=⟨Tryz.f199.name,by decide,Tryz.func199.trans (congrArg some (by kernel_rfl))⟩
  t0:=Tryz.underlying0
  a0:=Tryz.isAgg0
  z0:=Tryz.sizeOf0
  v0:=Tryz.zeroValue0
  t3:=Tryz.underlying3
  a3:=Tryz.isAgg3
  z3:=Tryz.sizeOf3
  v3:=Tryz.zeroValue3
  t4:=Tryz.underlying4
  a4:=Tryz.isAgg4
  z4:=Tryz.sizeOf4
  v4:=Tryz.zeroValue4
  t5:=Tryz.underlying5
  a5:=Tryz.isAgg5
  z5:=Tryz.sizeOf5
  v5:=Tryz.zeroValue5
  t9:=Tryz.underlying9
  a9:=Tryz.isAgg9
  z9:=Tryz.sizeOf9
  v9:=Tryz.zeroValue9
  t26:=Tryz.underlying51
  a26:=Tryz.isAgg51
  z26:=Tryz.sizeOf51
  v26:=Tryz.zeroValue51
  t27:=Tryz.underlying51
  a27:=Tryz.isAgg51
  z27:=Tryz.sizeOf51
  v27:=Tryz.zeroValue51
  t29:=Tryz.underlying9
  a29:=Tryz.isAgg9
  z29:=Tryz.sizeOf9
  v29:=Tryz.zeroValue9
  t32:=Tryz.underlying141
  a32:=Tryz.isAgg141
  z32:=Tryz.sizeOf141
  v32:=Tryz.zeroValue141
  t35:=Tryz.underlying170
  a35:=Tryz.isAgg170
  z35:=Tryz.sizeOf170
  v35:=Tryz.zeroValue170
  t36:=Tryz.underlying171
  a36:=Tryz.isAgg171
  z36:=Tryz.sizeOf171
  v36:=Tryz.zeroValue171
  t41:=Tryz.underlying175
  a41:=Tryz.isAgg175
  z41:=Tryz.sizeOf175
  v41:=Tryz.zeroValue175
  t44:=Tryz.underlying178
  a44:=Tryz.isAgg178
  z44:=Tryz.sizeOf178
  v44:=Tryz.zeroValue178
  t46:=Tryz.underlying156
  a46:=Tryz.isAgg156
  z46:=Tryz.sizeOf156
  v46:=Tryz.zeroValue156
  t53:=Tryz.underlying207
  a53:=Tryz.isAgg207
  z53:=Tryz.sizeOf207
  v53:=Tryz.zeroValue207
  t57:=Tryz.underlying206
  a57:=Tryz.isAgg206
  z57:=Tryz.sizeOf206
  v57:=Tryz.zeroValue206
  t63:=Tryz.underlying246
  a63:=Tryz.isAgg246
  z63:=Tryz.sizeOf246
  v63:=Tryz.zeroValue246
  t64:=Tryz.underlying247
  a64:=Tryz.isAgg247
  z64:=Tryz.sizeOf247
  v64:=Tryz.zeroValue247}


theorem Tryz.sorts21(m:Nat):AnyZ.SortsIn Tryz.prog Tryz.sorted21_ren Fence.wide m:=
  ⟨fun blk off cap ss W hH hblk hsz=>callsIn_wide.2 (AnyM.slices_Sort_string Tryz.sort37 blk off cap ss W hH hblk hsz),
   fun p cap W=>callsIn_wide.2 (AnyM.slices_Sort_string_none Tryz.sort37 p cap W)⟩

theorem Tryz.maps_Keys_22(mb:Option Nat)(W:World):CallsIn Fence.wide 5 Tryz.prog 22 #[.map mb] W fun e w'=>e = .returned (.func (.func 38) #[] #[.pointer (some ⟨W.heap.size,0,none⟩)])/\w'=W.alloc (.cells #[.map mb] 71):=
  AnyZ.keys_in Tryz.keys22 Fence.wide 5 trivial rfl mb W

set_option maxHeartbeats 1000000 in
theorem Tryz.slices_Sorted_keys_21_22{H:Type}(b nn:Nat)(D0:DataW H)(R:Value->Option (DataW H×List MemPlace))(w:World)(hown:w.ownsMap Tryz.prog 9 R b nn D0)(hmax:Maps.size D0<=maxLen)(hbytes:Maps.size D0*16<=140737488355328):
    CallsIn Fence.wide 5 Tryz.prog 21 #[.func (.func 38) #[] #[.pointer (some ⟨w.heap.size,0,none⟩)]] (w.alloc (.cells #[.map (some b)] 71)) fun e w'=>∃(v:Value) (ss:List (List UInt8)),e = .returned v/\ss.Perm (strKeys D0) /\
      w'.ownsRow (w.alloc (.cells #[.map (some b)] 71)).heap.size 9 1 v ss.length ((ss.mergeSort (fun x y=>decide (x<=y))).map encStr)/\(v = .slice none 0 0↔ss=[])/\Below (w.alloc (.cells #[.map (some b)] 71)).heap.size (w.alloc (.cells #[.map (some b)] 71)) w':=by
  have hbl:=hown.lt
  have hseq:SeqGives Fence.wide 2 Tryz.prog 38 #[.pointer (some ⟨w.heap.size,0,none⟩)] encStr (fun ss=>ss.Perm (strKeys D0)) (Maps.size D0) (w.alloc (.cells #[.map (some b)] 71)):=
    AnyZ.keys_gives (ρ:=Tryz.keys22_ren) { Tryz.keys22 with} Fence.wide _ trivial rfl (by omega) w.heap.size b nn D0 _ (by simp) (by simp) (by
      obtain⟨es,clock,hb,Ft,hs,hD⟩:=hown
      exact⟨es,clock,(Below.heap_alloc _ _ b hbl).trans hb,Ft,hs,hD⟩)
  exact AnyZ.sorted_in Tryz.sorted21 Fence.wide 5 trivial trivial trivial trivial rfl (by omega) (Tryz.sorts21 _) (enters_of Tryz.func37 (by kernel_rfl) rfl) 38 #[.pointer (some ⟨w.heap.size,0,none⟩)] trivial (enters_of Tryz.func38 (by kernel_rfl) rfl) _ _ hmax hbytes _ hseq

set_option maxHeartbeats 1000000 in
theorem Tryz.slices_Sorted_keys_nil_21_22(w:World):
    CallsIn Fence.wide 5 Tryz.prog 21 #[.func (.func 38) #[] #[.pointer (some ⟨w.heap.size,0,none⟩)]] (w.alloc (.cells #[.map none] 71)) fun e w'=>∃(v:Value) (ss:List (List UInt8)),e = .returned v/\ss=[] /\
      w'.ownsRow (w.alloc (.cells #[.map none] 71)).heap.size 9 1 v ss.length ((ss.mergeSort (fun x y=>decide (x<=y))).map encStr)/\(v = .slice none 0 0↔ss=[])/\Below (w.alloc (.cells #[.map none] 71)).heap.size (w.alloc (.cells #[.map none] 71)) w':=by
  have hseq:SeqGives Fence.wide 2 Tryz.prog 38 #[.pointer (some ⟨w.heap.size,0,none⟩)] encStr (fun ss:List (List UInt8)=>ss=[]) 0 (w.alloc (.cells #[.map none] 71)):=
    AnyZ.keys_gives_nil (ρ:=Tryz.keys22_ren) { Tryz.keys22 with} Fence.wide _ trivial rfl w.heap.size _ (by simp) (by simp)
  exact AnyZ.sorted_in Tryz.sorted21 Fence.wide 5 trivial trivial trivial trivial rfl (by omega) (Tryz.sorts21 _) (enters_of Tryz.func37 (by kernel_rfl) rfl) 38 #[.pointer (some ⟨w.heap.size,0,none⟩)] trivial (enters_of Tryz.func38 (by kernel_rfl) rfl) _ 0 (Nat.zero_le _) (by omega) _ hseq



end Go.Proofs
