/-
  The kit's contracts on the keys of a map,sorted,laid at this translation (printed by the kit's lay-iter and lay-plain).
-/
import Derived.Shelf.SlIter.Nil
import Derived.Shelf.SortM.Plain
import Derived.Shelf.SortM.SortNone
import Derived.Ground.GgzProg
import Derived.Ground.SlgmProg
import Derived.Test.YtkehdallfohjfaaGreatDoorProg
namespace Go.Proofs
open Go.RowKit Go.Maps Go.Sort Go.Shelf
def Tryz.keys163_ren:Go.Shelf.Ren:=⟨fun|7=>163|10=>190|n=>n,fun|23=>199|26=>9|3=>25|28=>207|0=>0|27=>206|33=>50|4=>4|n=>n,fun|n=>n⟩
theorem Tryz.keys163:Go.Proofs.SlLaysZ.n7 Tryz.prog Tryz.keys163_ren:={
  mixed:=by kernel_rfl
  f7:=⟨Tryz.f163.name,by decide,Tryz.func163.trans (congrArg some (by kernel_rfl))⟩
  f10:=⟨Tryz.f190.name,by decide,Tryz.func190.trans (congrArg some (by kernel_rfl))⟩
  t0:=Tryz.underlying0
  a0:=Tryz.isAgg0
  z0:=Tryz.sizeOf0
  v0:=Tryz.zeroValue0
  t4:=Tryz.underlying4
  a4:=Tryz.isAgg4
  z4:=Tryz.sizeOf4
  v4:=Tryz.zeroValue4
  t23:=Tryz.underlying199
  a23:=Tryz.isAgg199
  z23:=Tryz.sizeOf199
  v23:=Tryz.zeroValue199
  t26:=Tryz.underlying9
  a26:=Tryz.isAgg9
  z26:=Tryz.sizeOf9
  v26:=Tryz.zeroValue9
  t27:=Tryz.underlying206
  a27:=Tryz.isAgg206
  z27:=Tryz.sizeOf206
  v27:=Tryz.zeroValue206
  t28:=Tryz.underlying207
  a28:=Tryz.isAgg207
  z28:=Tryz.sizeOf207
  v28:=Tryz.zeroValue207
  t33:=Tryz.underlying50
  a33:=Tryz.isAgg50
  z33:=Tryz.sizeOf50
  v33:=Tryz.zeroValue50}
def Tryz.sorted162_ren:Go.Shelf.Ren:=⟨fun|6=>162|8=>188|9=>189|11=>211|13=>213|12=>212|23=>241|24=>166|14=>232|15=>233|16=>234|17=>235|18=>236|19=>237|20=>238|21=>239|22=>240|25=>251|26=>252|27=>253|28=>254|29=>255|30=>256|31=>261|n=>n,fun|26=>9|28=>207|24=>23|0=>0|3=>3|37=>166|48=>143|50=>157|4=>4|40=>290|39=>289|45=>294|5=>5|9=>9|51=>304|55=>91|57=>311|58=>312|33=>50|n=>n,fun|n=>n⟩
theorem Tryz.sorted162:Go.Proofs.SlLaysZ.n6 Tryz.prog Tryz.sorted162_ren:={
  mixed:=by kernel_rfl
  f6:=⟨Tryz.f162.name,by decide,Tryz.func162.trans (congrArg some (by kernel_rfl))⟩
  f8:=⟨Tryz.f188.name,by decide,Tryz.func188.trans (congrArg some (by kernel_rfl))⟩
  f11:=⟨Tryz.f211.name,by decide,Tryz.func211.trans (congrArg some (by kernel_rfl))⟩
  t0:=Tryz.underlying0
  a0:=Tryz.isAgg0
  z0:=Tryz.sizeOf0
  v0:=Tryz.zeroValue0
  t24:=Tryz.underlying23
  a24:=Tryz.isAgg23
  z24:=Tryz.sizeOf23
  v24:=Tryz.zeroValue23
  t26:=Tryz.underlying9
  a26:=Tryz.isAgg9
  z26:=Tryz.sizeOf9
  v26:=Tryz.zeroValue9
  t28:=Tryz.underlying207
  a28:=Tryz.isAgg207
  z28:=Tryz.sizeOf207
  v28:=Tryz.zeroValue207
  i26:=by kernel_rfl}
def Tryz.sort189_ren:Go.Shelf.Ren:=⟨fun|6=>189|8=>213|9=>212|19=>241|20=>166|21=>232|22=>233|23=>234|24=>235|25=>236|26=>237|27=>238|28=>239|29=>240|36=>251|31=>252|32=>253|37=>254|38=>255|39=>256|41=>261|n=>n,fun|27=>23|29=>9|3=>3|32=>166|26=>23|0=>0|44=>143|46=>157|4=>4|36=>290|35=>289|41=>294|5=>5|9=>9|53=>304|57=>91|63=>311|64=>312|n=>n,fun|n=>n⟩
theorem Tryz.sort189:Go.Proofs.SlLaysM.n6 Tryz.prog Tryz.sort189_ren:={
  mixed:=by kernel_rfl
  f6:=⟨Tryz.f189.name,by decide,Tryz.func189.trans (congrArg some (by kernel_rfl))⟩
  f8:=Tryz.func213.trans (congrArg some (by kernel_rfl))
  f9:=⟨Tryz.f212.name,by decide,Tryz.func212.trans (congrArg some (by kernel_rfl))⟩
  f19:=Tryz.func241.trans (congrArg some (by kernel_rfl))
  f20:=Tryz.func166.trans (congrArg some (by kernel_rfl))
  f21:=⟨Tryz.f232.name,by decide,Tryz.func232.trans (congrArg some (by kernel_rfl))⟩
  f22:=⟨Tryz.f233.name,by decide,Tryz.func233.trans (congrArg some (by kernel_rfl))⟩
  f23:=⟨Tryz.f234.name,by decide,Tryz.func234.trans (congrArg some (by kernel_rfl))⟩
  f24:=⟨Tryz.f235.name,by decide,Tryz.func235.trans (congrArg some (by kernel_rfl))⟩
  f25:=⟨Tryz.f236.name,by decide,Tryz.func236.trans (congrArg some (by kernel_rfl))⟩
  f26:=⟨Tryz.f237.name,by decide,Tryz.func237.trans (congrArg some (by kernel_rfl))⟩
  f27:=⟨Tryz.f238.name,by decide,Tryz.func238.trans (congrArg some (by kernel_rfl))⟩
  f28:=⟨Tryz.f239.name,by decide,Tryz.func239.trans (congrArg some (by kernel_rfl))⟩
  f29:=⟨Tryz.f240.name,by decide,Tryz.func240.trans (congrArg some (by kernel_rfl))⟩
  f31:=Tryz.func252.trans (congrArg some (by kernel_rfl))
  f32:=Tryz.func253.trans (congrArg some (by kernel_rfl))
  f36:=⟨Tryz.f251.name,by decide,Tryz.func251.trans (congrArg some (by kernel_rfl))⟩
  f37:=⟨Tryz.f254.name,by decide,Tryz.func254.trans (congrArg some (by kernel_rfl))⟩
  f38:=⟨Tryz.f255.name,by decide,Tryz.func255.trans (congrArg some (by kernel_rfl))⟩
  f39:=⟨Tryz.f256.name,by decide,Tryz.func256.trans (congrArg some (by kernel_rfl))⟩
  f41:=⟨Tryz.f261.name,by decide,Tryz.func261.trans (congrArg some (by kernel_rfl))⟩
  t0:=Tryz.underlying0
  a0:=Tryz.isAgg0
  z0:=Tryz.sizeOf0
  v0:=Tryz.zeroValue0
  t3:=Tryz.underlying3
  a3:=Tryz.isAgg3
  z3:=Tryz.sizeOf3
  v3:=Tryz.zeroValue3
  t4:=Tryz.underlying4
  a4:=Tryz.isAgg4
  z4:=Tryz.sizeOf4
  v4:=Tryz.zeroValue4
  t5:=Tryz.underlying5
  a5:=Tryz.isAgg5
  z5:=Tryz.sizeOf5
  v5:=Tryz.zeroValue5
  t9:=Tryz.underlying9
  a9:=Tryz.isAgg9
  z9:=Tryz.sizeOf9
  v9:=Tryz.zeroValue9
  t26:=Tryz.underlying23
  a26:=Tryz.isAgg23
  z26:=Tryz.sizeOf23
  v26:=Tryz.zeroValue23
  t27:=Tryz.underlying23
  a27:=Tryz.isAgg23
  z27:=Tryz.sizeOf23
  v27:=Tryz.zeroValue23
  t29:=Tryz.underlying9
  a29:=Tryz.isAgg9
  z29:=Tryz.sizeOf9
  v29:=Tryz.zeroValue9
  t32:=Tryz.underlying166
  a32:=Tryz.isAgg166
  z32:=Tryz.sizeOf166
  v32:=Tryz.zeroValue166
  t35:=Tryz.underlying289
  a35:=Tryz.isAgg289
  z35:=Tryz.sizeOf289
  v35:=Tryz.zeroValue289
  t36:=Tryz.underlying290
  a36:=Tryz.isAgg290
  z36:=Tryz.sizeOf290
  v36:=Tryz.zeroValue290
  t41:=Tryz.underlying294
  a41:=Tryz.isAgg294
  z41:=Tryz.sizeOf294
  v41:=Tryz.zeroValue294
  t44:=Tryz.underlying143
  a44:=Tryz.isAgg143
  z44:=Tryz.sizeOf143
  v44:=Tryz.zeroValue143
  t46:=Tryz.underlying157
  a46:=Tryz.isAgg157
  z46:=Tryz.sizeOf157
  v46:=Tryz.zeroValue157
  t53:=Tryz.underlying304
  a53:=Tryz.isAgg304
  z53:=Tryz.sizeOf304
  v53:=Tryz.zeroValue304
  t57:=Tryz.underlying91
  a57:=Tryz.isAgg91
  z57:=Tryz.sizeOf91
  v57:=Tryz.zeroValue91
  t63:=Tryz.underlying311
  a63:=Tryz.isAgg311
  z63:=Tryz.sizeOf311
  v63:=Tryz.zeroValue311
  t64:=Tryz.underlying312
  a64:=Tryz.isAgg312
  z64:=Tryz.sizeOf312
  v64:=Tryz.zeroValue312}


theorem Tryz.sorts162(m:Nat):AnyZ.SortsIn Tryz.prog Tryz.sorted162_ren Fence.wide m:=
  ⟨fun blk off cap ss W hH hblk hsz=>callsIn_wide.2 (AnyM.slices_Sort_string Tryz.sort189 blk off cap ss W hH hblk hsz),
   fun p cap W=>callsIn_wide.2 (AnyM.slices_Sort_string_none Tryz.sort189 p cap W)⟩

theorem Tryz.maps_Keys_163(mb:Option Nat)(W:World):CallsIn Fence.wide 5 Tryz.prog 163 #[.map mb] W fun e w'=>e = .returned (.func (.func 190) #[] #[.pointer (some ⟨W.heap.size,0,none⟩)])/\w'=W.alloc (.cells #[.map mb] 199):=
  AnyZ.keys_in Tryz.keys163 Fence.wide 5 trivial rfl mb W

set_option maxHeartbeats 1000000 in
theorem Tryz.slices_Sorted_keys_162_163{H:Type}(b nn:Nat)(D0:DataW H)(R:Value->Option (DataW H×List MemPlace))(w:World)(hown:w.ownsMap Tryz.prog 9 R b nn D0)(hmax:Maps.size D0<=maxLen)(hbytes:Maps.size D0*16<=140737488355328):
    CallsIn Fence.wide 5 Tryz.prog 162 #[.func (.func 190) #[] #[.pointer (some ⟨w.heap.size,0,none⟩)]] (w.alloc (.cells #[.map (some b)] 199)) fun e w'=>∃(v:Value) (ss:List (List UInt8)),e = .returned v/\ss.Perm (strKeys D0) /\
      w'.ownsRow (w.alloc (.cells #[.map (some b)] 199)).heap.size 9 1 v ss.length ((ss.mergeSort (fun x y=>decide (x<=y))).map encStr)/\(v = .slice none 0 0↔ss=[])/\Below (w.alloc (.cells #[.map (some b)] 199)).heap.size (w.alloc (.cells #[.map (some b)] 199)) w':=by
  have hbl:=hown.lt
  have hseq:SeqGives Fence.wide 2 Tryz.prog 190 #[.pointer (some ⟨w.heap.size,0,none⟩)] encStr (fun ss=>ss.Perm (strKeys D0)) (Maps.size D0) (w.alloc (.cells #[.map (some b)] 199)):=
    AnyZ.keys_gives (ρ:=Tryz.keys163_ren) { Tryz.keys163 with} Fence.wide _ trivial rfl (by omega) w.heap.size b nn D0 _ (by simp) (by simp) (by
      obtain⟨es,clock,hb,Ft,hs,hD⟩:=hown
      exact⟨es,clock,(Below.heap_alloc _ _ b hbl).trans hb,Ft,hs,hD⟩)
  exact AnyZ.sorted_in Tryz.sorted162 Fence.wide 5 trivial trivial trivial trivial rfl (by omega) (Tryz.sorts162 _) (enters_of Tryz.func189 (by kernel_rfl) rfl) 190 #[.pointer (some ⟨w.heap.size,0,none⟩)] trivial (enters_of Tryz.func190 (by kernel_rfl) rfl) _ _ hmax hbytes _ hseq

set_option maxHeartbeats 1000000 in
theorem Tryz.slices_Sorted_keys_nil_162_163(w:World):
    CallsIn Fence.wide 5 Tryz.prog 162 #[.func (.func 190) #[] #[.pointer (some ⟨w.heap.size,0,none⟩)]] (w.alloc (.cells #[.map none] 199)) fun e w'=>∃(v:Value) (ss:List (List UInt8)),e = .returned v/\ss=[] /\
      w'.ownsRow (w.alloc (.cells #[.map none] 199)).heap.size 9 1 v ss.length ((ss.mergeSort (fun x y=>decide (x<=y))).map encStr)/\(v = .slice none 0 0↔ss=[])/\Below (w.alloc (.cells #[.map none] 199)).heap.size (w.alloc (.cells #[.map none] 199)) w':=by
  have hseq:SeqGives Fence.wide 2 Tryz.prog 190 #[.pointer (some ⟨w.heap.size,0,none⟩)] encStr (fun ss:List (List UInt8)=>ss=[]) 0 (w.alloc (.cells #[.map none] 199)):=
    AnyZ.keys_gives_nil (ρ:=Tryz.keys163_ren) { Tryz.keys163 with} Fence.wide _ trivial rfl w.heap.size _ (by simp) (by simp)
  exact AnyZ.sorted_in Tryz.sorted162 Fence.wide 5 trivial trivial trivial trivial rfl (by omega) (Tryz.sorts162 _) (enters_of Tryz.func189 (by kernel_rfl) rfl) 190 #[.pointer (some ⟨w.heap.size,0,none⟩)] trivial (enters_of Tryz.func190 (by kernel_rfl) rfl) _ 0 (Nat.zero_le _) (by omega) _ hseq



end Go.Proofs
