/-
  The kit's contracts on the keys of a map,sorted,laid at this translation (printed by the kit's lay-iter and lay-plain).
-/
import Derived.Shelf.SlIter.Nil
import Derived.Shelf.SortM.Plain
import Derived.Shelf.SortM.SortNone
import Derived.Ground.GgzProg
import Derived.Ground.SlgmProg
import Derived.Test.YtbcdimjbepigcaaGreatDoorProg
namespace Go.Proofs
open Go.RowKit Go.Maps Go.Sort Go.Shelf
def Tryz.keys41_ren:Go.Shelf.Ren:=⟨fun|7=>41|10=>68|n=>n,fun|23=>91|26=>9|3=>42|28=>99|0=>0|27=>98|33=>63|4=>4|n=>n,fun|n=>n⟩
theorem Tryz.keys41:Go.Proofs.SlLaysZ.n7 Tryz.prog Tryz.keys41_ren:={
  mixed:=by kernel_rfl
  f7:=⟨Tryz.f41.name,by decide,Tryz.func41.trans (congrArg some (by kernel_rfl))⟩
  f10:=⟨Tryz.f68.name,by decide,Tryz.func68.trans (congrArg some (by kernel_rfl))⟩
  t0:=Tryz.underlying0
  a0:=Tryz.isAgg0
  z0:=Tryz.sizeOf0
  v0:=Tryz.zeroValue0
  t4:=Tryz.underlying4
  a4:=Tryz.isAgg4
  z4:=Tryz.sizeOf4
  v4:=Tryz.zeroValue4
  t23:=Tryz.underlying91
  a23:=Tryz.isAgg91
  z23:=Tryz.sizeOf91
  v23:=Tryz.zeroValue91
  t26:=Tryz.underlying9
  a26:=Tryz.isAgg9
  z26:=Tryz.sizeOf9
  v26:=Tryz.zeroValue9
  t27:=Tryz.underlying98
  a27:=Tryz.isAgg98
  z27:=Tryz.sizeOf98
  v27:=Tryz.zeroValue98
  t28:=Tryz.underlying99
  a28:=Tryz.isAgg99
  z28:=Tryz.sizeOf99
  v28:=Tryz.zeroValue99
  t33:=Tryz.underlying63
  a33:=Tryz.isAgg63
  z33:=Tryz.sizeOf63
  v33:=Tryz.zeroValue63}
def Tryz.sorted40_ren:Go.Shelf.Ren:=⟨fun|6=>40|8=>66|9=>67|11=>121|13=>123|12=>122|23=>180|24=>181|14=>171|15=>172|16=>173|17=>174|18=>175|19=>176|20=>177|21=>178|22=>179|25=>204|26=>205|27=>206|28=>207|29=>208|30=>209|31=>238|n=>n,fun|26=>9|28=>99|24=>40|0=>0|3=>3|37=>172|48=>183|50=>197|4=>4|40=>211|39=>210|45=>215|5=>5|9=>9|51=>243|55=>123|57=>279|58=>280|33=>63|n=>n,fun|n=>n⟩
theorem Tryz.sorted40:Go.Proofs.SlLaysZ.n6 Tryz.prog Tryz.sorted40_ren:={
  mixed:=by kernel_rfl
  f6:=⟨Tryz.f40.name,by decide,Tryz.func40.trans (congrArg some (by kernel_rfl))⟩
  f8:=⟨Tryz.f66.name,by decide,Tryz.func66.trans (congrArg some (by kernel_rfl))⟩
  f11:=⟨Tryz.f121.name,by decide,Tryz.func121.trans (congrArg some (by kernel_rfl))⟩
  t0:=Tryz.underlying0
  a0:=Tryz.isAgg0
  z0:=Tryz.sizeOf0
  v0:=Tryz.zeroValue0
  t24:=Tryz.underlying40
  a24:=Tryz.isAgg40
  z24:=Tryz.sizeOf40
  v24:=Tryz.zeroValue40
  t26:=Tryz.underlying9
  a26:=Tryz.isAgg9
  z26:=Tryz.sizeOf9
  v26:=Tryz.zeroValue9
  t28:=Tryz.underlying99
  a28:=Tryz.isAgg99
  z28:=Tryz.sizeOf99
  v28:=Tryz.zeroValue99
  i26:=by kernel_rfl}
def Tryz.sort67_ren:Go.Shelf.Ren:=⟨fun|6=>67|8=>123|9=>122|19=>180|20=>181|21=>171|22=>172|23=>173|24=>174|25=>175|26=>176|27=>177|28=>178|29=>179|36=>204|31=>205|32=>206|37=>207|38=>208|39=>209|41=>238|n=>n,fun|27=>40|29=>9|3=>3|32=>172|26=>40|0=>0|44=>183|46=>197|4=>4|36=>211|35=>210|41=>215|5=>5|9=>9|53=>243|57=>123|63=>279|64=>280|n=>n,fun|n=>n⟩
theorem Tryz.sort67:Go.Proofs.SlLaysM.n6 Tryz.prog Tryz.sort67_ren:={
  mixed:=by kernel_rfl
  f6:=⟨Tryz.f67.name,by decide,Tryz.func67.trans (congrArg some (by kernel_rfl))⟩
  f8:=Tryz.func123.trans (congrArg some (by kernel_rfl))
  f9:=⟨Tryz.f122.name,by decide,Tryz.func122.trans (congrArg some (by kernel_rfl))⟩
  f19:=Tryz.func180.trans (congrArg some (by kernel_rfl))
  f20:=Tryz.func181.trans (congrArg some (by kernel_rfl))
  f21:=⟨Tryz.f171.name,by decide,Tryz.func171.trans (congrArg some (by kernel_rfl))⟩
  f22:=⟨Tryz.f172.name,by decide,Tryz.func172.trans (congrArg some (by kernel_rfl))⟩
  f23:=⟨Tryz.f173.name,by decide,Tryz.func173.trans (congrArg some (by kernel_rfl))⟩
  f24:=⟨Tryz.f174.name,by decide,Tryz.func174.trans (congrArg some (by kernel_rfl))⟩
  f25:=⟨Tryz.f175.name,by decide,Tryz.func175.trans (congrArg some (by kernel_rfl))⟩
  f26:=⟨Tryz.f176.name,by decide,Tryz.func176.trans (congrArg some (by kernel_rfl))⟩
  f27:=⟨Tryz.f177.name,by decide,Tryz.func177.trans (congrArg some (by kernel_rfl))⟩
  f28:=⟨Tryz.f178.name,by decide,Tryz.func178.trans (congrArg some (by kernel_rfl))⟩
  f29:=⟨Tryz.f179.name,by decide,Tryz.func179.trans (congrArg some (by kernel_rfl))⟩
  f31:=Tryz.func205.trans (congrArg some (by kernel_rfl))
  f32:=Tryz.func206.trans (congrArg some (by kernel_rfl))
  f36:=⟨Tryz.f204.name,by decide,Tryz.func204.trans (congrArg some (by kernel_rfl))⟩
  f37:=⟨Tryz.f207.name,by decide,Tryz.func207.trans (congrArg some (by kernel_rfl))⟩
  f38:=⟨Tryz.f208.name,by decide,Tryz.func208.trans (congrArg some (by kernel_rfl))⟩
  f39:=⟨Tryz.f209.name,by decide,Tryz.func209.trans (congrArg some (by kernel_rfl))⟩
  f41:=⟨Tryz.f238.name,by decide,Tryz.func238.trans (congrArg some (by kernel_rfl))⟩
  t0:=Tryz.underlying0
  a0:=Tryz.isAgg0
  z0:=Tryz.sizeOf0
  v0:=Tryz.zeroValue0
  t3:=Tryz.underlying3
  a3:=Tryz.isAgg3
  z3:=Tryz.sizeOf3
  v3:=Tryz.zeroValue3
  t4:=Tryz.underlying4
  a4:=Tryz.isAgg4
  z4:=Tryz.sizeOf4
  v4:=Tryz.zeroValue4
  t5:=Tryz.underlying5
  a5:=Tryz.isAgg5
  z5:=Tryz.sizeOf5
  v5:=Tryz.zeroValue5
  t9:=Tryz.underlying9
  a9:=Tryz.isAgg9
  z9:=Tryz.sizeOf9
  v9:=Tryz.zeroValue9
  t26:=Tryz.underlying40
  a26:=Tryz.isAgg40
  z26:=Tryz.sizeOf40
  v26:=Tryz.zeroValue40
  t27:=Tryz.underlying40
  a27:=Tryz.isAgg40
  z27:=Tryz.sizeOf40
  v27:=Tryz.zeroValue40
  t29:=Tryz.underlying9
  a29:=Tryz.isAgg9
  z29:=Tryz.sizeOf9
  v29:=Tryz.zeroValue9
  t32:=Tryz.underlying172
  a32:=Tryz.isAgg172
  z32:=Tryz.sizeOf172
  v32:=Tryz.zeroValue172
  t35:=Tryz.underlying210
  a35:=Tryz.isAgg210
  z35:=Tryz.sizeOf210
  v35:=Tryz.zeroValue210
  t36:=Tryz.underlying211
  a36:=Tryz.isAgg211
  z36:=Tryz.sizeOf211
  v36:=Tryz.zeroValue211
  t41:=Tryz.underlying215
  a41:=Tryz.isAgg215
  z41:=Tryz.sizeOf215
  v41:=Tryz.zeroValue215
  t44:=Tryz.underlying183
  a44:=Tryz.isAgg183
  z44:=Tryz.sizeOf183
  v44:=Tryz.zeroValue183
  t46:=Tryz.underlying197
  a46:=Tryz.isAgg197
  z46:=Tryz.sizeOf197
  v46:=Tryz.zeroValue197
  t53:=Tryz.underlying243
  a53:=Tryz.isAgg243
  z53:=Tryz.sizeOf243
  v53:=Tryz.zeroValue243
  t57:=Tryz.underlying123
  a57:=Tryz.isAgg123
  z57:=Tryz.sizeOf123
  v57:=Tryz.zeroValue123
  t63:=Tryz.underlying279
  a63:=Tryz.isAgg279
  z63:=Tryz.sizeOf279
  v63:=Tryz.zeroValue279
  t64:=Tryz.underlying280
  a64:=Tryz.isAgg280
  z64:=Tryz.sizeOf280
  v64:=Tryz.zeroValue280}


theorem Tryz.sorts40(m:Nat):AnyZ.SortsIn Tryz.prog Tryz.sorted40_ren Fence.wide m:=
  ⟨fun blk off cap ss W hH hblk hsz=>callsIn_wide.2 (AnyM.slices_Sort_string Tryz.sort67 blk off cap ss W hH hblk hsz),
   fun p cap W=>callsIn_wide.2 (AnyM.slices_Sort_string_none Tryz.sort67 p cap W)⟩

theorem Tryz.maps_Keys_41(mb:Option Nat)(W:World):CallsIn Fence.wide 5 Tryz.prog 41 #[.map mb] W fun e w'=>e = .returned (.func (.func 68) #[] #[.pointer (some ⟨W.heap.size,0,none⟩)])/\w'=W.alloc (.cells #[.map mb] 91):=
  AnyZ.keys_in Tryz.keys41 Fence.wide 5 trivial rfl mb W

set_option maxHeartbeats 1000000 in
theorem Tryz.slices_Sorted_keys_40_41{H:Type}(b nn:Nat)(D0:DataW H)(R:Value->Option (DataW H×List MemPlace))(w:World)(hown:w.ownsMap Tryz.prog 9 R b nn D0)(hmax:Maps.size D0<=maxLen)(hbytes:Maps.size D0*16<=140737488355328):
    CallsIn Fence.wide 5 Tryz.prog 40 #[.func (.func 68) #[] #[.pointer (some ⟨w.heap.size,0,none⟩)]] (w.alloc (.cells #[.map (some b)] 91)) fun e w'=>∃(v:Value) (ss:List (List UInt8)),e = .returned v/\ss.Perm (strKeys D0) /\
      w'.ownsRow (w.alloc (.cells #[.map (some b)] 91)).heap.size 9 1 v ss.length ((ss.mergeSort (fun x y=>decide (x<=y))).map encStr)/\(v = .slice none 0 0↔ss=[])/\Below (w.alloc (.cells #[.map (some b)] 91)).heap.size (w.alloc (.cells #[.map (some b)] 91)) w':=by
  have hbl:=hown.lt
  have hseq:SeqGives Fence.wide 2 Tryz.prog 68 #[.pointer (some ⟨w.heap.size,0,none⟩)] encStr (fun ss=>ss.Perm (strKeys D0)) (Maps.size D0) (w.alloc (.cells #[.map (some b)] 91)):=
    AnyZ.keys_gives (ρ:=Tryz.keys41_ren) { Tryz.keys41 with} Fence.wide _ trivial rfl (by omega) w.heap.size b nn D0 _ (by simp) (by simp) (by
      obtain⟨es,clock,hb,Ft,hs,hD⟩:=hown
      exact⟨es,clock,(Below.heap_alloc _ _ b hbl).trans hb,Ft,hs,hD⟩)
  exact AnyZ.sorted_in Tryz.sorted40 Fence.wide 5 trivial trivial trivial trivial rfl (by omega) (Tryz.sorts40 _) (enters_of Tryz.func67 (by kernel_rfl) rfl) 68 #[.pointer (some ⟨w.heap.size,0,none⟩)] trivial (enters_of Tryz.func68 (by kernel_rfl) rfl) _ _ hmax hbytes _ hseq

set_option maxHeartbeats 1000000 in
theorem Tryz.slices_Sorted_keys_nil_40_41(w:World):
    CallsIn Fence.wide 5 Tryz.prog 40 #[.func (.func 68) #[] #[.pointer (some ⟨w.heap.size,0,none⟩)]] (w.alloc (.cells #[.map none] 91)) fun e w'=>∃(v:Value) (ss:List (List UInt8)),e = .returned v/\ss=[] /\
      w'.ownsRow (w.alloc (.cells #[.map none] 91)).heap.size 9 1 v ss.length ((ss.mergeSort (fun x y=>decide (x<=y))).map encStr)/\(v = .slice none 0 0↔ss=[])/\Below (w.alloc (.cells #[.map none] 91)).heap.size (w.alloc (.cells #[.map none] 91)) w':=by
  have hseq:SeqGives Fence.wide 2 Tryz.prog 68 #[.pointer (some ⟨w.heap.size,0,none⟩)] encStr (fun ss:List (List UInt8)=>ss=[]) 0 (w.alloc (.cells #[.map none] 91)):=
    AnyZ.keys_gives_nil (ρ:=Tryz.keys41_ren) { Tryz.keys41 with} Fence.wide _ trivial rfl w.heap.size _ (by simp) (by simp)
  exact AnyZ.sorted_in Tryz.sorted40 Fence.wide 5 trivial trivial trivial trivial rfl (by omega) (Tryz.sorts40 _) (enters_of Tryz.func67 (by kernel_rfl) rfl) 68 #[.pointer (some ⟨w.heap.size,0,none⟩)] trivial (enters_of Tryz.func68 (by kernel_rfl) rfl) _ 0 (Nat.zero_le _) (by omega) _ hseq



end Go.Proofs
