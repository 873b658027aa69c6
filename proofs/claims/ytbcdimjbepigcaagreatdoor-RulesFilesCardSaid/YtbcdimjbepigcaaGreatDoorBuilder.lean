/-
  The walks of (*strings.Builder).copyCheck and WriteString,at this translation (turned from the library's own proofs).
-/
import Derived.Test.YtbcdimjbepigcaaGreatDoorShelf
namespace Go.Proofs.YtbcdimjbepigcaaGreatDoor
set_option maxRecDepth 100000
set_option maxHeartbeats 16000000
open Go Go.RowKit
theorem bldSize:(Tryz.prog.info? 110).map (·.size)=some 2:=by kernel_rfl
theorem bldLies:liesAt Tryz.prog Tryz.prog.depth 110 (2 / Tryz.prog.cellsOf 110) 0 110 1=true:=by kernel_rfl
theorem infoByte:(Tryz.prog.info? 5).map (fun i=>(i.zero,i.size,i.bytes))=some (some (.int .u8 0),1,1):=by kernel_rfl
theorem bld_used(b w)(h0:w.cell? ⟨b,0,none⟩=some (.pointer (some ⟨b,0,none⟩))):
  Calls Tryz.prog 137 #[.pointer (some ⟨b,0,none⟩)] w fun e w'=>e = .returned (.tuple #[])/\w'=w:=by
 obtain⟨j,hj,_⟩:=Option.map_eq_some_iff.1 bldSize;go_enter Tryz.func137,Tryz.ntmps137;go_wp2;rw[Lib.run_neq_ptr_same w _ Tryz.underlying107 hj];go_wp2
 go_end0
 exact⟨rfl,rfl⟩
theorem Uy(b w)(h0:w.cell? ⟨b,0,none⟩=some (.pointer none))(hsh:w.shape? b=some (110,2))(hfz:w.frozen? ⟨b,0,none⟩=false):
  Calls Tryz.prog 137 #[.pointer (some ⟨b,0,none⟩)] w fun e w'=>e = .returned (.tuple #[])/\w'=w.setCell ⟨b,0,none⟩ (.pointer (some ⟨b,0,none⟩)):=by
 obtain⟨j,hj,hjs⟩:=Option.map_eq_some_iff.1 bldSize;go_enter Tryz.func137,Tryz.ntmps137;go_wp2;rw[Lib.run_to_unsafe w ⟨b,0,none⟩ Tryz.underlying107 Tryz.underlying226 hj (by rw[hjs];decide) hsh (Nat.zero_lt_succ 1)];simp only[Result.andThen];rw[Oper.upon_value];go_wp2;rw[run_callFunc_extern Tryz.func188 (by kernel_rfl) (by kernel_rfl) (by kernel_rfl) (e:=Extern.AbiNoEscape.same) (by kernel_rfl)];rw[Lib.run_noEscape];simp only[Result.andThen];rw[Oper.upon_value];go_wp2;rw[Lib.run_from_unsafe w ⟨b,0,none⟩ Tryz.underlying226 Tryz.underlying107 hj hsh bldLies];simp only[Result.andThen];rw[Oper.upon_value];go_wp2
 go_end0
 exact⟨rfl,rfl⟩
theorem Uz(B b bs w)(h:Lib.IsBuilder 110 5 B b bs w):
  Calls Tryz.prog 137 #[.pointer (some ⟨b,0,none⟩)] w fun e w'=>e = .returned (.tuple #[])/\(Lib.BuilderAt 110 5 B b (.pointer (some ⟨b,0,none⟩)) bs w'/\Below B w w'):=by
 rcases h with h|h
 ·refine(Uy b w h.cell0 h.shape h.frozen0).mono ?_;rintro e w' ⟨rfl,rfl⟩;exact⟨rfl,h.used _,(Below.refl B w).setCell (p:=⟨b,0,none⟩) h.1 _⟩
 ·refine(bld_used b w h.cell0).mono ?_;rintro e w' ⟨rfl,rfl⟩;exact⟨rfl,h,Below.refl B _⟩
theorem O3(B b bs s w)(h:Lib.IsBuilder 110 5 B b bs w)(hlen:bs.length+s.size<=140737488355328)(hBw:B<=w.heap.size):
  Calls Tryz.prog 93 #[.pointer (some ⟨b,0,none⟩),.string s] w fun e w'=>e = .returned (.tuple #[.int .i64 s.size,.nilIface])/\(Lib.BuilderAt 110 5 B b (.pointer (some ⟨b,0,none⟩)) (bs++Lib.strCells s) w'/\Below B w w'):=by
 obtain⟨i0,hi,hz0,hz1,hz2⟩:=info_parts infoByte;go_enter Tryz.func93,Tryz.ntmps93;go_wp2_with fail;refine(Uz B b bs _ h).mono ?_;rintro e w1 ⟨rfl,h1,aD⟩;obtain⟨hB,v,hbk,hown,hne⟩:=h1;have c0:w1.cell? ⟨b,0,none⟩=some (.pointer (some ⟨b,0,none⟩)):=(by rw[Lib.cell_of_heap hbk];rfl);have c1:w1.cell? ⟨b,1,none⟩=some v:=(by rw[Lib.cell_of_heap hbk];rfl)
 go_wp2_with (at_builtin;refine Lib.wpList_append_own_string _ rfl _ _ 108 9 rfl B 5 i0 Tryz.underlying108 Tryz.underlying9 hi hz0 hz1 hz2 _ _ _ rfl hown s rfl ?c3 ?c4 ?c5 ?_)
 case c3=>unfold maxLen;omega
 case c4=>omega
 case c5=>have:=aD.size;omega
 intro v' w2 hown' aB _;have hlt:b<w1.heap.size:=by
  rcases Nat.lt_or_ge b w1.heap.size with h'|h'
  ·exact h'
  ·simp[Array.getElem?_eq_none h'] at hbk
 have aC:w2.heap[b]? = some (.cells #[.pointer (some ⟨b,0,none⟩),v] 110 (0,0)):=by
  rw[aB.block b hlt (fun e=>hne e.symm)];exact hbk
 have d0:w2.cell? ⟨b,0,none⟩=some (.pointer (some ⟨b,0,none⟩)):=(by rw[Lib.cell_of_heap aC];rfl);have d1:w2.cell? ⟨b,1,none⟩=some v:=(by rw[Lib.cell_of_heap aC];rfl);have f1:w2.frozen? ⟨b,1,none⟩=false:=Lib.frozen_of_heap aC 1;obtain⟨ao,n',cap,rfl⟩:∃ao n' cap,v' = .slice ao n' cap:=by
  rcases hown'.2 with⟨hv,_⟩|⟨g,cap,cur,hv,_⟩
  ·exact⟨_,_,_,hv⟩
  ·exact⟨_,_,_,hv⟩
 go_wp2
 go_ret2
 refine⟨rfl,?_,?_⟩
 ·exact Lib.BuilderAt.put (T:=110) (e:=5) hB aC (bs':=bs++Lib.strCells s) (by simpa[Lib.strCells_length] using hown') (by decide)
 ·exact(aD.grown aB (by have:=aD.size;omega) (fun k hk=>(hown.lt k hk).1)).setCell (p:=⟨b,1,none⟩) hB _
end Go.Proofs.YtbcdimjbepigcaaGreatDoor