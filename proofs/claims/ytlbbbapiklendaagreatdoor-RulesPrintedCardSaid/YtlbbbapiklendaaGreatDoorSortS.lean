/-
  slices.Sort at a row of texts of the call's own.
-/
import Derived.Test.YtlbbbapiklendaaGreatDoorListsPlain
import Derived.Test.YtlbbbapiklendaaGreatDoorShelf
import Derived.Lib.OwnBridge
namespace Go.Proofs.YtlbbbapiklendaaGreatDoor
open Go Go.RowKit
theorem sort_own{base v ts w}(hown:OwnS w base v ts)(hlen:ts.length<=1000)(hbw:base<=w.heap.size):
  Calls Tryz.prog 37 #[v] w (fun e w'=>e = .returned (.tuple #[])/\OwnS w' base v (sortL ts)/\Below base w w'):=by
 by_cases hv0:v = .slice none 0 0
 ·subst hv0;obtain rfl:ts=[]:=by
   obtain⟨h1,⟨-,h2⟩|⟨g,cap,cur,h2,-⟩⟩:=hown
   ·exact List.length_eq_zero_iff.1 h2
   ·cases h2
  refine(Tryz.slices_Sort_string_none none 0 _).mono ?_;rintro e w1 ⟨rfl,hw⟩;rw[hw,show sortL []=[] by simp[sortL]];exact⟨rfl,hown,Below.refl _ _⟩
 ·obtain⟨g,cp,rfl,hbg,hg,hnc,hmx,-,hH⟩:=Lib.holds_of_ownsRow (enc:=encStr) (zs:=ts.map (·.data.toList)) (by rw[Lib.map_encStr];exact hown) hv0;have HS:=Tryz.slices_Sort_string g 0 cp (ts.map (·.data.toList)) _ hH hg (by rw[List.length_map];omega);rw[List.length_map] at HS;refine HS.mono ?_;rintro e w1 ⟨rfl,n1,os,rfl⟩;have aA:((ts.map (·.data.toList)).mergeSort fun x y=>decide (x<=y)).length=ts.length:=(by rw[List.length_mergeSort,List.length_map]);have hown':w.ownsRow base 9 1 (.slice (some ⟨g,0,none⟩) ts.length cp) ts.length ((ts.map (·.data.toList)).map encStr):=(by rw[Lib.map_encStr];exact hown);have hsd:(ts.map (·.data.toList)).mergeSort (fun x y=>decide (x<=y))=(sortL ts).map (·.data.toList):=(Qb ts).symm;rw[hsd] at aA |-;have h1:=Lib.ownsRow_putRow (q:=n1) hown' aA (Nat.le_refl _);have aB:=Lib.below_putRow (q:=n1) (enc:=encStr) (d:=((sortL ts).map (·.data.toList)).toArray) (Below.refl base w) hbg;have aC:=below_grown (Sort.putRow encStr (Sort.ahead w n1) g 0 ((sortL ts).map (·.data.toList)).toArray) 0 os;have h2:=OwnS.below (l:=sortL ts) (v:=.slice (some ⟨g,0,none⟩) ts.length cp) (base:=base) (by
   unfold OwnS;rw[N4];rw[List.take_of_length_le (by omega)] at h1;rw[<-Lib.map_encStr];exact h1) aC
  exact⟨rfl,h2,aB.trans (aC.mono (Nat.le_trans hbw aB.size))⟩
end Go.Proofs.YtlbbbapiklendaaGreatDoor