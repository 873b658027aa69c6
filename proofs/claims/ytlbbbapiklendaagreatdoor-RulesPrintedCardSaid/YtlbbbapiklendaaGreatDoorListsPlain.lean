/-
  Plain law:what is joined,made lines of,sorted,and counted. No program in sight.
-/
import Derived.Test.YtlbbbapiklendaaGreatDoorMOwnLow
import Derived.Lib.Join
import Derived.Sort.KeysCollected
namespace Go.Proofs.YtlbbbapiklendaaGreatDoor
open Go Go.RowKit
open List renaming length_append->lnA
def totL(l:List ByteArray):Nat:=(l.map (fun s=>s.size+1)).sum
theorem Rz(l:List ByteArray)(j:Nat)(h:j<l.length):totL (l.take (j+1))=totL (l.take j)+(l[j].size+1):=by
 unfold totL;rw[List.take_add_one,List.getElem?_eq_getElem h,Option.toList_some,List.map_append,List.sum_append];simp
theorem Aar(l):((l.map (fun s=>s.data.toList++[10])).flatten).length=totL l:=by
 induction l with
 | nil=>rfl
 | cons x t ih=>
  rw[List.map_cons,List.flatten_cons,lnA,ih];unfold totL;rw[List.map_cons,List.sum_cons,lnA,<-Al];rfl
theorem To(sep r):(Lib.joinTail sep r).length=r.length*sep.length+(r.map List.length).sum:=by
 induction r with
 | nil=>simp[Lib.joinTail]
 | cons x t ih=>
  have:Lib.joinTail sep (x::t)=(sep++x)++Lib.joinTail sep t:=(by simp[Lib.joinTail]);rw[this,lnA,ih];simp[Nat.add_mul];omega
theorem Mr(sep l):(Lib.join l sep).length=(l.length - 1)*sep.length+(l.map List.length).sum:=by
 cases l with
 | nil=>simp[Lib.join_nil]
 | cons x r=>
  rw[Lib.join_cons,lnA,To];simp;omega
def sortL(l:List ByteArray):List ByteArray:=((l.map (·.data.toList)).mergeSort leB).map fun b=>⟨b.toArray⟩
theorem Qb(l):(sortL l).map (·.data.toList)=(l.map (·.data.toList)).mergeSort leB:=by
 rw[sortL,List.map_map]
 conv=>rhs;rw[<-List.map_id ((l.map (·.data.toList)).mergeSort leB)]
 exact List.map_congr_left (fun b _=>by simp)
theorem Qc(l):((sortL l).map (·.data.toList)).Perm (l.map (·.data.toList)):=by rw[Qb];exact List.mergeSort_perm _ _
theorem N4(l):(sortL l).length=l.length:=by
 have:=(Qc l).length_eq
 simpa using this
theorem Aas{l x}(h:x∈sortL l):∃y∈l,y.data.toList=x.data.toList:=by
 have:=(Qc l).mem_iff (a:=x.data.toList);have h1:=this.1 (List.mem_map_of_mem h);obtain⟨y,hy,he⟩:=List.mem_map.1 h1;exact⟨y,hy,he⟩
end Go.Proofs.YtlbbbapiklendaaGreatDoor