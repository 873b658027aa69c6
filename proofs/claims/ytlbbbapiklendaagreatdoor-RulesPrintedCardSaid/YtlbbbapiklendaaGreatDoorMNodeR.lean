/-
  The walks of the reference's node,nodes and Check at a value that may be:yes. (And what it stands on.)
-/
import Derived.Sort.Walk0
import Derived.Test.YtlbbbapiklendaaGreatDoorMSameG
namespace Go.Proofs.YtlbbbapiklendaaGreatDoor
open Go Go.RowKit
open Bool renaming and_eq_true->bAt
theorem Kn{s:ByteArray}(h:s.toList.isEmpty=true):s=⟨#[]⟩:=by
 have h1:s.toList=[]:=(by simpa using h);rw[Lib.toList_data] at h1;exact bytes_ext h1
theorem node_told{k n s l ks}(h:Bz k n s l ks=true):
  (k=0/\n=0/\s=⟨#[]⟩/\l=[]/\ks=[])\/(k=1/\(n=0\/n=1)/\s=⟨#[]⟩/\l=[]/\ks=[])\/(k=2/\s=⟨#[]⟩/\l=[]/\ks=[])\/(k=3/\n=0/\s.size<=65536/\l=[]/\ks=[]) \/
   (k=4/\n=0/\s=⟨#[]⟩/\l.length<=1000/\ks=[])\/(k=5/\n=0/\s=⟨#[]⟩/\l.length=ks.length/\risesL ks=true):=by
 unfold Bz at h;split at h
 ·rename_i hk
  simp only[bAt,beq_iff_eq,List.isEmpty_iff] at h;exact .inl ⟨hk,h.1.1.1,Kn (by simpa using h.1.1.2),h.1.2,h.2⟩
 split at h
 ·rename_i hk
  simp only[bAt,Bool.or_eq_true,beq_iff_eq,List.isEmpty_iff] at h;exact .inr (.inl ⟨hk,h.1.1.1,Kn (by simpa using h.1.1.2),h.1.2,h.2⟩)
 split at h
 ·rename_i hk
  simp only[bAt,List.isEmpty_iff] at h;exact .inr (.inr (.inl ⟨hk,Kn (by simpa using h.1.1.2),h.1.2,h.2⟩))
 split at h
 ·rename_i hk
  simp only[bAt,beq_iff_eq,decide_eq_true_eq,List.isEmpty_iff] at h;exact .inr (.inr (.inr (.inl ⟨hk,h.1.1.1,h.1.1.2,h.1.2,h.2⟩)))
 split at h
 ·rename_i hk
  simp only[bAt,beq_iff_eq,decide_eq_true_eq,List.isEmpty_iff] at h;exact .inr (.inr (.inr (.inr (.inl ⟨hk,h.1.1.1,Kn (by simpa using h.1.1.2),h.1.2,h.2⟩))))
 split at h
 ·rename_i hk
  simp only[bAt,beq_iff_eq,List.isEmpty_iff] at h;exact .inr (.inr (.inr (.inr (.inr ⟨hk,h.1.1.1,Kn (by simpa using h.1.1.2),h.1.2,h.2⟩))))
 ·cases h
theorem Yc{v}(h:Am v=true):cntV v<=20000/\dpV v<=60/\nodesR v=true:=by
 unfold Am at h;obtain⟨h1,h2,h3⟩:=Np v 1 20000 h;have h4:=(Lm v 1 20000 (by omega)).2.2 h;exact⟨by omega,by omega,h2⟩
end Go.Proofs.YtlbbbapiklendaaGreatDoor
