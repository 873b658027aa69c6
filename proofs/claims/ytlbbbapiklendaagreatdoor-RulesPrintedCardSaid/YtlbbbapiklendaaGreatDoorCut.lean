/-
  Plain law:a text cut at a sign. No program in sight.
-/
import Derived.Lib.SplitLaws
namespace Go.Proofs.YtlbbbapiklendaaGreatDoor
def Bd(c:UInt8):List UInt8->List (List UInt8)
 | []=>[[]]
 | x::t=>if x=c then []::Bd c t else(x::(Bd c t).headD [])::(Bd c t).tail
theorem Kk(c s):Bd c s≠[]:=by
 cases s with
 | nil=>simp[Bd]
 | cons x t=>unfold Bd;split<;>simp
theorem O1(c s):(Bd c s).headD []::(Bd c s).tail=Bd c s:=by
 cases h:Bd c s with
 | nil=>exact absurd h (Kk c s)
 | cons a l=>rfl
theorem L5(c s)(h:c∉s):Bd c s=[s]:=by
 induction s with
 | nil=>rfl
 | cons x t ih=>
  simp only[List.mem_cons,not_or] at h;unfold Bd;rw[if_neg (fun e=>h.1 e.symm),ih h.2];rfl
theorem Aag(c a b)(h:c∉a):Bd c (a++c::b)=a::Bd c b:=by
 induction a with
 | nil=>simp[Bd]
 | cons x t ih=>
  simp only[List.mem_cons,not_or] at h;have e:Bd c ((x::t)++c::b)=(x::(Bd c (t++c::b)).headD [])::(Bd c (t++c::b)).tail:=by
   rw[List.cons_append,Bd,if_neg (fun e=>h.1 e.symm)]
  rw[e,ih h.2];rfl
theorem indexByte_hit{s}{c:UInt8}{i:Nat}(h:Lib.indexByte s c=i):i<s.length/\s[i]? = some c/\c∉s.take i:=by
 induction s generalizing i with
 | nil=>simp[Lib.indexByte] at h
 | cons x t ih=>
  unfold Lib.indexByte at h;by_cases hx:x=c
  ·subst hx;simp at h;obtain rfl:i=0:=(by omega);simp
  ·rw[if_neg (by simpa using hx)] at h;by_cases hm:Lib.indexByte t c = -1
   ·rw[if_pos (by simpa using hm)] at h;omega
   ·rw[if_neg (by simpa using hm)] at h;have hg:=Lib.indexByte_ge t c;obtain⟨k,hk⟩:∃k:Nat,Lib.indexByte t c=k:=⟨(Lib.indexByte t c).toNat,by omega⟩;obtain rfl:i=k+1:=(by omega);obtain⟨h1,h2,h3⟩:=ih hk;refine⟨by simp;omega,by simpa using h2,?_⟩;simp only[List.take_succ_cons,List.mem_cons,not_or];exact⟨fun e=>hx e.symm,h3⟩
theorem Pt{s c}(h:Lib.indexByte s c = -1):c∉s:=by
 induction s with
 | nil=>simp
 | cons x t ih=>
  unfold Lib.indexByte at h;by_cases hx:x=c
  ·subst hx;simp at h
  ·rw[if_neg (by simpa using hx)] at h;by_cases hm:Lib.indexByte t c = -1
   ·simp only[List.mem_cons,not_or];exact⟨fun e=>hx e.symm,ih hm⟩
   ·rw[if_neg (by simpa using hm)] at h;have hg:=Lib.indexByte_ge t c;omega
theorem O2{s}{c:UInt8}{i:Nat}(h:Lib.indexByte s c=i):Bd c s=s.take i::Bd c (s.drop (i+1)):=by
 obtain⟨h1,h2,h3⟩:=indexByte_hit h;have hs:s=s.take i++c::s.drop (i+1):=by
  obtain⟨h4,h5⟩:=List.getElem?_eq_some_iff.1 h2;rw[<-h5,<-List.drop_eq_getElem_cons h4,List.take_append_drop]
 rw[congrArg (Bd c) hs];exact Aag _ _ _ h3
theorem Kl{s c}(h:Lib.indexByte s c = -1):Bd c s=[s]:=L5 _ _ (Pt h)
end Go.Proofs.YtlbbbapiklendaaGreatDoor