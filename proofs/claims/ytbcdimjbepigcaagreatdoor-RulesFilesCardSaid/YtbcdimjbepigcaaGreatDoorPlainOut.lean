/-
  Plain law:what the plain host answers is small;its errors have a number. No program in sight.
-/
import Derived.Test.YtbcdimjbepigcaaGreatDoorPlainA
import Derived.Test.YtbcdimjbepigcaaGreatDoorMNodeR
namespace Go.Proofs.YtbcdimjbepigcaaGreatDoor
open Go Go.RowKit
open Nat renaming zero_le->nlz
open Bool renaming and_eq_true->bAt
def Gz(r:Except Int Vl):Prop:=match r with
 | .ok x=>A6 x
 | .error y=>y≠0
theorem Jr(s)(h:s.size<=9223372036854775807):A6 (Fk s):=by
 unfold Fk;rw[A6];exact⟨⟨h,rfl⟩,nlz _,nlz _,fun s hs=>(by cases hs),by simp[B4]⟩
theorem Gk(s):Gz (B8 s):=by
 unfold B8;split
 ·exact(by decide:(6:Int)≠0)
 ·exact Jr s (by omega)
theorem Pr(n:Nat)(h:n<=9223372036854775807):A6 (.mk 2 n ⟨#[]⟩ [] []):=by
 rw[A6];refine⟨⟨nlz _,?_⟩,nlz _,nlz _,fun s hs=>(by cases hs),by simp[B4]⟩;unfold inR;rw[bAt,decide_eq_true_eq,decide_eq_true_eq];omega
theorem Si{v}(h:A0 v=true):Gz (F6 v):=by
 obtain⟨k,n,s,l,ks⟩:=v;obtain⟨h1,h2,-⟩:=check_len h;unfold F6;split
 ·exact Pr s.size (by omega)
 ·split
  ·exact Pr l.length (by omega)
  ·exact(by decide:(9:Int)≠0)
theorem small_strs:∀(l:List ByteArray),(∀s∈l,s.size<=9223372036854775807)->B4 (strsV l)
 | [],_=>by simp[strsV,B4]
 | s::t,h=>by
  have:=small_strs t (fun x hx=>h x (List.mem_cons_of_mem _ hx));unfold strsV at this |-;rw[List.map_cons,B4];exact⟨Jr s (h s (List.mem_cons_self ..)),this⟩
theorem node_str{k n s l ks}(h:By k n s l ks=true):s.size<=65536:=by
 rcases node_told h with⟨-,-,rfl,-⟩|⟨-,-,rfl,-⟩|⟨-,rfl,-⟩|⟨-,-,h,-⟩|⟨-,-,rfl,-⟩|⟨-,-,rfl,-⟩
 ·exact nlz _
 ·exact nlz _
 ·exact nlz _
 ·exact h
 ·exact nlz _
 ·exact nlz _
theorem Sj(ts):(linesB ts).size=totL ts:=F1 ts
theorem Sk{v ts}(h:B9 v=some ts):ts.length<=1000/\∀s∈ts,s.size<=65536:=by
 obtain⟨k,n,s,l,ks⟩:=v;unfold B9 at h;split at h
 ·rename_i hc
  cases h;refine⟨by rw[List.length_map];exact(check_len hc.2.1).2.1,fun s hs=>?_⟩;obtain⟨x,hx,rfl⟩:=List.mem_map.1 hs;obtain⟨xk,xn,xs,xl,xks⟩:=x;have h1:=(Tl hc.2.1).2.2;rw[nodesR,bAt] at h1;obtain⟨j,hj⟩:=List.getElem?_of_mem hx;have h2:=Rs h1.1 hj;rw[nodesR,bAt] at h2;exact node_str h2.2
 ·cases h
theorem Sl(v):Gz (sortedL v):=by
 unfold sortedL;cases h:B9 v with
 | none=>exact(by decide:(9:Int)≠0)
 | some ts=>
  obtain⟨h1,h2⟩:=Sk h;show A6 (.mk 4 0 ⟨#[]⟩ (strsV (sortL ts)) []);rw[A6];refine⟨⟨nlz _,rfl⟩,by unfold strsV;rw[List.length_map,Lv];omega,nlz _,fun s hs=>(by cases hs),small_strs _ (fun s hs=>?_)⟩;obtain⟨y,hy,he⟩:=Vt hs;have h3:=h2 y hy;have h4:=congrArg List.length he;rw[Ax,Ax] at h4;omega
theorem Wt(u v):Gz (joinL u v):=by
 unfold joinL;split
 ·exact(by decide:(9:Int)≠0)
 ·cases h:B9 v with
  | none=>exact(by decide:(9:Int)≠0)
  | some ts=>
   simp only;split
   ·exact(by decide:(6:Int)≠0)
   ·rename_i hle
    refine Jr _ ?_;rw[Nn];omega
theorem T1(v):Gz (linesL v):=by
 unfold linesL;cases h:B9 v with
 | none=>exact(by decide:(9:Int)≠0)
 | some ts=>
  simp only;split
  ·exact(by decide:(6:Int)≠0)
  ·rename_i hle
   refine Jr _ ?_;rw[Sj];omega
theorem Wu(v):Gz (Le v):=by
 unfold Le;split
 ·exact Gk _
 ·split
  ·exact(by decide:(6:Int)≠0)
  ·exact Gk _
theorem L2(of v):Gz (Jg of v):=by
 unfold Jg;split
 ·exact(by decide:(9:Int)≠0)
 ·split
  ·exact(by decide:(1:Int)≠0)
  ·exact Gk _
theorem Wv(l):Gz (I3 l):=by
 unfold I3;split
 ·unfold Jj;split
  ·exact(by decide:(1:Int)≠0)
  ·split
   ·exact(by decide:(6:Int)≠0)
   ·exact Gk _
 ·exact(by decide:(9:Int)≠0)
theorem E8{n f l}(h:Gz (f (l.map (·.2)))):Gz (Fx n f l):=by
 unfold Fx;split
 ·exact h
 ·exact(by decide:(1:Int)≠0)
theorem G0{f l}(h:∀v∈l,Gz (f v)):Gz (one f l):=by
 unfold one;split
 ·exact h _ (List.mem_cons_self ..)
 ·exact(by decide:(1:Int)≠0)
theorem good_two{f l}(h:∀u v,Gz (f u v)):Gz (two f l):=by
 unfold two;split
 ·exact h _ _
 ·exact(by decide:(1:Int)≠0)
theorem T2(nm l)(hc:∀x∈l,A0 x.2=true):Gz (G7 nm l):=by
 have hm:∀v∈l.map (·.2),A0 v=true:=fun v hv=>by
  obtain⟨q,hq,rfl⟩:=List.mem_map.1 hv;exact hc q hq
 unfold G7
 repeat' split
 ·exact E8 (G0 fun v hv=>Si (hm v hv))
 ·exact E8 (good_two fun u v=>Wt u v)
 ·exact E8 (G0 fun v _=>T1 v)
 ·exact E8 (G0 fun v _=>Sl v)
 ·exact E8 (G0 fun v _=>Wu v)
 ·exact E8 (Wv _)
 ·exact E8 (G0 fun v _=>L2 _ v)
 ·exact E8 (G0 fun v _=>L2 _ v)
 ·exact E8 (G0 fun v _=>L2 _ v)
 ·exact(by decide:(7:Int)≠0)
end Go.Proofs.YtbcdimjbepigcaaGreatDoor