/-
  Plain law:what the plain host answers is small;its errors have a number. No program in sight.
-/
import Derived.Test.YtlbbbapiklendaaGreatDoorPlainA
import Derived.Test.YtlbbbapiklendaaGreatDoorMNodeR
namespace Go.Proofs.YtlbbbapiklendaaGreatDoor
open Go Go.RowKit
open Nat renaming zero_le->nlz
open Bool renaming and_eq_true->bAt
def Iw(r:Except Int Vl):Prop:=match r with
 | .ok x=>Ay x
 | .error y=>y≠0
theorem Lq(s)(h:s.size<=9223372036854775807):Ay (Fx s):=by
 unfold Fx;rw[Ay];exact⟨⟨h,rfl⟩,nlz _,nlz _,fun s hs=>(by cases hs),by simp[B6]⟩
theorem Ig(s):Iw (Cb s):=by
 unfold Cb;split
 ·exact(by decide:(6:Int)≠0)
 ·exact Lq s (by omega)
theorem Si(n:Nat)(h:n<=9223372036854775807):Ay (.mk 2 n ⟨#[]⟩ [] []):=by
 rw[Ay];refine⟨⟨nlz _,?_⟩,nlz _,nlz _,fun s hs=>(by cases hs),by simp[B6]⟩;unfold inR;rw[bAt,decide_eq_true_eq,decide_eq_true_eq];omega
theorem Wn{v}(h:Am v=true):Iw (Gt v):=by
 obtain⟨k,n,s,l,ks⟩:=v;obtain⟨h1,h2,-⟩:=check_len h;unfold Gt;split
 ·exact Si s.size (by omega)
 ·split
  ·exact Si l.length (by omega)
  ·exact(by decide:(9:Int)≠0)
theorem small_strs:∀(l:List ByteArray),(∀s∈l,s.size<=9223372036854775807)->B6 (strsV l)
 | [],_=>by simp[strsV,B6]
 | s::t,h=>by
  have:=small_strs t (fun x hx=>h x (List.mem_cons_of_mem _ hx));unfold strsV at this |-;rw[List.map_cons,B6];exact⟨Lq s (h s (List.mem_cons_self ..)),this⟩
theorem node_str{k n s l ks}(h:Bz k n s l ks=true):s.size<=65536:=by
 rcases node_told h with⟨-,-,rfl,-⟩|⟨-,-,rfl,-⟩|⟨-,rfl,-⟩|⟨-,-,h,-⟩|⟨-,-,rfl,-⟩|⟨-,-,rfl,-⟩
 ·exact nlz _
 ·exact nlz _
 ·exact nlz _
 ·exact h
 ·exact nlz _
 ·exact nlz _
theorem Wo(ts):(linesB ts).size=totL ts:=Gm ts
theorem Wp{v ts}(h:Cc v=some ts):ts.length<=1000/\∀s∈ts,s.size<=65536:=by
 obtain⟨k,n,s,l,ks⟩:=v;unfold Cc at h;split at h
 ·rename_i hc
  cases h;refine⟨by rw[List.length_map];exact(check_len hc.2.1).2.1,fun s hs=>?_⟩;obtain⟨x,hx,rfl⟩:=List.mem_map.1 hs;obtain⟨xk,xn,xs,xl,xks⟩:=x;have h1:=(Yc hc.2.1).2.2;rw[nodesR,bAt] at h1;obtain⟨j,hj⟩:=List.getElem?_of_mem hx;have h2:=Vj h1.1 hj;rw[nodesR,bAt] at h2;exact node_str h2.2
 ·cases h
theorem Wq(v):Iw (sortedL v):=by
 unfold sortedL;cases h:Cc v with
 | none=>exact(by decide:(9:Int)≠0)
 | some ts=>
  obtain⟨h1,h2⟩:=Wp h;show Ay (.mk 4 0 ⟨#[]⟩ (strsV (sortL ts)) []);rw[Ay];refine⟨⟨nlz _,rfl⟩,by unfold strsV;rw[List.length_map,N4];omega,nlz _,fun s hs=>(by cases hs),small_strs _ (fun s hs=>?_)⟩;obtain⟨y,hy,he⟩:=Aas hs;have h3:=h2 y hy;have h4:=congrArg List.length he;rw[Al,Al] at h4;omega
theorem Abw(u v):Iw (joinL u v):=by
 unfold joinL;split
 ·exact(by decide:(9:Int)≠0)
 ·cases h:Cc v with
  | none=>exact(by decide:(9:Int)≠0)
  | some ts=>
   simp only;split
   ·exact(by decide:(6:Int)≠0)
   ·rename_i hle
    refine Lq _ ?_;rw[P7];omega
theorem Yv(v):Iw (linesL v):=by
 unfold linesL;cases h:Cc v with
 | none=>exact(by decide:(9:Int)≠0)
 | some ts=>
  simp only;split
  ·exact(by decide:(6:Int)≠0)
  ·rename_i hle
   refine Lq _ ?_;rw[Wo];omega
theorem Abx(v):Iw (Nf v):=by
 unfold Nf;split
 ·exact Ig _
 ·split
  ·exact(by decide:(6:Int)≠0)
  ·exact Ig _
theorem Oa(of v):Iw (Kt of v):=by
 unfold Kt;split
 ·exact(by decide:(9:Int)≠0)
 ·split
  ·exact(by decide:(1:Int)≠0)
  ·exact Ig _
theorem Aby(l):Iw (Kb l):=by
 unfold Kb;split
 ·unfold Lc;split
  ·exact(by decide:(1:Int)≠0)
  ·split
   ·exact(by decide:(6:Int)≠0)
   ·exact Ig _
 ·exact(by decide:(9:Int)≠0)
theorem Ff{n f l}(h:Iw (f (l.map (·.2)))):Iw (Gc n f l):=by
 unfold Gc;split
 ·exact h
 ·exact(by decide:(1:Int)≠0)
theorem Iy{f l}(h:∀v∈l,Iw (f v)):Iw (one f l):=by
 unfold one;split
 ·exact h _ (List.mem_cons_self ..)
 ·exact(by decide:(1:Int)≠0)
theorem good_two{f l}(h:∀u v,Iw (f u v)):Iw (two f l):=by
 unfold two;split
 ·exact h _ _
 ·exact(by decide:(1:Int)≠0)
theorem Yw(nm l)(hc:∀x∈l,Am x.2=true):Iw (I6 nm l):=by
 have hm:∀v∈l.map (·.2),Am v=true:=fun v hv=>by
  obtain⟨q,hq,rfl⟩:=List.mem_map.1 hv;exact hc q hq
 unfold I6
 repeat' split
 ·exact Ff (Iy fun v hv=>Wn (hm v hv))
 ·exact Ff (good_two fun u v=>Abw u v)
 ·exact Ff (Iy fun v _=>Yv v)
 ·exact Ff (Iy fun v _=>Wq v)
 ·exact Ff (Iy fun v _=>Abx v)
 ·exact Ff (Aby _)
 ·exact Ff (Iy fun v _=>Oa _ v)
 ·exact Ff (Iy fun v _=>Oa _ v)
 ·exact Ff (Iy fun v _=>Oa _ v)
 ·exact(by decide:(7:Int)≠0)
end Go.Proofs.YtlbbbapiklendaaGreatDoor