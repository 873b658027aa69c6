/-
  Plain law:what the plain host answers is small;its errors have a number. No program in sight.
-/
import Derived.Test.YtlbbbapiklendaaGreatDoorPlainA
import Derived.Test.YtlbbbapiklendaaGreatDoorMNodeR
namespace Go.Proofs.YtlbbbapiklendaaGreatDoor
open Go Go.RowKit
open Nat renaming zero_le->nlz
open Bool renaming and_eq_true->bAt
def Io(r:Except Int Vl):Prop:=match r with
 | .ok x=>A5 x
 | .error y=>y≠0
theorem Ld(s)(h:s.size<=9223372036854775807):A5 (Fv s):=by
 unfold Fv;rw[A5];exact⟨⟨h,rfl⟩,nlz _,nlz _,fun s hs=>(by cases hs),by simp[Ca]⟩
theorem Hi(s):Io (Cb s):=by
 unfold Cb;split
 ·exact(by decide:(6:Int)≠0)
 ·exact Ld s (by omega)
theorem Rw(n:Nat)(h:n<=9223372036854775807):A5 (.mk 2 n ⟨#[]⟩ [] []):=by
 rw[A5];refine⟨⟨nlz _,?_⟩,nlz _,nlz _,fun s hs=>(by cases hs),by simp[Ca]⟩;unfold inR;rw[bAt,decide_eq_true_eq,decide_eq_true_eq];omega
theorem Vk{v}(h:Ao v=true):Io (Gm v):=by
 obtain⟨k,n,s,l,ks⟩:=v;obtain⟨h1,h2,-⟩:=check_len h;unfold Gm;split
 ·exact Rw s.size (by omega)
 ·split
  ·exact Rw l.length (by omega)
  ·exact(by decide:(9:Int)≠0)
theorem small_strs:∀(l:List ByteArray),(∀s∈l,s.size<=9223372036854775807)->Ca (strsV l)
 | [],_=>by simp[strsV,Ca]
 | s::t,h=>by
  have:=small_strs t (fun x hx=>h x (List.mem_cons_of_mem _ hx));unfold strsV at this |-;rw[List.map_cons,Ca];exact⟨Ld s (h s (List.mem_cons_self ..)),this⟩
theorem node_str{k n s l ks}(h:B5 k n s l ks=true):s.size<=65536:=by
 rcases node_told h with⟨-,-,rfl,-⟩|⟨-,-,rfl,-⟩|⟨-,rfl,-⟩|⟨-,-,h,-⟩|⟨-,-,rfl,-⟩|⟨-,-,rfl,-⟩
 ·exact nlz _
 ·exact nlz _
 ·exact nlz _
 ·exact h
 ·exact nlz _
 ·exact nlz _
theorem Vm(ts):(linesB ts).size=totL ts:=Gg ts
theorem Vn{v ts}(h:Cu v=some ts):ts.length<=1000/\∀s∈ts,s.size<=65536:=by
 obtain⟨k,n,s,l,ks⟩:=v;unfold Cu at h;split at h
 ·rename_i hc
  cases h;refine⟨by rw[List.length_map];exact(check_len hc.2.1).2.1,fun s hs=>?_⟩;obtain⟨x,hx,rfl⟩:=List.mem_map.1 hs;obtain⟨xk,xn,xs,xl,xks⟩:=x;have h1:=(Xa hc.2.1).2.2;rw[nodesR,bAt] at h1;obtain⟨j,hj⟩:=List.getElem?_of_mem hx;have h2:=Uq h1.1 hj;rw[nodesR,bAt] at h2;exact node_str h2.2
 ·cases h
theorem Vo(v):Io (sortedL v):=by
 unfold sortedL;cases h:Cu v with
 | none=>exact(by decide:(9:Int)≠0)
 | some ts=>
  obtain⟨h1,h2⟩:=Vn h;show A5 (.mk 4 0 ⟨#[]⟩ (strsV (sortL ts)) []);rw[A5];refine⟨⟨nlz _,rfl⟩,by unfold strsV;rw[List.length_map,Np];omega,nlz _,fun s hs=>(by cases hs),small_strs _ (fun s hs=>?_)⟩;obtain⟨y,hy,he⟩:=Zq hs;have h3:=h2 y hy;have h4:=congrArg List.length he;rw[Ai,Ai] at h4;omega
theorem Aao(u v):Io (joinL u v):=by
 unfold joinL;split
 ·exact(by decide:(9:Int)≠0)
 ·cases h:Cu v with
  | none=>exact(by decide:(9:Int)≠0)
  | some ts=>
   simp only;split
   ·exact(by decide:(6:Int)≠0)
   ·rename_i hle
    refine Ld _ ?_;rw[Pp];omega
theorem Xr(v):Io (linesL v):=by
 unfold linesL;cases h:Cu v with
 | none=>exact(by decide:(9:Int)≠0)
 | some ts=>
  simp only;split
  ·exact(by decide:(6:Int)≠0)
  ·rename_i hle
   refine Ld _ ?_;rw[Vm];omega
theorem Aap(v):Io (M1 v):=by
 unfold M1;split
 ·exact Hi _
 ·split
  ·exact(by decide:(6:Int)≠0)
  ·exact Hi _
theorem Nv(of v):Io (Kf of v):=by
 unfold Kf;split
 ·exact(by decide:(9:Int)≠0)
 ·split
  ·exact(by decide:(1:Int)≠0)
  ·exact Hi _
theorem Aaq(l):Io (J1 l):=by
 unfold J1;split
 ·unfold Kl;split
  ·exact(by decide:(1:Int)≠0)
  ·split
   ·exact(by decide:(6:Int)≠0)
   ·exact Hi _
 ·exact(by decide:(9:Int)≠0)
theorem Fe{n f l}(h:Io (f (l.map (·.2)))):Io (F6 n f l):=by
 unfold F6;split
 ·exact h
 ·exact(by decide:(1:Int)≠0)
theorem Ip{f l}(h:∀v∈l,Io (f v)):Io (one f l):=by
 unfold one;split
 ·exact h _ (List.mem_cons_self ..)
 ·exact(by decide:(1:Int)≠0)
theorem good_two{f l}(h:∀u v,Io (f u v)):Io (two f l):=by
 unfold two;split
 ·exact h _ _
 ·exact(by decide:(1:Int)≠0)
theorem Xs(nm l)(hc:∀x∈l,Ao x.2=true):Io (I1 nm l):=by
 have hm:∀v∈l.map (·.2),Ao v=true:=fun v hv=>by
  obtain⟨q,hq,rfl⟩:=List.mem_map.1 hv;exact hc q hq
 unfold I1
 repeat' split
 ·exact Fe (Ip fun v hv=>Vk (hm v hv))
 ·exact Fe (good_two fun u v=>Aao u v)
 ·exact Fe (Ip fun v _=>Xr v)
 ·exact Fe (Ip fun v _=>Vo v)
 ·exact Fe (Ip fun v _=>Aap v)
 ·exact Fe (Aaq _)
 ·exact Fe (Ip fun v _=>Nv _ v)
 ·exact Fe (Ip fun v _=>Nv _ v)
 ·exact Fe (Ip fun v _=>Nv _ v)
 ·exact(by decide:(7:Int)≠0)
end Go.Proofs.YtlbbbapiklendaaGreatDoor