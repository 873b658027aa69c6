/-
  The walk of value.in at a dict,at a text,at anything else;and at any two values. (Printed by in_gen.py.) (And what it stands on.)
-/
import Derived.Lib.LaidTab
import Derived.Lib.ItoaNum
import Derived.Laws.OwnMore
import Derived.Lib.ItoaLen
import Derived.Lib.SplitLaws
import Derived.Test.YtbcdimjbepigcaaGreatDoorMQuote
import Derived.Test.YtbcdimjbepigcaaGreatDoorMSameG
import Derived.Test.YtbcdimjbepigcaaGreatDoorJoin
import Derived.Test.YtbcdimjbepigcaaGreatDoorMEvalPlain
import Derived.Test.YtbcdimjbepigcaaGreatDoorMNumA
import Derived.Test.YtbcdimjbepigcaaGreatDoorMParseNz
import Derived.Test.YtbcdimjbepigcaaGreatDoorMPlusA
import Derived.Test.YtbcdimjbepigcaaGreatDoorMRegionHeldD
import Derived.Test.YtbcdimjbepigcaaGreatDoorShelf
namespace Go.Proofs.YtbcdimjbepigcaaGreatDoor
open Go Go.RowKit
open List renaming getElem?_eq_getElem->lgE,mem_of_getElem? -> lgM,length_append->lnA,take_add_one->ltA,take_of_length_le->ltL,length_map->lnM,length_take->lnT,length_cons->lnC,length_nil->lnN,getElem?_map->lgP,getElem?_eq_some_iff->lgS,mem_cons_self->lmS,mem_cons_of_mem->lmO
open Nat renaming le_refl->nlr,zero_le->nlz,add_zero->naz,lt_of_lt_of_le->nll,le_trans->nlt
open Go.Lib renaming hid->Lq7
open And renaming intro->aIn
open Go.RowKit.Below renaming refl->bRf
open Go.Act renaming put->aP
open Go.World renaming setCell->wsC
set_option maxRecDepth 100000
set_option maxHeartbeats 16000000
def toBs(l:List UInt8):ByteArray:=⟨l.toArray⟩
theorem L6(l):(toBs l).data.toList=l:=rfl
def B7(ks:List ByteArray)(ts:List (List UInt8)):List (List UInt8):=List.zipWith (fun k t=>quoteL k.data.toList++[58,32]++t) ks ts
mutual
def B3:Vl->List UInt8
 | .mk k n s l ks=>if k=1 then(if n=1 then [116,114,117,101] else [102,97,108,115,101]) else if k=2 then Lib.itoa n else if k=3 then quoteL s.data.toList
  else if k=4 then [91]++Lib.join (Cp l) [44,32]++[93] else if k=5 then [123]++Lib.join (B7 ks (Cp l)) [44,32]++[125] else [110,111,110,101]
def Cp:List Vl->List (List UInt8)
 | []=>[]
 | v::t=>B3 v::Cp t
end
theorem textVs_map:∀l:List Vl,Cp l=l.map B3
 | []=>rfl
 | v::t=>by rw[Cp,textVs_map t,List.map_cons]
def printV(v:Vl):List UInt8:=if A0 v then B3 v else []
mutual
def prV:Vl->Prop
 | .mk k n s l ks=>inR n=true/\s.size<=65536/\l.length<=1000/\ks.length<=1000/\(∀x∈ks,x.size<=65536)/\(k=5->l.length=ks.length)/\prVs l
def prVs:List Vl->Prop
 | []=>True
 | v::t=>prV v/\prVs t
end
theorem prVs_mem:∀{l:List Vl} {x:Vl},prVs l->x∈l->prV x
 | _::_,_,h,.head _=>h.1
 | _::_,_,h,.tail _ hm=>prVs_mem h.2 hm
theorem Sv{n s l ks}(h:By 5 n s l ks=true):l.length=ks.length:=by
 unfold By at h;rw[if_neg (by decide),if_neg (by decide),if_neg (by decide),if_neg (by decide),if_neg (by decide),if_pos rfl] at h;simp only[Bool.and_eq_true,beq_iff_eq] at h;exact h.1.2
theorem may_pr(v):∀d m,(mayV v d m).1=true->prV v:=
 Vl.rec (motive_1:=fun v=>∀d m,(mayV v d m).1=true->prV v) (motive_2:=fun l=>∀d m,(Ck l d m).1=true->prVs l)
  (fun k n s l ks ih d m h=>by
   rw[mayV] at h;split at h
   ·cases h
   ·split at h
    ·rename_i hk
     obtain⟨h1,h2,h3,h4⟩:=Iy hk;rw[prV];exact⟨P0 hk,h1,h2,h3,h4,fun e=>by subst e;exact Sv hk,ih _ _ h⟩
    ·cases h)
  (fun _ _ _=>by rw[prVs];trivial)
  (fun v t hv ht d m h=>by
   rw[Ck] at h;split at h
   ·rename_i h1
    rw[prVs];exact⟨hv _ _ h1,ht _ _ h⟩
   ·cases h) v
theorem Lf{v}(h:A0 v=true):prV v:=may_pr v _ _ h
def textMax:Nat:=140737488355328
def Lg(x:Vl):Prop:=prV x->(B3 x).length<=textMax->∀(F:Nat->Prop) (a1:Option Addr) (c1:Nat) (a2:Option Addr) (c2:Nat) (w:World),(∀b,F b->b<w.heap.size)->Et w->Af F w a1 (Ar x.items)->Af F w a2 (Bl x.keys) ->
 Calls Tryz.prog 33 #[A8 x.kind x.num x.str a1 x.items.length c1 a2 x.keys.length c2] w (Jl (B3 x) w)
def PAll(l:List Vl)(w:World)(e:Ending)(w':World):Prop:=∃v,e = .returned v/\OwnS w' w.heap.size v (l.map fun x=>toBs (B3 x))/\Below w.heap.size w w'
theorem Oo(l)(hl:l.length<=1000)(hc:∀x∈l,Lg x/\prV x/\(B3 x).length<=textMax)(F a cap w)(hF:∀b,F b->b<w.heap.size)(hT:Et w)(hr:Af F w a (Ar l)):
  Calls Tryz.prog 60 #[.slice a l.length cap,.func (.func 33) #[] #[]] w (PAll l w):=by
 obtain⟨i0,hi,hz0,hz1,hz2⟩:=info_parts infoStr;have hen:∀args w,(callFunc 33 args).run Tryz.prog w = .ok (.enter 33 args) w:=enters_of Tryz.func33 (by kernel_rfl) rfl;have Hc:=Lq7 hc;have HF:=Lq7 hF;have HT:=Lq7 hT;have Hr:=Lq7 hr;go_enter Tryz.func60,Tryz.ntmps60;go_wp2_with fail
 go_loopw [5,10] (fun v i wr=>∃(k:Nat) (v':Value),v=v'/\i = .int .i64 k/\k<=l.length/\Hid (OwnS wr w.heap.size v' ((l.take k).map fun x=>toBs (B3 x)))/\Hid (Below w.heap.size w wr)) (fun _ i _=>l.length-(intOf i).toNat)
 case atStart=>exact⟨0,_,rfl,rfl,nlz _,Lq7 (OwnS.nil _ _),Lq7 (bRf _ _)⟩
 case round=>
  obtain⟨k,v,hv,rfl,hk,hown,aD⟩:=hrel;have hv:=hv.symm;subst hv;by_cases hlt:k<l.length
  ·cases hx:l[k] with
   | mk xk xn xs xl xks=>
    have aM:l[k]? = some (.mk xk xn xs xl xks):=(by rw[lgE hlt,hx]);have htk:(l.take (k+1)).map (fun x=>toBs (B3 x))=(l.take k).map (fun x=>toBs (B3 x))++[toBs (B3 (.mk xk xn xs xl xks))]:=(by rw[ltA,aM];simp);obtain⟨b,off,a1,c1,a2,c2,hae,-,hbl,r0,r1,r2,r3,r4,hv1,hv2⟩:=(Hr.out.below aD.out).val aM;obtain⟨hxc,hxp,hxl⟩:=Hc.out _ (lgM aM);have aE:Below wr.heap.size wr (wr.alloc (.cells #[.int .i64 xk,.int .i64 xn,.string xs,.slice a1 xl.length c1,.slice a2 xks.length c2] 42)):=(bRf _ wr).alloc (nlr _) _;have HX:=Lq7 (hxc hxp hxl F a1 c1 a2 c2 _ (fun b hb=>by have:=HF.out b hb;have:=aD.out.size;have:=aE.size;omega) ((HT.out.below aD.out).below aE) (hv1.below aE) (hv2.below aE));unfold A8 at HX;have aF:=Lq7 (hown.out.below aE);have aR:=Lq7 (aD.out.trans (aE.mono aD.out.size));have Htk:=Lq7 htk;subst hae;go_wp2_with fail;refine HX.out.mono ?_;rintro e w1 ⟨o,rfl,ho,aU⟩;obtain rfl:o=toBs (B3 (.mk xk xn xs xl xks)):=bytes_ext ho;have aB:=Lq7 (aF.out.below aU);have aJ:=Lq7 (aR.out.trans (aU.mono aR.out.size));generalize toBs (B3 (.mk xk xn xs xl xks))=o at *;have aW:Below w1.heap.size w1 (w1.alloc (.cells #[.string o] 9)):=(bRf _ w1).alloc (nlr _) _;have Hn:=Lq7 (aIn (lit_one w1 (.string o) 9) (aB.out.below aW));have aN:((l.take k).map fun x=>toBs (B3 x)).length=k:=(by rw[lnM,lnT];omega)
    go_wp2_with (at_builtin;refine Ct rfl _ _ 40 rfl w.heap.size 9 i0 (.string ByteArray.empty) 1 16 Tryz.underlying40 hi hz0 hz1 hz2 rfl (by decide) v _ _ rfl Hn.out.2 ⟨w1.heap.size,0,none⟩ 1 1 [.string o] rfl rfl Hn.out.1 ?_ ?_ ?_ ?_ ?_)
    ·simp[Value.oneCell']
    ·rw[aN];unfold maxLen;omega
    ·rw[aN];omega
    ·have:=aJ.out.size;simp;omega
    intro v2 w2 aC hg2 _;have aG:OwnS w2 w.heap.size v2 ((l.take (k+1)).map fun x=>toBs (B3 x)):=by
     rw[Htk.out];unfold OwnS;rw[lnA,List.map_append,List.map_map,aN]
     first|exact aC|(rw[List.map_take];exact aC)
    have aH:=Lq7 aG;have Hb3:=Lq7 ((aJ.out.trans (aW.mono aJ.out.size)).trans (B5 hg2 (fun g e=>(aB.out.block e).1) (by have:=aJ.out.size;simp;omega)));go_wp2_with fail;go_roundw
    case rel=>exact⟨k+1,_,rfl,by go_num,by omega,aH,Hb3⟩
    case measure=>simp only[intOf];omega
  ·have aQ:Hid (OwnS wr w.heap.size v (l.map fun x=>toBs (B3 x))):=Lq7 (by have:=hown.out;rwa [ltL (by omega)] at this);go_wp2_with fail;go_ret;exact⟨_,rfl,aQ.out,aD.out⟩
theorem le_sum:∀{l:List Nat} {x:Nat},x∈l->x<=l.sum
 | _::_,_,.head _=>by rw[List.sum_cons];omega
 | _::_,_,.tail _ h=>by have:=le_sum h;rw[List.sum_cons];omega
theorem P4{l x}(sep)(h:x∈l):x.length<=(Lib.join l sep).length:=by
 rw[Kn];have:x.length<=(l.map List.length).sum:=le_sum (List.mem_map_of_mem h);omega
structure TB(w W:World)(x:Array Value):Prop where
 below:Below w.heap.size w W
 v:W.heap[w.heap.size]? = some (.cells x 42 (0,0))
theorem TB.later{w W W' x}(h:TB w W x)(hb:Below W.heap.size W W'):TB w W' x:=⟨h.below.trans (hb.mono h.below.size),stays h.v hb⟩
theorem Xo(n s l ks)(ih:∀x∈l,Lg x):Lg (.mk 4 n s l ks):=by
 intro hp hmax F a1 c1 a2 c2 w hF hT aF hr2;show Calls Tryz.prog 33 #[A8 4 n s a1 l.length c1 a2 ks.length c2] w _;rw[prV] at hp;obtain⟨-,-,hl,-,-,-,hps⟩:=hp;have ht:B3 (.mk 4 n s l ks)=[91]++Lib.join (Cp l) [44,32]++[93]:=rfl;rw[ht] at hmax |-;simp only[lnA,List.length_singleton] at hmax;have H0:Hid (TB w (w.alloc (.cells #[.int .i64 4,.int .i64 n,.string s,.slice a1 l.length c1,.slice a2 ks.length c2] 42)) #[.int .i64 4,.int .i64 n,.string s,.slice a1 l.length c1,.slice a2 ks.length c2]):=Lq7 ⟨(bRf _ w).alloc (nlr _) _,heap_alloc_new w _⟩;have hT':=hT.below H0.out.below;have HA:=Lq7 (Oo l hl (fun x hx=>⟨ih x hx,prVs_mem hps hx,by
  have:=P4 [44,32] (l:=Cp l) (x:=B3 x) (by rw[textVs_map];exact List.mem_map_of_mem hx);omega⟩) F a1 c1 _ (fun b hb=>by have:=hF b hb;have:=H0.out.below.size;omega) hT' (aF.below H0.out.below))
 unfold A8;go_enter Tryz.func33,Tryz.ntmps33;go_wp2_with fail;refine HA.out.mono ?_;rintro e w1 ⟨v,rfl,hown,aC⟩;obtain⟨aT,cT,rfl,hst,hcap⟩:=hown.strsAt;have H1:=Lq7 (H0.out.later aC);have aD:(joinB (l.map fun x=>toBs (B3 x)) ⟨#[44,32]⟩).data.toList=Lib.join (Cp l) [44,32]:=by
  show Lib.join ((l.map fun x=>toBs (B3 x)).map (·.data.toList)) [44,32]=_;rw[List.map_map,textVs_map];rfl
 have aG:(joinB (l.map fun x=>toBs (B3 x)) ⟨#[44,32]⟩).size<=140737488355328:=by
  rw[<-Ax,aD];unfold textMax at hmax;omega
 have HJ:=Lq7 (Lo aT cT _ ⟨#[44,32]⟩ w1 hst hcap (by rw[lnM];exact hl) aG);generalize joinB (l.map fun x=>toBs (B3 x)) ⟨#[44,32]⟩=jb at HJ aD aG;have Hjs:=Lq7 aD;generalize (l.map fun x=>toBs (B3 x)).length=ll at HJ |-;go_wp2_with fail;refine HJ.out.mono ?_;rintro e w2 ⟨rfl,hb2⟩;have H2:=Lq7 (H1.out.later hb2);have z1:¬9223372036854775807<jb.size+1:=(by omega);have z2:¬9223372036854775807<1+jb.size:=(by omega);have z3:¬9223372036854775807<1+jb.size+1:=(by omega);have aE:Hid ((⟨#[91]⟩++jb++⟨#[93]⟩:ByteArray).data.toList=[91]++Lib.join (Cp l) [44,32]++[93]):=Lq7 (by
  rw[ByteArray.data_append,ByteArray.data_append,Array.toList_append,Array.toList_append,Hjs.out])
 go_wp2_with fail;go_ret;exact⟨_,rfl,aE.out,H2.out.below⟩
theorem Uc(k n s l ks)(h4:k≠4)(h5:k≠5):Lg (.mk k n s l ks):=by
 intro hp hmax F a1 c1 a2 c2 w hF hT aF hr2;show Calls Tryz.prog 33 #[A8 k n s a1 l.length c1 a2 ks.length c2] w _;rw[prV] at hp;obtain⟨hn,hs,-⟩:=hp;have aH:Below w.heap.size w (w.alloc (.cells #[.int .i64 k,.int .i64 n,.string s,.slice a1 l.length c1,.slice a2 ks.length c2] 42)):=(bRf _ w).alloc (nlr _) _;have aB:=Lq7 aH;have HN:=Lq7 (Un n hn _ (hT.below aH));have HQ:=Lq7 (Pv s (w.alloc (.cells #[.int .i64 k,.int .i64 n,.string s,.slice a1 l.length c1,.slice a2 ks.length c2] 42)) hs);unfold A8;by_cases h1:k=1
 ·subst h1;by_cases hn1:n=1
  ·subst hn1;go_enter Tryz.func33,Tryz.ntmps33;go_wp2_with fail;go_ret;exact⟨_,rfl,rfl,aB.out⟩
  ·have ht:Hid (B3 (.mk 1 n s l ks)=[102,97,108,115,101]):=Lq7 (by rw[B3,if_pos rfl,if_neg hn1]);have hn1b:(n==1)=false:=(by simpa using hn1);go_enter Tryz.func33,Tryz.ntmps33;go_wp2_with fail;go_ret;exact⟨_,rfl,ht.out.symm,aB.out⟩
 by_cases h2:k=2
 ·subst h2;go_enter Tryz.func33,Tryz.ntmps33;go_wp2_with fail;refine HN.out.mono ?_;rintro e w1 ⟨o,rfl,ho,aC⟩;have H1:=Lq7 (aIn ho (aB.out.trans (aC.mono aB.out.size)));go_wp2_with fail;go_ret;exact⟨_,rfl,H1.out.1,H1.out.2⟩
 by_cases h3:k=3
 ·subst h3;go_enter Tryz.func33,Tryz.ntmps33;go_wp2_with fail;refine HQ.out.mono ?_;rintro e w1 ⟨o,rfl,ho,aC⟩;have H1:=Lq7 (aIn ho (aB.out.trans (aC.mono aB.out.size)));go_wp2_with fail;go_ret;exact⟨_,rfl,H1.out.1,H1.out.2⟩
 ·have ht:Hid (B3 (.mk k n s l ks)=[110,111,110,101]):=Lq7 (by rw[B3,if_neg h1,if_neg h2,if_neg h3,if_neg h4,if_neg h5]);have e1:(k==1)=false:=(by simpa using h1);have e2:(k==2)=false:=(by simpa using h2);have e3:(k==3)=false:=(by simpa using h3);have e4:(k==4)=false:=(by simpa using h4);have e5:(k==5)=false:=(by simpa using h5);go_enter Tryz.func33,Tryz.ntmps33;go_wp2_with fail;go_ret;exact⟨_,rfl,ht.out.symm,aB.out⟩
def mixB(ks:List ByteArray)(l:List Vl)(i:Nat):List ByteArray:=((B7 ks (Cp l)).take i).map toBs++(l.drop i).map fun x=>toBs (B3 x)
theorem Fq{ks l}(h:l.length=ks.length):(B7 ks (Cp l)).length=l.length:=by
 rw[B7,List.length_zipWith,textVs_map,lnM];omega
theorem Uv{ks l}(h:l.length=ks.length){i}(hi:i<=l.length):(mixB ks l i).length=l.length:=by
 rw[mixB,lnA,lnM,lnM,lnT,List.length_drop,Fq h];omega
theorem mix_get{ks l}(h:l.length=ks.length){i x}(hx:l[i]? = some x):(mixB ks l i)[i]? = some (toBs (B3 x)):=by
 have hi:=(lgS.1 hx).1;unfold mixB;have h1:(((B7 ks (Cp l)).take i).map toBs).length=i:=(by rw[lnM,lnT,Fq h];omega);rw[List.getElem?_append_right (by omega),h1,Nat.sub_self,lgP,List.getElem?_drop,naz,hx];rfl
theorem P3{ks l}{i:Nat}{x key}(hx:l[i]? = some x)(hk:ks[i]? = some key):(B7 ks (Cp l))[i]? = some (quoteL key.data.toList++[58,32]++B3 x):=by
 rw[B7,textVs_map,List.getElem?_zipWith,hk,lgP,hx];rfl
theorem mix_set{ks l}(h:l.length=ks.length){i x key}(hx:l[i]? = some x)(hk:ks[i]? = some key):
  (mixB ks l i).set i (toBs (quoteL key.data.toList++[58,32]++B3 x))=mixB ks l (i+1):=by
 have hi:=(lgS.1 hx).1;have h1:(((B7 ks (Cp l)).take i).map toBs).length=i:=(by rw[lnM,lnT,Fq h];omega);have hlx:=(lgS.1 hx).2;unfold mixB;rw[List.set_append_right _ _ (by omega),h1,Nat.sub_self,List.drop_eq_getElem_cons hi,List.map_cons,List.set_cons_zero,ltA,P3 hx hk,Option.toList_some,List.map_append,List.append_assoc (List.map toBs _)];rfl
theorem mix_all{ks l}(h:l.length=ks.length){i}(hi:l.length<=i):mixB ks l i=(B7 ks (Cp l)).map toBs:=by
 unfold mixB;rw[ltL (by rw[Fq h];exact hi),List.drop_eq_nil_of_le hi];simp
theorem Ol{ks l}(h:l.length=ks.length){i:Nat}{x}(hx:l[i]? = some x):∃key,ks[i]? = some key/\(quoteL key.data.toList).length+2+(B3 x).length<=(Lib.join (B7 ks (Cp l)) [44,32]).length:=by
 have hi:=(lgS.1 hx).1;have hk:ks[i]? = some (ks[i]'(by omega)):=lgE (by omega);refine⟨_,hk,?_⟩;have:=P4 [44,32] (lgM (P3 hx hk));simp only[lnA,lnC,lnN] at this;omega
theorem OwnS.froze{w base g n cap l v}(h:OwnS w base v l)(hv:v = .slice (some ⟨g,0,none⟩) n cap)(i):w.frozen? ⟨g,i,none⟩=false:=by
 subst hv;obtain⟨-,⟨h1,-⟩|⟨g',cp,cur,h1,-,h2,-⟩⟩:=h
 ·simp only[Value.slice.injEq,reduceCtorEq,false_and] at h1
 ·simp only[Value.slice.injEq,Option.some.injEq,Addr.mk.injEq] at h1;obtain⟨⟨rfl,-⟩,-⟩:=h1;exact(A5 h2).2.2 i
theorem OwnS.off{w base g o n cap l}(h:OwnS w base (.slice (some ⟨g,o,none⟩) n cap) l):o=0:=by
 obtain⟨-,⟨h1,-⟩|⟨g',cp,cur,h1,-⟩⟩:=h
 ·simp only[Value.slice.injEq,reduceCtorEq,false_and] at h1
 ·simp only[Value.slice.injEq,Option.some.injEq,Addr.mk.injEq] at h1;exact h1.1.2.1
theorem OwnS.put{w base g cap n l}(h:OwnS w base (.slice (some ⟨g,0,none⟩) n cap) l)(i s):OwnS (w.setCell ⟨g,i,none⟩ (.string s)) base (.slice (some ⟨g,0,none⟩) n cap) (l.set i s):=by
 have h0:=h;obtain⟨h1,⟨h2,-⟩|⟨g',cap',cur,h2,-⟩⟩:=h0
 ·cases h2
 ·injection h2 with e1 e2 e3;unfold OwnS at h |-;rw[List.length_set,List.map_set];rw[<-e2] at h |-;exact(World.ownsRow.stored h i (.string s)).1
theorem Xm(n s l ks)(ih:∀x∈l,Lg x):Lg (.mk 5 n s l ks):=by
 intro hp hmax F a1 c1 a2 c2 w hF hT bC bD;show Calls Tryz.prog 33 #[A8 5 n s a1 l.length c1 a2 ks.length c2] w _;rw[prV] at hp;obtain⟨-,-,hl,-,aN,aH,bE⟩:=hp;have aQ:=aH rfl;clear aH;have ht:B3 (.mk 5 n s l ks)=[123]++Lib.join (B7 ks (Cp l)) [44,32]++[125]:=(by rw[B3,if_neg (by decide),if_neg (by decide),if_neg (by decide),if_neg (by decide),if_pos rfl]);rw[ht] at hmax |-;simp only[lnA,List.length_singleton] at hmax;have H0:Hid (TB w (w.alloc (.cells #[.int .i64 5,.int .i64 n,.string s,.slice a1 l.length c1,.slice a2 ks.length c2] 42)) #[.int .i64 5,.int .i64 n,.string s,.slice a1 l.length c1,.slice a2 ks.length c2]):=Lq7 ⟨(bRf _ w).alloc (nlr _) _,heap_alloc_new w _⟩;have hT':=hT.below H0.out.below;have HA:=Lq7 (Oo l hl (fun x hx=>⟨ih x hx,prVs_mem bE hx,by
  obtain⟨i,hi⟩:=List.getElem?_of_mem hx;obtain⟨key,-,bF⟩:=Ol aQ hi;omega⟩) F a1 c1 _ (fun b hb=>by have:=hF b hb;have:=H0.out.below.size;omega) hT' (bC.below H0.out.below))
 have Hk:=Lq7 (bD.below H0.out.below).strs;have Hkz:=Lq7 aN;have aE:=Lq7 aQ;have Hit:=Lq7 (fun i x (hx:l[i]? = some x)=>Ol aQ hx);clear hF hT bC bD ih bE hT' aN aQ ht;unfold A8;go_enter Tryz.func33,Tryz.ntmps33;go_wp2_with fail;refine HA.out.mono ?_;rintro e w1 ⟨v,rfl,hown,aZ⟩;have hown:OwnS w1 (w.alloc (.cells #[.int .i64 5,.int .i64 n,.string s,.slice a1 l.length c1,.slice a2 ks.length c2] 42)).heap.size v (mixB ks l 0):=hown;obtain⟨aT,cT,bG,-,-⟩:=hown.strsAt;rw[Uv aE.out (nlz _)] at bG;subst bG;have H1:=Lq7 (H0.out.later aZ);have Hb1:=Lq7 aZ;have aF:=Lq7 hown;have hbs:=H0.out.below.size;have hb0s:=here H0.out.v;obtain⟨q0,q1,q2,q3,q4,q5,-⟩:=Aa H1.out.v;clear hown aZ HA;go_wp2_with fail;clear q0 q1 q2 q3 q4 q5;generalize hW0:w.alloc (.cells #[.int .i64 5,.int .i64 n,.string s,.slice a1 l.length c1,.slice a2 ks.length c2] 42)=W0 at *;clear hW0
 go_loopw [39] (fun i wr=>∃k:Nat,i = .int .i64 k/\k<=l.length/\Hid (OwnS wr W0.heap.size (.slice aT l.length cT) (mixB ks l k))/\Hid (Below W0.heap.size W0 wr)) (fun i _=>l.length-(intOf i).toNat)
 case atStart=>exact⟨0,rfl,nlz _,aF,Hb1⟩
 case round=>
  obtain⟨k,rfl,hk,hown,aR⟩:=hrel;by_cases hlt:k<l.length
  ·have aU:l[k]? = some l[k]:=lgE hlt;obtain⟨key,aB,bF⟩:=Hit.out k _ aU;have hklt:k<ks.length:=(lgS.1 aB).1;obtain⟨bK,oK,hak,hck⟩:=(Hk.out.below aR.out) k key aB;obtain⟨aT',cT',hv',hst',-⟩:=hown.out.strsAt;rw[Uv aE.out hk] at hv';cases hv';obtain⟨g,oT,haT,bA⟩:=hst' k _ (mix_get aE.out aU);subst haT hak;obtain rfl:=hown.out.off;rw[Nat.zero_add] at bA;have bH:=hown.out.block (g:=g) rfl;have aN:=Hkz.out key (lgM aB);have HN:=Lq7 (mix_set aE.out aU aB);generalize hx:l[k]=x at *;have HQ:=Lq7 (fun W=>Pv key W aN);have hsz1:(toBs (B3 x)).size+(quoteL key.data.toList).length<=140737488355328:=by
    rw[<-Ax,L6];unfold textMax at hmax;omega
   generalize hq:B3 x=tx at *;have aF:=Lq7 hown.out;have aW:=Lq7 aR.out;clear hx hq aU aB bF hst' hown aR hmax;go_wp2_with fail;refine A4 (.s 0 (.s 1 (.s 2 (.s 5 (.s 6 (.s 7 (.s 8 (.h 3 (.s 4 (.s 9 (.s 10 (.h 11 .nil)))))))))))) 11 (fun W'=>W'.cell? ⟨g,k,none⟩=some (.string (toBs tx))) bA ?_;have H2:Hid (OwnS wr.drew W0.heap.size (.slice (some ⟨g,0,none⟩) l.length cT) (mixB ks l k)/\Below W0.heap.size W0 wr.drew):=Lq7 ⟨aF.out.below (bRf _ _).drew,aW.out.drew⟩;have bI:g<wr.drew.heap.size:=bH.2;have bJ:wr.drew.cell? ⟨g,k,none⟩=some (.string (toBs tx)):=(by rw[World.cell?_drew];exact bA);generalize World.drew _=Wd at H2 bI bJ |-;refine Aj (.slice (some ⟨g,0,none⟩) l.length cT) ?_;refine Aj (.int .i64 (k:Nat)) ?_;refine Aj (.string key) ?_;refine Aj (.slice (some ⟨g,0,none⟩) l.length cT) ?_;refine Aj (.int .i64 (k:Nat)) ?_;refine Aj (.pointer (some ⟨g,k,none⟩)) ?_;refine Aj (.string (toBs tx)) ?_;refine Ac rfl (fun K hK=>?_);go_wp2_with fail;refine(HQ.out _).mono ?_;rintro e w3 ⟨q,rfl,hq,aJ⟩;have hqs:q.size=(quoteL key.data.toList).length:=(by rw[<-hq,Ax]);have H3:=Lq7 (aIn (H2.out.1.below aJ) (H2.out.2.trans (aJ.mono H2.out.2.size)));have hS3:w3.cell? ⟨g,k,none⟩=some (.string (toBs tx)):=(aJ.cell (p:=⟨g,k,none⟩) bI).trans bJ;have hgw3:g<w3.heap.size:=(by have:=aJ.size;omega);clear aJ H2;go_wp2_with fail;refine hK _ _ (fun _=>hS3) ?_;(try simp only[gX,aP]);refine A9 (.string (q++⟨#[58,32]⟩)) (fun W' hS=>?_) ?_
   ·go_simp;omega
   refine A9 (.string (q++⟨#[58,32]⟩++toBs tx)) (fun W' hS=>?_) ?_
   ·go_simp;omega
   refine Aj (.pointer (some ⟨g,k,none⟩)) ?_;refine Ac rfl (fun K2 hK2=>?_);have hfz:w3.frozen? ⟨g,k,none⟩=false:=H3.out.1.froze rfl k;have aG:(q++⟨#[58,32]⟩++toBs tx:ByteArray)=toBs (quoteL key.data.toList++[58,32]++tx):=bytes_ext (by
    rw[ByteArray.data_append,ByteArray.data_append,Array.toList_append,Array.toList_append,hq,L6,L6])
   have H4:Hid (OwnS (w3.setCell ⟨g,k,none⟩ (.string (q++⟨#[58,32]⟩++toBs tx))) W0.heap.size (.slice (some ⟨g,0,none⟩) l.length cT) (mixB ks l (k+1))/\Below W0.heap.size W0 (w3.setCell ⟨g,k,none⟩ (.string (q++⟨#[58,32]⟩++toBs tx)))):=Lq7 ⟨by
    have h1:=H3.out.1.put k (q++⟨#[58,32]⟩++toBs tx);rw[aG,HN.out] at h1;rw[aG];exact h1,H3.out.2.setCell (p:=⟨g,k,none⟩) bH.1 _⟩
   clear HN aG H3 hq;go_wp2_with fail;refine hK2 _ _ (fun h=>absurd rfl h) ?_;generalize wsC _ _ _=W5 at H4 |-;(try simp only[gX,aP]);refine Ak ?_;(try simp only[gX,aP]);go_wp2_with fail;go_roundw
   case rel=>exact⟨k+1,by go_num,by omega,Lq7 H4.out.1,Lq7 H4.out.2⟩
   case measure=>simp only[intOf];omega
  ·have aD:mixB ks l k=(B7 ks (Cp l)).map toBs:=mix_all aE.out (by omega);have aC:=hown.out;rw[aD] at aC;obtain⟨aT',cT',hv',hst',hcap'⟩:=aC.strsAt;have aM:((B7 ks (Cp l)).map toBs).length=l.length:=(by rw[lnM,Fq aE.out]);rw[aM] at hv' hcap';cases hv';have aY:(joinB ((B7 ks (Cp l)).map toBs) ⟨#[44,32]⟩).data.toList=Lib.join (B7 ks (Cp l)) [44,32]:=by
    show Lib.join (((B7 ks (Cp l)).map toBs).map (·.data.toList)) [44,32]=_;rw[List.map_map,show((fun x:ByteArray=>x.data.toList)∘toBs)=id from rfl,List.map_id]
   have bL:(joinB ((B7 ks (Cp l)).map toBs) ⟨#[44,32]⟩).size<=140737488355328:=by
    rw[<-Ax,aY];unfold textMax at hmax;omega
   have HJ:=Lq7 (Lo aT cT _ ⟨#[44,32]⟩ wr hst' (by rw[aM];exact hcap') (by rw[aM];exact hl) bL);rw[aM] at HJ;generalize joinB ((B7 ks (Cp l)).map toBs) ⟨#[44,32]⟩=jb at HJ aY bL;have bM:=Lq7 aY;have aW:=Lq7 aR.out;have hkl:¬k<ks.length:=(by have:=aE.out;omega);clear hown aC hst' hcap' aM aD aY;go_wp2_with fail;refine HJ.out.mono ?_;rintro e w2 ⟨rfl,bN⟩;have Hb2:=Lq7 (H0.out.below.trans ((aW.out.trans (bN.mono aW.out.size)).mono H0.out.below.size));have z1:¬9223372036854775807<jb.size+1:=(by omega);have z2:¬9223372036854775807<1+jb.size:=(by omega);have z3:¬9223372036854775807<1+jb.size+1:=(by omega);have bB:Hid ((⟨#[123]⟩++jb++⟨#[125]⟩:ByteArray).data.toList=[123]++Lib.join (B7 ks (Cp l)) [44,32]++[125]):=Lq7 (by
    rw[ByteArray.data_append,ByteArray.data_append,Array.toList_append,Array.toList_append,bM.out])
   clear bN HJ bM;go_wp2_with fail;go_ret;exact⟨_,rfl,bB.out,Hb2.out⟩
theorem Xn(v):Lg v:=
 Vl.rec (motive_1:=fun v=>Lg v) (motive_2:=fun l=>∀x∈l,Lg x)
  (fun k n s l ks ih=>by
   by_cases h4:k=4
   ·subst h4;exact Xo n s l ks ih
   ·by_cases h5:k=5
    ·subst h5;exact Xm n s l ks ih
    ·exact Uc k n s l ks h4 h5)
  (fun x hx=>by cases hx)
  (fun v t hv ht x hx=>by
   rcases List.mem_cons.1 hx with rfl|hx
   ·exact hv
   ·exact ht x hx) v
theorem Ob(l):(quoteL l).length<=2*l.length+2:=by
 unfold quoteL;split
 ·simp
 ·rw[lnA,lnC,List.length_singleton,Oi];have:=M2 l;omega
theorem Ps{α:Type}(f:α->Nat)(g:α->Int)(c:Nat):∀l:List α,(∀x∈l,(f x:Int)+c<=g x)->(((l.map f).sum:Nat):Int)+l.length*c<=(l.map g).sum
 | [],_=>by simp
 | x::t,h=>by
  have h1:=h x (lmS ..);have h2:=Ps f g c t fun y hy=>h y (lmO _ hy);rw[List.map_cons,List.sum_cons,List.map_cons,List.sum_cons,lnC]
  push_cast
  rw[Int.add_mul];omega
theorem cntVs_sum:∀l:List Vl,cntVs l=(l.map cntV).sum
 | []=>rfl
 | v::t=>by rw[cntVs,cntVs_sum t,List.map_cons,List.sum_cons]
theorem Us(c):∀l:List Int,(l.map fun x=>c*x).sum=c*l.sum
 | []=>by simp
 | x::t=>by rw[List.map_cons,List.sum_cons,Us c t,List.sum_cons,Int.mul_add]
theorem Wx(v):prV v->((B3 v).length:Int)+131080<=262200*cntV v:=
 Vl.rec (motive_1:=fun v=>prV v->((B3 v).length:Int)+131080<=262200*cntV v) (motive_2:=fun l=>prVs l->∀x∈l,((B3 x).length:Int)+131080<=262200*cntV x)
  (fun k n s l ks ih hp=>by
   rw[prV] at hp;obtain⟨hn,hs,hl,-,hk,hlk,hps⟩:=hp;have hi:=ih hps;have hc:=Li l;rw[cntV];have hsum:=Ps (fun x=>(B3 x).length) (fun x=>262200*cntV x) 131080 l hi;have he:(l.map fun x=>262200*cntV x).sum=262200*cntVs l:=by
    rw[cntVs_sum,<-Us,List.map_map];rfl
   rw[he] at hsum;by_cases h1:k=1
   ·subst h1;rw[B3,if_pos rfl];split<;>simp<;>omega
   by_cases h2:k=2
   ·subst h2;rw[B3,if_neg (by decide),if_pos rfl];unfold inR at hn;simp only[Bool.and_eq_true,decide_eq_true_eq] at hn;have:=Lib.itoa_length_le n hn.1 hn.2;omega
   by_cases h3:k=3
   ·subst h3;rw[B3,if_neg (by decide),if_neg (by decide),if_pos rfl];have:=Ob s.data.toList;rw[Ax] at this;omega
   by_cases h4:k=4
   ·subst h4;rw[B3,if_neg (by decide),if_neg (by decide),if_neg (by decide),if_pos rfl];have hj:=Kn [44,32] (Cp l);rw[textVs_map,lnM,List.map_map] at hj;rw[textVs_map,lnA,lnA,hj];have e:(l.map (List.length∘B3)).sum=(l.map fun x=>(B3 x).length).sum:=rfl;rw[e];simp only[lnC,lnN];omega
   by_cases h5:k=5
   ·subst h5;have hlk:=hlk rfl;rw[B3,if_neg (by decide),if_neg (by decide),if_neg (by decide),if_neg (by decide),if_pos rfl];have hj:=Kn [44,32] (B7 ks (Cp l));rw[Fq hlk] at hj;have aC:∀(ks:List ByteArray) (l:List Vl),l.length=ks.length->(∀x∈ks,x.size<=65536)->((B7 ks (Cp l)).map List.length).sum<=(l.map fun x=>(B3 x).length).sum+l.length*131076:=by
     intro ks
     induction ks with
     | nil=>intro l h _;simp[B7]
     | cons key t ih2=>
      intro l h hz;cases l with
      | nil=>simp at h
      | cons v r=>
       have h3:=ih2 r (by simpa using h) fun x hx=>hz x (lmO _ hx);have h4:=hz key (lmS ..);have h5:=Ob key.data.toList;rw[Ax] at h5;rw[Cp,B7,List.zipWith_cons_cons,List.map_cons,List.sum_cons,List.map_cons,List.sum_cons,lnC,lnA,lnA];rw[B7] at h3;simp only[lnC,lnN];omega
    have h6:=aC ks l hlk hk;rw[lnA,lnA,hj];simp only[lnC,lnN];omega
   ·rw[B3,if_neg h1,if_neg h2,if_neg h3,if_neg h4,if_neg h5];simp only[lnC,lnN];omega)
  (fun _ x hx=>by cases hx)
  (fun v t hv ht hp x hx=>by
   rw[prVs] at hp;rcases List.mem_cons.1 hx with rfl|hx
   ·exact hv hp.1
   ·exact ht hp.2 x hx) v
theorem Pt{v}(h:A0 v=true):cntV v<=20000:=by
 unfold A0 at h;obtain⟨h1,-,-⟩:=Lj v 1 20000 h;have h4:=(Jo v 1 20000 (by omega)).2.2 h;omega
theorem Oc{v}(h:A0 v=true):(B3 v).length<=5300000000:=by
 have h1:=Wx v (Lf h);have h2:=Pt h;omega
theorem Wy(v)(hs:A6 v)(F a1 c1 a2 c2 w)(hF:∀b,F b->b<w.heap.size)(hT:Et w)(hr1:Af F w a1 (Ar v.items))(hr2:Af F w a2 (Bl v.keys)):
  Calls Tryz.prog 15 #[A8 v.kind v.num v.str a1 v.items.length c1 a2 v.keys.length c2] w (Jl (printV v) w):=by
 obtain⟨k,n,s,l,ks⟩:=v;show Calls Tryz.prog 15 #[A8 k n s a1 l.length c1 a2 ks.length c2] w _;have H0:Hid (TB w (w.alloc (.cells #[.int .i64 k,.int .i64 n,.string s,.slice a1 l.length c1,.slice a2 ks.length c2] 42)) #[.int .i64 k,.int .i64 n,.string s,.slice a1 l.length c1,.slice a2 ks.length c2]):=Lq7 ⟨(bRf _ w).alloc (nlr _) _,heap_alloc_new w _⟩;have aD:∀b,F b->b<(w.alloc (.cells #[.int .i64 k,.int .i64 n,.string s,.slice a1 l.length c1,.slice a2 ks.length c2] 42)).heap.size:=fun b hb=>(by have:=hF b hb;have:=H0.out.below.size;omega);have HC:=Lq7 (Dx (.mk k n s l ks) hs F a1 c1 a2 c2 _ aD (hr1.below H0.out.below) (hr2.below H0.out.below));have Hr:=Lq7 (aIn aD (aIn (hT.below H0.out.below) (aIn (hr1.below H0.out.below) (hr2.below H0.out.below))));unfold A8 at HC |-;cases hck:A0 (.mk k n s l ks) with
 | false=>
  have Hp:Hid (printV (.mk k n s l ks)=[]):=Lq7 (by unfold printV;rw[hck];rfl);rw[hck] at HC;go_enter Tryz.func15,Tryz.ntmps15;go_wp2_with fail;refine HC.out.mono ?_;rintro e w1 ⟨rfl,aB⟩;have H1:=Lq7 (H0.out.later aB);go_wp2_with fail;go_ret;exact⟨_,rfl,Hp.out.symm,H1.out.below⟩
 | true=>
  have Hp:Hid (printV (.mk k n s l ks)=B3 (.mk k n s l ks)):=Lq7 (by unfold printV;rw[hck];rfl);have aE:=Lq7 hck;rw[hck] at HC;go_enter Tryz.func15,Tryz.ntmps15;go_wp2_with fail;refine HC.out.mono ?_;rintro e w1 ⟨rfl,aB⟩;have H1:=Lq7 (H0.out.later aB);have HX:=Lq7 (Xn (.mk k n s l ks) (Lf aE.out) (by have:=Oc aE.out;unfold textMax;omega) F a1 c1 a2 c2 w1 (fun b hb=>nll (Hr.out.1 b hb) aB.size) (Hr.out.2.1.below aB) (Hr.out.2.2.1.below aB) (Hr.out.2.2.2.below aB));obtain⟨q0,q1,q2,q3,q4,q5,-⟩:=Aa H1.out.v;unfold A8 at HX;go_wp2_with fail;refine HX.out.mono ?_;rintro e w2 ⟨o,rfl,ho,hb2⟩;have H2:=Lq7 (aIn ho (H1.out.later hb2));go_wp2_with fail;go_ret;exact⟨_,rfl,H2.out.1.trans Hp.out.symm,H2.out.2.below⟩
mutual
def bulkV:Vl->Nat
 | .mk _ _ s l ks=>s.size+sumS ks+bulkVs l
def bulkVs:List Vl->Nat
 | []=>0
 | v::t=>bulkV v+bulkVs t
end
theorem Q6(l:List Vl)(j:Nat)(h:j<l.length):bulkVs (l.take (j+1))=bulkVs (l.take j)+bulkV l[j]:=by
 induction l generalizing j with
 | nil=>simp at h
 | cons v t ih=>
  cases j with
  | zero=>simp[bulkVs]
  | succ j=>
   have:=ih j (by simpa using h);simp only[List.take_succ_cons,bulkVs,List.getElem_cons_succ];omega
theorem U0(l j):bulkVs (l.take j)<=bulkVs l:=by
 induction l generalizing j with
 | nil=>simp[bulkVs]
 | cons v t ih=>
  cases j with
  | zero=>simp[bulkVs]
  | succ j=>
   have:=ih j;simp only[List.take_succ_cons,bulkVs];omega
theorem sumS_bound:∀ks:List ByteArray,(∀x∈ks,x.size<=65536)->sumS ks<=65536*ks.length
 | [],_=>by simp[sumS]
 | x::t,h=>by
  have h1:=sumS_bound t fun y hy=>h y (lmO _ hy);have h2:=h x (lmS ..);unfold sumS at *;rw[List.map_cons,List.sum_cons,lnC];omega
theorem bulkV_le(v):prV v->(bulkV v:Int)<=65601536*cntV v:=
 Vl.rec (motive_1:=fun v=>prV v->(bulkV v:Int)<=65601536*cntV v) (motive_2:=fun l=>prVs l->(bulkVs l:Int)<=65601536*cntVs l)
  (fun k n s l ks ih hp=>by
   rw[prV] at hp;obtain⟨-,hs,-,hkl,hk,-,hps⟩:=hp;have:=ih hps;have:=sumS_bound ks hk;rw[bulkV,cntV];omega)
  (fun _=>by simp[bulkVs,cntVs])
  (fun v t hv ht hp=>by
   rw[prVs] at hp;have:=hv hp.1;have:=ht hp.2;rw[bulkVs,cntVs];omega) v
def Q7(x:Vl):Prop:=bulkV x<=textMax->A6 x->∀(F:Nat->Prop) (a1:Option Addr) (c1:Nat) (a2:Option Addr) (c2:Nat) (w:World),(∀b,F b->b<w.heap.size)->Af F w a1 (Ar x.items)->Af F w a2 (Bl x.keys) ->
 Calls Tryz.prog 302 #[A8 x.kind x.num x.str a1 x.items.length c1 a2 x.keys.length c2] w (fun e w'=>e = .returned (.int .i64 (bulkV x:Nat))/\Below w.heap.size w w')
theorem U1(k n s l ks)(ih:∀x∈l,Q7 x):Q7 (.mk k n s l ks):=by
 intro hmax aC F a1 c1 a2 c2 w hF hr1 hr2;show Calls Tryz.prog 302 #[A8 k n s a1 l.length c1 a2 ks.length c2] w _;rw[bulkV] at hmax;rw[A6] at aC;have hll:=aC.2.1;have hkl:=aC.2.2.1;unfold textMax at hmax;have H0:Hid (TB w (w.alloc (.cells #[.int .i64 k,.int .i64 n,.string s,.slice a1 l.length c1,.slice a2 ks.length c2] 42)) #[.int .i64 k,.int .i64 n,.string s,.slice a1 l.length c1,.slice a2 ks.length c2]):=Lq7 ⟨(bRf _ w).alloc (nlr _) _,heap_alloc_new w _⟩;have Hk:=Lq7 (hr2.below H0.out.below).strs;have Hr:=Lq7 (aIn (hr1.below H0.out.below) (fun b (hb:F b)=>nll (hF b hb) H0.out.below.size));have aH:=Lq7 (aIn ih (fun x (hx:x∈l)=>smallVs_mem aC.2.2.2.2 hx));unfold A8;go_enter Tryz.func302,Tryz.ntmps302;go_wp2_with fail;generalize hW0:w.alloc (.cells #[.int .i64 k,.int .i64 n,.string s,.slice a1 l.length c1,.slice a2 ks.length c2] 42)=W0 at *
 go_loop [3,14] (fun v i=>∃j:Nat,i = .int .i64 j/\j<=ks.length/\v = .int .i64 ((s.size:Int)+(sumS (ks.take j):Nat))) (fun _ i=>ks.length-(intOf i).toNat)
 case atStart=>exact⟨0,rfl,nlz _,by simp[sumS]⟩
 case round=>
  obtain⟨j,rfl,hj,rfl⟩:=hrel;by_cases hlt:j<ks.length
  ·obtain⟨bK,oK,hak,hck⟩:=Hk.out j _ (lgE hlt);subst hak;have hs1:=Ln ks j hlt;have hs2:=Qd ks (j+1);generalize ks[j]=x at hck hs1;go_wp2_with fail;go_round
   case rel=>exact⟨j+1,by go_num,by omega,by go_num⟩
   case measure=>simp only[intOf];omega
  ·have hjl:ks.take j=ks:=ltL (by omega);rw[hjl];obtain⟨q0,q1,q2,q3,q4,q5,-⟩:=Aa H0.out.v;go_wp2_with fail
   go_loopw [3,26] (fun v i wr=>∃j:Nat,i = .int .i64 j/\j<=l.length/\v = .int .i64 ((s.size:Int)+(sumS ks:Nat)+(bulkVs (l.take j):Nat))/\Hid (Below W0.heap.size W0 wr)) (fun _ i _=>l.length-(intOf i).toNat)
   case atStart=>exact⟨0,rfl,nlz _,by simp[bulkVs],Lq7 (bRf _ _)⟩
   case round=>
    obtain⟨j2,rfl,hj2,rfl,aB⟩:=hrel;by_cases hlt2:j2<l.length
    ·cases hx:l[j2] with
     | mk xk xn xs xl xks=>
      have aE:l[j2]? = some (.mk xk xn xs xl xks):=(by rw[lgE hlt2,hx]);have hb1:=Q6 l j2 hlt2;have hb2:=U0 l (j2+1);rw[hx] at hb1;obtain⟨b,off,x1,y1,x2,y2,hae,-,hbl,r0,r1,r2,r3,r4,hv1,hv2⟩:=(Hr.out.1.below aB.out).val aE;have aD:Below wr.heap.size wr (wr.alloc (.cells #[.int .i64 xk,.int .i64 xn,.string xs,.slice x1 xl.length y1,.slice x2 xks.length y2] 42)):=(bRf _ wr).alloc (nlr _) _;have HX:=Lq7 (aH.out.1 _ (lgM aE) (by unfold textMax;omega) (aH.out.2 _ (lgM aE)) F x1 y1 x2 y2 _ (fun b hb=>by have:=Hr.out.2 b hb;have:=aB.out.size;have:=aD.size;omega) (hv1.below aD) (hv2.below aD));unfold A8 at HX;have aJ:=Lq7 (aB.out.trans (aD.mono aB.out.size));subst hae;generalize hbv:bulkV (.mk xk xn xs xl xks)=bv at *;go_wp2_with fail;refine HX.out.mono ?_;rintro e w1 ⟨rfl,hb3⟩;have Hb3:=Lq7 (aJ.out.trans (hb3.mono aJ.out.size));go_wp2_with fail;go_roundw
      case rel=>exact⟨j2+1,by go_num,by omega,by go_num,Hb3⟩
      case measure=>simp only[intOf];omega
    ·have aF:l.take j2=l:=ltL (by omega);have aG:Hid (bulkV (.mk k n s l ks)=s.size+sumS ks+bulkVs l):=Lq7 rfl;rw[aF];have Hb:=Lq7 (H0.out.below.trans (aB.out.mono H0.out.below.size));go_wp2_with fail;go_ret;exact⟨by rw[aG.out];go_num,Hb.out⟩
theorem U2(v):Q7 v:=
 Vl.rec (motive_1:=fun v=>Q7 v) (motive_2:=fun l=>∀x∈l,Q7 x) (fun k n s l ks ih=>U1 k n s l ks ih) (fun x hx=>by cases hx)
  (fun v t hv ht x hx=>by
   rcases List.mem_cons.1 hx with rfl|hx
   ·exact hv
   ·exact ht x hx) v
structure QB(w W:World)(b:Nat):Prop where
 below:Below w.heap.size w W
 r:W.heap[b]? = some (.cells #[.int .i64 0,.int .i64 0,.string ⟨#[]⟩,.slice none 0 0,.slice none 0 0] 42 (0,0))
 lo:w.heap.size<=b
theorem QB.later{w W W' b}(h:QB w W b)(hb:Below W.heap.size W W'):QB w W' b:=⟨h.below.trans (hb.mono h.below.size),stays h.r hb,h.lo⟩
theorem QB.start(w):QB w (w.alloc (.cells #[.int .i64 0,.int .i64 0,.string ⟨#[]⟩,.slice none 0 0,.slice none 0 0] 42)) w.heap.size:=⟨(bRf _ w).alloc (nlr _) _,heap_alloc_new w _,nlr _⟩
theorem QB.fin{r w W W' b e}(H:QB w W b)(h:Cm r W e W'):∃(k n:Int) (s:ByteArray) (a1:Option Addr) (l1 c1:Nat) (a2:Option Addr) (l2 c2:Nat) (m:Int),
  e = .returned (.tuple #[.agg #[.int .i64 k,.int .i64 n,.string s,.slice a1 l1 c1,.slice a2 l2 c2],.int .i64 m]) /\
  W'.heap[b]? = some (.cells #[.int .i64 0,.int .i64 0,.string ⟨#[]⟩,.slice none 0 0,.slice none 0 0] 42 (0,0)) /\
  Cm r w (.returned (.tuple #[.agg #[.int .i64 k,.int .i64 n,.string s,.slice a1 l1 c1,.slice a2 l2 c2],.int .i64 m])) (((((W'.setCell ⟨b,0,none⟩ (.int .i64 k)).setCell ⟨b,1,none⟩ (.int .i64 n)).setCell ⟨b,2,none⟩ (.string s)).setCell ⟨b,3,none⟩ (.slice a1 l1 c1)).setCell ⟨b,4,none⟩ (.slice a2 l2 c2)) /\
  (((((W'.setCell ⟨b,0,none⟩ (.int .i64 k)).setCell ⟨b,1,none⟩ (.int .i64 n)).setCell ⟨b,2,none⟩ (.string s)).setCell ⟨b,3,none⟩ (.slice a1 l1 c1)).setCell ⟨b,4,none⟩ (.slice a2 l2 c2)).heap[b]? = some (.cells #[.int .i64 k,.int .i64 n,.string s,.slice a1 l1 c1,.slice a2 l2 c2] 42 (0,0)):=by
 obtain⟨hb,hq⟩:=h;have H':=H.later hb;have hbW:b<W.heap.size:=here H.r;cases r with
 | error n=>
  obtain rfl:e=_:=hq;exact⟨0,0,⟨#[]⟩,none,0,0,none,0,0,n,rfl,H'.r,⟨(res_set H'.lo H'.below H'.r _ _ _ _ _).2,rfl⟩,(res_set H'.lo H'.below H'.r _ _ _ _ _).1⟩
 | ok x=>
  obtain⟨cs,rfl,bL⟩:=hq;obtain⟨yk,yn,ys,yl,yks⟩:=x;have bD:=bL;obtain⟨z1,f1,z2,f2,rfl,-,-⟩:=bL.val;refine⟨yk,yn,ys,z1,yl.length,f1,z2,yks.length,f2,0,rfl,H'.r,⟨(res_set H'.lo H'.below H'.r _ _ _ _ _).2,_,rfl,?_⟩,(res_set H'.lo H'.below H'.r _ _ _ _ _).1⟩;exact bD.mono fun g hg hl=>⟨nlt H.below.size hg,by simpa using hl,by
   have:W.heap.size<=g:=hg;rw[Ad (by omega),Ad (by omega),Ad (by omega),Ad (by omega),Ad (by omega)]⟩
theorem QB.err{w W b}(H:QB w W b)(n):
  Cm (.error n) w (.returned (.tuple #[.agg #[.int .i64 0,.int .i64 0,.string ⟨#[]⟩,.slice none 0 0,.slice none 0 0],.int .i64 n])) (((((W.setCell ⟨b,0,none⟩ (.int .i64 0)).setCell ⟨b,1,none⟩ (.int .i64 0)).setCell ⟨b,2,none⟩ (.string ⟨#[]⟩)).setCell ⟨b,3,none⟩ (.slice none 0 0)).setCell ⟨b,4,none⟩ (.slice none 0 0)) /\
  (((((W.setCell ⟨b,0,none⟩ (.int .i64 0)).setCell ⟨b,1,none⟩ (.int .i64 0)).setCell ⟨b,2,none⟩ (.string ⟨#[]⟩)).setCell ⟨b,3,none⟩ (.slice none 0 0)).setCell ⟨b,4,none⟩ (.slice none 0 0)).heap[b]? = some (.cells #[.int .i64 0,.int .i64 0,.string ⟨#[]⟩,.slice none 0 0,.slice none 0 0] 42 (0,0)):=
 ⟨⟨(res_set H.lo H.below H.r _ _ _ _ _).2,rfl⟩,(res_set H.lo H.below H.r _ _ _ _ _).1⟩
structure V5(w:World)(b off:Nat)(x0 x1 x2 x3 x4:Value):Prop where
 lt:b<w.heap.size
 q0:w.cell? ⟨b,off,none⟩=some x0
 q1:w.cell? ⟨b,off+1,none⟩=some x1
 q2:w.cell? ⟨b,off+2,none⟩=some x2
 q3:w.cell? ⟨b,off+3,none⟩=some x3
 q4:w.cell? ⟨b,off+4,none⟩=some x4
theorem V5.below{w w' b off x0 x1 x2 x3 x4}(h:V5 w b off x0 x1 x2 x3 x4)(hb:Below w.heap.size w w'):V5 w' b off x0 x1 x2 x3 x4:=
 have k:∀i,w'.cell? ⟨b,i,none⟩=w.cell? ⟨b,i,none⟩:=fun i=>hb.cell (p:=⟨b,i,none⟩) h.lt
 ⟨nll h.lt hb.size,(k _).trans h.q0,(k _).trans h.q1,(k _).trans h.q2,(k _).trans h.q3,(k _).trans h.q4⟩
def Le(v:Vl):Except Int Vl:=if v.kind=3 then B8 v.str else if A0 v=true/\65536<bulkV v then .error 6 else B8 (toBs (printV v))
theorem Om{v}(h:A0 v=true):bulkV v<=textMax:=by
 have h1:=bulkV_le v (Lf h);have h2:=Pt h;unfold textMax;omega
theorem On(v):(toBs (printV v)).size<=5300000000:=by
 unfold printV;cases h:A0 v with
 | true=>exact Oc h
 | false=>exact nlz _
theorem text_any(F v a cap w)(hF:∀b,F b->b<w.heap.size)(hT:Et w)(hr:Af F w a (Ar [v]))(hs:A6 v):
  Calls Tryz.prog 294 #[.slice a 1 cap] w (Cm (Le v) w):=by
 obtain⟨k,n,s,l,ks⟩:=v;obtain⟨b,off,a1,c1,a2,c2,rfl,-,hbl,q0,q1,q2,q3,q4,bE,bF⟩:=hr.val (j:=0) rfl;simp only[Nat.zero_mul,naz] at q0 q1 q2 q3 q4;have HV:=Lq7 (V5.mk hbl q0 q1 q2 q3 q4);have aB:=QB.start w;have bG:=nlr w.heap.size;generalize aR:w.alloc (.cells #[.int .i64 0,.int .i64 0,.string ⟨#[]⟩,.slice none 0 0,.slice none 0 0] 42)=W0 at aB;have H0:=Lq7 aB;have bC:=Lq7 aR;have bH:∀b,F b->b<W0.heap.size:=fun b hb=>(by have:=hF b hb;have:=H0.out.below.size;omega);have HC:=Lq7 (Dx (.mk k n s l ks) hs F a1 c1 a2 c2 _ bH (bE.below H0.out.below) (bF.below H0.out.below));have Hr:=Lq7 (aIn bH (aIn (hT.below H0.out.below) (aIn (bE.below H0.out.below) (bF.below H0.out.below))));have Hs:=Lq7 hs;unfold A8 at HC;clear hF hT hr bE bF hs bH aB bG;by_cases hk:k=3
 ·subst hk;have hss:s.size<=9223372036854775807:=(by have:=Hs.out;rw[A6] at this;have:=this.1.1;omega);have Ht:Hid (Le (.mk 3 n s l ks)=B8 s):=Lq7 (if_pos rfl);clear aR;go_enter Tryz.func294,Tryz.ntmps294;go_wp2_with fail;rw[bC.out];refine(Ep s _ hss).mono ?_;rintro e w9 h9;rw[<-Ht.out] at h9;clear HC Hr q0 q1 q2 q3 q4;obtain⟨k9,n9,s9,aU,aW,aY,a29,aZ,bA,m9,rfl,aF,aG,aH⟩:=H0.out.fin h9;clear h9;have aD:=Lq7 (aIn aG aH);obtain⟨p0,p1,p2,p3,p4,p5,p6,p7,p8,p9,aE⟩:=Aa aF;clear aG aH aF;go_wp2_with fail;generalize wsC _ _ _=W9 at aD |-;clear p0 p1 p2 p3 p4 p5 p6 p7 p8 p9 aE;obtain⟨p0,p1,p2,p3,p4,p5,p6,p7,p8,p9,aE⟩:=Aa aD.out.2;exact bodyPost_ret (v:=.tuple #[.agg #[.int .i64 k9,.int .i64 n9,.string s9,.slice aU aW aY,.slice a29 aZ bA],.int .i64 m9]) (by simp[results,Tryz.results294,go_sem,p1,p2,p3,p4,p5]) rfl aD.out.1
 ·have hk2:decide (k=3)=false:=decide_eq_false hk;have hk3:(k==3)=false:=(by rw[beq_eq_false_iff_ne];exact hk);have Hp:=Lq7 (fun W (hb:Below W0.heap.size W0 W)=>
   Wy (.mk k n s l ks) Hs.out F a1 c1 a2 c2 W (fun b h=>nll (Hr.out.1 b h) hb.size) (Hr.out.2.1.below hb) (Hr.out.2.2.1.below hb) (Hr.out.2.2.2.below hb))
  unfold A8 at Hp;cases hck:A0 (.mk k n s l ks) with
  | false=>
   have Ht:Hid (Le (.mk k n s l ks)=B8 (toBs (printV (.mk k n s l ks)))):=Lq7 ((if_neg hk).trans (if_neg (by rw[hck];simp)));rw[hck] at HC;clear hck aR;go_enter Tryz.func294,Tryz.ntmps294;go_wp2_with fail;rw[bC.out];refine HC.out.mono ?_;rintro e w1 ⟨rfl,aC⟩;have H1:=Lq7 (aIn (H0.out.later aC) (aIn (HV.out.below (H0.out.below.trans (aC.mono H0.out.below.size))) aC));clear aC H0 HC q0 q1 q2 q3 q4;obtain⟨-,q0,q1,q2,q3,q4⟩:=H1.out.2.1;go_wp2_with fail;refine(Hp.out _ H1.out.2.2).mono ?_;rintro e w3 ⟨o,rfl,ho,bB⟩;have H3:=Lq7 (H1.out.1.later bB);have aJ:o=toBs (printV (.mk k n s l ks)):=(by rw[<-ho];rfl);have bI:o.size<=9223372036854775807:=(by have:=On (.mk k n s l ks);rw[aJ];omega);rw[<-aJ] at Ht;clear bB Hp Hr H1 q0 q1 q2 q3 q4 ho aJ;go_wp2_with fail;refine(Ep o _ bI).mono ?_;rintro e w9 h9;rw[<-Ht.out] at h9;obtain⟨k9,n9,s9,aU,aW,aY,a29,aZ,bA,m9,rfl,aF,aG,aH⟩:=H3.out.fin h9;clear h9;have aD:=Lq7 (aIn aG aH);obtain⟨p0,p1,p2,p3,p4,p5,p6,p7,p8,p9,aE⟩:=Aa aF;clear aG aH aF;go_wp2_with fail;generalize wsC _ _ _=W9 at aD |-;clear p0 p1 p2 p3 p4 p5 p6 p7 p8 p9 aE;obtain⟨p0,p1,p2,p3,p4,p5,p6,p7,p8,p9,aE⟩:=Aa aD.out.2;exact bodyPost_ret (v:=.tuple #[.agg #[.int .i64 k9,.int .i64 n9,.string s9,.slice aU aW aY,.slice a29 aZ bA],.int .i64 m9]) (by simp[results,Tryz.results294,go_sem,p1,p2,p3,p4,p5]) rfl aD.out.1
  | true=>
   have bJ:=Lq7 hck;rw[hck] at HC;clear hck;have HB:=Lq7 (fun W (hb:Below W0.heap.size W0 W)=>
    U2 (.mk k n s l ks) (Om bJ.out) Hs.out F a1 c1 a2 c2 W (fun b h=>nll (Hr.out.1 b h) hb.size) (Hr.out.2.2.1.below hb) (Hr.out.2.2.2.below hb))
   have bM:bulkV (.mk k n s l ks)<=140737488355328:=Om bJ.out;unfold A8 at HB;by_cases hbk:65536<bulkV (.mk k n s l ks)
   ·have Ht:Hid (Le (.mk k n s l ks) = .error 6):=Lq7 ((if_neg hk).trans (if_pos ⟨bJ.out,hbk⟩));have aM:(65536:Int)<((bulkV (.mk k n s l ks):Nat):Int):=(by omega);generalize bulkV (.mk k n s l ks)=bv at aM HB bM hbk;clear aR;go_enter Tryz.func294,Tryz.ntmps294;go_wp2_with fail;rw[bC.out];refine HC.out.mono ?_;rintro e w1 ⟨rfl,aC⟩;have H1:=Lq7 (aIn (H0.out.later aC) (aIn (HV.out.below (H0.out.below.trans (aC.mono H0.out.below.size))) aC));clear aC H0 HC q0 q1 q2 q3 q4;obtain⟨-,q0,q1,q2,q3,q4⟩:=H1.out.2.1;go_wp2_with fail;refine(HB.out w1 H1.out.2.2).mono ?_;rintro e w2 ⟨rfl,aN⟩;have H2:=Lq7 (H1.out.1.later aN);clear aN HB H1 Hp Hr q0 q1 q2 q3 q4;obtain⟨p0,p1,p2,p3,p4,p5,p6,p7,p8,p9,aE⟩:=Aa H2.out.r;go_wp2_with fail;have aQ:=H2.out.err 6;generalize wsC _ _ _=W9 at aQ |-;clear p0 p1 p2 p3 p4 p5 p6 p7 p8 p9 aE;obtain⟨p0,p1,p2,p3,p4,p5,p6,p7,p8,p9,aE⟩:=Aa aQ.2;refine bodyPost_ret (v:=.tuple #[.agg #[.int .i64 0,.int .i64 0,.string ⟨#[]⟩,.slice none 0 0,.slice none 0 0],.int .i64 6]) (by simp[results,Tryz.results294,go_sem,p1,p2,p3,p4,p5]) rfl ?_;rw[Ht.out];exact aQ.1
   ·have Ht:Hid (Le (.mk k n s l ks)=B8 (toBs (printV (.mk k n s l ks)))):=Lq7 ((if_neg hk).trans (if_neg (fun h=>hbk h.2)));have aM:¬(65536:Int)<((bulkV (.mk k n s l ks):Nat):Int):=(by omega);generalize bulkV (.mk k n s l ks)=bv at aM HB bM hbk;clear aR;go_enter Tryz.func294,Tryz.ntmps294;go_wp2_with fail;rw[bC.out];refine HC.out.mono ?_;rintro e w1 ⟨rfl,aC⟩;have H1:=Lq7 (aIn (H0.out.later aC) (aIn (HV.out.below (H0.out.below.trans (aC.mono H0.out.below.size))) aC));clear aC H0 HC q0 q1 q2 q3 q4;obtain⟨-,q0,q1,q2,q3,q4⟩:=H1.out.2.1;go_wp2_with fail;refine(HB.out w1 H1.out.2.2).mono ?_;rintro e w2 ⟨rfl,aN⟩;have H2:=Lq7 (aIn (H1.out.1.later aN) (aIn (H1.out.2.1.below aN) (H1.out.2.2.trans (aN.mono H1.out.2.2.size))));clear aN HB H1 q0 q1 q2 q3 q4;obtain⟨-,q0,q1,q2,q3,q4⟩:=H2.out.2.1;go_wp2_with fail;refine(Hp.out _ H2.out.2.2).mono ?_;rintro e w3 ⟨o,rfl,ho,bB⟩;have H3:=Lq7 (H2.out.1.later bB);have aJ:o=toBs (printV (.mk k n s l ks)):=(by rw[<-ho];rfl);have bI:o.size<=9223372036854775807:=(by have:=On (.mk k n s l ks);rw[aJ];omega);rw[<-aJ] at Ht;clear bB Hp Hr H2 q0 q1 q2 q3 q4 ho aJ;go_wp2_with fail;refine(Ep o _ bI).mono ?_;rintro e w9 h9;rw[<-Ht.out] at h9;obtain⟨k9,n9,s9,aU,aW,aY,a29,aZ,bA,m9,rfl,aF,aG,aH⟩:=H3.out.fin h9;clear h9;have aD:=Lq7 (aIn aG aH);obtain⟨p0,p1,p2,p3,p4,p5,p6,p7,p8,p9,aE⟩:=Aa aF;clear aG aH aF;go_wp2_with fail;generalize wsC _ _ _=W9 at aD |-;clear p0 p1 p2 p3 p4 p5 p6 p7 p8 p9 aE;obtain⟨p0,p1,p2,p3,p4,p5,p6,p7,p8,p9,aE⟩:=Aa aD.out.2;exact bodyPost_ret (v:=.tuple #[.agg #[.int .i64 k9,.int .i64 n9,.string s9,.slice aU aW aY,.slice a29 aZ bA],.int .i64 m9]) (by simp[results,Tryz.results294,go_sem,p1,p2,p3,p4,p5]) rfl aD.out.1
def P2(l:List Vl):Option (List ByteArray):=if l.all (fun x=>x.kind==3)=true then some (l.map Vl.str) else none
def PStrs(r:Option (List ByteArray))(w:World)(e:Ending)(w':World):Prop:=Below w.heap.size w w'/\match r with
 | some l=>∃x,e = .returned (.tuple #[x,.bool true])/\OwnS w' w.heap.size x l
 | none=>e = .returned (.tuple #[.slice none 0 0,.bool false])
theorem strs_any(F l a cap w)(hr:Af F w a (Ar l))(hl1:l.length<=1000):
  Calls Tryz.prog 303 #[.slice a l.length cap] w (PStrs (P2 l) w):=by
 have Hr:=Lq7 hr;obtain⟨i0,hi,hz0,hz1,hz2⟩:=info_parts infoStr;go_enter Tryz.func303,Tryz.ntmps303;go_wp2_with fail
 go_loopw [4,9] (fun v i wr=>∃j:Nat,i = .int .i64 j/\j<=l.length/\Hid (OwnS wr w.heap.size v ((l.take j).map Vl.str))/\Hid (Below w.heap.size w wr)/\Hid ((l.take j).all (fun x=>x.kind==3)=true)) (fun _ i _=>l.length-(intOf i).toNat)
 case atStart=>exact⟨0,rfl,nlz _,Lq7 (OwnS.nil _ _),Lq7 (bRf _ _),Lq7 rfl⟩
 case round=>
  obtain⟨j,rfl,hj,hown,aF,aD⟩:=hrel;by_cases hlt:j<l.length
  ·cases hx:l[j] with
   | mk xk xn xs xl xks=>
    have aY:l[j]? = some (.mk xk xn xs xl xks):=(by rw[lgE hlt,hx]);obtain⟨b,off,b1,e1,b2,e2,hae,-,hbl,r0,r1,r2,r3,r4,-,-⟩:=(Hr.out.below aF.out).val aY;have aQ:l.take (j+1)=l.take j++[.mk xk xn xs xl xks]:=(by rw[ltA,aY];rfl);subst hae;obtain⟨aL,cL,rfl,-,-⟩:=hown.out.strsAt;rw[lnM,lnT,Nat.min_eq_left hj] at hown |-;by_cases hk3:xk=3
    ·subst hk3;have aG:OwnS (wr.alloc (.cells #[.int .i64 3,.int .i64 xn,.string xs,.slice b1 xl.length e1,.slice b2 xks.length e2] 42)) w.heap.size (.slice aL j cL) ((l.take j).map Vl.str):=hown.out.below ((bRf _ _).alloc (nlr _) _);have aB:=lit_one (wr.alloc (.cells #[.int .i64 3,.int .i64 xn,.string xs,.slice b1 xl.length e1,.slice b2 xks.length e2] 42)) (.string xs) 9;rw[show(wr.alloc (.cells #[.int .i64 3,.int .i64 xn,.string xs,.slice b1 xl.length e1,.slice b2 xks.length e2] 42)).heap.size=wr.heap.size+1 by simp] at aB;have aH:=Lq7 aB;have aJ:Hid (((wr.alloc (.cells #[.int .i64 3,.int .i64 xn,.string xs,.slice b1 xl.length e1,.slice b2 xks.length e2] 42)).alloc (.cells #[.string xs] 9)).ownsRow w.heap.size 9 1 (.slice aL j cL) j (((l.take j).map Vl.str).map Value.string)):=Lq7 (by
      have:=aG.below ((bRf _ _).alloc (nlr _) (.cells #[.string xs] 9));unfold OwnS at this;rw[lnM,lnT,Nat.min_eq_left hj] at this;exact this)
     have aR:Hid (∀g,(Value.slice aL j cL).ownBlock=some g->w.heap.size<=g):=Lq7 (fun g hg=>(hown.out.block hg).1);have hall':Hid ((l.take (j+1)).all (fun x=>x.kind==3)=true):=Lq7 (by rw[aQ,List.all_append,aD.out];rfl);have Htk:Hid ((l.take (j+1)).map Vl.str=(l.take j).map Vl.str++[xs]):=Lq7 (by rw[aQ,List.map_append];rfl);have hsz:=aF.out.size
     go_wp2_with (at_builtin;refine wpList_append_own _ rfl _ _ 40 rfl w.heap.size 9 i0 (.string ByteArray.empty) 1 16 Tryz.underlying40 hi hz0 hz1 hz2 rfl (by decide) (.slice aL j cL) j _ rfl aJ.out ⟨wr.heap.size+1,0,none⟩ 1 1 [.string xs] rfl rfl aH.out ?_ ?_ ?_ ?_ ?_)
     ·simp[Value.oneCell']
     ·unfold maxLen;omega
     ·omega
     ·simp;omega
     intro v2 w2 aM aE _;have aC:Hid (OwnS w2 w.heap.size v2 ((l.take (j+1)).map Vl.str)):=Lq7 (by
      rw[Htk.out];unfold OwnS;rw[lnA,lnM,lnT,Nat.min_eq_left hj,List.map_append]
      simpa using aM)
     have aU:Hid (Below w.heap.size w w2):=Lq7 ((aF.out.trans ((((bRf _ wr).alloc (nlr _) _).alloc (by simp) _).mono hsz)).trans (B5 aE aR.out (by simp;omega)));obtain⟨aL2,cL2,rfl,-,-⟩:=aC.out.strsAt;go_wp2_with fail;go_roundw
     case rel=>exact⟨j+1,by go_num,by omega,aC,aU,hall'⟩
     case measure=>simp only[intOf];omega
    ·have hk3':(xk != 3)=true:=(by simpa using hk3);have hk3n:decide (xk=3)=false:=decide_eq_false hk3;have Hn:Hid (P2 l=none):=Lq7 (by
      refine if_neg ?_;intro h;rw[List.all_eq_true] at h;have hm:Vl.mk xk xn xs xl xks∈l:=by
       have:Vl.mk xk xn xs xl xks∈l.take (j+1):=(by rw[aQ];simp);exact List.mem_of_mem_take this
      have:=h _ hm;exact hk3 (by simpa[Vl.kind] using this))
     go_wp2_with fail;refine bodyPost_ret (v:=.tuple #[.slice none 0 0,.bool false]) (by simp[results,Tryz.results303,go_sem]) rfl ?_;rw[Hn.out];exact⟨aF.out.trans ((bRf _ wr).alloc (nlr _) _ |>.mono aF.out.size),rfl⟩
  ·have aN:l.take j=l:=ltL (by omega);rw[aN] at hown aD;have aW:Hid (P2 l=some (l.map Vl.str)):=Lq7 (if_pos aD.out);have Hown':=Lq7 hown.out;obtain⟨aL,cL,rfl,-,-⟩:=hown.out.strsAt;go_wp2_with fail;refine bodyPost_ret (v:=.tuple #[.slice aL (l.map Vl.str).length cL,.bool true]) (by simp[results,Tryz.results303,go_sem]) rfl ?_;rw[aW.out];exact⟨aF.out,_,rfl,Hown'.out⟩
def occL(a b:ByteArray):Nat:=if b.size=1 then Lib.countByte a.data.toList b.data[0]! else Lib.countB a b
theorem Xd(a b w)(hB:StdB w)(ha:a.size<=65536)(hb:1<=b.size):
  Calls Tryz.prog 104 #[.string a,.string b] w (fun e w'=>e = .returned (.int .i64 (occL a b:Nat))/\w'=w):=by
 unfold occL;by_cases h:b.size=1
 ·rw[if_pos h];obtain⟨⟨l⟩⟩:=b
  match l,h with
  | [c],_=>exact Tryz.strings_Count_one a c w
 ·rw[if_neg h];obtain⟨m,hm⟩:=hB;exact Tryz.strings_Count a b m w (by omega) hm (by omega)
theorem occL_le(a b)(hb:1<=b.size):occL a b<=a.size:=by
 unfold occL;split
 ·exact List.count_le_length
 ·exact Lib.countB_le b hb _ a (nlr _)
def replB(a b c:ByteArray):ByteArray:=toBs (Lib.replaceAll a.data.toList b.data.toList c.data.toList)
def Jj(a b c:ByteArray):Except Int Vl:=if b.size=0 then .error 1 else if(65536:Int)<a.size+occL a b*((c.size:Int)-b.size) then .error 6 else B8 (replB a b c)
def I3(l:List Vl):Except Int Vl:=match P2 l with|some [a,b,c]=>Jj a b c|_=> .error 9
theorem La(old new):∀(k:Nat) (s:List UInt8),(Lib.replaceK old new k s).length<=s.length+k*new.length
 | 0,s=>by simp[Lib.replaceK]
 | k+1,s=>by
  rw[Lib.replaceK];split
  ·omega
  ·have:=La old new k (s.drop ((Lib.index s old).toNat+old.length));simp only[lnA,lnT,List.length_drop] at *;rw[Nat.add_mul];omega
theorem T7(x y z)(hx:x.size<=65536)(hy:1<=y.size)(hz:z.size<=65536):(replB x y z).size<=9223372036854775807:=by
 have h0:(replB x y z).size=(Lib.replaceAll x.data.toList y.data.toList z.data.toList).length:=rfl;rw[h0];unfold Lib.replaceAll Lib.replace;have hxl:x.data.toList.length=x.size:=rfl;have hzl:z.data.toList.length=z.size:=rfl;split
 ·omega
 ·have hc:Lib.replaceNum x.data.toList y.data.toList (-1)<=65536:=by
   have:=Lib.countB_le y hy _ x (nlr _);unfold Lib.replaceNum;rw[if_pos (.inl (by decide))];exact nlt this hx
  have:=La y.data.toList z.data.toList (Lib.replaceNum x.data.toList y.data.toList (-1)) x.data.toList;have:=Nat.mul_le_mul hc (show z.data.toList.length<=65536 by omega);omega
theorem Qu(a b c w)(hB:StdB w)(ha:a.size<=65536)(hb:1<=b.size)(hc:c.size<=65536):
  Calls Tryz.prog 304 #[.string a,.string b,.string c] w (fun e w'=>e = .returned (.string (replB a b c))/\Below w.heap.size w w'):=by
 obtain⟨m,hm⟩:=hB;have h1:=Lib.countB_le b hb _ a (nlr _);have h2:Lib.countB a b*c.size<=65536*65536:=Nat.mul_le_mul (by omega) hc;exact Tryz.strings_ReplaceAll a b c m w (by omega) hm hb (by omega)
structure R3(W:World)(b off:Nat)(x y z:ByteArray):Prop where
 q0:W.cell? ⟨b,off,none⟩=some (.string x)
 q1:W.cell? ⟨b,off+1,none⟩=some (.string y)
 q2:W.cell? ⟨b,off+2,none⟩=some (.string z)
theorem R3.set{W b off x y z}(h:R3 W b off x y z){b0}(hne:b0≠b)(i v):R3 (W.setCell ⟨b0,i,none⟩ v) b off x y z:=
 have k:∀j,(W.setCell ⟨b0,i,none⟩ v).cell? ⟨b,j,none⟩=W.cell? ⟨b,j,none⟩:=fun _j=>World.cell?_of_block (w:=W) (Ad (Ne.symm hne) i v)
 ⟨(k _).trans h.q0,(k _).trans h.q1,(k _).trans h.q2⟩
structure RS(w W:World)(b0 b off:Nat)(x y z:ByteArray):Prop where
 box:QB w W b0
 lt:b<W.heap.size
 ne:b0≠b
 std:StdB W
 q0:W.cell? ⟨b,off,none⟩=some (.string x)
 q1:W.cell? ⟨b,off+1,none⟩=some (.string y)
 q2:W.cell? ⟨b,off+2,none⟩=some (.string z)
theorem RS.later{w W W' b0 b off x y z}(h:RS w W b0 b off x y z)(hb:Below W.heap.size W W'):RS w W' b0 b off x y z:=
 have k:∀i,W'.cell? ⟨b,i,none⟩=W.cell? ⟨b,i,none⟩:=fun i=>hb.cell (p:=⟨b,i,none⟩) h.lt
 ⟨h.box.later hb,nll h.lt hb.size,h.ne,h.std.below hb,(k _).trans h.q0,(k _).trans h.q1,(k _).trans h.q2⟩
theorem RS.three{w W b0 b off x y z}(h:RS w W b0 b off x y z):R3 W b off x y z:=⟨h.q0,h.q1,h.q2⟩
theorem Oz(F v1 v2 v3 a cap w)(hB:StdB w)(hr:Af F w a (Ar [v1,v2,v3]))(h1:v1.str.size<=65536)(h2:v2.str.size<=65536)(h3:v3.str.size<=65536):
  Calls Tryz.prog 295 #[.slice a 3 cap] w (Cm (I3 [v1,v2,v3]) w):=by
 have aC:=QB.start w;generalize aZ:w.alloc (.cells #[.int .i64 0,.int .i64 0,.string ⟨#[]⟩,.slice none 0 0,.slice none 0 0] 42)=W0 at aC;have H0:=Lq7 aC;have aW:=Lq7 aZ;have HC:=Lq7 (strs_any F [v1,v2,v3] a cap W0 (hr.below H0.out.below) (by simp));have HB:=Lq7 (hB.below H0.out.below);clear aC aZ hr hB;cases hss:P2 [v1,v2,v3] with
 | none=>
  have Ht:Hid (I3 [v1,v2,v3] = .error 9):=Lq7 (by unfold I3;rw[hss]);rw[hss] at HC;clear hss;go_enter Tryz.func295,Tryz.ntmps295;go_wp2_with fail;rw[aW.out];refine HC.out.mono ?_;rintro e w1 ⟨aF,rfl⟩;have H1:=Lq7 (H0.out.later aF);clear aF HC HB;obtain⟨p0,p1,p2,p3,p4,p5,p6,p7,p8,p9,aD⟩:=Aa H1.out.r;go_wp2_with fail;have aB:=H1.out.err 9;generalize wsC _ _ _=W9 at aB |-;clear p0 p1 p2 p3 p4 p5 p6 p7 p8 p9 aD;obtain⟨p0,p1,p2,p3,p4,p5,p6,p7,p8,p9,aD⟩:=Aa aB.2;refine bodyPost_ret (v:=.tuple #[.agg #[.int .i64 0,.int .i64 0,.string ⟨#[]⟩,.slice none 0 0,.slice none 0 0],.int .i64 9]) (by simp[results,Tryz.results295,go_sem,p1,p2,p3,p4,p5]) rfl ?_;rw[Ht.out];exact aB.1
 | some ts=>
  have hts:ts=[v1.str,v2.str,v3.str]:=by
   unfold P2 at hss;split at hss
   ·cases hss;rfl
   ·cases hss
  subst hts;have Ht:Hid (I3 [v1,v2,v3]=Jj v1.str v2.str v3.str):=Lq7 (by unfold I3;rw[hss]);rw[hss] at HC;clear hss;generalize v1.str=x at *;generalize v2.str=y at *;generalize v3.str=z at *;by_cases hy:y.size=0
  ·obtain rfl:y=⟨#[]⟩:=(by obtain⟨⟨l⟩⟩:=y;match l,hy with|[],_=>rfl);have aM:Hid (I3 [v1,v2,v3] = .error 1):=Lq7 (Ht.out.trans (if_pos rfl));go_enter Tryz.func295,Tryz.ntmps295;go_wp2_with fail;rw[aW.out];refine HC.out.mono ?_;rintro e w1 ⟨aF,xx,rfl,hown⟩;obtain⟨aT,cT,rfl,aH,hcap⟩:=hown.strsAt;obtain⟨b,off,rfl,q1⟩:=aH 1 _ rfl;have H1:=Lq7 (H0.out.later aF);clear aF HC HB aH hown;obtain⟨p0,p1,p2,p3,p4,p5,p6,p7,p8,p9,aD⟩:=Aa H1.out.r;go_wp2_with fail;have aB:=H1.out.err 1;generalize wsC _ _ _=W9 at aB |-;clear p0 p1 p2 p3 p4 p5 p6 p7 p8 p9 aD;obtain⟨p0,p1,p2,p3,p4,p5,p6,p7,p8,p9,aD⟩:=Aa aB.2;refine bodyPost_ret (v:=.tuple #[.agg #[.int .i64 0,.int .i64 0,.string ⟨#[]⟩,.slice none 0 0,.slice none 0 0],.int .i64 1]) (by simp[results,Tryz.results295,go_sem,p1,p2,p3,p4,p5]) rfl ?_;rw[aM.out];exact aB.1
  ·have bA:¬y.data.toList=[]:=fun h=>hy (by have:=congrArg List.length h;simpa using this);have hyn:(y.data.toList==[])=false:=(by simpa using bA);have aY:¬y.toList=[]:=(by rw[Lib.toList_data];exact bA);have hyn2:(y.toList==[])=false:=(by simpa using aY);have hcl:=occL_le x y (by omega);have hm1:((occL x y:Nat):Int)*((z.size:Int)-y.size)<=65536*65536:=by
    rcases Int.lt_or_le ((z.size:Int)-y.size) 0 with h|h
    ·exact Int.le_trans (Int.mul_nonpos_of_nonneg_of_nonpos (by omega) (by omega)) (by decide)
    ·exact Int.mul_le_mul (by omega) (by omega) h (by decide)
   have hm2: -(65536*65536)<=((occL x y:Nat):Int)*((z.size:Int)-y.size):=by
    rcases Int.lt_or_le ((z.size:Int)-y.size) 0 with h|h
    ·have:=Int.mul_le_mul (a:=((occL x y:Nat):Int)) (b:= -((z.size:Int)-y.size)) (c:=65536) (d:=65536) (by omega) (by omega) (by omega) (by decide);rw[Int.mul_neg] at this;omega
    ·exact Int.le_trans (by decide) (Int.mul_nonneg (by omega) h)
   have bB:wrap64 ((z.size:Int)-y.size)=(z.size:Int)-y.size:=IntWalk.wrap64_in _ ⟨by omega,by omega⟩;have aE:Hid (Jj x y z=if(65536:Int)<x.size+((occL x y:Nat):Int)*((z.size:Int)-y.size) then .error 6 else B8 (replB x y z)):=Lq7 (if_neg hy);have aG:=Lq7 (fun W hW=>Xd x y W hW (by omega) (by omega));generalize hM:((occL x y:Nat):Int)*((z.size:Int)-y.size)=M at hm1 hm2 aE;have aR:wrap64 M=M:=IntWalk.wrap64_in _ ⟨by omega,by omega⟩;have bC:wrap64 ((x.size:Int)+M)=(x.size:Int)+M:=IntWalk.wrap64_in _ ⟨by omega,by omega⟩;have HM:=Lq7 hM;have Hw:=Lq7 (aIn bB (aIn aR bC));generalize occL x y=cn at HM aG hcl;clear hM bB aR bC;have aN:∃B:Bool,Hid (B=decide ((65536:Int)<x.size+M)):=⟨_,Lq7 rfl⟩;obtain⟨B,aQ⟩:=aN;go_enter Tryz.func295,Tryz.ntmps295;go_wp2_with fail;rw[aW.out];refine HC.out.mono ?_;rintro e w1 ⟨aF,xx,rfl,hown⟩;obtain⟨aT,cT,rfl,aH,hcap⟩:=hown.strsAt;obtain⟨b,off,rfl,q1⟩:=aH 1 _ rfl;obtain⟨b',off',he,q0⟩:=aH 0 _ rfl;cases he;obtain⟨b',off',he,q2⟩:=aH 2 _ rfl;cases he;rw[naz] at q0;have hne:w.heap.size≠b:=by
    have:=hown.block (g:=b) rfl;have:=H0.out.r;have:=here this;omega
   have H1:Hid (RS w w1 w.heap.size b off x y z):=Lq7 ⟨H0.out.later aF,Au q0,hne,HB.out.below aF,q0,q1,q2⟩;have hne:=Lq7 hne;clear aF HC HB aH hown q0 q2;go_wp2_with fail;have H2:Hid (RS w w1.drew w.heap.size b off x y z):=Lq7 (H1.out.later (bRf _ _).drew);refine A4 (.s 0 (.s 1 (.s 2 (.s 3 (.s 4 (.s 5 (.s 6 (.s 7 (.s 8 (.s 9 (.s 11 (.s 12 (.s 13 (.s 14 (.s 15 (.s 16 (.s 17 (.s 18 (.s 19 (.h 10 (.s 20 (.s 21 (.s 22 .nil))))))))))))))))))))))) 99 (fun W'=>R3 W' b off x y z) H2.out.three ?_;generalize w1.drew=Wd at H2 |-;clear q1;refine Aj (.slice (some ⟨b,off,none⟩) 3 cT) ?_;refine Aj (.pointer (some ⟨b,off,none⟩)) ?_;refine A9 (.string x) (fun W' hS=>?_) ?_
   ·obtain⟨z0,z1,z2⟩:=hS;go_simp
   refine Aj (.int .i64 x.size) ?_;refine Aj (.slice (some ⟨b,off,none⟩) 3 cT) ?_;refine Aj (.pointer (some ⟨b,off,none⟩)) ?_;refine A9 (.string x) (fun W' hS=>?_) ?_
   ·obtain⟨z0,z1,z2⟩:=hS;go_simp
   refine Aj (.slice (some ⟨b,off,none⟩) 3 cT) ?_;refine Aj (.pointer (some ⟨b,off+1,none⟩)) ?_;refine A9 (.string y) (fun W' hS=>?_) ?_
   ·obtain⟨z0,z1,z2⟩:=hS;go_simp
   refine Aj (.slice (some ⟨b,off,none⟩) 3 cT) ?_;refine Aj (.pointer (some ⟨b,off+2,none⟩)) ?_;refine A9 (.string z) (fun W' hS=>?_) ?_
   ·obtain⟨z0,z1,z2⟩:=hS;go_simp
   refine Aj (.int .i64 z.size) ?_;refine Aj (.slice (some ⟨b,off,none⟩) 3 cT) ?_;refine Aj (.pointer (some ⟨b,off+1,none⟩)) ?_;refine A9 (.string y) (fun W' hS=>?_) ?_
   ·obtain⟨z0,z1,z2⟩:=hS;go_simp
   refine Aj (.int .i64 y.size) ?_;refine A9 (.int .i64 ((z.size:Int)-y.size)) (fun W' hS=>?_) ?_
   ·go_simp;exact(IntWalk.i64_left _).trans Hw.out.1
   refine Ac rfl (fun K10 aJ=>?_);go_wp2_with fail;refine(aG.out _ H2.out.std).mono ?_;rintro e w2 ⟨rfl,aR⟩;obtain rfl:=aR.symm;go_wp2_with fail;refine aJ _ _ (fun _=>H2.out.three) ?_;(try simp only[gX,aP]);refine A9 (.int .i64 M) (fun W' hS=>?_) ?_
   ·have hm:=HM.out;go_simp;exact(IntWalk.i64_left _).trans Hw.out.2.1
   refine A9 (.int .i64 ((x.size:Int)+M)) (fun W' hS=>?_) ?_
   ·go_simp;exact(IntWalk.i64_left _).trans Hw.out.2.2
   refine A9 (.bool B) (fun W' hS=>?_) ?_
   ·rw[aQ.out];go_simp
   refine Ak ?_;(try simp only[gX,aP]);cases B with
   | true=>
    have aM:Hid (I3 [v1,v2,v3] = .error 6):=Lq7 (Ht.out.trans (aE.out.trans (if_pos (of_decide_eq_true aQ.out.symm))));have H3:=Lq7 H2.out.box;clear H2 aQ aE Hw HM aG;obtain⟨p0,p1,p2,p3,p4,p5,p6,p7,p8,p9,aD⟩:=Aa H3.out.r;go_wp2_with fail;have aB:=H3.out.err 6;generalize wsC _ _ _=W9 at aB |-;clear p0 p1 p2 p3 p4 p5 p6 p7 p8 p9 aD;obtain⟨p0,p1,p2,p3,p4,p5,p6,p7,p8,p9,aD⟩:=Aa aB.2;refine bodyPost_ret (v:=.tuple #[.agg #[.int .i64 0,.int .i64 0,.string ⟨#[]⟩,.slice none 0 0,.slice none 0 0],.int .i64 6]) (by simp[results,Tryz.results295,go_sem,p1,p2,p3,p4,p5]) rfl ?_;rw[aM.out];exact aB.1
   | false=>
    have aM:Hid (I3 [v1,v2,v3]=B8 (replB x y z)):=Lq7 (Ht.out.trans (aE.out.trans (if_neg (of_decide_eq_false aQ.out.symm))));have bD:=Lq7 (fun W hW=>Qu x y z W hW (by omega) (by omega) (by omega));have bE:(replB x y z).size<=9223372036854775807:=T7 x y z (by omega) (by omega) (by omega);generalize replB x y z=R at aM bD bE;clear aQ aE Hw HM aG Ht;go_wp2_with fail;have H4:Hid (RS w Wd.drew w.heap.size b off x y z):=Lq7 (H2.out.later (bRf _ _).drew);clear H2;refine A4 (.s 0 (.s 1 (.s 2 (.s 3 (.s 4 (.s 5 (.s 6 (.s 7 (.s 8 (.h 9 (.h 10 (.s 11 (.s 12 (.h 13 (.s 14 .nil))))))))))))))) 99 (fun W'=>R3 W' b off x y z) H4.out.three ?_;generalize Wd.drew=We at H4 |-;refine Aj (.slice (some ⟨b,off,none⟩) 3 cT) ?_;refine Aj (.pointer (some ⟨b,off,none⟩)) ?_;refine A9 (.string x) (fun W' hS=>?_) ?_
    ·obtain⟨z0,z1,z2⟩:=hS;go_simp
    refine Aj (.slice (some ⟨b,off,none⟩) 3 cT) ?_;refine Aj (.pointer (some ⟨b,off+1,none⟩)) ?_;refine A9 (.string y) (fun W' hS=>?_) ?_
    ·obtain⟨z0,z1,z2⟩:=hS;go_simp
    refine Aj (.slice (some ⟨b,off,none⟩) 3 cT) ?_;refine Aj (.pointer (some ⟨b,off+2,none⟩)) ?_;refine A9 (.string z) (fun W' hS=>?_) ?_
    ·obtain⟨z0,z1,z2⟩:=hS;go_simp
    refine Ac rfl (fun K9 hK9=>?_);go_wp2_with fail;refine(bD.out _ H4.out.std).mono ?_;rintro e w2 ⟨rfl,bF⟩;have H5:=Lq7 (H4.out.later bF);clear bF H4;go_wp2_with fail;refine hK9 _ _ (fun _=>H5.out.three) ?_;(try simp only[gX,aP]);refine Ac rfl (fun K10 aJ=>?_);go_wp2_with fail;refine(Ep R _ bE).mono ?_;rintro e w9 h9;rw[<-aM.out] at h9;have H6:=Lq7 (H5.out.later h9.1);obtain⟨k9,n9,s9,bG,bH,bI,a29,bJ,bL,m9,rfl,bM,bN,bO⟩:=H5.out.box.fin h9;have aU:=Lq7 (aIn bM (aIn bN bO));clear h9 bN bO bM H5;go_wp2_with fail;refine aJ _ _ (fun _=>H6.out.three) ?_;(try simp only[gX,aP]);refine Aj (.agg #[.int .i64 k9,.int .i64 n9,.string s9,.slice bG bH bI,.slice a29 bJ bL]) ?_;refine Aj (.int .i64 m9) ?_;obtain⟨p0,p1,p2,p3,p4,p5,p6,p7,p8,p9,aD⟩:=Aa aU.out.1;refine Ac rfl (fun KS hKS=>?_);go_wp2_with fail;refine hKS _ _ (fun _=>((((H6.out.three.set hne.out 0 _).set hne.out 1 _).set hne.out 2 _).set hne.out 3 _).set hne.out 4 _) ?_;generalize wsC _ _ _=W9 at aU |-;clear p0 p1 p2 p3 p4 p5 p6 p7 p8 p9 aD;(try simp only[gX,aP]);refine Aj (.int .i64 m9) ?_;refine Ak ?_;(try simp only[gX,aP]);go_wp2_with fail;obtain⟨p0,p1,p2,p3,p4,p5,p6,p7,p8,p9,aD⟩:=Aa aU.out.2.2;exact bodyPost_ret (v:=.tuple #[.agg #[.int .i64 k9,.int .i64 n9,.string s9,.slice bG bH bI,.slice a29 bJ bL],.int .i64 m9]) (by simp[results,Tryz.results295,go_sem,p1,p2,p3,p4,p5]) rfl aU.out.2.1
theorem in1_any(x a)(hx:A6 x)(F x1 e1 x2 e2 a1 c1 a2 c2 ab w)(hr1:Af F w x1 (Ar x.items))(hr2:Af F w x2 (Bl x.keys))(hg1:Af F w a1 (Ar a.items))(hg2:Af F w a2 (Bl a.keys))(ha:w.heap[ab]? = some (.cells #[.int .i64 a.kind,.int .i64 a.num,.string a.str,.slice a1 a.items.length c1,.slice a2 a.keys.length c2] 42 (0,0))):
  Calls Tryz.prog 254 #[A8 x.kind x.num x.str x1 x.items.length e1 x2 x.keys.length e2,.pointer (some ⟨ab,0,none⟩)] w (Px (sameV x a) w):=by
 unfold A8;have hb:Below w.heap.size w (w.alloc (.cells #[.int .i64 x.kind,.int .i64 x.num,.string x.str,.slice x1 x.items.length e1,.slice x2 x.keys.length e2] 42)):=(bRf _ w).alloc (nlr _) _;have HS:=Lq7 (Pz x hx a F x1 e1 x2 e2 a1 c1 a2 c2 _ (hr1.below hb) (hr2.below hb) (hg1.below hb) (hg2.below hb));have Hb:=Lq7 hb;obtain⟨q0,q1,q2,q3,q4,q5,-⟩:=Aa ha;generalize sameV x a=r at HS |-;go_enter Tryz.func254,Tryz.ntmps254;go_wp2_with fail;refine HS.out.mono ?_;rintro e w1 ⟨rfl,aB⟩;have H1:=Lq7 (Hb.out.trans (aB.mono Hb.out.size));go_wp2_with fail;go_ret;exact⟨rfl,H1.out⟩
theorem Vn(l:List Vl)(p:Vl->Bool)(R:World->Prop)(e:Ending)(w:World)(h:Sy (fun k=>match l[k]? with|some x=>p x|none=>false) l.length (fun _ W=>R W) e w):e = .returned (.bool (l.any p))/\R w:=by
 rcases h with⟨i,hi,hq,-,rfl,hR⟩|⟨hq,rfl,hR⟩
 ·refine⟨?_,hR⟩;have h1:p l[i]=true:=by
   have h2:=hq;simp only[lgE hi] at h2;exact h2
  have h3:l.any p=true:=List.any_eq_true.2 ⟨_,List.getElem_mem hi,h1⟩;rw[h3]
 ·refine⟨?_,hR⟩;have h3:l.any p=false:=by
   rw[List.any_eq_false];intro x hx;obtain⟨j,hj,rfl⟩:=List.getElem_of_mem hx;have h2:=hq j hj;simp only[lgE hj] at h2
   simpa using h2
  rw[h3]
theorem in_list(k n n' s s' l l' ks ks')(hs':A6 (.mk 4 n' s' l' ks'))(F a1 c1 a2 c2 a3 c3 a4 c4 w)(hr1:Af F w a1 (Ar l))(hr2:Af F w a2 (Bl ks))(hr3:Af F w a3 (Ar l')):
  Calls Tryz.prog 237 #[A8 k n s a1 l.length c1 a2 ks.length c2,A8 4 n' s' a3 l'.length c3 a4 ks'.length c4] w (Cm (.ok (truthL (l'.any fun x=>sameV x (.mk k n s l ks)))) w):=by
 unfold A8;obtain⟨h1,h2,h3,h4,h5⟩:=Ch w (.cells #[.int .i64 k,.int .i64 n,.string s,.slice a1 l.length c1,.slice a2 ks.length c2] 42) (.cells #[.int .i64 4,.int .i64 n',.string s',.slice a3 l'.length c3,.slice a4 ks'.length c4] 42) (.cells #[.int .i64 0,.int .i64 0,.string ⟨#[]⟩,.slice none 0 0,.slice none 0 0] 42);rw[A6] at hs';generalize hW:((w.alloc (.cells #[.int .i64 k,.int .i64 n,.string s,.slice a1 l.length c1,.slice a2 ks.length c2] 42)).alloc (.cells #[.int .i64 4,.int .i64 n',.string s',.slice a3 l'.length c3,.slice a4 ks'.length c4] 42)).alloc (.cells #[.int .i64 0,.int .i64 0,.string ⟨#[]⟩,.slice none 0 0,.slice none 0 0] 42)=W0 at h1 h2 h3 h4 h5;have HW:=Lq7 hW;clear hW;have HC:Hid (Calls Tryz.prog 87 #[.slice a3 l'.length c3,.func (.func 254) #[] #[.pointer (some ⟨w.heap.size,0,none⟩)]] W0 (Sy (fun j=>match l'[j]? with|some x=>sameV x (.mk k n s l ks)|none=>false) l'.length (fun _ W=>Below W0.heap.size W0 W))):=Lq7
  (G3 F 254 #[] #[.pointer (some ⟨w.heap.size,0,none⟩)] (enters_of Tryz.func254 (by kernel_rfl) rfl) a3 c3 l' _ _ W0 (by omega) (bRf _ _) (fun j W h=>(hr3.below h4).below h) (fun j kk m t y ys x1 e1 x2 e2 w1 hj hI _ hx1 hx2=>by
   have h:=in1_any (.mk kk m t y ys) (.mk k n s l ks) (smallVs_mem hs'.2.2.2.2 (lgM hj)) F x1 e1 x2 e2 a1 c1 a2 c2 w.heap.size w1 hx1 hx2 ((hr1.below h4).below hI) ((hr2.below h4).below hI) (stays h1 hI);refine h.mono ?_;rintro e w2 ⟨rfl,hb⟩;refine⟨?_,hI.trans (hb.mono hI.size)⟩;show _=Ending.returned (.bool (match l'[j]? with|some x=>sameV x (.mk k n s l ks)|none=>false));rw[hj]))
 have H2:=Lq7 h2;have HQ:Hid (QB w W0 (w.heap.size+1+1)):=Lq7 ⟨h4,h3,by omega⟩;clear h1 h2 h3 h4 h5 hr1 hr2 hr3 hs';generalize hR:(l'.any fun x=>sameV x (.mk k n s l ks))=R;have HR:=Lq7 hR;clear hR;go_enter Tryz.func237,Tryz.ntmps237;go_wp2_with fail;rw[HW.out];refine HC.out.mono ?_;intro e w1 hq;obtain⟨rfl,aB⟩:=Vn l' (fun x=>sameV x (.mk k n s l ks)) _ e w1 hq;rw[HR.out];have HQ1:=Lq7 (HQ.out.later aB);clear hq aB HC HQ HW H2 HR;go_wp2_with fail;refine(Im R _).mono ?_;intro e w2 h9;obtain⟨k9,n9,s9,a19,l19,c19,a29,l29,c29,m9,rfl,aD,aE,aF⟩:=HQ1.out.fin h9;clear h9;have aC:=Lq7 (aIn aE aF);obtain⟨p0,p1,p2,p3,p4,p5,p6,p7,p8,p9,aG⟩:=Aa aD;clear aE aF aD;go_wp2_with fail;generalize wsC _ _ _=W9 at aC |-;clear p0 p1 p2 p3 p4 p5 p6 p7 p8 p9 aG;obtain⟨p0,p1,p2,p3,p4,p5,p6,p7,p8,p9,aG⟩:=Aa aC.out.2;exact bodyPost_ret (v:=.tuple #[.agg #[.int .i64 k9,.int .i64 n9,.string s9,.slice a19 l19 c19,.slice a29 l29 c29],.int .i64 m9]) (by simp[results,Tryz.results237,go_sem,p1,p2,p3,p4,p5]) rfl aC.out.1
theorem Lm(F a c ks x w)(hl:ks.length<=140737488355328)(hr:Af F w a (Bl ks)):
  Calls Tryz.prog 129 #[.slice a ks.length c,.string x] w (fun e w'=>e = .returned (.bool (Lib.containsS ks x))/\w'=w):=by
 cases ks with
 | nil=>exact Tryz.slices_Contains_string_empty a c x w
 | cons k t=>
  obtain⟨b,off,rfl,-⟩:=hr.strs.at (show 0<(k::t).length by simp);have h:=Tryz.slices_Contains_string b off (k::t).length c (k::t) x w (nlr _) (by omega) (fun j hj=>by
   obtain⟨b',off',he,hc⟩:=hr.strs.at hj;cases he;rw[hc,List.getD_eq_getElem?_getD,lgE hj];rfl)
  rw[ltL (nlr _)] at h;exact h
theorem in_dict(n n' s s' m m' p ks' F)(hl:ks'.length<=140737488355328)(a1 c1 a2 c2 a3 c3 a4 c4 w)(hr4:Af F w a4 (Bl ks')):
  Calls Tryz.prog 237 #[A8 3 n s a1 m c1 a2 p c2,A8 5 n' s' a3 m' c3 a4 ks'.length c4] w (Cm (.ok (truthL (Lib.containsS ks' s))) w):=by
 unfold A8;obtain⟨h1,h2,h3,h4,h5⟩:=Ch w (.cells #[.int .i64 3,.int .i64 n,.string s,.slice a1 m c1,.slice a2 p c2] 42) (.cells #[.int .i64 5,.int .i64 n',.string s',.slice a3 m' c3,.slice a4 ks'.length c4] 42) (.cells #[.int .i64 0,.int .i64 0,.string ⟨#[]⟩,.slice none 0 0,.slice none 0 0] 42);generalize hW:((w.alloc (.cells #[.int .i64 3,.int .i64 n,.string s,.slice a1 m c1,.slice a2 p c2] 42)).alloc (.cells #[.int .i64 5,.int .i64 n',.string s',.slice a3 m' c3,.slice a4 ks'.length c4] 42)).alloc (.cells #[.int .i64 0,.int .i64 0,.string ⟨#[]⟩,.slice none 0 0,.slice none 0 0] 42)=W0 at h1 h2 h3 h4 h5;have HW:=Lq7 hW;clear hW;have HC:=Lq7 (Lm F a4 c4 ks' s W0 hl (hr4.below h4));have HQ:Hid (QB w W0 (w.heap.size+1+1)):=Lq7 ⟨h4,h3,by omega⟩;clear h1 h2 h3 h4 h5 hr4 hl;generalize Lib.containsS ks' s=R at HC |-;go_enter Tryz.func237,Tryz.ntmps237;go_wp2_with fail;rw[HW.out];refine HC.out.mono ?_;rintro e w1 ⟨rfl,hw⟩;have hw:=hw.symm;subst hw;clear HC HW;go_wp2_with fail;refine(Im R _).mono ?_;intro e w2 h9;obtain⟨k9,n9,s9,aG,aH,aJ,a29,aM,aN,m9,rfl,aC,aD,aE⟩:=HQ.out.fin h9;clear h9;have aB:=Lq7 (aIn aD aE);obtain⟨p0,p1,p2,p3,p4,p5,p6,p7,p8,p9,aF⟩:=Aa aC;clear aD aE aC;go_wp2_with fail;generalize wsC _ _ _=W9 at aB |-;clear p0 p1 p2 p3 p4 p5 p6 p7 p8 p9 aF;obtain⟨p0,p1,p2,p3,p4,p5,p6,p7,p8,p9,aF⟩:=Aa aB.out.2;exact bodyPost_ret (v:=.tuple #[.agg #[.int .i64 k9,.int .i64 n9,.string s9,.slice aG aH aJ,.slice a29 aM aN],.int .i64 m9]) (by simp[results,Tryz.results237,go_sem,p1,p2,p3,p4,p5]) rfl aB.out.1
theorem in_str(n n':Int)(s s':ByteArray)(m m' p:Nat)(ks':List ByteArray)(hz:s'.size<4294967281)(a1:Option Addr)(c1:Nat)(a2:Option Addr)(c2:Nat)(a3:Option Addr)(c3:Nat)(a4:Option Addr)(c4:Nat)(w:World)(hB:StdB w):
  Calls Tryz.prog 237 #[A8 3 n s a1 m c1 a2 p c2,A8 3 n' s' a3 m' c3 a4 ks'.length c4] w (Cm (.ok (truthL (Lib.contains s'.data.toList s.data.toList))) w):=by
 unfold A8;obtain⟨h1,h2,h3,h4,h5⟩:=Ch w (.cells #[.int .i64 3,.int .i64 n,.string s,.slice a1 m c1,.slice a2 p c2] 42) (.cells #[.int .i64 3,.int .i64 n',.string s',.slice a3 m' c3,.slice a4 ks'.length c4] 42) (.cells #[.int .i64 0,.int .i64 0,.string ⟨#[]⟩,.slice none 0 0,.slice none 0 0] 42);generalize hW:((w.alloc (.cells #[.int .i64 3,.int .i64 n,.string s,.slice a1 m c1,.slice a2 p c2] 42)).alloc (.cells #[.int .i64 3,.int .i64 n',.string s',.slice a3 m' c3,.slice a4 ks'.length c4] 42)).alloc (.cells #[.int .i64 0,.int .i64 0,.string ⟨#[]⟩,.slice none 0 0,.slice none 0 0] 42)=W0 at h1 h2 h3 h4 h5;have HW:=Lq7 hW;clear hW;obtain⟨mx,aQ⟩:=hB.below h4;have HC:=Lq7 (Tryz.strings_Contains s' s mx W0 hz aQ);have HQ:Hid (QB w W0 (w.heap.size+1+1)):=Lq7 ⟨h4,h3,by omega⟩;clear h1 h2 h3 h4 h5 hB aQ hz;generalize Lib.contains s'.data.toList s.data.toList=R at HC |-;go_enter Tryz.func237,Tryz.ntmps237;go_wp2_with fail;rw[HW.out];refine HC.out.mono ?_;rintro e w1 ⟨rfl,hw⟩;have hw:=hw.symm;subst hw;clear HC HW;go_wp2_with fail;refine(Im R _).mono ?_;intro e w2 h9;obtain⟨k9,n9,s9,aG,aH,aJ,a29,aM,aN,m9,rfl,aC,aD,aE⟩:=HQ.out.fin h9;clear h9;have aB:=Lq7 (aIn aD aE);obtain⟨p0,p1,p2,p3,p4,p5,p6,p7,p8,p9,aF⟩:=Aa aC;clear aD aE aC;go_wp2_with fail;generalize wsC _ _ _=W9 at aB |-;clear p0 p1 p2 p3 p4 p5 p6 p7 p8 p9 aF;obtain⟨p0,p1,p2,p3,p4,p5,p6,p7,p8,p9,aF⟩:=Aa aB.out.2;exact bodyPost_ret (v:=.tuple #[.agg #[.int .i64 k9,.int .i64 n9,.string s9,.slice aG aH aJ,.slice a29 aM aN],.int .i64 m9]) (by simp[results,Tryz.results237,go_sem,p1,p2,p3,p4,p5]) rfl aB.out.1
theorem in_bad(k k' n n':Int)(s s':ByteArray)(m m' p:Nat)(ks':List ByteArray)(h4:¬k'=4)(h5:k'=5->¬k=3)(h3:k'=3->¬k=3)(a1:Option Addr)(c1:Nat)(a2:Option Addr)(c2:Nat)(a3:Option Addr)(c3:Nat)(a4:Option Addr)(c4:Nat)(w:World):
  Calls Tryz.prog 237 #[A8 k n s a1 m c1 a2 p c2,A8 k' n' s' a3 m' c3 a4 ks'.length c4] w (Cm (.error 9) w):=by
 unfold A8;have Hb:=Lq7 (Fo w);have e4:(k'==4)=false:=(by simpa using h4);by_cases hk5:k'=5
 ·subst hk5;have e3:(k==3)=false:=(by simpa using h5 rfl);go_enter Tryz.func237,Tryz.ntmps237;go_wp2_with fail;refine bodyPost_ret (v:=.tuple #[.agg #[.int .i64 0,.int .i64 0,.string ⟨#[]⟩,.slice none 0 0,.slice none 0 0],.int .i64 9]) (by simp[results,Tryz.results237,go_sem]) rfl ?_;exact⟨Hb.out _ _ _,rfl⟩
 ·have e5:(k'==5)=false:=(by simpa using hk5);by_cases hk3:k'=3
  ·subst hk3;have e3:(k==3)=false:=(by simpa using h3 rfl);go_enter Tryz.func237,Tryz.ntmps237;go_wp2_with fail;refine bodyPost_ret (v:=.tuple #[.agg #[.int .i64 0,.int .i64 0,.string ⟨#[]⟩,.slice none 0 0,.slice none 0 0],.int .i64 9]) (by simp[results,Tryz.results237,go_sem]) rfl ?_;exact⟨Hb.out _ _ _,rfl⟩
  ·have e6:(k'==3)=false:=(by simpa using hk3);go_enter Tryz.func237,Tryz.ntmps237;go_wp2_with fail;refine bodyPost_ret (v:=.tuple #[.agg #[.int .i64 0,.int .i64 0,.string ⟨#[]⟩,.slice none 0 0,.slice none 0 0],.int .i64 9]) (by simp[results,Tryz.results237,go_sem]) rfl ?_;exact⟨Hb.out _ _ _,rfl⟩
end Go.Proofs.YtbcdimjbepigcaaGreatDoor
