/-
  The walk of value.in at a dict,at a text,at anything else;and at any two values. (Printed by in_gen.py.) (And what it stands on.)
-/
import Derived.Test.YtlbbbapiklendaaGreatDoorMReadsP
import Derived.Test.YtlbbbapiklendaaGreatDoorJoin
namespace Go.Proofs.YtlbbbapiklendaaGreatDoor
open Go.IntKind renaming i64->E
open Go.Value renaming int->D,string->C,slice->A,pointer->L
open Go.Obj renaming cells->I
open Option renaming some->J,none->G
open Go Go.RowKit
open List renaming getElem?_eq_getElem->lgE,mem_of_getElem? -> lgM,length_append->lnA,take_add_one->ltA,take_of_length_le->ltL,length_map->lnM,length_take->lnT,length_cons->lnC,length_nil->lnN,getElem?_map->lgP,getElem?_eq_some_iff->lgS,mem_cons_self->lmS,mem_cons_of_mem->lmO
open Nat renaming le_refl->nlr,zero_le->nlz,add_zero->naz,lt_of_lt_of_le->nll,le_trans->nlt
open Go.Lib renaming hid->Lq7
open And renaming intro->aIn
open Go.RowKit.Below renaming refl->bRf
open Go.Act renaming put->aP
open Go.World renaming setCell->wsC
set_option maxRecDepth 100000
set_option maxHeartbeats 16000000
def toBs(l:List UInt8):ByteArray:=⟨l.toArray⟩
theorem Oe(l):(toBs l).data.toList=l:=rfl
def B8(ks:List ByteArray)(ts:List (List UInt8)):List (List UInt8):=List.zipWith (fun k t=>quoteL k.data.toList++[58,32]++t) ks ts
mutual
def B5:Vl->List UInt8
 | .mk k n s l ks=>if k=1 then(if n=1 then [116,114,117,101] else [102,97,108,115,101]) else if k=2 then Lib.itoa n else if k=3 then quoteL s.data.toList
  else if k=4 then [91]++Lib.join (Cv l) [44,32]++[93] else if k=5 then [123]++Lib.join (B8 ks (Cv l)) [44,32]++[125] else [110,111,110,101]
def Cv:List Vl->List (List UInt8)
 | []=>[]
 | v::t=>B5 v::Cv t
end
theorem textVs_map:∀l:List Vl,Cv l=l.map B5
 | []=>rfl
 | v::t=>by rw[Cv,textVs_map t,List.map_cons]
def printV(v:Vl):List UInt8:=if Am v then B5 v else []
mutual
def prV:Vl->Prop
 | .mk k n s l ks=>inR n=true/\s.size<=65536/\l.length<=1000/\ks.length<=1000/\(∀x∈ks,x.size<=65536)/\(k=5->l.length=ks.length)/\prVs l
def prVs:List Vl->Prop
 | []=>True
 | v::t=>prV v/\prVs t
end
theorem prVs_mem:∀{l:List Vl} {x:Vl},prVs l->x∈l->prV x
 | _::_,_,h,.head _=>h.1
 | _::_,_,h,.tail _ hm=>prVs_mem h.2 hm
theorem Xe{n s l ks}(h:Bz 5 n s l ks=true):l.length=ks.length:=by
 unfold Bz at h;rw[if_neg (by decide),if_neg (by decide),if_neg (by decide),if_neg (by decide),if_neg (by decide),if_pos rfl] at h;simp only[Bool.and_eq_true,beq_iff_eq] at h;exact h.1.2
theorem may_pr(v):∀d m,(mayV v d m).1=true->prV v:=
 Vl.rec (motive_1:=fun v=>∀d m,(mayV v d m).1=true->prV v) (motive_2:=fun l=>∀d m,(Co l d m).1=true->prVs l)
  (fun k n s l ks ih d m h=>by
   rw[mayV] at h;split at h
   ·cases h
   ·split at h
    ·rename_i hk
     obtain⟨h1,h2,h3,h4⟩:=J3 hk;rw[prV];exact⟨Sy hk,h1,h2,h3,h4,fun e=>by subst e;exact Xe hk,ih _ _ h⟩
    ·cases h)
  (fun _ _ _=>by rw[prVs];trivial)
  (fun v t hv ht d m h=>by
   rw[Co] at h;split at h
   ·rename_i h1
    rw[prVs];exact⟨hv _ _ h1,ht _ _ h⟩
   ·cases h) v
theorem Ng{v}(h:Am v=true):prV v:=may_pr v _ _ h
def textMax:Nat:=140737488355328
def Nh(x:Vl):Prop:=prV x->(B5 x).length<=textMax->∀(F:Nat->Prop) (a1:Option Addr) (c1:Nat) (a2:Option Addr) (c2:Nat) (w:World),(∀b,F b->b<w.heap.size)->Em w->Ac F w a1 (Ar x.items)->Ac F w a2 (Bn x.keys) ->
 Calls Tryz.prog 291 #[A4 x.kind x.num x.str a1 x.items.length c1 a2 x.keys.length c2] w (Le (B5 x) w)
def PAll(l:List Vl)(w:World)(e:Ending)(w':World):Prop:=∃v,e = .returned v/\OwnS w' w.heap.size v (l.map fun x=>toBs (B5 x))/\Below w.heap.size w w'
theorem Q7(l)(hl:l.length<=1000)(hc:∀x∈l,Nh x/\prV x/\(B5 x).length<=textMax)(F a cap w)(hF:∀b,F b->b<w.heap.size)(hT:Em w)(hr:Ac F w a (Ar l)):
  Calls Tryz.prog 296 #[A a l.length cap,.func (.func 291) #[] #[]] w (PAll l w):=by
 obtain⟨i0,hi,hz0,hz1,hz2⟩:=info_parts infoStr;have hen:∀args w,(callFunc 291 args).run Tryz.prog w = .ok (.enter 291 args) w:=enters_of Tryz.func291 (by kernel_rfl) rfl;have Hc:=Lq7 hc;have HF:=Lq7 hF;have HT:=Lq7 hT;have Hr:=Lq7 hr;go_enter Tryz.func296,Tryz.ntmps296;go_wp2_with fail
 go_loopw [5,10] (fun v i wr=>∃(k:Nat) (v':Value),v=v'/\i = D E k/\k<=l.length/\Hid (OwnS wr w.heap.size v' ((l.take k).map fun x=>toBs (B5 x)))/\Hid (Below w.heap.size w wr)) (fun _ i _=>l.length-(intOf i).toNat)
 case atStart=>exact⟨0,_,rfl,rfl,nlz _,Lq7 (OwnS.nil _ _),Lq7 (bRf _ _)⟩
 case round=>
  obtain⟨k,v,hv,rfl,hk,hown,aC⟩:=hrel;have hv:=hv.symm;subst hv;by_cases hlt:k<l.length
  ·cases hx:l[k] with
   | mk xk xn xs xl xks=>
    have aJ:l[k]? = J (.mk xk xn xs xl xks):=(by rw[lgE hlt,hx]);have htk:(l.take (k+1)).map (fun x=>toBs (B5 x))=(l.take k).map (fun x=>toBs (B5 x))++[toBs (B5 (.mk xk xn xs xl xks))]:=(by rw[ltA,aJ];simp);obtain⟨b,off,a1,c1,a2,c2,hae,-,hbl,r0,r1,r2,r3,r4,hv1,hv2⟩:=(Hr.out.below aC.out).val aJ;obtain⟨hxc,hxp,hxl⟩:=Hc.out _ (lgM aJ);have aD:Below wr.heap.size wr (wr.alloc (I #[D E xk,D E xn,C xs,A a1 xl.length c1,A a2 xks.length c2] 53)):=(bRf _ wr).alloc (nlr _) _;have HX:=Lq7 (hxc hxp hxl F a1 c1 a2 c2 _ (fun b hb=>by have:=HF.out b hb;have:=aC.out.size;have:=aD.size;omega) ((HT.out.below aC.out).below aD) (hv1.below aD) (hv2.below aD));unfold A4 at HX;have aE:=Lq7 (hown.out.below aD);have aQ:=Lq7 (aC.out.trans (aD.mono aC.out.size));have Htk:=Lq7 htk;subst hae;go_wp2_with fail;refine HX.out.mono ?_;rintro e w1 ⟨o,rfl,ho,aR⟩;obtain rfl:o=toBs (B5 (.mk xk xn xs xl xks)):=bytes_ext ho;have aA:=Lq7 (aE.out.below aR);have aH:=Lq7 (aQ.out.trans (aR.mono aQ.out.size));generalize toBs (B5 (.mk xk xn xs xl xks))=o at *;have aU:Below w1.heap.size w1 (w1.alloc (I #[C o] 9)):=(bRf _ w1).alloc (nlr _) _;have Hn:=Lq7 (aIn (lit_one w1 (C o) 9) (aA.out.below aU));have aM:((l.take k).map fun x=>toBs (B5 x)).length=k:=(by rw[lnM,lnT];omega)
    go_wp2_with (at_builtin;refine C1 rfl _ _ 51 rfl w.heap.size 9 i0 (C ByteArray.empty) 1 16 Tryz.underlying51 hi hz0 hz1 hz2 rfl (by decide) v _ _ rfl Hn.out.2 ⟨w1.heap.size,0,G⟩ 1 1 [C o] rfl rfl Hn.out.1 ?_ ?_ ?_ ?_ ?_)
    ·simp[Value.oneCell']
    ·rw[aM];unfold maxLen;omega
    ·rw[aM];omega
    ·have:=aH.out.size;simp;omega
    intro v2 w2 aB hg2 _;have aF:OwnS w2 w.heap.size v2 ((l.take (k+1)).map fun x=>toBs (B5 x)):=by
     rw[Htk.out];unfold OwnS;rw[lnA,List.map_append,List.map_map,aM]
     first|exact aB|(rw[List.map_take];exact aB)
    have aG:=Lq7 aF;have Hb3:=Lq7 ((aH.out.trans (aU.mono aH.out.size)).trans (Cz hg2 (fun g e=>(aA.out.block e).1) (by have:=aH.out.size;simp;omega)));go_wp2_with fail;go_roundw
    case rel=>exact⟨k+1,_,rfl,by go_num,by omega,aG,Hb3⟩
    case measure=>simp only[intOf];omega
  ·have aN:Hid (OwnS wr w.heap.size v (l.map fun x=>toBs (B5 x))):=Lq7 (by have:=hown.out;rwa [ltL (by omega)] at this);go_wp2_with fail;go_ret;exact⟨_,rfl,aN.out,aC.out⟩
theorem le_sum:∀{l:List Nat} {x:Nat},x∈l->x<=l.sum
 | _::_,_,.head _=>by rw[List.sum_cons];omega
 | _::_,_,.tail _ h=>by have:=le_sum h;rw[List.sum_cons];omega
theorem S3{l x}(sep)(h:x∈l):x.length<=(Lib.join l sep).length:=by
 rw[Mr];have:x.length<=(l.map List.length).sum:=le_sum (List.mem_map_of_mem h);omega
structure TB(w W:World)(x:Array Value):Prop where
 below:Below w.heap.size w W
 v:W.heap[w.heap.size]? = J (.cells x 53 (0,0))
theorem TB.later{w W W' x}(h:TB w W x)(hb:Below W.heap.size W W'):TB w W' x:=⟨h.below.trans (hb.mono h.below.size),stays h.v hb⟩
theorem Acj(n s l ks)(ih:∀x∈l,Nh x):Nh (.mk 4 n s l ks):=by
 intro hp hmax F a1 c1 a2 c2 w hF hT aE hr2;show Calls Tryz.prog 291 #[A4 4 n s a1 l.length c1 a2 ks.length c2] w _;rw[prV] at hp;obtain⟨-,-,hl,-,-,-,hps⟩:=hp;have ht:B5 (.mk 4 n s l ks)=[91]++Lib.join (Cv l) [44,32]++[93]:=rfl;rw[ht] at hmax |-;simp only[lnA,List.length_singleton] at hmax;have H0:Hid (TB w (w.alloc (I #[D E 4,D E n,C s,A a1 l.length c1,A a2 ks.length c2] 53)) #[D E 4,D E n,C s,A a1 l.length c1,A a2 ks.length c2]):=Lq7 ⟨(bRf _ w).alloc (nlr _) _,heap_alloc_new w _⟩;have hT':=hT.below H0.out.below;have HA:=Lq7 (Q7 l hl (fun x hx=>⟨ih x hx,prVs_mem hps hx,by
  have:=S3 [44,32] (l:=Cv l) (x:=B5 x) (by rw[textVs_map];exact List.mem_map_of_mem hx);omega⟩) F a1 c1 _ (fun b hb=>by have:=hF b hb;have:=H0.out.below.size;omega) hT' (aE.below H0.out.below))
 unfold A4;go_enter Tryz.func291,Tryz.ntmps291;go_wp2_with fail;refine HA.out.mono ?_;rintro e w1 ⟨v,rfl,hown,aB⟩;obtain⟨aT,cT,rfl,hst,hcap⟩:=hown.strsAt;have H1:=Lq7 (H0.out.later aB);have aC:(joinB (l.map fun x=>toBs (B5 x)) ⟨#[44,32]⟩).data.toList=Lib.join (Cv l) [44,32]:=by
  show Lib.join ((l.map fun x=>toBs (B5 x)).map (·.data.toList)) [44,32]=_;rw[List.map_map,textVs_map];rfl
 have aF:(joinB (l.map fun x=>toBs (B5 x)) ⟨#[44,32]⟩).size<=140737488355328:=by
  rw[<-Al,aC];unfold textMax at hmax;omega
 have HJ:=Lq7 (Nw aT cT _ ⟨#[44,32]⟩ w1 hst hcap (by rw[lnM];exact hl) aF);generalize joinB (l.map fun x=>toBs (B5 x)) ⟨#[44,32]⟩=jb at HJ aC aF;have Hjs:=Lq7 aC;generalize (l.map fun x=>toBs (B5 x)).length=ll at HJ |-;go_wp2_with fail;refine HJ.out.mono ?_;rintro e w2 ⟨rfl,hb2⟩;have H2:=Lq7 (H1.out.later hb2);have z1:¬9223372036854775807<jb.size+1:=(by omega);have z2:¬9223372036854775807<1+jb.size:=(by omega);have z3:¬9223372036854775807<1+jb.size+1:=(by omega);have aD:Hid ((⟨#[91]⟩++jb++⟨#[93]⟩:ByteArray).data.toList=[91]++Lib.join (Cv l) [44,32]++[93]):=Lq7 (by
  rw[ByteArray.data_append,ByteArray.data_append,Array.toList_append,Array.toList_append,Hjs.out])
 go_wp2_with fail;go_ret;exact⟨_,rfl,aD.out,H2.out.below⟩
theorem Zb(k n s l ks)(h4:k≠4)(h5:k≠5):Nh (.mk k n s l ks):=by
 intro hp hmax F a1 c1 a2 c2 w hF hT aE hr2;show Calls Tryz.prog 291 #[A4 k n s a1 l.length c1 a2 ks.length c2] w _;rw[prV] at hp;obtain⟨hn,hs,-⟩:=hp;have aG:Below w.heap.size w (w.alloc (I #[D E k,D E n,C s,A a1 l.length c1,A a2 ks.length c2] 53)):=(bRf _ w).alloc (nlr _) _;have aA:=Lq7 aG;have HN:=Lq7 (Zr n hn _ (hT.below aG));have HQ:=Lq7 (Lr s (w.alloc (I #[D E k,D E n,C s,A a1 l.length c1,A a2 ks.length c2] 53)) hs);unfold A4;by_cases h1:k=1
 ·subst h1;by_cases hn1:n=1
  ·subst hn1;go_enter Tryz.func291,Tryz.ntmps291;go_wp2_with fail;go_ret;exact⟨_,rfl,rfl,aA.out⟩
  ·have ht:Hid (B5 (.mk 1 n s l ks)=[102,97,108,115,101]):=Lq7 (by rw[B5,if_pos rfl,if_neg hn1]);have hn1b:(n==1)=false:=(by simpa using hn1);go_enter Tryz.func291,Tryz.ntmps291;go_wp2_with fail;go_ret;exact⟨_,rfl,ht.out.symm,aA.out⟩
 by_cases h2:k=2
 ·subst h2;go_enter Tryz.func291,Tryz.ntmps291;go_wp2_with fail;refine HN.out.mono ?_;rintro e w1 ⟨o,rfl,ho,aB⟩;have H1:=Lq7 (aIn ho (aA.out.trans (aB.mono aA.out.size)));go_wp2_with fail;go_ret;exact⟨_,rfl,H1.out.1,H1.out.2⟩
 by_cases h3:k=3
 ·subst h3;go_enter Tryz.func291,Tryz.ntmps291;go_wp2_with fail;refine HQ.out.mono ?_;rintro e w1 ⟨o,rfl,ho,aB⟩;have H1:=Lq7 (aIn ho (aA.out.trans (aB.mono aA.out.size)));go_wp2_with fail;go_ret;exact⟨_,rfl,H1.out.1,H1.out.2⟩
 ·have ht:Hid (B5 (.mk k n s l ks)=[110,111,110,101]):=Lq7 (by rw[B5,if_neg h1,if_neg h2,if_neg h3,if_neg h4,if_neg h5]);have e1:(k==1)=false:=(by simpa using h1);have e2:(k==2)=false:=(by simpa using h2);have e3:(k==3)=false:=(by simpa using h3);have e4:(k==4)=false:=(by simpa using h4);have e5:(k==5)=false:=(by simpa using h5);go_enter Tryz.func291,Tryz.ntmps291;go_wp2_with fail;go_ret;exact⟨_,rfl,ht.out.symm,aA.out⟩
def mixB(ks:List ByteArray)(l:List Vl)(i:Nat):List ByteArray:=((B8 ks (Cv l)).take i).map toBs++(l.drop i).map fun x=>toBs (B5 x)
theorem F4{ks l}(h:l.length=ks.length):(B8 ks (Cv l)).length=l.length:=by
 rw[B8,List.length_zipWith,textVs_map,lnM];omega
theorem Z0{ks l}(h:l.length=ks.length){i}(hi:i<=l.length):(mixB ks l i).length=l.length:=by
 rw[mixB,lnA,lnM,lnM,lnT,List.length_drop,F4 h];omega
theorem mix_get{ks l}(h:l.length=ks.length){i x}(hx:l[i]? = J x):(mixB ks l i)[i]? = J (toBs (B5 x)):=by
 have hi:=(lgS.1 hx).1;unfold mixB;have h1:(((B8 ks (Cv l)).take i).map toBs).length=i:=(by rw[lnM,lnT,F4 h];omega);rw[List.getElem?_append_right (by omega),h1,Nat.sub_self,lgP,List.getElem?_drop,naz,hx];rfl
theorem S2{ks l}{i:Nat}{x key}(hx:l[i]? = J x)(hk:ks[i]? = J key):(B8 ks (Cv l))[i]? = J (quoteL key.data.toList++[58,32]++B5 x):=by
 rw[B8,textVs_map,List.getElem?_zipWith,hk,lgP,hx];rfl
theorem mix_set{ks l}(h:l.length=ks.length){i x key}(hx:l[i]? = J x)(hk:ks[i]? = J key):
  (mixB ks l i).set i (toBs (quoteL key.data.toList++[58,32]++B5 x))=mixB ks l (i+1):=by
 have hi:=(lgS.1 hx).1;have h1:(((B8 ks (Cv l)).take i).map toBs).length=i:=(by rw[lnM,lnT,F4 h];omega);have hlx:=(lgS.1 hx).2;unfold mixB;rw[List.set_append_right _ _ (by omega),h1,Nat.sub_self,List.drop_eq_getElem_cons hi,List.map_cons,List.set_cons_zero,ltA,S2 hx hk,Option.toList_some,List.map_append,List.append_assoc (List.map toBs _)];rfl
theorem mix_all{ks l}(h:l.length=ks.length){i}(hi:l.length<=i):mixB ks l i=(B8 ks (Cv l)).map toBs:=by
 unfold mixB;rw[ltL (by rw[F4 h];exact hi),List.drop_eq_nil_of_le hi];simp
theorem Q4{ks l}(h:l.length=ks.length){i:Nat}{x}(hx:l[i]? = J x):∃key,ks[i]? = J key/\(quoteL key.data.toList).length+2+(B5 x).length<=(Lib.join (B8 ks (Cv l)) [44,32]).length:=by
 have hi:=(lgS.1 hx).1;have hk:ks[i]? = J (ks[i]'(by omega)):=lgE (by omega);refine⟨_,hk,?_⟩;have:=S3 [44,32] (lgM (S2 hx hk));simp only[lnA,lnC,lnN] at this;omega
theorem OwnS.froze{w base g n cap l v}(h:OwnS w base v l)(hv:v = A (J ⟨g,0,G⟩) n cap)(i):w.frozen? ⟨g,i,G⟩=false:=by
 subst hv;obtain⟨-,⟨h1,-⟩|⟨g',cp,cur,h1,-,h2,-⟩⟩:=h
 ·simp only[Value.slice.injEq,reduceCtorEq,false_and] at h1
 ·simp only[Value.slice.injEq,Option.some.injEq,Addr.mk.injEq] at h1;obtain⟨⟨rfl,-⟩,-⟩:=h1;exact(Ao h2).2.2 i
theorem OwnS.off{w base g o n cap l}(h:OwnS w base (A (J ⟨g,o,G⟩) n cap) l):o=0:=by
 obtain⟨-,⟨h1,-⟩|⟨g',cp,cur,h1,-⟩⟩:=h
 ·simp only[Value.slice.injEq,reduceCtorEq,false_and] at h1
 ·simp only[Value.slice.injEq,Option.some.injEq,Addr.mk.injEq] at h1;exact h1.1.2.1
theorem OwnS.put{w base g cap n l}(h:OwnS w base (A (J ⟨g,0,G⟩) n cap) l)(i s):OwnS (w.setCell ⟨g,i,G⟩ (C s)) base (A (J ⟨g,0,G⟩) n cap) (l.set i s):=by
 have h0:=h;obtain⟨h1,⟨h2,-⟩|⟨g',cap',cur,h2,-⟩⟩:=h0
 ·cases h2
 ·injection h2 with e1 e2 e3;unfold OwnS at h |-;rw[List.length_set,List.map_set];rw[<-e2] at h |-;exact(World.ownsRow.stored h i (C s)).1
theorem Ach(n s l ks)(ih:∀x∈l,Nh x):Nh (.mk 5 n s l ks):=by
 intro hp hmax F a1 c1 a2 c2 w hF hT bA bB;show Calls Tryz.prog 291 #[A4 5 n s a1 l.length c1 a2 ks.length c2] w _;rw[prV] at hp;obtain⟨-,-,hl,-,aM,aG,bC⟩:=hp;have aN:=aG rfl;clear aG;have ht:B5 (.mk 5 n s l ks)=[123]++Lib.join (B8 ks (Cv l)) [44,32]++[125]:=(by rw[B5,if_neg (by decide),if_neg (by decide),if_neg (by decide),if_neg (by decide),if_pos rfl]);rw[ht] at hmax |-;simp only[lnA,List.length_singleton] at hmax;have H0:Hid (TB w (w.alloc (I #[D E 5,D E n,C s,A a1 l.length c1,A a2 ks.length c2] 53)) #[D E 5,D E n,C s,A a1 l.length c1,A a2 ks.length c2]):=Lq7 ⟨(bRf _ w).alloc (nlr _) _,heap_alloc_new w _⟩;have hT':=hT.below H0.out.below;have HA:=Lq7 (Q7 l hl (fun x hx=>⟨ih x hx,prVs_mem bC hx,by
  obtain⟨i,hi⟩:=List.getElem?_of_mem hx;obtain⟨key,-,bD⟩:=Q4 aN hi;omega⟩) F a1 c1 _ (fun b hb=>by have:=hF b hb;have:=H0.out.below.size;omega) hT' (bA.below H0.out.below))
 have Hk:=Lq7 (bB.below H0.out.below).strs;have Hkz:=Lq7 aM;have aD:=Lq7 aN;have Hit:=Lq7 (fun i x (hx:l[i]? = J x)=>Q4 aN hx);clear hF hT bA bB ih bC hT' aM aN ht;unfold A4;go_enter Tryz.func291,Tryz.ntmps291;go_wp2_with fail;refine HA.out.mono ?_;rintro e w1 ⟨v,rfl,hown,aW⟩;have hown:OwnS w1 (w.alloc (I #[D E 5,D E n,C s,A a1 l.length c1,A a2 ks.length c2] 53)).heap.size v (mixB ks l 0):=hown;obtain⟨aT,cT,bE,-,-⟩:=hown.strsAt;rw[Z0 aD.out (nlz _)] at bE;subst bE;have H1:=Lq7 (H0.out.later aW);have Hb1:=Lq7 aW;have aE:=Lq7 hown;have hbs:=H0.out.below.size;have hb0s:=here H0.out.v;obtain⟨q0,q1,q2,q3,q4,q5,-⟩:=Aa H1.out.v;clear hown aW HA;go_wp2_with fail;clear q0 q1 q2 q3 q4 q5;generalize hW0:w.alloc (I #[D E 5,D E n,C s,A a1 l.length c1,A a2 ks.length c2] 53)=W0 at *;clear hW0
 go_loopw [39] (fun i wr=>∃k:Nat,i = D E k/\k<=l.length/\Hid (OwnS wr W0.heap.size (A aT l.length cT) (mixB ks l k))/\Hid (Below W0.heap.size W0 wr)) (fun i _=>l.length-(intOf i).toNat)
 case atStart=>exact⟨0,rfl,nlz _,aE,Hb1⟩
 case round=>
  obtain⟨k,rfl,hk,hown,aQ⟩:=hrel;by_cases hlt:k<l.length
  ·have aR:l[k]? = J l[k]:=lgE hlt;obtain⟨key,aA,bD⟩:=Hit.out k _ aR;have hklt:k<ks.length:=(lgS.1 aA).1;obtain⟨bK,oK,hak,hck⟩:=(Hk.out.below aQ.out) k key aA;obtain⟨aT',cT',hv',hst',-⟩:=hown.out.strsAt;rw[Z0 aD.out hk] at hv';cases hv';obtain⟨g,oT,haT,aY⟩:=hst' k _ (mix_get aD.out aR);subst haT hak;obtain rfl:=hown.out.off;rw[Nat.zero_add] at aY;have bG:=hown.out.block (g:=g) rfl;have aM:=Hkz.out key (lgM aA);have HN:=Lq7 (mix_set aD.out aR aA);generalize hx:l[k]=x at *;have HQ:=Lq7 (fun W=>Lr key W aM);have hsz1:(toBs (B5 x)).size+(quoteL key.data.toList).length<=140737488355328:=by
    rw[<-Al,Oe];unfold textMax at hmax;omega
   generalize hq:B5 x=tx at *;have aE:=Lq7 hown.out;have aU:=Lq7 aQ.out;clear hx hq aR aA bD hst' hown aQ hmax;go_wp2_with fail;refine Bm (.s 0 (.s 1 (.s 2 (.s 5 (.s 6 (.s 7 (.s 8 (.h 3 (.s 4 (.s 9 (.s 10 (.h 11 .nil)))))))))))) 11 (fun W'=>W'.cell? ⟨g,k,G⟩=J (C (toBs tx))) aY ?_;have H2:Hid (OwnS wr.drew W0.heap.size (A (J ⟨g,0,G⟩) l.length cT) (mixB ks l k)/\Below W0.heap.size W0 wr.drew):=Lq7 ⟨aE.out.below (bRf _ _).drew,aU.out.drew⟩;have bH:g<wr.drew.heap.size:=bG.2;have bI:wr.drew.cell? ⟨g,k,G⟩=J (C (toBs tx)):=(by rw[World.cell?_drew];exact aY);generalize World.drew _=Wd at H2 bH bI |-;refine Aw (A (J ⟨g,0,G⟩) l.length cT) ?_;refine Aw (D E (k:Nat)) ?_;refine Aw (C key) ?_;refine Aw (A (J ⟨g,0,G⟩) l.length cT) ?_;refine Aw (D E (k:Nat)) ?_;refine Aw (L (J ⟨g,k,G⟩)) ?_;refine Aw (C (toBs tx)) ?_;refine Ae rfl (fun K hK=>?_);go_wp2_with fail;refine(HQ.out _).mono ?_;rintro e w3 ⟨q,rfl,hq,aH⟩;have hqs:q.size=(quoteL key.data.toList).length:=(by rw[<-hq,Al]);have H3:=Lq7 (aIn (H2.out.1.below aH) (H2.out.2.trans (aH.mono H2.out.2.size)));have hS3:w3.cell? ⟨g,k,G⟩=J (C (toBs tx)):=(aH.cell (p:=⟨g,k,G⟩) bH).trans bI;have hgw3:g<w3.heap.size:=(by have:=aH.size;omega);clear aH H2;go_wp2_with fail;refine hK _ _ (fun _=>hS3) ?_;(try simp only[gX,aP]);refine Bp (C (q++⟨#[58,32]⟩)) (fun W' hS=>?_) ?_
   ·go_simp;omega
   refine Bp (C (q++⟨#[58,32]⟩++toBs tx)) (fun W' hS=>?_) ?_
   ·go_simp;omega
   refine Aw (L (J ⟨g,k,G⟩)) ?_;refine Ae rfl (fun K2 hK2=>?_);have hfz:w3.frozen? ⟨g,k,G⟩=false:=H3.out.1.froze rfl k;have aF:(q++⟨#[58,32]⟩++toBs tx:ByteArray)=toBs (quoteL key.data.toList++[58,32]++tx):=bytes_ext (by
    rw[ByteArray.data_append,ByteArray.data_append,Array.toList_append,Array.toList_append,hq,Oe,Oe])
   have H4:Hid (OwnS (w3.setCell ⟨g,k,G⟩ (C (q++⟨#[58,32]⟩++toBs tx))) W0.heap.size (A (J ⟨g,0,G⟩) l.length cT) (mixB ks l (k+1))/\Below W0.heap.size W0 (w3.setCell ⟨g,k,G⟩ (C (q++⟨#[58,32]⟩++toBs tx)))):=Lq7 ⟨by
    have h1:=H3.out.1.put k (q++⟨#[58,32]⟩++toBs tx);rw[aF,HN.out] at h1;rw[aF];exact h1,H3.out.2.setCell (p:=⟨g,k,G⟩) bG.1 _⟩
   clear HN aF H3 hq;go_wp2_with fail;refine hK2 _ _ (fun h=>absurd rfl h) ?_;generalize wsC _ _ _=W5 at H4 |-;(try simp only[gX,aP]);refine A2 ?_;(try simp only[gX,aP]);go_wp2_with fail;go_roundw
   case rel=>exact⟨k+1,by go_num,by omega,Lq7 H4.out.1,Lq7 H4.out.2⟩
   case measure=>simp only[intOf];omega
  ·have aC:mixB ks l k=(B8 ks (Cv l)).map toBs:=mix_all aD.out (by omega);have aB:=hown.out;rw[aC] at aB;obtain⟨aT',cT',hv',hst',hcap'⟩:=aB.strsAt;have aJ:((B8 ks (Cv l)).map toBs).length=l.length:=(by rw[lnM,F4 aD.out]);rw[aJ] at hv' hcap';cases hv';have aV:(joinB ((B8 ks (Cv l)).map toBs) ⟨#[44,32]⟩).data.toList=Lib.join (B8 ks (Cv l)) [44,32]:=by
    show Lib.join (((B8 ks (Cv l)).map toBs).map (·.data.toList)) [44,32]=_;rw[List.map_map,show((fun x:ByteArray=>x.data.toList)∘toBs)=id from rfl,List.map_id]
   have bJ:(joinB ((B8 ks (Cv l)).map toBs) ⟨#[44,32]⟩).size<=140737488355328:=by
    rw[<-Al,aV];unfold textMax at hmax;omega
   have HJ:=Lq7 (Nw aT cT _ ⟨#[44,32]⟩ wr hst' (by rw[aJ];exact hcap') (by rw[aJ];exact hl) bJ);rw[aJ] at HJ;generalize joinB ((B8 ks (Cv l)).map toBs) ⟨#[44,32]⟩=jb at HJ aV bJ;have bL:=Lq7 aV;have aU:=Lq7 aQ.out;have hkl:¬k<ks.length:=(by have:=aD.out;omega);clear hown aB hst' hcap' aJ aC aV;go_wp2_with fail;refine HJ.out.mono ?_;rintro e w2 ⟨rfl,bM⟩;have Hb2:=Lq7 (H0.out.below.trans ((aU.out.trans (bM.mono aU.out.size)).mono H0.out.below.size));have z1:¬9223372036854775807<jb.size+1:=(by omega);have z2:¬9223372036854775807<1+jb.size:=(by omega);have z3:¬9223372036854775807<1+jb.size+1:=(by omega);have aZ:Hid ((⟨#[123]⟩++jb++⟨#[125]⟩:ByteArray).data.toList=[123]++Lib.join (B8 ks (Cv l)) [44,32]++[125]):=Lq7 (by
    rw[ByteArray.data_append,ByteArray.data_append,Array.toList_append,Array.toList_append,bL.out])
   clear bM HJ bL;go_wp2_with fail;go_ret;exact⟨_,rfl,aZ.out,Hb2.out⟩
theorem Aci(v):Nh v:=
 Vl.rec (motive_1:=fun v=>Nh v) (motive_2:=fun l=>∀x∈l,Nh x)
  (fun k n s l ks ih=>by
   by_cases h4:k=4
   ·subst h4;exact Acj n s l ks ih
   ·by_cases h5:k=5
    ·subst h5;exact Ach n s l ks ih
    ·exact Zb k n s l ks h4 h5)
  (fun x hx=>by cases hx)
  (fun v t hv ht x hx=>by
   rcases List.mem_cons.1 hx with rfl|hx
   ·exact hv
   ·exact ht x hx) v
theorem Qv(l):(quoteL l).length<=2*l.length+2:=by
 unfold quoteL;split
 ·simp
 ·rw[lnA,lnC,List.length_singleton,escL_len];have:=Pe l;omega
theorem Sj{α:Type}(f:α->Nat)(g:α->Int)(c:Nat):∀l:List α,(∀x∈l,(f x:Int)+c<=g x)->(((l.map f).sum:Nat):Int)+l.length*c<=(l.map g).sum
 | [],_=>by simp
 | x::t,h=>by
  have h1:=h x (lmS ..);have h2:=Sj f g c t fun y hy=>h y (lmO _ hy);rw[List.map_cons,List.sum_cons,List.map_cons,List.sum_cons,lnC]
  push_cast
  rw[Int.add_mul];omega
theorem cntVs_sum:∀l:List Vl,cntVs l=(l.map cntV).sum
 | []=>rfl
 | v::t=>by rw[cntVs,cntVs_sum t,List.map_cons,List.sum_cons]
theorem Zw(c):∀l:List Int,(l.map fun x=>c*x).sum=c*l.sum
 | []=>by simp
 | x::t=>by rw[List.map_cons,List.sum_cons,Zw c t,List.sum_cons,Int.mul_add]
theorem Ab0(v):prV v->((B5 v).length:Int)+131080<=262200*cntV v:=
 Vl.rec (motive_1:=fun v=>prV v->((B5 v).length:Int)+131080<=262200*cntV v) (motive_2:=fun l=>prVs l->∀x∈l,((B5 x).length:Int)+131080<=262200*cntV x)
  (fun k n s l ks ih hp=>by
   rw[prV] at hp;obtain⟨hn,hs,hl,-,hk,hlk,hps⟩:=hp;have hi:=ih hps;have hc:=Nn l;rw[cntV];have hsum:=Sj (fun x=>(B5 x).length) (fun x=>262200*cntV x) 131080 l hi;have he:(l.map fun x=>262200*cntV x).sum=262200*cntVs l:=by
    rw[cntVs_sum,<-Zw,List.map_map];rfl
   rw[he] at hsum;by_cases h1:k=1
   ·subst h1;rw[B5,if_pos rfl];split<;>simp<;>omega
   by_cases h2:k=2
   ·subst h2;rw[B5,if_neg (by decide),if_pos rfl];unfold inR at hn;simp only[Bool.and_eq_true,decide_eq_true_eq] at hn;have:=Lib.itoa_length_le n hn.1 hn.2;omega
   by_cases h3:k=3
   ·subst h3;rw[B5,if_neg (by decide),if_neg (by decide),if_pos rfl];have:=Qv s.data.toList;rw[Al] at this;omega
   by_cases h4:k=4
   ·subst h4;rw[B5,if_neg (by decide),if_neg (by decide),if_neg (by decide),if_pos rfl];have hj:=Mr [44,32] (Cv l);rw[textVs_map,lnM,List.map_map] at hj;rw[textVs_map,lnA,lnA,hj];have e:(l.map (List.length∘B5)).sum=(l.map fun x=>(B5 x).length).sum:=rfl;rw[e];simp only[lnC,lnN];omega
   by_cases h5:k=5
   ·subst h5;have hlk:=hlk rfl;rw[B5,if_neg (by decide),if_neg (by decide),if_neg (by decide),if_neg (by decide),if_pos rfl];have hj:=Mr [44,32] (B8 ks (Cv l));rw[F4 hlk] at hj;have aB:∀(ks:List ByteArray) (l:List Vl),l.length=ks.length->(∀x∈ks,x.size<=65536)->((B8 ks (Cv l)).map List.length).sum<=(l.map fun x=>(B5 x).length).sum+l.length*131076:=by
     intro ks
     induction ks with
     | nil=>intro l h _;simp[B8]
     | cons key t ih2=>
      intro l h hz;cases l with
      | nil=>simp at h
      | cons v r=>
       have h3:=ih2 r (by simpa using h) fun x hx=>hz x (lmO _ hx);have h4:=hz key (lmS ..);have h5:=Qv key.data.toList;rw[Al] at h5;rw[Cv,B8,List.zipWith_cons_cons,List.map_cons,List.sum_cons,List.map_cons,List.sum_cons,lnC,lnA,lnA];rw[B8] at h3;simp only[lnC,lnN];omega
    have h6:=aB ks l hlk hk;rw[lnA,lnA,hj];simp only[lnC,lnN];omega
   ·rw[B5,if_neg h1,if_neg h2,if_neg h3,if_neg h4,if_neg h5];simp only[lnC,lnN];omega)
  (fun _ x hx=>by cases hx)
  (fun v t hv ht hp x hx=>by
   rw[prVs] at hp;rcases List.mem_cons.1 hx with rfl|hx
   ·exact hv hp.1
   ·exact ht hp.2 x hx) v
theorem Sk{v}(h:Am v=true):cntV v<=20000:=by
 unfold Am at h;obtain⟨h1,-,-⟩:=Np v 1 20000 h;have h4:=(Lm v 1 20000 (by omega)).2.2 h;omega
theorem Qw{v}(h:Am v=true):(B5 v).length<=5300000000:=by
 have h1:=Ab0 v (Ng h);have h2:=Sk h;omega
theorem Ab1(v)(hs:Ay v)(F a1 c1 a2 c2 w)(hF:∀b,F b->b<w.heap.size)(hT:Em w)(hr1:Ac F w a1 (Ar v.items))(hr2:Ac F w a2 (Bn v.keys)):
  Calls Tryz.prog 284 #[A4 v.kind v.num v.str a1 v.items.length c1 a2 v.keys.length c2] w (Le (printV v) w):=by
 obtain⟨k,n,s,l,ks⟩:=v;show Calls Tryz.prog 284 #[A4 k n s a1 l.length c1 a2 ks.length c2] w _;have H0:Hid (TB w (w.alloc (I #[D E k,D E n,C s,A a1 l.length c1,A a2 ks.length c2] 53)) #[D E k,D E n,C s,A a1 l.length c1,A a2 ks.length c2]):=Lq7 ⟨(bRf _ w).alloc (nlr _) _,heap_alloc_new w _⟩;have aC:∀b,F b->b<(w.alloc (I #[D E k,D E n,C s,A a1 l.length c1,A a2 ks.length c2] 53)).heap.size:=fun b hb=>(by have:=hF b hb;have:=H0.out.below.size;omega);have HC:=Lq7 (Ep (.mk k n s l ks) hs F a1 c1 a2 c2 _ aC (hr1.below H0.out.below) (hr2.below H0.out.below));have Hr:=Lq7 (aIn aC (aIn (hT.below H0.out.below) (aIn (hr1.below H0.out.below) (hr2.below H0.out.below))));unfold A4 at HC |-;cases hck:Am (.mk k n s l ks) with
 | false=>
  have Hp:Hid (printV (.mk k n s l ks)=[]):=Lq7 (by unfold printV;rw[hck];rfl);rw[hck] at HC;go_enter Tryz.func284,Tryz.ntmps284;go_wp2_with fail;refine HC.out.mono ?_;rintro e w1 ⟨rfl,aA⟩;have H1:=Lq7 (H0.out.later aA);go_wp2_with fail;go_ret;exact⟨_,rfl,Hp.out.symm,H1.out.below⟩
 | true=>
  have Hp:Hid (printV (.mk k n s l ks)=B5 (.mk k n s l ks)):=Lq7 (by unfold printV;rw[hck];rfl);have aD:=Lq7 hck;rw[hck] at HC;go_enter Tryz.func284,Tryz.ntmps284;go_wp2_with fail;refine HC.out.mono ?_;rintro e w1 ⟨rfl,aA⟩;have H1:=Lq7 (H0.out.later aA);have HX:=Lq7 (Aci (.mk k n s l ks) (Ng aD.out) (by have:=Qw aD.out;unfold textMax;omega) F a1 c1 a2 c2 w1 (fun b hb=>nll (Hr.out.1 b hb) aA.size) (Hr.out.2.1.below aA) (Hr.out.2.2.1.below aA) (Hr.out.2.2.2.below aA));obtain⟨q0,q1,q2,q3,q4,q5,-⟩:=Aa H1.out.v;unfold A4 at HX;go_wp2_with fail;refine HX.out.mono ?_;rintro e w2 ⟨o,rfl,ho,hb2⟩;have H2:=Lq7 (aIn ho (H1.out.later hb2));go_wp2_with fail;go_ret;exact⟨_,rfl,H2.out.1.trans Hp.out.symm,H2.out.2.below⟩
mutual
def bulkV:Vl->Nat
 | .mk _ _ s l ks=>s.size+sumS ks+bulkVs l
def bulkVs:List Vl->Nat
 | []=>0
 | v::t=>bulkV v+bulkVs t
end
theorem Uw(l:List Vl)(j:Nat)(h:j<l.length):bulkVs (l.take (j+1))=bulkVs (l.take j)+bulkV l[j]:=by
 induction l generalizing j with
 | nil=>simp at h
 | cons v t ih=>
  cases j with
  | zero=>simp[bulkVs]
  | succ j=>
   have:=ih j (by simpa using h);simp only[List.take_succ_cons,bulkVs,List.getElem_cons_succ];omega
theorem Aab(l j):bulkVs (l.take j)<=bulkVs l:=by
 induction l generalizing j with
 | nil=>simp[bulkVs]
 | cons v t ih=>
  cases j with
  | zero=>simp[bulkVs]
  | succ j=>
   have:=ih j;simp only[List.take_succ_cons,bulkVs];omega
theorem sumS_bound:∀ks:List ByteArray,(∀x∈ks,x.size<=65536)->sumS ks<=65536*ks.length
 | [],_=>by simp[sumS]
 | x::t,h=>by
  have h1:=sumS_bound t fun y hy=>h y (lmO _ hy);have h2:=h x (lmS ..);unfold sumS at *;rw[List.map_cons,List.sum_cons,lnC];omega
theorem bulkV_le(v):prV v->(bulkV v:Int)<=65601536*cntV v:=
 Vl.rec (motive_1:=fun v=>prV v->(bulkV v:Int)<=65601536*cntV v) (motive_2:=fun l=>prVs l->(bulkVs l:Int)<=65601536*cntVs l)
  (fun k n s l ks ih hp=>by
   rw[prV] at hp;obtain⟨-,hs,-,hkl,hk,-,hps⟩:=hp;have:=ih hps;have:=sumS_bound ks hk;rw[bulkV,cntV];omega)
  (fun _=>by simp[bulkVs,cntVs])
  (fun v t hv ht hp=>by
   rw[prVs] at hp;have:=hv hp.1;have:=ht hp.2;rw[bulkVs,cntVs];omega) v
def Ux(x:Vl):Prop:=bulkV x<=textMax->Ay x->∀(F:Nat->Prop) (a1:Option Addr) (c1:Nat) (a2:Option Addr) (c2:Nat) (w:World),(∀b,F b->b<w.heap.size)->Ac F w a1 (Ar x.items)->Ac F w a2 (Bn x.keys) ->
 Calls Tryz.prog 283 #[A4 x.kind x.num x.str a1 x.items.length c1 a2 x.keys.length c2] w (fun e w'=>e = .returned (D E (bulkV x:Nat))/\Below w.heap.size w w')
theorem Aac(k n s l ks)(ih:∀x∈l,Ux x):Ux (.mk k n s l ks):=by
 intro hmax aB F a1 c1 a2 c2 w hF hr1 hr2;show Calls Tryz.prog 283 #[A4 k n s a1 l.length c1 a2 ks.length c2] w _;rw[bulkV] at hmax;rw[Ay] at aB;have hll:=aB.2.1;have hkl:=aB.2.2.1;unfold textMax at hmax;have H0:Hid (TB w (w.alloc (I #[D E k,D E n,C s,A a1 l.length c1,A a2 ks.length c2] 53)) #[D E k,D E n,C s,A a1 l.length c1,A a2 ks.length c2]):=Lq7 ⟨(bRf _ w).alloc (nlr _) _,heap_alloc_new w _⟩;have Hk:=Lq7 (hr2.below H0.out.below).strs;have Hr:=Lq7 (aIn (hr1.below H0.out.below) (fun b (hb:F b)=>nll (hF b hb) H0.out.below.size));have aG:=Lq7 (aIn ih (fun x (hx:x∈l)=>smallVs_mem aB.2.2.2.2 hx));unfold A4;go_enter Tryz.func283,Tryz.ntmps283;go_wp2_with fail;generalize hW0:w.alloc (I #[D E k,D E n,C s,A a1 l.length c1,A a2 ks.length c2] 53)=W0 at *
 go_loop [3,14] (fun v i=>∃j:Nat,i = D E j/\j<=ks.length/\v = D E ((s.size:Int)+(sumS (ks.take j):Nat))) (fun _ i=>ks.length-(intOf i).toNat)
 case atStart=>exact⟨0,rfl,nlz _,by simp[sumS]⟩
 case round=>
  obtain⟨j,rfl,hj,rfl⟩:=hrel;by_cases hlt:j<ks.length
  ·obtain⟨bK,oK,hak,hck⟩:=Hk.out j _ (lgE hlt);subst hak;have hs1:=Nv ks j hlt;have hs2:=Ti ks (j+1);generalize ks[j]=x at hck hs1;go_wp2_with fail;go_round
   case rel=>exact⟨j+1,by go_num,by omega,by go_num⟩
   case measure=>simp only[intOf];omega
  ·have hjl:ks.take j=ks:=ltL (by omega);rw[hjl];obtain⟨q0,q1,q2,q3,q4,q5,-⟩:=Aa H0.out.v;go_wp2_with fail
   go_loopw [3,26] (fun v i wr=>∃j:Nat,i = D E j/\j<=l.length/\v = D E ((s.size:Int)+(sumS ks:Nat)+(bulkVs (l.take j):Nat))/\Hid (Below W0.heap.size W0 wr)) (fun _ i _=>l.length-(intOf i).toNat)
   case atStart=>exact⟨0,rfl,nlz _,by simp[bulkVs],Lq7 (bRf _ _)⟩
   case round=>
    obtain⟨j2,rfl,hj2,rfl,aA⟩:=hrel;by_cases hlt2:j2<l.length
    ·cases hx:l[j2] with
     | mk xk xn xs xl xks=>
      have aD:l[j2]? = J (.mk xk xn xs xl xks):=(by rw[lgE hlt2,hx]);have hb1:=Uw l j2 hlt2;have hb2:=Aab l (j2+1);rw[hx] at hb1;obtain⟨b,off,x1,y1,x2,y2,hae,-,hbl,r0,r1,r2,r3,r4,hv1,hv2⟩:=(Hr.out.1.below aA.out).val aD;have aC:Below wr.heap.size wr (wr.alloc (I #[D E xk,D E xn,C xs,A x1 xl.length y1,A x2 xks.length y2] 53)):=(bRf _ wr).alloc (nlr _) _;have HX:=Lq7 (aG.out.1 _ (lgM aD) (by unfold textMax;omega) (aG.out.2 _ (lgM aD)) F x1 y1 x2 y2 _ (fun b hb=>by have:=Hr.out.2 b hb;have:=aA.out.size;have:=aC.size;omega) (hv1.below aC) (hv2.below aC));unfold A4 at HX;have aH:=Lq7 (aA.out.trans (aC.mono aA.out.size));subst hae;generalize hbv:bulkV (.mk xk xn xs xl xks)=bv at *;go_wp2_with fail;refine HX.out.mono ?_;rintro e w1 ⟨rfl,hb3⟩;have Hb3:=Lq7 (aH.out.trans (hb3.mono aH.out.size));go_wp2_with fail;go_roundw
      case rel=>exact⟨j2+1,by go_num,by omega,by go_num,Hb3⟩
      case measure=>simp only[intOf];omega
    ·have aE:l.take j2=l:=ltL (by omega);have aF:Hid (bulkV (.mk k n s l ks)=s.size+sumS ks+bulkVs l):=Lq7 rfl;rw[aE];have Hb:=Lq7 (H0.out.below.trans (aA.out.mono H0.out.below.size));go_wp2_with fail;go_ret;exact⟨by rw[aF.out];go_num,Hb.out⟩
theorem Aad(v):Ux v:=
 Vl.rec (motive_1:=fun v=>Ux v) (motive_2:=fun l=>∀x∈l,Ux x) (fun k n s l ks ih=>Aac k n s l ks ih) (fun x hx=>by cases hx)
  (fun v t hv ht x hx=>by
   rcases List.mem_cons.1 hx with rfl|hx
   ·exact hv
   ·exact ht x hx) v
structure QB(w W:World)(b:Nat):Prop where
 below:Below w.heap.size w W
 r:W.heap[b]? = J (I #[D E 0,D E 0,C ⟨#[]⟩,A G 0 0,A G 0 0] 53 (0,0))
 lo:w.heap.size<=b
theorem QB.later{w W W' b}(h:QB w W b)(hb:Below W.heap.size W W'):QB w W' b:=⟨h.below.trans (hb.mono h.below.size),stays h.r hb,h.lo⟩
theorem QB.start(w):QB w (w.alloc (I #[D E 0,D E 0,C ⟨#[]⟩,A G 0 0,A G 0 0] 53)) w.heap.size:=⟨(bRf _ w).alloc (nlr _) _,heap_alloc_new w _,nlr _⟩
theorem QB.fin{r w W W' b e}(H:QB w W b)(h:Ck r W e W'):∃(k n:Int) (s:ByteArray) (a1:Option Addr) (l1 c1:Nat) (a2:Option Addr) (l2 c2:Nat) (m:Int),
  e = .returned (.tuple #[.agg #[D E k,D E n,C s,A a1 l1 c1,A a2 l2 c2],D E m]) /\
  W'.heap[b]? = J (I #[D E 0,D E 0,C ⟨#[]⟩,A G 0 0,A G 0 0] 53 (0,0)) /\
  Ck r w (.returned (.tuple #[.agg #[D E k,D E n,C s,A a1 l1 c1,A a2 l2 c2],D E m])) (((((W'.setCell ⟨b,0,G⟩ (D E k)).setCell ⟨b,1,G⟩ (D E n)).setCell ⟨b,2,G⟩ (C s)).setCell ⟨b,3,G⟩ (A a1 l1 c1)).setCell ⟨b,4,G⟩ (A a2 l2 c2)) /\
  (((((W'.setCell ⟨b,0,G⟩ (D E k)).setCell ⟨b,1,G⟩ (D E n)).setCell ⟨b,2,G⟩ (C s)).setCell ⟨b,3,G⟩ (A a1 l1 c1)).setCell ⟨b,4,G⟩ (A a2 l2 c2)).heap[b]? = J (I #[D E k,D E n,C s,A a1 l1 c1,A a2 l2 c2] 53 (0,0)):=by
 obtain⟨hb,hq⟩:=h;have H':=H.later hb;have hbW:b<W.heap.size:=here H.r;cases r with
 | error n=>
  obtain rfl:e=_:=hq;exact⟨0,0,⟨#[]⟩,G,0,0,G,0,0,n,rfl,H'.r,⟨(res_set H'.lo H'.below H'.r _ _ _ _ _).2,rfl⟩,(res_set H'.lo H'.below H'.r _ _ _ _ _).1⟩
 | ok x=>
  obtain⟨cs,rfl,bJ⟩:=hq;obtain⟨yk,yn,ys,yl,yks⟩:=x;have bB:=bJ;obtain⟨z1,f1,z2,f2,rfl,-,-⟩:=bJ.val;refine⟨yk,yn,ys,z1,yl.length,f1,z2,yks.length,f2,0,rfl,H'.r,⟨(res_set H'.lo H'.below H'.r _ _ _ _ _).2,_,rfl,?_⟩,(res_set H'.lo H'.below H'.r _ _ _ _ _).1⟩;exact bB.mono fun g hg hl=>⟨nlt H.below.size hg,by simpa using hl,by
   have:W.heap.size<=g:=hg;rw[Ad (by omega),Ad (by omega),Ad (by omega),Ad (by omega),Ad (by omega)]⟩
theorem QB.err{w W b}(H:QB w W b)(n):
  Ck (.error n) w (.returned (.tuple #[.agg #[D E 0,D E 0,C ⟨#[]⟩,A G 0 0,A G 0 0],D E n])) (((((W.setCell ⟨b,0,G⟩ (D E 0)).setCell ⟨b,1,G⟩ (D E 0)).setCell ⟨b,2,G⟩ (C ⟨#[]⟩)).setCell ⟨b,3,G⟩ (A G 0 0)).setCell ⟨b,4,G⟩ (A G 0 0)) /\
  (((((W.setCell ⟨b,0,G⟩ (D E 0)).setCell ⟨b,1,G⟩ (D E 0)).setCell ⟨b,2,G⟩ (C ⟨#[]⟩)).setCell ⟨b,3,G⟩ (A G 0 0)).setCell ⟨b,4,G⟩ (A G 0 0)).heap[b]? = J (I #[D E 0,D E 0,C ⟨#[]⟩,A G 0 0,A G 0 0] 53 (0,0)):=
 ⟨⟨(res_set H.lo H.below H.r _ _ _ _ _).2,rfl⟩,(res_set H.lo H.below H.r _ _ _ _ _).1⟩
structure V5(w:World)(b off:Nat)(x0 x1 x2 x3 x4:Value):Prop where
 lt:b<w.heap.size
 q0:w.cell? ⟨b,off,G⟩=J x0
 q1:w.cell? ⟨b,off+1,G⟩=J x1
 q2:w.cell? ⟨b,off+2,G⟩=J x2
 q3:w.cell? ⟨b,off+3,G⟩=J x3
 q4:w.cell? ⟨b,off+4,G⟩=J x4
theorem V5.below{w w' b off x0 x1 x2 x3 x4}(h:V5 w b off x0 x1 x2 x3 x4)(hb:Below w.heap.size w w'):V5 w' b off x0 x1 x2 x3 x4:=
 have k:∀i,w'.cell? ⟨b,i,G⟩=w.cell? ⟨b,i,G⟩:=fun i=>hb.cell (p:=⟨b,i,G⟩) h.lt
 ⟨nll h.lt hb.size,(k _).trans h.q0,(k _).trans h.q1,(k _).trans h.q2,(k _).trans h.q3,(k _).trans h.q4⟩
def Nf(v:Vl):Except Int Vl:=if v.kind=3 then Cb v.str else if Am v=true/\65536<bulkV v then .error 6 else Cb (toBs (printV v))
theorem Q5{v}(h:Am v=true):bulkV v<=textMax:=by
 have h1:=bulkV_le v (Ng h);have h2:=Sk h;unfold textMax;omega
theorem Q6(v):(toBs (printV v)).size<=5300000000:=by
 unfold printV;cases h:Am v with
 | true=>exact Qw h
 | false=>exact nlz _
theorem text_any(F v a cap w)(hF:∀b,F b->b<w.heap.size)(hT:Em w)(hr:Ac F w a (Ar [v]))(hs:Ay v):
  Calls Tryz.prog 274 #[A a 1 cap] w (Ck (Nf v) w):=by
 obtain⟨k,n,s,l,ks⟩:=v;obtain⟨b,off,a1,c1,a2,c2,rfl,-,hbl,q0,q1,q2,q3,q4,bC,bD⟩:=hr.val (j:=0) rfl;simp only[Nat.zero_mul,naz] at q0 q1 q2 q3 q4;have HV:=Lq7 (V5.mk hbl q0 q1 q2 q3 q4);have aA:=QB.start w;have bE:=nlr w.heap.size;generalize aQ:w.alloc (I #[D E 0,D E 0,C ⟨#[]⟩,A G 0 0,A G 0 0] 53)=W0 at aA;have H0:=Lq7 aA;have bA:=Lq7 aQ;have bG:∀b,F b->b<W0.heap.size:=fun b hb=>(by have:=hF b hb;have:=H0.out.below.size;omega);have HC:=Lq7 (Ep (.mk k n s l ks) hs F a1 c1 a2 c2 _ bG (bC.below H0.out.below) (bD.below H0.out.below));have Hr:=Lq7 (aIn bG (aIn (hT.below H0.out.below) (aIn (bC.below H0.out.below) (bD.below H0.out.below))));have Hs:=Lq7 hs;unfold A4 at HC;clear hF hT hr bC bD hs bG aA bE;by_cases hk:k=3
 ·subst hk;have hss:s.size<=9223372036854775807:=(by have:=Hs.out;rw[Ay] at this;have:=this.1.1;omega);have Ht:Hid (Nf (.mk 3 n s l ks)=Cb s):=Lq7 (if_pos rfl);clear aQ;go_enter Tryz.func274,Tryz.ntmps274;go_wp2_with fail;rw[bA.out];refine(E3 s _ hss).mono ?_;rintro e w9 h9;rw[<-Ht.out] at h9;clear HC Hr q0 q1 q2 q3 q4;obtain⟨k9,n9,s9,aR,aU,aV,a29,aW,aY,m9,rfl,aE,aF,aG⟩:=H0.out.fin h9;clear h9;have aC:=Lq7 (aIn aF aG);obtain⟨p0,p1,p2,p3,p4,p5,p6,p7,p8,p9,aD⟩:=Aa aE;clear aF aG aE;go_wp2_with fail;generalize wsC _ _ _=W9 at aC |-;clear p0 p1 p2 p3 p4 p5 p6 p7 p8 p9 aD;obtain⟨p0,p1,p2,p3,p4,p5,p6,p7,p8,p9,aD⟩:=Aa aC.out.2;exact bodyPost_ret (v:=.tuple #[.agg #[D E k9,D E n9,C s9,A aR aU aV,A a29 aW aY],D E m9]) (by simp[results,Tryz.results274,go_sem,p1,p2,p3,p4,p5]) rfl aC.out.1
 ·have hk2:decide (k=3)=false:=decide_eq_false hk;have hk3:(k==3)=false:=(by rw[beq_eq_false_iff_ne];exact hk);have Hp:=Lq7 (fun W (hb:Below W0.heap.size W0 W)=>
   Ab1 (.mk k n s l ks) Hs.out F a1 c1 a2 c2 W (fun b h=>nll (Hr.out.1 b h) hb.size) (Hr.out.2.1.below hb) (Hr.out.2.2.1.below hb) (Hr.out.2.2.2.below hb))
  unfold A4 at Hp;cases hck:Am (.mk k n s l ks) with
  | false=>
   have Ht:Hid (Nf (.mk k n s l ks)=Cb (toBs (printV (.mk k n s l ks)))):=Lq7 ((if_neg hk).trans (if_neg (by rw[hck];simp)));rw[hck] at HC;clear hck aQ;go_enter Tryz.func274,Tryz.ntmps274;go_wp2_with fail;rw[bA.out];refine HC.out.mono ?_;rintro e w1 ⟨rfl,aB⟩;have H1:=Lq7 (aIn (H0.out.later aB) (aIn (HV.out.below (H0.out.below.trans (aB.mono H0.out.below.size))) aB));clear aB H0 HC q0 q1 q2 q3 q4;obtain⟨-,q0,q1,q2,q3,q4⟩:=H1.out.2.1;go_wp2_with fail;refine(Hp.out _ H1.out.2.2).mono ?_;rintro e w3 ⟨o,rfl,ho,aZ⟩;have H3:=Lq7 (H1.out.1.later aZ);have aH:o=toBs (printV (.mk k n s l ks)):=(by rw[<-ho];rfl);have bH:o.size<=9223372036854775807:=(by have:=Q6 (.mk k n s l ks);rw[aH];omega);rw[<-aH] at Ht;clear aZ Hp Hr H1 q0 q1 q2 q3 q4 ho aH;go_wp2_with fail;refine(E3 o _ bH).mono ?_;rintro e w9 h9;rw[<-Ht.out] at h9;obtain⟨k9,n9,s9,aR,aU,aV,a29,aW,aY,m9,rfl,aE,aF,aG⟩:=H3.out.fin h9;clear h9;have aC:=Lq7 (aIn aF aG);obtain⟨p0,p1,p2,p3,p4,p5,p6,p7,p8,p9,aD⟩:=Aa aE;clear aF aG aE;go_wp2_with fail;generalize wsC _ _ _=W9 at aC |-;clear p0 p1 p2 p3 p4 p5 p6 p7 p8 p9 aD;obtain⟨p0,p1,p2,p3,p4,p5,p6,p7,p8,p9,aD⟩:=Aa aC.out.2;exact bodyPost_ret (v:=.tuple #[.agg #[D E k9,D E n9,C s9,A aR aU aV,A a29 aW aY],D E m9]) (by simp[results,Tryz.results274,go_sem,p1,p2,p3,p4,p5]) rfl aC.out.1
  | true=>
   have bI:=Lq7 hck;rw[hck] at HC;clear hck;have HB:=Lq7 (fun W (hb:Below W0.heap.size W0 W)=>
    Aad (.mk k n s l ks) (Q5 bI.out) Hs.out F a1 c1 a2 c2 W (fun b h=>nll (Hr.out.1 b h) hb.size) (Hr.out.2.2.1.below hb) (Hr.out.2.2.2.below hb))
   have bL:bulkV (.mk k n s l ks)<=140737488355328:=Q5 bI.out;unfold A4 at HB;by_cases hbk:65536<bulkV (.mk k n s l ks)
   ·have Ht:Hid (Nf (.mk k n s l ks) = .error 6):=Lq7 ((if_neg hk).trans (if_pos ⟨bI.out,hbk⟩));have aJ:(65536:Int)<((bulkV (.mk k n s l ks):Nat):Int):=(by omega);generalize bulkV (.mk k n s l ks)=bv at aJ HB bL hbk;clear aQ;go_enter Tryz.func274,Tryz.ntmps274;go_wp2_with fail;rw[bA.out];refine HC.out.mono ?_;rintro e w1 ⟨rfl,aB⟩;have H1:=Lq7 (aIn (H0.out.later aB) (aIn (HV.out.below (H0.out.below.trans (aB.mono H0.out.below.size))) aB));clear aB H0 HC q0 q1 q2 q3 q4;obtain⟨-,q0,q1,q2,q3,q4⟩:=H1.out.2.1;go_wp2_with fail;refine(HB.out w1 H1.out.2.2).mono ?_;rintro e w2 ⟨rfl,aM⟩;have H2:=Lq7 (H1.out.1.later aM);clear aM HB H1 Hp Hr q0 q1 q2 q3 q4;obtain⟨p0,p1,p2,p3,p4,p5,p6,p7,p8,p9,aD⟩:=Aa H2.out.r;go_wp2_with fail;have aN:=H2.out.err 6;generalize wsC _ _ _=W9 at aN |-;clear p0 p1 p2 p3 p4 p5 p6 p7 p8 p9 aD;obtain⟨p0,p1,p2,p3,p4,p5,p6,p7,p8,p9,aD⟩:=Aa aN.2;refine bodyPost_ret (v:=.tuple #[.agg #[D E 0,D E 0,C ⟨#[]⟩,A G 0 0,A G 0 0],D E 6]) (by simp[results,Tryz.results274,go_sem,p1,p2,p3,p4,p5]) rfl ?_;rw[Ht.out];exact aN.1
   ·have Ht:Hid (Nf (.mk k n s l ks)=Cb (toBs (printV (.mk k n s l ks)))):=Lq7 ((if_neg hk).trans (if_neg (fun h=>hbk h.2)));have aJ:¬(65536:Int)<((bulkV (.mk k n s l ks):Nat):Int):=(by omega);generalize bulkV (.mk k n s l ks)=bv at aJ HB bL hbk;clear aQ;go_enter Tryz.func274,Tryz.ntmps274;go_wp2_with fail;rw[bA.out];refine HC.out.mono ?_;rintro e w1 ⟨rfl,aB⟩;have H1:=Lq7 (aIn (H0.out.later aB) (aIn (HV.out.below (H0.out.below.trans (aB.mono H0.out.below.size))) aB));clear aB H0 HC q0 q1 q2 q3 q4;obtain⟨-,q0,q1,q2,q3,q4⟩:=H1.out.2.1;go_wp2_with fail;refine(HB.out w1 H1.out.2.2).mono ?_;rintro e w2 ⟨rfl,aM⟩;have H2:=Lq7 (aIn (H1.out.1.later aM) (aIn (H1.out.2.1.below aM) (H1.out.2.2.trans (aM.mono H1.out.2.2.size))));clear aM HB H1 q0 q1 q2 q3 q4;obtain⟨-,q0,q1,q2,q3,q4⟩:=H2.out.2.1;go_wp2_with fail;refine(Hp.out _ H2.out.2.2).mono ?_;rintro e w3 ⟨o,rfl,ho,aZ⟩;have H3:=Lq7 (H2.out.1.later aZ);have aH:o=toBs (printV (.mk k n s l ks)):=(by rw[<-ho];rfl);have bH:o.size<=9223372036854775807:=(by have:=Q6 (.mk k n s l ks);rw[aH];omega);rw[<-aH] at Ht;clear aZ Hp Hr H2 q0 q1 q2 q3 q4 ho aH;go_wp2_with fail;refine(E3 o _ bH).mono ?_;rintro e w9 h9;rw[<-Ht.out] at h9;obtain⟨k9,n9,s9,aR,aU,aV,a29,aW,aY,m9,rfl,aE,aF,aG⟩:=H3.out.fin h9;clear h9;have aC:=Lq7 (aIn aF aG);obtain⟨p0,p1,p2,p3,p4,p5,p6,p7,p8,p9,aD⟩:=Aa aE;clear aF aG aE;go_wp2_with fail;generalize wsC _ _ _=W9 at aC |-;clear p0 p1 p2 p3 p4 p5 p6 p7 p8 p9 aD;obtain⟨p0,p1,p2,p3,p4,p5,p6,p7,p8,p9,aD⟩:=Aa aC.out.2;exact bodyPost_ret (v:=.tuple #[.agg #[D E k9,D E n9,C s9,A aR aU aV,A a29 aW aY],D E m9]) (by simp[results,Tryz.results274,go_sem,p1,p2,p3,p4,p5]) rfl aC.out.1
def S1(l:List Vl):Option (List ByteArray):=if l.all (fun x=>x.kind==3)=true then J (l.map Vl.str) else G
def PStrs(r:Option (List ByteArray))(w:World)(e:Ending)(w':World):Prop:=Below w.heap.size w w'/\match r with
 | some l=>∃x,e = .returned (.tuple #[x,.bool true])/\OwnS w' w.heap.size x l
 | none=>e = .returned (.tuple #[A G 0 0,.bool false])
theorem strs_any(F l a cap w)(hr:Ac F w a (Ar l))(hl1:l.length<=1000):
  Calls Tryz.prog 285 #[A a l.length cap] w (PStrs (S1 l) w):=by
 have Hr:=Lq7 hr;obtain⟨i0,hi,hz0,hz1,hz2⟩:=info_parts infoStr;go_enter Tryz.func285,Tryz.ntmps285;go_wp2_with fail
 go_loopw [4,9] (fun v i wr=>∃j:Nat,i = D E j/\j<=l.length/\Hid (OwnS wr w.heap.size v ((l.take j).map Vl.str))/\Hid (Below w.heap.size w wr)/\Hid ((l.take j).all (fun x=>x.kind==3)=true)) (fun _ i _=>l.length-(intOf i).toNat)
 case atStart=>exact⟨0,rfl,nlz _,Lq7 (OwnS.nil _ _),Lq7 (bRf _ _),Lq7 rfl⟩
 case round=>
  obtain⟨j,rfl,hj,hown,aE,aC⟩:=hrel;by_cases hlt:j<l.length
  ·cases hx:l[j] with
   | mk xk xn xs xl xks=>
    have aV:l[j]? = J (.mk xk xn xs xl xks):=(by rw[lgE hlt,hx]);obtain⟨b,off,b1,e1,b2,e2,hae,-,hbl,r0,r1,r2,r3,r4,-,-⟩:=(Hr.out.below aE.out).val aV;have aN:l.take (j+1)=l.take j++[.mk xk xn xs xl xks]:=(by rw[ltA,aV];rfl);subst hae;obtain⟨aL,cL,rfl,-,-⟩:=hown.out.strsAt;rw[lnM,lnT,Nat.min_eq_left hj] at hown |-;by_cases hk3:xk=3
    ·subst hk3;have aF:OwnS (wr.alloc (I #[D E 3,D E xn,C xs,A b1 xl.length e1,A b2 xks.length e2] 53)) w.heap.size (A aL j cL) ((l.take j).map Vl.str):=hown.out.below ((bRf _ _).alloc (nlr _) _);have aA:=lit_one (wr.alloc (I #[D E 3,D E xn,C xs,A b1 xl.length e1,A b2 xks.length e2] 53)) (C xs) 9;rw[show(wr.alloc (I #[D E 3,D E xn,C xs,A b1 xl.length e1,A b2 xks.length e2] 53)).heap.size=wr.heap.size+1 by simp] at aA;have aG:=Lq7 aA;have aH:Hid (((wr.alloc (I #[D E 3,D E xn,C xs,A b1 xl.length e1,A b2 xks.length e2] 53)).alloc (I #[C xs] 9)).ownsRow w.heap.size 9 1 (A aL j cL) j (((l.take j).map Vl.str).map Value.string)):=Lq7 (by
      have:=aF.below ((bRf _ _).alloc (nlr _) (I #[C xs] 9));unfold OwnS at this;rw[lnM,lnT,Nat.min_eq_left hj] at this;exact this)
     have aQ:Hid (∀g,(Value.slice aL j cL).ownBlock=J g->w.heap.size<=g):=Lq7 (fun g hg=>(hown.out.block hg).1);have hall':Hid ((l.take (j+1)).all (fun x=>x.kind==3)=true):=Lq7 (by rw[aN,List.all_append,aC.out];rfl);have Htk:Hid ((l.take (j+1)).map Vl.str=(l.take j).map Vl.str++[xs]):=Lq7 (by rw[aN,List.map_append];rfl);have hsz:=aE.out.size
     go_wp2_with (at_builtin;refine wpList_append_own _ rfl _ _ 51 rfl w.heap.size 9 i0 (C ByteArray.empty) 1 16 Tryz.underlying51 hi hz0 hz1 hz2 rfl (by decide) (A aL j cL) j _ rfl aH.out ⟨wr.heap.size+1,0,G⟩ 1 1 [C xs] rfl rfl aG.out ?_ ?_ ?_ ?_ ?_)
     ·simp[Value.oneCell']
     ·unfold maxLen;omega
     ·omega
     ·simp;omega
     intro v2 w2 aJ aD _;have aB:Hid (OwnS w2 w.heap.size v2 ((l.take (j+1)).map Vl.str)):=Lq7 (by
      rw[Htk.out];unfold OwnS;rw[lnA,lnM,lnT,Nat.min_eq_left hj,List.map_append]
      simpa using aJ)
     have aR:Hid (Below w.heap.size w w2):=Lq7 ((aE.out.trans ((((bRf _ wr).alloc (nlr _) _).alloc (by simp) _).mono hsz)).trans (Cz aD aQ.out (by simp;omega)));obtain⟨aL2,cL2,rfl,-,-⟩:=aB.out.strsAt;go_wp2_with fail;go_roundw
     case rel=>exact⟨j+1,by go_num,by omega,aB,aR,hall'⟩
     case measure=>simp only[intOf];omega
    ·have hk3':(xk != 3)=true:=(by simpa using hk3);have hk3n:decide (xk=3)=false:=decide_eq_false hk3;have Hn:Hid (S1 l=G):=Lq7 (by
      refine if_neg ?_;intro h;rw[List.all_eq_true] at h;have hm:Vl.mk xk xn xs xl xks∈l:=by
       have:Vl.mk xk xn xs xl xks∈l.take (j+1):=(by rw[aN];simp);exact List.mem_of_mem_take this
      have:=h _ hm;exact hk3 (by simpa[Vl.kind] using this))
     go_wp2_with fail;refine bodyPost_ret (v:=.tuple #[A G 0 0,.bool false]) (by simp[results,Tryz.results285,go_sem]) rfl ?_;rw[Hn.out];exact⟨aE.out.trans ((bRf _ wr).alloc (nlr _) _ |>.mono aE.out.size),rfl⟩
  ·have aM:l.take j=l:=ltL (by omega);rw[aM] at hown aC;have aU:Hid (S1 l=J (l.map Vl.str)):=Lq7 (if_pos aC.out);have Hown':=Lq7 hown.out;obtain⟨aL,cL,rfl,-,-⟩:=hown.out.strsAt;go_wp2_with fail;refine bodyPost_ret (v:=.tuple #[A aL (l.map Vl.str).length cL,.bool true]) (by simp[results,Tryz.results285,go_sem]) rfl ?_;rw[aU.out];exact⟨aE.out,_,rfl,Hown'.out⟩
def occL(a b:ByteArray):Nat:=if b.size=1 then Lib.countByte a.data.toList b.data[0]! else Lib.countB a b
theorem Ab9(a b w)(hB:StdB w)(ha:a.size<=65536)(hb:1<=b.size):
  Calls Tryz.prog 62 #[C a,C b] w (fun e w'=>e = .returned (D E (occL a b:Nat))/\w'=w):=by
 unfold occL;by_cases h:b.size=1
 ·rw[if_pos h];obtain⟨⟨l⟩⟩:=b
  match l,h with
  | [c],_=>exact Tryz.strings_Count_one a c w
 ·rw[if_neg h];obtain⟨m,hm⟩:=hB;exact Tryz.strings_Count a b m w (by omega) hm (by omega)
theorem occL_le(a b)(hb:1<=b.size):occL a b<=a.size:=by
 unfold occL;split
 ·exact List.count_le_length
 ·exact Lib.countB_le b hb _ a (nlr _)
def replB(a b c:ByteArray):ByteArray:=toBs (Lib.replaceAll a.data.toList b.data.toList c.data.toList)
def Lc(a b c:ByteArray):Except Int Vl:=if b.size=0 then .error 1 else if(65536:Int)<a.size+occL a b*((c.size:Int)-b.size) then .error 6 else Cb (replB a b c)
def Kb(l:List Vl):Except Int Vl:=match S1 l with|some [a,b,c]=>Lc a b c|_=> .error 9
theorem M9(old new):∀(k:Nat) (s:List UInt8),(Lib.replaceK old new k s).length<=s.length+k*new.length
 | 0,s=>by simp[Lib.replaceK]
 | k+1,s=>by
  rw[Lib.replaceK];split
  ·omega
  ·have:=M9 old new k (s.drop ((Lib.index s old).toNat+old.length));simp only[lnA,lnT,List.length_drop] at *;rw[Nat.add_mul];omega
theorem Y6(x y z)(hx:x.size<=65536)(hy:1<=y.size)(hz:z.size<=65536):(replB x y z).size<=9223372036854775807:=by
 have h0:(replB x y z).size=(Lib.replaceAll x.data.toList y.data.toList z.data.toList).length:=rfl;rw[h0];unfold Lib.replaceAll Lib.replace;have hxl:x.data.toList.length=x.size:=rfl;have hzl:z.data.toList.length=z.size:=rfl;split
 ·omega
 ·have hc:Lib.replaceNum x.data.toList y.data.toList (-1)<=65536:=by
   have:=Lib.countB_le y hy _ x (nlr _);unfold Lib.replaceNum;rw[if_pos (.inl (by decide))];exact nlt this hx
  have:=M9 y.data.toList z.data.toList (Lib.replaceNum x.data.toList y.data.toList (-1)) x.data.toList;have:=Nat.mul_le_mul hc (show z.data.toList.length<=65536 by omega);omega
theorem T5(a b c w)(hB:StdB w)(ha:a.size<=65536)(hb:1<=b.size)(hc:c.size<=65536):
  Calls Tryz.prog 286 #[C a,C b,C c] w (fun e w'=>e = .returned (C (replB a b c))/\Below w.heap.size w w'):=by
 obtain⟨m,hm⟩:=hB;have h1:=Lib.countB_le b hb _ a (nlr _);have h2:Lib.countB a b*c.size<=65536*65536:=Nat.mul_le_mul (by omega) hc;exact Tryz.strings_ReplaceAll a b c m w (by omega) hm hb (by omega)
structure R3(W:World)(b off:Nat)(x y z:ByteArray):Prop where
 q0:W.cell? ⟨b,off,G⟩=J (C x)
 q1:W.cell? ⟨b,off+1,G⟩=J (C y)
 q2:W.cell? ⟨b,off+2,G⟩=J (C z)
theorem R3.set{W b off x y z}(h:R3 W b off x y z){b0}(hne:b0≠b)(i v):R3 (W.setCell ⟨b0,i,G⟩ v) b off x y z:=
 have k:∀j,(W.setCell ⟨b0,i,G⟩ v).cell? ⟨b,j,G⟩=W.cell? ⟨b,j,G⟩:=fun _j=>World.cell?_of_block (w:=W) (Ad (Ne.symm hne) i v)
 ⟨(k _).trans h.q0,(k _).trans h.q1,(k _).trans h.q2⟩
structure RS(w W:World)(b0 b off:Nat)(x y z:ByteArray):Prop where
 box:QB w W b0
 lt:b<W.heap.size
 ne:b0≠b
 std:StdB W
 q0:W.cell? ⟨b,off,G⟩=J (C x)
 q1:W.cell? ⟨b,off+1,G⟩=J (C y)
 q2:W.cell? ⟨b,off+2,G⟩=J (C z)
theorem RS.later{w W W' b0 b off x y z}(h:RS w W b0 b off x y z)(hb:Below W.heap.size W W'):RS w W' b0 b off x y z:=
 have k:∀i,W'.cell? ⟨b,i,G⟩=W.cell? ⟨b,i,G⟩:=fun i=>hb.cell (p:=⟨b,i,G⟩) h.lt
 ⟨h.box.later hb,nll h.lt hb.size,h.ne,h.std.below hb,(k _).trans h.q0,(k _).trans h.q1,(k _).trans h.q2⟩
theorem RS.three{w W b0 b off x y z}(h:RS w W b0 b off x y z):R3 W b off x y z:=⟨h.q0,h.q1,h.q2⟩
theorem Rg(F v1 v2 v3 a cap w)(hB:StdB w)(hr:Ac F w a (Ar [v1,v2,v3]))(h1:v1.str.size<=65536)(h2:v2.str.size<=65536)(h3:v3.str.size<=65536):
  Calls Tryz.prog 275 #[A a 3 cap] w (Ck (Kb [v1,v2,v3]) w):=by
 have aB:=QB.start w;generalize aW:w.alloc (I #[D E 0,D E 0,C ⟨#[]⟩,A G 0 0,A G 0 0] 53)=W0 at aB;have H0:=Lq7 aB;have aU:=Lq7 aW;have HC:=Lq7 (strs_any F [v1,v2,v3] a cap W0 (hr.below H0.out.below) (by simp));have HB:=Lq7 (hB.below H0.out.below);clear aB aW hr hB;cases hss:S1 [v1,v2,v3] with
 | none=>
  have Ht:Hid (Kb [v1,v2,v3] = .error 9):=Lq7 (by unfold Kb;rw[hss]);rw[hss] at HC;clear hss;go_enter Tryz.func275,Tryz.ntmps275;go_wp2_with fail;rw[aU.out];refine HC.out.mono ?_;rintro e w1 ⟨aE,rfl⟩;have H1:=Lq7 (H0.out.later aE);clear aE HC HB;obtain⟨p0,p1,p2,p3,p4,p5,p6,p7,p8,p9,aC⟩:=Aa H1.out.r;go_wp2_with fail;have aA:=H1.out.err 9;generalize wsC _ _ _=W9 at aA |-;clear p0 p1 p2 p3 p4 p5 p6 p7 p8 p9 aC;obtain⟨p0,p1,p2,p3,p4,p5,p6,p7,p8,p9,aC⟩:=Aa aA.2;refine bodyPost_ret (v:=.tuple #[.agg #[D E 0,D E 0,C ⟨#[]⟩,A G 0 0,A G 0 0],D E 9]) (by simp[results,Tryz.results275,go_sem,p1,p2,p3,p4,p5]) rfl ?_;rw[Ht.out];exact aA.1
 | some ts=>
  have hts:ts=[v1.str,v2.str,v3.str]:=by
   unfold S1 at hss;split at hss
   ·cases hss;rfl
   ·cases hss
  subst hts;have Ht:Hid (Kb [v1,v2,v3]=Lc v1.str v2.str v3.str):=Lq7 (by unfold Kb;rw[hss]);rw[hss] at HC;clear hss;generalize v1.str=x at *;generalize v2.str=y at *;generalize v3.str=z at *;by_cases hy:y.size=0
  ·obtain rfl:y=⟨#[]⟩:=(by obtain⟨⟨l⟩⟩:=y;match l,hy with|[],_=>rfl);have aJ:Hid (Kb [v1,v2,v3] = .error 1):=Lq7 (Ht.out.trans (if_pos rfl));go_enter Tryz.func275,Tryz.ntmps275;go_wp2_with fail;rw[aU.out];refine HC.out.mono ?_;rintro e w1 ⟨aE,xx,rfl,hown⟩;obtain⟨aT,cT,rfl,aG,hcap⟩:=hown.strsAt;obtain⟨b,off,rfl,q1⟩:=aG 1 _ rfl;have H1:=Lq7 (H0.out.later aE);clear aE HC HB aG hown;obtain⟨p0,p1,p2,p3,p4,p5,p6,p7,p8,p9,aC⟩:=Aa H1.out.r;go_wp2_with fail;have aA:=H1.out.err 1;generalize wsC _ _ _=W9 at aA |-;clear p0 p1 p2 p3 p4 p5 p6 p7 p8 p9 aC;obtain⟨p0,p1,p2,p3,p4,p5,p6,p7,p8,p9,aC⟩:=Aa aA.2;refine bodyPost_ret (v:=.tuple #[.agg #[D E 0,D E 0,C ⟨#[]⟩,A G 0 0,A G 0 0],D E 1]) (by simp[results,Tryz.results275,go_sem,p1,p2,p3,p4,p5]) rfl ?_;rw[aJ.out];exact aA.1
  ·have aY:¬y.data.toList=[]:=fun h=>hy (by have:=congrArg List.length h;simpa using this);have hyn:(y.data.toList==[])=false:=(by simpa using aY);have aV:¬y.toList=[]:=(by rw[Lib.toList_data];exact aY);have hyn2:(y.toList==[])=false:=(by simpa using aV);have hcl:=occL_le x y (by omega);have hm1:((occL x y:Nat):Int)*((z.size:Int)-y.size)<=65536*65536:=by
    rcases Int.lt_or_le ((z.size:Int)-y.size) 0 with h|h
    ·exact Int.le_trans (Int.mul_nonpos_of_nonneg_of_nonpos (by omega) (by omega)) (by decide)
    ·exact Int.mul_le_mul (by omega) (by omega) h (by decide)
   have hm2: -(65536*65536)<=((occL x y:Nat):Int)*((z.size:Int)-y.size):=by
    rcases Int.lt_or_le ((z.size:Int)-y.size) 0 with h|h
    ·have:=Int.mul_le_mul (a:=((occL x y:Nat):Int)) (b:= -((z.size:Int)-y.size)) (c:=65536) (d:=65536) (by omega) (by omega) (by omega) (by decide);rw[Int.mul_neg] at this;omega
    ·exact Int.le_trans (by decide) (Int.mul_nonneg (by omega) h)
   have aZ:wrap64 ((z.size:Int)-y.size)=(z.size:Int)-y.size:=IntWalk.wrap64_in _ ⟨by omega,by omega⟩;have aD:Hid (Lc x y z=if(65536:Int)<x.size+((occL x y:Nat):Int)*((z.size:Int)-y.size) then .error 6 else Cb (replB x y z)):=Lq7 (if_neg hy);have aF:=Lq7 (fun W hW=>Ab9 x y W hW (by omega) (by omega));generalize hM:((occL x y:Nat):Int)*((z.size:Int)-y.size)=M at hm1 hm2 aD;have aQ:wrap64 M=M:=IntWalk.wrap64_in _ ⟨by omega,by omega⟩;have bA:wrap64 ((x.size:Int)+M)=(x.size:Int)+M:=IntWalk.wrap64_in _ ⟨by omega,by omega⟩;have HM:=Lq7 hM;have Hw:=Lq7 (aIn aZ (aIn aQ bA));generalize occL x y=cn at HM aF hcl;clear hM aZ aQ bA;have aM:∃B:Bool,Hid (B=decide ((65536:Int)<x.size+M)):=⟨_,Lq7 rfl⟩;obtain⟨B,aN⟩:=aM;go_enter Tryz.func275,Tryz.ntmps275;go_wp2_with fail;rw[aU.out];refine HC.out.mono ?_;rintro e w1 ⟨aE,xx,rfl,hown⟩;obtain⟨aT,cT,rfl,aG,hcap⟩:=hown.strsAt;obtain⟨b,off,rfl,q1⟩:=aG 1 _ rfl;obtain⟨b',off',he,q0⟩:=aG 0 _ rfl;cases he;obtain⟨b',off',he,q2⟩:=aG 2 _ rfl;cases he;rw[naz] at q0;have hne:w.heap.size≠b:=by
    have:=hown.block (g:=b) rfl;have:=H0.out.r;have:=here this;omega
   have H1:Hid (RS w w1 w.heap.size b off x y z):=Lq7 ⟨H0.out.later aE,Ax q0,hne,HB.out.below aE,q0,q1,q2⟩;have hne:=Lq7 hne;clear aE HC HB aG hown q0 q2;go_wp2_with fail;have H2:Hid (RS w w1.drew w.heap.size b off x y z):=Lq7 (H1.out.later (bRf _ _).drew);refine Bm (.s 0 (.s 1 (.s 2 (.s 3 (.s 4 (.s 5 (.s 6 (.s 7 (.s 8 (.s 9 (.s 11 (.s 12 (.s 13 (.s 14 (.s 15 (.s 16 (.s 17 (.s 18 (.s 19 (.h 10 (.s 20 (.s 21 (.s 22 .nil))))))))))))))))))))))) 99 (fun W'=>R3 W' b off x y z) H2.out.three ?_;generalize w1.drew=Wd at H2 |-;clear q1;refine Aw (A (J ⟨b,off,G⟩) 3 cT) ?_;refine Aw (L (J ⟨b,off,G⟩)) ?_;refine Bp (C x) (fun W' hS=>?_) ?_
   ·obtain⟨z0,z1,z2⟩:=hS;go_simp
   refine Aw (D E x.size) ?_;refine Aw (A (J ⟨b,off,G⟩) 3 cT) ?_;refine Aw (L (J ⟨b,off,G⟩)) ?_;refine Bp (C x) (fun W' hS=>?_) ?_
   ·obtain⟨z0,z1,z2⟩:=hS;go_simp
   refine Aw (A (J ⟨b,off,G⟩) 3 cT) ?_;refine Aw (L (J ⟨b,off+1,G⟩)) ?_;refine Bp (C y) (fun W' hS=>?_) ?_
   ·obtain⟨z0,z1,z2⟩:=hS;go_simp
   refine Aw (A (J ⟨b,off,G⟩) 3 cT) ?_;refine Aw (L (J ⟨b,off+2,G⟩)) ?_;refine Bp (C z) (fun W' hS=>?_) ?_
   ·obtain⟨z0,z1,z2⟩:=hS;go_simp
   refine Aw (D E z.size) ?_;refine Aw (A (J ⟨b,off,G⟩) 3 cT) ?_;refine Aw (L (J ⟨b,off+1,G⟩)) ?_;refine Bp (C y) (fun W' hS=>?_) ?_
   ·obtain⟨z0,z1,z2⟩:=hS;go_simp
   refine Aw (D E y.size) ?_;refine Bp (D E ((z.size:Int)-y.size)) (fun W' hS=>?_) ?_
   ·go_simp;exact(IntWalk.i64_left _).trans Hw.out.1
   refine Ae rfl (fun K10 aH=>?_);go_wp2_with fail;refine(aF.out _ H2.out.std).mono ?_;rintro e w2 ⟨rfl,aQ⟩;obtain rfl:=aQ.symm;go_wp2_with fail;refine aH _ _ (fun _=>H2.out.three) ?_;(try simp only[gX,aP]);refine Bp (D E M) (fun W' hS=>?_) ?_
   ·have hm:=HM.out;go_simp;exact(IntWalk.i64_left _).trans Hw.out.2.1
   refine Bp (D E ((x.size:Int)+M)) (fun W' hS=>?_) ?_
   ·go_simp;exact(IntWalk.i64_left _).trans Hw.out.2.2
   refine Bp (.bool B) (fun W' hS=>?_) ?_
   ·rw[aN.out];go_simp
   refine A2 ?_;(try simp only[gX,aP]);cases B with
   | true=>
    have aJ:Hid (Kb [v1,v2,v3] = .error 6):=Lq7 (Ht.out.trans (aD.out.trans (if_pos (of_decide_eq_true aN.out.symm))));have H3:=Lq7 H2.out.box;clear H2 aN aD Hw HM aF;obtain⟨p0,p1,p2,p3,p4,p5,p6,p7,p8,p9,aC⟩:=Aa H3.out.r;go_wp2_with fail;have aA:=H3.out.err 6;generalize wsC _ _ _=W9 at aA |-;clear p0 p1 p2 p3 p4 p5 p6 p7 p8 p9 aC;obtain⟨p0,p1,p2,p3,p4,p5,p6,p7,p8,p9,aC⟩:=Aa aA.2;refine bodyPost_ret (v:=.tuple #[.agg #[D E 0,D E 0,C ⟨#[]⟩,A G 0 0,A G 0 0],D E 6]) (by simp[results,Tryz.results275,go_sem,p1,p2,p3,p4,p5]) rfl ?_;rw[aJ.out];exact aA.1
   | false=>
    have aJ:Hid (Kb [v1,v2,v3]=Cb (replB x y z)):=Lq7 (Ht.out.trans (aD.out.trans (if_neg (of_decide_eq_false aN.out.symm))));have bB:=Lq7 (fun W hW=>T5 x y z W hW (by omega) (by omega) (by omega));have bC:(replB x y z).size<=9223372036854775807:=Y6 x y z (by omega) (by omega) (by omega);generalize replB x y z=R at aJ bB bC;clear aN aD Hw HM aF Ht;go_wp2_with fail;have H4:Hid (RS w Wd.drew w.heap.size b off x y z):=Lq7 (H2.out.later (bRf _ _).drew);clear H2;refine Bm (.s 0 (.s 1 (.s 2 (.s 3 (.s 4 (.s 5 (.s 6 (.s 7 (.s 8 (.h 9 (.h 10 (.s 11 (.s 12 (.h 13 (.s 14 .nil))))))))))))))) 99 (fun W'=>R3 W' b off x y z) H4.out.three ?_;generalize Wd.drew=We at H4 |-;refine Aw (A (J ⟨b,off,G⟩) 3 cT) ?_;refine Aw (L (J ⟨b,off,G⟩)) ?_;refine Bp (C x) (fun W' hS=>?_) ?_
    ·obtain⟨z0,z1,z2⟩:=hS;go_simp
    refine Aw (A (J ⟨b,off,G⟩) 3 cT) ?_;refine Aw (L (J ⟨b,off+1,G⟩)) ?_;refine Bp (C y) (fun W' hS=>?_) ?_
    ·obtain⟨z0,z1,z2⟩:=hS;go_simp
    refine Aw (A (J ⟨b,off,G⟩) 3 cT) ?_;refine Aw (L (J ⟨b,off+2,G⟩)) ?_;refine Bp (C z) (fun W' hS=>?_) ?_
    ·obtain⟨z0,z1,z2⟩:=hS;go_simp
    refine Ae rfl (fun K9 hK9=>?_);go_wp2_with fail;refine(bB.out _ H4.out.std).mono ?_;rintro e w2 ⟨rfl,bD⟩;have H5:=Lq7 (H4.out.later bD);clear bD H4;go_wp2_with fail;refine hK9 _ _ (fun _=>H5.out.three) ?_;(try simp only[gX,aP]);refine Ae rfl (fun K10 aH=>?_);go_wp2_with fail;refine(E3 R _ bC).mono ?_;rintro e w9 h9;rw[<-aJ.out] at h9;have H6:=Lq7 (H5.out.later h9.1);obtain⟨k9,n9,s9,bE,bG,bH,a29,bI,bJ,m9,rfl,bL,bM,bN⟩:=H5.out.box.fin h9;have aR:=Lq7 (aIn bL (aIn bM bN));clear h9 bM bN bL H5;go_wp2_with fail;refine aH _ _ (fun _=>H6.out.three) ?_;(try simp only[gX,aP]);refine Aw (.agg #[D E k9,D E n9,C s9,A bE bG bH,A a29 bI bJ]) ?_;refine Aw (D E m9) ?_;obtain⟨p0,p1,p2,p3,p4,p5,p6,p7,p8,p9,aC⟩:=Aa aR.out.1;refine Ae rfl (fun KS hKS=>?_);go_wp2_with fail;refine hKS _ _ (fun _=>((((H6.out.three.set hne.out 0 _).set hne.out 1 _).set hne.out 2 _).set hne.out 3 _).set hne.out 4 _) ?_;generalize wsC _ _ _=W9 at aR |-;clear p0 p1 p2 p3 p4 p5 p6 p7 p8 p9 aC;(try simp only[gX,aP]);refine Aw (D E m9) ?_;refine A2 ?_;(try simp only[gX,aP]);go_wp2_with fail;obtain⟨p0,p1,p2,p3,p4,p5,p6,p7,p8,p9,aC⟩:=Aa aR.out.2.2;exact bodyPost_ret (v:=.tuple #[.agg #[D E k9,D E n9,C s9,A bE bG bH,A a29 bI bJ],D E m9]) (by simp[results,Tryz.results275,go_sem,p1,p2,p3,p4,p5]) rfl aR.out.2.1
theorem in1_any(x a)(hx:Ay x)(F x1 e1 x2 e2 a1 c1 a2 c2 ab w)(hr1:Ac F w x1 (Ar x.items))(hr2:Ac F w x2 (Bn x.keys))(hg1:Ac F w a1 (Ar a.items))(hg2:Ac F w a2 (Bn a.keys))(ha:w.heap[ab]? = J (I #[D E a.kind,D E a.num,C a.str,A a1 a.items.length c1,A a2 a.keys.length c2] 53 (0,0))):
  Calls Tryz.prog 215 #[A4 x.kind x.num x.str x1 x.items.length e1 x2 x.keys.length e2,L (J ⟨ab,0,G⟩)] w (Sv (sameV x a) w):=by
 unfold A4;have hb:Below w.heap.size w (w.alloc (I #[D E x.kind,D E x.num,C x.str,A x1 x.items.length e1,A x2 x.keys.length e2] 53)):=(bRf _ w).alloc (nlr _) _;have HS:=Lq7 (Sx x hx a F x1 e1 x2 e2 a1 c1 a2 c2 _ (hr1.below hb) (hr2.below hb) (hg1.below hb) (hg2.below hb));have Hb:=Lq7 hb;obtain⟨q0,q1,q2,q3,q4,q5,-⟩:=Aa ha;generalize sameV x a=r at HS |-;go_enter Tryz.func215,Tryz.ntmps215;go_wp2_with fail;refine HS.out.mono ?_;rintro e w1 ⟨rfl,aA⟩;have H1:=Lq7 (Hb.out.trans (aA.mono Hb.out.size));go_wp2_with fail;go_ret;exact⟨rfl,H1.out⟩
theorem Aan(l:List Vl)(p:Vl->Bool)(R:World->Prop)(e:Ending)(w:World)(h:Xo (fun k=>match l[k]? with|some x=>p x|none=>false) l.length (fun _ W=>R W) e w):e = .returned (.bool (l.any p))/\R w:=by
 rcases h with⟨i,hi,hq,-,rfl,hR⟩|⟨hq,rfl,hR⟩
 ·refine⟨?_,hR⟩;have h1:p l[i]=true:=by
   have h2:=hq;simp only[lgE hi] at h2;exact h2
  have h3:l.any p=true:=List.any_eq_true.2 ⟨_,List.getElem_mem hi,h1⟩;rw[h3]
 ·refine⟨?_,hR⟩;have h3:l.any p=false:=by
   rw[List.any_eq_false];intro x hx;obtain⟨j,hj,rfl⟩:=List.getElem_of_mem hx;have h2:=hq j hj;simp only[lgE hj] at h2
   simpa using h2
  rw[h3]
theorem in_list(k n n' s s' l l' ks ks')(hs':Ay (.mk 4 n' s' l' ks'))(F a1 c1 a2 c2 a3 c3 a4 c4 w)(hr1:Ac F w a1 (Ar l))(hr2:Ac F w a2 (Bn ks))(hr3:Ac F w a3 (Ar l')):
  Calls Tryz.prog 195 #[A4 k n s a1 l.length c1 a2 ks.length c2,A4 4 n' s' a3 l'.length c3 a4 ks'.length c4] w (Ck (.ok (truthL (l'.any fun x=>sameV x (.mk k n s l ks)))) w):=by
 unfold A4;obtain⟨h1,h2,h3,h4,h5⟩:=Gg w (I #[D E k,D E n,C s,A a1 l.length c1,A a2 ks.length c2] 53) (I #[D E 4,D E n',C s',A a3 l'.length c3,A a4 ks'.length c4] 53) (I #[D E 0,D E 0,C ⟨#[]⟩,A G 0 0,A G 0 0] 53);rw[Ay] at hs';generalize hW:((w.alloc (I #[D E k,D E n,C s,A a1 l.length c1,A a2 ks.length c2] 53)).alloc (I #[D E 4,D E n',C s',A a3 l'.length c3,A a4 ks'.length c4] 53)).alloc (I #[D E 0,D E 0,C ⟨#[]⟩,A G 0 0,A G 0 0] 53)=W0 at h1 h2 h3 h4 h5;have HW:=Lq7 hW;clear hW;have HC:Hid (Calls Tryz.prog 197 #[A a3 l'.length c3,.func (.func 215) #[] #[L (J ⟨w.heap.size,0,G⟩)]] W0 (Xo (fun j=>match l'[j]? with|some x=>sameV x (.mk k n s l ks)|none=>false) l'.length (fun _ W=>Below W0.heap.size W0 W))):=Lq7
  (I2 F 215 #[] #[L (J ⟨w.heap.size,0,G⟩)] (enters_of Tryz.func215 (by kernel_rfl) rfl) a3 c3 l' _ _ W0 (by omega) (bRf _ _) (fun j W h=>(hr3.below h4).below h) (fun j kk m t y ys x1 e1 x2 e2 w1 hj hI _ hx1 hx2=>by
   have h:=in1_any (.mk kk m t y ys) (.mk k n s l ks) (smallVs_mem hs'.2.2.2.2 (lgM hj)) F x1 e1 x2 e2 a1 c1 a2 c2 w.heap.size w1 hx1 hx2 ((hr1.below h4).below hI) ((hr2.below h4).below hI) (stays h1 hI);refine h.mono ?_;rintro e w2 ⟨rfl,hb⟩;refine⟨?_,hI.trans (hb.mono hI.size)⟩;show _=Ending.returned (.bool (match l'[j]? with|some x=>sameV x (.mk k n s l ks)|none=>false));rw[hj]))
 have H2:=Lq7 h2;have HQ:Hid (QB w W0 (w.heap.size+1+1)):=Lq7 ⟨h4,h3,by omega⟩;clear h1 h2 h3 h4 h5 hr1 hr2 hr3 hs';generalize hR:(l'.any fun x=>sameV x (.mk k n s l ks))=R;have HR:=Lq7 hR;clear hR;go_enter Tryz.func195,Tryz.ntmps195;go_wp2_with fail;rw[HW.out];refine HC.out.mono ?_;intro e w1 hq;obtain⟨rfl,aA⟩:=Aan l' (fun x=>sameV x (.mk k n s l ks)) _ e w1 hq;rw[HR.out];have HQ1:=Lq7 (HQ.out.later aA);clear hq aA HC HQ HW H2 HR;go_wp2_with fail;refine(Jo R _).mono ?_;intro e w2 h9;obtain⟨k9,n9,s9,a19,l19,c19,a29,l29,c29,m9,rfl,aC,aD,aE⟩:=HQ1.out.fin h9;clear h9;have aB:=Lq7 (aIn aD aE);obtain⟨p0,p1,p2,p3,p4,p5,p6,p7,p8,p9,aF⟩:=Aa aC;clear aD aE aC;go_wp2_with fail;generalize wsC _ _ _=W9 at aB |-;clear p0 p1 p2 p3 p4 p5 p6 p7 p8 p9 aF;obtain⟨p0,p1,p2,p3,p4,p5,p6,p7,p8,p9,aF⟩:=Aa aB.out.2;exact bodyPost_ret (v:=.tuple #[.agg #[D E k9,D E n9,C s9,A a19 l19 c19,A a29 l29 c29],D E m9]) (by simp[results,Tryz.results195,go_sem,p1,p2,p3,p4,p5]) rfl aB.out.1
theorem Nu(F a c ks x w)(hl:ks.length<=140737488355328)(hr:Ac F w a (Bn ks)):
  Calls Tryz.prog 88 #[A a ks.length c,C x] w (fun e w'=>e = .returned (.bool (Lib.containsS ks x))/\w'=w):=by
 cases ks with
 | nil=>exact Tryz.slices_Contains_string_empty a c x w
 | cons k t=>
  obtain⟨b,off,rfl,-⟩:=hr.strs.at (show 0<(k::t).length by simp);have h:=Tryz.slices_Contains_string b off (k::t).length c (k::t) x w (nlr _) (by omega) (fun j hj=>by
   obtain⟨b',off',he,hc⟩:=hr.strs.at hj;cases he;rw[hc,List.getD_eq_getElem?_getD,lgE hj];rfl)
  rw[ltL (nlr _)] at h;exact h
theorem in_dict(n n' s s' m m' p ks' F)(hl:ks'.length<=140737488355328)(a1 c1 a2 c2 a3 c3 a4 c4 w)(hr4:Ac F w a4 (Bn ks')):
  Calls Tryz.prog 195 #[A4 3 n s a1 m c1 a2 p c2,A4 5 n' s' a3 m' c3 a4 ks'.length c4] w (Ck (.ok (truthL (Lib.containsS ks' s))) w):=by
 unfold A4;obtain⟨h1,h2,h3,h4,h5⟩:=Gg w (I #[D E 3,D E n,C s,A a1 m c1,A a2 p c2] 53) (I #[D E 5,D E n',C s',A a3 m' c3,A a4 ks'.length c4] 53) (I #[D E 0,D E 0,C ⟨#[]⟩,A G 0 0,A G 0 0] 53);generalize hW:((w.alloc (I #[D E 3,D E n,C s,A a1 m c1,A a2 p c2] 53)).alloc (I #[D E 5,D E n',C s',A a3 m' c3,A a4 ks'.length c4] 53)).alloc (I #[D E 0,D E 0,C ⟨#[]⟩,A G 0 0,A G 0 0] 53)=W0 at h1 h2 h3 h4 h5;have HW:=Lq7 hW;clear hW;have HC:=Lq7 (Nu F a4 c4 ks' s W0 hl (hr4.below h4));have HQ:Hid (QB w W0 (w.heap.size+1+1)):=Lq7 ⟨h4,h3,by omega⟩;clear h1 h2 h3 h4 h5 hr4 hl;generalize Lib.containsS ks' s=R at HC |-;go_enter Tryz.func195,Tryz.ntmps195;go_wp2_with fail;rw[HW.out];refine HC.out.mono ?_;rintro e w1 ⟨rfl,hw⟩;have hw:=hw.symm;subst hw;clear HC HW;go_wp2_with fail;refine(Jo R _).mono ?_;intro e w2 h9;obtain⟨k9,n9,s9,aF,aG,aH,a29,aJ,aM,m9,rfl,aB,aC,aD⟩:=HQ.out.fin h9;clear h9;have aA:=Lq7 (aIn aC aD);obtain⟨p0,p1,p2,p3,p4,p5,p6,p7,p8,p9,aE⟩:=Aa aB;clear aC aD aB;go_wp2_with fail;generalize wsC _ _ _=W9 at aA |-;clear p0 p1 p2 p3 p4 p5 p6 p7 p8 p9 aE;obtain⟨p0,p1,p2,p3,p4,p5,p6,p7,p8,p9,aE⟩:=Aa aA.out.2;exact bodyPost_ret (v:=.tuple #[.agg #[D E k9,D E n9,C s9,A aF aG aH,A a29 aJ aM],D E m9]) (by simp[results,Tryz.results195,go_sem,p1,p2,p3,p4,p5]) rfl aA.out.1
theorem in_str(n n':Int)(s s':ByteArray)(m m' p:Nat)(ks':List ByteArray)(hz:s'.size<4294967281)(a1:Option Addr)(c1:Nat)(a2:Option Addr)(c2:Nat)(a3:Option Addr)(c3:Nat)(a4:Option Addr)(c4:Nat)(w:World)(hB:StdB w):
  Calls Tryz.prog 195 #[A4 3 n s a1 m c1 a2 p c2,A4 3 n' s' a3 m' c3 a4 ks'.length c4] w (Ck (.ok (truthL (Lib.contains s'.data.toList s.data.toList))) w):=by
 unfold A4;obtain⟨h1,h2,h3,h4,h5⟩:=Gg w (I #[D E 3,D E n,C s,A a1 m c1,A a2 p c2] 53) (I #[D E 3,D E n',C s',A a3 m' c3,A a4 ks'.length c4] 53) (I #[D E 0,D E 0,C ⟨#[]⟩,A G 0 0,A G 0 0] 53);generalize hW:((w.alloc (I #[D E 3,D E n,C s,A a1 m c1,A a2 p c2] 53)).alloc (I #[D E 3,D E n',C s',A a3 m' c3,A a4 ks'.length c4] 53)).alloc (I #[D E 0,D E 0,C ⟨#[]⟩,A G 0 0,A G 0 0] 53)=W0 at h1 h2 h3 h4 h5;have HW:=Lq7 hW;clear hW;obtain⟨mx,aN⟩:=hB.below h4;have HC:=Lq7 (Tryz.strings_Contains s' s mx W0 hz aN);have HQ:Hid (QB w W0 (w.heap.size+1+1)):=Lq7 ⟨h4,h3,by omega⟩;clear h1 h2 h3 h4 h5 hB aN hz;generalize Lib.contains s'.data.toList s.data.toList=R at HC |-;go_enter Tryz.func195,Tryz.ntmps195;go_wp2_with fail;rw[HW.out];refine HC.out.mono ?_;rintro e w1 ⟨rfl,hw⟩;have hw:=hw.symm;subst hw;clear HC HW;go_wp2_with fail;refine(Jo R _).mono ?_;intro e w2 h9;obtain⟨k9,n9,s9,aF,aG,aH,a29,aJ,aM,m9,rfl,aB,aC,aD⟩:=HQ.out.fin h9;clear h9;have aA:=Lq7 (aIn aC aD);obtain⟨p0,p1,p2,p3,p4,p5,p6,p7,p8,p9,aE⟩:=Aa aB;clear aC aD aB;go_wp2_with fail;generalize wsC _ _ _=W9 at aA |-;clear p0 p1 p2 p3 p4 p5 p6 p7 p8 p9 aE;obtain⟨p0,p1,p2,p3,p4,p5,p6,p7,p8,p9,aE⟩:=Aa aA.out.2;exact bodyPost_ret (v:=.tuple #[.agg #[D E k9,D E n9,C s9,A aF aG aH,A a29 aJ aM],D E m9]) (by simp[results,Tryz.results195,go_sem,p1,p2,p3,p4,p5]) rfl aA.out.1
theorem in_bad(k k' n n':Int)(s s':ByteArray)(m m' p:Nat)(ks':List ByteArray)(h4:¬k'=4)(h5:k'=5->¬k=3)(h3:k'=3->¬k=3)(a1:Option Addr)(c1:Nat)(a2:Option Addr)(c2:Nat)(a3:Option Addr)(c3:Nat)(a4:Option Addr)(c4:Nat)(w:World):
  Calls Tryz.prog 195 #[A4 k n s a1 m c1 a2 p c2,A4 k' n' s' a3 m' c3 a4 ks'.length c4] w (Ck (.error 9) w):=by
 unfold A4;have Hb:=Lq7 (F2 w);have e4:(k'==4)=false:=(by simpa using h4);by_cases hk5:k'=5
 ·subst hk5;have e3:(k==3)=false:=(by simpa using h5 rfl);go_enter Tryz.func195,Tryz.ntmps195;go_wp2_with fail;refine bodyPost_ret (v:=.tuple #[.agg #[D E 0,D E 0,C ⟨#[]⟩,A G 0 0,A G 0 0],D E 9]) (by simp[results,Tryz.results195,go_sem]) rfl ?_;exact⟨Hb.out _ _ _,rfl⟩
 ·have e5:(k'==5)=false:=(by simpa using hk5);by_cases hk3:k'=3
  ·subst hk3;have e3:(k==3)=false:=(by simpa using h3 rfl);go_enter Tryz.func195,Tryz.ntmps195;go_wp2_with fail;refine bodyPost_ret (v:=.tuple #[.agg #[D E 0,D E 0,C ⟨#[]⟩,A G 0 0,A G 0 0],D E 9]) (by simp[results,Tryz.results195,go_sem]) rfl ?_;exact⟨Hb.out _ _ _,rfl⟩
  ·have e6:(k'==3)=false:=(by simpa using hk3);go_enter Tryz.func195,Tryz.ntmps195;go_wp2_with fail;refine bodyPost_ret (v:=.tuple #[.agg #[D E 0,D E 0,C ⟨#[]⟩,A G 0 0,A G 0 0],D E 9]) (by simp[results,Tryz.results195,go_sem]) rfl ?_;exact⟨Hb.out _ _ _,rfl⟩
end Go.Proofs.YtlbbbapiklendaaGreatDoor
