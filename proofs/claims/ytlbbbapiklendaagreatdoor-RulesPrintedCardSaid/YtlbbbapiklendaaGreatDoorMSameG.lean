/-
  The walk of value.Same:are two values the same? (And what it stands on.)
-/
import Derived.Deep.DeepCutAuto
import Derived.Deep.CutBlock
import Derived.StillTailTactics
import Derived.Test.YtlbbbapiklendaaGreatDoorMOwnLow
import Derived.Test.YtlbbbapiklendaaGreatDoorMRegionHeldD
namespace Go.Proofs.YtlbbbapiklendaaGreatDoor
open Go.IntKind renaming i64->C
open Go.Value renaming int->B,string->D,slice->A,pointer->I,bool->L
open Go.Obj renaming cells->E
open Option renaming some->J,none->K
open Go Go.RowKit
open List renaming mem_of_getElem? -> lgM,getElem?_eq_getElem->lgE,length_map->lnM,length_take->lnT,getElem?_map->lgP
open Nat renaming le_refl->nlr,lt_of_lt_of_le->nll,le_trans->nlt,zero_le->nlz
open Go.Lib renaming hid->Lq7,toList_data->Lq8
open Go.Act renaming put->aP
open _root_.Array renaming getElem?_eq_some_iff->agS
open And renaming intro->aIn
open Go.RowKit.Below renaming refl->bRf
open Bool renaming and_eq_true->bAt
set_option maxRecDepth 100000
set_option maxHeartbeats 16000000
def PMay(r:Bool×Int)(lb:Nat)(w:World)(e:Ending)(w':World):Prop:=e = .returned (L r.1)/\w.grownBy w' (J lb)/\w'.heap[lb]? = J (E #[B C r.2] 3 (0,0))
mutual
def Ay:Vl->Prop
 | .mk _ n s l ks=>(s.size<=9223372036854775807/\inR n=true)/\l.length<=140737488355328/\ks.length<=140737488355328/\(∀s∈ks,s.size<=9223372036854775807)/\B6 l
def B6:List Vl->Prop
 | []=>True
 | v::t=>Ay v/\B6 t
end
theorem smallVs_mem:∀{l:List Vl} {x:Vl},B6 l->x∈l->Ay x
 | _::_,_,h,.head _=>h.1
 | _::_,_,h,.tail _ hm=>smallVs_mem h.2 hm
def MayC(v:Vl):Prop:=∀(F:Nat->Prop) (d m:Int) (lb:Nat) (a1:Option Addr) (c1:Nat) (a2:Option Addr) (c2:Nat) (w:World),(∀b,F b->b≠lb)->1<=d->d<=61->0<=m->m<=20000->w.heap[lb]? = J (E #[B C m] 3 (0,0)) ->
 Ac F w a1 (Ar v.items)->Ac F w a2 (Bn v.keys)->Calls Tryz.prog 164 #[A4 v.kind v.num v.str a1 v.items.length c1 a2 v.keys.length c2,B C d,I (J ⟨lb,0,K⟩)] w (PMay (mayV v d m) lb w)
def PMay1(r:Bool×Int)(lb:Nat)(w:World)(e:Ending)(w':World):Prop:=e = .returned (L (!r.1))/\w.grownBy w' (J lb)/\w'.heap[lb]? = J (E #[B C r.2] 3 (0,0))
theorem may1_any(v)(hv:MayC v)(F d m lb bd bt a1 c1 a2 c2 w)(hF:∀b,F b->b≠lb)(hd0:1<=d)(hd1:d<=60)(hm0:0<=m)(hm1:m<=20000)(hl:w.heap[lb]? = J (E #[B C m] 3 (0,0)))(hd:w.heap[bd]? = J (E #[B C d] 3 (0,0)))(ht:w.heap[bt]? = J (E #[I (J ⟨lb,0,K⟩)] 206 (0,0)))(hr1:Ac F w a1 (Ar v.items))(hr2:Ac F w a2 (Bn v.keys)):
  Calls Tryz.prog 198 #[A4 v.kind v.num v.str a1 v.items.length c1 a2 v.keys.length c2,I (J ⟨bd,0,K⟩),I (J ⟨bt,0,K⟩)] w (PMay1 (mayV v (d+1) m) lb w):=by
 obtain⟨d0,d1⟩:=Bj hd;obtain⟨p0,p1⟩:=Bj ht;have aC:Below w.heap.size w (w.alloc (E #[B C v.kind,B C v.num,D v.str,A a1 v.items.length c1,A a2 v.keys.length c2] 53)):=(bRf _ w).alloc (nlr _) _;have Hc:=Lq7 (hv F (d+1) m lb a1 c1 a2 c2 _ hF (by omega) (by omega) hm0 hm1 ((aC.block _ (agS.1 hl).1).trans hl) (hr1.below aC) (hr2.below aC));have aD:=Lq7 aC;unfold A4 at Hc |-;go_enter Tryz.func198,Tryz.ntmps198;go_wp2_with fail;refine Hc.out.mono ?_;rintro e w1 ⟨rfl,hg,hl⟩;have HG:=Lq7 (aIn (Ag (Bc aD.out) hg) hl);go_wp2_with fail;go_ret;exact⟨rfl,HG.out.1,HG.out.2⟩
structure MayW(k n:Int)(s:ByteArray)(a1:Option Addr)(l1 c1:Nat)(a2:Option Addr)(l2 c2:Nat)(d m:Int)(lb:Nat)(w W:World):Prop where
 size:w.heap.size+3<=W.heap.size
 lbl:lb<w.heap.size
 left:W.heap[lb]? = J (E #[B C m] 3 (0,0))
 a:W.heap[w.heap.size]? = J (E #[B C k,B C n,D s,A a1 l1 c1,A a2 l2 c2] 53 (0,0))
 b:W.heap[w.heap.size+1]? = J (E #[B C d] 3 (0,0))
 c:W.heap[w.heap.size+1+1]? = J (E #[I (J ⟨lb,0,K⟩)] 206 (0,0))
 grown:w.grownBy W (J lb)
theorem mayW{k n s a1 l1 c1 a2 l2 c2 d m m' lb w}(hb:w.heap[lb]? = J (E #[B C m] 3 (0,0))):
  MayW k n s a1 l1 c1 a2 l2 c2 d m' lb w ((((w.setCell ⟨lb,0,K⟩ (B C m')).alloc (E #[B C k,B C n,D s,A a1 l1 c1,A a2 l2 c2] 53)).alloc (E #[B C d] 3)).alloc (E #[I (J ⟨lb,0,K⟩)] 206)):=by
 have aM:=(agS.1 hb).1;have hsz:(w.setCell ⟨lb,0,K⟩ (B C m')).heap.size=w.heap.size:=(by simp);have h0:=Af hb 0 (B C m');generalize hw1:w.setCell ⟨lb,0,K⟩ (B C m')=w1 at hsz h0 |-;have hg:w.grownBy w1 (J lb):=(by rw[<-hw1];exact Fb (Dn _ _) 0 _);have hs:w.heap.size=w1.heap.size:=hsz.symm;refine⟨by simp[hs],aM,?_,?_,?_,?_,?_⟩
 ·rw[Below.heap_alloc _ _ _ (by simp;omega),Below.heap_alloc _ _ _ (by simp;omega),Below.heap_alloc _ _ _ (by omega)];exact h0
 ·rw[hs,Below.heap_alloc _ _ _ (by simp;omega),Below.heap_alloc _ _ _ (by simp)];exact heap_alloc_new w1 _
 ·rw[hs,Below.heap_alloc _ _ _ (by simp)];have:=heap_alloc_new (w1.alloc (E #[B C k,B C n,D s,A a1 l1 c1,A a2 l2 c2] 53)) (E #[B C d] 3)
  simpa using this
 ·rw[hs];have:=heap_alloc_new ((w1.alloc (E #[B C k,B C n,D s,A a1 l1 c1,A a2 l2 c2] 53)).alloc (E #[B C d] 3)) (E #[I (J ⟨lb,0,K⟩)] 206)
  simpa using this
 ·exact Fq (Fq (Fq hg _) _) _
theorem MayW.below{k n s a1 l1 c1 a2 l2 c2 d m lb w W W'}(h:MayW k n s a1 l1 c1 a2 l2 c2 d m lb w W)(hb:Below W.heap.size W W'):MayW k n s a1 l1 c1 a2 l2 c2 d m lb w W':=by
 have hs:=h.size;have hl:=h.lbl;exact⟨nlt hs hb.size,hl,(hb.block _ (by omega)).trans h.left,(hb.block _ (by omega)).trans h.a,(hb.block _ (by omega)).trans h.b,(hb.block _ (by omega)).trans h.c,Ag h.grown (Bc hb)⟩
theorem Fd{α:Type}(l:List α):l.isEmpty=(((0:Nat):Int)==(l.length:Int)):=by cases l<;>simp;omega
theorem Jf(s:ByteArray):s.toList.isEmpty=((⟨#[]⟩:ByteArray).toList==s.toList):=by
 rw[Lq8,Lq8];cases s.data.toList<;>rfl
theorem str_self(s:ByteArray):(s.toList==s.toList)=true:=beq_self_eq_true _
theorem nodeOk0(n s l ks):Bz 0 n s l ks=(true&&((0:Int)==n)&&((⟨#[]⟩:ByteArray).toList==s.toList)&&(((0:Nat):Int)==(l.length:Int))&&(((0:Nat):Int)==(ks.length:Int))):=by
 rw[<-Fd,<-Fd,<-Jf];unfold Bz;rw[if_pos rfl,Bool.true_and,Bool.beq_comm (a:=n)]
theorem Zp(n s l ks):Bz 1 n s l ks=((n==0||n==1)&&(n==n)&&((⟨#[]⟩:ByteArray).toList==s.toList)&&(((0:Nat):Int)==(l.length:Int))&&(((0:Nat):Int)==(ks.length:Int))):=by
 rw[<-Fd,<-Fd,<-Jf];unfold Bz;rw[if_neg (by decide),if_pos rfl,beq_self_eq_true,Bool.and_true]
theorem nodeOk2(n s l ks)(h:inR n=true):Bz 2 n s l ks=(true&&(n==n)&&((⟨#[]⟩:ByteArray).toList==s.toList)&&(((0:Nat):Int)==(l.length:Int))&&(((0:Nat):Int)==(ks.length:Int))):=by
 rw[<-Fd,<-Fd,<-Jf];unfold Bz;rw[if_neg (by decide),if_neg (by decide),if_pos rfl,beq_self_eq_true,Bool.true_and,h]
theorem nodeOk3(n s l ks):Bz 3 n s l ks=(decide (s.size<=65536)&&((0:Int)==n)&&(s.toList==s.toList)&&(((0:Nat):Int)==(l.length:Int))&&(((0:Nat):Int)==(ks.length:Int))):=by
 rw[<-Fd,<-Fd,str_self];unfold Bz;rw[if_neg (by decide),if_neg (by decide),if_neg (by decide),if_pos rfl,Bool.and_true,Bool.beq_comm (a:=n),Bool.and_comm ((0:Int)==n)]
theorem nodeOk4(n s l ks):Bz 4 n s l ks=(decide (l.length<=1000)&&((0:Int)==n)&&((⟨#[]⟩:ByteArray).toList==s.toList)&&((l.length:Int)==(l.length:Int))&&(((0:Nat):Int)==(ks.length:Int))):=by
 rw[<-Fd,<-Jf,beq_self_eq_true];unfold Bz;rw[if_neg (by decide),if_neg (by decide),if_neg (by decide),if_neg (by decide),if_pos rfl,Bool.and_true,Bool.beq_comm (a:=n)];cases ((0:Int)==n)<;>cases s.toList.isEmpty<;>cases decide (l.length<=1000)<;>rfl
theorem Zq(n s l ks):Bz 5 n s l ks=(((l.length==ks.length)&&risesL ks)&&((0:Int)==n)&&((⟨#[]⟩:ByteArray).toList==s.toList)&&((l.length:Int)==(l.length:Int))&&((ks.length:Int)==(ks.length:Int))):=by
 rw[<-Jf,beq_self_eq_true,beq_self_eq_true];unfold Bz;rw[if_neg (by decide),if_neg (by decide),if_neg (by decide),if_neg (by decide),if_neg (by decide),if_pos rfl,Bool.and_true,Bool.and_true,Bool.beq_comm (a:=n)];cases ((0:Int)==n)<;>cases s.toList.isEmpty<;>cases (l.length==ks.length)<;>cases risesL ks<;>rfl
theorem nodeOkx{k}(n s l ks)(h:k≠0/\k≠1/\k≠2/\k≠3/\k≠4/\k≠5):Bz k n s l ks=false:=by
 unfold Bz;rw[if_neg h.1,if_neg h.2.1,if_neg h.2.2.1,if_neg h.2.2.2.1,if_neg h.2.2.2.2.1,if_neg h.2.2.2.2.2]
theorem may_node(k n s l ks F d m lb a1 c1 a2 c2 w)(hd0:1<=d)(hd1:d<=61)(hm0:0<=m)(hm1:m<=20000)(hb:w.heap[lb]? = J (E #[B C m] 3 (0,0)))(hr1:Ac F w a1 (Ar l))(hr2:Ac F w a2 (Bn ks))(hF:∀b,F b->b≠lb)(hll:l.length<=140737488355328)(hkl:ks.length<=140737488355328)(hks:∀s∈ks,s.size<=9223372036854775807)(hsl:s.size<=9223372036854775807)(hit:∀x∈l,MayC x)(hin:inR n=true):
  Calls Tryz.prog 164 #[A4 k n s a1 l.length c1 a2 ks.length c2,B C d,I (J ⟨lb,0,K⟩)] w (PMay (mayV (.mk k n s l ks) d m) lb w):=by
 obtain⟨aM,hc,hf⟩:=Ao hb;have q0:=hc 0;have z0:=hf 0;simp at q0;have Hb:=Lq7 hb;have Hks:=Lq7 hks;have HF:=Lq7 hF;have Hit:=Lq7 hit;have HIn:=Lq7 hin;clear hc hf hb hks hF hit hin;have g1:lb<w.heap.size+1:=(by omega);have g2:lb<w.heap.size+1+1:=(by omega);have g3:lb<w.heap.size+1+1+1:=(by omega);unfold A4;go_enter Tryz.func164,Tryz.ntmps164
 go_upto_region 2 with fail
 have HW:=Lq7 (mayW (k:=k) (n:=n) (s:=s) (a1:=a1) (l1:=l.length) (c1:=c1) (a2:=a2) (l2:=ks.length) (c2:=c2) (d:=d) (m':=m - 1) Hb.out);generalize hW:World.alloc _ _=W at HW |-;clear hW q0 z0 g1 g2 g3 aM;have Hr1:=Lq7 hr1;have Hr2:=Lq7 hr2;clear hr1 hr2;by_cases hdeep:d>60
 ·have Hr:Hid (mayV (.mk k n s l ks) d m=(false,m - 1)):=Lq7 (by rw[mayV,if_pos (.inl (by omega))]);obtain⟨b0,b1⟩:=Bj HW.out.b;go_wp2;go_ret;rw[Hr.out];exact⟨rfl,HW.out.grown,HW.out.left⟩
 ·by_cases hneg:m - 1<0
  ·have Hr:Hid (mayV (.mk k n s l ks) d m=(false,m - 1)):=Lq7 (by rw[mayV,if_pos (.inr hneg)]);obtain⟨b0,b1⟩:=Bj HW.out.b;obtain⟨p0,p1⟩:=Bj HW.out.c;obtain⟨r0,r1⟩:=Bj HW.out.left;go_wp2;go_ret;rw[Hr.out];exact⟨rfl,HW.out.grown,HW.out.left⟩
  ·have Hr:Hid (mayV (.mk k n s l ks) d m=if Bz k n s l ks=true then Co l (d+1) (m - 1) else(false,m - 1)):=Lq7 (by rw[mayV,if_neg (by omega)]);obtain⟨b0,b1⟩:=Bj HW.out.b;obtain⟨p0,p1⟩:=Bj HW.out.c;obtain⟨r0,r1⟩:=Bj HW.out.left;obtain⟨t0,t1,t2,t3,t4,t5,t6,t7,t8,t9,aQ⟩:=Aa HW.out.a;have HU:=Lq7 ((bRf _ W).alloc (nlr _) (E #[B C k,B C 0,D ⟨#[]⟩,A K 0 0,A K 0 0] 53))
   go_upto_block 0 with fail
   clear b0 b1 p0 p1 r0 r1
   go_cut [8] from 27 (fun rv wc=>∃(rt:Bool) (bn:Int) (bs:ByteArray) (a3:Option Addr) (l3 c3:Nat) (a4:Option Addr) (l4 c4:Nat),rv = L rt/\Hid (wc.heap[W.heap.size]? = J (E #[B C k,B C bn,D bs,A a3 l3 c3,A a4 l4 c4] 53 (0,0))/\Below W.heap.size W wc /\
    Bz k n s l ks=(rt&&(bn==n)&&(bs.toList==s.toList)&&((l3:Int)==(l.length:Int))&&((l4:Int)==(ks.length:Int)))))
   case first=>
    have HA:Hid (True/\∀W',Below W.heap.size W W'->W'.heap[w.heap.size]? = J (E #[B C k,B C n,D s,A a1 l.length c1,A a2 ks.length c2] 53 (0,0))):=Lq7 ⟨trivial,fun W' hb=>(hb.block _ (by have:=HW.out.size;omega)).trans HW.out.a⟩;have HS2:Hid (∀W',Below W.heap.size W W'->Dx W' a2 ks):=Lq7 (fun W' hb=>((Hr2.out.mono (w':=W') (G:=fun _=>True) fun b hF hl=>⟨trivial,by have:=HW.out.grown.size;have:=hb.size;omega,(hb.block b (by have:=HW.out.grown.size;omega)).trans (HW.out.grown.block b hl (fun e=>by cases e;exact HF.out _ hF rfl))⟩).strs));by_cases h0:k=0
    ·subst h0;go_wp2_with fail;go_meet
     case rel=>exact⟨true,0,⟨#[]⟩,K,0,0,K,0,0,rfl,Lq7 ⟨heap_alloc_new W _,HU.out,nodeOk0 n s l ks⟩⟩
    ·
     by_cases h1:k=1
     ·subst h1;cases hn:(n==0)
      ·go_wp2_with fail;refine Bm (.s 0 (.s 1 (.s 2 (.s 3 (.s 4 (.s 5 (.s 6 (.s 7 (.s 8 (.s 9 (.s 10 (.h 11 (.s 12 .nil))))))))))))) 99 (fun W'=>W'.heap[w.heap.size]? = J (E #[B C 1,B C n,D s,A a1 l.length c1,A a2 ks.length c2] 53 (0,0))) (HA.out.2 _ HU.out.drew) ?_;refine A9 (I (J ⟨w.heap.size,1,K⟩)) ?_;refine A9 (B C n) ?_;refine A9 (I (J ⟨w.heap.size,1,K⟩)) ?_;refine A9 (B C n) ?_;refine A9 (L false) ?_;refine A9 (L false) ?_;refine A9 (I (J ⟨w.heap.size,1,K⟩)) ?_;refine A9 (B C n) ?_;refine A9 (L (n==1)) ?_;refine A9 (L (n==1)) ?_;refine A9 (I (J ⟨W.heap.size,1,K⟩)) ?_;refine Ae rfl (fun Kx aA=>?_);go_wp2_with fail;refine aA _ _ (fun _=>HA.out.2 _ (by first|exact HU.out.drew|exact((bRf _ W).alloc (nlr _) _).drew)) ?_;skip;refine A9 (L (n==1)) ?_;refine A2 ?_;go_wp2_with fail;go_meet
       case rel=>exact⟨(n==1),n,⟨#[]⟩,K,0,0,K,0,0,rfl,Lq7 ⟨heap_alloc_new W _,((bRf _ W).alloc (nlr _) _).drew,(by have h:=Zp n s l ks;rw[hn,Bool.false_or] at h;exact h)⟩⟩
      ·go_wp2_with fail;refine Bm (.s 0 (.s 1 (.s 2 (.s 3 (.s 4 (.s 5 (.s 6 (.s 7 (.s 8 (.s 9 (.s 10 (.h 11 (.s 12 .nil))))))))))))) 99 (fun W'=>W'.heap[w.heap.size]? = J (E #[B C 1,B C n,D s,A a1 l.length c1,A a2 ks.length c2] 53 (0,0))) (HA.out.2 _ HU.out.drew) ?_;refine A9 (I (J ⟨w.heap.size,1,K⟩)) ?_;refine A9 (B C n) ?_;refine A9 (I (J ⟨w.heap.size,1,K⟩)) ?_;refine A9 (B C n) ?_;refine A9 (L true) ?_;refine A9 (L true) ?_;refine Ik rfl rfl ?_;simp only[gX,aP];refine Ik rfl rfl ?_;simp only[gX,aP];refine Ik rfl rfl ?_;simp only[gX,aP];refine A9 (L true) ?_;refine A9 (I (J ⟨W.heap.size,1,K⟩)) ?_;refine Ae rfl (fun Kx aA=>?_);go_wp2_with fail;refine aA _ _ (fun _=>HA.out.2 _ (by first|exact HU.out.drew|exact((bRf _ W).alloc (nlr _) _).drew)) ?_;skip;refine A9 (L true) ?_;refine A2 ?_;go_wp2_with fail;go_meet
       case rel=>exact⟨true,n,⟨#[]⟩,K,0,0,K,0,0,rfl,Lq7 ⟨heap_alloc_new W _,((bRf _ W).alloc (nlr _) _).drew,(by have h:=Zp n s l ks;rw[hn,Bool.true_or] at h;exact h)⟩⟩
     ·
      by_cases h2:k=2
      ·subst h2;go_wp2_with fail;go_meet
       case rel=>exact⟨true,n,⟨#[]⟩,K,0,0,K,0,0,rfl,Lq7 ⟨heap_alloc_new W _,(bRf _ W).alloc (nlr _) _,nodeOk2 n s l ks HIn.out⟩⟩
      ·
       by_cases h3:k=3
       ·subst h3;go_wp2_with fail;refine Bm (.s 0 (.s 1 (.s 2 (.s 3 (.s 4 (.s 5 (.s 6 (.h 7 (.s 8 .nil))))))))) 99 (fun W'=>W'.heap[w.heap.size]? = J (E #[B C 3,B C n,D s,A a1 l.length c1,A a2 ks.length c2] 53 (0,0))) (HA.out.2 _ HU.out.drew) ?_;refine A9 (I (J ⟨w.heap.size,2,K⟩)) ?_;refine A9 (D s) ?_;refine A9 (I (J ⟨w.heap.size,2,K⟩)) ?_;refine A9 (D s) ?_;refine A9 (B C (s.size:Int)) ?_;refine A9 (L (decide ((s.size:Int)<=65536))) ?_;refine A9 (I (J ⟨W.heap.size,2,K⟩)) ?_;refine Ae rfl (fun Kx aA=>?_);go_wp2_with fail;refine aA _ _ (fun _=>HA.out.2 _ (by first|exact HU.out.drew|exact((bRf _ W).alloc (nlr _) _).drew)) ?_;skip;refine A9 (L (decide ((s.size:Int)<=65536))) ?_;refine A2 ?_;go_wp2_with fail;go_meet
        case rel=>exact⟨(decide ((s.size:Int)<=65536)),0,s,K,0,0,K,0,0,rfl,Lq7 ⟨heap_alloc_new W _,((bRf _ W).alloc (nlr _) _).drew,(by have h:=nodeOk3 n s l ks;rw[show decide (s.size<=65536)=decide ((s.size:Int)<=65536) from decide_eq_decide.2 (by omega)] at h;exact h)⟩⟩
       ·
        by_cases h4:k=4
        ·subst h4;go_wp2_with fail;refine Bm (.s 0 (.s 1 (.s 2 (.s 3 (.s 4 (.s 5 (.s 6 (.h 7 (.s 8 .nil))))))))) 99 (fun W'=>W'.heap[w.heap.size]? = J (E #[B C 4,B C n,D s,A a1 l.length c1,A a2 ks.length c2] 53 (0,0))) (HA.out.2 _ HU.out.drew) ?_;refine A9 (I (J ⟨w.heap.size,3,K⟩)) ?_;refine A9 (A a1 l.length c1) ?_;refine A9 (I (J ⟨w.heap.size,3,K⟩)) ?_;refine A9 (A a1 l.length c1) ?_;refine A9 (B C (l.length:Int)) ?_;refine A9 (L (decide ((l.length:Int)<=1000))) ?_;refine A9 (I (J ⟨W.heap.size,3,K⟩)) ?_;refine Ae rfl (fun Kx aA=>?_);go_wp2_with fail;refine aA _ _ (fun _=>HA.out.2 _ (by first|exact HU.out.drew|exact((bRf _ W).alloc (nlr _) _).drew)) ?_;skip;refine A9 (L (decide ((l.length:Int)<=1000))) ?_;refine A2 ?_;go_wp2_with fail;go_meet
         case rel=>exact⟨(decide ((l.length:Int)<=1000)),0,⟨#[]⟩,a1,l.length,c1,K,0,0,rfl,Lq7 ⟨heap_alloc_new W _,((bRf _ W).alloc (nlr _) _).drew,(by have h:=nodeOk4 n s l ks;rw[show decide (l.length<=1000)=decide ((l.length:Int)<=1000) from decide_eq_decide.2 (by omega)] at h;exact h)⟩⟩
        ·
         by_cases h5:k=5
         ·subst h5;by_cases hle:l.length=ks.length
          ·have He:Hid ((l.length==ks.length)=true):=Lq7 (by simp[hle]);have aR:=Lq7 hle;simp only[hle] at HA t4;clear hle;go_wp2_with fail;refine Bm (.s 0 (.s 1 (.s 2 (.s 3 (.s 4 (.s 5 (.s 6 (.s 7 (.s 8 (.s 9 (.s 10 (.s 11 (.s 12 (.s 13 (.s 16 (.h 14 (.s 15 (.h 17 (.s 18 (.h 19 (.s 20 .nil))))))))))))))))))))) 99 (fun W'=>W'.heap[w.heap.size]? = J (E #[B C 5,B C n,D s,A a1 ks.length c1,A a2 ks.length c2] 53 (0,0))) (HA.out.2 _ HU.out.drew) ?_;refine A9 (I (J ⟨w.heap.size,3,K⟩)) ?_;refine A9 (A a1 ks.length c1) ?_;refine A9 (I (J ⟨w.heap.size,4,K⟩)) ?_;refine A9 (A a2 ks.length c2) ?_;refine A9 (I (J ⟨w.heap.size,3,K⟩)) ?_;refine A9 (A a1 ks.length c1) ?_;refine A9 (B C ks.length) ?_;refine A9 (I (J ⟨w.heap.size,4,K⟩)) ?_;refine A9 (A a2 ks.length c2) ?_;refine A9 (B C ks.length) ?_;refine A9 (L true) ?_;refine A9 (L true) ?_;refine A9 (I (J ⟨w.heap.size,4,K⟩)) ?_;refine A9 (A a2 ks.length c2) ?_;refine A9 (I (J ⟨W.heap.size,3,K⟩)) ?_;refine Ae rfl (fun Kx aA=>?_);go_wp2_with fail;refine(Acd a2 c2 ks _ ((HS2.out _ HU.out.drew)) hkl Hks.out).mono ?_;rintro e w1 ⟨rfl,rfl⟩;go_wp2_with fail;refine aA _ _ (fun _=>HA.out.2 _ (by first|exact HU.out.drew|exact((bRf _ W).alloc (nlr _) _).drew)) ?_;skip;refine A9 (L (risesL ks)) ?_;refine Ae rfl (fun Kx aA=>?_);go_wp2_with fail;refine aA _ _ (fun _=>HA.out.2 _ (by first|exact HU.out.drew|exact((bRf _ W).alloc (nlr _) _).drew)) ?_;skip;refine A9 (I (J ⟨W.heap.size,4,K⟩)) ?_;refine Ae rfl (fun Kx aA=>?_);go_wp2_with fail;refine aA _ _ (fun _=>HA.out.2 _ (by first|exact HU.out.drew|exact((bRf _ W).alloc (nlr _) _).drew)) ?_;skip;refine A9 (L (risesL ks)) ?_;refine A2 ?_;go_wp2_with fail;go_meet
           case rel=>exact⟨(risesL ks),0,⟨#[]⟩,a1,ks.length,c1,a2,ks.length,c2,rfl,Lq7 ⟨heap_alloc_new W _,((bRf _ W).alloc (nlr _) _).drew,(by have h:=Zq n s l ks;rw[He.out,Bool.true_and,aR.out] at h;rw[aR.out];exact h)⟩⟩
          ·have he:((l.length:Int)==(ks.length:Int))=false:=(by simp;omega);have He:Hid ((l.length==ks.length)=false):=Lq7 (by simp[hle]);clear hle;go_wp2_with fail;refine Bm (.s 0 (.s 1 (.s 2 (.s 3 (.s 4 (.s 5 (.s 6 (.s 7 (.s 8 (.s 9 (.s 10 (.s 11 (.s 12 (.s 13 (.s 16 (.h 14 (.s 15 (.h 17 (.s 18 (.h 19 (.s 20 .nil))))))))))))))))))))) 99 (fun W'=>W'.heap[w.heap.size]? = J (E #[B C 5,B C n,D s,A a1 l.length c1,A a2 ks.length c2] 53 (0,0))) (HA.out.2 _ HU.out.drew) ?_;refine A9 (I (J ⟨w.heap.size,3,K⟩)) ?_;refine A9 (A a1 l.length c1) ?_;refine A9 (I (J ⟨w.heap.size,4,K⟩)) ?_;refine A9 (A a2 ks.length c2) ?_;refine A9 (I (J ⟨w.heap.size,3,K⟩)) ?_;refine A9 (A a1 l.length c1) ?_;refine A9 (B C l.length) ?_;refine A9 (I (J ⟨w.heap.size,4,K⟩)) ?_;refine A9 (A a2 ks.length c2) ?_;refine A9 (B C ks.length) ?_;refine A9 (L false) ?_;refine A9 (L false) ?_;refine Ik rfl rfl ?_;simp only[gX,aP];refine Ik rfl rfl ?_;simp only[gX,aP];refine A9 (I (J ⟨W.heap.size,3,K⟩)) ?_;refine Ae rfl (fun Kx aA=>?_);go_wp2_with fail;refine aA _ _ (fun _=>HA.out.2 _ (by first|exact HU.out.drew|exact((bRf _ W).alloc (nlr _) _).drew)) ?_;skip;refine A9 (L false) ?_;refine Ae rfl (fun Kx aA=>?_);go_wp2_with fail;refine aA _ _ (fun _=>HA.out.2 _ (by first|exact HU.out.drew|exact((bRf _ W).alloc (nlr _) _).drew)) ?_;skip;refine A9 (I (J ⟨W.heap.size,4,K⟩)) ?_;refine Ae rfl (fun Kx aA=>?_);go_wp2_with fail;refine aA _ _ (fun _=>HA.out.2 _ (by first|exact HU.out.drew|exact((bRf _ W).alloc (nlr _) _).drew)) ?_;skip;refine A9 (L false) ?_;refine A2 ?_;go_wp2_with fail;go_meet
           case rel=>exact⟨false,0,⟨#[]⟩,a1,l.length,c1,a2,ks.length,c2,rfl,Lq7 ⟨heap_alloc_new W _,((bRf _ W).alloc (nlr _) _).drew,(by have h:=Zq n s l ks;rw[He.out,Bool.false_and] at h;exact h)⟩⟩
         ·
          have e0:(k==0)=false:=(by simpa using h0);have e1:(k==1)=false:=(by simpa using h1);have e2:(k==2)=false:=(by simpa using h2);have e3:(k==3)=false:=(by simpa using h3);have e4:(k==4)=false:=(by simpa using h4);have e5:(k==5)=false:=(by simpa using h5);have Hx:Hid (mayV (.mk k n s l ks) d m=(false,m - 1)):=Lq7 (by rw[Hr.out,nodeOkx n s l ks ⟨h0,h1,h2,h3,h4,h5⟩];rfl);clear h0 h1 h2 h3 h4 h5;go_wp2_with fail;go_ret;rw[Hx.out];exact⟨rfl,Ag HW.out.grown (Bc HU.out),(HU.out.block _ (by have:=HW.out.size;have:=HW.out.lbl;omega)).trans HW.out.left⟩
   case rest=>
    obtain⟨rt,bn,bs,a3,l3,c3,a4,l4,c4,hrv,Hc⟩:=hcut;subst hrv;rename World=>wc;have aB:=Lq7 (HW.out.below Hc.out.2.1);have aF:Hid (Bz k n s l ks=false->Hid (mayV (.mk k n s l ks) d m=(false,m - 1))):=Lq7 (fun h=>Lq7 (by rw[Hr.out,h];rfl));clear t0 t1 t2 t3 t4 t5 t6 t7 t8 t9 aQ;obtain⟨t0,t1,t2,t3,t4,t5,t6,t7,t8,t9,aQ⟩:=Aa aB.out.a;obtain⟨u0,u1,u2,u3,u4,u5,u6,u7,u8,u9,u10⟩:=Aa Hc.out.1;cases rt
    ·have h9:Bz k n s l ks=false:=(by rw[Hc.out.2.2];rfl);have Hx:=aF.out h9;clear h9;go_wp2_with fail;go_ret;rw[Hx.out];exact⟨rfl,Ag HW.out.grown (Bc Hc.out.2.1),aB.out.left⟩
    ·cases hn:(bn==n)
     ·have hn':(bn != n)=true:=(by simp[bne,hn]);have h9:Bz k n s l ks=false:=(by rw[Hc.out.2.2,hn];simp);have Hx:=aF.out h9;clear h9;go_wp2_with fail;go_ret;rw[Hx.out];exact⟨rfl,Ag HW.out.grown (Bc Hc.out.2.1),aB.out.left⟩
     ·have hn':(bn != n)=false:=(by simp[bne,hn]);cases hs:(bs.toList==s.toList)
      ·have hs':(bs.toList != s.toList)=true:=(by simp[bne,hs]);have h9:Bz k n s l ks=false:=(by rw[Hc.out.2.2,hs];simp);have Hx:=aF.out h9;clear h9;go_wp2_with fail;go_ret;rw[Hx.out];exact⟨rfl,Ag HW.out.grown (Bc Hc.out.2.1),aB.out.left⟩
      ·have hs':(bs.toList != s.toList)=false:=(by simp[bne,hs]);cases hl3:((l3:Int)==(l.length:Int))
       ·have hl3':((l3:Int) != (l.length:Int))=true:=(by simp[bne,hl3]);have h9:Bz k n s l ks=false:=(by rw[Hc.out.2.2,hl3];simp);have Hx:=aF.out h9;clear h9;go_wp2_with fail;go_ret;rw[Hx.out];exact⟨rfl,Ag HW.out.grown (Bc Hc.out.2.1),aB.out.left⟩
       ·have hl3':((l3:Int) != (l.length:Int))=false:=(by simp[bne,hl3]);cases hl4:((l4:Int)==(ks.length:Int))
        ·have hl4':((l4:Int) != (ks.length:Int))=true:=(by simp[bne,hl4]);have h9:Bz k n s l ks=false:=(by rw[Hc.out.2.2,hl4];simp);have Hx:=aF.out h9;clear h9;go_wp2_with fail;go_ret;rw[Hx.out];exact⟨rfl,Ag HW.out.grown (Bc Hc.out.2.1),aB.out.left⟩
        ·have hl4':((l4:Int) != (ks.length:Int))=false:=(by simp[bne,hl4]);have aG:Hid (mayV (.mk k n s l ks) d m=Co l (d+1) (m - 1)):=Lq7 (by rw[Hr.out,if_pos (by rw[Hc.out.2.2,hn,hs,hl3,hl4];rfl)]);have hmf:∀(fn:Fn) (first cap:Array Value) (w:World),(Instr.makeFunc fn first cap).run Tryz.prog w = .ok (.func fn first cap) w:=fun _ _ _ _=>rfl;have aN:=aB.out.grown;have Hcf:=Lq7 (I2 F 198 #[] #[I (J ⟨w.heap.size+1,0,K⟩),I (J ⟨w.heap.size+1+1,0,K⟩)] (by intro args w;rfl) a1 c1 l (mayQ (d+1) l (m - 1))
          (fun j W'=>wc.grownBy W' (J lb)/\W'.heap[lb]? = J (E #[B C (Es (d+1) l (m - 1) j)] 3 (0,0))) wc (by omega) ⟨Dn _ _,by rw[E4];exact aB.out.left⟩
          (fun j W' h=>Hr1.out.mono (fun b hF hl=>⟨hF,nll hl (Ag aN h.1).size,(Ag aN h.1).block b hl (fun e=>by cases e;exact HF.out _ hF rfl)⟩))
          (fun j kk kn ks' km kks b1 e1 b2 e2 W' hj hI hq hr1 hr2=>by
           have hlo:=R8 (d+1) l (m - 1) j (by omega) (fun i hi hil=>hq i hi);have hsz:=aB.out.size;have hlbl:=aB.out.lbl;have hx:MayC (.mk kk kn ks' km kks):=Hit.out _ (lgM hj);refine(may1_any (.mk kk kn ks' km kks) hx F d (Es (d+1) l (m - 1) j) lb (w.heap.size+1) (w.heap.size+1+1) b1 e1 b2 e2 W' HF.out hd0 (by omega) hlo.1 (by omega) hI.2
            ((hI.1.block _ (by omega) (fun e=>by cases e;omega)).trans aB.out.b) ((hI.1.block _ (by omega) (fun e=>by cases e;omega)).trans aB.out.c) hr1 hr2).mono ?_
           rintro e w2 ⟨rfl,hg2,hl2⟩;have hq':mayQ (d+1) l (m - 1) j = !(mayV (.mk kk kn ks' km kks) (d+1) (Es (d+1) l (m - 1) j)).1:=(by unfold mayQ;rw[hj]);exact⟨by rw[hq'],Ag hI.1 hg2,by rw[Ot _ _ _ _ _ hj];exact hl2⟩))
         clear aN;go_wp2_with fail;refine Hcf.out.mono ?_;rintro e w2 (⟨i,hi,aU,hq,rfl,aH⟩|⟨hq,rfl,aH⟩)
         ·have aE:Hid (mayV (.mk k n s l ks) d m=(false,Es (d+1) l (m - 1) (i+1))):=Lq7 (by rw[aG.out];exact R7 _ _ _ _ hi aU hq);have aJ:=Lq7 aH;clear hi aU hq aH;go_wp2_with fail;go_ret;rw[aE.out];exact⟨rfl,Ag aB.out.grown aJ.out.1,aJ.out.2⟩
         ·have aE:Hid (mayV (.mk k n s l ks) d m=(true,Es (d+1) l (m - 1) l.length)):=Lq7 (by rw[aG.out];exact R6 _ _ _ hq);have aJ:=Lq7 aH;clear hq aH;go_wp2_with fail;go_ret;rw[aE.out];exact⟨rfl,Ag aB.out.grown aJ.out.1,aJ.out.2⟩
theorem may_all(v):Ay v->MayC v:=
 Vl.rec (motive_1:=fun v=>Ay v->MayC v) (motive_2:=fun l=>B6 l->∀x∈l,MayC x)
  (fun k n s l ks ih hs=>by
   rw[Ay] at hs;intro F d m lb a1 c1 a2 c2 w hF hd0 hd1 hm0 hm1 hb hr1 hr2;exact may_node k n s l ks F d m lb a1 c1 a2 c2 w hd0 hd1 hm0 hm1 hb hr1 hr2 hF hs.2.1 hs.2.2.1 hs.2.2.2.1 hs.1.1 (ih hs.2.2.2.2) hs.1.2)
  (fun _ x hx=>by cases hx)
  (fun v t hv ht hs x hx=>by
   rw[B6] at hs;rcases List.mem_cons.1 hx with rfl|hx
   ·exact hv hs.1
   ·exact ht hs.2 x hx) v
theorem Ep(v)(hs:Ay v)(F a1 c1 a2 c2 w)(hF:∀b,F b->b<w.heap.size)(hr1:Ac F w a1 (Ar v.items))(hr2:Ac F w a2 (Bn v.keys)):
  Calls Tryz.prog 128 #[A4 v.kind v.num v.str a1 v.items.length c1 a2 v.keys.length c2] w (fun e w'=>e = .returned (L (Am v))/\Below w.heap.size w w'):=by
 have aC:Below w.heap.size w ((w.alloc (E #[B C v.kind,B C v.num,D v.str,A a1 v.items.length c1,A a2 v.keys.length c2] 53)).alloc (E #[B C 20000] 3)):=((bRf _ w).alloc (nlr _) _).alloc (by simp) _;have hl:((w.alloc (E #[B C v.kind,B C v.num,D v.str,A a1 v.items.length c1,A a2 v.keys.length c2] 53)).alloc (E #[B C 20000] 3)).heap[w.heap.size+1]? = J (E #[B C 20000] 3 (0,0)):=by
  have:=heap_alloc_new (w.alloc (E #[B C v.kind,B C v.num,D v.str,A a1 v.items.length c1,A a2 v.keys.length c2] 53)) (E #[B C 20000] 3)
  simpa using this
 have Hc:=Lq7 (may_all v hs F 1 20000 (w.heap.size+1) a1 c1 a2 c2 _ (fun b hb=>by have:=hF b hb;omega) (by omega) (by omega) (by omega) (by omega) hl (hr1.below aC) (hr2.below aC));have aD:=Lq7 aC;unfold A4 at Hc |-;go_enter Tryz.func128,Tryz.ntmps128;go_wp2_with fail;refine Hc.out.mono ?_;rintro e w1 ⟨rfl,hg,-⟩;go_wp2_with fail;go_ret;exact⟨rfl,⟨hg.os.trans aD.out.os,hg.tape.trans aD.out.tape,hg.output.trans aD.out.output,nlt aD.out.size hg.size,fun b hb=>(hg.block b (nll hb aD.out.size) (fun e=>by cases e;omega)).trans (aD.out.block b hb)⟩⟩
section
variable {H:Type} {enc:TypeId×Value->H} {P:Program} {W:World}
end
theorem rises_keys:∀(l:List ByteArray) (p:Option ByteArray),risesGo p l=true->∀s∈l,s.size<=65536
 | [],_,_,s,hs=>by cases hs
 | x::t,p,h,s,hs=>by
  rw[Nb] at h;simp only[bAt,decide_eq_true_eq] at h;rcases List.mem_cons.1 hs with rfl|hs
  ·exact h.1.1
  ·exact rises_keys t _ h.2 s hs
theorem Jn{s:ByteArray}(h:s.toList=[]):s.size=0:=by
 rw[Lq8] at h;rw[<-Al,h];rfl
theorem Sy{k n s l ks}(h:Bz k n s l ks=true):inR n=true:=by
 unfold Bz at h;have aA:∀m:Int,m=0\/m=1->inR m=true:=fun m hm=>by rcases hm with rfl|rfl<;>rfl
 split at h
 ·simp only[bAt,beq_iff_eq] at h;exact aA n (.inl h.1.1.1)
 ·split at h
  ·simp only[bAt,Bool.or_eq_true,beq_iff_eq] at h;exact aA n h.1.1.1
  ·split at h
   ·simp only[bAt] at h;exact h.1.1.1
   ·split at h
    ·simp only[bAt,beq_iff_eq] at h;exact aA n (.inl h.1.1.1)
    ·split at h
     ·simp only[bAt,beq_iff_eq] at h;exact aA n (.inl h.1.1.1)
     ·split at h
      ·simp only[bAt,beq_iff_eq] at h;exact aA n (.inl h.1.1.1)
      ·cases h
theorem J3{k n s l ks}(h:Bz k n s l ks=true):s.size<=65536/\l.length<=1000/\ks.length<=1000/\∀x∈ks,x.size<=65536:=by
 unfold Bz at h;split at h
 ·simp only[bAt,List.isEmpty_iff] at h;obtain⟨⟨⟨-,h2⟩,rfl⟩,rfl⟩:=h;have:=Jn h2;exact⟨by omega,by simp,by simp,by simp⟩
 ·split at h
  ·simp only[bAt,List.isEmpty_iff] at h;obtain⟨⟨⟨-,h2⟩,rfl⟩,rfl⟩:=h;have:=Jn h2;exact⟨by omega,by simp,by simp,by simp⟩
  ·split at h
   ·simp only[bAt,List.isEmpty_iff] at h;obtain⟨⟨⟨-,h2⟩,rfl⟩,rfl⟩:=h;have:=Jn h2;exact⟨by omega,by simp,by simp,by simp⟩
   ·split at h
    ·simp only[bAt,List.isEmpty_iff,decide_eq_true_eq] at h;obtain⟨⟨⟨-,h2⟩,rfl⟩,rfl⟩:=h;exact⟨h2,by simp,by simp,by simp⟩
    ·split at h
     ·simp only[bAt,List.isEmpty_iff,decide_eq_true_eq] at h;obtain⟨⟨⟨-,h2⟩,h3⟩,rfl⟩:=h;have:=Jn h2;exact⟨by omega,h3,by simp,by simp⟩
     ·split at h
      ·simp only[bAt,beq_iff_eq] at h;obtain⟨⟨⟨-,h2⟩,h3⟩,h4⟩:=h;have:=Jn (List.isEmpty_iff.1 h2);unfold risesL at h4;simp only[bAt,decide_eq_true_eq] at h4;exact⟨by omega,by omega,h4.2,rises_keys _ _ h4.1⟩
      ·cases h
theorem Acg(v):∀d m,(mayV v d m).1=true->Ay v:=
 Vl.rec (motive_1:=fun v=>∀d m,(mayV v d m).1=true->Ay v) (motive_2:=fun l=>∀d m,(Co l d m).1=true->B6 l)
  (fun k n s l ks ih d m h=>by
   rw[mayV] at h;split at h
   ·cases h
   ·split at h
    ·rename_i hk
     obtain⟨h1,h2,h3,h4⟩:=J3 hk;rw[Ay];exact⟨⟨by omega,Sy hk⟩,by omega,by omega,fun x hx=>by have:=h4 x hx;omega,ih _ _ h⟩
    ·cases h)
  (fun _ _ _=>by rw[B6];trivial)
  (fun v t hv ht d m h=>by
   rw[Co] at h;split at h
   ·rename_i h1
    rw[B6];exact⟨hv _ _ h1,ht _ _ h⟩
   ·cases h) v
theorem Bw{v}(h:Am v=true):Ay v:=Acg v _ _ h
theorem Zc(k n s l ks)(hs:Ay (.mk k n s l ks))(F a1 c1 a2 c2 w)(hF:∀b,F b->b<w.heap.size)(hr1:Ac F w a1 (Ar l))(hr2:Ac F w a2 (Bn ks)):
  Calls Tryz.prog 78 #[.agg #[B C k,B C n,D s,A a1 l.length c1,A a2 ks.length c2]] w (fun e w'=>e = .returned (L (Gs (.mk k n s l ks)))/\Below w.heap.size w w'):=by
 have aC:Below w.heap.size w (w.alloc (E #[B C k,B C n,D s,A a1 l.length c1,A a2 ks.length c2] 53)):=(bRf _ w).alloc (nlr _) _;have aE:=Lq7 (Ep (.mk k n s l ks) hs F a1 c1 a2 c2 _ (fun b hb=>nll (hF b hb) aC.size) (hr1.below aC) (hr2.below aC));have aD:=Lq7 (aIn aC (heap_alloc_new w (E #[B C k,B C n,D s,A a1 l.length c1,A a2 ks.length c2] 53)));have Ht:Hid (Gs (.mk k n s l ks)=(Am (.mk k n s l ks)&&(n != 0||(s.toList != []||decide (0<l.length))))):=Lq7 (by
  unfold Gs;rw[Bool.or_assoc]
  congr 2
  show(!s.toList.isEmpty || !l.isEmpty)=_
  congr 1
  ·cases s.toList<;>rfl
  ·cases l<;>simp)
 have he:(⟨#[]⟩:ByteArray).toList=[]:=(by rw[Lq8]);have He:=Lq7 he;unfold A4 at aE;go_enter Tryz.func78,Tryz.ntmps78;go_wp2_with fail;refine aE.out.mono ?_;rintro e w1 ⟨rfl,aF⟩;obtain⟨r0,r1,r2,r3,r4,r5,-,-,-,-,-⟩:=Aa ((aF.block _ (agS.1 aD.out.2).1).trans aD.out.2);have aB:=Lq7 (aD.out.1.trans (aF.mono aD.out.1.size));cases hc:Am (.mk k n s l ks)
 ·have aA:Hid (Gs (.mk k n s l ks)=false):=Lq7 (by rw[Ht.out,hc];rfl);go_wp2_with fail;go_ret;exact⟨by rw[aA.out];rfl,aB.out⟩
 ·have Hc:=Lq7 hc;by_cases hn:n=0
  ·have h1:(n==0)=true:=(by simpa using hn);have h2:(n != 0)=false:=(by simpa using hn);by_cases hz:s.toList=[]
   ·have h3:(s.toList==[])=true:=(by rw[hz];rfl);have h4:(s.toList != [])=false:=(by rw[hz];rfl);by_cases hl:0<l.length
    ·have aA:Hid (Gs (.mk k n s l ks)=true):=Lq7 (by rw[Ht.out,Hc.out,h2,h4,decide_eq_true hl];rfl);go_wp2_with fail;go_ret;exact⟨by rw[aA.out];rfl,aB.out⟩
    ·have aA:Hid (Gs (.mk k n s l ks)=false):=Lq7 (by rw[Ht.out,Hc.out,h2,h4,decide_eq_false hl];rfl);go_wp2_with fail;go_ret;exact⟨by rw[aA.out];rfl,aB.out⟩
   ·have h3:(s.toList==[])=false:=(by simpa using hz);have h4:(s.toList != [])=true:=(by simpa using hz);have aA:Hid (Gs (.mk k n s l ks)=true):=Lq7 (by rw[Ht.out,Hc.out,h2,h4];rfl);go_wp2_with fail;go_ret;exact⟨by rw[aA.out];rfl,aB.out⟩
  ·have h1:(n==0)=false:=(by simpa using hn);have h2:(n != 0)=true:=(by simpa using hn);have aA:Hid (Gs (.mk k n s l ks)=true):=Lq7 (by rw[Ht.out,Hc.out,h2];rfl);go_wp2_with fail;go_ret;exact⟨by rw[aA.out];rfl,aB.out⟩
def Cc(v:Vl):Option (List ByteArray):=if v.kind=4/\Am v=true/\v.items.all (fun x=>x.kind==3)=true then J (v.items.map Vl.str) else K
def Q8(v:Vl)(w:World)(e:Ending)(w':World):Prop:=Below w.heap.size w w'/\match Cc v with
 | some l=>∃x,e = .returned (.tuple #[x,L true])/\OwnS w' w.heap.size x l
 | none=>e = .returned (.tuple #[A K 0 0,L false])
theorem check_len{k n s l ks}(h:Am (.mk k n s l ks)=true):s.size<=65536/\l.length<=1000/\ks.length<=1000:=by
 unfold Am at h;rw[mayV] at h;split at h
 ·cases h
 ·split at h
  ·rename_i hk
   obtain⟨h1,h2,h3,-⟩:=J3 hk;exact⟨h1,h2,h3⟩
  ·cases h
theorem Cw(k n s l ks)(hs:Ay (.mk k n s l ks))(F a1 c1 a2 c2 w)(hF:∀b,F b->b<w.heap.size)(hr1:Ac F w a1 (Ar l))(hr2:Ac F w a2 (Bn ks)):
  Calls Tryz.prog 180 #[.agg #[B C k,B C n,D s,A a1 l.length c1,A a2 ks.length c2]] w (Q8 (.mk k n s l ks) w):=by
 have aF:Below w.heap.size w (w.alloc (E #[B C k,B C n,D s,A a1 l.length c1,A a2 ks.length c2] 53)):=(bRf _ w).alloc (nlr _) _;have H0:=Lq7 (heap_alloc_new w (E #[B C k,B C n,D s,A a1 l.length c1,A a2 ks.length c2] 53));have aG:=Lq7 (Ep (.mk k n s l ks) hs F a1 c1 a2 c2 _ (fun b hb=>nll (hF b hb) aF.size) (hr1.below aF) (hr2.below aF));have aH:=Lq7 aF;have Hr1:=Lq7 (hr1.below aF);unfold A4 at aG;have Hz:Hid (∀x∈l,Ay x):=Lq7 (by rw[Ay] at hs;exact fun x hx=>smallVs_mem hs.2.2.2.2 hx);have hlen:l.length<=140737488355328:=(by rw[Ay] at hs;exact hs.2.1);by_cases hk:k=4
 ·subst hk;cases hck:Am (.mk 4 n s l ks) with
  | false=>
   have Ht:Hid (Cc (.mk 4 n s l ks)=K):=Lq7 (by unfold Cc;rw[if_neg (fun h=>by rw[hck] at h;exact absurd h.2.1 (by decide))]);rw[hck] at aG;go_enter Tryz.func180,Tryz.ntmps180;go_wp2_with fail;refine aG.out.mono ?_;rintro e w1 ⟨rfl,aJ⟩;have aV:=Lq7 (aH.out.trans (aJ.mono aH.out.size));go_wp2_with fail;refine bodyPost_ret (v:=.tuple #[A K 0 0,L false]) (by simp[results,Tryz.results180,go_sem]) rfl ?_;unfold Q8;rw[Ht.out];exact⟨aV.out,rfl⟩
  | true=>
   have Ht:Hid (Cc (.mk 4 n s l ks)=if l.all (fun x=>x.kind==3)=true then J (l.map Vl.str) else K):=Lq7 (by
    unfold Cc;by_cases h:l.all (fun x=>x.kind==3)=true
    ·rw[if_pos ⟨rfl,hck,h⟩,if_pos h];rfl
    ·rw[if_neg (fun h'=>h h'.2.2),if_neg h])
   rw[hck] at aG;have hl1:l.length<=1000:=(check_len hck).2.1;obtain⟨i0,hi,hz0,hz1,hz2⟩:=info_parts infoStr;go_enter Tryz.func180,Tryz.ntmps180;go_wp2_with fail;refine aG.out.mono ?_;rintro e w1 ⟨rfl,aJ⟩;have aV:=Lq7 (aH.out.trans (aJ.mono aH.out.size));have H1:=Lq7 (stays H0.out aJ);have Hr:=Lq7 (Hr1.out.below aJ);obtain⟨q0,q1,q2,q3,q4,q5,q6,q7,q8,q9,q10⟩:=Aa H1.out;have hw1:w.heap.size+1<=w1.heap.size:=(by have:=here H1.out;omega);go_wp2_with fail
   go_loopw [4,18] (fun v i wr=>∃j:Nat,i = B C j/\j<=l.length/\Hid (OwnS wr w1.heap.size v ((l.take j).map Vl.str))/\Hid (Below w1.heap.size w1 wr)/\Hid ((l.take j).all (fun x=>x.kind==3)=true)) (fun _ i _=>l.length-(intOf i).toNat)
   case atStart=>exact⟨0,rfl,nlz _,Lq7 (OwnS.nil _ _),Lq7 (bRf _ _),Lq7 rfl⟩
   case round=>
    obtain⟨j,rfl,hj,hown,aC,aD⟩:=hrel;by_cases hlt:j<l.length
    ·cases hx:l[j] with
     | mk xk xn xs xl xks=>
      have aW:l[j]? = J (.mk xk xn xs xl xks):=(by rw[lgE hlt,hx]);obtain⟨b,off,b1,e1,b2,e2,hae,-,hbl,r0,r1,r2,r3,r4,-,-⟩:=(Hr.out.below aC.out).val aW;have aY:l.take (j+1)=l.take j++[.mk xk xn xs xl xks]:=(by rw[List.take_add_one,aW];rfl);have hzx:xs.size<=9223372036854775807:=by
       have:=Hz.out _ (lgM aW);rw[Ay] at this;exact this.1.1
      subst hae;have Hq:=Lq7 (stays H1.out aC.out);obtain⟨aL,cL,rfl,-,-⟩:=hown.out.strsAt;rw[lnM,lnT,Nat.min_eq_left hj] at hown |-;by_cases hk3:xk=3
      ·subst hk3;have aM:OwnS (wr.alloc (E #[B C 3,B C xn,D xs,A b1 xl.length e1,A b2 xks.length e2] 53)) w1.heap.size (A aL j cL) ((l.take j).map Vl.str):=hown.out.below ((bRf _ _).alloc (nlr _) _);have aA:=lit_one (wr.alloc (E #[B C 3,B C xn,D xs,A b1 xl.length e1,A b2 xks.length e2] 53)) (D xs) 9;rw[show(wr.alloc (E #[B C 3,B C xn,D xs,A b1 xl.length e1,A b2 xks.length e2] 53)).heap.size=wr.heap.size+1 by simp] at aA;have aN:=Lq7 aA;have aQ:Hid (((wr.alloc (E #[B C 3,B C xn,D xs,A b1 xl.length e1,A b2 xks.length e2] 53)).alloc (E #[D xs] 9)).ownsRow w1.heap.size 9 1 (A aL j cL) j (((l.take j).map Vl.str).map Value.string)):=Lq7 (by
        have:=aM.below ((bRf _ _).alloc (nlr _) (E #[D xs] 9));unfold OwnS at this;rw[lnM,lnT,Nat.min_eq_left hj] at this;exact this)
       have aZ:Hid (∀g,(Value.slice aL j cL).ownBlock=J g->w1.heap.size<=g):=Lq7 (fun g hg=>(hown.out.block hg).1);have hall':Hid ((l.take (j+1)).all (fun x=>x.kind==3)=true):=Lq7 (by rw[aY,List.all_append,aD.out];rfl);have Htk:Hid ((l.take (j+1)).map Vl.str=(l.take j).map Vl.str++[xs]):=Lq7 (by rw[aY,List.map_append];rfl);have hsz:=aC.out.size
       go_wp2_with (at_builtin;refine wpList_append_own _ rfl _ _ 51 rfl w1.heap.size 9 i0 (D ByteArray.empty) 1 16 Tryz.underlying51 hi hz0 hz1 hz2 rfl (by decide) (A aL j cL) j _ rfl aQ.out ⟨wr.heap.size+1,0,K⟩ 1 1 [D xs] rfl rfl aN.out ?_ ?_ ?_ ?_ ?_)
       ·simp[Value.oneCell']
       ·unfold maxLen;omega
       ·omega
       ·simp;omega
       intro v2 w2 aR aE _;have aB:Hid (OwnS w2 w1.heap.size v2 ((l.take (j+1)).map Vl.str)):=Lq7 (by
        rw[Htk.out];unfold OwnS;rw[List.length_append,lnM,lnT,Nat.min_eq_left hj,List.map_append]
        simpa using aR)
       have bA:Hid (Below w1.heap.size w1 w2):=Lq7 ((aC.out.trans ((((bRf _ wr).alloc (nlr _) _).alloc (by simp) _).mono hsz)).trans (Cz aE aZ.out (by simp;omega)));obtain⟨aL2,cL2,rfl,-,-⟩:=aB.out.strsAt;go_wp2_with fail;go_roundw
       case rel=>exact⟨j+1,by go_num,by omega,aB,bA,hall'⟩
       case measure=>simp only[intOf];omega
      ·have hk3':(xk != 3)=true:=(by simpa using hk3);have Hn:Hid (Cc (.mk 4 n s l ks)=K):=Lq7 (by
        rw[Ht.out,if_neg];intro h;rw[List.all_eq_true] at h;have hm:Vl.mk xk xn xs xl xks∈l:=by
         have:Vl.mk xk xn xs xl xks∈l.take (j+1):=(by rw[aY];simp);exact List.mem_of_mem_take this
        have:=h _ hm;exact hk3 (by simpa[Vl.kind] using this))
       go_wp2_with fail;refine bodyPost_ret (v:=.tuple #[A K 0 0,L false]) (by simp[results,Tryz.results180,go_sem]) rfl ?_;unfold Q8;rw[Hn.out];exact⟨aV.out.trans ((aC.out.trans ((bRf _ wr).alloc (nlr _) _ |>.mono aC.out.size)).mono (by omega)),rfl⟩
    ·have aU:l.take j=l:=List.take_of_length_le (by omega);rw[aU] at hown aD;have bB:Hid (Cc (.mk 4 n s l ks)=J (l.map Vl.str)):=Lq7 (by rw[Ht.out,if_pos aD.out]);have hown':=hown.out.lower (base':=w.heap.size) (by omega);have Hown':=Lq7 hown';obtain⟨aL,cL,rfl,-,-⟩:=hown'.strsAt;go_wp2_with fail;refine bodyPost_ret (v:=.tuple #[A aL (l.map Vl.str).length cL,L true]) (by simp[results,Tryz.results180,go_sem]) rfl ?_;unfold Q8;rw[bB.out];exact⟨aV.out.trans (aC.out.mono (by omega)),_,rfl,Hown'.out⟩
 ·have Ht:Hid (Cc (.mk k n s l ks)=K):=Lq7 (by unfold Cc;rw[if_neg (fun h=>hk h.1)]);have hk':(k != 4)=true:=(by simpa using hk);go_enter Tryz.func180,Tryz.ntmps180;go_wp2_with fail;refine bodyPost_ret (v:=.tuple #[A K 0 0,L false]) (by simp[results,Tryz.results180,go_sem]) rfl ?_;unfold Q8;rw[Ht.out];exact⟨aH.out,rfl⟩
theorem U7(v):∀d m d' m',d'<=d->m<=m'->(mayV v d m).1=true->(mayV v d' m').1=true/\(mayV v d' m').2=(mayV v d m).2+(m'-m)/\(mayV v d m).2<=m:=
 Vl.rec (motive_1:=fun v=>∀d m d' m',d'<=d->m<=m'->(mayV v d m).1=true->(mayV v d' m').1=true/\(mayV v d' m').2=(mayV v d m).2+(m'-m)/\(mayV v d m).2<=m)
  (motive_2:=fun l=>∀d m d' m',d'<=d->m<=m'->(Co l d m).1=true->(Co l d' m').1=true/\(Co l d' m').2=(Co l d m).2+(m'-m)/\(Co l d m).2<=m)
  (fun k n s l ks ih d m d' m' hd hm h=>by
   rw[mayV] at h |-;split at h
   ·cases h
   ·rename_i h1
    split at h
    ·rename_i hk
     rw[if_neg (by omega),if_pos hk];have h2:=ih (d+1) (m - 1) (d'+1) (m' - 1) (by omega) (by omega) h;rw[mayV,if_neg h1,if_pos hk];exact⟨h2.1,by rw[h2.2.1];omega,by omega⟩
    ·cases h)
  (fun d m d' m' _ _ _=>by rw[Co,Co];exact⟨rfl,by simp;omega,Int.le_refl _⟩)
  (fun v t hv ht d m d' m' hd hm h=>by
   rw[Co] at h;split at h
   ·rename_i h1
    obtain⟨h2,h3,h4⟩:=hv d m d' m' hd hm h1;obtain⟨h5,h6,h7⟩:=ht d (mayV v d m).2 d' (mayV v d' m').2 hd (by omega) h;rw[Co,if_pos h2,Co,if_pos h1];exact⟨h5,by rw[h6,h3];omega,by omega⟩
   ·cases h) v
theorem mays_items:∀(l:List Vl) (d m:Int),1<=d->m<=20000->(Co l d m).1=true->∀x∈l,Am x=true
 | [],_,_,_,_,_=>fun x hx=>by cases hx
 | v::t,d,m,hd,hm,h=>fun x hx=>by
  rw[Co] at h;split at h
  ·rename_i h1
   obtain⟨h2,-,-⟩:=U7 v d m 1 20000 hd hm h1;obtain⟨-,-,h4⟩:=U7 v d m d m (Int.le_refl _) (Int.le_refl _) h1;rcases List.mem_cons.1 hx with rfl|hx
   ·exact h2
   ·exact mays_items t d _ hd (by omega) h x hx
  ·cases h
theorem On{k n s l ks}(h:Am (.mk k n s l ks)=true):∀x∈l,Am x=true:=by
 unfold Am at h;rw[mayV] at h;split at h
 ·cases h
 ·split at h
  ·exact mays_items l _ _ (by decide) (by decide) h
  ·cases h

def Lv(w:World)(e:Ending)(w':World):Prop:=e = .returned (L true)/\Below w.heap.size w w'
def SameC(v:Vl):Prop:=∀(F:Nat->Prop) (a1:Option Addr) (c1:Nat) (a2:Option Addr) (c2:Nat) (g1:Option Addr) (d1:Nat) (g2:Option Addr) (d2:Nat) (w:World),Ac F w a1 (Ar v.items)->Ac F w a2 (Bn v.keys)->Ac F w g1 (Ar v.items)->Ac F w g2 (Bn v.keys) ->
 Calls Tryz.prog 24 #[.agg #[B C v.kind,B C v.num,D v.str,A a1 v.items.length c1,A a2 v.keys.length c2],.agg #[B C v.kind,B C v.num,D v.str,A g1 v.items.length d1,A g2 v.keys.length d2]] w (Lv w)
theorem Acf(k n s l ks)(hl:l.length<=140737488355328)(hkl:ks.length<=140737488355328)(hit:∀x∈l,SameC x)(F a1 c1 a2 c2 g1 d1 g2 d2 w)(hr1:Ac F w a1 (Ar l))(hr2:Ac F w a2 (Bn ks))(hg1:Ac F w g1 (Ar l))(hg2:Ac F w g2 (Bn ks)):
  Calls Tryz.prog 24 #[.agg #[B C k,B C n,D s,A a1 l.length c1,A a2 ks.length c2],.agg #[B C k,B C n,D s,A g1 l.length d1,A g2 ks.length d2]] w (Lv w):=by
 obtain⟨h1,h2,h3,h4⟩:=Cl w (E #[B C k,B C n,D s,A a1 l.length c1,A a2 ks.length c2] 53) (E #[B C k,B C n,D s,A g1 l.length d1,A g2 ks.length d2] 53);have H0:=Lq7 (aIn h1 (aIn h2 h3));have Hr:=Lq7 (aIn hr1 hg1);have Hk:=Lq7 (aIn hr2.strs hg2.strs);have Hit:=Lq7 hit;have hf1:(k != k)=false:=(by simp);have hf2:(n != n)=false:=(by simp);go_enter Tryz.func24,Tryz.ntmps24;go_wp2_with fail;generalize World.alloc _ _=W0 at H0 |-
 go_loopw [47] (fun i wr=>∃j q:Nat,i = B C j/\j<=ks.length/\wr=W0.drewN q) (fun i _=>ks.length-(intOf i).toNat)
 case atStart=>exact⟨0,0,rfl,nlz _,rfl⟩
 case round=>
  obtain⟨j,q,rfl,hj,rfl⟩:=hrel;obtain⟨q0,q1,q2,q3,q4,q5,-⟩:=Aa H0.out.1;obtain⟨p0,p1,p2,p3,p4,p5,-⟩:=Aa H0.out.2.1;by_cases hlt:j<ks.length
  ·obtain⟨b,off,rfl,hc⟩:=(Hk.out.1.below H0.out.2.2).at hlt;obtain⟨b',off',rfl,hc'⟩:=(Hk.out.2.below H0.out.2.2).at hlt;generalize ks[j]=x at hc hc';go_wp2_with fail
   go_quiet (fail)
   go_wp2_with fail;go_roundw
   case rel=>exact⟨j+1,q+nq,by go_num,by omega,rfl⟩
   case measure=>simp only[intOf];omega
  ·go_wp2_with fail;have H1:Hid ((W0.drewN q).heap[w.heap.size]? = J (E #[B C k,B C n,D s,A a1 l.length c1,A a2 ks.length c2] 53 (0,0))/\(W0.drewN q).heap[w.heap.size+1]? = J (E #[B C k,B C n,D s,A g1 l.length d1,A g2 ks.length d2] 53 (0,0))/\Below w.heap.size w (W0.drewN q)):=Lq7 ⟨H0.out.1,H0.out.2.1,Cy H0.out.2.2 q⟩;generalize W0.drewN q=W1 at H1 |-
   go_loopw [65] (fun i wr=>∃j:Nat,i = B C j/\j<=l.length/\Hid (wr.heap[w.heap.size]? = J (E #[B C k,B C n,D s,A a1 l.length c1,A a2 ks.length c2] 53 (0,0))/\wr.heap[w.heap.size+1]? = J (E #[B C k,B C n,D s,A g1 l.length d1,A g2 ks.length d2] 53 (0,0))/\Below w.heap.size w wr)) (fun i _=>l.length-(intOf i).toNat)
   case atStart=>exact⟨0,rfl,nlz _,H1⟩
   case round=>
    obtain⟨i,rfl,hi,aA⟩:=hrel;obtain⟨q0,q1,q2,q3,q4,q5,-⟩:=Aa aA.out.1;obtain⟨p0,p1,p2,p3,p4,p5,-⟩:=Aa aA.out.2.1;by_cases hlt2:i<l.length
    ·have aB:l[i]? = J l[i]:=lgE hlt2;generalize l[i]=x at aB;have HC:=Lq7 (Hit.out x (lgM aB));obtain⟨xk,xn,xs,xl,xks⟩:=x;have aD:Below wr.heap.size wr wr.drew:=(bRf _ wr).drew;have H2:=Lq7 (aIn (stays aA.out.1 aD) (aIn (stays aA.out.2.1 aD) (aA.out.2.2.trans (aD.mono aA.out.2.2.size))));obtain⟨b,off,x1,e1,x2,e2,hae,-,hbl,r0,r1,r2,r3,r4,hs1,hs2⟩:=(Hr.out.1.below H2.out.2.2).val aB;obtain⟨b',off',x3,e3,x4,e4,hae',-,hbl',t0,t1,t2,t3,t4,hs3,hs4⟩:=(Hr.out.2.below H2.out.2.2).val aB;subst hae;subst hae';have HK:=Lq7 (HC.out F x1 e1 x2 e2 x3 e3 x4 e4 wr.drew hs1 hs2 hs3 hs4);go_wp2_with fail;refine Bm (.s 0 (.s 1 (.s 2 (.s 3 (.s 4 (.s 5 (.s 6 (.s 7 (.s 8 (.s 9 (.h 10 (.s 11 .nil)))))))))))) 99 (fun W'=>Below wr.drew.heap.size wr.drew W') (bRf _ _) ?_;generalize wr.drew=Wd at *;refine Bp (I (J ⟨w.heap.size,3,K⟩)) (fun W' hS=>?_) ?_
     ·obtain⟨z0,z1,z2,z3,z4,z5,-⟩:=Aa (stays H2.out.1 hS);go_simp
     refine Bp (A (J ⟨b,off,K⟩) l.length c1) (fun W' hS=>?_) ?_
     ·obtain⟨z0,z1,z2,z3,z4,z5,-⟩:=Aa (stays H2.out.1 hS);go_simp
     refine Aw (B C i) ?_;refine Aw (I (J ⟨b,off+i*5,K⟩)) ?_;refine Bp (.agg #[B C xk,B C xn,D xs,A x1 xl.length e1,A x2 xks.length e2]) (fun W' hS=>?_) ?_
     ·have z0:=(hS.cell (p:=⟨b,off+i*5,K⟩) hbl).trans r0;have z1:=(hS.cell (p:=⟨b,off+i*5+1,K⟩) hbl).trans r1;have z2:=(hS.cell (p:=⟨b,off+i*5+2,K⟩) hbl).trans r2;have z3:=(hS.cell (p:=⟨b,off+i*5+3,K⟩) hbl).trans r3;have z4:=(hS.cell (p:=⟨b,off+i*5+4,K⟩) hbl).trans r4;go_simp
     refine Bp (I (J ⟨w.heap.size+1,3,K⟩)) (fun W' hS=>?_) ?_
     ·obtain⟨z0,z1,z2,z3,z4,z5,-⟩:=Aa (stays H2.out.2.1 hS);go_simp
     refine Bp (A (J ⟨b',off',K⟩) l.length d1) (fun W' hS=>?_) ?_
     ·obtain⟨z0,z1,z2,z3,z4,z5,-⟩:=Aa (stays H2.out.2.1 hS);go_simp
     refine Aw (B C i) ?_;refine Aw (I (J ⟨b',off'+i*5,K⟩)) ?_;refine Bp (.agg #[B C xk,B C xn,D xs,A x3 xl.length e3,A x4 xks.length e4]) (fun W' hS=>?_) ?_
     ·have z0:=(hS.cell (p:=⟨b',off'+i*5,K⟩) hbl').trans t0;have z1:=(hS.cell (p:=⟨b',off'+i*5+1,K⟩) hbl').trans t1;have z2:=(hS.cell (p:=⟨b',off'+i*5+2,K⟩) hbl').trans t2;have z3:=(hS.cell (p:=⟨b',off'+i*5+3,K⟩) hbl').trans t3;have z4:=(hS.cell (p:=⟨b',off'+i*5+4,K⟩) hbl').trans t4;go_simp
     refine Ae rfl (fun K10 aE=>?_);go_wp2_with fail;refine HK.out.mono ?_;rintro e w2 ⟨rfl,aC⟩;have aF:=Lq7 (aIn (stays H2.out.1 aC) (aIn (stays H2.out.2.1 aC) (H2.out.2.2.trans (aC.mono H2.out.2.2.size))));have Hb2:=Lq7 aC;go_wp2_with fail;refine aE _ _ (fun _=>Hb2.out) ?_;(try simp only[gX,aP]);refine Aw (L false) ?_;refine A2 ?_;(try simp only[gX,aP]);go_wp2_with fail;go_roundw
     case rel=>exact⟨i+1,by go_num,by omega,aF⟩
     case measure=>simp only[intOf];omega
    ·go_wp2_with fail;go_ret;exact⟨rfl,aA.out.2.2⟩
theorem Y8(v):Ay v->SameC v:=
 Vl.rec (motive_1:=fun v=>Ay v->SameC v) (motive_2:=fun l=>B6 l->∀x∈l,SameC x)
  (fun k n s l ks ih h F a1 c1 a2 c2 g1 d1 g2 d2 w hr1 hr2 hg1 hg2=>by rw[Ay] at h;exact Acf k n s l ks h.2.1 h.2.2.1 (ih h.2.2.2.2) F a1 c1 a2 c2 g1 d1 g2 d2 w hr1 hr2 hg1 hg2)
  (fun _ x hx=>by cases hx)
  (fun v t hv ht h x hx=>by
   rw[B6] at h;rcases List.mem_cons.1 hx with rfl|hx
   ·exact hv h.1
   ·exact ht h.2 x hx) v
theorem Vj{l}{j:Nat}{x}(hl:nodesRs l=true)(h:l[j]? = J x):nodesR x=true:=by
 induction l generalizing j with
 | nil=>simp at h
 | cons v t ih=>
  rw[nodesRs,bAt] at hl;cases j with
  | zero=>simp at h;subst h;exact hl.1
  | succ j=>exact ih (j:=j) hl.2 (by simpa using h)
def Sv(b:Bool)(w:World)(e:Ending)(w':World):Prop:=e = .returned (L b)/\Below w.heap.size w w'
theorem eqS_len{l m:List ByteArray}(h:¬l.length=m.length):(l.map (·.toList)==m.map (·.toList))=false:=by
 rw[beq_eq_false_iff_ne];intro he;have:=congrArg List.length he;rw[lnM,lnM] at this;exact h this
theorem eqS_at{l m:List ByteArray}{j:Nat}(h1:j<l.length)(h2:j<m.length)(hx:¬l[j].toList=m[j].toList):(l.map (·.toList)==m.map (·.toList))=false:=by
 rw[beq_eq_false_iff_ne];intro he;have:(l.map (·.toList))[j]? = (m.map (·.toList))[j]?:=(by rw[he]);rw[lgP,lgP,lgE h1,lgE h2] at this;exact hx (Option.some.inj this)
theorem eqS_all{l m:List ByteArray}(hlen:l.length=m.length)(h:∀(j:Nat) (h1:j<l.length) (h2:j<m.length),l[j].toList=m[j].toList):(l.map (·.toList)==m.map (·.toList))=true:=by
 rw[beq_iff_eq];apply List.ext_getElem (by rw[lnM,lnM];exact hlen);intro j h1 h2;rw[List.getElem_map,List.getElem_map];exact h j _ _
theorem T8(a b ca cb l m w)(hl:l.length<=140737488355328)(hat:Dx w a l)(hbt:Dx w b m):
  Calls Tryz.prog 212 #[A a l.length ca,A b m.length cb] w (Sv (l.map (·.toList)==m.map (·.toList)) w):=by
 by_cases hlen:l.length=m.length;rotate_left
 ·rw[eqS_len hlen];have h1:((l.length:Int) != (m.length:Int))=true:=(by simp;omega);have h2:((l.length:Int)==(m.length:Int))=false:=(by simp;omega);go_enter Tryz.func212,Tryz.ntmps212;go_wp2_with fail;go_ret;exact⟨rfl,bRf _ _⟩
 ·have aB:=Lq7 hlen;have aF:=Lq7 (aIn hat hbt);rw[<-hlen];generalize hr:(l.map (·.toList)==m.map (·.toList))=r;have Hr:=Lq7 hr;go_enter Tryz.func212,Tryz.ntmps212;go_wp2_with fail
  go_loopw [13] (fun i wr=>∃j q:Nat,i = B C j/\j<=l.length/\wr=w.drewN q/\Hid (∀(i:Nat) (h1:i<l.length) (h2:i<m.length),i<j->l[i].toList=m[i].toList)) (fun i _=>l.length-(intOf i).toNat)
  case atStart=>exact⟨0,0,rfl,nlz _,rfl,Lq7 (fun i _ _ h=>absurd h (Nat.not_lt_zero _))⟩
  case round=>
   obtain⟨j,q,rfl,hj,rfl,aA⟩:=hrel;by_cases hlt:j<l.length
   ·have aG:j<m.length:=(by rw[<-aB.out];exact hlt);obtain⟨b1,aQ,rfl,aY⟩:=aF.out.1.at hlt;obtain⟨b2,aR,rfl,aZ⟩:=aF.out.2.at aG;by_cases aC:l[j].toList=m[j].toList
    ·have aD:Hid (∀(i:Nat) (h1:i<l.length) (h2:i<m.length),i<j+1->l[i].toList=m[i].toList):=Lq7 (fun i h1 h2 hi=>by
      by_cases hij:i=j
      ·subst hij;exact aC
      ·exact aA.out i h1 h2 (by omega))
     have aH:(l[j].toList==m[j].toList)=true:=(by simpa using aC);have aJ:(l[j].toList != m[j].toList)=false:=(by simpa using aC);generalize l[j]=x at aY aH aJ;generalize m[j]=y at aZ aH aJ;go_wp2_with fail
     go_quiet (fail)
     go_wp2_with fail;go_roundw
     case rel=>exact⟨j+1,q+nq,by go_num,by omega,rfl,aD⟩
     case measure=>simp only[intOf];omega
    ·have Hf:=Lq7 (Hr.out.symm.trans (eqS_at hlt aG aC));have aH:(l[j].toList==m[j].toList)=false:=(by simpa using aC);have aJ:(l[j].toList != m[j].toList)=true:=(by simpa using aC);generalize l[j]=x at aY aH aJ;generalize m[j]=y at aZ aH aJ;go_wp2_with fail
     go_quiet (fail)
     go_wp2_with fail;go_ret;exact⟨A0 Hf.out.symm,Cy (Cy (bRf _ _) _) _⟩
   ·have Hf:=Lq7 (Hr.out.symm.trans (eqS_all aB.out (fun i h1 h2=>aA.out i h1 h2 (by omega))));go_wp2_with fail;go_ret;exact⟨A0 Hf.out.symm,Cy (bRf _ _) _⟩
def Sw(v u:Vl):Prop:=∀(F:Nat->Prop) (a1:Option Addr) (c1:Nat) (a2:Option Addr) (c2:Nat) (g1:Option Addr) (d1:Nat) (g2:Option Addr) (d2:Nat) (w:World),Ac F w a1 (Ar v.items)->Ac F w a2 (Bn v.keys)->Ac F w g1 (Ar u.items)->Ac F w g2 (Bn u.keys) ->
 Calls Tryz.prog 193 #[.agg #[B C v.kind,B C v.num,D v.str,A a1 v.items.length c1,A a2 v.keys.length c2],.agg #[B C u.kind,B C u.num,D u.str,A g1 u.items.length d1,A g2 u.keys.length d2]] w (Sv (sameV v u) w)
theorem sames_len:∀{l m:List Vl},¬l.length=m.length->sameVs l m=false
 | [],[],h=>absurd rfl h
 | [],_::_,_=>by simp[sameVs]
 | _::_,[],_=>by simp[sameVs]
 | v::t,v'::t',h=>by
  rw[sameVs,sames_len (l:=t) (m:=t') (by simpa using h),Bool.and_false]
theorem sames_at:∀{l m:List Vl} {j:Nat} (h1:j<l.length) (h2:j<m.length),sameV l[j] m[j]=false->sameVs l m=false
 | v::t,v'::t',0,_,_,h=>by
  rw[sameVs];have h':sameV v v'=false:=h;rw[h',Bool.false_and]
 | v::t,v'::t',j+1,h1,h2,h=>by
  rw[sameVs,sames_at (l:=t) (m:=t') (j:=j) (by simpa using h1) (by simpa using h2) (by simpa using h),Bool.and_false]
theorem sames_all:∀{l m:List Vl},l.length=m.length->(∀(j:Nat) (h1:j<l.length) (h2:j<m.length),sameV l[j] m[j]=true)->sameVs l m=true
 | [],[],_,_=>by simp[sameVs]
 | v::t,v'::t',hl,h=>by
  have h0:sameV v v'=true:=h 0 (by simp) (by simp);rw[sameVs,h0,Bool.true_and];exact sames_all (by simpa using hl) (fun j h1 h2=>by have:=h (j+1) (by simpa using h1) (by simpa using h2);simpa using this)
theorem T9(a b ca cb l m F w)(hl:l.length<=140737488355328)(hat:Ac F w a (Ar l))(hbt:Ac F w b (Ar m))(hit:∀x∈l,∀y∈m,Sw x y):
  Calls Tryz.prog 213 #[A a l.length ca,A b m.length cb,.func (.func 193) #[] #[]] w (Sv (sameVs l m) w):=by
 by_cases hlen:l.length=m.length;rotate_left
 ·rw[sames_len hlen];have h1:((l.length:Int) != (m.length:Int))=true:=(by simp;omega);have h2:((l.length:Int)==(m.length:Int))=false:=(by simp;omega);clear hat hbt hit;go_enter Tryz.func213,Tryz.ntmps213;go_wp2_with fail;go_ret;exact⟨rfl,bRf _ _⟩
 ·have aB:=Lq7 hlen;have aF:=Lq7 (aIn hat hbt);have Hit:=Lq7 hit;rw[<-hlen];generalize hr:sameVs l m=r;have Hr:=Lq7 hr;clear hr hlen hat hbt hit;go_enter Tryz.func213,Tryz.ntmps213;go_wp2_with fail
  go_loopw [17] (fun i wr=>∃j:Nat,i = B C j/\j<=l.length/\Hid (Below w.heap.size w wr)/\Hid (∀(i:Nat) (h1:i<l.length) (h2:i<m.length),i<j->sameV l[i] m[i]=true)) (fun i _=>l.length-(intOf i).toNat)
  case atStart=>exact⟨0,rfl,nlz _,Lq7 (bRf _ _),Lq7 (fun i _ _ h=>absurd h (Nat.not_lt_zero _))⟩
  case round=>
   obtain⟨j,rfl,hj,hb,aA⟩:=hrel;by_cases hlt:j<l.length
   ·have aG:j<m.length:=(by rw[<-aB.out];exact hlt);have aD:Hid (sameV l[j] m[j]=true->∀(i:Nat) (h1:i<l.length) (h2:i<m.length),i<j+1->sameV l[i] m[i]=true):=Lq7 (fun aC i h1 h2 hi=>by
     by_cases hij:i=j
     ·subst hij;exact aC
     ·exact aA.out i h1 h2 (by omega))
    have Hf:Hid (sameV l[j] m[j]=false->r=false):=Lq7 (fun aC=>Hr.out.symm.trans (sames_at hlt aG aC));have aM:l[j]? = J l[j]:=lgE hlt;have aN:m[j]? = J m[j]:=lgE aG;generalize l[j]=x at aM aD Hf;generalize m[j]=y at aN aD Hf;have HC:=Lq7 (Hit.out x (lgM aM) y (lgM aN));obtain⟨xk,xn,xs,xl,xks⟩:=x;obtain⟨yk,yn,ys,yl,yks⟩:=y;obtain⟨b1,aQ,x1,e1,x2,e2,rfl,-,hbl1,r0,r1,r2,r3,r4,bA,bB⟩:=(aF.out.1.below hb.out).val aM;obtain⟨b2,aR,y1,f1,y2,f2,rfl,-,hbl2,s0,s1,s2,s3,s4,bC,bD⟩:=(aF.out.2.below hb.out).val aN;obtain⟨-,-,aE,-⟩:=Cl wr (E #[B C xk,B C xn,D xs,A x1 xl.length e1,A x2 xks.length e2] 53) (E #[B C yk,B C yn,D ys,A y1 yl.length f1,A y2 yks.length f2] 53);have HK:=Lq7 (HC.out F x1 e1 x2 e2 y1 f1 y2 f2 _ (bA.below aE) (bB.below aE) (bC.below aE) (bD.below aE));have aU:=Lq7 (hb.out.trans (aE.mono hb.out.size));generalize sameV (.mk xk xn xs xl xks) (.mk yk yn ys yl yks)=z at HK aD Hf;clear aM aN bA bB bC bD aE aA hb HC;go_wp2_with fail;refine HK.out.mono ?_;rintro e w2 ⟨rfl,bE⟩;have H3:=Lq7 (aU.out.trans (bE.mono aU.out.size));clear bE aU HK r0 r1 r2 r3 r4 s0 s1 s2 s3 s4;cases z with
    | true=>
     have Hs3:=Lq7 (aD.out rfl);clear aD Hf;go_wp2_with fail;go_roundw
     case rel=>exact⟨j+1,by go_num,by omega,H3,Hs3⟩
     case measure=>simp only[intOf];omega
    | false=>
     have Hf2:=Lq7 (Hf.out rfl);clear aD Hf;go_wp2_with fail;go_ret;exact⟨A0 Hf2.out.symm,H3.out⟩
   ·have Hf:=Lq7 (Hr.out.symm.trans (sames_all aB.out (fun i h1 h2=>aA.out i h1 h2 (by omega))));clear aA;go_wp2_with fail;go_ret;exact⟨A0 Hf.out.symm,hb.out⟩
theorem Y9(k n s l ks k' n' s' l' ks')(hl:l.length<=140737488355328)(hkl:ks.length<=140737488355328)(hit:∀x∈l,∀y∈l',Sw x y):Sw (.mk k n s l ks) (.mk k' n' s' l' ks'):=by
 intro F a1 c1 a2 c2 g1 d1 g2 d2 w hr1 hr2 hg1 hg2;have hR:sameV (.mk k n s l ks) (.mk k' n' s' l' ks')=(k==k'&&n==n'&&s.toList==s'.toList&&ks.map (·.toList)==ks'.map (·.toList)&&sameVs l l'):=(by rw[sameV]);obtain⟨h1,h2,h3,h4⟩:=Cl w (E #[B C k,B C n,D s,A a1 l.length c1,A a2 ks.length c2] 53) (E #[B C k',B C n',D s',A g1 l'.length d1,A g2 ks'.length d2] 53);have H0:=Lq7 (aIn h1 (aIn h2 h3));have bG:=Lq7 (T8 a2 g2 c2 d2 ks ks' _ hkl (hr2.below h3).strs (hg2.below h3).strs);have bH:=Lq7 (fun W (h:Below w.heap.size w W)=>T9 a1 g1 c1 d1 l l' F W hl (hr1.below h) (hg1.below h) hit);have aV:=Lq7 h3;generalize sameV (.mk k n s l ks) (.mk k' n' s' l' ks')=r at hR |-;show Calls Tryz.prog 193 #[.agg #[B C k,B C n,D s,A a1 l.length c1,A a2 ks.length c2],.agg #[B C k',B C n',D s',A g1 l'.length d1,A g2 ks'.length d2]] w (Sv r w);generalize (ks.map (·.toList)==ks'.map (·.toList))=bk at hR bG;generalize sameVs l l'=bl at hR bH;have Hr:=Lq7 hR;cases h1:(k==k') with
 | false=>
  have R:Hid (r=false):=Lq7 (by rw[Hr.out,h1];rfl);have h1':¬k=k':=(by simpa using h1);go_enter Tryz.func193,Tryz.ntmps193;go_wp2_with fail;go_ret;exact⟨A0 R.out.symm,aV.out⟩
 | true=>
 cases h2:(n==n') with
 | false=>
  have R:Hid (r=false):=Lq7 (by rw[Hr.out,h1,h2];rfl);have h2':¬n=n':=(by simpa using h2);go_enter Tryz.func193,Tryz.ntmps193;go_wp2_with fail;go_ret;exact⟨A0 R.out.symm,aV.out⟩
 | true=>
 cases h3:(s.toList==s'.toList) with
 | false=>
  have R:Hid (r=false):=Lq7 (by rw[Hr.out,h1,h2,h3];rfl);have h3':¬s.toList=s'.toList:=(by simpa using h3);go_enter Tryz.func193,Tryz.ntmps193;go_wp2_with fail;go_ret;exact⟨A0 R.out.symm,aV.out⟩
 | true=>
 have R:Hid (r=(bk&&bl)):=Lq7 (by rw[Hr.out,h1,h2,h3];rfl);go_enter Tryz.func193,Tryz.ntmps193;go_wp2_with fail;refine bG.out.mono ?_;rintro e w1 ⟨rfl,aW⟩;have H1:=Lq7 (aIn (stays H0.out.1 aW) (aIn (stays H0.out.2.1 aW) (H0.out.2.2.trans (aW.mono H0.out.2.2.size))));have HE:=Lq7 (bH.out _ H1.out.2.2);obtain⟨q0,q1,q2,q3,q4,q5,-⟩:=Aa H1.out.1;obtain⟨p0,p1,p2,p3,p4,p5,-⟩:=Aa H1.out.2.1;cases bk with
 | false=>
  go_wp2_with fail;go_ret;exact⟨A0 R.out.symm,H1.out.2.2⟩
 | true=>
 go_wp2_with fail;refine HE.out.mono ?_;rintro e w2 ⟨rfl,aE⟩;have H2:=Lq7 (H1.out.2.2.trans (aE.mono H1.out.2.2.size));go_wp2_with fail;go_ret;exact⟨A0 R.out.symm,H2.out⟩
theorem Sx(v):Ay v->∀u,Sw v u:=
 Vl.rec (motive_1:=fun v=>Ay v->∀u,Sw v u) (motive_2:=fun l=>B6 l->∀x∈l,∀u,Sw x u)
  (fun k n s l ks ih h u=>by
   obtain⟨k',n',s',l',ks'⟩:=u;rw[Ay] at h;exact Y9 k n s l ks k' n' s' l' ks' h.2.1 h.2.2.1 (fun x hx y _=>ih h.2.2.2.2 x hx y))
  (fun _ x hx=>by cases hx)
  (fun v t hv ht h x hx=>by
   rw[B6] at h;rcases List.mem_cons.1 hx with rfl|hx
   ·exact hv h.1
   ·exact ht h.2 x hx) v
end Go.Proofs.YtlbbbapiklendaaGreatDoor
