/-
  The walk of the reference's Same,at two values that are alike:yes. (And what it stands on.)
-/
import Derived.Deep.DeepCutAuto
import Derived.Deep.CutBlock
import Derived.StillTailTactics
import Derived.SizedLaws
import Derived.Test.YtkehdallfohjfaaGreatDoorMOwnLow
import Derived.Test.YtkehdallfohjfaaGreatDoorMHeldSkip
namespace Go.Proofs.YtkehdallfohjfaaGreatDoor
open Go Go.RowKit
open List renaming mem_of_getElem? -> lgM,getElem?_eq_getElem->lgE,mem_cons_self->lmS,mem_cons_of_mem->lmO
open Nat renaming le_refl->nlr,lt_of_lt_of_le->nll,le_trans->nlt,zero_le->nlz
open Go.Lib renaming hid->Lq7,toList_data->Lq8
open Go.Act renaming put->aP
open And renaming intro->aIn
open Go.RowKit.Below renaming refl->bRf
open Bool renaming and_eq_true->bAt
set_option maxRecDepth 100000
set_option maxHeartbeats 16000000
def PMay(r:Bool×Int)(lb:Nat)(w:World)(e:Ending)(w':World):Prop:=e = .returned (.bool r.1)/\w.grownBy w' (some lb)/\w'.heap[lb]? = some (.cells #[.int .i64 r.2] 3 (0,0))
mutual
def A4:Vl->Prop
 | .mk _ n s l ks=>(s.size<=9223372036854775807/\inR n=true)/\l.length<=140737488355328/\ks.length<=140737488355328/\(∀s∈ks,s.size<=9223372036854775807)/\Bk l
def Bk:List Vl->Prop
 | []=>True
 | v::t=>A4 v/\Bk t
end
theorem smallVs_mem:∀{l:List Vl} {x:Vl},Bk l->x∈l->A4 x
 | _::_,_,h,.head _=>h.1
 | _::_,_,h,.tail _ hm=>smallVs_mem h.2 hm
def MayC(v:Vl):Prop:=∀(F:Nat->Prop) (d m:Int) (lb:Nat) (a1:Option Addr) (c1:Nat) (a2:Option Addr) (c2:Nat) (w:World),(∀b,F b->b≠lb)->1<=d->d<=61->0<=m->m<=20000->w.heap[lb]? = some (.cells #[.int .i64 m] 3 (0,0)) ->
 Ag F w a1 (A5 v.items)->Ag F w a2 (Bc v.keys)->Calls Tryz.prog 38 #[B7 v.kind v.num v.str a1 v.items.length c1 a2 v.keys.length c2,.int .i64 d,.pointer (some ⟨lb,0,none⟩)] w (PMay (mayV v d m) lb w)
def PMay1(r:Bool×Int)(lb:Nat)(w:World)(e:Ending)(w':World):Prop:=e = .returned (.bool (!r.1))/\w.grownBy w' (some lb)/\w'.heap[lb]? = some (.cells #[.int .i64 r.2] 3 (0,0))
theorem may1_any(v)(hv:MayC v)(F d m lb bd bt a1 c1 a2 c2 w)(hF:∀b,F b->b≠lb)(hd0:1<=d)(hd1:d<=60)(hm0:0<=m)(hm1:m<=20000)(hl:w.heap[lb]? = some (.cells #[.int .i64 m] 3 (0,0)))(hd:w.heap[bd]? = some (.cells #[.int .i64 d] 3 (0,0)))(ht:w.heap[bt]? = some (.cells #[.pointer (some ⟨lb,0,none⟩)] 91 (0,0)))(hr1:Ag F w a1 (A5 v.items))(hr2:Ag F w a2 (Bc v.keys)):
  Calls Tryz.prog 65 #[B7 v.kind v.num v.str a1 v.items.length c1 a2 v.keys.length c2,.pointer (some ⟨bd,0,none⟩),.pointer (some ⟨bt,0,none⟩)] w (PMay1 (mayV v (d+1) m) lb w):=by
 obtain⟨d0,d1⟩:=Ap hd;obtain⟨p0,p1⟩:=Ap ht;have aC:Below w.heap.size w (w.alloc (.cells #[.int .i64 v.kind,.int .i64 v.num,.string v.str,.slice a1 v.items.length c1,.slice a2 v.keys.length c2] 25)):=(bRf _ w).alloc (nlr _) _;have Hc:=Lq7 (hv F (d+1) m lb a1 c1 a2 c2 _ hF (by omega) (by omega) hm0 hm1 ((aC.block _ (Array.getElem?_eq_some_iff.1 hl).1).trans hl) (hr1.below aC) (hr2.below aC));have aD:=Lq7 aC;unfold B7 at Hc |-;go_enter Tryz.func65,Tryz.ntmps65;go_wp2_with fail;refine Hc.out.mono ?_;rintro e w1 ⟨rfl,hg,hl⟩;have HG:=Lq7 (aIn (Ae (Bh aD.out) hg) hl);go_wp2_with fail;go_ret;exact⟨rfl,HG.out.1,HG.out.2⟩
structure MayW(k n:Int)(s:ByteArray)(a1:Option Addr)(l1 c1:Nat)(a2:Option Addr)(l2 c2:Nat)(d m:Int)(lb:Nat)(w W:World):Prop where
 size:w.heap.size+3<=W.heap.size
 lbl:lb<w.heap.size
 left:W.heap[lb]? = some (.cells #[.int .i64 m] 3 (0,0))
 a:W.heap[w.heap.size]? = some (.cells #[.int .i64 k,.int .i64 n,.string s,.slice a1 l1 c1,.slice a2 l2 c2] 25 (0,0))
 b:W.heap[w.heap.size+1]? = some (.cells #[.int .i64 d] 3 (0,0))
 c:W.heap[w.heap.size+1+1]? = some (.cells #[.pointer (some ⟨lb,0,none⟩)] 91 (0,0))
 grown:w.grownBy W (some lb)
theorem mayW{k n s a1 l1 c1 a2 l2 c2 d m m' lb w}(hb:w.heap[lb]? = some (.cells #[.int .i64 m] 3 (0,0))):
  MayW k n s a1 l1 c1 a2 l2 c2 d m' lb w ((((w.setCell ⟨lb,0,none⟩ (.int .i64 m')).alloc (.cells #[.int .i64 k,.int .i64 n,.string s,.slice a1 l1 c1,.slice a2 l2 c2] 25)).alloc (.cells #[.int .i64 d] 3)).alloc (.cells #[.pointer (some ⟨lb,0,none⟩)] 91)):=by
 have aJ:=(Array.getElem?_eq_some_iff.1 hb).1;have hsz:(w.setCell ⟨lb,0,none⟩ (.int .i64 m')).heap.size=w.heap.size:=(by simp);have h0:=Al hb 0 (.int .i64 m');generalize hw1:w.setCell ⟨lb,0,none⟩ (.int .i64 m')=w1 at hsz h0 |-;have hg:w.grownBy w1 (some lb):=(by rw[<-hw1];exact D3 (Dd _ _) 0 _);have hs:w.heap.size=w1.heap.size:=hsz.symm;refine⟨by simp[hs],aJ,?_,?_,?_,?_,?_⟩
 ·rw[Below.heap_alloc _ _ _ (by simp;omega),Below.heap_alloc _ _ _ (by simp;omega),Below.heap_alloc _ _ _ (by omega)];exact h0
 ·rw[hs,Below.heap_alloc _ _ _ (by simp;omega),Below.heap_alloc _ _ _ (by simp)];exact heap_alloc_new w1 _
 ·rw[hs,Below.heap_alloc _ _ _ (by simp)];have:=heap_alloc_new (w1.alloc (.cells #[.int .i64 k,.int .i64 n,.string s,.slice a1 l1 c1,.slice a2 l2 c2] 25)) (.cells #[.int .i64 d] 3)
  simpa using this
 ·rw[hs];have:=heap_alloc_new ((w1.alloc (.cells #[.int .i64 k,.int .i64 n,.string s,.slice a1 l1 c1,.slice a2 l2 c2] 25)).alloc (.cells #[.int .i64 d] 3)) (.cells #[.pointer (some ⟨lb,0,none⟩)] 91)
  simpa using this
 ·exact Ef (Ef (Ef hg _) _) _
theorem MayW.below{k n s a1 l1 c1 a2 l2 c2 d m lb w W W'}(h:MayW k n s a1 l1 c1 a2 l2 c2 d m lb w W)(hb:Below W.heap.size W W'):MayW k n s a1 l1 c1 a2 l2 c2 d m lb w W':=by
 have hs:=h.size;have hl:=h.lbl;exact⟨nlt hs hb.size,hl,(hb.block _ (by omega)).trans h.left,(hb.block _ (by omega)).trans h.a,(hb.block _ (by omega)).trans h.b,(hb.block _ (by omega)).trans h.c,Ae h.grown (Bh hb)⟩
theorem D6{α:Type}(l:List α):l.isEmpty=(((0:Nat):Int)==(l.length:Int)):=by cases l<;>simp;omega
theorem F8(s:ByteArray):s.toList.isEmpty=((⟨#[]⟩:ByteArray).toList==s.toList):=by
 rw[Lq8,Lq8];cases s.data.toList<;>rfl
theorem str_self(s:ByteArray):(s.toList==s.toList)=true:=beq_self_eq_true _
theorem nodeOk0(n s l ks):Bf 0 n s l ks=(true&&((0:Int)==n)&&((⟨#[]⟩:ByteArray).toList==s.toList)&&(((0:Nat):Int)==(l.length:Int))&&(((0:Nat):Int)==(ks.length:Int))):=by
 rw[<-D6,<-D6,<-F8];unfold Bf;rw[if_pos rfl,Bool.true_and,Bool.beq_comm (a:=n)]
theorem Ra(n s l ks):Bf 1 n s l ks=((n==0||n==1)&&(n==n)&&((⟨#[]⟩:ByteArray).toList==s.toList)&&(((0:Nat):Int)==(l.length:Int))&&(((0:Nat):Int)==(ks.length:Int))):=by
 rw[<-D6,<-D6,<-F8];unfold Bf;rw[if_neg (by decide),if_pos rfl,beq_self_eq_true,Bool.and_true]
theorem nodeOk2(n s l ks)(h:inR n=true):Bf 2 n s l ks=(true&&(n==n)&&((⟨#[]⟩:ByteArray).toList==s.toList)&&(((0:Nat):Int)==(l.length:Int))&&(((0:Nat):Int)==(ks.length:Int))):=by
 rw[<-D6,<-D6,<-F8];unfold Bf;rw[if_neg (by decide),if_neg (by decide),if_pos rfl,beq_self_eq_true,Bool.true_and,h]
theorem nodeOk3(n s l ks):Bf 3 n s l ks=(decide (s.size<=65536)&&((0:Int)==n)&&(s.toList==s.toList)&&(((0:Nat):Int)==(l.length:Int))&&(((0:Nat):Int)==(ks.length:Int))):=by
 rw[<-D6,<-D6,str_self];unfold Bf;rw[if_neg (by decide),if_neg (by decide),if_neg (by decide),if_pos rfl,Bool.and_true,Bool.beq_comm (a:=n),Bool.and_comm ((0:Int)==n)]
theorem nodeOk4(n s l ks):Bf 4 n s l ks=(decide (l.length<=1000)&&((0:Int)==n)&&((⟨#[]⟩:ByteArray).toList==s.toList)&&((l.length:Int)==(l.length:Int))&&(((0:Nat):Int)==(ks.length:Int))):=by
 rw[<-D6,<-F8,beq_self_eq_true];unfold Bf;rw[if_neg (by decide),if_neg (by decide),if_neg (by decide),if_neg (by decide),if_pos rfl,Bool.and_true,Bool.beq_comm (a:=n)];cases ((0:Int)==n)<;>cases s.toList.isEmpty<;>cases decide (l.length<=1000)<;>rfl
theorem Rb(n s l ks):Bf 5 n s l ks=(((l.length==ks.length)&&risesL ks)&&((0:Int)==n)&&((⟨#[]⟩:ByteArray).toList==s.toList)&&((l.length:Int)==(l.length:Int))&&((ks.length:Int)==(ks.length:Int))):=by
 rw[<-F8,beq_self_eq_true,beq_self_eq_true];unfold Bf;rw[if_neg (by decide),if_neg (by decide),if_neg (by decide),if_neg (by decide),if_neg (by decide),if_pos rfl,Bool.and_true,Bool.and_true,Bool.beq_comm (a:=n)];cases ((0:Int)==n)<;>cases s.toList.isEmpty<;>cases (l.length==ks.length)<;>cases risesL ks<;>rfl
theorem nodeOkx{k}(n s l ks)(h:k≠0/\k≠1/\k≠2/\k≠3/\k≠4/\k≠5):Bf k n s l ks=false:=by
 unfold Bf;rw[if_neg h.1,if_neg h.2.1,if_neg h.2.2.1,if_neg h.2.2.2.1,if_neg h.2.2.2.2.1,if_neg h.2.2.2.2.2]
theorem may_node(k n s l ks F d m lb a1 c1 a2 c2 w)(hd0:1<=d)(hd1:d<=61)(hm0:0<=m)(hm1:m<=20000)(hb:w.heap[lb]? = some (.cells #[.int .i64 m] 3 (0,0)))(hr1:Ag F w a1 (A5 l))(hr2:Ag F w a2 (Bc ks))(hF:∀b,F b->b≠lb)(hll:l.length<=140737488355328)(hkl:ks.length<=140737488355328)(hks:∀s∈ks,s.size<=9223372036854775807)(hsl:s.size<=9223372036854775807)(hit:∀x∈l,MayC x)(hin:inR n=true):
  Calls Tryz.prog 38 #[B7 k n s a1 l.length c1 a2 ks.length c2,.int .i64 d,.pointer (some ⟨lb,0,none⟩)] w (PMay (mayV (.mk k n s l ks) d m) lb w):=by
 obtain⟨aJ,hc,hf⟩:=A3 hb;have q0:=hc 0;have z0:=hf 0;simp at q0;have Hb:=Lq7 hb;have Hks:=Lq7 hks;have HF:=Lq7 hF;have Hit:=Lq7 hit;have HIn:=Lq7 hin;clear hc hf hb hks hF hit hin;have g1:lb<w.heap.size+1:=(by omega);have g2:lb<w.heap.size+1+1:=(by omega);have g3:lb<w.heap.size+1+1+1:=(by omega);unfold B7;go_enter Tryz.func38,Tryz.ntmps38
 go_upto_region 2 with fail
 have HW:=Lq7 (mayW (k:=k) (n:=n) (s:=s) (a1:=a1) (l1:=l.length) (c1:=c1) (a2:=a2) (l2:=ks.length) (c2:=c2) (d:=d) (m':=m - 1) Hb.out);generalize hW:World.alloc _ _=W at HW |-;clear hW q0 z0 g1 g2 g3 aJ;have Hr1:=Lq7 hr1;have Hr2:=Lq7 hr2;clear hr1 hr2;by_cases hdeep:d>60
 ·have Hr:Hid (mayV (.mk k n s l ks) d m=(false,m - 1)):=Lq7 (by rw[mayV,if_pos (.inl (by omega))]);obtain⟨b0,b1⟩:=Ap HW.out.b;go_wp2;go_ret;rw[Hr.out];exact⟨rfl,HW.out.grown,HW.out.left⟩
 ·by_cases hneg:m - 1<0
  ·have Hr:Hid (mayV (.mk k n s l ks) d m=(false,m - 1)):=Lq7 (by rw[mayV,if_pos (.inr hneg)]);obtain⟨b0,b1⟩:=Ap HW.out.b;obtain⟨p0,p1⟩:=Ap HW.out.c;obtain⟨r0,r1⟩:=Ap HW.out.left;go_wp2;go_ret;rw[Hr.out];exact⟨rfl,HW.out.grown,HW.out.left⟩
  ·have Hr:Hid (mayV (.mk k n s l ks) d m=if Bf k n s l ks=true then B4 l (d+1) (m - 1) else(false,m - 1)):=Lq7 (by rw[mayV,if_neg (by omega)]);obtain⟨b0,b1⟩:=Ap HW.out.b;obtain⟨p0,p1⟩:=Ap HW.out.c;obtain⟨r0,r1⟩:=Ap HW.out.left;obtain⟨t0,t1,t2,t3,t4,t5,t6,t7,t8,t9,aN⟩:=Aa HW.out.a;have HU:=Lq7 ((bRf _ W).alloc (nlr _) (.cells #[.int .i64 k,.int .i64 0,.string ⟨#[]⟩,.slice none 0 0,.slice none 0 0] 25))
   go_upto_block 0 with fail
   clear b0 b1 p0 p1 r0 r1
   go_cut [8] from 27 (fun rv wc=>∃(rt:Bool) (bn:Int) (bs:ByteArray) (a3:Option Addr) (l3 c3:Nat) (a4:Option Addr) (l4 c4:Nat),rv = .bool rt/\Hid (wc.heap[W.heap.size]? = some (.cells #[.int .i64 k,.int .i64 bn,.string bs,.slice a3 l3 c3,.slice a4 l4 c4] 25 (0,0))/\Below W.heap.size W wc /\
    Bf k n s l ks=(rt&&(bn==n)&&(bs.toList==s.toList)&&((l3:Int)==(l.length:Int))&&((l4:Int)==(ks.length:Int)))))
   case first=>
    have HA:Hid (True/\∀W',Below W.heap.size W W'->W'.heap[w.heap.size]? = some (.cells #[.int .i64 k,.int .i64 n,.string s,.slice a1 l.length c1,.slice a2 ks.length c2] 25 (0,0))):=Lq7 ⟨trivial,fun W' hb=>(hb.block _ (by have:=HW.out.size;omega)).trans HW.out.a⟩;have HS2:Hid (∀W',Below W.heap.size W W'->B9 W' a2 ks):=Lq7 (fun W' hb=>((Hr2.out.mono (w':=W') (G:=fun _=>True) fun b hF hl=>⟨trivial,by have:=HW.out.grown.size;have:=hb.size;omega,(hb.block b (by have:=HW.out.grown.size;omega)).trans (HW.out.grown.block b hl (fun e=>by cases e;exact HF.out _ hF rfl))⟩).strs));by_cases h0:k=0
    ·subst h0;go_wp2_with fail;go_meet
     case rel=>exact⟨true,0,⟨#[]⟩,none,0,0,none,0,0,rfl,Lq7 ⟨heap_alloc_new W _,HU.out,nodeOk0 n s l ks⟩⟩
    ·
     by_cases h1:k=1
     ·subst h1;cases hn:(n==0)
      ·go_wp2_with fail;refine A8 (.s 0 (.s 1 (.s 2 (.s 3 (.s 4 (.s 5 (.s 6 (.s 7 (.s 8 (.s 9 (.s 10 (.h 11 (.s 12 .nil))))))))))))) 99 (fun W'=>W'.heap[w.heap.size]? = some (.cells #[.int .i64 1,.int .i64 n,.string s,.slice a1 l.length c1,.slice a2 ks.length c2] 25 (0,0))) (HA.out.2 _ HU.out.drew) ?_;refine A2 (.pointer (some ⟨w.heap.size,1,none⟩)) ?_;refine A2 (.int .i64 n) ?_;refine A2 (.pointer (some ⟨w.heap.size,1,none⟩)) ?_;refine A2 (.int .i64 n) ?_;refine A2 (.bool false) ?_;refine A2 (.bool false) ?_;refine A2 (.pointer (some ⟨w.heap.size,1,none⟩)) ?_;refine A2 (.int .i64 n) ?_;refine A2 (.bool (n==1)) ?_;refine A2 (.bool (n==1)) ?_;refine A2 (.pointer (some ⟨W.heap.size,1,none⟩)) ?_;refine Ac rfl (fun Kx aA=>?_);go_wp2_with fail;refine aA _ _ (fun _=>HA.out.2 _ (by first|exact HU.out.drew|exact((bRf _ W).alloc (nlr _) _).drew)) ?_;skip;refine A2 (.bool (n==1)) ?_;refine Ao ?_;go_wp2_with fail;go_meet
       case rel=>exact⟨(n==1),n,⟨#[]⟩,none,0,0,none,0,0,rfl,Lq7 ⟨heap_alloc_new W _,((bRf _ W).alloc (nlr _) _).drew,(by have h:=Ra n s l ks;rw[hn,Bool.false_or] at h;exact h)⟩⟩
      ·go_wp2_with fail;refine A8 (.s 0 (.s 1 (.s 2 (.s 3 (.s 4 (.s 5 (.s 6 (.s 7 (.s 8 (.s 9 (.s 10 (.h 11 (.s 12 .nil))))))))))))) 99 (fun W'=>W'.heap[w.heap.size]? = some (.cells #[.int .i64 1,.int .i64 n,.string s,.slice a1 l.length c1,.slice a2 ks.length c2] 25 (0,0))) (HA.out.2 _ HU.out.drew) ?_;refine A2 (.pointer (some ⟨w.heap.size,1,none⟩)) ?_;refine A2 (.int .i64 n) ?_;refine A2 (.pointer (some ⟨w.heap.size,1,none⟩)) ?_;refine A2 (.int .i64 n) ?_;refine A2 (.bool true) ?_;refine A2 (.bool true) ?_;refine Aq rfl rfl ?_;simp only[gX,aP];refine Aq rfl rfl ?_;simp only[gX,aP];refine Aq rfl rfl ?_;simp only[gX,aP];refine A2 (.bool true) ?_;refine A2 (.pointer (some ⟨W.heap.size,1,none⟩)) ?_;refine Ac rfl (fun Kx aA=>?_);go_wp2_with fail;refine aA _ _ (fun _=>HA.out.2 _ (by first|exact HU.out.drew|exact((bRf _ W).alloc (nlr _) _).drew)) ?_;skip;refine A2 (.bool true) ?_;refine Ao ?_;go_wp2_with fail;go_meet
       case rel=>exact⟨true,n,⟨#[]⟩,none,0,0,none,0,0,rfl,Lq7 ⟨heap_alloc_new W _,((bRf _ W).alloc (nlr _) _).drew,(by have h:=Ra n s l ks;rw[hn,Bool.true_or] at h;exact h)⟩⟩
     ·
      by_cases h2:k=2
      ·subst h2;go_wp2_with fail;go_meet
       case rel=>exact⟨true,n,⟨#[]⟩,none,0,0,none,0,0,rfl,Lq7 ⟨heap_alloc_new W _,(bRf _ W).alloc (nlr _) _,nodeOk2 n s l ks HIn.out⟩⟩
      ·
       by_cases h3:k=3
       ·subst h3;go_wp2_with fail;refine A8 (.s 0 (.s 1 (.s 2 (.s 3 (.s 4 (.s 5 (.s 6 (.h 7 (.s 8 .nil))))))))) 99 (fun W'=>W'.heap[w.heap.size]? = some (.cells #[.int .i64 3,.int .i64 n,.string s,.slice a1 l.length c1,.slice a2 ks.length c2] 25 (0,0))) (HA.out.2 _ HU.out.drew) ?_;refine A2 (.pointer (some ⟨w.heap.size,2,none⟩)) ?_;refine A2 (.string s) ?_;refine A2 (.pointer (some ⟨w.heap.size,2,none⟩)) ?_;refine A2 (.string s) ?_;refine A2 (.int .i64 (s.size:Int)) ?_;refine A2 (.bool (decide ((s.size:Int)<=65536))) ?_;refine A2 (.pointer (some ⟨W.heap.size,2,none⟩)) ?_;refine Ac rfl (fun Kx aA=>?_);go_wp2_with fail;refine aA _ _ (fun _=>HA.out.2 _ (by first|exact HU.out.drew|exact((bRf _ W).alloc (nlr _) _).drew)) ?_;skip;refine A2 (.bool (decide ((s.size:Int)<=65536))) ?_;refine Ao ?_;go_wp2_with fail;go_meet
        case rel=>exact⟨(decide ((s.size:Int)<=65536)),0,s,none,0,0,none,0,0,rfl,Lq7 ⟨heap_alloc_new W _,((bRf _ W).alloc (nlr _) _).drew,(by have h:=nodeOk3 n s l ks;rw[show decide (s.size<=65536)=decide ((s.size:Int)<=65536) from decide_eq_decide.2 (by omega)] at h;exact h)⟩⟩
       ·
        by_cases h4:k=4
        ·subst h4;go_wp2_with fail;refine A8 (.s 0 (.s 1 (.s 2 (.s 3 (.s 4 (.s 5 (.s 6 (.h 7 (.s 8 .nil))))))))) 99 (fun W'=>W'.heap[w.heap.size]? = some (.cells #[.int .i64 4,.int .i64 n,.string s,.slice a1 l.length c1,.slice a2 ks.length c2] 25 (0,0))) (HA.out.2 _ HU.out.drew) ?_;refine A2 (.pointer (some ⟨w.heap.size,3,none⟩)) ?_;refine A2 (.slice a1 l.length c1) ?_;refine A2 (.pointer (some ⟨w.heap.size,3,none⟩)) ?_;refine A2 (.slice a1 l.length c1) ?_;refine A2 (.int .i64 (l.length:Int)) ?_;refine A2 (.bool (decide ((l.length:Int)<=1000))) ?_;refine A2 (.pointer (some ⟨W.heap.size,3,none⟩)) ?_;refine Ac rfl (fun Kx aA=>?_);go_wp2_with fail;refine aA _ _ (fun _=>HA.out.2 _ (by first|exact HU.out.drew|exact((bRf _ W).alloc (nlr _) _).drew)) ?_;skip;refine A2 (.bool (decide ((l.length:Int)<=1000))) ?_;refine Ao ?_;go_wp2_with fail;go_meet
         case rel=>exact⟨(decide ((l.length:Int)<=1000)),0,⟨#[]⟩,a1,l.length,c1,none,0,0,rfl,Lq7 ⟨heap_alloc_new W _,((bRf _ W).alloc (nlr _) _).drew,(by have h:=nodeOk4 n s l ks;rw[show decide (l.length<=1000)=decide ((l.length:Int)<=1000) from decide_eq_decide.2 (by omega)] at h;exact h)⟩⟩
        ·
         by_cases h5:k=5
         ·subst h5;by_cases hle:l.length=ks.length
          ·have He:Hid ((l.length==ks.length)=true):=Lq7 (by simp[hle]);have aQ:=Lq7 hle;simp only[hle] at HA t4;clear hle;go_wp2_with fail;refine A8 (.s 0 (.s 1 (.s 2 (.s 3 (.s 4 (.s 5 (.s 6 (.s 7 (.s 8 (.s 9 (.s 10 (.s 11 (.s 12 (.s 13 (.s 16 (.h 14 (.s 15 (.h 17 (.s 18 (.h 19 (.s 20 .nil))))))))))))))))))))) 99 (fun W'=>W'.heap[w.heap.size]? = some (.cells #[.int .i64 5,.int .i64 n,.string s,.slice a1 ks.length c1,.slice a2 ks.length c2] 25 (0,0))) (HA.out.2 _ HU.out.drew) ?_;refine A2 (.pointer (some ⟨w.heap.size,3,none⟩)) ?_;refine A2 (.slice a1 ks.length c1) ?_;refine A2 (.pointer (some ⟨w.heap.size,4,none⟩)) ?_;refine A2 (.slice a2 ks.length c2) ?_;refine A2 (.pointer (some ⟨w.heap.size,3,none⟩)) ?_;refine A2 (.slice a1 ks.length c1) ?_;refine A2 (.int .i64 ks.length) ?_;refine A2 (.pointer (some ⟨w.heap.size,4,none⟩)) ?_;refine A2 (.slice a2 ks.length c2) ?_;refine A2 (.int .i64 ks.length) ?_;refine A2 (.bool true) ?_;refine A2 (.bool true) ?_;refine A2 (.pointer (some ⟨w.heap.size,4,none⟩)) ?_;refine A2 (.slice a2 ks.length c2) ?_;refine A2 (.pointer (some ⟨W.heap.size,3,none⟩)) ?_;refine Ac rfl (fun Kx aA=>?_);go_wp2_with fail;refine(S8 a2 c2 ks _ ((HS2.out _ HU.out.drew)) hkl Hks.out).mono ?_;rintro e w1 ⟨rfl,rfl⟩;go_wp2_with fail;refine aA _ _ (fun _=>HA.out.2 _ (by first|exact HU.out.drew|exact((bRf _ W).alloc (nlr _) _).drew)) ?_;skip;refine A2 (.bool (risesL ks)) ?_;refine Ac rfl (fun Kx aA=>?_);go_wp2_with fail;refine aA _ _ (fun _=>HA.out.2 _ (by first|exact HU.out.drew|exact((bRf _ W).alloc (nlr _) _).drew)) ?_;skip;refine A2 (.pointer (some ⟨W.heap.size,4,none⟩)) ?_;refine Ac rfl (fun Kx aA=>?_);go_wp2_with fail;refine aA _ _ (fun _=>HA.out.2 _ (by first|exact HU.out.drew|exact((bRf _ W).alloc (nlr _) _).drew)) ?_;skip;refine A2 (.bool (risesL ks)) ?_;refine Ao ?_;go_wp2_with fail;go_meet
           case rel=>exact⟨(risesL ks),0,⟨#[]⟩,a1,ks.length,c1,a2,ks.length,c2,rfl,Lq7 ⟨heap_alloc_new W _,((bRf _ W).alloc (nlr _) _).drew,(by have h:=Rb n s l ks;rw[He.out,Bool.true_and,aQ.out] at h;rw[aQ.out];exact h)⟩⟩
          ·have he:((l.length:Int)==(ks.length:Int))=false:=(by simp;omega);have He:Hid ((l.length==ks.length)=false):=Lq7 (by simp[hle]);clear hle;go_wp2_with fail;refine A8 (.s 0 (.s 1 (.s 2 (.s 3 (.s 4 (.s 5 (.s 6 (.s 7 (.s 8 (.s 9 (.s 10 (.s 11 (.s 12 (.s 13 (.s 16 (.h 14 (.s 15 (.h 17 (.s 18 (.h 19 (.s 20 .nil))))))))))))))))))))) 99 (fun W'=>W'.heap[w.heap.size]? = some (.cells #[.int .i64 5,.int .i64 n,.string s,.slice a1 l.length c1,.slice a2 ks.length c2] 25 (0,0))) (HA.out.2 _ HU.out.drew) ?_;refine A2 (.pointer (some ⟨w.heap.size,3,none⟩)) ?_;refine A2 (.slice a1 l.length c1) ?_;refine A2 (.pointer (some ⟨w.heap.size,4,none⟩)) ?_;refine A2 (.slice a2 ks.length c2) ?_;refine A2 (.pointer (some ⟨w.heap.size,3,none⟩)) ?_;refine A2 (.slice a1 l.length c1) ?_;refine A2 (.int .i64 l.length) ?_;refine A2 (.pointer (some ⟨w.heap.size,4,none⟩)) ?_;refine A2 (.slice a2 ks.length c2) ?_;refine A2 (.int .i64 ks.length) ?_;refine A2 (.bool false) ?_;refine A2 (.bool false) ?_;refine Aq rfl rfl ?_;simp only[gX,aP];refine Aq rfl rfl ?_;simp only[gX,aP];refine A2 (.pointer (some ⟨W.heap.size,3,none⟩)) ?_;refine Ac rfl (fun Kx aA=>?_);go_wp2_with fail;refine aA _ _ (fun _=>HA.out.2 _ (by first|exact HU.out.drew|exact((bRf _ W).alloc (nlr _) _).drew)) ?_;skip;refine A2 (.bool false) ?_;refine Ac rfl (fun Kx aA=>?_);go_wp2_with fail;refine aA _ _ (fun _=>HA.out.2 _ (by first|exact HU.out.drew|exact((bRf _ W).alloc (nlr _) _).drew)) ?_;skip;refine A2 (.pointer (some ⟨W.heap.size,4,none⟩)) ?_;refine Ac rfl (fun Kx aA=>?_);go_wp2_with fail;refine aA _ _ (fun _=>HA.out.2 _ (by first|exact HU.out.drew|exact((bRf _ W).alloc (nlr _) _).drew)) ?_;skip;refine A2 (.bool false) ?_;refine Ao ?_;go_wp2_with fail;go_meet
           case rel=>exact⟨false,0,⟨#[]⟩,a1,l.length,c1,a2,ks.length,c2,rfl,Lq7 ⟨heap_alloc_new W _,((bRf _ W).alloc (nlr _) _).drew,(by have h:=Rb n s l ks;rw[He.out,Bool.false_and] at h;exact h)⟩⟩
         ·
          have e0:(k==0)=false:=(by simpa using h0);have e1:(k==1)=false:=(by simpa using h1);have e2:(k==2)=false:=(by simpa using h2);have e3:(k==3)=false:=(by simpa using h3);have e4:(k==4)=false:=(by simpa using h4);have e5:(k==5)=false:=(by simpa using h5);have Hx:Hid (mayV (.mk k n s l ks) d m=(false,m - 1)):=Lq7 (by rw[Hr.out,nodeOkx n s l ks ⟨h0,h1,h2,h3,h4,h5⟩];rfl);clear h0 h1 h2 h3 h4 h5;go_wp2_with fail;go_ret;rw[Hx.out];exact⟨rfl,Ae HW.out.grown (Bh HU.out),(HU.out.block _ (by have:=HW.out.size;have:=HW.out.lbl;omega)).trans HW.out.left⟩
   case rest=>
    obtain⟨rt,bn,bs,a3,l3,c3,a4,l4,c4,hrv,Hc⟩:=hcut;subst hrv;rename World=>wc;have aB:=Lq7 (HW.out.below Hc.out.2.1);have aF:Hid (Bf k n s l ks=false->Hid (mayV (.mk k n s l ks) d m=(false,m - 1))):=Lq7 (fun h=>Lq7 (by rw[Hr.out,h];rfl));clear t0 t1 t2 t3 t4 t5 t6 t7 t8 t9 aN;obtain⟨t0,t1,t2,t3,t4,t5,t6,t7,t8,t9,aN⟩:=Aa aB.out.a;obtain⟨u0,u1,u2,u3,u4,u5,u6,u7,u8,u9,u10⟩:=Aa Hc.out.1;cases rt
    ·have h9:Bf k n s l ks=false:=(by rw[Hc.out.2.2];rfl);have Hx:=aF.out h9;clear h9;go_wp2_with fail;go_ret;rw[Hx.out];exact⟨rfl,Ae HW.out.grown (Bh Hc.out.2.1),aB.out.left⟩
    ·cases hn:(bn==n)
     ·have hn':(bn != n)=true:=(by simp[bne,hn]);have h9:Bf k n s l ks=false:=(by rw[Hc.out.2.2,hn];simp);have Hx:=aF.out h9;clear h9;go_wp2_with fail;go_ret;rw[Hx.out];exact⟨rfl,Ae HW.out.grown (Bh Hc.out.2.1),aB.out.left⟩
     ·have hn':(bn != n)=false:=(by simp[bne,hn]);cases hs:(bs.toList==s.toList)
      ·have hs':(bs.toList != s.toList)=true:=(by simp[bne,hs]);have h9:Bf k n s l ks=false:=(by rw[Hc.out.2.2,hs];simp);have Hx:=aF.out h9;clear h9;go_wp2_with fail;go_ret;rw[Hx.out];exact⟨rfl,Ae HW.out.grown (Bh Hc.out.2.1),aB.out.left⟩
      ·have hs':(bs.toList != s.toList)=false:=(by simp[bne,hs]);cases hl3:((l3:Int)==(l.length:Int))
       ·have hl3':((l3:Int) != (l.length:Int))=true:=(by simp[bne,hl3]);have h9:Bf k n s l ks=false:=(by rw[Hc.out.2.2,hl3];simp);have Hx:=aF.out h9;clear h9;go_wp2_with fail;go_ret;rw[Hx.out];exact⟨rfl,Ae HW.out.grown (Bh Hc.out.2.1),aB.out.left⟩
       ·have hl3':((l3:Int) != (l.length:Int))=false:=(by simp[bne,hl3]);cases hl4:((l4:Int)==(ks.length:Int))
        ·have hl4':((l4:Int) != (ks.length:Int))=true:=(by simp[bne,hl4]);have h9:Bf k n s l ks=false:=(by rw[Hc.out.2.2,hl4];simp);have Hx:=aF.out h9;clear h9;go_wp2_with fail;go_ret;rw[Hx.out];exact⟨rfl,Ae HW.out.grown (Bh Hc.out.2.1),aB.out.left⟩
        ·have hl4':((l4:Int) != (ks.length:Int))=false:=(by simp[bne,hl4]);have aG:Hid (mayV (.mk k n s l ks) d m=B4 l (d+1) (m - 1)):=Lq7 (by rw[Hr.out,if_pos (by rw[Hc.out.2.2,hn,hs,hl3,hl4];rfl)]);have hmf:∀(fn:Fn) (first cap:Array Value) (w:World),(Instr.makeFunc fn first cap).run Tryz.prog w = .ok (.func fn first cap) w:=fun _ _ _ _=>rfl;have aM:=aB.out.grown;have Hcf:=Lq7 (I3 F 65 #[] #[.pointer (some ⟨w.heap.size+1,0,none⟩),.pointer (some ⟨w.heap.size+1+1,0,none⟩)] (by intro args w;rfl) a1 c1 l (mayQ (d+1) l (m - 1))
          (fun j W'=>wc.grownBy W' (some lb)/\W'.heap[lb]? = some (.cells #[.int .i64 (Du (d+1) l (m - 1) j)] 3 (0,0))) wc (by omega) ⟨Dd _ _,by rw[D1];exact aB.out.left⟩
          (fun j W' h=>Hr1.out.mono (fun b hF hl=>⟨hF,nll hl (Ae aM h.1).size,(Ae aM h.1).block b hl (fun e=>by cases e;exact HF.out _ hF rfl)⟩))
          (fun j kk kn ks' km kks b1 e1 b2 e2 W' hj hI hq hr1 hr2=>by
           have hlo:=Mp (d+1) l (m - 1) j (by omega) (fun i hi hil=>hq i hi);have hsz:=aB.out.size;have hlbl:=aB.out.lbl;have hx:MayC (.mk kk kn ks' km kks):=Hit.out _ (lgM hj);refine(may1_any (.mk kk kn ks' km kks) hx F d (Du (d+1) l (m - 1) j) lb (w.heap.size+1) (w.heap.size+1+1) b1 e1 b2 e2 W' HF.out hd0 (by omega) hlo.1 (by omega) hI.2
            ((hI.1.block _ (by omega) (fun e=>by cases e;omega)).trans aB.out.b) ((hI.1.block _ (by omega) (fun e=>by cases e;omega)).trans aB.out.c) hr1 hr2).mono ?_
           rintro e w2 ⟨rfl,hg2,hl2⟩;have hq':mayQ (d+1) l (m - 1) j = !(mayV (.mk kk kn ks' km kks) (d+1) (Du (d+1) l (m - 1) j)).1:=(by unfold mayQ;rw[hj]);exact⟨by rw[hq'],Ae hI.1 hg2,by rw[J1 _ _ _ _ _ hj];exact hl2⟩))
         clear aM;go_wp2_with fail;refine Hcf.out.mono ?_;rintro e w2 (⟨i,hi,aR,hq,rfl,aH⟩|⟨hq,rfl,aH⟩)
         ·have aE:Hid (mayV (.mk k n s l ks) d m=(false,Du (d+1) l (m - 1) (i+1))):=Lq7 (by rw[aG.out];exact Mo _ _ _ _ hi aR hq);have aI:=Lq7 aH;clear hi aR hq aH;go_wp2_with fail;go_ret;rw[aE.out];exact⟨rfl,Ae aB.out.grown aI.out.1,aI.out.2⟩
         ·have aE:Hid (mayV (.mk k n s l ks) d m=(true,Du (d+1) l (m - 1) l.length)):=Lq7 (by rw[aG.out];exact Mn _ _ _ hq);have aI:=Lq7 aH;clear hq aH;go_wp2_with fail;go_ret;rw[aE.out];exact⟨rfl,Ae aB.out.grown aI.out.1,aI.out.2⟩
theorem may_all(v):A4 v->MayC v:=
 Vl.rec (motive_1:=fun v=>A4 v->MayC v) (motive_2:=fun l=>Bk l->∀x∈l,MayC x)
  (fun k n s l ks ih hs=>by
   rw[A4] at hs;intro F d m lb a1 c1 a2 c2 w hF hd0 hd1 hm0 hm1 hb hr1 hr2;exact may_node k n s l ks F d m lb a1 c1 a2 c2 w hd0 hd1 hm0 hm1 hb hr1 hr2 hF hs.2.1 hs.2.2.1 hs.2.2.2.1 hs.1.1 (ih hs.2.2.2.2) hs.1.2)
  (fun _ x hx=>by cases hx)
  (fun v t hv ht hs x hx=>by
   rw[Bk] at hs;rcases List.mem_cons.1 hx with rfl|hx
   ·exact hv hs.1
   ·exact ht hs.2 x hx) v
theorem Id(v)(hs:A4 v)(F a1 c1 a2 c2 w)(hF:∀b,F b->b<w.heap.size)(hr1:Ag F w a1 (A5 v.items))(hr2:Ag F w a2 (Bc v.keys)):
  Calls Tryz.prog 21 #[B7 v.kind v.num v.str a1 v.items.length c1 a2 v.keys.length c2] w (fun e w'=>e = .returned (.bool (A7 v))/\Below w.heap.size w w'):=by
 have aC:Below w.heap.size w ((w.alloc (.cells #[.int .i64 v.kind,.int .i64 v.num,.string v.str,.slice a1 v.items.length c1,.slice a2 v.keys.length c2] 25)).alloc (.cells #[.int .i64 20000] 3)):=((bRf _ w).alloc (nlr _) _).alloc (by simp) _;have hl:((w.alloc (.cells #[.int .i64 v.kind,.int .i64 v.num,.string v.str,.slice a1 v.items.length c1,.slice a2 v.keys.length c2] 25)).alloc (.cells #[.int .i64 20000] 3)).heap[w.heap.size+1]? = some (.cells #[.int .i64 20000] 3 (0,0)):=by
  have:=heap_alloc_new (w.alloc (.cells #[.int .i64 v.kind,.int .i64 v.num,.string v.str,.slice a1 v.items.length c1,.slice a2 v.keys.length c2] 25)) (.cells #[.int .i64 20000] 3)
  simpa using this
 have Hc:=Lq7 (may_all v hs F 1 20000 (w.heap.size+1) a1 c1 a2 c2 _ (fun b hb=>by have:=hF b hb;omega) (by omega) (by omega) (by omega) (by omega) hl (hr1.below aC) (hr2.below aC));have aD:=Lq7 aC;unfold B7 at Hc |-;go_enter Tryz.func21,Tryz.ntmps21;go_wp2_with fail;refine Hc.out.mono ?_;rintro e w1 ⟨rfl,hg,-⟩;go_wp2_with fail;go_ret;exact⟨rfl,⟨hg.os.trans aD.out.os,hg.tape.trans aD.out.tape,hg.output.trans aD.out.output,nlt aD.out.size hg.size,fun b hb=>(hg.block b (nll hb aD.out.size) (fun e=>by cases e;omega)).trans (aD.out.block b hb)⟩⟩
section
variable {H:Type} {enc:TypeId×Value->H} {P:Program} {W:World}
theorem Ik{α:Type}(f:α->List Dat)(good:α->Prop){t e:TypeId}(ht:P.underlying t=some (.slice e)){fuel:Nat}{cs:List Value}{d:DataW H}{ps:List MemPlace}
  (hel:∀n us y,n<fuel->DataW.trod enc P W 0 (fun _=>true) true n e us=some y->(∀k∈y.1.weights P e,k<=reachBytes)->∃v,toDat y.1=f v/\good v)
  (h:DataW.trod enc P W 0 (fun _=>true) true fuel t cs=some (d,ps)) (hw:∀k∈d.weights P t,k<=reachBytes):∃l:List α,toDat d=[.row (l.map f)]/\(∀v∈l,good v)/\l.length*P.bytesOf e<=reachBytes:=by
 rcases DataW.trod_slice ht h with⟨rfl,hx⟩|⟨a,len,cap,elems,rest,n,hn,rfl,hx,-,hl,hm,hlen,hl2,-,-⟩
 ·cases hx;exact⟨[],(by rw[toDat];rfl),(fun v hv=>by cases hv),(by simp)⟩
 ·cases hx;cases hn;have hw':∀k∈((elems.map (·.1)).length+(rest.map (·.1)).length)*P.bytesOf e::(DataW.weightsAll P e (elems.map (·.1))++DataW.weightsAll P e (rest.map (·.1))),k<=reachBytes:=by
   intro k hk;refine hw k ?_;rw[DataW.weights,ht];exact hk
  have aA:=hw' _ (lmS ..);have aB:∀(l:List (DataW H)) y,y∈l->∀k∈y.weights P e,k∈DataW.weightsAll P e l:=by
   intro l
   induction l with
   | nil=>intro y hy;cases hy
   | cons z t ih=>
    intro y hy k hk;rw[DataW.weightsAll,List.mem_append];rcases List.mem_cons.1 hy with rfl|hy
    ·exact .inl hk
    ·exact .inr (ih y hy k hk)
  have hex:∀j:Fin elems.length,∃v,toDat elems[j].1=f v/\good v:=by
   intro j;have h1:=hl2 j (by rw[<-hlen];exact j.2);cases hcs:W.cells? 0 (a.add (j*P.cellsOf e)) (P.cellsOf e) with
   | none=>rw[hcs,lgE j.2] at h1;cases h1
   | some us=>
    rw[hcs,lgE j.2] at h1;exact hel n us _ (Nat.lt_succ_self n) h1 (fun k hk=>hw' k (lmO _ (List.mem_append_left _ (aB _ _ (List.mem_map_of_mem (f:=(·.1)) (List.getElem_mem j.2)) k hk))))
  obtain⟨g,hg⟩:=Classical.axiomOfChoice hex;refine⟨List.ofFn g,?_,?_,?_⟩
  ·rw[toDat,Ix]
   congr 2
   apply List.ext_getElem
   ·simp
   ·intro i h1 h2;simp only[List.getElem_map,List.getElem_ofFn];exact(hg ⟨i,by simpa using h1⟩).1
  ·intro v hv;obtain⟨j,rfl⟩:=List.mem_ofFn.1 hv;exact(hg j).2
  ·rw[List.length_ofFn];rw[List.length_map] at aA;exact nlt (Nat.mul_le_mul_right _ (Nat.le_add_right _ _)) aA
theorem J4{t:TypeId}(ht:P.underlying t=some .string){fuel:Nat}{cs:List Value}{d:DataW H}{ps:List MemPlace}(h:DataW.trod enc P W 0 (fun _=>true) true fuel t cs=some (d,ps))(hw:∀k∈d.weights P t,k<=reachBytes):
  ∃s:ByteArray,toDat d=[.one (.string s)]/\s.size<=reachBytes:=by
 obtain⟨s,rfl,hx,-⟩:=DataW.trod_string ht h;cases hx;refine⟨s,by rw[toDat],?_⟩;have:=hw s.data.toList.length (by simp[DataW.weights])
 rwa [Av] at this
theorem J5{q:IntKind}{t:TypeId}(ht:P.underlying t=some (.int q)){fuel:Nat}{cs:List Value}{d:DataW H}{ps:List MemPlace}(h:DataW.trod enc P W 0 (fun _=>true) true fuel t cs=some (d,ps)):
  ∃n:Int,toDat d=[.one (.int q n)]/\(Lit.int q n).wf=true:=by
 obtain⟨n,rfl,hx,hw⟩:=DataW.trod_int ht h;cases hx;exact⟨n,by rw[toDat],hw⟩
end
theorem bytesVal:Tryz.prog.bytesOf 25=80:=by kernel_rfl
theorem bytesStrE:Tryz.prog.bytesOf 9=16:=by kernel_rfl
theorem O8{H}{enc:TypeId×Value->H}{W}:∀(fuel:Nat) (cs:List Value) (d:DataW H) (ps:List MemPlace),DataW.trod enc Tryz.prog W 0 (fun _=>true) true fuel 25 cs=some (d,ps)->(∀k∈d.weights Tryz.prog 25,k<=reachBytes) ->
  ∃v:Vl,toDat d=valD v/\A4 v:=by
 intro fuel
 induction fuel using Nat.strongRecOn with
 | _ fuel ih=>
  intro cs d ps h hw;obtain⟨xs,n,rfl,hx,-,hxl,hf⟩:=DataW.trod_struct Tryz.underlying25 h;cases hx
  match xs,hxl with
  | [y0,y1,y2,y3,y4],_=>
   have e0:=hf 0 _ rfl;have e1:=hf 1 _ rfl;have e2:=hf 2 _ rfl;have e3:=hf 3 _ rfl;have e4:=hf 4 _ rfl;have hwe:∀k∈DataW.weightsEach Tryz.prog [3,2,9,22,23] [y0.1,y1.1,y2.1,y3.1,y4.1],k<=reachBytes:=by
    intro k hk;refine hw k ?_;rw[DataW.weights,Tryz.underlying25];exact hk
   have aC:=fun(j:Nat) (t:TypeId) (y:DataW H) (h1:([3,2,9,22,23]:List TypeId)[j]? = some t) (h2:([y0.1,y1.1,y2.1,y3.1,y4.1]:List (DataW H))[j]? = some y) (k:Nat) (hk:k∈y.weights Tryz.prog t)=>hwe k (DataW.weights_mem_each h1 h2 k hk);obtain⟨k,h0,-⟩:=J5 Tryz.underlying3 (show DataW.trod enc Tryz.prog W 0 (fun _=>true) true n 3 _=some (y0.1,y0.2) from e0);obtain⟨m,h1,hmw⟩:=J5 Tryz.underlying2 (show DataW.trod enc Tryz.prog W 0 (fun _=>true) true n 2 _=some (y1.1,y1.2) from e1);obtain⟨s,h2,hs⟩:=J4 Tryz.underlying9 (show DataW.trod enc Tryz.prog W 0 (fun _=>true) true n 9 _=some (y2.1,y2.2) from e2) (aC 2 _ _ rfl rfl);obtain⟨l,h3,hl,aE⟩:=Ik valD A4 Tryz.underlying22 (fun n' us y hn' hy aD=>ih n' (by omega) us y.1 y.2 hy aD) (show DataW.trod enc Tryz.prog W 0 (fun _=>true) true n 22 _=some (y3.1,y3.2) from e3) (aC 3 _ _ rfl rfl);obtain⟨ks,h4,aF,aG⟩:=Ik (fun s=>[Dat.one (.string s)]) (fun s:ByteArray=>s.size<=reachBytes) Tryz.underlying23 (fun n' us y hn' hy aD=>J4 Tryz.underlying9 (show DataW.trod enc Tryz.prog W 0 (fun _=>true) true n' 9 us=some (y.1,y.2) from hy) aD) (show DataW.trod enc Tryz.prog W 0 (fun _=>true) true n 23 _=some (y4.1,y4.2) from e4) (aC 4 _ _ rfl rfl);refine⟨.mk k m s l ks,?_,?_⟩
   ·rw[toDat];simp only[List.map_cons,List.map_nil,Jl,h0,h1,h2,h3,h4,List.append_nil,List.cons_append,List.nil_append];rw[valD,Dt];rfl
   ·rw[bytesVal] at aE;rw[bytesStrE] at aG;rw[A4];have all:∀l:List Vl,(∀v∈l,A4 v)->Bk l:=by
     intro l
     induction l with
     | nil=>intro _;rw[Bk];trivial
     | cons v t ih2=>intro h;rw[Bk];exact⟨h v (lmS ..),ih2 fun x hx=>h x (lmO _ hx)⟩
    unfold reachBytes at hs aE aG aF;have hin:inR m=true:=by
     have h9:=hmw;simp[Lit.wf] at h9;unfold inR;simp;exact h9
    exact⟨⟨by omega,hin⟩,by omega,by omega,fun x hx=>by have:=aF x hx;omega,all l hl⟩
theorem Nv{v:Value}{cs:List Value}(h:v.cells.toList=cs)(hn:cs.length≠1):v = .agg cs.toArray:=by
 cases v with
 | agg a=>simp only[Value.cells] at h;rw[<-h]
 | _=>subst h;exact absurd rfl hn
def valueTs:List TypeId:=[25,22,23,9,3,2]
theorem valueTs_ok:valueTs.all (okT Tryz.prog valueTs)=true:=by kernel_rfl
theorem Qq{H}{enc:TypeId×Value->H}{W v}{d:DataW H}{p}(h:DataW.Trod enc Tryz.prog W 0 (fun _=>true) true 25 v d p)(hw:∀k∈d.weights Tryz.prog 25,k<=reachBytes):
  ∃(k n:Int) (s:ByteArray) (l:List Vl) (ks:List ByteArray) (a1:Option Addr) (c1:Nat) (a2:Option Addr) (c2:Nat),v = .agg #[.int .i64 k,.int .i64 n,.string s,.slice a1 l.length c1,.slice a2 ks.length c2]/\A4 (.mk k n s l ks) /\
   Ag (fun b=>b<W.heap.size) W a1 (A5 l)/\Ag (fun b=>b<W.heap.size) W a2 (Bc ks):=by
 obtain⟨fuel,hf⟩:=h;have hd:=O7 valueTs_ok fuel 25 _ d p (by decide) hf;obtain⟨x,hx,hs⟩:=O8 fuel _ d p hf hw;obtain⟨k,n,s,l,ks⟩:=x;rw[hx] at hd;obtain⟨a1,c1,a2,c2,he,h1,h2⟩:=hd.val;exact⟨k,n,s,l,ks,a1,c1,a2,c2,Nv he (by simp),hs,h1,h2⟩
theorem rises_keys:∀(l:List ByteArray) (p:Option ByteArray),risesGo p l=true->∀s∈l,s.size<=65536
 | [],_,_,s,hs=>by cases hs
 | x::t,p,h,s,hs=>by
  rw[D9] at h;simp only[bAt,decide_eq_true_eq] at h;rcases List.mem_cons.1 hs with rfl|hs
  ·exact h.1.1
  ·exact rises_keys t _ h.2 s hs
theorem Gi{s:ByteArray}(h:s.toList=[]):s.size=0:=by
 rw[Lq8] at h;rw[<-Av,h];rfl
theorem M5{k n s l ks}(h:Bf k n s l ks=true):inR n=true:=by
 unfold Bf at h;have aA:∀m:Int,m=0\/m=1->inR m=true:=fun m hm=>by rcases hm with rfl|rfl<;>rfl
 split at h
 ·simp only[bAt,beq_iff_eq] at h;exact aA n (.inl h.1.1.1)
 ·split at h
  ·simp only[bAt,Bool.or_eq_true,beq_iff_eq] at h;exact aA n h.1.1.1
  ·split at h
   ·simp only[bAt] at h;exact h.1.1.1
   ·split at h
    ·simp only[bAt,beq_iff_eq] at h;exact aA n (.inl h.1.1.1)
    ·split at h
     ·simp only[bAt,beq_iff_eq] at h;exact aA n (.inl h.1.1.1)
     ·split at h
      ·simp only[bAt,beq_iff_eq] at h;exact aA n (.inl h.1.1.1)
      ·cases h
theorem Gw{k n s l ks}(h:Bf k n s l ks=true):s.size<=65536/\l.length<=1000/\ks.length<=1000/\∀x∈ks,x.size<=65536:=by
 unfold Bf at h;split at h
 ·simp only[bAt,List.isEmpty_iff] at h;obtain⟨⟨⟨-,h2⟩,rfl⟩,rfl⟩:=h;have:=Gi h2;exact⟨by omega,by simp,by simp,by simp⟩
 ·split at h
  ·simp only[bAt,List.isEmpty_iff] at h;obtain⟨⟨⟨-,h2⟩,rfl⟩,rfl⟩:=h;have:=Gi h2;exact⟨by omega,by simp,by simp,by simp⟩
  ·split at h
   ·simp only[bAt,List.isEmpty_iff] at h;obtain⟨⟨⟨-,h2⟩,rfl⟩,rfl⟩:=h;have:=Gi h2;exact⟨by omega,by simp,by simp,by simp⟩
   ·split at h
    ·simp only[bAt,List.isEmpty_iff,decide_eq_true_eq] at h;obtain⟨⟨⟨-,h2⟩,rfl⟩,rfl⟩:=h;exact⟨h2,by simp,by simp,by simp⟩
    ·split at h
     ·simp only[bAt,List.isEmpty_iff,decide_eq_true_eq] at h;obtain⟨⟨⟨-,h2⟩,h3⟩,rfl⟩:=h;have:=Gi h2;exact⟨by omega,h3,by simp,by simp⟩
     ·split at h
      ·simp only[bAt,beq_iff_eq] at h;obtain⟨⟨⟨-,h2⟩,h3⟩,h4⟩:=h;have:=Gi (List.isEmpty_iff.1 h2);unfold risesL at h4;simp only[bAt,decide_eq_true_eq] at h4;exact⟨by omega,by omega,h4.2,rises_keys _ _ h4.1⟩
      ·cases h
theorem Tc(v):∀d m,(mayV v d m).1=true->A4 v:=
 Vl.rec (motive_1:=fun v=>∀d m,(mayV v d m).1=true->A4 v) (motive_2:=fun l=>∀d m,(B4 l d m).1=true->Bk l)
  (fun k n s l ks ih d m h=>by
   rw[mayV] at h;split at h
   ·cases h
   ·split at h
    ·rename_i hk
     obtain⟨h1,h2,h3,h4⟩:=Gw hk;rw[A4];exact⟨⟨by omega,M5 hk⟩,by omega,by omega,fun x hx=>by have:=h4 x hx;omega,ih _ _ h⟩
    ·cases h)
  (fun _ _ _=>by rw[Bk];trivial)
  (fun v t hv ht d m h=>by
   rw[B4] at h;split at h
   ·rename_i h1
    rw[Bk];exact⟨hv _ _ h1,ht _ _ h⟩
   ·cases h) v
theorem Hu{v}(h:A7 v=true):A4 v:=Tc v _ _ h
theorem Or(v):∀d m d' m',d'<=d->m<=m'->(mayV v d m).1=true->(mayV v d' m').1=true/\(mayV v d' m').2=(mayV v d m).2+(m'-m)/\(mayV v d m).2<=m:=
 Vl.rec (motive_1:=fun v=>∀d m d' m',d'<=d->m<=m'->(mayV v d m).1=true->(mayV v d' m').1=true/\(mayV v d' m').2=(mayV v d m).2+(m'-m)/\(mayV v d m).2<=m)
  (motive_2:=fun l=>∀d m d' m',d'<=d->m<=m'->(B4 l d m).1=true->(B4 l d' m').1=true/\(B4 l d' m').2=(B4 l d m).2+(m'-m)/\(B4 l d m).2<=m)
  (fun k n s l ks ih d m d' m' hd hm h=>by
   rw[mayV] at h |-;split at h
   ·cases h
   ·rename_i h1
    split at h
    ·rename_i hk
     rw[if_neg (by omega),if_pos hk];have h2:=ih (d+1) (m - 1) (d'+1) (m' - 1) (by omega) (by omega) h;rw[mayV,if_neg h1,if_pos hk];exact⟨h2.1,by rw[h2.2.1];omega,by omega⟩
    ·cases h)
  (fun d m d' m' _ _ _=>by rw[B4,B4];exact⟨rfl,by simp;omega,Int.le_refl _⟩)
  (fun v t hv ht d m d' m' hd hm h=>by
   rw[B4] at h;split at h
   ·rename_i h1
    obtain⟨h2,h3,h4⟩:=hv d m d' m' hd hm h1;obtain⟨h5,h6,h7⟩:=ht d (mayV v d m).2 d' (mayV v d' m').2 hd (by omega) h;rw[B4,if_pos h2,B4,if_pos h1];exact⟨h5,by rw[h6,h3];omega,by omega⟩
   ·cases h) v
theorem mays_items:∀(l:List Vl) (d m:Int),1<=d->m<=20000->(B4 l d m).1=true->∀x∈l,A7 x=true
 | [],_,_,_,_,_=>fun x hx=>by cases hx
 | v::t,d,m,hd,hm,h=>fun x hx=>by
  rw[B4] at h;split at h
  ·rename_i h1
   obtain⟨h2,-,-⟩:=Or v d m 1 20000 hd hm h1;obtain⟨-,-,h4⟩:=Or v d m d m (Int.le_refl _) (Int.le_refl _) h1;rcases List.mem_cons.1 hx with rfl|hx
   ·exact h2
   ·exact mays_items t d _ hd (by omega) h x hx
  ·cases h
theorem G4{k n s l ks}(h:A7 (.mk k n s l ks)=true):∀x∈l,A7 x=true:=by
 unfold A7 at h;rw[mayV] at h;split at h
 ·cases h
 ·split at h
  ·exact mays_items l _ _ (by decide) (by decide) h
  ·cases h
def PInt(w:World)(e:Ending)(w':World):Prop:=(∃n:Int,e = .returned (.int .i64 n))/\Below w.heap.size w w'
def PSome(w:World)(e:Ending)(w':World):Prop:=(∃b:Bool,e = .returned (.bool b))/\Below w.heap.size w w'
def Ni(v:Vl):Prop:=∀(F:Nat->Prop) (a1:Option Addr) (c1:Nat) (a2:Option Addr) (c2:Nat) (w:World),Ag F w a1 (A5 v.items)->Ag F w a2 (Bc v.keys) ->
 Calls Tryz.prog 15 #[.agg #[.int .i64 v.kind,.int .i64 v.num,.string v.str,.slice a1 v.items.length c1,.slice a2 v.keys.length c2],.int .i64 60] w (PInt w)
def LongC(v:Vl):Prop:=∀(F:Nat->Prop) (a1:Option Addr) (c1:Nat) (a2:Option Addr) (c2:Nat) (w:World),Ag F w a1 (A5 v.items)->Ag F w a2 (Bc v.keys) ->
 Calls Tryz.prog 16 #[.agg #[.int .i64 v.kind,.int .i64 v.num,.string v.str,.slice a1 v.items.length c1,.slice a2 v.keys.length c2]] w (PSome w)
theorem P4(k n1 s l ks)(hl:l.length<=140737488355328)(hit:∀x∈l,Ni x)(F a1 c1 a2 c2 w)(hr1:Ag F w a1 (A5 l))(_hr2:Ag F w a2 (Bc ks)):
  Calls Tryz.prog 15 #[.agg #[.int .i64 k,.int .i64 n1,.string s,.slice a1 l.length c1,.slice a2 ks.length c2],.int .i64 60] w (PInt w):=by
 have aC:Below w.heap.size w (w.alloc (.cells #[.int .i64 k,.int .i64 n1,.string s,.slice a1 l.length c1,.slice a2 ks.length c2] 25)):=(bRf _ w).alloc (nlr _) _;have H0:=Lq7 (aIn (heap_alloc_new w (.cells #[.int .i64 k,.int .i64 n1,.string s,.slice a1 l.length c1,.slice a2 ks.length c2] 25)) aC);have Hr:=Lq7 hr1;have aF:=Lq7 hit;go_enter Tryz.func15,Tryz.ntmps15;go_wp2_with fail;generalize World.alloc _ _=W0 at H0 |-
 go_loopw [5,10] (fun n i wr=>∃(N:Int) (j:Nat),n = .int .i64 N/\i = .int .i64 j/\j<=l.length/\Hid (wr.heap[w.heap.size]? = some (.cells #[.int .i64 k,.int .i64 n1,.string s,.slice a1 l.length c1,.slice a2 ks.length c2] 25 (0,0))/\Below w.heap.size w wr)) (fun _ i _=>l.length-(intOf i).toNat)
 case atStart=>exact⟨_,0,rfl,rfl,nlz _,H0⟩
 case round=>
  obtain⟨N,j,rfl,rfl,hj,aA⟩:=hrel;by_cases hlt:j<l.length
  ·by_cases hN:60<N
   ·have hN2:¬N<=60:=(by omega);go_wp2_with fail;go_ret;exact⟨⟨_,rfl⟩,aA.out.2⟩
   ·have aD:l[j]? = some l[j]:=lgE hlt;generalize l[j]=x at aD;have HC:=Lq7 (aF.out x (lgM aD));obtain⟨xk,xn,xs,xl,xks⟩:=x;obtain⟨b,off,b1,e1,b2,e2,rfl,-,hbl,r0,r1,r2,r3,r4,aG,aH⟩:=(Hr.out.below aA.out.2).val aD;have HK:=Lq7 (HC.out F b1 e1 b2 e2 wr aG aH);obtain⟨q0,q1,q2,q3,q4,q5,-⟩:=Aa aA.out.1;go_wp2_with fail;refine HK.out.mono ?_;rintro e w2 ⟨⟨M,rfl⟩,aE⟩;have aB:=Lq7 (aIn (stays aA.out.1 aE) (aA.out.2.trans (aE.mono aA.out.2.size)));go_wp2_with fail;go_roundw
    case rel=>exact⟨_,j+1,rfl,by go_num,by omega,aB⟩
    case measure=>simp only[intOf];omega
  ·go_wp2_with fail;go_ret;exact⟨⟨_,rfl⟩,aA.out.2⟩
theorem P5(v):A4 v->Ni v:=
 Vl.rec (motive_1:=fun v=>A4 v->Ni v) (motive_2:=fun l=>Bk l->∀x∈l,Ni x)
  (fun k n s l ks ih h F a1 c1 a2 c2 w hr1 hr2=>by rw[A4] at h;exact P4 k n s l ks h.2.1 (ih h.2.2.2.2) F a1 c1 a2 c2 w hr1 hr2)
  (fun _ x hx=>by cases hx)
  (fun v t hv ht h x hx=>by
   rw[Bk] at h;rcases List.mem_cons.1 hx with rfl|hx
   ·exact hv h.1
   ·exact ht h.2 x hx) v
theorem Ry(k n1 s l ks)(_hz:s.size<=9223372036854775807)(hl:l.length<=140737488355328)(hkl:ks.length<=140737488355328)(hkz:∀x∈ks,x.size<=9223372036854775807)(hit:∀x∈l,LongC x)(F a1 c1 a2 c2 w)(hr1:Ag F w a1 (A5 l))(hr2:Ag F w a2 (Bc ks)):
  Calls Tryz.prog 16 #[.agg #[.int .i64 k,.int .i64 n1,.string s,.slice a1 l.length c1,.slice a2 ks.length c2]] w (PSome w):=by
 have aC:Below w.heap.size w (w.alloc (.cells #[.int .i64 k,.int .i64 n1,.string s,.slice a1 l.length c1,.slice a2 ks.length c2] 25)):=(bRf _ w).alloc (nlr _) _;have H0:=Lq7 (aIn (heap_alloc_new w (.cells #[.int .i64 k,.int .i64 n1,.string s,.slice a1 l.length c1,.slice a2 ks.length c2] 25)) aC);have Hr:=Lq7 hr1;have Hk:=Lq7 hr2.strs;have aF:=Lq7 hit;have Hkz:=Lq7 hkz;by_cases h1:(100:Int)<s.size
 ·go_enter Tryz.func16,Tryz.ntmps16;go_wp2_with fail;go_ret;exact⟨⟨_,rfl⟩,H0.out.2⟩
 by_cases h2:(60:Int)<ks.length
 ·go_enter Tryz.func16,Tryz.ntmps16;go_wp2_with fail;go_ret;exact⟨⟨_,rfl⟩,H0.out.2⟩
 go_enter Tryz.func16,Tryz.ntmps16;go_wp2_with fail;generalize World.alloc _ _=W0 at H0 |-
 go_loop [18] (fun i=>∃j:Nat,i = .int .i64 j/\j<=ks.length) (fun i=>ks.length-(intOf i).toNat)
 case atStart=>exact⟨0,rfl,nlz _⟩
 case round=>
  obtain⟨j,rfl,hj⟩:=hrel;obtain⟨q0,q1,q2,q3,q4,q5,-⟩:=Aa H0.out.1;by_cases hlt:j<ks.length
  ·obtain⟨b,off,rfl,hc⟩:=(Hk.out.below H0.out.2).at hlt;have hxz:=Hkz.out _ (List.getElem_mem hlt);generalize ks[j]=x at hc hxz;by_cases hbig:(100:Int)<x.size
   ·go_wp2_with fail;go_ret;exact⟨⟨_,rfl⟩,H0.out.2⟩
   ·go_wp2_with fail;go_round
    case rel=>exact⟨j+1,by go_num,by omega⟩
    case measure=>simp only[intOf];omega
  ·go_wp2_with fail
   go_loopw [32] (fun i wr=>∃j:Nat,i = .int .i64 j/\j<=l.length/\Hid (wr.heap[w.heap.size]? = some (.cells #[.int .i64 k,.int .i64 n1,.string s,.slice a1 l.length c1,.slice a2 ks.length c2] 25 (0,0))/\Below w.heap.size w wr)) (fun i _=>l.length-(intOf i).toNat)
   case atStart=>exact⟨0,rfl,nlz _,H0⟩
   case round=>
    obtain⟨i,rfl,hi,aA⟩:=hrel;by_cases hlt2:i<l.length
    ·have aD:l[i]? = some l[i]:=lgE hlt2;generalize l[i]=x at aD;have HC:=Lq7 (aF.out x (lgM aD));obtain⟨xk,xn,xs,xl,xks⟩:=x;obtain⟨b,off,b1,e1,b2,e2,rfl,-,hbl,r0,r1,r2,r3,r4,aG,aH⟩:=(Hr.out.below aA.out.2).val aD;have HK:=Lq7 (HC.out F b1 e1 b2 e2 wr aG aH);obtain⟨q0,q1,q2,q3,q4,q5,-⟩:=Aa aA.out.1;go_wp2_with fail;refine HK.out.mono ?_;rintro e w2 ⟨⟨bb,rfl⟩,aE⟩;have aB:=Lq7 (aIn (stays aA.out.1 aE) (aA.out.2.trans (aE.mono aA.out.2.size)));cases bb with
     | true=>
      go_wp2_with fail;go_ret;exact⟨⟨_,rfl⟩,aB.out.2⟩
     | false=>
      go_wp2_with fail;go_roundw
      case rel=>exact⟨i+1,by go_num,by omega,aB⟩
      case measure=>simp only[intOf];omega
    ·go_wp2_with fail;go_ret;exact⟨⟨_,rfl⟩,aA.out.2⟩
theorem long_any(v):A4 v->LongC v:=
 Vl.rec (motive_1:=fun v=>A4 v->LongC v) (motive_2:=fun l=>Bk l->∀x∈l,LongC x)
  (fun k n s l ks ih h F a1 c1 a2 c2 w hr1 hr2=>by rw[A4] at h;exact Ry k n s l ks h.1.1 h.2.1 h.2.2.1 h.2.2.2.1 (ih h.2.2.2.2) F a1 c1 a2 c2 w hr1 hr2)
  (fun _ x hx=>by cases hx)
  (fun v t hv ht h x hx=>by
   rw[Bk] at h;rcases List.mem_cons.1 hx with rfl|hx
   ·exact hv h.1
   ·exact ht h.2 x hx) v
theorem Ow(k n1 s l ks)(hs:A4 (.mk k n1 s l ks))(F a1 c1 a2 c2 w)(hr1:Ag F w a1 (A5 l))(hr2:Ag F w a2 (Bc ks)):
  Calls Tryz.prog 5 #[.agg #[.int .i64 k,.int .i64 n1,.string s,.slice a1 l.length c1,.slice a2 ks.length c2]] w (PSome w):=by
 have aC:Below w.heap.size w (w.alloc (.cells #[.int .i64 k,.int .i64 n1,.string s,.slice a1 l.length c1,.slice a2 ks.length c2] 25)):=(bRf _ w).alloc (nlr _) _;have H0:=Lq7 (aIn (heap_alloc_new w (.cells #[.int .i64 k,.int .i64 n1,.string s,.slice a1 l.length c1,.slice a2 ks.length c2] 25)) aC);have HC:=Lq7 (P5 _ hs F a1 c1 a2 c2 _ (hr1.below aC) (hr2.below aC));have HL:=Lq7 (fun W (h:Below w.heap.size w W)=>long_any _ hs F a1 c1 a2 c2 W (hr1.below h) (hr2.below h));go_enter Tryz.func5,Tryz.ntmps5;go_wp2_with fail;refine HC.out.mono ?_;rintro e w1 ⟨⟨N,rfl⟩,aI⟩;have H1:=Lq7 (aIn (stays H0.out.1 aI) (H0.out.2.trans (aI.mono H0.out.2.size)));by_cases hN:60<N
 ·go_wp2_with fail;go_ret;exact⟨⟨_,rfl⟩,H1.out.2⟩
 ·obtain⟨q0,q1,q2,q3,q4,q5,-⟩:=Aa H1.out.1;have HL1:=Lq7 (HL.out w1 H1.out.2);go_wp2_with fail;refine HL1.out.mono ?_;rintro e w2 ⟨⟨bb,rfl⟩,aE⟩;have Hb2:=Lq7 (H1.out.2.trans (aE.mono H1.out.2.size));go_wp2_with fail;go_ret;exact⟨⟨_,rfl⟩,Hb2.out⟩
def PYes(w:World)(e:Ending)(w':World):Prop:=e = .returned (.bool true)/\Below w.heap.size w w'
def SameC(v:Vl):Prop:=∀(F:Nat->Prop) (a1:Option Addr) (c1:Nat) (a2:Option Addr) (c2:Nat) (g1:Option Addr) (d1:Nat) (g2:Option Addr) (d2:Nat) (w:World),Ag F w a1 (A5 v.items)->Ag F w a2 (Bc v.keys)->Ag F w g1 (A5 v.items)->Ag F w g2 (Bc v.keys) ->
 Calls Tryz.prog 10 #[.agg #[.int .i64 v.kind,.int .i64 v.num,.string v.str,.slice a1 v.items.length c1,.slice a2 v.keys.length c2],.agg #[.int .i64 v.kind,.int .i64 v.num,.string v.str,.slice g1 v.items.length d1,.slice g2 v.keys.length d2]] w (PYes w)
theorem Tb(k n s l ks)(hl:l.length<=140737488355328)(hkl:ks.length<=140737488355328)(hit:∀x∈l,SameC x)(F a1 c1 a2 c2 g1 d1 g2 d2 w)(hr1:Ag F w a1 (A5 l))(hr2:Ag F w a2 (Bc ks))(hg1:Ag F w g1 (A5 l))(hg2:Ag F w g2 (Bc ks)):
  Calls Tryz.prog 10 #[.agg #[.int .i64 k,.int .i64 n,.string s,.slice a1 l.length c1,.slice a2 ks.length c2],.agg #[.int .i64 k,.int .i64 n,.string s,.slice g1 l.length d1,.slice g2 ks.length d2]] w (PYes w):=by
 obtain⟨h1,h2,h3,h4⟩:=G0 w (.cells #[.int .i64 k,.int .i64 n,.string s,.slice a1 l.length c1,.slice a2 ks.length c2] 25) (.cells #[.int .i64 k,.int .i64 n,.string s,.slice g1 l.length d1,.slice g2 ks.length d2] 25);have H0:=Lq7 (aIn h1 (aIn h2 h3));have Hr:=Lq7 (aIn hr1 hg1);have Hk:=Lq7 (aIn hr2.strs hg2.strs);have Hit:=Lq7 hit;have hf1:(k != k)=false:=(by simp);have hf2:(n != n)=false:=(by simp);go_enter Tryz.func10,Tryz.ntmps10;go_wp2_with fail;generalize World.alloc _ _=W0 at H0 |-
 go_loopw [47] (fun i wr=>∃j q:Nat,i = .int .i64 j/\j<=ks.length/\wr=W0.drewN q) (fun i _=>ks.length-(intOf i).toNat)
 case atStart=>exact⟨0,0,rfl,nlz _,rfl⟩
 case round=>
  obtain⟨j,q,rfl,hj,rfl⟩:=hrel;obtain⟨q0,q1,q2,q3,q4,q5,-⟩:=Aa H0.out.1;obtain⟨p0,p1,p2,p3,p4,p5,-⟩:=Aa H0.out.2.1;by_cases hlt:j<ks.length
  ·obtain⟨b,off,rfl,hc⟩:=(Hk.out.1.below H0.out.2.2).at hlt;obtain⟨b',off',rfl,hc'⟩:=(Hk.out.2.below H0.out.2.2).at hlt;generalize ks[j]=x at hc hc';go_wp2_with fail
   go_quiet (fail)
   go_wp2_with fail;go_roundw
   case rel=>exact⟨j+1,q+nq,by go_num,by omega,rfl⟩
   case measure=>simp only[intOf];omega
  ·go_wp2_with fail;have H1:Hid ((W0.drewN q).heap[w.heap.size]? = some (.cells #[.int .i64 k,.int .i64 n,.string s,.slice a1 l.length c1,.slice a2 ks.length c2] 25 (0,0))/\(W0.drewN q).heap[w.heap.size+1]? = some (.cells #[.int .i64 k,.int .i64 n,.string s,.slice g1 l.length d1,.slice g2 ks.length d2] 25 (0,0))/\Below w.heap.size w (W0.drewN q)):=Lq7 ⟨H0.out.1,H0.out.2.1,Dy H0.out.2.2 q⟩;generalize W0.drewN q=W1 at H1 |-
   go_loopw [65] (fun i wr=>∃j:Nat,i = .int .i64 j/\j<=l.length/\Hid (wr.heap[w.heap.size]? = some (.cells #[.int .i64 k,.int .i64 n,.string s,.slice a1 l.length c1,.slice a2 ks.length c2] 25 (0,0))/\wr.heap[w.heap.size+1]? = some (.cells #[.int .i64 k,.int .i64 n,.string s,.slice g1 l.length d1,.slice g2 ks.length d2] 25 (0,0))/\Below w.heap.size w wr)) (fun i _=>l.length-(intOf i).toNat)
   case atStart=>exact⟨0,rfl,nlz _,H1⟩
   case round=>
    obtain⟨i,rfl,hi,aA⟩:=hrel;obtain⟨q0,q1,q2,q3,q4,q5,-⟩:=Aa aA.out.1;obtain⟨p0,p1,p2,p3,p4,p5,-⟩:=Aa aA.out.2.1;by_cases hlt2:i<l.length
    ·have aB:l[i]? = some l[i]:=lgE hlt2;generalize l[i]=x at aB;have HC:=Lq7 (Hit.out x (lgM aB));obtain⟨xk,xn,xs,xl,xks⟩:=x;have aD:Below wr.heap.size wr wr.drew:=(bRf _ wr).drew;have H2:=Lq7 (aIn (stays aA.out.1 aD) (aIn (stays aA.out.2.1 aD) (aA.out.2.2.trans (aD.mono aA.out.2.2.size))));obtain⟨b,off,x1,e1,x2,e2,hae,-,hbl,r0,r1,r2,r3,r4,hs1,hs2⟩:=(Hr.out.1.below H2.out.2.2).val aB;obtain⟨b',off',x3,e3,x4,e4,hae',-,hbl',t0,t1,t2,t3,t4,hs3,hs4⟩:=(Hr.out.2.below H2.out.2.2).val aB;subst hae;subst hae';have HK:=Lq7 (HC.out F x1 e1 x2 e2 x3 e3 x4 e4 wr.drew hs1 hs2 hs3 hs4);go_wp2_with fail;refine A8 (.s 0 (.s 1 (.s 2 (.s 3 (.s 4 (.s 5 (.s 6 (.s 7 (.s 8 (.s 9 (.h 10 (.s 11 .nil)))))))))))) 99 (fun W'=>Below wr.drew.heap.size wr.drew W') (bRf _ _) ?_;generalize wr.drew=Wd at *;refine A6 (.pointer (some ⟨w.heap.size,3,none⟩)) (fun W' hS=>?_) ?_
     ·obtain⟨z0,z1,z2,z3,z4,z5,-⟩:=Aa (stays H2.out.1 hS);go_simp
     refine A6 (.slice (some ⟨b,off,none⟩) l.length c1) (fun W' hS=>?_) ?_
     ·obtain⟨z0,z1,z2,z3,z4,z5,-⟩:=Aa (stays H2.out.1 hS);go_simp
     refine Ah (.int .i64 i) ?_;refine Ah (.pointer (some ⟨b,off+i*5,none⟩)) ?_;refine A6 (.agg #[.int .i64 xk,.int .i64 xn,.string xs,.slice x1 xl.length e1,.slice x2 xks.length e2]) (fun W' hS=>?_) ?_
     ·have z0:=(hS.cell (p:=⟨b,off+i*5,none⟩) hbl).trans r0;have z1:=(hS.cell (p:=⟨b,off+i*5+1,none⟩) hbl).trans r1;have z2:=(hS.cell (p:=⟨b,off+i*5+2,none⟩) hbl).trans r2;have z3:=(hS.cell (p:=⟨b,off+i*5+3,none⟩) hbl).trans r3;have z4:=(hS.cell (p:=⟨b,off+i*5+4,none⟩) hbl).trans r4;go_simp
     refine A6 (.pointer (some ⟨w.heap.size+1,3,none⟩)) (fun W' hS=>?_) ?_
     ·obtain⟨z0,z1,z2,z3,z4,z5,-⟩:=Aa (stays H2.out.2.1 hS);go_simp
     refine A6 (.slice (some ⟨b',off',none⟩) l.length d1) (fun W' hS=>?_) ?_
     ·obtain⟨z0,z1,z2,z3,z4,z5,-⟩:=Aa (stays H2.out.2.1 hS);go_simp
     refine Ah (.int .i64 i) ?_;refine Ah (.pointer (some ⟨b',off'+i*5,none⟩)) ?_;refine A6 (.agg #[.int .i64 xk,.int .i64 xn,.string xs,.slice x3 xl.length e3,.slice x4 xks.length e4]) (fun W' hS=>?_) ?_
     ·have z0:=(hS.cell (p:=⟨b',off'+i*5,none⟩) hbl').trans t0;have z1:=(hS.cell (p:=⟨b',off'+i*5+1,none⟩) hbl').trans t1;have z2:=(hS.cell (p:=⟨b',off'+i*5+2,none⟩) hbl').trans t2;have z3:=(hS.cell (p:=⟨b',off'+i*5+3,none⟩) hbl').trans t3;have z4:=(hS.cell (p:=⟨b',off'+i*5+4,none⟩) hbl').trans t4;go_simp
     refine Ac rfl (fun K10 aE=>?_);go_wp2_with fail;refine HK.out.mono ?_;rintro e w2 ⟨rfl,aC⟩;have aF:=Lq7 (aIn (stays H2.out.1 aC) (aIn (stays H2.out.2.1 aC) (H2.out.2.2.trans (aC.mono H2.out.2.2.size))));have Hb2:=Lq7 aC;go_wp2_with fail;refine aE _ _ (fun _=>Hb2.out) ?_;(try simp only[gX,aP]);refine Ah (.bool false) ?_;refine Ao ?_;(try simp only[gX,aP]);go_wp2_with fail;go_roundw
     case rel=>exact⟨i+1,by go_num,by omega,aF⟩
     case measure=>simp only[intOf];omega
    ·go_wp2_with fail;go_ret;exact⟨rfl,aA.out.2.2⟩
theorem Q3(v):A4 v->SameC v:=
 Vl.rec (motive_1:=fun v=>A4 v->SameC v) (motive_2:=fun l=>Bk l->∀x∈l,SameC x)
  (fun k n s l ks ih h F a1 c1 a2 c2 g1 d1 g2 d2 w hr1 hr2 hg1 hg2=>by rw[A4] at h;exact Tb k n s l ks h.2.1 h.2.2.1 (ih h.2.2.2.2) F a1 c1 a2 c2 g1 d1 g2 d2 w hr1 hr2 hg1 hg2)
  (fun _ x hx=>by cases hx)
  (fun v t hv ht h x hx=>by
   rw[Bk] at h;rcases List.mem_cons.1 hx with rfl|hx
   ·exact hv h.1
   ·exact ht h.2 x hx) v
end Go.Proofs.YtkehdallfohjfaaGreatDoor
