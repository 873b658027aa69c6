/-
  The walk of value.Same:are two values the same? (And what it stands on.)
-/
import Derived.Deep.DeepCutAuto
import Derived.Deep.CutBlock
import Derived.StillTailTactics
import Derived.SizedLaws
import Derived.Test.YtbcdimjbepigcaaGreatDoorMParseNz
import Derived.Test.YtbcdimjbepigcaaGreatDoorMRegionHeldD
namespace Go.Proofs.YtbcdimjbepigcaaGreatDoor
open Go Go.RowKit
open List renaming mem_of_getElem? -> lgM,getElem?_eq_getElem->lgE,length_map->lnM,length_take->lnT,getElem?_map->lgP
open Nat renaming le_refl->nlr,lt_of_lt_of_le->nll,le_trans->nlt,zero_le->nlz
open Go.Lib renaming hid->Lq7,toList_data->Lq8
open Go.Act renaming put->aP
open _root_.Array renaming getElem?_eq_some_iff->agS
open And renaming intro->aIn
open Go.RowKit.Below renaming refl->bRf
open Bool renaming and_eq_true->bAt
set_option maxRecDepth 100000
set_option maxHeartbeats 16000000
def PMay(r:Bool×Int)(lb:Nat)(w:World)(e:Ending)(w':World):Prop:=e = .returned (.bool r.1)/\w.grownBy w' (some lb)/\w'.heap[lb]? = some (.cells #[.int .i64 r.2] 3 (0,0))
mutual
def A6:Vl->Prop
 | .mk _ n s l ks=>(s.size<=9223372036854775807/\inR n=true)/\l.length<=140737488355328/\ks.length<=140737488355328/\(∀s∈ks,s.size<=9223372036854775807)/\B4 l
def B4:List Vl->Prop
 | []=>True
 | v::t=>A6 v/\B4 t
end
theorem smallVs_mem:∀{l:List Vl} {x:Vl},B4 l->x∈l->A6 x
 | _::_,_,h,.head _=>h.1
 | _::_,_,h,.tail _ hm=>smallVs_mem h.2 hm
def MayC(v:Vl):Prop:=∀(F:Nat->Prop) (d m:Int) (lb:Nat) (a1:Option Addr) (c1:Nat) (a2:Option Addr) (c2:Nat) (w:World),(∀b,F b->b≠lb)->1<=d->d<=61->0<=m->m<=20000->w.heap[lb]? = some (.cells #[.int .i64 m] 3 (0,0)) ->
 Af F w a1 (Ar v.items)->Af F w a2 (Bl v.keys)->Calls Tryz.prog 56 #[A8 v.kind v.num v.str a1 v.items.length c1 a2 v.keys.length c2,.int .i64 d,.pointer (some ⟨lb,0,none⟩)] w (PMay (mayV v d m) lb w)
def PMay1(r:Bool×Int)(lb:Nat)(w:World)(e:Ending)(w':World):Prop:=e = .returned (.bool (!r.1))/\w.grownBy w' (some lb)/\w'.heap[lb]? = some (.cells #[.int .i64 r.2] 3 (0,0))
theorem may1_any(v)(hv:MayC v)(F d m lb bd bt a1 c1 a2 c2 w)(hF:∀b,F b->b≠lb)(hd0:1<=d)(hd1:d<=60)(hm0:0<=m)(hm1:m<=20000)(hl:w.heap[lb]? = some (.cells #[.int .i64 m] 3 (0,0)))(hd:w.heap[bd]? = some (.cells #[.int .i64 d] 3 (0,0)))(ht:w.heap[bt]? = some (.cells #[.pointer (some ⟨lb,0,none⟩)] 123 (0,0)))(hr1:Af F w a1 (Ar v.items))(hr2:Af F w a2 (Bl v.keys)):
  Calls Tryz.prog 88 #[A8 v.kind v.num v.str a1 v.items.length c1 a2 v.keys.length c2,.pointer (some ⟨bd,0,none⟩),.pointer (some ⟨bt,0,none⟩)] w (PMay1 (mayV v (d+1) m) lb w):=by
 obtain⟨d0,d1⟩:=Aq hd;obtain⟨p0,p1⟩:=Aq ht;have aD:Below w.heap.size w (w.alloc (.cells #[.int .i64 v.kind,.int .i64 v.num,.string v.str,.slice a1 v.items.length c1,.slice a2 v.keys.length c2] 42)):=(bRf _ w).alloc (nlr _) _;have Hc:=Lq7 (hv F (d+1) m lb a1 c1 a2 c2 _ hF (by omega) (by omega) hm0 hm1 ((aD.block _ (agS.1 hl).1).trans hl) (hr1.below aD) (hr2.below aD));have aE:=Lq7 aD;unfold A8 at Hc |-;go_enter Tryz.func88,Tryz.ntmps88;go_wp2_with fail;refine Hc.out.mono ?_;rintro e w1 ⟨rfl,hg,hl⟩;have HG:=Lq7 (aIn (Ae (Bg aE.out) hg) hl);go_wp2_with fail;go_ret;exact⟨rfl,HG.out.1,HG.out.2⟩
structure MayW(k n:Int)(s:ByteArray)(a1:Option Addr)(l1 c1:Nat)(a2:Option Addr)(l2 c2:Nat)(d m:Int)(lb:Nat)(w W:World):Prop where
 size:w.heap.size+3<=W.heap.size
 lbl:lb<w.heap.size
 left:W.heap[lb]? = some (.cells #[.int .i64 m] 3 (0,0))
 a:W.heap[w.heap.size]? = some (.cells #[.int .i64 k,.int .i64 n,.string s,.slice a1 l1 c1,.slice a2 l2 c2] 42 (0,0))
 b:W.heap[w.heap.size+1]? = some (.cells #[.int .i64 d] 3 (0,0))
 c:W.heap[w.heap.size+1+1]? = some (.cells #[.pointer (some ⟨lb,0,none⟩)] 123 (0,0))
 grown:w.grownBy W (some lb)
theorem mayW{k n s a1 l1 c1 a2 l2 c2 d m m' lb w}(hb:w.heap[lb]? = some (.cells #[.int .i64 m] 3 (0,0))):
  MayW k n s a1 l1 c1 a2 l2 c2 d m' lb w ((((w.setCell ⟨lb,0,none⟩ (.int .i64 m')).alloc (.cells #[.int .i64 k,.int .i64 n,.string s,.slice a1 l1 c1,.slice a2 l2 c2] 42)).alloc (.cells #[.int .i64 d] 3)).alloc (.cells #[.pointer (some ⟨lb,0,none⟩)] 123)):=by
 have aN:=(agS.1 hb).1;have hsz:(w.setCell ⟨lb,0,none⟩ (.int .i64 m')).heap.size=w.heap.size:=(by simp);have h0:=Ag hb 0 (.int .i64 m');generalize hw1:w.setCell ⟨lb,0,none⟩ (.int .i64 m')=w1 at hsz h0 |-;have hg:w.grownBy w1 (some lb):=(by rw[<-hw1];exact Ew (C5 _ _) 0 _);have hs:w.heap.size=w1.heap.size:=hsz.symm;refine⟨by simp[hs],aN,?_,?_,?_,?_,?_⟩
 ·rw[Below.heap_alloc _ _ _ (by simp;omega),Below.heap_alloc _ _ _ (by simp;omega),Below.heap_alloc _ _ _ (by omega)];exact h0
 ·rw[hs,Below.heap_alloc _ _ _ (by simp;omega),Below.heap_alloc _ _ _ (by simp)];exact heap_alloc_new w1 _
 ·rw[hs,Below.heap_alloc _ _ _ (by simp)];have:=heap_alloc_new (w1.alloc (.cells #[.int .i64 k,.int .i64 n,.string s,.slice a1 l1 c1,.slice a2 l2 c2] 42)) (.cells #[.int .i64 d] 3)
  simpa using this
 ·rw[hs];have:=heap_alloc_new ((w1.alloc (.cells #[.int .i64 k,.int .i64 n,.string s,.slice a1 l1 c1,.slice a2 l2 c2] 42)).alloc (.cells #[.int .i64 d] 3)) (.cells #[.pointer (some ⟨lb,0,none⟩)] 123)
  simpa using this
 ·exact Fg (Fg (Fg hg _) _) _
theorem MayW.below{k n s a1 l1 c1 a2 l2 c2 d m lb w W W'}(h:MayW k n s a1 l1 c1 a2 l2 c2 d m lb w W)(hb:Below W.heap.size W W'):MayW k n s a1 l1 c1 a2 l2 c2 d m lb w W':=by
 have hs:=h.size;have hl:=h.lbl;exact⟨nlt hs hb.size,hl,(hb.block _ (by omega)).trans h.left,(hb.block _ (by omega)).trans h.a,(hb.block _ (by omega)).trans h.b,(hb.block _ (by omega)).trans h.c,Ae h.grown (Bg hb)⟩
theorem Ey{α:Type}(l:List α):l.isEmpty=(((0:Nat):Int)==(l.length:Int)):=by cases l<;>simp;omega
theorem Ib(s:ByteArray):s.toList.isEmpty=((⟨#[]⟩:ByteArray).toList==s.toList):=by
 rw[Lq8,Lq8];cases s.data.toList<;>rfl
theorem str_self(s:ByteArray):(s.toList==s.toList)=true:=beq_self_eq_true _
theorem nodeOk0(n s l ks):By 0 n s l ks=(true&&((0:Int)==n)&&((⟨#[]⟩:ByteArray).toList==s.toList)&&(((0:Nat):Int)==(l.length:Int))&&(((0:Nat):Int)==(ks.length:Int))):=by
 rw[<-Ey,<-Ey,<-Ib];unfold By;rw[if_pos rfl,Bool.true_and,Bool.beq_comm (a:=n)]
theorem Ul(n s l ks):By 1 n s l ks=((n==0||n==1)&&(n==n)&&((⟨#[]⟩:ByteArray).toList==s.toList)&&(((0:Nat):Int)==(l.length:Int))&&(((0:Nat):Int)==(ks.length:Int))):=by
 rw[<-Ey,<-Ey,<-Ib];unfold By;rw[if_neg (by decide),if_pos rfl,beq_self_eq_true,Bool.and_true]
theorem nodeOk2(n s l ks)(h:inR n=true):By 2 n s l ks=(true&&(n==n)&&((⟨#[]⟩:ByteArray).toList==s.toList)&&(((0:Nat):Int)==(l.length:Int))&&(((0:Nat):Int)==(ks.length:Int))):=by
 rw[<-Ey,<-Ey,<-Ib];unfold By;rw[if_neg (by decide),if_neg (by decide),if_pos rfl,beq_self_eq_true,Bool.true_and,h]
theorem nodeOk3(n s l ks):By 3 n s l ks=(decide (s.size<=65536)&&((0:Int)==n)&&(s.toList==s.toList)&&(((0:Nat):Int)==(l.length:Int))&&(((0:Nat):Int)==(ks.length:Int))):=by
 rw[<-Ey,<-Ey,str_self];unfold By;rw[if_neg (by decide),if_neg (by decide),if_neg (by decide),if_pos rfl,Bool.and_true,Bool.beq_comm (a:=n),Bool.and_comm ((0:Int)==n)]
theorem nodeOk4(n s l ks):By 4 n s l ks=(decide (l.length<=1000)&&((0:Int)==n)&&((⟨#[]⟩:ByteArray).toList==s.toList)&&((l.length:Int)==(l.length:Int))&&(((0:Nat):Int)==(ks.length:Int))):=by
 rw[<-Ey,<-Ib,beq_self_eq_true];unfold By;rw[if_neg (by decide),if_neg (by decide),if_neg (by decide),if_neg (by decide),if_pos rfl,Bool.and_true,Bool.beq_comm (a:=n)];cases ((0:Int)==n)<;>cases s.toList.isEmpty<;>cases decide (l.length<=1000)<;>rfl
theorem Um(n s l ks):By 5 n s l ks=(((l.length==ks.length)&&risesL ks)&&((0:Int)==n)&&((⟨#[]⟩:ByteArray).toList==s.toList)&&((l.length:Int)==(l.length:Int))&&((ks.length:Int)==(ks.length:Int))):=by
 rw[<-Ib,beq_self_eq_true,beq_self_eq_true];unfold By;rw[if_neg (by decide),if_neg (by decide),if_neg (by decide),if_neg (by decide),if_neg (by decide),if_pos rfl,Bool.and_true,Bool.and_true,Bool.beq_comm (a:=n)];cases ((0:Int)==n)<;>cases s.toList.isEmpty<;>cases (l.length==ks.length)<;>cases risesL ks<;>rfl
theorem nodeOkx{k}(n s l ks)(h:k≠0/\k≠1/\k≠2/\k≠3/\k≠4/\k≠5):By k n s l ks=false:=by
 unfold By;rw[if_neg h.1,if_neg h.2.1,if_neg h.2.2.1,if_neg h.2.2.2.1,if_neg h.2.2.2.2.1,if_neg h.2.2.2.2.2]
theorem may_node(k n s l ks F d m lb a1 c1 a2 c2 w)(hd0:1<=d)(hd1:d<=61)(hm0:0<=m)(hm1:m<=20000)(hb:w.heap[lb]? = some (.cells #[.int .i64 m] 3 (0,0)))(hr1:Af F w a1 (Ar l))(hr2:Af F w a2 (Bl ks))(hF:∀b,F b->b≠lb)(hll:l.length<=140737488355328)(hkl:ks.length<=140737488355328)(hks:∀s∈ks,s.size<=9223372036854775807)(hsl:s.size<=9223372036854775807)(hit:∀x∈l,MayC x)(hin:inR n=true):
  Calls Tryz.prog 56 #[A8 k n s a1 l.length c1 a2 ks.length c2,.int .i64 d,.pointer (some ⟨lb,0,none⟩)] w (PMay (mayV (.mk k n s l ks) d m) lb w):=by
 obtain⟨aN,hc,hf⟩:=A5 hb;have q0:=hc 0;have z0:=hf 0;simp at q0;have Hb:=Lq7 hb;have Hks:=Lq7 hks;have HF:=Lq7 hF;have Hit:=Lq7 hit;have HIn:=Lq7 hin;clear hc hf hb hks hF hit hin;have g1:lb<w.heap.size+1:=(by omega);have g2:lb<w.heap.size+1+1:=(by omega);have g3:lb<w.heap.size+1+1+1:=(by omega);unfold A8;go_enter Tryz.func56,Tryz.ntmps56
 go_upto_region 2 with fail
 have HW:=Lq7 (mayW (k:=k) (n:=n) (s:=s) (a1:=a1) (l1:=l.length) (c1:=c1) (a2:=a2) (l2:=ks.length) (c2:=c2) (d:=d) (m':=m - 1) Hb.out);generalize hW:World.alloc _ _=W at HW |-;clear hW q0 z0 g1 g2 g3 aN;have Hr1:=Lq7 hr1;have Hr2:=Lq7 hr2;clear hr1 hr2;by_cases hdeep:d>60
 ·have Hr:Hid (mayV (.mk k n s l ks) d m=(false,m - 1)):=Lq7 (by rw[mayV,if_pos (.inl (by omega))]);obtain⟨b0,b1⟩:=Aq HW.out.b;go_wp2;go_ret;rw[Hr.out];exact⟨rfl,HW.out.grown,HW.out.left⟩
 ·by_cases hneg:m - 1<0
  ·have Hr:Hid (mayV (.mk k n s l ks) d m=(false,m - 1)):=Lq7 (by rw[mayV,if_pos (.inr hneg)]);obtain⟨b0,b1⟩:=Aq HW.out.b;obtain⟨p0,p1⟩:=Aq HW.out.c;obtain⟨r0,r1⟩:=Aq HW.out.left;go_wp2;go_ret;rw[Hr.out];exact⟨rfl,HW.out.grown,HW.out.left⟩
  ·have Hr:Hid (mayV (.mk k n s l ks) d m=if By k n s l ks=true then Ck l (d+1) (m - 1) else(false,m - 1)):=Lq7 (by rw[mayV,if_neg (by omega)]);obtain⟨b0,b1⟩:=Aq HW.out.b;obtain⟨p0,p1⟩:=Aq HW.out.c;obtain⟨r0,r1⟩:=Aq HW.out.left;obtain⟨t0,t1,t2,t3,t4,t5,t6,t7,t8,t9,aR⟩:=Aa HW.out.a;have HU:=Lq7 ((bRf _ W).alloc (nlr _) (.cells #[.int .i64 k,.int .i64 0,.string ⟨#[]⟩,.slice none 0 0,.slice none 0 0] 42))
   go_upto_block 0 with fail
   clear b0 b1 p0 p1 r0 r1
   go_cut [8] from 27 (fun rv wc=>∃(rt:Bool) (bn:Int) (bs:ByteArray) (a3:Option Addr) (l3 c3:Nat) (a4:Option Addr) (l4 c4:Nat),rv = .bool rt/\Hid (wc.heap[W.heap.size]? = some (.cells #[.int .i64 k,.int .i64 bn,.string bs,.slice a3 l3 c3,.slice a4 l4 c4] 42 (0,0))/\Below W.heap.size W wc /\
    By k n s l ks=(rt&&(bn==n)&&(bs.toList==s.toList)&&((l3:Int)==(l.length:Int))&&((l4:Int)==(ks.length:Int)))))
   case first=>
    have HA:Hid (True/\∀W',Below W.heap.size W W'->W'.heap[w.heap.size]? = some (.cells #[.int .i64 k,.int .i64 n,.string s,.slice a1 l.length c1,.slice a2 ks.length c2] 42 (0,0))):=Lq7 ⟨trivial,fun W' hb=>(hb.block _ (by have:=HW.out.size;omega)).trans HW.out.a⟩;have HS2:Hid (∀W',Below W.heap.size W W'->Dj W' a2 ks):=Lq7 (fun W' hb=>((Hr2.out.mono (w':=W') (G:=fun _=>True) fun b hF hl=>⟨trivial,by have:=HW.out.grown.size;have:=hb.size;omega,(hb.block b (by have:=HW.out.grown.size;omega)).trans (HW.out.grown.block b hl (fun e=>by cases e;exact HF.out _ hF rfl))⟩).strs));by_cases h0:k=0
    ·subst h0;go_wp2_with fail;go_meet
     case rel=>exact⟨true,0,⟨#[]⟩,none,0,0,none,0,0,rfl,Lq7 ⟨heap_alloc_new W _,HU.out,nodeOk0 n s l ks⟩⟩
    ·
     by_cases h1:k=1
     ·subst h1;cases hn:(n==0)
      ·go_wp2_with fail;refine A4 (.s 0 (.s 1 (.s 2 (.s 3 (.s 4 (.s 5 (.s 6 (.s 7 (.s 8 (.s 9 (.s 10 (.h 11 (.s 12 .nil))))))))))))) 99 (fun W'=>W'.heap[w.heap.size]? = some (.cells #[.int .i64 1,.int .i64 n,.string s,.slice a1 l.length c1,.slice a2 ks.length c2] 42 (0,0))) (HA.out.2 _ HU.out.drew) ?_;refine Ap (.pointer (some ⟨w.heap.size,1,none⟩)) ?_;refine Ap (.int .i64 n) ?_;refine Ap (.pointer (some ⟨w.heap.size,1,none⟩)) ?_;refine Ap (.int .i64 n) ?_;refine Ap (.bool false) ?_;refine Ap (.bool false) ?_;refine Ap (.pointer (some ⟨w.heap.size,1,none⟩)) ?_;refine Ap (.int .i64 n) ?_;refine Ap (.bool (n==1)) ?_;refine Ap (.bool (n==1)) ?_;refine Ap (.pointer (some ⟨W.heap.size,1,none⟩)) ?_;refine Ac rfl (fun Kx aB=>?_);go_wp2_with fail;refine aB _ _ (fun _=>HA.out.2 _ (by first|exact HU.out.drew|exact((bRf _ W).alloc (nlr _) _).drew)) ?_;skip;refine Ap (.bool (n==1)) ?_;refine Ak ?_;go_wp2_with fail;go_meet
       case rel=>exact⟨(n==1),n,⟨#[]⟩,none,0,0,none,0,0,rfl,Lq7 ⟨heap_alloc_new W _,((bRf _ W).alloc (nlr _) _).drew,(by have h:=Ul n s l ks;rw[hn,Bool.false_or] at h;exact h)⟩⟩
      ·go_wp2_with fail;refine A4 (.s 0 (.s 1 (.s 2 (.s 3 (.s 4 (.s 5 (.s 6 (.s 7 (.s 8 (.s 9 (.s 10 (.h 11 (.s 12 .nil))))))))))))) 99 (fun W'=>W'.heap[w.heap.size]? = some (.cells #[.int .i64 1,.int .i64 n,.string s,.slice a1 l.length c1,.slice a2 ks.length c2] 42 (0,0))) (HA.out.2 _ HU.out.drew) ?_;refine Ap (.pointer (some ⟨w.heap.size,1,none⟩)) ?_;refine Ap (.int .i64 n) ?_;refine Ap (.pointer (some ⟨w.heap.size,1,none⟩)) ?_;refine Ap (.int .i64 n) ?_;refine Ap (.bool true) ?_;refine Ap (.bool true) ?_;refine Ii rfl rfl ?_;simp only[gX,aP];refine Ii rfl rfl ?_;simp only[gX,aP];refine Ii rfl rfl ?_;simp only[gX,aP];refine Ap (.bool true) ?_;refine Ap (.pointer (some ⟨W.heap.size,1,none⟩)) ?_;refine Ac rfl (fun Kx aB=>?_);go_wp2_with fail;refine aB _ _ (fun _=>HA.out.2 _ (by first|exact HU.out.drew|exact((bRf _ W).alloc (nlr _) _).drew)) ?_;skip;refine Ap (.bool true) ?_;refine Ak ?_;go_wp2_with fail;go_meet
       case rel=>exact⟨true,n,⟨#[]⟩,none,0,0,none,0,0,rfl,Lq7 ⟨heap_alloc_new W _,((bRf _ W).alloc (nlr _) _).drew,(by have h:=Ul n s l ks;rw[hn,Bool.true_or] at h;exact h)⟩⟩
     ·
      by_cases h2:k=2
      ·subst h2;go_wp2_with fail;go_meet
       case rel=>exact⟨true,n,⟨#[]⟩,none,0,0,none,0,0,rfl,Lq7 ⟨heap_alloc_new W _,(bRf _ W).alloc (nlr _) _,nodeOk2 n s l ks HIn.out⟩⟩
      ·
       by_cases h3:k=3
       ·subst h3;go_wp2_with fail;refine A4 (.s 0 (.s 1 (.s 2 (.s 3 (.s 4 (.s 5 (.s 6 (.h 7 (.s 8 .nil))))))))) 99 (fun W'=>W'.heap[w.heap.size]? = some (.cells #[.int .i64 3,.int .i64 n,.string s,.slice a1 l.length c1,.slice a2 ks.length c2] 42 (0,0))) (HA.out.2 _ HU.out.drew) ?_;refine Ap (.pointer (some ⟨w.heap.size,2,none⟩)) ?_;refine Ap (.string s) ?_;refine Ap (.pointer (some ⟨w.heap.size,2,none⟩)) ?_;refine Ap (.string s) ?_;refine Ap (.int .i64 (s.size:Int)) ?_;refine Ap (.bool (decide ((s.size:Int)<=65536))) ?_;refine Ap (.pointer (some ⟨W.heap.size,2,none⟩)) ?_;refine Ac rfl (fun Kx aB=>?_);go_wp2_with fail;refine aB _ _ (fun _=>HA.out.2 _ (by first|exact HU.out.drew|exact((bRf _ W).alloc (nlr _) _).drew)) ?_;skip;refine Ap (.bool (decide ((s.size:Int)<=65536))) ?_;refine Ak ?_;go_wp2_with fail;go_meet
        case rel=>exact⟨(decide ((s.size:Int)<=65536)),0,s,none,0,0,none,0,0,rfl,Lq7 ⟨heap_alloc_new W _,((bRf _ W).alloc (nlr _) _).drew,(by have h:=nodeOk3 n s l ks;rw[show decide (s.size<=65536)=decide ((s.size:Int)<=65536) from decide_eq_decide.2 (by omega)] at h;exact h)⟩⟩
       ·
        by_cases h4:k=4
        ·subst h4;go_wp2_with fail;refine A4 (.s 0 (.s 1 (.s 2 (.s 3 (.s 4 (.s 5 (.s 6 (.h 7 (.s 8 .nil))))))))) 99 (fun W'=>W'.heap[w.heap.size]? = some (.cells #[.int .i64 4,.int .i64 n,.string s,.slice a1 l.length c1,.slice a2 ks.length c2] 42 (0,0))) (HA.out.2 _ HU.out.drew) ?_;refine Ap (.pointer (some ⟨w.heap.size,3,none⟩)) ?_;refine Ap (.slice a1 l.length c1) ?_;refine Ap (.pointer (some ⟨w.heap.size,3,none⟩)) ?_;refine Ap (.slice a1 l.length c1) ?_;refine Ap (.int .i64 (l.length:Int)) ?_;refine Ap (.bool (decide ((l.length:Int)<=1000))) ?_;refine Ap (.pointer (some ⟨W.heap.size,3,none⟩)) ?_;refine Ac rfl (fun Kx aB=>?_);go_wp2_with fail;refine aB _ _ (fun _=>HA.out.2 _ (by first|exact HU.out.drew|exact((bRf _ W).alloc (nlr _) _).drew)) ?_;skip;refine Ap (.bool (decide ((l.length:Int)<=1000))) ?_;refine Ak ?_;go_wp2_with fail;go_meet
         case rel=>exact⟨(decide ((l.length:Int)<=1000)),0,⟨#[]⟩,a1,l.length,c1,none,0,0,rfl,Lq7 ⟨heap_alloc_new W _,((bRf _ W).alloc (nlr _) _).drew,(by have h:=nodeOk4 n s l ks;rw[show decide (l.length<=1000)=decide ((l.length:Int)<=1000) from decide_eq_decide.2 (by omega)] at h;exact h)⟩⟩
        ·
         by_cases h5:k=5
         ·subst h5;by_cases hle:l.length=ks.length
          ·have He:Hid ((l.length==ks.length)=true):=Lq7 (by simp[hle]);have aU:=Lq7 hle;simp only[hle] at HA t4;clear hle;go_wp2_with fail;refine A4 (.s 0 (.s 1 (.s 2 (.s 3 (.s 4 (.s 5 (.s 6 (.s 7 (.s 8 (.s 9 (.s 10 (.s 11 (.s 12 (.s 13 (.s 16 (.h 14 (.s 15 (.h 17 (.s 18 (.h 19 (.s 20 .nil))))))))))))))))))))) 99 (fun W'=>W'.heap[w.heap.size]? = some (.cells #[.int .i64 5,.int .i64 n,.string s,.slice a1 ks.length c1,.slice a2 ks.length c2] 42 (0,0))) (HA.out.2 _ HU.out.drew) ?_;refine Ap (.pointer (some ⟨w.heap.size,3,none⟩)) ?_;refine Ap (.slice a1 ks.length c1) ?_;refine Ap (.pointer (some ⟨w.heap.size,4,none⟩)) ?_;refine Ap (.slice a2 ks.length c2) ?_;refine Ap (.pointer (some ⟨w.heap.size,3,none⟩)) ?_;refine Ap (.slice a1 ks.length c1) ?_;refine Ap (.int .i64 ks.length) ?_;refine Ap (.pointer (some ⟨w.heap.size,4,none⟩)) ?_;refine Ap (.slice a2 ks.length c2) ?_;refine Ap (.int .i64 ks.length) ?_;refine Ap (.bool true) ?_;refine Ap (.bool true) ?_;refine Ap (.pointer (some ⟨w.heap.size,4,none⟩)) ?_;refine Ap (.slice a2 ks.length c2) ?_;refine Ap (.pointer (some ⟨W.heap.size,3,none⟩)) ?_;refine Ac rfl (fun Kx aB=>?_);go_wp2_with fail;refine(Xh a2 c2 ks _ ((HS2.out _ HU.out.drew)) hkl Hks.out).mono ?_;rintro e w1 ⟨rfl,rfl⟩;go_wp2_with fail;refine aB _ _ (fun _=>HA.out.2 _ (by first|exact HU.out.drew|exact((bRf _ W).alloc (nlr _) _).drew)) ?_;skip;refine Ap (.bool (risesL ks)) ?_;refine Ac rfl (fun Kx aB=>?_);go_wp2_with fail;refine aB _ _ (fun _=>HA.out.2 _ (by first|exact HU.out.drew|exact((bRf _ W).alloc (nlr _) _).drew)) ?_;skip;refine Ap (.pointer (some ⟨W.heap.size,4,none⟩)) ?_;refine Ac rfl (fun Kx aB=>?_);go_wp2_with fail;refine aB _ _ (fun _=>HA.out.2 _ (by first|exact HU.out.drew|exact((bRf _ W).alloc (nlr _) _).drew)) ?_;skip;refine Ap (.bool (risesL ks)) ?_;refine Ak ?_;go_wp2_with fail;go_meet
           case rel=>exact⟨(risesL ks),0,⟨#[]⟩,a1,ks.length,c1,a2,ks.length,c2,rfl,Lq7 ⟨heap_alloc_new W _,((bRf _ W).alloc (nlr _) _).drew,(by have h:=Um n s l ks;rw[He.out,Bool.true_and,aU.out] at h;rw[aU.out];exact h)⟩⟩
          ·have he:((l.length:Int)==(ks.length:Int))=false:=(by simp;omega);have He:Hid ((l.length==ks.length)=false):=Lq7 (by simp[hle]);clear hle;go_wp2_with fail;refine A4 (.s 0 (.s 1 (.s 2 (.s 3 (.s 4 (.s 5 (.s 6 (.s 7 (.s 8 (.s 9 (.s 10 (.s 11 (.s 12 (.s 13 (.s 16 (.h 14 (.s 15 (.h 17 (.s 18 (.h 19 (.s 20 .nil))))))))))))))))))))) 99 (fun W'=>W'.heap[w.heap.size]? = some (.cells #[.int .i64 5,.int .i64 n,.string s,.slice a1 l.length c1,.slice a2 ks.length c2] 42 (0,0))) (HA.out.2 _ HU.out.drew) ?_;refine Ap (.pointer (some ⟨w.heap.size,3,none⟩)) ?_;refine Ap (.slice a1 l.length c1) ?_;refine Ap (.pointer (some ⟨w.heap.size,4,none⟩)) ?_;refine Ap (.slice a2 ks.length c2) ?_;refine Ap (.pointer (some ⟨w.heap.size,3,none⟩)) ?_;refine Ap (.slice a1 l.length c1) ?_;refine Ap (.int .i64 l.length) ?_;refine Ap (.pointer (some ⟨w.heap.size,4,none⟩)) ?_;refine Ap (.slice a2 ks.length c2) ?_;refine Ap (.int .i64 ks.length) ?_;refine Ap (.bool false) ?_;refine Ap (.bool false) ?_;refine Ii rfl rfl ?_;simp only[gX,aP];refine Ii rfl rfl ?_;simp only[gX,aP];refine Ap (.pointer (some ⟨W.heap.size,3,none⟩)) ?_;refine Ac rfl (fun Kx aB=>?_);go_wp2_with fail;refine aB _ _ (fun _=>HA.out.2 _ (by first|exact HU.out.drew|exact((bRf _ W).alloc (nlr _) _).drew)) ?_;skip;refine Ap (.bool false) ?_;refine Ac rfl (fun Kx aB=>?_);go_wp2_with fail;refine aB _ _ (fun _=>HA.out.2 _ (by first|exact HU.out.drew|exact((bRf _ W).alloc (nlr _) _).drew)) ?_;skip;refine Ap (.pointer (some ⟨W.heap.size,4,none⟩)) ?_;refine Ac rfl (fun Kx aB=>?_);go_wp2_with fail;refine aB _ _ (fun _=>HA.out.2 _ (by first|exact HU.out.drew|exact((bRf _ W).alloc (nlr _) _).drew)) ?_;skip;refine Ap (.bool false) ?_;refine Ak ?_;go_wp2_with fail;go_meet
           case rel=>exact⟨false,0,⟨#[]⟩,a1,l.length,c1,a2,ks.length,c2,rfl,Lq7 ⟨heap_alloc_new W _,((bRf _ W).alloc (nlr _) _).drew,(by have h:=Um n s l ks;rw[He.out,Bool.false_and] at h;exact h)⟩⟩
         ·
          have e0:(k==0)=false:=(by simpa using h0);have e1:(k==1)=false:=(by simpa using h1);have e2:(k==2)=false:=(by simpa using h2);have e3:(k==3)=false:=(by simpa using h3);have e4:(k==4)=false:=(by simpa using h4);have e5:(k==5)=false:=(by simpa using h5);have Hx:Hid (mayV (.mk k n s l ks) d m=(false,m - 1)):=Lq7 (by rw[Hr.out,nodeOkx n s l ks ⟨h0,h1,h2,h3,h4,h5⟩];rfl);clear h0 h1 h2 h3 h4 h5;go_wp2_with fail;go_ret;rw[Hx.out];exact⟨rfl,Ae HW.out.grown (Bg HU.out),(HU.out.block _ (by have:=HW.out.size;have:=HW.out.lbl;omega)).trans HW.out.left⟩
   case rest=>
    obtain⟨rt,bn,bs,a3,l3,c3,a4,l4,c4,hrv,Hc⟩:=hcut;subst hrv;rename World=>wc;have aC:=Lq7 (HW.out.below Hc.out.2.1);have aG:Hid (By k n s l ks=false->Hid (mayV (.mk k n s l ks) d m=(false,m - 1))):=Lq7 (fun h=>Lq7 (by rw[Hr.out,h];rfl));clear t0 t1 t2 t3 t4 t5 t6 t7 t8 t9 aR;obtain⟨t0,t1,t2,t3,t4,t5,t6,t7,t8,t9,aR⟩:=Aa aC.out.a;obtain⟨u0,u1,u2,u3,u4,u5,u6,u7,u8,u9,u10⟩:=Aa Hc.out.1;cases rt
    ·have h9:By k n s l ks=false:=(by rw[Hc.out.2.2];rfl);have Hx:=aG.out h9;clear h9;go_wp2_with fail;go_ret;rw[Hx.out];exact⟨rfl,Ae HW.out.grown (Bg Hc.out.2.1),aC.out.left⟩
    ·cases hn:(bn==n)
     ·have hn':(bn != n)=true:=(by simp[bne,hn]);have h9:By k n s l ks=false:=(by rw[Hc.out.2.2,hn];simp);have Hx:=aG.out h9;clear h9;go_wp2_with fail;go_ret;rw[Hx.out];exact⟨rfl,Ae HW.out.grown (Bg Hc.out.2.1),aC.out.left⟩
     ·have hn':(bn != n)=false:=(by simp[bne,hn]);cases hs:(bs.toList==s.toList)
      ·have hs':(bs.toList != s.toList)=true:=(by simp[bne,hs]);have h9:By k n s l ks=false:=(by rw[Hc.out.2.2,hs];simp);have Hx:=aG.out h9;clear h9;go_wp2_with fail;go_ret;rw[Hx.out];exact⟨rfl,Ae HW.out.grown (Bg Hc.out.2.1),aC.out.left⟩
      ·have hs':(bs.toList != s.toList)=false:=(by simp[bne,hs]);cases hl3:((l3:Int)==(l.length:Int))
       ·have hl3':((l3:Int) != (l.length:Int))=true:=(by simp[bne,hl3]);have h9:By k n s l ks=false:=(by rw[Hc.out.2.2,hl3];simp);have Hx:=aG.out h9;clear h9;go_wp2_with fail;go_ret;rw[Hx.out];exact⟨rfl,Ae HW.out.grown (Bg Hc.out.2.1),aC.out.left⟩
       ·have hl3':((l3:Int) != (l.length:Int))=false:=(by simp[bne,hl3]);cases hl4:((l4:Int)==(ks.length:Int))
        ·have hl4':((l4:Int) != (ks.length:Int))=true:=(by simp[bne,hl4]);have h9:By k n s l ks=false:=(by rw[Hc.out.2.2,hl4];simp);have Hx:=aG.out h9;clear h9;go_wp2_with fail;go_ret;rw[Hx.out];exact⟨rfl,Ae HW.out.grown (Bg Hc.out.2.1),aC.out.left⟩
        ·have hl4':((l4:Int) != (ks.length:Int))=false:=(by simp[bne,hl4]);have aH:Hid (mayV (.mk k n s l ks) d m=Ck l (d+1) (m - 1)):=Lq7 (by rw[Hr.out,if_pos (by rw[Hc.out.2.2,hn,hs,hl3,hl4];rfl)]);have hmf:∀(fn:Fn) (first cap:Array Value) (w:World),(Instr.makeFunc fn first cap).run Tryz.prog w = .ok (.func fn first cap) w:=fun _ _ _ _=>rfl;have aQ:=aC.out.grown;have Hcf:=Lq7 (G3 F 88 #[] #[.pointer (some ⟨w.heap.size+1,0,none⟩),.pointer (some ⟨w.heap.size+1+1,0,none⟩)] (by intro args w;rfl) a1 c1 l (mayQ (d+1) l (m - 1))
          (fun j W'=>wc.grownBy W' (some lb)/\W'.heap[lb]? = some (.cells #[.int .i64 (Ef (d+1) l (m - 1) j)] 3 (0,0))) wc (by omega) ⟨C5 _ _,by rw[Eq];exact aC.out.left⟩
          (fun j W' h=>Hr1.out.mono (fun b hF hl=>⟨hF,nll hl (Ae aQ h.1).size,(Ae aQ h.1).block b hl (fun e=>by cases e;exact HF.out _ hF rfl)⟩))
          (fun j kk kn ks' km kks b1 e1 b2 e2 W' hj hI hq hr1 hr2=>by
           have hlo:=Pj (d+1) l (m - 1) j (by omega) (fun i hi hil=>hq i hi);have hsz:=aC.out.size;have hlbl:=aC.out.lbl;have hx:MayC (.mk kk kn ks' km kks):=Hit.out _ (lgM hj);refine(may1_any (.mk kk kn ks' km kks) hx F d (Ef (d+1) l (m - 1) j) lb (w.heap.size+1) (w.heap.size+1+1) b1 e1 b2 e2 W' HF.out hd0 (by omega) hlo.1 (by omega) hI.2
            ((hI.1.block _ (by omega) (fun e=>by cases e;omega)).trans aC.out.b) ((hI.1.block _ (by omega) (fun e=>by cases e;omega)).trans aC.out.c) hr1 hr2).mono ?_
           rintro e w2 ⟨rfl,hg2,hl2⟩;have hq':mayQ (d+1) l (m - 1) j = !(mayV (.mk kk kn ks' km kks) (d+1) (Ef (d+1) l (m - 1) j)).1:=(by unfold mayQ;rw[hj]);exact⟨by rw[hq'],Ae hI.1 hg2,by rw[Mf _ _ _ _ _ hj];exact hl2⟩))
         clear aQ;go_wp2_with fail;refine Hcf.out.mono ?_;rintro e w2 (⟨i,hi,aW,hq,rfl,aJ⟩|⟨hq,rfl,aJ⟩)
         ·have aF:Hid (mayV (.mk k n s l ks) d m=(false,Ef (d+1) l (m - 1) (i+1))):=Lq7 (by rw[aH.out];exact Pi _ _ _ _ hi aW hq);have aM:=Lq7 aJ;clear hi aW hq aJ;go_wp2_with fail;go_ret;rw[aF.out];exact⟨rfl,Ae aC.out.grown aM.out.1,aM.out.2⟩
         ·have aF:Hid (mayV (.mk k n s l ks) d m=(true,Ef (d+1) l (m - 1) l.length)):=Lq7 (by rw[aH.out];exact Ph _ _ _ hq);have aM:=Lq7 aJ;clear hq aJ;go_wp2_with fail;go_ret;rw[aF.out];exact⟨rfl,Ae aC.out.grown aM.out.1,aM.out.2⟩
theorem may_all(v):A6 v->MayC v:=
 Vl.rec (motive_1:=fun v=>A6 v->MayC v) (motive_2:=fun l=>B4 l->∀x∈l,MayC x)
  (fun k n s l ks ih hs=>by
   rw[A6] at hs;intro F d m lb a1 c1 a2 c2 w hF hd0 hd1 hm0 hm1 hb hr1 hr2;exact may_node k n s l ks F d m lb a1 c1 a2 c2 w hd0 hd1 hm0 hm1 hb hr1 hr2 hF hs.2.1 hs.2.2.1 hs.2.2.2.1 hs.1.1 (ih hs.2.2.2.2) hs.1.2)
  (fun _ x hx=>by cases hx)
  (fun v t hv ht hs x hx=>by
   rw[B4] at hs;rcases List.mem_cons.1 hx with rfl|hx
   ·exact hv hs.1
   ·exact ht hs.2 x hx) v
theorem Dx(v)(hs:A6 v)(F a1 c1 a2 c2 w)(hF:∀b,F b->b<w.heap.size)(hr1:Af F w a1 (Ar v.items))(hr2:Af F w a2 (Bl v.keys)):
  Calls Tryz.prog 32 #[A8 v.kind v.num v.str a1 v.items.length c1 a2 v.keys.length c2] w (fun e w'=>e = .returned (.bool (A0 v))/\Below w.heap.size w w'):=by
 have aD:Below w.heap.size w ((w.alloc (.cells #[.int .i64 v.kind,.int .i64 v.num,.string v.str,.slice a1 v.items.length c1,.slice a2 v.keys.length c2] 42)).alloc (.cells #[.int .i64 20000] 3)):=((bRf _ w).alloc (nlr _) _).alloc (by simp) _;have hl:((w.alloc (.cells #[.int .i64 v.kind,.int .i64 v.num,.string v.str,.slice a1 v.items.length c1,.slice a2 v.keys.length c2] 42)).alloc (.cells #[.int .i64 20000] 3)).heap[w.heap.size+1]? = some (.cells #[.int .i64 20000] 3 (0,0)):=by
  have:=heap_alloc_new (w.alloc (.cells #[.int .i64 v.kind,.int .i64 v.num,.string v.str,.slice a1 v.items.length c1,.slice a2 v.keys.length c2] 42)) (.cells #[.int .i64 20000] 3)
  simpa using this
 have Hc:=Lq7 (may_all v hs F 1 20000 (w.heap.size+1) a1 c1 a2 c2 _ (fun b hb=>by have:=hF b hb;omega) (by omega) (by omega) (by omega) (by omega) hl (hr1.below aD) (hr2.below aD));have aE:=Lq7 aD;unfold A8 at Hc |-;go_enter Tryz.func32,Tryz.ntmps32;go_wp2_with fail;refine Hc.out.mono ?_;rintro e w1 ⟨rfl,hg,-⟩;go_wp2_with fail;go_ret;exact⟨rfl,⟨hg.os.trans aE.out.os,hg.tape.trans aE.out.tape,hg.output.trans aE.out.output,nlt aE.out.size hg.size,fun b hb=>(hg.block b (nll hb aE.out.size) (fun e=>by cases e;omega)).trans (aE.out.block b hb)⟩⟩
section
variable {H:Type} {enc:TypeId×Value->H} {P:Program} {W:World}
theorem Ow{α:Type}(f:α->List Dat)(good:α->Prop){t e:TypeId}(ht:P.underlying t=some (.slice e)){fuel:Nat}{cs:List Value}{d:DataW H}{ps:List MemPlace}
  (hel:∀n us y,n<fuel->DataW.trod enc P W 0 (fun _=>true) true n e us=some y->(∀k∈y.1.weights P e,k<=reachBytes)->∃v,toDat y.1=f v/\good v)
  (h:DataW.trod enc P W 0 (fun _=>true) true fuel t cs=some (d,ps)) (hw:∀k∈d.weights P t,k<=reachBytes):∃l:List α,toDat d=[.row (l.map f)]/\(∀v∈l,good v)/\l.length*P.bytesOf e<=reachBytes:=by
 rcases DataW.trod_slice ht h with⟨rfl,hx⟩|⟨a,len,cap,elems,rest,n,hn,rfl,hx,-,hl,hm,hlen,hl2,-,-⟩
 ·cases hx;exact⟨[],(by rw[toDat];rfl),(fun v hv=>by cases hv),(by simp)⟩
 ·cases hx;cases hn;have hw':∀k∈((elems.map (·.1)).length+(rest.map (·.1)).length)*P.bytesOf e::(DataW.weightsAll P e (elems.map (·.1))++DataW.weightsAll P e (rest.map (·.1))),k<=reachBytes:=by
   intro k hk;refine hw k ?_;rw[DataW.weights,ht];exact hk
  have aB:=hw' _ (List.mem_cons_self ..);have aC:∀(l:List (DataW H)) y,y∈l->∀k∈y.weights P e,k∈DataW.weightsAll P e l:=by
   intro l
   induction l with
   | nil=>intro y hy;cases hy
   | cons z t ih=>
    intro y hy k hk;rw[DataW.weightsAll,List.mem_append];rcases List.mem_cons.1 hy with rfl|hy
    ·exact .inl hk
    ·exact .inr (ih y hy k hk)
  have hex:∀j:Fin elems.length,∃v,toDat elems[j].1=f v/\good v:=by
   intro j;have h1:=hl2 j (by rw[<-hlen];exact j.2);cases hcs:W.cells? 0 (a.add (j*P.cellsOf e)) (P.cellsOf e) with
   | none=>rw[hcs,lgE j.2] at h1;cases h1
   | some us=>
    rw[hcs,lgE j.2] at h1;exact hel n us _ (Nat.lt_succ_self n) h1 (fun k hk=>hw' k (List.mem_cons_of_mem _ (List.mem_append_left _ (aC _ _ (List.mem_map_of_mem (f:=(·.1)) (List.getElem_mem j.2)) k hk))))
  obtain⟨g,hg⟩:=Classical.axiomOfChoice hex;refine⟨List.ofFn g,?_,?_,?_⟩
  ·rw[toDat,Kd]
   congr 2
   apply List.ext_getElem
   ·simp
   ·intro i h1 h2;simp only[List.getElem_map,List.getElem_ofFn];exact(hg ⟨i,by simpa using h1⟩).1
  ·intro v hv;obtain⟨j,rfl⟩:=List.mem_ofFn.1 hv;exact(hg j).2
  ·rw[List.length_ofFn];rw[lnM] at aB;exact nlt (Nat.mul_le_mul_right _ (Nat.le_add_right _ _)) aB
theorem Mh{t:TypeId}(ht:P.underlying t=some .string){fuel:Nat}{cs:List Value}{d:DataW H}{ps:List MemPlace}(h:DataW.trod enc P W 0 (fun _=>true) true fuel t cs=some (d,ps))(hw:∀k∈d.weights P t,k<=reachBytes):
  ∃s:ByteArray,toDat d=[.one (.string s)]/\s.size<=reachBytes:=by
 obtain⟨s,rfl,hx,-⟩:=DataW.trod_string ht h;cases hx;refine⟨s,by rw[toDat],?_⟩;have:=hw s.data.toList.length (by simp[DataW.weights])
 rwa [Ax] at this
end

theorem rises_keys:∀(l:List ByteArray) (p:Option ByteArray),risesGo p l=true->∀s∈l,s.size<=65536
 | [],_,_,s,hs=>by cases hs
 | x::t,p,h,s,hs=>by
  rw[Lc] at h;simp only[bAt,decide_eq_true_eq] at h;rcases List.mem_cons.1 hs with rfl|hs
  ·exact h.1.1
  ·exact rises_keys t _ h.2 s hs
theorem Il{s:ByteArray}(h:s.toList=[]):s.size=0:=by
 rw[Lq8] at h;rw[<-Ax,h];rfl
theorem P0{k n s l ks}(h:By k n s l ks=true):inR n=true:=by
 unfold By at h;have aB:∀m:Int,m=0\/m=1->inR m=true:=fun m hm=>by rcases hm with rfl|rfl<;>rfl
 split at h
 ·simp only[bAt,beq_iff_eq] at h;exact aB n (.inl h.1.1.1)
 ·split at h
  ·simp only[bAt,Bool.or_eq_true,beq_iff_eq] at h;exact aB n h.1.1.1
  ·split at h
   ·simp only[bAt] at h;exact h.1.1.1
   ·split at h
    ·simp only[bAt,beq_iff_eq] at h;exact aB n (.inl h.1.1.1)
    ·split at h
     ·simp only[bAt,beq_iff_eq] at h;exact aB n (.inl h.1.1.1)
     ·split at h
      ·simp only[bAt,beq_iff_eq] at h;exact aB n (.inl h.1.1.1)
      ·cases h
theorem Iy{k n s l ks}(h:By k n s l ks=true):s.size<=65536/\l.length<=1000/\ks.length<=1000/\∀x∈ks,x.size<=65536:=by
 unfold By at h;split at h
 ·simp only[bAt,List.isEmpty_iff] at h;obtain⟨⟨⟨-,h2⟩,rfl⟩,rfl⟩:=h;have:=Il h2;exact⟨by omega,by simp,by simp,by simp⟩
 ·split at h
  ·simp only[bAt,List.isEmpty_iff] at h;obtain⟨⟨⟨-,h2⟩,rfl⟩,rfl⟩:=h;have:=Il h2;exact⟨by omega,by simp,by simp,by simp⟩
  ·split at h
   ·simp only[bAt,List.isEmpty_iff] at h;obtain⟨⟨⟨-,h2⟩,rfl⟩,rfl⟩:=h;have:=Il h2;exact⟨by omega,by simp,by simp,by simp⟩
   ·split at h
    ·simp only[bAt,List.isEmpty_iff,decide_eq_true_eq] at h;obtain⟨⟨⟨-,h2⟩,rfl⟩,rfl⟩:=h;exact⟨h2,by simp,by simp,by simp⟩
    ·split at h
     ·simp only[bAt,List.isEmpty_iff,decide_eq_true_eq] at h;obtain⟨⟨⟨-,h2⟩,h3⟩,rfl⟩:=h;have:=Il h2;exact⟨by omega,h3,by simp,by simp⟩
     ·split at h
      ·simp only[bAt,beq_iff_eq] at h;obtain⟨⟨⟨-,h2⟩,h3⟩,h4⟩:=h;have:=Il (List.isEmpty_iff.1 h2);unfold risesL at h4;simp only[bAt,decide_eq_true_eq] at h4;exact⟨by omega,by omega,h4.2,rises_keys _ _ h4.1⟩
      ·cases h
theorem Xl(v):∀d m,(mayV v d m).1=true->A6 v:=
 Vl.rec (motive_1:=fun v=>∀d m,(mayV v d m).1=true->A6 v) (motive_2:=fun l=>∀d m,(Ck l d m).1=true->B4 l)
  (fun k n s l ks ih d m h=>by
   rw[mayV] at h;split at h
   ·cases h
   ·split at h
    ·rename_i hk
     obtain⟨h1,h2,h3,h4⟩:=Iy hk;rw[A6];exact⟨⟨by omega,P0 hk⟩,by omega,by omega,fun x hx=>by have:=h4 x hx;omega,ih _ _ h⟩
    ·cases h)
  (fun _ _ _=>by rw[B4];trivial)
  (fun v t hv ht d m h=>by
   rw[Ck] at h;split at h
   ·rename_i h1
    rw[B4];exact⟨hv _ _ h1,ht _ _ h⟩
   ·cases h) v
theorem Br{v}(h:A0 v=true):A6 v:=Xl v _ _ h
def B9(v:Vl):Option (List ByteArray):=if v.kind=4/\A0 v=true/\v.items.all (fun x=>x.kind==3)=true then some (v.items.map Vl.str) else none
def Oq(v:Vl)(w:World)(e:Ending)(w':World):Prop:=Below w.heap.size w w'/\match B9 v with
 | some l=>∃x,e = .returned (.tuple #[x,.bool true])/\OwnS w' w.heap.size x l
 | none=>e = .returned (.tuple #[.slice none 0 0,.bool false])
theorem check_len{k n s l ks}(h:A0 (.mk k n s l ks)=true):s.size<=65536/\l.length<=1000/\ks.length<=1000:=by
 unfold A0 at h;rw[mayV] at h;split at h
 ·cases h
 ·split at h
  ·rename_i hk
   obtain⟨h1,h2,h3,-⟩:=Iy hk;exact⟨h1,h2,h3⟩
  ·cases h
theorem Cq(k n s l ks)(hs:A6 (.mk k n s l ks))(F a1 c1 a2 c2 w)(hF:∀b,F b->b<w.heap.size)(hr1:Af F w a1 (Ar l))(hr2:Af F w a2 (Bl ks)):
  Calls Tryz.prog 141 #[.agg #[.int .i64 k,.int .i64 n,.string s,.slice a1 l.length c1,.slice a2 ks.length c2]] w (Oq (.mk k n s l ks) w):=by
 have aG:Below w.heap.size w (w.alloc (.cells #[.int .i64 k,.int .i64 n,.string s,.slice a1 l.length c1,.slice a2 ks.length c2] 42)):=(bRf _ w).alloc (nlr _) _;have H0:=Lq7 (heap_alloc_new w (.cells #[.int .i64 k,.int .i64 n,.string s,.slice a1 l.length c1,.slice a2 ks.length c2] 42));have aH:=Lq7 (Dx (.mk k n s l ks) hs F a1 c1 a2 c2 _ (fun b hb=>nll (hF b hb) aG.size) (hr1.below aG) (hr2.below aG));have aJ:=Lq7 aG;have Hr1:=Lq7 (hr1.below aG);unfold A8 at aH;have Hz:Hid (∀x∈l,A6 x):=Lq7 (by rw[A6] at hs;exact fun x hx=>smallVs_mem hs.2.2.2.2 hx);have hlen:l.length<=140737488355328:=(by rw[A6] at hs;exact hs.2.1);by_cases hk:k=4
 ·subst hk;cases hck:A0 (.mk 4 n s l ks) with
  | false=>
   have Ht:Hid (B9 (.mk 4 n s l ks)=none):=Lq7 (by unfold B9;rw[if_neg (fun h=>by rw[hck] at h;exact absurd h.2.1 (by decide))]);rw[hck] at aH;go_enter Tryz.func141,Tryz.ntmps141;go_wp2_with fail;refine aH.out.mono ?_;rintro e w1 ⟨rfl,aM⟩;have aY:=Lq7 (aJ.out.trans (aM.mono aJ.out.size));go_wp2_with fail;refine bodyPost_ret (v:=.tuple #[.slice none 0 0,.bool false]) (by simp[results,Tryz.results141,go_sem]) rfl ?_;unfold Oq;rw[Ht.out];exact⟨aY.out,rfl⟩
  | true=>
   have Ht:Hid (B9 (.mk 4 n s l ks)=if l.all (fun x=>x.kind==3)=true then some (l.map Vl.str) else none):=Lq7 (by
    unfold B9;by_cases h:l.all (fun x=>x.kind==3)=true
    ·rw[if_pos ⟨rfl,hck,h⟩,if_pos h];rfl
    ·rw[if_neg (fun h'=>h h'.2.2),if_neg h])
   rw[hck] at aH;have hl1:l.length<=1000:=(check_len hck).2.1;obtain⟨i0,hi,hz0,hz1,hz2⟩:=info_parts infoStr;go_enter Tryz.func141,Tryz.ntmps141;go_wp2_with fail;refine aH.out.mono ?_;rintro e w1 ⟨rfl,aM⟩;have aY:=Lq7 (aJ.out.trans (aM.mono aJ.out.size));have H1:=Lq7 (stays H0.out aM);have Hr:=Lq7 (Hr1.out.below aM);obtain⟨q0,q1,q2,q3,q4,q5,q6,q7,q8,q9,q10⟩:=Aa H1.out;have hw1:w.heap.size+1<=w1.heap.size:=(by have:=here H1.out;omega);go_wp2_with fail
   go_loopw [4,18] (fun v i wr=>∃j:Nat,i = .int .i64 j/\j<=l.length/\Hid (OwnS wr w1.heap.size v ((l.take j).map Vl.str))/\Hid (Below w1.heap.size w1 wr)/\Hid ((l.take j).all (fun x=>x.kind==3)=true)) (fun _ i _=>l.length-(intOf i).toNat)
   case atStart=>exact⟨0,rfl,nlz _,Lq7 (OwnS.nil _ _),Lq7 (bRf _ _),Lq7 rfl⟩
   case round=>
    obtain⟨j,rfl,hj,hown,aD,aE⟩:=hrel;by_cases hlt:j<l.length
    ·cases hx:l[j] with
     | mk xk xn xs xl xks=>
      have aZ:l[j]? = some (.mk xk xn xs xl xks):=(by rw[lgE hlt,hx]);obtain⟨b,off,b1,e1,b2,e2,hae,-,hbl,r0,r1,r2,r3,r4,-,-⟩:=(Hr.out.below aD.out).val aZ;have bA:l.take (j+1)=l.take j++[.mk xk xn xs xl xks]:=(by rw[List.take_add_one,aZ];rfl);have hzx:xs.size<=9223372036854775807:=by
       have:=Hz.out _ (lgM aZ);rw[A6] at this;exact this.1.1
      subst hae;have Hq:=Lq7 (stays H1.out aD.out);obtain⟨aL,cL,rfl,-,-⟩:=hown.out.strsAt;rw[lnM,lnT,Nat.min_eq_left hj] at hown |-;by_cases hk3:xk=3
      ·subst hk3;have aN:OwnS (wr.alloc (.cells #[.int .i64 3,.int .i64 xn,.string xs,.slice b1 xl.length e1,.slice b2 xks.length e2] 42)) w1.heap.size (.slice aL j cL) ((l.take j).map Vl.str):=hown.out.below ((bRf _ _).alloc (nlr _) _);have aB:=lit_one (wr.alloc (.cells #[.int .i64 3,.int .i64 xn,.string xs,.slice b1 xl.length e1,.slice b2 xks.length e2] 42)) (.string xs) 9;rw[show(wr.alloc (.cells #[.int .i64 3,.int .i64 xn,.string xs,.slice b1 xl.length e1,.slice b2 xks.length e2] 42)).heap.size=wr.heap.size+1 by simp] at aB;have aQ:=Lq7 aB;have aR:Hid (((wr.alloc (.cells #[.int .i64 3,.int .i64 xn,.string xs,.slice b1 xl.length e1,.slice b2 xks.length e2] 42)).alloc (.cells #[.string xs] 9)).ownsRow w1.heap.size 9 1 (.slice aL j cL) j (((l.take j).map Vl.str).map Value.string)):=Lq7 (by
        have:=aN.below ((bRf _ _).alloc (nlr _) (.cells #[.string xs] 9));unfold OwnS at this;rw[lnM,lnT,Nat.min_eq_left hj] at this;exact this)
       have bB:Hid (∀g,(Value.slice aL j cL).ownBlock=some g->w1.heap.size<=g):=Lq7 (fun g hg=>(hown.out.block hg).1);have hall':Hid ((l.take (j+1)).all (fun x=>x.kind==3)=true):=Lq7 (by rw[bA,List.all_append,aE.out];rfl);have Htk:Hid ((l.take (j+1)).map Vl.str=(l.take j).map Vl.str++[xs]):=Lq7 (by rw[bA,List.map_append];rfl);have hsz:=aD.out.size
       go_wp2_with (at_builtin;refine wpList_append_own _ rfl _ _ 40 rfl w1.heap.size 9 i0 (.string ByteArray.empty) 1 16 Tryz.underlying40 hi hz0 hz1 hz2 rfl (by decide) (.slice aL j cL) j _ rfl aR.out ⟨wr.heap.size+1,0,none⟩ 1 1 [.string xs] rfl rfl aQ.out ?_ ?_ ?_ ?_ ?_)
       ·simp[Value.oneCell']
       ·unfold maxLen;omega
       ·omega
       ·simp;omega
       intro v2 w2 aU aF _;have aC:Hid (OwnS w2 w1.heap.size v2 ((l.take (j+1)).map Vl.str)):=Lq7 (by
        rw[Htk.out];unfold OwnS;rw[List.length_append,lnM,lnT,Nat.min_eq_left hj,List.map_append]
        simpa using aU)
       have bC:Hid (Below w1.heap.size w1 w2):=Lq7 ((aD.out.trans ((((bRf _ wr).alloc (nlr _) _).alloc (by simp) _).mono hsz)).trans (B5 aF bB.out (by simp;omega)));obtain⟨aL2,cL2,rfl,-,-⟩:=aC.out.strsAt;go_wp2_with fail;go_roundw
       case rel=>exact⟨j+1,by go_num,by omega,aC,bC,hall'⟩
       case measure=>simp only[intOf];omega
      ·have hk3':(xk != 3)=true:=(by simpa using hk3);have Hn:Hid (B9 (.mk 4 n s l ks)=none):=Lq7 (by
        rw[Ht.out,if_neg];intro h;rw[List.all_eq_true] at h;have hm:Vl.mk xk xn xs xl xks∈l:=by
         have:Vl.mk xk xn xs xl xks∈l.take (j+1):=(by rw[bA];simp);exact List.mem_of_mem_take this
        have:=h _ hm;exact hk3 (by simpa[Vl.kind] using this))
       go_wp2_with fail;refine bodyPost_ret (v:=.tuple #[.slice none 0 0,.bool false]) (by simp[results,Tryz.results141,go_sem]) rfl ?_;unfold Oq;rw[Hn.out];exact⟨aY.out.trans ((aD.out.trans ((bRf _ wr).alloc (nlr _) _ |>.mono aD.out.size)).mono (by omega)),rfl⟩
    ·have aW:l.take j=l:=List.take_of_length_le (by omega);rw[aW] at hown aE;have bD:Hid (B9 (.mk 4 n s l ks)=some (l.map Vl.str)):=Lq7 (by rw[Ht.out,if_pos aE.out]);have hown':=hown.out.lower (base':=w.heap.size) (by omega);have Hown':=Lq7 hown';obtain⟨aL,cL,rfl,-,-⟩:=hown'.strsAt;go_wp2_with fail;refine bodyPost_ret (v:=.tuple #[.slice aL (l.map Vl.str).length cL,.bool true]) (by simp[results,Tryz.results141,go_sem]) rfl ?_;unfold Oq;rw[bD.out];exact⟨aY.out.trans (aD.out.mono (by omega)),_,rfl,Hown'.out⟩
 ·have Ht:Hid (B9 (.mk k n s l ks)=none):=Lq7 (by unfold B9;rw[if_neg (fun h=>hk h.1)]);have hk':(k != 4)=true:=(by simpa using hk);go_enter Tryz.func141,Tryz.ntmps141;go_wp2_with fail;refine bodyPost_ret (v:=.tuple #[.slice none 0 0,.bool false]) (by simp[results,Tryz.results141,go_sem]) rfl ?_;unfold Oq;rw[Ht.out];exact⟨aJ.out,rfl⟩
theorem Kk(k n s l ks)(hs:A6 (.mk k n s l ks))(F a1 c1 a2 c2 w)(hF:∀b,F b->b<w.heap.size)(hr1:Af F w a1 (Ar l))(hr2:Af F w a2 (Bl ks)):
  Calls Tryz.prog 120 #[.agg #[.int .i64 k,.int .i64 n,.string s,.slice a1 l.length c1,.slice a2 ks.length c2]] w (fun e w'=>e = .returned (.bool (Eu (.mk k n s l ks)))/\Below w.heap.size w w'):=by
 have aD:Below w.heap.size w (w.alloc (.cells #[.int .i64 k,.int .i64 n,.string s,.slice a1 l.length c1,.slice a2 ks.length c2] 42)):=(bRf _ w).alloc (nlr _) _;have aF:=Lq7 (Dx (.mk k n s l ks) hs F a1 c1 a2 c2 _ (fun b hb=>nll (hF b hb) aD.size) (hr1.below aD) (hr2.below aD));have aE:=Lq7 (aIn aD (heap_alloc_new w (.cells #[.int .i64 k,.int .i64 n,.string s,.slice a1 l.length c1,.slice a2 ks.length c2] 42)));have Ht:Hid (Eu (.mk k n s l ks)=(A0 (.mk k n s l ks)&&(n != 0||(s.toList != []||decide (0<l.length))))):=Lq7 (by
  unfold Eu;rw[Bool.or_assoc]
  congr 2
  show(!s.toList.isEmpty || !l.isEmpty)=_
  congr 1
  ·cases s.toList<;>rfl
  ·cases l<;>simp)
 have he:(⟨#[]⟩:ByteArray).toList=[]:=(by rw[Lq8]);have He:=Lq7 he;unfold A8 at aF;go_enter Tryz.func120,Tryz.ntmps120;go_wp2_with fail;refine aF.out.mono ?_;rintro e w1 ⟨rfl,aG⟩;obtain⟨r0,r1,r2,r3,r4,r5,-,-,-,-,-⟩:=Aa ((aG.block _ (agS.1 aE.out.2).1).trans aE.out.2);have aC:=Lq7 (aE.out.1.trans (aG.mono aE.out.1.size));cases hc:A0 (.mk k n s l ks)
 ·have aB:Hid (Eu (.mk k n s l ks)=false):=Lq7 (by rw[Ht.out,hc];rfl);go_wp2_with fail;go_ret;exact⟨by rw[aB.out];rfl,aC.out⟩
 ·have Hc:=Lq7 hc;by_cases hn:n=0
  ·have h1:(n==0)=true:=(by simpa using hn);have h2:(n != 0)=false:=(by simpa using hn);by_cases hz:s.toList=[]
   ·have h3:(s.toList==[])=true:=(by rw[hz];rfl);have h4:(s.toList != [])=false:=(by rw[hz];rfl);by_cases hl:0<l.length
    ·have aB:Hid (Eu (.mk k n s l ks)=true):=Lq7 (by rw[Ht.out,Hc.out,h2,h4,decide_eq_true hl];rfl);go_wp2_with fail;go_ret;exact⟨by rw[aB.out];rfl,aC.out⟩
    ·have aB:Hid (Eu (.mk k n s l ks)=false):=Lq7 (by rw[Ht.out,Hc.out,h2,h4,decide_eq_false hl];rfl);go_wp2_with fail;go_ret;exact⟨by rw[aB.out];rfl,aC.out⟩
   ·have h3:(s.toList==[])=false:=(by simpa using hz);have h4:(s.toList != [])=true:=(by simpa using hz);have aB:Hid (Eu (.mk k n s l ks)=true):=Lq7 (by rw[Ht.out,Hc.out,h2,h4];rfl);go_wp2_with fail;go_ret;exact⟨by rw[aB.out];rfl,aC.out⟩
  ·have h1:(n==0)=false:=(by simpa using hn);have h2:(n != 0)=true:=(by simpa using hn);have aB:Hid (Eu (.mk k n s l ks)=true):=Lq7 (by rw[Ht.out,Hc.out,h2];rfl);go_wp2_with fail;go_ret;exact⟨by rw[aB.out];rfl,aC.out⟩
theorem Rg(v):∀d m d' m',d'<=d->m<=m'->(mayV v d m).1=true->(mayV v d' m').1=true/\(mayV v d' m').2=(mayV v d m).2+(m'-m)/\(mayV v d m).2<=m:=
 Vl.rec (motive_1:=fun v=>∀d m d' m',d'<=d->m<=m'->(mayV v d m).1=true->(mayV v d' m').1=true/\(mayV v d' m').2=(mayV v d m).2+(m'-m)/\(mayV v d m).2<=m)
  (motive_2:=fun l=>∀d m d' m',d'<=d->m<=m'->(Ck l d m).1=true->(Ck l d' m').1=true/\(Ck l d' m').2=(Ck l d m).2+(m'-m)/\(Ck l d m).2<=m)
  (fun k n s l ks ih d m d' m' hd hm h=>by
   rw[mayV] at h |-;split at h
   ·cases h
   ·rename_i h1
    split at h
    ·rename_i hk
     rw[if_neg (by omega),if_pos hk];have h2:=ih (d+1) (m - 1) (d'+1) (m' - 1) (by omega) (by omega) h;rw[mayV,if_neg h1,if_pos hk];exact⟨h2.1,by rw[h2.2.1];omega,by omega⟩
    ·cases h)
  (fun d m d' m' _ _ _=>by rw[Ck,Ck];exact⟨rfl,by simp;omega,Int.le_refl _⟩)
  (fun v t hv ht d m d' m' hd hm h=>by
   rw[Ck] at h;split at h
   ·rename_i h1
    obtain⟨h2,h3,h4⟩:=hv d m d' m' hd hm h1;obtain⟨h5,h6,h7⟩:=ht d (mayV v d m).2 d' (mayV v d' m').2 hd (by omega) h;rw[Ck,if_pos h2,Ck,if_pos h1];exact⟨h5,by rw[h6,h3];omega,by omega⟩
   ·cases h) v
theorem mays_items:∀(l:List Vl) (d m:Int),1<=d->m<=20000->(Ck l d m).1=true->∀x∈l,A0 x=true
 | [],_,_,_,_,_=>fun x hx=>by cases hx
 | v::t,d,m,hd,hm,h=>fun x hx=>by
  rw[Ck] at h;split at h
  ·rename_i h1
   obtain⟨h2,-,-⟩:=Rg v d m 1 20000 hd hm h1;obtain⟨-,-,h4⟩:=Rg v d m d m (Int.le_refl _) (Int.le_refl _) h1;rcases List.mem_cons.1 hx with rfl|hx
   ·exact h2
   ·exact mays_items t d _ hd (by omega) h x hx
  ·cases h
theorem Rh{k n s l ks}(h:A0 (.mk k n s l ks)=true):∀x∈l,A0 x=true:=by
 unfold A0 at h;rw[mayV] at h;split at h
 ·cases h
 ·split at h
  ·exact mays_items l _ _ (by decide) (by decide) h
  ·cases h

def PYes(w:World)(e:Ending)(w':World):Prop:=e = .returned (.bool true)/\Below w.heap.size w w'
def SameC(v:Vl):Prop:=∀(F:Nat->Prop) (a1:Option Addr) (c1:Nat) (a2:Option Addr) (c2:Nat) (g1:Option Addr) (d1:Nat) (g2:Option Addr) (d2:Nat) (w:World),Af F w a1 (Ar v.items)->Af F w a2 (Bl v.keys)->Af F w g1 (Ar v.items)->Af F w g2 (Bl v.keys) ->
 Calls Tryz.prog 16 #[.agg #[.int .i64 v.kind,.int .i64 v.num,.string v.str,.slice a1 v.items.length c1,.slice a2 v.keys.length c2],.agg #[.int .i64 v.kind,.int .i64 v.num,.string v.str,.slice g1 v.items.length d1,.slice g2 v.keys.length d2]] w (PYes w)
theorem Xk(k n s l ks)(hl:l.length<=140737488355328)(hkl:ks.length<=140737488355328)(hit:∀x∈l,SameC x)(F a1 c1 a2 c2 g1 d1 g2 d2 w)(hr1:Af F w a1 (Ar l))(hr2:Af F w a2 (Bl ks))(hg1:Af F w g1 (Ar l))(hg2:Af F w g2 (Bl ks)):
  Calls Tryz.prog 16 #[.agg #[.int .i64 k,.int .i64 n,.string s,.slice a1 l.length c1,.slice a2 ks.length c2],.agg #[.int .i64 k,.int .i64 n,.string s,.slice g1 l.length d1,.slice g2 ks.length d2]] w (PYes w):=by
 obtain⟨h1,h2,h3,h4⟩:=D5 w (.cells #[.int .i64 k,.int .i64 n,.string s,.slice a1 l.length c1,.slice a2 ks.length c2] 42) (.cells #[.int .i64 k,.int .i64 n,.string s,.slice g1 l.length d1,.slice g2 ks.length d2] 42);have H0:=Lq7 (aIn h1 (aIn h2 h3));have Hr:=Lq7 (aIn hr1 hg1);have Hk:=Lq7 (aIn hr2.strs hg2.strs);have Hit:=Lq7 hit;have hf1:(k != k)=false:=(by simp);have hf2:(n != n)=false:=(by simp);go_enter Tryz.func16,Tryz.ntmps16;go_wp2_with fail;generalize World.alloc _ _=W0 at H0 |-
 go_loopw [47] (fun i wr=>∃j q:Nat,i = .int .i64 j/\j<=ks.length/\wr=W0.drewN q) (fun i _=>ks.length-(intOf i).toNat)
 case atStart=>exact⟨0,0,rfl,nlz _,rfl⟩
 case round=>
  obtain⟨j,q,rfl,hj,rfl⟩:=hrel;obtain⟨q0,q1,q2,q3,q4,q5,-⟩:=Aa H0.out.1;obtain⟨p0,p1,p2,p3,p4,p5,-⟩:=Aa H0.out.2.1;by_cases hlt:j<ks.length
  ·obtain⟨b,off,rfl,hc⟩:=(Hk.out.1.below H0.out.2.2).at hlt;obtain⟨b',off',rfl,hc'⟩:=(Hk.out.2.below H0.out.2.2).at hlt;generalize ks[j]=x at hc hc';go_wp2_with fail
   go_quiet (fail)
   go_wp2_with fail;go_roundw
   case rel=>exact⟨j+1,q+nq,by go_num,by omega,rfl⟩
   case measure=>simp only[intOf];omega
  ·go_wp2_with fail;have H1:Hid ((W0.drewN q).heap[w.heap.size]? = some (.cells #[.int .i64 k,.int .i64 n,.string s,.slice a1 l.length c1,.slice a2 ks.length c2] 42 (0,0))/\(W0.drewN q).heap[w.heap.size+1]? = some (.cells #[.int .i64 k,.int .i64 n,.string s,.slice g1 l.length d1,.slice g2 ks.length d2] 42 (0,0))/\Below w.heap.size w (W0.drewN q)):=Lq7 ⟨H0.out.1,H0.out.2.1,Cv H0.out.2.2 q⟩;generalize W0.drewN q=W1 at H1 |-
   go_loopw [65] (fun i wr=>∃j:Nat,i = .int .i64 j/\j<=l.length/\Hid (wr.heap[w.heap.size]? = some (.cells #[.int .i64 k,.int .i64 n,.string s,.slice a1 l.length c1,.slice a2 ks.length c2] 42 (0,0))/\wr.heap[w.heap.size+1]? = some (.cells #[.int .i64 k,.int .i64 n,.string s,.slice g1 l.length d1,.slice g2 ks.length d2] 42 (0,0))/\Below w.heap.size w wr)) (fun i _=>l.length-(intOf i).toNat)
   case atStart=>exact⟨0,rfl,nlz _,H1⟩
   case round=>
    obtain⟨i,rfl,hi,aB⟩:=hrel;obtain⟨q0,q1,q2,q3,q4,q5,-⟩:=Aa aB.out.1;obtain⟨p0,p1,p2,p3,p4,p5,-⟩:=Aa aB.out.2.1;by_cases hlt2:i<l.length
    ·have aC:l[i]? = some l[i]:=lgE hlt2;generalize l[i]=x at aC;have HC:=Lq7 (Hit.out x (lgM aC));obtain⟨xk,xn,xs,xl,xks⟩:=x;have aE:Below wr.heap.size wr wr.drew:=(bRf _ wr).drew;have H2:=Lq7 (aIn (stays aB.out.1 aE) (aIn (stays aB.out.2.1 aE) (aB.out.2.2.trans (aE.mono aB.out.2.2.size))));obtain⟨b,off,x1,e1,x2,e2,hae,-,hbl,r0,r1,r2,r3,r4,hs1,hs2⟩:=(Hr.out.1.below H2.out.2.2).val aC;obtain⟨b',off',x3,e3,x4,e4,hae',-,hbl',t0,t1,t2,t3,t4,hs3,hs4⟩:=(Hr.out.2.below H2.out.2.2).val aC;subst hae;subst hae';have HK:=Lq7 (HC.out F x1 e1 x2 e2 x3 e3 x4 e4 wr.drew hs1 hs2 hs3 hs4);go_wp2_with fail;refine A4 (.s 0 (.s 1 (.s 2 (.s 3 (.s 4 (.s 5 (.s 6 (.s 7 (.s 8 (.s 9 (.h 10 (.s 11 .nil)))))))))))) 99 (fun W'=>Below wr.drew.heap.size wr.drew W') (bRf _ _) ?_;generalize wr.drew=Wd at *;refine A9 (.pointer (some ⟨w.heap.size,3,none⟩)) (fun W' hS=>?_) ?_
     ·obtain⟨z0,z1,z2,z3,z4,z5,-⟩:=Aa (stays H2.out.1 hS);go_simp
     refine A9 (.slice (some ⟨b,off,none⟩) l.length c1) (fun W' hS=>?_) ?_
     ·obtain⟨z0,z1,z2,z3,z4,z5,-⟩:=Aa (stays H2.out.1 hS);go_simp
     refine Aj (.int .i64 i) ?_;refine Aj (.pointer (some ⟨b,off+i*5,none⟩)) ?_;refine A9 (.agg #[.int .i64 xk,.int .i64 xn,.string xs,.slice x1 xl.length e1,.slice x2 xks.length e2]) (fun W' hS=>?_) ?_
     ·have z0:=(hS.cell (p:=⟨b,off+i*5,none⟩) hbl).trans r0;have z1:=(hS.cell (p:=⟨b,off+i*5+1,none⟩) hbl).trans r1;have z2:=(hS.cell (p:=⟨b,off+i*5+2,none⟩) hbl).trans r2;have z3:=(hS.cell (p:=⟨b,off+i*5+3,none⟩) hbl).trans r3;have z4:=(hS.cell (p:=⟨b,off+i*5+4,none⟩) hbl).trans r4;go_simp
     refine A9 (.pointer (some ⟨w.heap.size+1,3,none⟩)) (fun W' hS=>?_) ?_
     ·obtain⟨z0,z1,z2,z3,z4,z5,-⟩:=Aa (stays H2.out.2.1 hS);go_simp
     refine A9 (.slice (some ⟨b',off',none⟩) l.length d1) (fun W' hS=>?_) ?_
     ·obtain⟨z0,z1,z2,z3,z4,z5,-⟩:=Aa (stays H2.out.2.1 hS);go_simp
     refine Aj (.int .i64 i) ?_;refine Aj (.pointer (some ⟨b',off'+i*5,none⟩)) ?_;refine A9 (.agg #[.int .i64 xk,.int .i64 xn,.string xs,.slice x3 xl.length e3,.slice x4 xks.length e4]) (fun W' hS=>?_) ?_
     ·have z0:=(hS.cell (p:=⟨b',off'+i*5,none⟩) hbl').trans t0;have z1:=(hS.cell (p:=⟨b',off'+i*5+1,none⟩) hbl').trans t1;have z2:=(hS.cell (p:=⟨b',off'+i*5+2,none⟩) hbl').trans t2;have z3:=(hS.cell (p:=⟨b',off'+i*5+3,none⟩) hbl').trans t3;have z4:=(hS.cell (p:=⟨b',off'+i*5+4,none⟩) hbl').trans t4;go_simp
     refine Ac rfl (fun K10 aF=>?_);go_wp2_with fail;refine HK.out.mono ?_;rintro e w2 ⟨rfl,aD⟩;have aG:=Lq7 (aIn (stays H2.out.1 aD) (aIn (stays H2.out.2.1 aD) (H2.out.2.2.trans (aD.mono H2.out.2.2.size))));have Hb2:=Lq7 aD;go_wp2_with fail;refine aF _ _ (fun _=>Hb2.out) ?_;(try simp only[gX,aP]);refine Aj (.bool false) ?_;refine Ak ?_;(try simp only[gX,aP]);go_wp2_with fail;go_roundw
     case rel=>exact⟨i+1,by go_num,by omega,aG⟩
     case measure=>simp only[intOf];omega
    ·go_wp2_with fail;go_ret;exact⟨rfl,aB.out.2.2⟩
theorem T9(v):A6 v->SameC v:=
 Vl.rec (motive_1:=fun v=>A6 v->SameC v) (motive_2:=fun l=>B4 l->∀x∈l,SameC x)
  (fun k n s l ks ih h F a1 c1 a2 c2 g1 d1 g2 d2 w hr1 hr2 hg1 hg2=>by rw[A6] at h;exact Xk k n s l ks h.2.1 h.2.2.1 (ih h.2.2.2.2) F a1 c1 a2 c2 g1 d1 g2 d2 w hr1 hr2 hg1 hg2)
  (fun _ x hx=>by cases hx)
  (fun v t hv ht h x hx=>by
   rw[B4] at h;rcases List.mem_cons.1 hx with rfl|hx
   ·exact hv h.1
   ·exact ht h.2 x hx) v
theorem Rs{l}{j:Nat}{x}(hl:nodesRs l=true)(h:l[j]? = some x):nodesR x=true:=by
 induction l generalizing j with
 | nil=>simp at h
 | cons v t ih=>
  rw[nodesRs,bAt] at hl;cases j with
  | zero=>simp at h;subst h;exact hl.1
  | succ j=>exact ih (j:=j) hl.2 (by simpa using h)
def Px(b:Bool)(w:World)(e:Ending)(w':World):Prop:=e = .returned (.bool b)/\Below w.heap.size w w'
theorem eqS_len{l m:List ByteArray}(h:¬l.length=m.length):(l.map (·.toList)==m.map (·.toList))=false:=by
 rw[beq_eq_false_iff_ne];intro he;have:=congrArg List.length he;rw[lnM,lnM] at this;exact h this
theorem eqS_at{l m:List ByteArray}{j:Nat}(h1:j<l.length)(h2:j<m.length)(hx:¬l[j].toList=m[j].toList):(l.map (·.toList)==m.map (·.toList))=false:=by
 rw[beq_eq_false_iff_ne];intro he;have:(l.map (·.toList))[j]? = (m.map (·.toList))[j]?:=(by rw[he]);rw[lgP,lgP,lgE h1,lgE h2] at this;exact hx (Option.some.inj this)
theorem eqS_all{l m:List ByteArray}(hlen:l.length=m.length)(h:∀(j:Nat) (h1:j<l.length) (h2:j<m.length),l[j].toList=m[j].toList):(l.map (·.toList)==m.map (·.toList))=true:=by
 rw[beq_iff_eq];apply List.ext_getElem (by rw[lnM,lnM];exact hlen);intro j h1 h2;rw[List.getElem_map,List.getElem_map];exact h j _ _
theorem Qx(a b ca cb l m w)(hl:l.length<=140737488355328)(hat:Dj w a l)(hbt:Dj w b m):
  Calls Tryz.prog 251 #[.slice a l.length ca,.slice b m.length cb] w (Px (l.map (·.toList)==m.map (·.toList)) w):=by
 by_cases hlen:l.length=m.length;rotate_left
 ·rw[eqS_len hlen];have h1:((l.length:Int) != (m.length:Int))=true:=(by simp;omega);have h2:((l.length:Int)==(m.length:Int))=false:=(by simp;omega);go_enter Tryz.func251,Tryz.ntmps251;go_wp2_with fail;go_ret;exact⟨rfl,bRf _ _⟩
 ·have aC:=Lq7 hlen;have aG:=Lq7 (aIn hat hbt);rw[<-hlen];generalize hr:(l.map (·.toList)==m.map (·.toList))=r;have Hr:=Lq7 hr;go_enter Tryz.func251,Tryz.ntmps251;go_wp2_with fail
  go_loopw [13] (fun i wr=>∃j q:Nat,i = .int .i64 j/\j<=l.length/\wr=w.drewN q/\Hid (∀(i:Nat) (h1:i<l.length) (h2:i<m.length),i<j->l[i].toList=m[i].toList)) (fun i _=>l.length-(intOf i).toNat)
  case atStart=>exact⟨0,0,rfl,nlz _,rfl,Lq7 (fun i _ _ h=>absurd h (Nat.not_lt_zero _))⟩
  case round=>
   obtain⟨j,q,rfl,hj,rfl,aB⟩:=hrel;by_cases hlt:j<l.length
   ·have aH:j<m.length:=(by rw[<-aC.out];exact hlt);obtain⟨b1,aR,rfl,bA⟩:=aG.out.1.at hlt;obtain⟨b2,aU,rfl,bB⟩:=aG.out.2.at aH;by_cases aD:l[j].toList=m[j].toList
    ·have aE:Hid (∀(i:Nat) (h1:i<l.length) (h2:i<m.length),i<j+1->l[i].toList=m[i].toList):=Lq7 (fun i h1 h2 hi=>by
      by_cases hij:i=j
      ·subst hij;exact aD
      ·exact aB.out i h1 h2 (by omega))
     have aJ:(l[j].toList==m[j].toList)=true:=(by simpa using aD);have aM:(l[j].toList != m[j].toList)=false:=(by simpa using aD);generalize l[j]=x at bA aJ aM;generalize m[j]=y at bB aJ aM;go_wp2_with fail
     go_quiet (fail)
     go_wp2_with fail;go_roundw
     case rel=>exact⟨j+1,q+nq,by go_num,by omega,rfl,aE⟩
     case measure=>simp only[intOf];omega
    ·have Hf:=Lq7 (Hr.out.symm.trans (eqS_at hlt aH aD));have aJ:(l[j].toList==m[j].toList)=false:=(by simpa using aD);have aM:(l[j].toList != m[j].toList)=true:=(by simpa using aD);generalize l[j]=x at bA aJ aM;generalize m[j]=y at bB aJ aM;go_wp2_with fail
     go_quiet (fail)
     go_wp2_with fail;go_ret;exact⟨A7 Hf.out.symm,Cv (Cv (bRf _ _) _) _⟩
   ·have Hf:=Lq7 (Hr.out.symm.trans (eqS_all aC.out (fun i h1 h2=>aB.out i h1 h2 (by omega))));go_wp2_with fail;go_ret;exact⟨A7 Hf.out.symm,Cv (bRf _ _) _⟩
def Py(v u:Vl):Prop:=∀(F:Nat->Prop) (a1:Option Addr) (c1:Nat) (a2:Option Addr) (c2:Nat) (g1:Option Addr) (d1:Nat) (g2:Option Addr) (d2:Nat) (w:World),Af F w a1 (Ar v.items)->Af F w a2 (Bl v.keys)->Af F w g1 (Ar u.items)->Af F w g2 (Bl u.keys) ->
 Calls Tryz.prog 235 #[.agg #[.int .i64 v.kind,.int .i64 v.num,.string v.str,.slice a1 v.items.length c1,.slice a2 v.keys.length c2],.agg #[.int .i64 u.kind,.int .i64 u.num,.string u.str,.slice g1 u.items.length d1,.slice g2 u.keys.length d2]] w (Px (sameV v u) w)
theorem sames_len:∀{l m:List Vl},¬l.length=m.length->sameVs l m=false
 | [],[],h=>absurd rfl h
 | [],_::_,_=>by simp[sameVs]
 | _::_,[],_=>by simp[sameVs]
 | v::t,v'::t',h=>by
  rw[sameVs,sames_len (l:=t) (m:=t') (by simpa using h),Bool.and_false]
theorem sames_at:∀{l m:List Vl} {j:Nat} (h1:j<l.length) (h2:j<m.length),sameV l[j] m[j]=false->sameVs l m=false
 | v::t,v'::t',0,_,_,h=>by
  rw[sameVs];have h':sameV v v'=false:=h;rw[h',Bool.false_and]
 | v::t,v'::t',j+1,h1,h2,h=>by
  rw[sameVs,sames_at (l:=t) (m:=t') (j:=j) (by simpa using h1) (by simpa using h2) (by simpa using h),Bool.and_false]
theorem sames_all:∀{l m:List Vl},l.length=m.length->(∀(j:Nat) (h1:j<l.length) (h2:j<m.length),sameV l[j] m[j]=true)->sameVs l m=true
 | [],[],_,_=>by simp[sameVs]
 | v::t,v'::t',hl,h=>by
  have h0:sameV v v'=true:=h 0 (by simp) (by simp);rw[sameVs,h0,Bool.true_and];exact sames_all (by simpa using hl) (fun j h1 h2=>by have:=h (j+1) (by simpa using h1) (by simpa using h2);simpa using this)
theorem Qy(a b ca cb l m F w)(hl:l.length<=140737488355328)(hat:Af F w a (Ar l))(hbt:Af F w b (Ar m))(hit:∀x∈l,∀y∈m,Py x y):
  Calls Tryz.prog 252 #[.slice a l.length ca,.slice b m.length cb,.func (.func 235) #[] #[]] w (Px (sameVs l m) w):=by
 by_cases hlen:l.length=m.length;rotate_left
 ·rw[sames_len hlen];have h1:((l.length:Int) != (m.length:Int))=true:=(by simp;omega);have h2:((l.length:Int)==(m.length:Int))=false:=(by simp;omega);clear hat hbt hit;go_enter Tryz.func252,Tryz.ntmps252;go_wp2_with fail;go_ret;exact⟨rfl,bRf _ _⟩
 ·have aC:=Lq7 hlen;have aG:=Lq7 (aIn hat hbt);have Hit:=Lq7 hit;rw[<-hlen];generalize hr:sameVs l m=r;have Hr:=Lq7 hr;clear hr hlen hat hbt hit;go_enter Tryz.func252,Tryz.ntmps252;go_wp2_with fail
  go_loopw [17] (fun i wr=>∃j:Nat,i = .int .i64 j/\j<=l.length/\Hid (Below w.heap.size w wr)/\Hid (∀(i:Nat) (h1:i<l.length) (h2:i<m.length),i<j->sameV l[i] m[i]=true)) (fun i _=>l.length-(intOf i).toNat)
  case atStart=>exact⟨0,rfl,nlz _,Lq7 (bRf _ _),Lq7 (fun i _ _ h=>absurd h (Nat.not_lt_zero _))⟩
  case round=>
   obtain⟨j,rfl,hj,hb,aB⟩:=hrel;by_cases hlt:j<l.length
   ·have aH:j<m.length:=(by rw[<-aC.out];exact hlt);have aE:Hid (sameV l[j] m[j]=true->∀(i:Nat) (h1:i<l.length) (h2:i<m.length),i<j+1->sameV l[i] m[i]=true):=Lq7 (fun aD i h1 h2 hi=>by
     by_cases hij:i=j
     ·subst hij;exact aD
     ·exact aB.out i h1 h2 (by omega))
    have Hf:Hid (sameV l[j] m[j]=false->r=false):=Lq7 (fun aD=>Hr.out.symm.trans (sames_at hlt aH aD));have aN:l[j]? = some l[j]:=lgE hlt;have aQ:m[j]? = some m[j]:=lgE aH;generalize l[j]=x at aN aE Hf;generalize m[j]=y at aQ aE Hf;have HC:=Lq7 (Hit.out x (lgM aN) y (lgM aQ));obtain⟨xk,xn,xs,xl,xks⟩:=x;obtain⟨yk,yn,ys,yl,yks⟩:=y;obtain⟨b1,aR,x1,e1,x2,e2,rfl,-,hbl1,r0,r1,r2,r3,r4,bC,bD⟩:=(aG.out.1.below hb.out).val aN;obtain⟨b2,aU,y1,f1,y2,f2,rfl,-,hbl2,s0,s1,s2,s3,s4,bE,bF⟩:=(aG.out.2.below hb.out).val aQ;obtain⟨-,-,aF,-⟩:=D5 wr (.cells #[.int .i64 xk,.int .i64 xn,.string xs,.slice x1 xl.length e1,.slice x2 xks.length e2] 42) (.cells #[.int .i64 yk,.int .i64 yn,.string ys,.slice y1 yl.length f1,.slice y2 yks.length f2] 42);have HK:=Lq7 (HC.out F x1 e1 x2 e2 y1 f1 y2 f2 _ (bC.below aF) (bD.below aF) (bE.below aF) (bF.below aF));have aW:=Lq7 (hb.out.trans (aF.mono hb.out.size));generalize sameV (.mk xk xn xs xl xks) (.mk yk yn ys yl yks)=z at HK aE Hf;clear aN aQ bC bD bE bF aF aB hb HC;go_wp2_with fail;refine HK.out.mono ?_;rintro e w2 ⟨rfl,bG⟩;have H3:=Lq7 (aW.out.trans (bG.mono aW.out.size));clear bG aW HK r0 r1 r2 r3 r4 s0 s1 s2 s3 s4;cases z with
    | true=>
     have Hs3:=Lq7 (aE.out rfl);clear aE Hf;go_wp2_with fail;go_roundw
     case rel=>exact⟨j+1,by go_num,by omega,H3,Hs3⟩
     case measure=>simp only[intOf];omega
    | false=>
     have Hf2:=Lq7 (Hf.out rfl);clear aE Hf;go_wp2_with fail;go_ret;exact⟨A7 Hf2.out.symm,H3.out⟩
   ·have Hf:=Lq7 (Hr.out.symm.trans (sames_all aC.out (fun i h1 h2=>aB.out i h1 h2 (by omega))));clear aB;go_wp2_with fail;go_ret;exact⟨A7 Hf.out.symm,hb.out⟩
theorem Ua(k n s l ks k' n' s' l' ks')(hl:l.length<=140737488355328)(hkl:ks.length<=140737488355328)(hit:∀x∈l,∀y∈l',Py x y):Py (.mk k n s l ks) (.mk k' n' s' l' ks'):=by
 intro F a1 c1 a2 c2 g1 d1 g2 d2 w hr1 hr2 hg1 hg2;have hR:sameV (.mk k n s l ks) (.mk k' n' s' l' ks')=(k==k'&&n==n'&&s.toList==s'.toList&&ks.map (·.toList)==ks'.map (·.toList)&&sameVs l l'):=(by rw[sameV]);obtain⟨h1,h2,h3,h4⟩:=D5 w (.cells #[.int .i64 k,.int .i64 n,.string s,.slice a1 l.length c1,.slice a2 ks.length c2] 42) (.cells #[.int .i64 k',.int .i64 n',.string s',.slice g1 l'.length d1,.slice g2 ks'.length d2] 42);have H0:=Lq7 (aIn h1 (aIn h2 h3));have bH:=Lq7 (Qx a2 g2 c2 d2 ks ks' _ hkl (hr2.below h3).strs (hg2.below h3).strs);have bI:=Lq7 (fun W (h:Below w.heap.size w W)=>Qy a1 g1 c1 d1 l l' F W hl (hr1.below h) (hg1.below h) hit);have aY:=Lq7 h3;generalize sameV (.mk k n s l ks) (.mk k' n' s' l' ks')=r at hR |-;show Calls Tryz.prog 235 #[.agg #[.int .i64 k,.int .i64 n,.string s,.slice a1 l.length c1,.slice a2 ks.length c2],.agg #[.int .i64 k',.int .i64 n',.string s',.slice g1 l'.length d1,.slice g2 ks'.length d2]] w (Px r w);generalize (ks.map (·.toList)==ks'.map (·.toList))=bk at hR bH;generalize sameVs l l'=bl at hR bI;have Hr:=Lq7 hR;cases h1:(k==k') with
 | false=>
  have R:Hid (r=false):=Lq7 (by rw[Hr.out,h1];rfl);have h1':¬k=k':=(by simpa using h1);go_enter Tryz.func235,Tryz.ntmps235;go_wp2_with fail;go_ret;exact⟨A7 R.out.symm,aY.out⟩
 | true=>
 cases h2:(n==n') with
 | false=>
  have R:Hid (r=false):=Lq7 (by rw[Hr.out,h1,h2];rfl);have h2':¬n=n':=(by simpa using h2);go_enter Tryz.func235,Tryz.ntmps235;go_wp2_with fail;go_ret;exact⟨A7 R.out.symm,aY.out⟩
 | true=>
 cases h3:(s.toList==s'.toList) with
 | false=>
  have R:Hid (r=false):=Lq7 (by rw[Hr.out,h1,h2,h3];rfl);have h3':¬s.toList=s'.toList:=(by simpa using h3);go_enter Tryz.func235,Tryz.ntmps235;go_wp2_with fail;go_ret;exact⟨A7 R.out.symm,aY.out⟩
 | true=>
 have R:Hid (r=(bk&&bl)):=Lq7 (by rw[Hr.out,h1,h2,h3];rfl);go_enter Tryz.func235,Tryz.ntmps235;go_wp2_with fail;refine bH.out.mono ?_;rintro e w1 ⟨rfl,aZ⟩;have H1:=Lq7 (aIn (stays H0.out.1 aZ) (aIn (stays H0.out.2.1 aZ) (H0.out.2.2.trans (aZ.mono H0.out.2.2.size))));have HE:=Lq7 (bI.out _ H1.out.2.2);obtain⟨q0,q1,q2,q3,q4,q5,-⟩:=Aa H1.out.1;obtain⟨p0,p1,p2,p3,p4,p5,-⟩:=Aa H1.out.2.1;cases bk with
 | false=>
  go_wp2_with fail;go_ret;exact⟨A7 R.out.symm,H1.out.2.2⟩
 | true=>
 go_wp2_with fail;refine HE.out.mono ?_;rintro e w2 ⟨rfl,aF⟩;have H2:=Lq7 (H1.out.2.2.trans (aF.mono H1.out.2.2.size));go_wp2_with fail;go_ret;exact⟨A7 R.out.symm,H2.out⟩
theorem Pz(v):A6 v->∀u,Py v u:=
 Vl.rec (motive_1:=fun v=>A6 v->∀u,Py v u) (motive_2:=fun l=>B4 l->∀x∈l,∀u,Py x u)
  (fun k n s l ks ih h u=>by
   obtain⟨k',n',s',l',ks'⟩:=u;rw[A6] at h;exact Ua k n s l ks k' n' s' l' ks' h.2.1 h.2.2.1 (fun x hx y _=>ih h.2.2.2.2 x hx y))
  (fun _ x hx=>by cases hx)
  (fun v t hv ht h x hx=>by
   rw[B4] at h;rcases List.mem_cons.1 hx with rfl|hx
   ·exact hv h.1
   ·exact ht h.2 x hx) v
end Go.Proofs.YtbcdimjbepigcaaGreatDoor
