/-
  The walk of parse.Print at a file that may be printed. (And what it stands on.)
-/
import Derived.Test.YtlbbbapiklendaaGreatDoorMSame10
namespace Go.Proofs.YtlbbbapiklendaaGreatDoor
open Go.IntKind renaming i64->C
open Go.Value renaming int->A,string->D,slice->E,pointer->J
open Go.Obj renaming cells->L
open Option renaming some->I,none->G
open Go Go.RowKit
open List renaming length_cons->lnC,length_append->lnA,length_nil->lnN,getElem?_eq_some_iff->lgS,getElem?_eq_getElem->lgE,mem_of_getElem? -> lgM,take_add_one->ltA,take_of_length_le->ltL,length_map->lnM,getElem?_map->lgP
open Nat renaming le_refl->nlr,zero_mul->nzm,add_zero->naz,lt_of_lt_of_le->nll,le_trans->nlt,zero_le->nlz
open Go.Lib renaming hid->Lq7,toList_data->Lq8
open And renaming intro->aIn
open Go.RowKit.Below renaming refl->bRf
set_option maxRecDepth 100000
set_option maxHeartbeats 16000000
theorem egP:∀args w,(callFunc 46 args).run Tryz.prog w = .ok (.enter 46 args) w:=enters_of Tryz.func46 (by kernel_rfl) rfl
theorem egB:∀args w,(callFunc 45 args).run Tryz.prog w = .ok (.enter 45 args) w:=enters_of Tryz.func45 (by kernel_rfl) rfl
theorem egS:∀args w,(callFunc 26 args).run Tryz.prog w = .ok (.enter 26 args) w:=enters_of Tryz.func26 (by kernel_rfl) rfl
theorem X9(n):(nodeD n).length=5:=by obtain⟨k,t,a,b,l⟩:=n;rw[nodeD];rfl
theorem Ac.rest{F w b off l}(h:Ac F w (I ⟨b,off,G⟩) (Au l)):Ac F w (I ⟨b,off+5,G⟩) (Au l.tail):=by
 have:=Ac.drop h (n:=5) (fun ds hd=>by
  rw[B7] at hd;obtain⟨n,-,rfl⟩:=List.mem_map.1 hd;exact X9 n) 1
 rw[Nat.one_mul,B7,List.drop_one,<-List.map_tail,<-B7] at this;exact this
theorem Ac.init{F w a l m}(h:Ac F w a (Au (l++m))):Ac F w a (Au l):=fun j ds hj=>h j ds (by
 rw[nodesD_append,List.getElem?_append_left (lgS.1 hj).1];exact hj)
def KidY(g:FuncId)(F:Nat->Prop)(a:Option Addr)(j:Nat)(n:Nd)(w:World):Prop:=∃b off k2 t2 l2 c2 a2 n2 p2,a=I ⟨b,off,G⟩/\b<w.heap.size/\w.cell? ⟨b,off+j*5,G⟩=I (A C k2)/\w.cell? ⟨b,off+j*5+1,G⟩=I (D t2)/\w.cell? ⟨b,off+j*5+2,G⟩=I (A C l2)/\w.cell? ⟨b,off+j*5+3,G⟩=I (A C c2)/\w.cell? ⟨b,off+j*5+4,G⟩=I (E a2 n2 p2) /\
 k2=n.kind/\t2=n.text/\n2=n.kids.length/\Ac F w a2 (Au n.kids)/\(F5 n.kind=true->n2<=p2)/\A7 F w n (.agg #[A C k2,D t2,A C l2,A C c2,E a2 n2 p2])/\(Ms w->Ec g n->Calls Tryz.prog g #[.agg #[A C k2,D t2,A C l2,A C c2,E a2 n2 p2]] w (Lv w))
theorem kidY{g F a m j x w}(hr:Ac F w a (Au m))(hj:m[j]? = I x):KidY g F a j x w:=by
 obtain⟨xk,xt,xl,xc,xs⟩:=x;obtain⟨b,off,a1,c1,rfl,hF,hbl,r0,r1,r2,r3,r4,h6,hr1⟩:=hr.nodeK hj;have hv:=A7.mk xk xt xl xc c1 hr1 h6.out;exact⟨b,off,_,_,_,_,_,_,_,rfl,hbl,r0,r1,r2,r3,r4,rfl,rfl,rfl,hr1,h6.out,hv,fun hP hY=>hY F _ w hv hP⟩
section
variable {l c:Int}
theorem mayB_yes(m:List Nd)(hl:m.length<=140737488355328)(hY:∀x∈m,Ec 26 x):Ec 45 (.mk 8 ⟨#[]⟩ l c m):=by
 intro F v w hn hP;obtain⟨a,cap,rfl,hr⟩:=hn.open;have aA:=Cn w 8 ⟨#[]⟩ l c a m.length cap;have H1:=Lq7 (Ib _ egS F a cap m _ hl (hr.below aA) (hP.below aA) hY);have aN:=Lq7 aA;unfold bxN at H1 aN;clear aA hn hP hr hY;go_enter Tryz.func45,Tryz.ntmps45;go_wp2_with fail;refine H1.out.mono ?_;rintro e w1 ⟨rfl,aE⟩;have Hb1:=Lq7 (aN.out.trans (aE.mono aN.out.size));go_wp2_with fail;go_ret;exact⟨rfl,Hb1.out⟩
theorem Vk(t:ByteArray)(ht:Eg t.data.toList)(hz:t.size<=65536)(x:Nd)(hY:Ec 44 x):Ec 26 (.mk 2 t l c [x]):=by
 intro F v w hn hP;obtain⟨a,cap,rfl,hr⟩:=hn.open;have aA:=Cn w 2 t l c a 1 cap;have H0:=Lq7 (aIn (heap_alloc_new w (L #[A C 2,D t,A C l,A C c,E a 1 cap] 27)) aA);have H1:=Lq7 (Fv t ht hz _ (hP.below aA));have HX:=Lq7 (fun w1 (h:Below w.heap.size w w1)=>aIn (kidY (g:=44) (j:=0) (x:=x) (hr.below h) rfl) (hP.below h));have HY:=Lq7 hY;unfold bxN at H0 H1;rw[show [x].length=1 from rfl];clear hn hP hr hY aA ht;go_enter Tryz.func26,Tryz.ntmps26;go_wp2_with fail;refine H1.out.mono ?_;rintro e w1 ⟨rfl,aE⟩;have aB:=Lq7 (aIn (stays H0.out.1 aE) (H0.out.2.trans (aE.mono H0.out.2.size)));obtain⟨q0,q1,q2,q3,q4,q5,-⟩:=Aa aB.out.1;obtain⟨⟨b,off,k2,t2,l2,c2,a2,n2,p2,rfl,hbl,r0,r1,r2,r3,r4,-,-,-,-,-,-,hc⟩,aJ⟩:=HX.out _ aB.out.2;simp only[nzm,naz] at r0 r1 r2 r3 r4;have HC:=Lq7 (hc aJ HY.out);clear hc aJ;go_wp2_with fail;refine HC.out.mono ?_;rintro e w2 ⟨rfl,aG⟩;have aW:=Lq7 (aB.out.2.trans (aG.mono aB.out.2.size));go_wp2_with fail;go_ret;exact⟨rfl,aW.out⟩
theorem mayS_do(x:Nd)(hk:x.kind=14)(hY:Ec 44 x):Ec 26 (.mk 3 ⟨#[]⟩ l c [x]):=by
 intro F v w hn hP;obtain⟨a,cap,rfl,hr⟩:=hn.open;have aA:=Cn w 3 ⟨#[]⟩ l c a 1 cap;obtain⟨b,off,k2,t2,l2,c2,a2,n2,p2,rfl,hbl,r0,r1,r2,r3,r4,aQ,-,-,-,-,-,-⟩:=kidY (g:=44) (j:=0) (x:=x) hr rfl;obtain⟨b',off',k3,t3,l3,c3,a3,n3,p3,he,-,s0,s1,s2,s3,s4,-,-,-,-,-,-,hc⟩:=kidY (g:=44) (j:=0) (x:=x) (hr.below aA) rfl;cases he;simp only[nzm,naz] at r0 r1 r2 r3 r4 s0 s1 s2 s3 s4;obtain rfl:k2=14:=aQ.trans hk;have aD:∀i,(bxN w 3 ⟨#[]⟩ l c (I ⟨b,off,G⟩) 1 cap).cell? ⟨b,i,G⟩=w.cell? ⟨b,i,G⟩:=fun i=>aA.cell (p:=⟨b,i,G⟩) hbl;rw[aD,r0] at s0;rw[aD,r1] at s1;rw[aD,r2] at s2;rw[aD,r3] at s3;rw[aD,r4] at s4;cases s0;cases s1;cases s2;cases s3;cases s4;have HC:=Lq7 (hc (hP.below aA) hY);have aN:=Lq7 aA;unfold bxN at HC aN;rw[show [x].length=1 from rfl];clear hn hP hr hY aA hc aD hk aQ;go_enter Tryz.func26,Tryz.ntmps26;go_wp2_with fail;refine HC.out.mono ?_;rintro e w2 ⟨rfl,aG⟩;have aW:=Lq7 (aN.out.trans (aG.mono aN.out.size));go_wp2_with fail;go_ret;exact⟨rfl,aW.out⟩
theorem mayS_for(t:ByteArray)(ht:Eg t.data.toList)(hz:t.size<=65536)(x y:Nd)(hX:Ec 44 x)(hY:Ec 45 y):Ec 26 (.mk 4 t l c [x,y]):=by
 intro F v w hn hP;obtain⟨a,cap,rfl,hr⟩:=hn.open;have aA:=Cn w 4 t l c a 2 cap;have H0:=Lq7 (aIn (heap_alloc_new w (L #[A C 4,D t,A C l,A C c,E a 2 cap] 27)) aA);have H1:=Lq7 (Fv t ht hz _ (hP.below aA));have HX:=Lq7 (fun w1 (h:Below w.heap.size w w1)=>aIn (kidY (g:=44) (j:=0) (x:=x) (hr.below h) rfl) (hP.below h));have HZ:=Lq7 (fun w1 (h:Below w.heap.size w w1)=>aIn (kidY (g:=45) (j:=1) (x:=y) (hr.below h) rfl) (hP.below h));have HY:=Lq7 (aIn hX hY);unfold bxN at H0 H1;rw[show [x,y].length=2 from rfl];clear hn hP hr hX hY aA ht;go_enter Tryz.func26,Tryz.ntmps26;go_wp2_with fail;refine H1.out.mono ?_;rintro e w1 ⟨rfl,aE⟩;have aB:=Lq7 (aIn (stays H0.out.1 aE) (H0.out.2.trans (aE.mono H0.out.2.size)));obtain⟨q0,q1,q2,q3,q4,q5,-⟩:=Aa aB.out.1;obtain⟨⟨b,off,k2,t2,l2,c2,a2,n2,p2,rfl,hbl,r0,r1,r2,r3,r4,-,-,-,-,-,-,hc⟩,aJ⟩:=HX.out _ aB.out.2;simp only[nzm,naz] at r0 r1 r2 r3 r4;have HC:=Lq7 (hc aJ HY.out.1);clear hc aJ;go_wp2_with fail;refine HC.out.mono ?_;rintro e w2 ⟨rfl,aG⟩;have aC:=Lq7 (aIn (stays aB.out.1 aG) (aB.out.2.trans (aG.mono aB.out.2.size)));clear r0 r1 r2 r3 r4 q0 q1 q2 q3 q4 q5 hbl;obtain⟨q0,q1,q2,q3,q4,q5,-⟩:=Aa aC.out.1;obtain⟨⟨b',off',k3,t3,l3,c3,a3,n3,p3,he,hbl,r0,r1,r2,r3,r4,-,-,-,-,-,-,hc⟩,aR⟩:=HZ.out _ aC.out.2;cases he;simp only[Nat.one_mul] at r0 r1 r2 r3 r4;have HD:=Lq7 (hc aR HY.out.2);clear hc aR;go_wp2_with fail;refine HD.out.mono ?_;rintro e w3 ⟨rfl,aF⟩;have aU:=Lq7 (aC.out.2.trans (aF.mono aC.out.2.size));go_wp2_with fail;go_ret;exact⟨rfl,aU.out⟩
theorem mayS_if(x:Nd)(r:List Nd)(hr2:r.length=1\/r.length=2)(hX:Ec 44 x)(hY:∀y∈r,Ec 45 y):Ec 26 (.mk 5 ⟨#[]⟩ l c (x::r)):=by
 intro F v w hn hP;obtain⟨a,cap,rfl,hcap,hr⟩:=hn.openC;have hcap:=hcap (by decide);rw[lnC] at hcap;have aA:=Cn w 5 ⟨#[]⟩ l c a (r.length+1) cap;have H0:=Lq7 (aIn (heap_alloc_new w (L #[A C 5,D ⟨#[]⟩,A C l,A C c,E a ((r.length+1:Nat)) cap] 27)) aA);have HX:=Lq7 (fun w1 (h:Below w.heap.size w w1)=>aIn (kidY (g:=44) (j:=0) (x:=x) (hr.below h) rfl) (hP.below h));have HR:=Lq7 (fun w1 (h:Below w.heap.size w w1) (b off:Nat) (ha:a=I ⟨b,off,G⟩)=>Ib _ egB F (I ⟨b,off+5,G⟩) (cap - 1) r w1 (by omega) (Ac.rest (l:=x::r) (ha▸hr.below h)) (hP.below h) hY);have HY:=Lq7 hX;unfold bxN at H0;rw[lnC];clear hn hP hr hX hY aA;have bE:cap≠1:=(by omega);have hle:1<=cap:=(by omega);generalize r.length=q at hr2 H0 HR hcap |-;obtain⟨⟨b,off,k2,t2,l2,c2,a2,n2,p2,rfl,hbl,r0,r1,r2,r3,r4,-,-,-,-,-,-,hc⟩,aJ⟩:=HX.out _ H0.out.2;simp only[nzm,naz] at r0 r1 r2 r3 r4;have HC:=Lq7 (hc aJ HY.out);have hbw:b<w.heap.size:=by
  obtain⟨⟨b',off',_,_,_,_,_,_,_,he,hb',-⟩,-⟩:=HX.out w (bRf _ _);cases he;exact hb'
 clear hc aJ hbl;rcases hr2 with rfl|rfl
 all_goals
  go_enter Tryz.func26,Tryz.ntmps26;go_wp2_with fail;refine HC.out.mono ?_;rintro e w2 ⟨rfl,aG⟩;have aC:=Lq7 (aIn (stays H0.out.1 aG) (H0.out.2.trans (aG.mono H0.out.2.size)));have HA:=Lq7 (HR.out w2 aC.out.2 b off rfl);obtain⟨q0,q1,q2,q3,q4,q5,-⟩:=Aa aC.out.1;go_wp2_with fail;refine HA.out.mono ?_;rintro e w3 ⟨rfl,aF⟩;have aU:=Lq7 (aC.out.2.trans (aF.mono aC.out.2.size));go_wp2_with fail;go_ret;exact⟨rfl,aU.out⟩
theorem Aa0(t:ByteArray)(ht:Eg t.data.toList)(hz:t.size<=65536)(ps:List Nd)(b:Nd)(hl:ps.length<=140737488355328)(hY:∀y∈ps,Ec 46 y)(hB:Ec 45 b):Ec 26 (.mk 6 t l c (ps++[b])):=by
 intro F v w hn hP;obtain⟨a,cap,rfl,hcap,hr⟩:=hn.openC;have hcap:=hcap (by decide);have hlen:(ps++[b]).length=ps.length+1:=(by simp);rw[hlen] at hcap |-;have aA:=Cn w 6 t l c a (ps.length+1) cap;have H0:=Lq7 (aIn (heap_alloc_new w (L #[A C 6,D t,A C l,A C c,E a ((ps.length+1:Nat)) cap] 27)) aA);have H1:=Lq7 (Fv t ht hz _ (hP.below aA));have HR:=Lq7 (fun w1 (h:Below w.heap.size w w1)=>Ib _ egP F a cap ps w1 hl (Ac.init (hr.below h)) (hP.below h) hY);have HZ:=Lq7 (fun w1 (h:Below w.heap.size w w1)=>aIn (kidY (g:=45) (j:=ps.length) (x:=b) (hr.below h) (by simp)) (hP.below h));have HY:=Lq7 hB;unfold bxN at H0 H1;clear hn hP hr hY hB aA ht hlen;generalize ps.length=q at hl H0 H1 HR HZ hcap |-;go_enter Tryz.func26,Tryz.ntmps26;go_wp2_with fail;refine H1.out.mono ?_;rintro e w1 ⟨rfl,aE⟩;have aB:=Lq7 (aIn (stays H0.out.1 aE) (H0.out.2.trans (aE.mono H0.out.2.size)));have HA:=Lq7 (HR.out w1 aB.out.2);obtain⟨q0,q1,q2,q3,q4,q5,-⟩:=Aa aB.out.1;go_wp2_with fail;refine HA.out.mono ?_;rintro e w2 ⟨rfl,aG⟩;have aC:=Lq7 (aIn (stays aB.out.1 aG) (aB.out.2.trans (aG.mono aB.out.2.size)));clear q0 q1 q2 q3 q4 q5;obtain⟨q0,q1,q2,q3,q4,q5,-⟩:=Aa aC.out.1;obtain⟨⟨b',off',k3,t3,l3,c3,a3,n3,p3,rfl,hbl,r0,r1,r2,r3,r4,-,-,-,-,-,-,hc⟩,aR⟩:=HZ.out _ aC.out.2;have HD:=Lq7 (hc aR HY.out);clear hc aR;go_wp2_with fail;refine HD.out.mono ?_;rintro e w3 ⟨rfl,aF⟩;have aU:=Lq7 (aC.out.2.trans (aF.mono aC.out.2.size));go_wp2_with fail;go_ret;exact⟨rfl,aU.out⟩
theorem Vm(t:ByteArray)(ht:Eg t.data.toList)(hz:t.size<=65536)(ty:ByteArray)(hty:typesL.contains ty.data.toList=true)(a1 b1:Int)(r:List Nd)(hr1:r.length<=1)(hY:∀y∈r,Ec 44 y):Ec 46 (.mk 7 t l c (.mk 9 ty a1 b1 []::r)):=by
 intro F v w hn hP;obtain⟨a,cap,rfl,hcap,hr⟩:=hn.openC;have hcap:=hcap (by decide);rw[lnC] at hcap |-;have aA:=Cn w 7 t l c a (r.length+1) cap;have H0:=Lq7 (aIn (heap_alloc_new w (L #[A C 7,D t,A C l,A C c,E a ((r.length+1:Nat)) cap] 27)) aA);have H1:=Lq7 (Fv t ht hz _ (hP.below aA));have HT:=Lq7 (fun w1=>Ql ty w1);rw[hty] at HT;have HX:=Lq7 (fun w1 (h:Below w.heap.size w w1)=>kidY (g:=44) (j:=0) (x:=.mk 9 ty a1 b1 []) (hr.below h) rfl);have HR:=Lq7 (fun w1 (h:Below w.heap.size w w1) (b off:Nat) (ha:a=I ⟨b,off,G⟩)=>Ib _ egX F (I ⟨b,off+5,G⟩) (cap - 1) r w1 (by omega) (Ac.rest (l:=.mk 9 ty a1 b1 []::r) (ha▸hr.below h)) (hP.below h) hY);have HN:=Lq7 (fun w1 (h:Below w.heap.size w w1) (x:Option Addr) (q:Nat)=>Ib _ egX F x q [] w1 (by simp) (Ac.nil x) (hP.below h) (fun y hy=>by cases hy));unfold bxN at H0 H1;clear hn hP hr hY aA ht hty;by_cases hc1:cap=1
 ·subst hc1;have h0:r.length=0:=(by omega);rw[h0] at H0 H1 |-;clear hr1 hcap h0 HR;rw[lnN] at HN;go_enter Tryz.func46,Tryz.ntmps46;go_wp2_with fail;refine H1.out.mono ?_;rintro e w1 ⟨rfl,aE⟩;have aB:=Lq7 (aIn (stays H0.out.1 aE) (H0.out.2.trans (aE.mono H0.out.2.size)));obtain⟨q0,q1,q2,q3,q4,q5,-⟩:=Aa aB.out.1;obtain⟨b,off,k2,t2,l2,c2,a2,n2,p2,rfl,hbl,r0,r1,r2,r3,r4,aQ,aV,aY,-,-,-,-⟩:=HX.out _ aB.out.2;obtain rfl:k2=9:=aQ;obtain rfl:t2=ty:=aV;obtain rfl:n2=0:=aY;simp only[nzm,naz] at r0 r1 r2 r3 r4;have aC:=Lq7 (aIn (stays aB.out.1 ((bRf _ w1).alloc (nlr _) (L #[A C 9,D t2,A C l2,A C c2,E a2 0 p2] 27))) (aIn (heap_alloc_new w1 (L #[A C 9,D t2,A C l2,A C c2,E a2 0 p2] 27)) (aB.out.2.alloc aB.out.2.size (L #[A C 9,D t2,A C l2,A C c2,E a2 0 p2] 27))));go_wp2_with fail;refine(HT.out _).mono ?_;rintro e w3 ⟨rfl,aF⟩;have aH:=Lq7 (aIn (stays aC.out.1 aF) (aIn (stays aC.out.2.1 aF) (aC.out.2.2.trans (aF.mono aC.out.2.2.size))));clear q0 q1 q2 q3 q4 q5 r0 r1 r2 r3 r4 hbl;obtain⟨q0,q1,q2,q3,q4,q5,-⟩:=Aa aH.out.1;obtain⟨u0,u1,u2,u3,u4,u5,-⟩:=Aa aH.out.2.1;have HA:=Lq7 (HN.out w3 aH.out.2.2 (I ⟨b,off,G⟩) 0);go_wp2_with fail;refine HA.out.mono ?_;rintro e w4 ⟨rfl,aZ⟩;have bA:=Lq7 (aH.out.2.2.trans (aZ.mono aH.out.2.2.size));go_wp2_with fail;go_ret;exact⟨rfl,bA.out⟩
 ·have hr2:r.length=0\/r.length=1:=(by omega);have hle:1<=cap:=(by omega);clear hr1 hcap HN;generalize r.length=q at hr2 H0 H1 HR |-;rcases hr2 with rfl|rfl
  all_goals
   go_enter Tryz.func46,Tryz.ntmps46;go_wp2_with fail;refine H1.out.mono ?_;rintro e w1 ⟨rfl,aE⟩;have aB:=Lq7 (aIn (stays H0.out.1 aE) (H0.out.2.trans (aE.mono H0.out.2.size)));obtain⟨q0,q1,q2,q3,q4,q5,-⟩:=Aa aB.out.1;obtain⟨b,off,k2,t2,l2,c2,a2,n2,p2,rfl,hbl,r0,r1,r2,r3,r4,aQ,aV,aY,-,-,-,-⟩:=HX.out _ aB.out.2;obtain rfl:k2=9:=aQ;obtain rfl:t2=ty:=aV;obtain rfl:n2=0:=aY;simp only[nzm,naz] at r0 r1 r2 r3 r4;have aC:=Lq7 (aIn (stays aB.out.1 ((bRf _ w1).alloc (nlr _) (L #[A C 9,D t2,A C l2,A C c2,E a2 0 p2] 27))) (aIn (heap_alloc_new w1 (L #[A C 9,D t2,A C l2,A C c2,E a2 0 p2] 27)) (aB.out.2.alloc aB.out.2.size (L #[A C 9,D t2,A C l2,A C c2,E a2 0 p2] 27))));go_wp2_with fail;refine(HT.out _).mono ?_;rintro e w3 ⟨rfl,aF⟩;have aH:=Lq7 (aIn (stays aC.out.1 aF) (aIn (stays aC.out.2.1 aF) (aC.out.2.2.trans (aF.mono aC.out.2.2.size))));clear q0 q1 q2 q3 q4 q5 r0 r1 r2 r3 r4 hbl;obtain⟨q0,q1,q2,q3,q4,q5,-⟩:=Aa aH.out.1;obtain⟨u0,u1,u2,u3,u4,u5,-⟩:=Aa aH.out.2.1;have HA:=Lq7 (HR.out w3 aH.out.2.2 b off rfl);go_wp2_with fail;refine HA.out.mono ?_;rintro e w4 ⟨rfl,aZ⟩;have bA:=Lq7 (aH.out.2.2.trans (aZ.mono aH.out.2.2.size));go_wp2_with fail;go_ret;exact⟨rfl,bA.out⟩
end
theorem mayP{d n}(h:Pk d n)(ho:Ci 65536 65540 n):Ec 46 n:=by
 obtain⟨k,t,a,b,l⟩:=n;rw[Ci] at ho
 match l,h,ho with
 | [.mk k1 t1 c1 e1 l1],h,ho=>
  obtain⟨rfl,hn,rfl,ht,rfl⟩:=h;exact Vm t hn ho.1 t1 ht c1 e1 [] (by simp) (fun y hy=>by cases hy)
 | [.mk k1 t1 c1 e1 l1,x],h,ho=>
  obtain⟨rfl,hn,rfl,ht,rfl,hx⟩:=h;refine Vm t hn ho.1 t1 ht c1 e1 [x] (by simp) (fun y hy=>?_);obtain rfl:=List.mem_singleton.1 hy;have h1:=ho.2.2.2.2;rw[Dj,Dj] at h1;exact Kq hx h1.2.1
theorem mayS:∀(m:Nat) (n:Nd) (d:Nat),ndH n<=m->okS d n->Ci 65536 65540 n->Ec 26 n
 | 0,n,_,h,_,_=>by have:=F7 n;omega
 | m+1,.mk k t a0 b0 l,d,hm,h,ho=>by
  have hh:ndH (.mk k t a0 b0 l)=ndHs l+2:=(by rw[ndH]);rw[hh] at hm;have bB:∀x∈l,ndH x<=m:=fun x hx=>(by have:=ndH_mem hx;omega);rw[Ci] at ho;obtain⟨hz,hlen,-,-,hks⟩:=ho;have aM:=ndOks_iff.1 hks;have hbl:∀x∈l,okB d x->Ec 45 x:=fun x hx bG=>by
   have bH:=aM x hx;have hxm:=bB x hx;obtain⟨k2,t2,c2,d2,l2⟩:=x;rw[okB] at bG;obtain⟨rfl,aV,-,hs2⟩:=bG;obtain rfl:t2=⟨#[]⟩:=bytes_ext aV;rw[Ci] at bH;rw[ndH] at hxm;have bC:=ndOks_iff.1 bH.2.2.2.2;exact mayB_yes l2 (by omega) fun y hy=>mayS m y (d - 1) (by have:=ndH_mem hy;omega) (Kg hs2 hy) (bC y hy)
  rw[okS] at h;by_cases h2:k=2
  ·subst h2;rw[if_pos rfl] at h;obtain⟨hn,hl,hx⟩:=h;obtain⟨x,rfl⟩:=G4 hl;rw[Ea] at hx;exact Vk t hn hz x (Kq hx.1 (aM x (by simp)))
  rw[if_neg h2] at h;by_cases h3:k=3
  ·subst h3;rw[if_pos rfl] at h;obtain⟨ht,hl,hk,hx⟩:=h;obtain rfl:t=⟨#[]⟩:=bytes_ext ht;obtain⟨x,rfl⟩:=G4 hl;rw[Ea] at hx;exact mayS_do x (hk x (by simp)) (Kq hx.1 (aM x (by simp)))
  rw[if_neg h3] at h;by_cases h4:k=4
  ·subst h4;rw[if_pos rfl] at h;obtain⟨hn,hl,hi⟩:=h;obtain⟨x,y,rfl⟩:=Jq hl;rw[D9,D9,if_pos rfl,if_neg (by omega)] at hi;exact mayS_for t hn hz x y (Kq hi.1 (aM x (by simp))) (hbl y (by simp) hi.2.1)
  rw[if_neg h4] at h;by_cases h5:k=5
  ·subst h5;rw[if_pos rfl] at h;obtain⟨ht,hl,hi⟩:=h;obtain rfl:t=⟨#[]⟩:=bytes_ext ht
   match l,hl,hi,aM,hbl with
   | [],hl,_,_,_=>simp at hl
   | x::r,hl,hi,aM,hbl=>
    rw[D9,if_pos rfl] at hi;rw[lnC] at hl;exact mayS_if x r (by omega) (Kq hi.1 (aM x (by simp))) fun y hy=>hbl y (by simp[hy]) (Us hi.2 hy)
  rw[if_neg h5] at h;by_cases h6:k=6
  ·subst h6;rw[if_pos rfl] at h;obtain⟨hn,bI,bD⟩:=h;have bE:l≠[]:=(by rintro rfl;rw[okLa] at bD;exact bD);obtain⟨ps,b,rfl⟩:=last_eq bE;rw[List.dropLast_concat] at bI;rw[lnA] at hlen;exact Aa0 t hn hz ps b (by omega) (fun y hy=>mayP (bI y hy) (aM y (by simp[hy]))) (hbl b (by simp) (Li bD))
  ·rw[if_neg h6] at h;exact h.elim
theorem mayS_any{n d}(h:okS d n)(ho:Ci 65536 65540 n):Ec 26 n:=mayS (ndH n) n d (nlr _) h ho
def PPut(B b d:Nat)(l:List UInt8)(x:List Pc)(w:World)(e:Ending)(w':World):Prop:=e = .returned (.tuple #[])/\Dg B b d (Lib.byteCells (l++Aq x)) w'/\Kp B b w w'
def Ca(g:FuncId)(d:Nat)(pc:Nd->List Pc)(n:Nd):Prop:=∀(F:Nat->Prop) (v:Value) (w:World) (B b:Nat) (l:List UInt8),A7 F w n v->(∀x,F x->x<B)->Dg B b d (Lib.byteCells l) w->B<=w.heap.size->l.length+(Aq (pc n)).length<=1000000000 ->
 Calls Tryz.prog g #[J (I ⟨b,0,G⟩),v] w (PPut B b d l (pc n) w)
theorem Kp.alloc{B b w u}(h:Kp B b w u)(hB:B<=w.heap.size)(o):Kp B b w (u.alloc o):=h.later hB ((bRf _ _).alloc (nlr _) o)
theorem Kp.drew{B b w u}(h:Kp B b w u):Kp B b w u.drew:=⟨h.1.drew,h.2⟩
theorem Kp.size{B b w u}(h:Kp B b w u):w.heap.size<=u.heap.size:=h.1.size
theorem A7.kp{F B b w w' n v}(h:A7 F w n v)(hF:∀x,F x->x<B)(k:Kp B b w w'):A7 F w' n v:=h.mono fun i hi hl=>⟨hi,nll hl k.size,k.1.block i (hF i hi)⟩
theorem Ac.kp{F B b w w' a l}(h:Ac F w a l)(hF:∀x,F x->x<B)(k:Kp B b w w'):Ac F w' a l:=h.mono fun i hi hl=>⟨hi,nll hl k.size,k.1.block i (hF i hi)⟩
theorem Ch(p x):Aq (p::x)=p.raw++Aq x:=List.flatMap_cons
theorem Wf(d):Lib.repeatL [9] d=List.replicate d 9:=by
 induction d with
 | zero=>rfl
 | succ d ih=>rw[List.replicate_succ,<-ih];rfl
theorem Qt(B b d:Nat)(l)(w:World)(h:Dg B b d (Lib.byteCells l) w)(hB:B<=w.heap.size)(hlen:l.length+d<=1000000000):
  Calls Tryz.prog 47 #[J (I ⟨b,0,G⟩)] w (PPut B b d l [tabP d] w):=by
 have H:=Lq7 (aIn h (Kp.refl B b w));have hc:=h.facts.1;clear h;go_enter Tryz.func47,Tryz.ntmps47
 go_upto_region 0 with fail
 refine Bm (.s 0 (.s 1 (.s 2 (.s 3 (.s 4 (.s 5 (.s 6 (.h 7 (.h 8 .nil))))))))) 99 (fun W'=>W'.cell? ⟨b,2,G⟩=I (A C d)) hc ?_;clear hc;have H1:=Lq7 (aIn H.out.1.drew H.out.2.drew);generalize w.drew=W1 at H1 |-;refine Aw (J (I ⟨b,0,G⟩)) ?_;refine Aw (J (I ⟨b,0,G⟩)) ?_;refine Aw (J (I ⟨b,0,G⟩)) ?_;refine Aw (J (I ⟨b,0,G⟩)) ?_;refine Aw (J (I ⟨b,0,G⟩)) ?_;refine Aw (J (I ⟨b,2,G⟩)) ?_;refine Bp (A C d) (fun W' hS=>?_) ?_
 ·go_simp
 refine Ae rfl (fun Kx hKx=>?_);go_wp2_with fail;refine(Tryz.strings_Repeat ⟨#[9]⟩ d _ (by omega) (by show 1*d<=_;omega)).mono ?_;rintro e W2 ⟨rfl,aE⟩;have aG:Dg B b d (Lib.byteCells l) W2:=H1.out.1.below aE;have H2:=Lq7 (aIn aG (H1.out.2.later hB aE));have Hs:Hid ((⟨(Lib.repeatL (⟨#[9]⟩:ByteArray).data.toList d).toArray⟩:ByteArray).data.toList=List.replicate d 9):=Lq7 (by show Lib.repeatL [9] d=_;exact Wf d);clear aG aE;generalize (⟨(Lib.repeatL (⟨#[9]⟩:ByteArray).data.toList d).toArray⟩:ByteArray)=s at Hs |-;have hsz:s.size=d:=(by rw[<-Al,Hs.out,List.length_replicate]);go_wp2_with fail;refine hKx _ _ (fun _=>H2.out.1.facts.1) ?_;(try simp only[gX,Act.put]);refine Ae rfl (fun Ky hKy=>?_);go_wp2_with fail;refine(Pb s H2.out.1 (by omega) (nlt hB H2.out.2.size)).mono ?_;rintro e W3 ⟨rfl,h3,aB⟩;rw[Hs.out] at h3;have H3:=Lq7 (aIn h3 (H2.out.2.trans aB));clear h3 aB;go_wp2_with fail;refine hKy _ _ (fun _=>H3.out.1.facts.1) ?_;refine A2 ?_;(try simp only[gX,Act.put]);go_wp2_with fail
 go_end0
 refine⟨rfl,?_,H3.out.2⟩;have h9:=H3.out.1;have e9:Aq [tabP d]=List.replicate d 9:=(by unfold Aq tabP;simp[Pc.raw]);rw[e9];exact h9
theorem two_any(F n v w)(hn:A7 F w n v):Calls Tryz.prog 149 #[v] w (Sb (Fk n) w):=by
 obtain⟨k,t,l,c,kids⟩:=n;obtain⟨a,cap,rfl,-⟩:=hn.open;have aH:=Cn w k t l c a kids.length cap;have aD:=Lq7 aH;have Ht:Hid (Fk (.mk k t l c kids)=(k==16 && !(t.toList==[110,111,116]))):=Lq7 (by rw[Lq8];rfl);unfold bxN at aD;clear aH hn;cases hk:k==16
 ·go_enter Tryz.func149,Tryz.ntmps149;go_wp2_with fail;go_ret;exact⟨A0 (by rw[Ht.out,hk];rfl),aD.out⟩
 ·cases ht:t.toList==[110,111,116]
  ·have ht2:(t.toList != [110,111,116])=true:=(by unfold bne;rw[ht];rfl);go_enter Tryz.func149,Tryz.ntmps149;go_wp2_with fail;go_ret;exact⟨A0 (by rw[Ht.out,hk,ht];rfl),aD.out⟩
  ·have ht2:(t.toList != [110,111,116])=false:=(by unfold bne;rw[ht];rfl);go_enter Tryz.func149,Tryz.ntmps149;go_wp2_with fail;go_ret;exact⟨A0 (by rw[Ht.out,hk,ht];rfl),aD.out⟩
theorem pin_any(d n br)(hY:Ca 93 d exP n)(F v w B b l)(hn:A7 F w n v)(hF:∀x,F x->x<B)(hp:Dg B b d (Lib.byteCells l) w)(hB:B<=w.heap.size)(hlen:l.length+(Aq (brk br (exP n))).length<=1000000000):
  Calls Tryz.prog 148 #[J (I ⟨b,0,G⟩),v,.bool br] w (PPut B b d l (brk br (exP n)) w):=by
 obtain⟨k,t,ln,c,kids⟩:=n;obtain⟨a,cap,rfl,-⟩:=hn.open;have hlt:=hp.facts.2.2.2;have H0:=Lq7 (aIn (heap_alloc_new w (L #[A C k,D t,A C ln,A C c,E a kids.length cap] 27)) (aIn (hp.alloc (L #[A C k,D t,A C ln,A C c,E a kids.length cap] 27)) ((Kp.refl B b w).alloc hB (L #[A C k,D t,A C ln,A C c,E a kids.length cap] 27))));have HY:=Lq7 (fun(W:World) (l':List UInt8) (hk:Kp B b w W) (hpw:Dg B b d (Lib.byteCells l') W) (hl:l'.length+(Aq (exP (.mk k t ln c kids))).length<=1000000000)=>hY F _ W B b l' (hn.kp hF hk) hF hpw (nlt hB hk.size) hl);have HB:=Lq7 hB;generalize hx:exP (.mk k t ln c kids)=x at HY hlen |-;clear hn hY hF hp hx hB;cases br with
 | false=>
  have hlen:l.length+(Aq x).length<=1000000000:=hlen;have HC:=Lq7 (HY.out _ l H0.out.2.2 H0.out.2.1 hlen);clear hlen;go_enter Tryz.func148,Tryz.ntmps148;go_wp2_with fail;refine HC.out.mono ?_;rintro e w1 ⟨rfl,h1,aA⟩;have H1:=Lq7 (aIn h1 (H0.out.2.2.trans aA));clear h1 aA;go_wp2_with fail
  go_end0
  exact⟨rfl,H1.out.1,H1.out.2⟩
 | true=>
  have aF:Aq (brk true x)=40::(Aq x++[41]):=by
   show Aq (pS 40::(x++[pS 41]))=_;rw[Ch,Bg];rfl
  rw[aF,lnC,lnA,List.length_singleton] at hlen;have HP1:=Lq7 (My (B:=B) (b:=b) (tb:=d) (l:=l) 40 40 rfl H0.out.2.1 (by omega) (nlt HB.out H0.out.2.2.size));have aC:=Lq7 hlen;have Hfl:=Lq7 aF;clear hlen aF;go_enter Tryz.func148,Tryz.ntmps148;go_wp2_with fail;refine HP1.out.mono ?_;rintro e w1 ⟨rfl,h1,aA⟩;have H1:=Lq7 (aIn (aA.stay H0.out.1 (by decide) (by omega)) (aIn h1 (H0.out.2.2.trans aA)));clear h1 aA;obtain⟨q0,q1,q2,q3,q4,q5,-⟩:=Aa H1.out.1;have HC:=Lq7 (HY.out w1 (l++[40]) H1.out.2.2 H1.out.2.1 (by rw[lnA,List.length_singleton];have:=aC.out;omega));go_wp2_with fail;refine HC.out.mono ?_;rintro e w2 ⟨rfl,h2,aJ⟩;have H2:=Lq7 (aIn h2 (H1.out.2.2.trans aJ));clear h2 aJ q0 q1 q2 q3 q4 q5;have HP2:=Lq7 (My (B:=B) (b:=b) (tb:=d) 41 41 rfl H2.out.1 (by rw[lnA,lnA,List.length_singleton];have:=aC.out;omega) (nlt HB.out H2.out.2.size));go_wp2_with fail;refine HP2.out.mono ?_;rintro e w3 ⟨rfl,h3,aB⟩;have H3:=Lq7 (aIn h3 (H2.out.2.trans aB));clear h3 aB;go_wp2_with fail
  go_end0
  refine⟨rfl,?_,H3.out.2⟩;rw[Hfl.out];have:=H3.out.1
  simpa using this
theorem raw_pW(s):(pW s).raw=s:=rfl
theorem Ty{sep:Nat->List Pc}{ps:List (List Pc)}{j:Nat}{x:List Pc}(h:ps[j]? = I x):Aq (A6 sep 0 (ps.take (j+1)))=Aq (A6 sep 0 (ps.take j))++(Aq (sep j)++Aq x):=by
 have hj:=(lgS.1 h).1;have hl:(ps.take j).length=j:=(by rw[List.length_take];omega);rw[ltA,h,Option.toList_some,Y0,Nat.zero_add,hl,Bg,Bg]
theorem Ym(sep ps j):(Aq (A6 sep 0 (ps.take j))).length<=(Aq (A6 sep 0 ps)).length:=by
 have h:A6 sep 0 ps=A6 sep 0 (ps.take j++ps.drop j):=(by rw[List.take_append_drop]);rw[h,Oc,Bg,lnA];omega
theorem row_put(g)(eg:∀args w,(callFunc g args).run Tryz.prog w = .ok (.enter g args) w)(d pc F a cap m)(hm:m.length<=140737488355328)(hY:∀x∈m,Ca g d pc x)(w B b l)(hr:Ac F w a (Au m))(hF:∀x,F x->x<B)(hp:Dg B b d (Lib.byteCells l) w)(hB:B<=w.heap.size)(hlen:l.length+(Aq (A6 En 0 (m.map pc))).length<=1000000000):
  Calls Tryz.prog 95 #[J (I ⟨b,0,G⟩),E a m.length cap,.func (.func g) #[J (I ⟨b,0,G⟩)] #[]] w (PPut B b d l (A6 En 0 (m.map pc)) w):=by
 have HF:=Lq7 hF;have HR:=Lq7 (fun(W:World) (hk:Kp B b w W)=>hr.kp hF hk);have HY:=Lq7 (fun(x:Nd) (hx:x∈m) (W:World) (l':List UInt8) (v:Value) (hk:Kp B b w W) (hv:A7 F W x v) (hpw:Dg B b d (Lib.byteCells l') W) (hl:l'.length+(Aq (pc x)).length<=1000000000)=>hY x hx F v W B b l' hv hF hpw (nlt hB hk.size) hl);have aM:=Lq7 (fun(j:Nat) (x:Nd) (hj:m[j]? = I x)=>Ty (sep:=En) (ps:=m.map pc) (j:=j) (x:=pc x) (by rw[lgP,hj];rfl));have aN:=Lq7 (fun j=>Ym En (m.map pc) j);have aD:Hid ((m.map pc).take m.length=m.map pc):=Lq7 (ltL (by rw[lnM];exact nlr _));have HB:=Lq7 hB;have hlt:=hp.facts.2.2.2;have aQ:Hid (Dg B b d (Lib.byteCells (l++Aq (A6 En 0 ((m.map pc).take 0)))) w/\Kp B b w w):=Lq7 ⟨by rw[List.take_zero];simpa[A6,Aq] using hp,Kp.refl _ _ _⟩;have aE:=Lq7 hlen;clear hr hF hY hp hB hlen;generalize m.map pc=ps at aM aN aD aQ aE |-;go_enter Tryz.func95,Tryz.ntmps95;go_wp2_with fail
 go_loopw [10] (fun i wr=>∃j:Nat,i = A C j/\j<=m.length/\Hid (Dg B b d (Lib.byteCells (l++Aq (A6 En 0 (ps.take j)))) wr/\Kp B b w wr)) (fun i _=>m.length-(intOf i).toNat)
 case atStart=>exact⟨0,rfl,nlz _,aQ⟩
 case round=>
  obtain⟨j,rfl,hj,aC⟩:=hrel;by_cases hjl:j<m.length
  ·have aF:m[j]? = I m[j]:=lgE hjl;generalize m[j]=x at aF;have aR:=Lq7 (HY.out x (lgM aF));have aG:=Lq7 (aM.out j x aF);have aA:=aN.out (j+1);rw[aG.out,lnA,lnA] at aA;have aJ:=aE.out;obtain⟨xk,xt,xl,xc,xs⟩:=x;obtain⟨kb,off,a1,c1,rfl,hF,hbl,r0,r1,r2,r3,r4,h6,aU⟩:=(HR.out wr aC.out.2).nodeK aF;have hsz:=aC.out.2.size;have HN:=Lq7 (aIn (heap_alloc_new wr (L #[A C xk,D xt,A C xl,A C xc,E a1 xs.length c1] 27)) (aIn (aC.out.1.alloc (L #[A C xk,D xt,A C xl,A C xc,E a1 xs.length c1] 27)) (aC.out.2.alloc HB.out (L #[A C xk,D xt,A C xl,A C xc,E a1 xs.length c1] 27))));have aV:=Lq7 (A7.mk xk xt xl xc c1 aU h6.out);have aW:=Lq7 ((Kp.refl B b wr).alloc (nlt HB.out aC.out.2.size) (L #[A C xk,D xt,A C xl,A C xc,E a1 xs.length c1] 27));clear aU h6 aF;rcases Nat.eq_zero_or_pos j with rfl|hj0
   ·have aH:Aq (En 0)=[]:=rfl;simp only[nzm,naz] at r0 r1 r2 r3 r4;rw[aH,List.nil_append] at aG;rw[aH] at aA;have HC:=Lq7 (aR.out _ _ _ HN.out.2.2 (aV.out.kp HF.out aW.out) HN.out.2.1 (by rw[lnA];simp only[lnN] at aA;omega));clear aA aJ hF;go_wp2_with fail;refine HC.out.mono ?_;rintro e w2 ⟨rfl,h2,aB⟩;rw[List.append_assoc,<-aG.out] at h2;have H2:=Lq7 (aIn h2 (HN.out.2.2.trans aB));clear h2 aB;go_wp2_with fail;go_roundw
    case rel=>exact⟨1,by go_num,by omega,H2⟩
    case measure=>simp only[intOf];omega
   ·have aH:Aq (En j)=[44,32]:=(by unfold En;rw[if_neg (by omega)];rfl);rw[aH] at aG aA;have hjp:(0:Int)<(j:Int):=(by omega);have HP:=Lq7 (Pb ⟨#[44,32]⟩ HN.out.2.1 (by rw[lnA];simp only[lnC,lnN] at aA;show _+2<=_;omega) (nlt HB.out HN.out.2.2.size));have aY:=Lq7 (aIn aA aJ);clear aA aJ hF hj0;go_wp2_with fail;refine HP.out.mono ?_;rintro e w2 ⟨rfl,h2,aB⟩;have H2:=Lq7 (aIn (aB.stay HN.out.1 (by decide) (by omega)) (aIn h2 (HN.out.2.2.trans aB)));clear HP;obtain⟨q0,q1,q2,q3,q4,q5,-⟩:=Aa H2.out.1;have HC:=Lq7 (aR.out w2 _ _ H2.out.2.2 (aV.out.kp HF.out (aW.out.trans aB)) H2.out.2.1 (by have h1:=aY.out.1;have h2:=aY.out.2;simp only[lnA,lnC,lnN] at h1 |-;show _+2+_<=_;omega));clear h2 aB;go_wp2_with fail;refine HC.out.mono ?_;rintro e w3 ⟨rfl,h3,aZ⟩;rw[List.append_assoc,List.append_assoc,<-aG.out] at h3;have H3:=Lq7 (aIn h3 (H2.out.2.2.trans aZ));clear h3 aZ;go_wp2_with fail;go_roundw
    case rel=>exact⟨j+1,by go_num,by omega,H3⟩
    case measure=>simp only[intOf];omega
  ·obtain rfl:j=m.length:=(by omega);have H1:=Lq7 aC.out;rw[aD.out] at H1;go_wp2_with fail
   go_end0
   exact⟨rfl,H1.out.1,H1.out.2⟩
structure PG(F:Nat->Prop)(B b d:Nat)(w:World)(l:List UInt8)(ls:List (Nat×Array Value×TypeId))(nr:List (Option Addr×List Nd))(W:World):Prop where
 kp:Kp B b w W
 pg:Dg B b d (Lib.byteCells l) W
 locs:Locs W ls
 ty:∀x∈ls,x.2.2≠5/\x.1≠b
 hF:∀x,F x->x<B
 hB:B<=w.heap.size
 nr:∀r∈nr,Ac F W r.1 (Au r.2)
section
variable {F:Nat->Prop} {B b d:Nat} {w W W':World} {l l':List UInt8} {ls:List (Nat×Array Value×TypeId)} {nr:List (Option Addr×List Nd)} {Q:Ending->World->Prop}
theorem PG.fa(h:PG F B b d w l ls nr W):FaA W ls:=Xp _ (Jz _ h.locs)
theorem PG.la(h:PG F B b d w l ls nr W):C4 W ls:=Jz _ h.locs
theorem PG.laS(h:PG F B b d w l ls nr W){l0:List (Nat×Array Value×TypeId)}(hs:∀x∈l0,x∈ls):C4 W l0:=Jz _ fun x hx=>h.locs x (hs x hx)
theorem PG.drew(h:PG F B b d w l ls nr W):PG F B b d w l ls nr W.drew:=⟨h.kp.drew,h.pg.drew,h.locs,h.ty,h.hF,h.hB,fun r hr=>(h.nr r hr).below ((bRf _ W).drew)⟩
theorem PG.below(h:PG F B b d w l ls nr W)(hb:Below W.heap.size W W'):PG F B b d w l ls nr W':=⟨h.kp.later h.hB hb,h.pg.below hb,fun x hx=>(hb.block _ (h.locs.lt hx)).trans (h.locs x hx),h.ty,h.hF,h.hB,fun r hr=>(h.nr r hr).below hb⟩
theorem PG.alloc(h:PG F B b d w l ls nr W)(cs:Array Value)(T:TypeId)(hT:T≠5:=by decide):PG F B b d w l (ls++[(W.heap.size,cs,T)]) nr (W.alloc (.cells cs T)):=by
 have hb:=(bRf W.heap.size W).alloc (nlr _) (.cells cs T);refine⟨h.kp.alloc h.hB _,h.pg.alloc _,fun x hx=>?_,fun x hx=>?_,h.hF,h.hB,fun r hr=>(h.nr r hr).below hb⟩
 ·rcases List.mem_append.1 hx with hx|hx
  ·exact(hb.block _ (h.locs.lt hx)).trans (h.locs x hx)
  ·obtain rfl:=List.mem_singleton.1 hx;exact heap_alloc_new W _
 ·rcases List.mem_append.1 hx with hx|hx
  ·exact h.ty x hx
  ·obtain rfl:=List.mem_singleton.1 hx;exact⟨hT,Nat.ne_of_gt h.pg.facts.2.2.2⟩
theorem PG.alloc2(h:PG F B b d w l ls nr W)(cs cs':Array Value)(T T':TypeId)(hT:T≠5:=by decide)(hT':T'≠5:=by decide):PG F B b d w l (ls++[(W.heap.size,cs,T),(W.heap.size+1,cs',T')]) nr ((W.alloc (.cells cs T)).alloc (.cells cs' T')):=by
 have h2:=(h.alloc cs T hT).alloc cs' T' hT'
 simpa using h2
theorem PG.only{n:Nat}{l2:List UInt8}{ls2:List (Nat×Array Value×TypeId)}{nr2:List (Option Addr×List Nd)}(h:PG F B b d w l ls nr W)(h1:ls.take n=ls2:=by rfl)(h2:∀r∈nr2,r∈nr:=by simp)(h3:l2=l:=by first|rfl|(simp only[List.append_assoc,C9,List.append_nil];try rfl)):PG F B b d w l2 ls2 nr2 W:=by
 subst h3 h1;exact⟨h.kp,h.pg,fun x hx=>h.locs x (List.mem_of_mem_take hx),fun x hx=>h.ty x (List.mem_of_mem_take hx),h.hF,h.hB,fun r hr=>h.nr r (h2 r hr)⟩
theorem PG.after(h:PG F B b d w l ls nr W)(hk:Kp B b W W')(hp:Dg B b d (Lib.byteCells l') W'):PG F B b d w l' ls nr W':=
 ⟨h.kp.trans hk,hp,fun x hx=>hk.stay (h.locs x hx) (h.ty x hx).1 (h.ty x hx).2,h.ty,h.hF,h.hB,fun r hr=>(h.nr r hr).kp h.hF hk⟩
theorem qSt{P:Prop}(h:P:=by first|with_reducible exact H.out|with_reducible exact H.out.alloc _ _|with_reducible exact(H.out.alloc _ _).alloc _ _):P:=h
theorem qLen{P:Prop}(h:P:=by have:=Hlen.out;(try simp only[List.length_append,List.length_cons,List.length_nil,C9] at this);(try simp only[List.length_append,List.length_cons,List.length_nil,C9]);omega):P:=h
theorem qPut{g:FuncId}{pc:Nd->List Pc}{k l0 c:Int}{t:ByteArray}{xs:List Nd}{a:Option Addr}{n cap:Nat}(hx:Ca g d pc (.mk k t l0 c xs))(kk:∀W',Hid (PG F B b d w (l++Aq (pc (.mk k t l0 c xs))) ls nr W')->Q (.returned (.tuple #[])) W')(H:PG F B b d w l ls nr W:=by exact qSt)(hr:(a,xs)∈nr:=by simp)(hl:l.length+(Aq (pc (.mk k t l0 c xs))).length<=1000000000:=by exact qLen)(hc:F5 k=true->xs.length<=cap:=by(refine Hid.out ?_;assumption))(hn:n=xs.length:=by rfl):
  Calls Tryz.prog g #[J (I ⟨b,0,G⟩),.agg #[A C k,D t,A C l0,A C c,E a n cap]] W Q:=by
 subst hn;exact(hx F _ W B b l (A7.mk k t l0 c cap (H.nr _ hr) hc) H.hF H.pg (nlt H.hB H.kp.size) hl).mono fun e w' ⟨he,h1,h2⟩=>(by subst he;exact kk w' (Lq7 (H.after h2 h1)))
theorem qRow{g:FuncId}{pc:Nd->List Pc}{m:List Nd}{a:Option Addr}{cap:Nat}(eg:∀args w,(callFunc g args).run Tryz.prog w = .ok (.enter g args) w)(hm:m.length<=140737488355328)(hY:∀x∈m,Ca g d pc x)(hr:Ac F w a (Au m))(kk:∀W',Hid (PG F B b d w (l++Aq (A6 En 0 (m.map pc))) ls nr W')->Q (.returned (.tuple #[])) W')(H:PG F B b d w l ls nr W:=by exact qSt)(hl:l.length+(Aq (A6 En 0 (m.map pc))).length<=1000000000:=by exact qLen):
  Calls Tryz.prog 95 #[J (I ⟨b,0,G⟩),E a m.length cap,.func (.func g) #[J (I ⟨b,0,G⟩)] #[]] W Q:=
 (row_put g eg d pc F a cap m hm hY W B b l (hr.kp H.hF H.kp) H.hF H.pg (nlt H.hB H.kp.size) hl).mono fun e w' ⟨he,h1,h2⟩=>by subst he;exact kk w' (Lq7 (H.after h2 h1))
theorem qStr(s:ByteArray)(kk:∀W',Hid (PG F B b d w (l++s.data.toList) ls nr W')->Q (.returned (.tuple #[A C s.size,.nilIface])) W')(H:PG F B b d w l ls nr W:=by exact qSt)(hl:l.length+s.data.toList.length<=1000000000:=by exact qLen):Calls Tryz.prog 90 #[J (I ⟨b,0,G⟩),D s] W Q:=
 (Pb s H.pg (by rw[<-Al];exact hl) (nlt H.hB H.kp.size)).mono fun e w' ⟨he,h1,h2⟩=>by subst he;exact kk w' (Lq7 (H.after h2 h1))
theorem qByt{z:Int}(c:UInt8)(kk:∀W',Hid (PG F B b d w (l++[c]) ls nr W')->Q (.returned .nilIface) W')(H:PG F B b d w l ls nr W:=by exact qSt)(hl:l.length+1<=1000000000:=by exact qLen)(hz:z=c.toNat:=by rfl):Calls Tryz.prog 49 #[J (I ⟨b,0,G⟩),.int .u8 z] W Q:=
 (My c z hz H.pg hl (nlt H.hB H.kp.size)).mono fun e w' ⟨he,h1,h2⟩=>by subst he;exact kk w' (Lq7 (H.after h2 h1))
theorem qEnd{x:List Pc}{y l0:List UInt8}(hf:Aq x=y)(H:PG F B b d w l ls nr W:=by exact qSt)(he:l=l0++y:=by first|rfl|(simp only[List.append_assoc,C9];first|done|rfl)):PPut B b d l0 x w (.returned (.tuple #[])) W:=by
 subst he;exact⟨rfl,by rw[hf];exact H.pg,H.kp⟩
theorem qRgn{ops:Array Oper}{Q:Exit->Act->World->Prop}{id:Nat}{a:Act}(t:Tu)(fin:Nat)(k:∀W',Hid (PG F B b d w l ls nr W')->Ak Tryz.prog ops (fun W'=>Kp B b w W'/\C4 W' ls) Q fin t a W')(H:PG F B b d w l ls nr W:=by exact qSt)(hm:(Tryz.prog).follows .mixedOrders=true:=by kernel_rfl)
  (hB:(Region.noSelect ops&&Cu .any ops fin t (Array.replicate ops.size false)&&decide (t.deep<=ops.size))=true:=by decide +kernel)
  (hQ:∀c a d v w,Q (.panic c) (a.put d v) w->Q (.panic c) a w:=by intro c a d v w h;cases d<;>exact h):(Code.region id ops true).wp Tryz.prog Q a W:=
 Bm t fin _ ⟨H.drew.kp,H.drew.la⟩ (k _ (Lq7 H.drew)) hm hB hQ
theorem qHvy{ops:Array Oper}{Q:Exit->Act->World->Prop}{fin i:Nat}{o:Oper}{rest:Tu}{a:Act}{S:World->Prop}(k:∀W',Hid (PG F B b d w l ls nr W')->∀K:Act->World->Prop,(∀a2 w2,(i≠fin->S w2)->Ak Tryz.prog ops S Q fin rest a2 w2->K a2 w2)->wpList Tryz.prog ops (Exit.then K Q) [o] a W')
  (H:PG F B b d w l ls nr W:=by exact qSt) (ho:ops[i]? = I o:=by rfl):Ak Tryz.prog ops S Q fin (.h i rest) a W:=Ae ho (k W (Lq7 H))
theorem qTwo{k l0 c:Int}{t:ByteArray}{xs:List Nd}{a:Option Addr}{cap:Nat}{br:Bool}(hb:Fk (.mk k t l0 c xs)=br)(kk:∀W',Hid (PG F B b d w l ls nr W')->Q (.returned (.bool br)) W')(H:PG F B b d w l ls nr W:=by exact qSt)(hr:(a,xs)∈nr:=by simp)(hc:F5 k=true->xs.length<=cap:=by(refine Hid.out ?_;assumption)):
  Calls Tryz.prog 149 #[.agg #[A C k,D t,A C l0,A C c,E a xs.length cap]] W Q:=
 (two_any F (.mk k t l0 c xs) _ W (A7.mk k t l0 c cap (H.nr _ hr) hc)).mono fun e w' ⟨he,hb'⟩=>by subst he;rw[hb];exact kk w' (Lq7 (H.below hb'))
theorem qIn{k l0 c:Int}{t:ByteArray}{xs:List Nd}{a:Option Addr}{cap:Nat}{br:Bool}(hY:Ca 93 d exP (.mk k t l0 c xs))(kk:∀W',Hid (PG F B b d w (l++Aq (brk br (exP (.mk k t l0 c xs)))) ls nr W')->Q (.returned (.tuple #[])) W')(H:PG F B b d w l ls nr W:=by exact qSt)(hr:(a,xs)∈nr:=by simp)(hl:l.length+(Aq (brk br (exP (.mk k t l0 c xs)))).length<=1000000000:=by exact qLen)(hc:F5 k=true->xs.length<=cap:=by(refine Hid.out ?_;assumption)):
  Calls Tryz.prog 148 #[J (I ⟨b,0,G⟩),.agg #[A C k,D t,A C l0,A C c,E a xs.length cap],.bool br] W Q:=
 (pin_any d (.mk k t l0 c xs) br hY F _ W B b l (A7.mk k t l0 c cap (H.nr _ hr) hc) H.hF H.pg (nlt H.hB H.kp.size) hl).mono fun e w' ⟨he,h1,h2⟩=>by subst he;exact kk w' (Lq7 (H.after h2 h1))
theorem qQuo{t:ByteArray}(hz:t.size<=65536)(kk:∀W' o,o.data.toList=quoteL t.data.toList->Hid (PG F B b d w l ls nr W')->Q (.returned (D o)) W')(H:PG F B b d w l ls nr W:=by exact qSt):Calls Tryz.prog 86 #[D t] W Q:=
 (Lr t W hz).mono fun e w' ⟨o,he,ho,hb⟩=>by subst he;exact kk w' o ho (Lq7 (H.below hb))
theorem Ca.mkW{g:FuncId}{pc:Nd->List Pc}{k l0 c:Int}{t:ByteArray}{xs:List Nd}{y:List UInt8}(hf:Aq (pc (.mk k t l0 c xs))=y)
  (h:∀(F:Nat->Prop) (w:World) (B b:Nat) (l:List UInt8) (a:Option Addr) (cap:Nat),Hid (l.length+y.length<=1000000000)->Hid (Aq (pc (.mk k t l0 c xs))=y)->Ac F w a (Au xs)->Hid (F5 k=true->xs.length<=cap)->Hid (PG F B b d w l [] [(a,xs)] w)->Calls Tryz.prog g #[J (I ⟨b,0,G⟩),.agg #[A C k,D t,A C l0,A C c,E a xs.length cap]] w (PPut B b d l (pc (.mk k t l0 c xs)) w)):Ca g d pc (.mk k t l0 c xs):=by
 intro F v w B b l hn hF hp hB hlen;obtain⟨a,cap,rfl,hc,hr⟩:=hn.openC;refine h F w B b l a cap (Lq7 (by rw[<-hf];exact hlen)) (Lq7 hf) hr (Lq7 hc) (Lq7 ⟨Kp.refl _ _ _,hp,fun x hx=>(by cases hx),fun x hx=>(by cases hx),hF,hB,fun r hr'=>?_⟩);obtain rfl:r=(a,xs):=(by simpa using hr');exact hr
theorem PG.row(h:PG F B b d w l ls nr W){a:Option Addr}{xs:List Nd}(hr:Ac F w a (Au xs)):PG F B b d w l ls ((a,xs)::nr) W:=
 ⟨h.kp,h.pg,h.locs,h.ty,h.hF,h.hB,fun r hr'=>by
  rcases List.mem_cons.1 hr' with rfl|hr'
  ·exact hr.kp h.hF h.kp
  ·exact h.nr r hr'⟩
theorem Ca.mk1{g:FuncId}{pc:Nd->List Pc}{k l0 c:Int}{t:ByteArray}{xs:List Nd}{y:List UInt8}(hf:Aq (pc (.mk k t l0 c xs))=y)
  (h:∀(F:Nat->Prop) (w:World) (B b:Nat) (l:List UInt8) (a:Option Addr) (cap:Nat),Hid (l.length+y.length<=1000000000)->Hid (Aq (pc (.mk k t l0 c xs))=y)->Hid (Ac F w a (Au xs))->Hid (∀x,F x->x<B)->Hid (F5 k=true->xs.length<=cap)->Hid (PG F B b d w l [(w.heap.size,#[A C k,D t,A C l0,A C c,E a xs.length cap],27)] [(a,xs)] (w.alloc (L #[A C k,D t,A C l0,A C c,E a xs.length cap] 27)))->Calls Tryz.prog g #[J (I ⟨b,0,G⟩),.agg #[A C k,D t,A C l0,A C c,E a xs.length cap]] w (PPut B b d l (pc (.mk k t l0 c xs)) w)):Ca g d pc (.mk k t l0 c xs):=
 Ca.mkW hf fun F w B b l a cap hl hf' hr hc H=>h F w B b l a cap hl hf' (Lq7 hr) (Lq7 H.out.hF) hc (Lq7 (H.out.alloc _ _))
theorem Kd{k l0 c:Int}{t:ByteArray}{xs m:List Nd}{a:Option Addr}{j:Nat}(hr:Ac F w a (Au m))(hF:∀x,F x->x<B)(hj:m[j]? = I (.mk k t l0 c xs)):∃kb off a1 c1,a=I ⟨kb,off,G⟩/\Hid (F5 k=true->xs.length<=c1)/\Ac F w a1 (Au xs)/\∀W,Kp B b w W->kb<W.heap.size/\W.cell? ⟨kb,off+j*5,G⟩=I (A C k)/\W.cell? ⟨kb,off+j*5+1,G⟩=I (D t)/\W.cell? ⟨kb,off+j*5+2,G⟩=I (A C l0)/\W.cell? ⟨kb,off+j*5+3,G⟩=I (A C c)/\W.cell? ⟨kb,off+j*5+4,G⟩=I (E a1 xs.length c1):=by
 obtain⟨kb,off,a1,c1,rfl,hFb,hbl,r0,r1,r2,r3,r4,hc,hr1⟩:=hr.nodeK hj;have hb:=hF _ hFb;exact⟨kb,off,a1,c1,rfl,hc,hr1,fun W hk=>⟨nll hbl hk.size,(hk.1.cell (p:=⟨kb,_,G⟩) hb).trans r0,(hk.1.cell (p:=⟨kb,_,G⟩) hb).trans r1,(hk.1.cell (p:=⟨kb,_,G⟩) hb).trans r2,(hk.1.cell (p:=⟨kb,_,G⟩) hb).trans r3,(hk.1.cell (p:=⟨kb,_,G⟩) hb).trans r4⟩⟩
end
theorem Iv{P:Prop}(h:P:=by
 repeat' first
  | ((with_reducible refine goO ?_);((try simp only[List.cons_append,List.nil_append] at H);(have hD:=H.out.fa);(simp only[FaA,and_true] at hD);(have hk:=HK.out _ H.out.kp);go_wp2_with fail;all_goals (try clear hD hk)))
  | ((with_reducible show Calls _ 90 _ _ _);refine qStr _ ?_;intro V H;refine goM ?_)
  | ((with_reducible show Calls _ 49 _ _ _);(first|refine qByt 59 ?_|refine qByt 32 ?_|refine qByt 41 ?_|refine qByt 91 ?_|refine qByt 93 ?_|refine qByt 123 ?_|refine qByt 125 ?_);intro V H;refine goM ?_)
  | ((with_reducible show Calls _ 149 _ _ _);refine qTwo Ht.out ?_;intro V H;refine goM ?_)
  | ((with_reducible show Calls _ 148 _ _ _);refine qIn Hx.out ?_;intro V H;refine goM ?_)
  | ((with_reducible show Calls _ 86 _ _ _);refine qQuo Hq.out ?_;intro V o ho H;rw[<-ho] at Hlen Hfl;clear ho;refine goM ?_)
  | ((with_reducible show Calls _ 95 _ _ _);refine qRow He.out Hm.out Hps.out Hpr.out ?_;intro V H;refine goM ?_)
  | ((with_reducible show Calls _ _ _ _ _);(first|refine qPut Hx.out ?_|refine qPut Hy.out ?_|refine qPut Hz.out ?_);intro V H;refine goM ?_)
  | ((with_reducible show Code.wp _ (.region _ _ _) _ _ _);(first|refine qRgn (.s 0 (.s 1 (.s 2 (.s 4 (.s 5 (.h 3 (.h 6 (.h 7 (.h 8 .nil))))))))) 99 ?_|refine qRgn (.s 0 (.s 1 (.s 2 (.h 3 (.s 4 (.s 5 (.s 6 (.s 7 (.s 8 (.s 9 (.s 10 (.s 11 (.s 12 (.s 13 (.s 14 (.s 15 (.s 16 (.s 17 (.h 18 .nil))))))))))))))))))) 99 ?_|refine qRgn (.s 0 (.s 1 (.s 2 (.s 3 (.s 4 (.s 5 (.s 6 (.s 7 (.s 8 (.h 9 (.h 10 .nil))))))))))) 99 ?_|refine qRgn (.s 0 (.s 1 (.s 2 (.s 3 (.s 4 (.h 5 .nil)))))) 99 ?_|refine qRgn (.s 0 (.s 1 (.s 2 (.s 3 (.s 4 (.s 5 (.s 6 (.s 7 (.s 8 (.s 9 (.s 10 (.s 11 (.h 12 .nil))))))))))))) 99 ?_|refine qRgn (.s 0 (.s 1 (.s 2 (.s 3 (.s 4 (.h 5 (.h 6 .nil))))))) 99 ?_|refine qRgn (.s 0 (.s 1 (.s 2 (.s 3 (.s 4 (.s 5 (.s 6 (.h 7 .nil)))))))) 99 ?_|refine qRgn (.s 0 (.s 1 (.s 2 (.s 3 (.s 4 (.s 5 (.h 6 .nil))))))) 99 ?_);intro V H)
  | ((with_reducible show Ak _ _ _ _ _ (.s _ _) _ _);first|refine yS ?_|(refine Ik rfl rfl ?_;(try simp only[gX,Act.put])))
  | ((with_reducible show Ak _ _ _ _ _ (.h _ _) _ _);refine qHvy ?_;intro V H K hK;refine goM ?_)
  | ((with_reducible show Ak _ _ _ _ _ .nil _ _);refine A2 ?_;refine goM ?_)
  | ((with_reducible show bodyPost _ _ _ _ _ _);go_end0;exact qEnd Hfl.out)
  | (go_roundw;(case rel=>first|exact⟨j+1,by go_num,by omega,Go.Lib.hid (by rw[Hs.out];exact PG.only (n:=1) qSt)⟩|exact⟨1,by go_num,by omega,Go.Lib.hid (by rw[Hs.out];exact PG.only (n:=1) qSt)⟩);(case measure=>simp only[intOf];omega))
  | (refine hK _ _ (fun _=>⟨PG.kp qSt,by(try simp only[List.cons_append,List.nil_append]);first|exact PG.la qSt|exact PG.laS qSt (by simp)⟩) ?_)):P:=h
theorem egEx:∀args w,(callFunc 93 args).run Tryz.prog w = .ok (.enter 93 args) w:=enters_of Tryz.func93 (by kernel_rfl) rfl
theorem egNm:∀args w,(callFunc 92 args).run Tryz.prog w = .ok (.enter 92 args) w:=enters_of Tryz.func92 (by kernel_rfl) rfl
theorem egPa:∀args w,(callFunc 96 args).run Tryz.prog w = .ok (.enter 96 args) w:=enters_of Tryz.func96 (by kernel_rfl) rfl
theorem ex_name(d t ln c kids):Ca 93 d exP (.mk 9 t ln c kids):=by
 refine Ca.mk1 (y:=t.data.toList) (by rw[exP];show t.data.toList++[]=_;rw[List.append_nil]) fun F w B b l a cap Hlen Hfl Hr HF Hc H=>?_;have HK:Hid (∀W,Kp B b w W->True):=Lq7 fun _ _=>trivial;go_enter Tryz.func93,Tryz.ntmps93;have hD:=H.out.fa;simp only[FaA,and_true] at hD;go_wp2_with fail;clear hD;generalize World.alloc _ _=W at H |-;exact Iv
theorem ex_num(d t ln c kids):Ca 93 d exP (.mk 10 t ln c kids):=by
 refine Ca.mk1 (y:=t.data.toList) (by rw[exP];show t.data.toList++[]=_;rw[List.append_nil]) fun F w B b l a cap Hlen Hfl Hr HF Hc H=>?_;have HK:Hid (∀W,Kp B b w W->True):=Lq7 fun _ _=>trivial;go_enter Tryz.func93,Tryz.ntmps93;have hD:=H.out.fa;simp only[FaA,and_true] at hD;go_wp2_with fail;clear hD;generalize World.alloc _ _=W at H |-;exact Iv
theorem ex_text(d t ln c kids)(hz:t.size<=65536):Ca 93 d exP (.mk 11 t ln c kids):=by
 refine Ca.mk1 (y:=quoteL t.data.toList) (by rw[exP];show quoteL t.data.toList++[]=_;rw[List.append_nil]) fun F w B b l a cap Hlen Hfl Hr HF Hc H=>?_;have Hq:=Lq7 hz;clear hz;have HK:Hid (∀W,Kp B b w W->True):=Lq7 fun _ _=>trivial;go_enter Tryz.func93,Tryz.ntmps93;have hD:=H.out.fa;simp only[FaA,and_true] at hD;go_wp2_with fail;clear hD;generalize World.alloc _ _=W at H |-;exact Iv
theorem ex_list(d t ln c kids)(hm:kids.length<=140737488355328)(hY:∀x∈kids,Ca 93 d exP x):Ca 93 d exP (.mk 12 t ln c kids):=by
 refine Ca.mk1 (y:=[91]++(Aq (A6 En 0 (kids.map exP))++[93])) (by rw[exP,if_neg (by decide),if_pos rfl,Ch,Bg,M6];rfl) fun F w B b l a cap Hlen Hfl Hr HF Hc H=>?_;have He:=Lq7 egEx;have Hps:=Lq7 hY;have Hpr:=Hr;have Hm:=Lq7 hm;clear hY hm;have HK:Hid (∀W,Kp B b w W->True):=Lq7 fun _ _=>trivial;go_enter Tryz.func93,Tryz.ntmps93;have hD:=H.out.fa;simp only[FaA,and_true] at hD;go_wp2_with fail;clear hD;generalize World.alloc _ _=W at H |-;exact Iv
theorem ex_call(d t ln c kids)(hm:kids.length<=140737488355328)(hY:∀x∈kids,Ca 92 d arP x):Ca 93 d exP (.mk 14 t ln c kids):=by
 refine Ca.mk1 (y:=(t.data.toList++[40])++(Aq (A6 En 0 (kids.map arP))++[41])) (by rw[exP,if_neg (by decide),if_neg (by decide),if_neg (by decide),if_pos rfl,Ch,Ch,Bg,Qx,List.append_assoc];rfl) fun F w B b l a cap Hlen Hfl Hr HF Hc H=>?_;have He:=Lq7 egNm;have Hps:=Lq7 hY;have Hpr:=Hr;have Hm:=Lq7 hm;have htz:t.size<=1000000000:=(by have:=Hlen.out;simp only[lnA,lnC,lnN] at this;rw[Al] at this;omega);have aF:(9223372036854775807<t.size+1)=False:=eq_false (by omega);clear hY hm;have HK:Hid (∀W,Kp B b w W->True):=Lq7 fun _ _=>trivial;go_enter Tryz.func93,Tryz.ntmps93;have hD:=H.out.fa;simp only[FaA,and_true] at hD;go_wp2_with fail;clear hD;generalize World.alloc _ _=W at H |-;exact Iv
theorem Se(d k t ln c x)(hY:Ca 93 d exP x):Ca 92 d arP (.mk k t ln c [x]):=by
 obtain⟨xk,xt,xl,xc,xs⟩:=x;have aC:Aq (arP (.mk k t ln c [.mk xk xt xl xc xs]))=Aq (nameP t.data.toList)++Aq (exP (.mk xk xt xl xc xs)):=(by rw[arP,fiP,Bg]);by_cases ht:t.data.toList=[]
 ·obtain rfl:t=⟨#[]⟩:=bytes_ext ht;refine Ca.mk1 (y:=Aq (exP (.mk xk xt xl xc xs))) aC fun F w B b l a cap Hlen Hfl Hr HF Hc H=>?_;obtain⟨kb,off,a0,p0,rfl,Hc0,aD,aE⟩:=Kd (b:=b) (j:=0) Hr.out HF.out rfl;have HK:=Lq7 aE;simp only[nzm,naz] at HK;have Hx:=Lq7 hY;replace H:=Lq7 (H.out.row aD);rw[show [Nd.mk xk xt xl xc xs].length=1 from rfl] at H |-;clear hY aD aE aC;go_enter Tryz.func92,Tryz.ntmps92;have hD:=H.out.fa;have hk:=HK.out _ H.out.kp;simp only[FaA,and_true] at hD;go_wp2_with fail;clear hD hk;generalize World.alloc _ _=W at H |-;exact Iv
 ·have aG:Aq (nameP t.data.toList)=t.data.toList++[32,61,32]:=by
   unfold nameP;rw[if_neg ht,Ch,raw_pW];rfl
  rw[aG] at aC;have htne:(t.toList==([]:List UInt8))=false:=ne_of_list ht;have htn2:t.toList.isEmpty=false:=by
   rw[Lq8];cases hq:t.data.toList with
   | nil=>exact absurd hq ht
   | cons=>rfl
  clear ht aG;refine Ca.mk1 aC fun F w B b l a cap Hlen Hfl Hr HF Hc H=>?_;have htz:t.size<=1000000000:=(by have:=Hlen.out;simp only[lnA,lnC,lnN] at this;rw[Al] at this;omega);have aF:(9223372036854775807<t.size+3)=False:=eq_false (by omega);obtain⟨kb,off,a0,p0,rfl,Hc0,aD,aE⟩:=Kd (b:=b) (j:=0) Hr.out HF.out rfl;have HK:=Lq7 aE;simp only[nzm,naz] at HK;have Hx:=Lq7 hY;replace H:=Lq7 (H.out.row aD);rw[show [Nd.mk xk xt xl xc xs].length=1 from rfl] at H |-;clear hY aD aE aC;go_enter Tryz.func92,Tryz.ntmps92;have hD:=H.out.fa;have hk:=HK.out _ H.out.kp;simp only[FaA,and_true] at hD;go_wp2_with fail;clear hD hk;generalize World.alloc _ _=W at H |-;exact Iv
theorem Yn(t ty ln c a1 b1):Aq (paP (.mk 7 t ln c [.mk 9 ty a1 b1 []]))=t.data.toList++([58,32]++ty.data.toList):=by
 unfold paP;rw[if_neg (by simp[Nd.kids])];simp[Aq,pW,pS,sp,Pc.raw,Gf,kidN,Nd.kids,Nd.text]
theorem Yo(t ty ln c a1 b1 x):Aq (paP (.mk 7 t ln c [.mk 9 ty a1 b1 [],x]))=t.data.toList++([58,32]++ty.data.toList)++([32,61,32]++Aq (exP x)):=by
 unfold paP;rw[if_pos (by simp[Nd.kids]),Bg,Bg];simp[Aq,pW,pS,sp,Pc.raw,Gf,kidN,Nd.kids,Nd.text]
theorem pa_bare(d t ty ln c a1 b1):Ca 96 d paP (.mk 7 t ln c (.mk 9 ty a1 b1 []::[])):=by
 refine Ca.mk1 (Yn t ty ln c a1 b1) fun F w B b l a cap Hlen Hfl Hr HF Hc H=>?_;obtain⟨kb,off,a0,p0,rfl,-,aC,aB⟩:=Kd (j:=0) Hr.out HF.out rfl;have HK:=Lq7 fun W (hk:Kp B b w W)=>aB W hk;simp only[nzm,naz] at HK;rw[show(Nd.mk 9 ty a1 b1 []::[]).length=1 from rfl] at H |-;have aD:t.size<=1000000000/\ty.size<=1000000000:=(by have:=Hlen.out;simp only[lnA,lnC,lnN] at this;rw[Al,Al] at this;omega);have aE:(9223372036854775807<t.size+2)=False:=eq_false (by omega);have aF:(9223372036854775807<t.size+2+ty.size)=False:=eq_false (by omega);clear aC aB aD;go_enter Tryz.func96,Tryz.ntmps96;have hD:=H.out.fa;have hk:=HK.out _ H.out.kp;simp only[FaA,and_true] at hD;go_wp2_with fail;clear hD hk;generalize World.alloc _ _=W at H |-;exact Iv
theorem pa_def(d t ty ln c a1 b1 x)(hY:Ca 93 d exP x):Ca 96 d paP (.mk 7 t ln c (.mk 9 ty a1 b1 []::[x])):=by
 obtain⟨xk,xt,xl,xc,xs⟩:=x;refine Ca.mk1 (Yo t ty ln c a1 b1 _) fun F w B b l a cap Hlen Hfl Hr HF Hc H=>?_;obtain⟨kb,off,a0,p0,rfl,-,aC,aB⟩:=Kd (j:=0) Hr.out HF.out rfl;obtain⟨_,_,a2,p2,he,Hc1,aG,aH⟩:=Kd (j:=1) Hr.out HF.out rfl;cases he;have HK:=Lq7 fun W (hk:Kp B b w W)=>aIn (aB W hk) (aH W hk);simp only[nzm,Nat.one_mul,naz] at HK;have Hx:=Lq7 hY;replace H:=Lq7 (PG.row H.out aG);rw[show(Nd.mk 9 ty a1 b1 []::[Nd.mk xk xt xl xc xs]).length=2 from rfl] at H |-;have aD:t.size<=1000000000/\ty.size<=1000000000:=(by have:=Hlen.out;simp only[lnA,lnC,lnN] at this;rw[Al,Al] at this;omega);have aE:(9223372036854775807<t.size+2)=False:=eq_false (by omega);have aF:(9223372036854775807<t.size+2+ty.size)=False:=eq_false (by omega);clear hY aC aB aG aH aD;go_enter Tryz.func96,Tryz.ntmps96;have hD:=H.out.fa;have hk:=HK.out _ H.out.kp;simp only[FaA,and_true] at hD;go_wp2_with fail;clear hD hk;generalize World.alloc _ _=W at H |-;exact Iv
theorem Abl{d dd n}(h:Pk dd n)(hY:∀x∈n.kids,okX dd x->Ca 93 d exP x):Ca 96 d paP n:=by
 obtain⟨k,t,a,b,l⟩:=n
 match l,h,hY with
 | [.mk k1 t1 c1 e1 l1],h,_=>
  obtain⟨rfl,-,rfl,-,rfl⟩:=h;exact pa_bare d t t1 a b c1 e1
 | [.mk k1 t1 c1 e1 l1,x],h,hY=>
  obtain⟨rfl,-,rfl,-,rfl,hx⟩:=h;exact pa_def d t t1 a b c1 e1 x (hY x (by simp[Nd.kids]) hx)
theorem ex_dict(d t ln c m)(hm:m.length<=140737488355328)(hY:∀x∈m,Ca 93 d exP x):Ca 93 d exP (.mk 13 t ln c m):=by
 refine Ca.mk1 (y:=[123]++(Aq (A6 Fl 0 (m.map exP))++[125])) (by rw[exP,if_neg (by decide),if_neg (by decide),if_pos rfl,Ch,Bg,M6];rfl) fun F w B b l a cap HL Hfl Hr HF Hc H=>?_;have aF:=Lq7 (fun(j:Nat) (x:Nd) (hj:m[j]? = I x)=>Ty (sep:=Fl) (ps:=m.map exP) (j:=j) (x:=exP x) (by rw[lgP,hj];rfl));have aG:=Lq7 (fun j=>Ym Fl (m.map exP) j);have aB:Hid ((m.map exP).take m.length=m.map exP):=Lq7 (ltL (by rw[lnM];exact nlr _));have Hz:Hid (Aq (A6 Fl 0 ((m.map exP).take 0))=[]):=Lq7 (by rw[List.take_zero];rfl);have HY:=Lq7 hY;have HK:Hid (∀W,Kp B b w W->True):=Lq7 fun _ _=>trivial;clear hY;generalize m.map exP=ps at aF aG aB HL Hfl Hz;go_enter Tryz.func93,Tryz.ntmps93;have hD:=H.out.fa;simp only[FaA,and_true] at hD;go_wp2_with fail;clear hD;generalize World.alloc _ _=W0 at H |-;refine qByt 123 ?_ (hl:=by have:=HL.out;simp only[List.length_append,List.length_cons] at this;omega);intro V H;have hD:=H.out.fa;simp only[FaA,and_true] at hD;go_wp2_with fail;clear hD;have H:Hid (PG F B b d w (l++[123]++Aq (A6 Fl 0 (ps.take 0))) [(w.heap.size,#[A C 13,D t,A C ln,A C c,E a m.length cap],27)] [(a,m)] V):=Lq7 (by rw[Hz.out,List.append_nil];exact H.out)
 go_loopw [50] (fun i wr=>∃j:Nat,i = A C j/\j<=m.length/\Hid (PG F B b d w (l++[123]++Aq (A6 Fl 0 (ps.take j))) [(w.heap.size,#[A C 13,D t,A C ln,A C c,E a m.length cap],27)] [(a,m)] wr)) (fun i _=>m.length-(intOf i).toNat)
 case atStart=>exact⟨0,rfl,nlz _,H⟩
 case round=>
  obtain⟨j,rfl,hj,H⟩:=hrel;by_cases hjl:j<m.length
  ·cases hx:m[j] with
   | mk xk xt xl xc xs=>
    have aC:m[j]? = I (.mk xk xt xl xc xs):=(by rw[lgE hjl,hx]);have Hx:=Lq7 (HY.out _ (lgM aC));have Hs:=Lq7 (aF.out j _ aC);have aD:=aG.out (j+1);rw[Hs.out] at aD;have Hlen:Hid ((l++[123]++Aq (A6 Fl 0 (ps.take j))).length+(Aq (Fl j)++Aq (exP (.mk xk xt xl xc xs))).length<=1000000000):=Lq7 (by
     have:=HL.out;simp only[lnA,lnC,lnN] at this aD |-;omega)
    clear aD;obtain⟨kb,off,a1,p1,rfl,Hc1,aH,aJ⟩:=Kd (b:=b) Hr.out HF.out aC;replace HK:=Lq7 aJ;replace H:=Lq7 (H.out.row aH);obtain⟨lx,aE⟩:∃lx,lx=l++[123]++Aq (A6 Fl 0 (ps.take j)):=⟨_,rfl⟩;replace Hs:Hid (l++[123]++Aq (A6 Fl 0 (ps.take (j+1)))=lx++(Aq (Fl j)++Aq (exP (.mk xk xt xl xc xs)))):=Lq7 (by rw[Hs.out,aE];simp only[List.append_assoc]);rw[<-aE] at H Hlen;clear aE hx aC aH aJ;have aM:j=0\/0<j:=(by omega);rcases aM with rfl|aM
    ·rw[show Aq (Fl 0)=[] from rfl,List.nil_append] at Hs Hlen;simp only[nzm,naz] at HK;refine goM ?_;exact Iv
    ·have hjp:(0:Int)<(j:Int):=(by omega);have hs:(j % 2=1/\Aq (Fl j)=[58,32])\/(j % 2=0/\Aq (Fl j)=[44,32]):=by
      by_cases h:j % 2=1
      ·exact .inl ⟨h,by unfold Fl;rw[if_neg (by omega),if_pos h];rfl⟩
      ·exact .inr ⟨by omega,by unfold Fl;rw[if_neg (by omega),if_neg h];rfl⟩
     rcases hs with⟨hpar,hsp⟩|⟨hpar,hsp⟩
     ·have hv:(j:Int).tmod 2=1:=(by rw[Int.tmod_eq_emod_of_nonneg (by omega)];omega);rw[hsp] at Hs Hlen;clear hpar hsp;refine goM ?_;exact Iv
     ·have hv:(j:Int).tmod 2=0:=(by rw[Int.tmod_eq_emod_of_nonneg (by omega)];omega);rw[hsp] at Hs Hlen;clear hpar hsp;refine goM ?_;exact Iv
  ·rw[show j=m.length by omega,aB.out] at H;have Hlen:Hid ((l++[123]++Aq (A6 Fl 0 ps)).length+[125].length<=1000000000):=Lq7 (by have:=HL.out;simp only[lnA,lnC,lnN] at this |-;omega);refine goM ?_;exact Iv
theorem Abm(ln c x):Aq (exP (.mk 16 (bs notW) ln c [x]))=[110,111,116,32]++Aq (brk (Fk x) (exP x)):=by
 rw[exP,if_neg (by decide),if_neg (by decide),if_neg (by decide),if_neg (by decide),if_pos rfl,if_pos (show(bs notW).data.toList=notW from rfl),Ch,Ch,onP];rfl
theorem ex_not(d ln c x)(hY:Ca 93 d exP x):Ca 93 d exP (.mk 16 (bs notW) ln c [x]):=by
 obtain⟨xk,xt,xl,xc,xs⟩:=x;refine Ca.mk1 (Abm ln c _) fun F w B b l a cap Hlen Hfl Hr HF Hc H=>?_;obtain⟨kb,off,a0,p0,rfl,Hc0,aC,aD⟩:=Kd (b:=b) (j:=0) Hr.out HF.out rfl;have HK:=Lq7 aD;simp only[nzm,naz] at HK;have Hx:=Lq7 hY;have Ht:Hid (Fk (.mk xk xt xl xc xs)=Fk (.mk xk xt xl xc xs)):=Lq7 rfl;obtain⟨tw,aB⟩:∃tw,tw=Fk (.mk xk xt xl xc xs):=⟨_,rfl⟩;replace Ht:Hid (Fk (.mk xk xt xl xc xs)=tw):=Lq7 aB.symm;rw[<-aB] at Hlen Hfl;replace H:=Lq7 (H.out.row aC);rw[show [Nd.mk xk xt xl xc xs].length=1 from rfl] at H |-;clear hY aC aD aB;unfold notW at *;go_enter Tryz.func93,Tryz.ntmps93;have hD:=H.out.fa;have hk:=HK.out _ H.out.kp;simp only[FaA,and_true] at hD;go_wp2_with fail;clear hD hk;generalize World.alloc _ _=W at H |-;exact Iv
theorem Wg(t):∀(l:List Nd) (i j:Nat) (x:Nd),l[j]? = I x->(opPs t i l)[j]? = I (brk (C6 t (i+j) x) (exP x))
 | y::l,i,0,x,h=>by
  rw[opPs];simp at h;rw[h];rfl
 | y::l,i,j+1,x,h=>by
  rw[opPs,List.getElem?_cons_succ,Wg t l (i+1) j x (by simpa using h),show i+1+j=i+(j+1) by omega]
theorem Wh(t):∀(l:List Nd) (i:Nat),(opPs t i l).length=l.length
 | [],_=>rfl
 | _::l,i=>by rw[opPs,lnC,lnC,Wh t l (i+1)]
theorem Yp(t j)(hj:0<j):Aq (G8 t j)=[32]++t++[32]:=by
 unfold G8 opK;rw[if_neg (by omega)];split<;>simp[Aq,pW,sp,Pc.raw]
theorem ex_op(d t)(ht:t.data.toList≠notW)(hz:t.size<=65536)(ln c m)(hm:m.length<=140737488355328)(hY:∀x∈m,Ca 93 d exP x):Ca 93 d exP (.mk 16 t ln c m):=by
 refine Ca.mk1 (y:=Aq (A6 (G8 t.data.toList) 0 (opPs t.data.toList 0 m))) (by rw[exP,if_neg (by decide),if_neg (by decide),if_neg (by decide),if_neg (by decide),if_pos rfl,if_neg ht]) fun F w B b l a cap HL Hfl Hr HF Hc H=>?_;have aH:=Lq7 (fun(j:Nat) (x:Nd) (hj:m[j]? = I x)=>Ty (sep:=G8 t.data.toList) (ps:=opPs t.data.toList 0 m) (j:=j) (x:=brk (C6 t.data.toList j x) (exP x)) (by rw[Wg t.data.toList m 0 j x hj,Nat.zero_add]));have aJ:=Lq7 (fun j=>Ym (G8 t.data.toList) (opPs t.data.toList 0 m) j);have aB:Hid ((opPs t.data.toList 0 m).take m.length=opPs t.data.toList 0 m):=Lq7 (ltL (by rw[Wh];exact nlr _));have Hnd:Hid (∀(j:Nat) (x:Nd),C6 t.data.toList j x=(Fk x&&(!(Gf x==[43])||(decide (0<j)&&(t.toList==[43]))))):=Lq7 fun j x=>by
  unfold C6;rw[if_neg ht,Lq8]
 have htn:(t.toList==[110,111,116])=false:=by
  unfold notW at ht;rw[Lq8]
  simpa using ht
 have hz1:(9223372036854775807<1+t.size)=False:=eq_false (by omega);have hz2:(9223372036854775807<1+t.size+1)=False:=eq_false (by omega);have Hts:Hid (∀j,0<j->Aq (G8 t.data.toList j)=[32]++t.data.toList++[32]):=Lq7 fun j hj=>Yp t.data.toList j hj;have HY:=Lq7 hY;have HK:Hid (∀W,Kp B b w W->True):=Lq7 fun _ _=>trivial;have H:Hid (PG F B b d w (l++Aq (A6 (G8 t.data.toList) 0 ((opPs t.data.toList 0 m).take 0))) [(w.heap.size,#[A C 16,D t,A C ln,A C c,E a m.length cap],27)] [(a,m)] (w.alloc (L #[A C 16,D t,A C ln,A C c,E a m.length cap] 27))):=Lq7 (by rw[List.take_zero];exact H.out.only (n:=1) (h3:=by simp[A6,Aq]));clear hY ht hz;generalize opPs t.data.toList 0 m=ps at aH aJ aB HL Hfl H;go_enter Tryz.func93,Tryz.ntmps93;have hD:=H.out.fa;simp only[FaA,and_true] at hD;go_wp2_with fail;clear hD;generalize World.alloc _ _=W0 at H |-
 go_loopw [116] (fun i wr=>∃j:Nat,i = A C j/\j<=m.length/\Hid (PG F B b d w (l++Aq (A6 (G8 t.data.toList) 0 (ps.take j))) [(w.heap.size,#[A C 16,D t,A C ln,A C c,E a m.length cap],27)] [(a,m)] wr)) (fun i _=>m.length-(intOf i).toNat)
 case atStart=>exact⟨0,rfl,nlz _,H⟩
 case round=>
  obtain⟨j,rfl,hj,H⟩:=hrel;by_cases hjl:j<m.length
  ·cases hx:m[j] with
   | mk xk xt xl xc xs=>
    have aD:m[j]? = I (.mk xk xt xl xc xs):=(by rw[lgE hjl,hx]);have Hx:=Lq7 (HY.out _ (lgM aD));have Hs:=Lq7 (aH.out j _ aD);have aF:=aJ.out (j+1);rw[Hs.out] at aF;have Hlen:Hid ((l++Aq (A6 (G8 t.data.toList) 0 (ps.take j))).length+(Aq (G8 t.data.toList j)++Aq (brk (C6 t.data.toList j (.mk xk xt xl xc xs)) (exP (.mk xk xt xl xc xs)))).length<=1000000000):=Lq7 (by
     have:=HL.out;simp only[lnA] at this aF |-;omega)
    clear aF;have hn:=Hnd.out j (.mk xk xt xl xc xs);rw[show Gf (.mk xk xt xl xc xs)=xt.toList by rw[Lq8];rfl] at hn;obtain⟨kb,off,a1,p1,rfl,Hc1,aM,aN⟩:=Kd (b:=b) Hr.out HF.out aD;replace HK:=Lq7 aN;replace H:=Lq7 (H.out.row aM);obtain⟨lx,aG⟩:∃lx,lx=l++Aq (A6 (G8 t.data.toList) 0 (ps.take j)):=⟨_,rfl⟩;replace Hs:Hid (l++Aq (A6 (G8 t.data.toList) 0 (ps.take (j+1)))=lx++(Aq (G8 t.data.toList j)++Aq (brk (C6 t.data.toList j (.mk xk xt xl xc xs)) (exP (.mk xk xt xl xc xs))))):=Lq7 (by rw[Hs.out,aG,List.append_assoc]);rw[<-aG] at H Hlen;clear aG hx aD aM aN;have aE:j=0\/0<j:=(by omega);rcases aE with rfl|aE
    ·rw[show Aq (G8 t.data.toList 0)=[] from rfl,List.nil_append] at Hs Hlen;simp only[nzm,naz] at HK;cases htw:Fk (.mk xk xt xl xc xs)<;>cases hpl:xt.toList==[43]<;>(have Ht:=Lq7 htw;rw[htw,hpl] at hn;simp only[Bool.false_and,Bool.true_and,Bool.not_true,Bool.not_false,Bool.true_or,Bool.false_or,Bool.and_false,Nat.lt_irrefl,decide_false] at hn;rw[hn] at Hs Hlen;have aC:(xt.toList != [43]) = !(xt.toList==[43]):=rfl;rw[hpl] at aC;simp only[Bool.not_true,Bool.not_false] at aC;clear hn htw;refine goM ?_;exact Iv)
    ·have hj1:decide ((j:Int)>0)=true:=(by simp;omega);rw[Hts.out j aE] at Hs Hlen;cases htw:Fk (.mk xk xt xl xc xs)<;>cases hpl:xt.toList==[43]<;>cases htp:t.toList==[43]<;>(have Ht:=Lq7 htw;rw[htw,hpl,htp] at hn;simp only[Bool.not_true,Bool.not_false,Bool.or_true,Bool.true_or,Bool.false_or,Bool.and_false,aE,decide_true,Bool.and_true] at hn;rw[hn] at Hs Hlen;have aC:(xt.toList != [43]) = !(xt.toList==[43]):=rfl;rw[hpl] at aC;simp only[Bool.not_true,Bool.not_false] at aC;clear hn htw;refine goM ?_;exact Iv)
  ·rw[show j=m.length by omega,aB.out] at H;have Hlen:=HL;refine goM ?_;exact Iv
theorem Kp.tabs{B b w u}(h:Kp B b w u)(hB:B<=b)(t):Kp B b w (u.setCell ⟨b,2,G⟩ t):=⟨h.1.setCell (p:=⟨b,2,G⟩) hB _,h.2.setCell ⟨b,2,G⟩ rfl _⟩
theorem Qu(d):∀(x y:List Nd),Dw d (x++y)=Dw d x++Dw d y
 | [],_=>rfl
 | n::x,y=>by rw[List.cons_append,Dw,Dw,Qu d x y];simp
theorem Sf(d):Aq [tabP d]=List.replicate d 9:=by unfold Aq tabP;simp[Pc.raw]
theorem st_step{d:Nat}{m:List Nd}{j:Nat}{x:Nd}(h:m[j]? = I x):Aq (Dw d (m.take (j+1)))=Aq (Dw d (m.take j))++(List.replicate d 9++(Aq (stP d x)++[10])):=by
 rw[ltA,h,Option.toList_some,Qu,Bg,Dw,Dw,Ch,Bg,Ch];rfl
theorem st_len(d m j):(Aq (Dw d (m.take j))).length<=(Aq (Dw d m)).length:=by
 have h:Dw d m=Dw d (m.take j++m.drop j):=(by rw[List.take_append_drop]);rw[h,Qu,Bg,lnA];omega
theorem Sg(d m)(hm:m.length<=140737488355328)(hY:∀x∈m,Ca 48 d (stP d) x)(F a cap w B b l)(hr:Ac F w a (Au m))(hF:∀x,F x->x<B)(hp:Dg B b d (Lib.byteCells l) w)(hB:B<=w.heap.size)(hlen:l.length+(Aq (Dw d m)).length<=1000000000):
  Calls Tryz.prog 27 #[J (I ⟨b,0,G⟩),E a m.length cap] w (PPut B b d l (Dw d m) w):=by
 have HF:=Lq7 hF;have HR:=Lq7 (fun(W:World) (hk:Kp B b w W)=>hr.kp hF hk);have HY:=Lq7 (fun(x:Nd) (hx:x∈m) (W:World) (l':List UInt8) (v:Value) (hk:Kp B b w W) (hv:A7 F W x v) (hpw:Dg B b d (Lib.byteCells l') W) (hl:l'.length+(Aq (stP d x)).length<=1000000000)=>hY x hx F v W B b l' hv hF hpw (nlt hB hk.size) hl);have Hst:=Lq7 (fun(j:Nat) (x:Nd) (hj:m[j]? = I x)=>st_step (d:=d) hj);have Hln:=Lq7 (fun j=>st_len d m j);have aG:Hid (Dw d (m.take m.length)=Dw d m):=Lq7 (by rw[ltL (nlr _)]);have HB:=Lq7 hB;have hlt:=hp.facts.2.2.2;have Hp0:Hid (Dg B b d (Lib.byteCells (l++Aq (Dw d (m.take 0)))) w/\Kp B b w w):=Lq7 ⟨by rw[List.take_zero,Dw,show Aq []=[] from rfl,List.append_nil];exact hp,Kp.refl _ _ _⟩;have aA:=Lq7 hlen;clear hr hF hY hp hB hlen;go_enter Tryz.func27,Tryz.ntmps27;go_wp2_with fail
 go_loopw [8] (fun i wr=>∃j:Nat,i = A C j/\j<=m.length/\Hid (Dg B b d (Lib.byteCells (l++Aq (Dw d (m.take j)))) wr/\Kp B b w wr)) (fun i _=>m.length-(intOf i).toNat)
 case atStart=>exact⟨0,rfl,nlz _,Hp0⟩
 case round=>
  obtain⟨j,rfl,hj,aB⟩:=hrel;by_cases hjl:j<m.length
  ·have aC:m[j]? = I m[j]:=lgE hjl;generalize m[j]=x at aC;have HYx:=Lq7 (HY.out x (lgM aC));have aM:=Lq7 (Hst.out j x aC);have aE:=Hln.out (j+1);rw[aM.out] at aE;simp only[lnA,List.length_replicate,lnC,lnN] at aE;have aN:=aA.out;obtain⟨xk,xt,xl,xc,xs⟩:=x;obtain⟨kb,off,a1,c1,rfl,hF,hbl,r0,r1,r2,r3,r4,h6,aQ⟩:=(HR.out wr aB.out.2).nodeK aC;have hsz:=aB.out.2.size;have HN:=Lq7 (aIn (heap_alloc_new wr (L #[A C xk,D xt,A C xl,A C xc,E a1 xs.length c1] 27)) (aIn (aB.out.1.alloc (L #[A C xk,D xt,A C xl,A C xc,E a1 xs.length c1] 27)) (aB.out.2.alloc HB.out (L #[A C xk,D xt,A C xl,A C xc,E a1 xs.length c1] 27))));have Hv0:=Lq7 (A7.mk xk xt xl xc c1 aQ h6.out);have Hka:=Lq7 ((Kp.refl B b wr).alloc (nlt HB.out aB.out.2.size) (L #[A C xk,D xt,A C xl,A C xc,E a1 xs.length c1] 27));have HL:=Lq7 (Qt B b d _ _ HN.out.2.1 (nlt HB.out HN.out.2.2.size) (by rw[lnA];omega));have aR:=Lq7 (aIn aE aN);clear aQ h6 aC aE aN hF;go_wp2_with fail;refine HL.out.mono ?_;rintro e w2 ⟨rfl,h2,aF⟩;rw[Sf] at h2;have H2:=Lq7 (aIn (aF.stay HN.out.1 (by decide) (by omega)) (aIn h2 (HN.out.2.2.trans aF)));have Hk2:=Lq7 (Hka.out.trans aF);clear h2 aF HL;obtain⟨q0,q1,q2,q3,q4,q5,-⟩:=Aa H2.out.1;have HC:=Lq7 (HYx.out w2 _ _ H2.out.2.2 (Hv0.out.kp HF.out Hk2.out) H2.out.2.1 (by have:=aR.out;simp only[lnA,List.length_replicate];omega));go_wp2_with fail;refine HC.out.mono ?_;rintro e w3 ⟨rfl,h3,aD⟩;have H3:=Lq7 (aIn h3 (H2.out.2.2.trans aD));clear h3 aD HC q0 q1 q2 q3 q4 q5;have HP:=Lq7 (My (B:=B) (b:=b) (tb:=d) 10 10 rfl H3.out.1 (by have:=aR.out;simp only[lnA,List.length_replicate];omega) (nlt HB.out H3.out.2.size));go_wp2_with fail;refine HP.out.mono ?_;rintro e w4 ⟨rfl,h4,aU⟩;rw[show l++Aq (Dw d (m.take j))++List.replicate d 9++Aq (stP d (.mk xk xt xl xc xs))++[10]=l++Aq (Dw d (m.take (j+1))) by rw[aM.out];simp only[List.append_assoc]] at h4;have H4:=Lq7 (aIn h4 (H3.out.2.trans aU));clear h4 aU HP;go_wp2_with fail;go_roundw
   case rel=>exact⟨j+1,by go_num,by omega,H4⟩
   case measure=>simp only[intOf];omega
  ·obtain rfl:j=m.length:=(by omega);have H2:=Lq7 aB.out;rw[aG.out] at H2;go_wp2_with fail
   go_end0
   exact⟨rfl,H2.out.1,H2.out.2⟩
theorem Abn(d k t ln c m)(hm:m.length<=140737488355328)(hd:d<=1000)(hY:∀x∈m,Ca 48 (d+1) (stP (d+1)) x):Ca 94 d (blP d) (.mk k t ln c m):=by
 intro F v w B b l hn hF hp hB hlen;obtain⟨a,cap,rfl,hr⟩:=hn.open;have hlt:=hp.facts.2.2.2;have aV:=hp.facts.2.2.1;have H0:=Lq7 (aIn (heap_alloc_new w (L #[A C k,D t,A C ln,A C c,E a m.length cap] 27)) (aIn (hp.alloc (L #[A C k,D t,A C ln,A C c,E a m.length cap] 27)) ((Kp.refl B b w).alloc hB (L #[A C k,D t,A C ln,A C c,E a m.length cap] 27))));have aH:Aq (blP d (.mk k t ln c m))=[123,10]++(Aq (Dw (d+1) m)++(List.replicate d 9++[125])):=by
  rw[blP,Ch,Ch,Bg,Ch];rfl
 have HS:=Lq7 (fun(W:World) (l':List UInt8) (hk:Kp B b w W) (hpw:Dg B b ((d+1:Nat):Int) (Lib.byteCells l') W) (hl:l'.length+(Aq (Dw (d+1) m)).length<=1000000000)=>Sg (d+1) m hm hY F a cap W B b l' (hr.kp hF hk) hF hpw (nlt hB hk.size) hl);have HB:=Lq7 hB;rw[aH] at hlen;simp only[lnA,List.length_replicate,lnC,lnN] at hlen;have aA:=Lq7 hlen;have Hfl:=Lq7 aH;have aW:=Lq7 (Pb ⟨#[123,10]⟩ H0.out.2.1 (by show _+2<=_;omega) (nlt HB.out H0.out.2.2.size));clear hn hr hF hY hp hB hlen aH;go_enter Tryz.func94,Tryz.ntmps94;go_wp2_with fail;refine aW.out.mono ?_;rintro e w1 ⟨rfl,h1,aJ⟩;have H1:=Lq7 (aIn (aJ.stay H0.out.1 (by decide) (by omega)) (aIn h1 (H0.out.2.2.trans aJ)));clear h1 aJ aW;obtain⟨q0,q1,q2,q3,q4,q5,-⟩:=Aa H1.out.1;obtain⟨u0,u1,-,u2⟩:=H1.out.2.1.facts;have hne:w.heap.size≠b:=(by omega);have H2:Hid (Dg B b ((d+1:Nat):Int) (Lib.byteCells (l++[123,10])) (w1.setCell ⟨b,2,G⟩ (A C ((d:Int)+1)))/\Kp B b w (w1.setCell ⟨b,2,G⟩ (A C ((d:Int)+1)))):=Lq7 ⟨H1.out.2.1.tabs _,H1.out.2.2.tabs aV _⟩;have HC:=Lq7 (HS.out _ _ H2.out.2 H2.out.1 (by have:=aA.out;simp only[lnA,lnC,lnN];omega));have hd1:(d:Int)<=1000:=(by omega);go_wp2_with fail;refine HC.out.mono ?_;rintro e w3 ⟨rfl,h3,aD⟩;have H3:=Lq7 (aIn h3 (H2.out.2.trans aD));clear h3 aD HC q0 q1 q2 q3 q4 q5 u0 u1 u2;obtain⟨u0,u1,-,u2⟩:=H3.out.1.facts;rw[show((d+1:Nat):Int)=(d:Int)+1 by omega] at u0;have hs1:(d:Int)+1 - 1=d:=(by omega);have H4:Hid (Dg B b (d:Int) (Lib.byteCells (l++[123,10]++Aq (Dw (d+1) m))) (w3.setCell ⟨b,2,G⟩ (A C (d:Int)))/\Kp B b w (w3.setCell ⟨b,2,G⟩ (A C (d:Int)))):=Lq7 ⟨H3.out.1.tabs _,H3.out.2.tabs aV _⟩;have HL:=Lq7 (Qt B b d _ _ H4.out.1 (nlt HB.out H4.out.2.size) (by have:=aA.out;simp only[lnA,lnC,lnN];omega));go_wp2_with fail;refine HL.out.mono ?_;rintro e w5 ⟨rfl,h5,aY⟩;rw[Sf] at h5;have H5:=Lq7 (aIn h5 (H4.out.2.trans aY));clear h5 aY HL u0 u1 u2;have aZ:=Lq7 (My (B:=B) (b:=b) (tb:=d) 125 125 rfl H5.out.1 (by have:=aA.out;simp only[lnA,List.length_replicate,lnC,lnN];omega) (nlt HB.out H5.out.2.size));go_wp2_with fail;refine aZ.out.mono ?_;rintro e w6 ⟨rfl,h6,bA⟩;have H6:=Lq7 (aIn h6 (H5.out.2.trans bA));clear h6 bA aZ;go_wp2_with fail
 go_end0
 refine⟨rfl,?_,H6.out.2⟩;rw[Hfl.out];have h9:=H6.out.1;simp only[List.append_assoc] at h9 |-;exact h9
theorem fi_one(x):fiP [x]=exP x:=by rw[fiP]
theorem Abo(d t ln c x)(hX:Ca 93 d exP x):Ca 48 d (stP d) (.mk 2 t ln c [x]):=by
 have aA:Aq (stP d (.mk 2 t ln c [x]))=Aq (arP (.mk 2 t ln c [x]))++[59]:=by
  rw[stP,if_pos rfl,Bg];rfl
 have hN:=Se d 2 t ln c x hX;obtain⟨xk,xt,xl,xc,xs⟩:=x;refine Ca.mkW aA fun F w B b l a cap Hlen Hfl hr Hc H=>?_;obtain⟨kb,off,a0,p0,rfl,aH,aC,aB⟩:=Kd (j:=0) hr H.out.hF rfl;have HK:=Lq7 fun W (hk:Kp B b w W)=>aB W hk;simp only[nzm,naz] at HK;have Hx:=Lq7 hN;have H:=Lq7 (PG.alloc2 H.out #[A C 2,D t,A C ln,A C c,E (I ⟨kb,off,G⟩) 1 cap] #[A C xk,D xt,A C xl,A C xc,E a0 xs.length p0] 27 27);rw[show [Nd.mk xk xt xl xc xs].length=1 from rfl];clear hX hN hr aA aC aB;go_enter Tryz.func48,Tryz.ntmps48;have hD:=H.out.fa;have hk:=HK.out _ (Kp.refl _ _ _);simp only[FaA,List.nil_append,and_true] at hD;go_wp2_with fail;clear hD hk;simp only[List.nil_append] at H;generalize World.alloc _ _=W at H |-;exact Iv
theorem st_do(d t ln c x)(hX:Ca 93 d exP x):Ca 48 d (stP d) (.mk 3 t ln c [x]):=by
 have aA:Aq (stP d (.mk 3 t ln c [x]))=Aq (exP x)++[59]:=by
  rw[stP,if_neg (by decide),if_pos rfl,Bg,fi_one];rfl
 obtain⟨xk,xt,xl,xc,xs⟩:=x;refine Ca.mkW aA fun F w B b l a cap Hlen Hfl hr Hc H=>?_;obtain⟨kb,off,a0,p0,rfl,aH,aC,aB⟩:=Kd (j:=0) hr H.out.hF rfl;have HK:=Lq7 fun W (hk:Kp B b w W)=>aB W hk;simp only[nzm,naz] at HK;have Hx:=Lq7 hX;have H:=Lq7 (PG.alloc2 (H.out.row aC) #[A C 3,D t,A C ln,A C c,E (I ⟨kb,off,G⟩) 1 cap] #[A C xk,D xt,A C xl,A C xc,E a0 xs.length p0] 27 27);rw[show [Nd.mk xk xt xl xc xs].length=1 from rfl];clear hX hr aA aC aB;go_enter Tryz.func48,Tryz.ntmps48;have hD:=H.out.fa;have hk:=HK.out _ (Kp.refl _ _ _);simp only[FaA,List.nil_append,and_true] at hD;go_wp2_with fail;clear hD hk;simp only[List.nil_append] at H;generalize World.alloc _ _=W at H |-;exact Iv
theorem st_for(d t ln c x y)(hX:Ca 93 d exP x)(hY:Ca 94 d (blP d) y):Ca 48 d (stP d) (.mk 4 t ln c [x,y]):=by
 have aA:Aq (stP d (.mk 4 t ln c [x,y]))=[102,111,114,32]++t.data.toList++[32,105,110,32]++(Aq (exP x)++([32]++Aq (blP d y))):=by
  rw[stP,if_neg (by decide),if_neg (by decide),if_pos rfl,Bg,Bg,fiP,Ch,show laP d [x,y]=blP d y from I9 d [x] y];simp[Aq,pW,sp,Pc.raw,forW,inW]
 obtain⟨xk,xt,xl,xc,xs⟩:=x;obtain⟨yk,yt,yl,yc,ys⟩:=y;refine Ca.mkW aA fun F w B b l a cap Hlen Hfl hr Hc H=>?_;obtain⟨kb,off,a0,p0,rfl,aH,aC,aB⟩:=Kd (j:=0) hr H.out.hF rfl;obtain⟨_,_,a1,p1,he,aN,aE,aF⟩:=Kd (j:=1) hr H.out.hF rfl;cases he;have HK:=Lq7 fun W (hk:Kp B b w W)=>aIn (aB W hk) (aF W hk);simp only[nzm,Nat.one_mul,naz] at HK;have Hx:=Lq7 hX;have Hy:=Lq7 hY;have H:=Lq7 (PG.alloc2 ((H.out.row aC).row aE) #[A C 4,D t,A C ln,A C c,E (I ⟨kb,off,G⟩) 2 cap] #[A C yk,D yt,A C yl,A C yc,E a1 ys.length p1] 27 27);rw[show [Nd.mk xk xt xl xc xs,.mk yk yt yl yc ys].length=2 from rfl];clear hX hY hr aA aC aB aE aF;have htz:t.size<=1000000000:=(by have:=Hlen.out;simp only[lnA,lnC,lnN] at this;rw[Al] at this;omega);have aJ:(9223372036854775807<4+t.size)=False:=eq_false (by omega);have aM:(9223372036854775807<4+t.size+4)=False:=eq_false (by omega);go_enter Tryz.func48,Tryz.ntmps48;have hD:=H.out.fa;have hk:=HK.out _ (Kp.refl _ _ _);simp only[FaA,List.nil_append,and_true] at hD;go_wp2_with fail;clear hD hk;simp only[List.nil_append] at H;generalize World.alloc _ _=W at H |-;exact Iv
theorem st_if2(d t ln c x y)(hX:Ca 93 d exP x)(hY:Ca 94 d (blP d) y):Ca 48 d (stP d) (.mk 5 t ln c [x,y]):=by
 have aA:Aq (stP d (.mk 5 t ln c [x,y]))=[105,102,32]++(Aq (exP x)++([32]++(Aq (blP d y)))):=by
  rw[stP,if_neg (by decide),if_neg (by decide),if_neg (by decide),if_pos rfl,fiP,ifP,ifP,ifP,if_pos rfl,if_neg (by omega),if_pos rfl];simp[Aq,pW,sp,Pc.raw,ifW]
 obtain⟨xk,xt,xl,xc,xs⟩:=x;obtain⟨yk,yt,yl,yc,ys⟩:=y;refine Ca.mkW aA fun F w B b l a cap Hlen Hfl hr Hc H=>?_;obtain⟨kb,off,a0,p0,rfl,aH,aC,aB⟩:=Kd (j:=0) hr H.out.hF rfl;obtain⟨_,_,a1,p1,he,aN,aE,aF⟩:=Kd (j:=1) hr H.out.hF rfl;cases he;have HK:=Lq7 fun W (hk:Kp B b w W)=>aIn (aB W hk) (aF W hk);simp only[nzm,Nat.one_mul,naz] at HK;have Hx:=Lq7 hX;have Hy:=Lq7 hY;have H:=Lq7 (PG.alloc2 ((H.out.row aC).row aE) #[A C 5,D t,A C ln,A C c,E (I ⟨kb,off,G⟩) 2 cap] #[A C yk,D yt,A C yl,A C yc,E a1 ys.length p1] 27 27);rw[show [Nd.mk xk xt xl xc xs,.mk yk yt yl yc ys].length=2 from rfl];clear hX hY hr aA aC aB aE aF;go_enter Tryz.func48,Tryz.ntmps48;have hD:=H.out.fa;have hk:=HK.out _ (Kp.refl _ _ _);simp only[FaA,List.nil_append,and_true] at hD;go_wp2_with fail;clear hD hk;simp only[List.nil_append] at H;generalize World.alloc _ _=W at H |-;exact Iv
theorem st_if3(d t ln c x y z)(hX:Ca 93 d exP x)(hY:Ca 94 d (blP d) y)(hZ:Ca 94 d (blP d) z):Ca 48 d (stP d) (.mk 5 t ln c [x,y,z]):=by
 have aA:Aq (stP d (.mk 5 t ln c [x,y,z]))=[105,102,32]++(Aq (exP x)++([32]++(Aq (blP d y)++([32,101,108,115,101,32]++Aq (blP d z))))):=by
  rw[stP,if_neg (by decide),if_neg (by decide),if_neg (by decide),if_pos rfl,fiP,ifP,ifP,ifP,ifP,if_pos rfl,if_neg (by omega),if_pos rfl,if_neg (by omega),if_neg (by omega)];simp[Aq,pW,sp,Pc.raw,ifW,elseW]
 obtain⟨xk,xt,xl,xc,xs⟩:=x;obtain⟨yk,yt,yl,yc,ys⟩:=y;obtain⟨zk,zt,zl,zc,zs⟩:=z;refine Ca.mkW aA fun F w B b l a cap Hlen Hfl hr Hc H=>?_;obtain⟨kb,off,a0,p0,rfl,aH,aC,aB⟩:=Kd (j:=0) hr H.out.hF rfl;obtain⟨_,_,a1,p1,he,aN,aE,aF⟩:=Kd (j:=1) hr H.out.hF rfl;cases he;obtain⟨_,_,a2,p2,he,Hc2,aQ,aR⟩:=Kd (j:=2) hr H.out.hF rfl;cases he;have HK:=Lq7 fun W (hk:Kp B b w W)=>aIn (aB W hk) (aIn (aF W hk) (aR W hk));simp only[nzm,Nat.one_mul,naz] at HK;have Hx:=Lq7 hX;have Hy:=Lq7 hY;have Hz:=Lq7 hZ;have H:=Lq7 (PG.alloc2 (((H.out.row aC).row aE).row aQ) #[A C 5,D t,A C ln,A C c,E (I ⟨kb,off,G⟩) 3 cap] #[A C zk,D zt,A C zl,A C zc,E a2 zs.length p2] 27 27);rw[show [Nd.mk xk xt xl xc xs,.mk yk yt yl yc ys,.mk zk zt zl zc zs].length=3 from rfl];clear hX hY hZ hr aA aC aB aE aF aQ aR;go_enter Tryz.func48,Tryz.ntmps48;have hD:=H.out.fa;have hk:=HK.out _ (Kp.refl _ _ _);simp only[FaA,List.nil_append,and_true] at hD;go_wp2_with fail;clear hD hk;simp only[List.nil_append] at H;generalize World.alloc _ _=W at H |-;exact Iv
theorem st_rule(d t ln c ps y)(hm:ps.length<=140737488355328)(hPs:∀x∈ps,Ca 96 d paP x)(hY:Ca 94 d (blP d) y):Ca 48 d (stP d) (.mk 6 t ln c (ps++[y])):=by
 have aA:Aq (stP d (.mk 6 t ln c (ps++[y])))=[114,117,108,101,32]++t.data.toList++[40]++(Aq (A6 En 0 (ps.map paP))++([41,32]++Aq (blP d y))):=by
  rw[stP,if_neg (by decide),if_neg (by decide),if_neg (by decide),if_neg (by decide),if_pos rfl,List.dropLast_concat,I9,Bg,Bg,Bg];simp[Aq,pW,pS,sp,Pc.raw,ruleW]
 obtain⟨yk,yt,yl,yc,ys⟩:=y;refine Ca.mkW aA fun F w B b l a cap Hlen Hfl hr Hc H=>?_;obtain⟨kb,off,a0,p0,rfl,aH,aC,aB⟩:=Kd (j:=ps.length) (k:=yk) (t:=yt) (l0:=yl) (c:=yc) (xs:=ys) hr H.out.hF (by simp);have HK:=Lq7 fun W (hk:Kp B b w W)=>aB W hk;have Hx:=Lq7 hY;have He:=Lq7 egPa;have Hps:=Lq7 hPs;have Hpr:=Lq7 hr.init;have Hm:=Lq7 hm;have H:=Lq7 (PG.alloc2 (H.out.row aC) #[A C 6,D t,A C ln,A C c,E (I ⟨kb,off,G⟩) (ps.length+1:Nat) cap] #[A C yk,D yt,A C yl,A C yc,E a0 ys.length p0] 27 27);have aU:(ps++[Nd.mk yk yt yl yc ys]).length=ps.length+1:=(by simp);have hcap:=Hc.out (by decide);rw[aU] at hcap |-;have hli:¬((ps.length:Int)+1<=ps.length):=(by omega);clear hY hPs hr aA aC aB aU;have htz:t.size<=1000000000:=(by have:=Hlen.out;simp only[lnA,lnC,lnN] at this;rw[Al] at this;omega);have aJ:(9223372036854775807<5+t.size)=False:=eq_false (by omega);have aM:(9223372036854775807<5+t.size+1)=False:=eq_false (by omega);go_enter Tryz.func48,Tryz.ntmps48;have hD:=H.out.fa;have hk:=HK.out _ (Kp.refl _ _ _);simp only[FaA,List.nil_append,and_true] at hD;go_wp2_with fail;clear hD hk;simp only[List.nil_append] at H;generalize World.alloc _ _=W at H |-;exact Iv
theorem N8(d):∀(m:Nat) (n:Nd) (dd:Nat),ndH n<=m->okX dd n->Ci 65536 65540 n->Ca 93 d exP n
 | 0,n,_,h,_,_=>by have:=F7 n;omega
 | m+1,.mk k t a0 b0 l,dd,hm,h,ho=>by
  have hh:ndH (.mk k t a0 b0 l)=ndHs l+2:=(by rw[ndH]);rw[hh] at hm;have hkid:∀x∈l,ndH x<=m:=fun x hx=>(by have:=ndH_mem hx;omega);rw[Ci] at ho;obtain⟨hz,hlen,-,-,hks⟩:=ho;have hko:=ndOks_iff.1 hks;rw[okX] at h;by_cases h9:k=9
  ·subst h9;exact ex_name d t a0 b0 l
  rw[if_neg h9] at h;by_cases h10:k=10
  ·subst h10;exact ex_num d t a0 b0 l
  rw[if_neg h10] at h;by_cases h11:k=11
  ·subst h11;exact ex_text d t a0 b0 l hz
  rw[if_neg h11] at h;by_cases h12:k=12
  ·subst h12;rw[if_pos rfl] at h;exact ex_list d t a0 b0 l (by omega) fun x hx=>N8 d m x (dd - 1) (hkid x hx) (Kf h.2.2 hx) (hko x hx)
  rw[if_neg h12] at h;by_cases h13:k=13
  ·subst h13;rw[if_pos rfl] at h;exact ex_dict d t a0 b0 l (by omega) fun x hx=>N8 d m x (dd - 1) (hkid x hx) ((N5 h.2.2).2 x hx) (hko x hx)
  rw[if_neg h13] at h;by_cases h14:k=14
  ·subst h14;rw[if_pos rfl] at h;refine ex_call d t a0 b0 l (by omega) fun x hx=>?_;have hox:=Ml h.2.2 hx;have hxo:=hko x hx;have hxm:=hkid x hx;obtain⟨k2,t2,c2,d2,l2⟩:=x;rw[okA] at hox;obtain⟨rfl,-,hl2,hx2⟩:=hox;obtain⟨y,rfl⟩:=G4 hl2;rw[Ci,Dj] at hxo;rw[Ea] at hx2;rw[ndH,ndHs] at hxm;exact Se d 15 t2 c2 d2 y (N8 d m y (dd - 1) (by omega) hx2.1 hxo.2.2.2.2.1)
  rw[if_neg h14] at h;by_cases h16:k=16
  ·subst h16;rw[if_pos rfl] at h;by_cases hn:t.data.toList=notW
   ·rw[if_pos hn,if_pos hn] at h;obtain⟨x,rfl⟩:=G4 h.1.2;obtain rfl:t=bs notW:=bytes_ext hn;exact ex_not d a0 b0 x (N8 d m x _ (hkid x (by simp)) (Mt h.2 (by simp)) (hko x (by simp)))
   ·exact ex_op d t hn hz a0 b0 l (by omega) fun x hx=>N8 d m x _ (hkid x hx) (Mt h.2 hx) (hko x hx)
  ·rw[if_neg h16] at h;exact h.elim
theorem Lo{d dd n}(h:okX dd n)(ho:Ci 65536 65540 n):Ca 93 d exP n:=N8 d (ndH n) n dd (nlr _) h ho
theorem put_st:∀(m:Nat) (n:Nd) (dd d:Nat),ndH n<=m->d+dd<=60->okS dd n->Ci 65536 65540 n->Ca 48 d (stP d) n
 | 0,n,_,_,h,_,_,_=>by have:=F7 n;omega
 | m+1,.mk k t a0 b0 l,dd,d,hm,hd,h,ho=>by
  have hh:ndH (.mk k t a0 b0 l)=ndHs l+2:=(by rw[ndH]);rw[hh] at hm;have hkid:∀x∈l,ndH x<=m:=fun x hx=>(by have:=ndH_mem hx;omega);rw[Ci] at ho;obtain⟨hz,hlen,-,-,hks⟩:=ho;have hko:=ndOks_iff.1 hks;have hbl:∀x∈l,okB dd x->Ca 94 d (blP d) x:=fun x hx hox=>by
   have hxo:=hko x hx;have hxm:=hkid x hx;obtain⟨k2,t2,c2,d2,l2⟩:=x;rw[okB] at hox;obtain⟨rfl,ht2,hd1,hs2⟩:=hox;rw[Ci] at hxo;rw[ndH] at hxm;have hko2:=ndOks_iff.1 hxo.2.2.2.2;exact Abn d 8 t2 c2 d2 l2 (by omega) (by omega) fun y hy=>put_st m y (dd - 1) (d+1) (by have:=ndH_mem hy;omega) (by omega) (Kg hs2 hy) (hko2 y hy)
  rw[okS] at h;by_cases h2:k=2
  ·subst h2;rw[if_pos rfl] at h;obtain⟨hn,hl,hx⟩:=h;obtain⟨x,rfl⟩:=G4 hl;rw[Ea] at hx;exact Abo d t a0 b0 x (Lo hx.1 (hko x (by simp)))
  rw[if_neg h2] at h;by_cases h3:k=3
  ·subst h3;rw[if_pos rfl] at h;obtain⟨ht,hl,hk,hx⟩:=h;obtain⟨x,rfl⟩:=G4 hl;rw[Ea] at hx;exact st_do d t a0 b0 x (Lo hx.1 (hko x (by simp)))
  rw[if_neg h3] at h;by_cases h4:k=4
  ·subst h4;rw[if_pos rfl] at h;obtain⟨hn,hl,hi⟩:=h;obtain⟨x,y,rfl⟩:=Jq hl;rw[D9,D9,if_pos rfl,if_neg (by omega)] at hi;exact st_for d t a0 b0 x y (Lo hi.1 (hko x (by simp))) (hbl y (by simp) hi.2.1)
  rw[if_neg h4] at h;by_cases h5:k=5
  ·subst h5;rw[if_pos rfl] at h;obtain⟨ht,hl,hi⟩:=h;rcases hl with hl|hl
   ·obtain⟨x,y,rfl⟩:=Jq hl;rw[D9,D9,if_pos rfl,if_neg (by omega)] at hi;exact st_if2 d t a0 b0 x y (Lo hi.1 (hko x (by simp))) (hbl y (by simp) hi.2.1)
   ·obtain⟨x,y,z,rfl⟩:=Ur hl;rw[D9,D9,D9,if_pos rfl,if_neg (by omega),if_neg (by omega)] at hi;exact st_if3 d t a0 b0 x y z (Lo hi.1 (hko x (by simp))) (hbl y (by simp) hi.2.1) (hbl z (by simp) hi.2.2.1)
  rw[if_neg h5] at h;by_cases h6:k=6
  ·subst h6;rw[if_pos rfl] at h;obtain⟨hn,hps,hla⟩:=h;have hne:l≠[]:=(by rintro rfl;rw[okLa] at hla;exact hla);obtain⟨ps,b,rfl⟩:=last_eq hne;rw[List.dropLast_concat] at hps;rw[lnA] at hlen;refine st_rule d t a0 b0 ps b (by omega) (fun y hy=>Abl (hps y hy) fun x hx hox=>?_) (hbl b (by simp) (Li hla));have hyo:=hko y (by simp[hy]);obtain⟨k2,t2,c2,d2,l2⟩:=y;rw[Ci] at hyo;exact Lo hox (ndOks_iff.1 hyo.2.2.2.2 x hx)
  ·rw[if_neg h6] at h;exact h.elim
theorem put_stA{n}(h:okS 60 n)(ho:Ci 65536 65540 n):Ca 48 0 (stP 0) n:=put_st (ndH n) n 60 0 (nlr _) (by omega) h ho
theorem Yq(p a cap w):Calls Tryz.prog 27 #[p,E a 0 cap] w (fun e w'=>e = .returned (.tuple #[])/\w'=w):=by
 go_enter Tryz.func27,Tryz.ntmps27;go_wp2_with fail
 go_loopw [8] (fun i wr=>i = A C 0/\wr=w) (fun _ _=>0)
 case atStart=>exact⟨rfl,rfl⟩
 case round=>
  obtain⟨rfl,rfl⟩:=hrel;go_wp2_with fail
  go_end0
  exact⟨rfl,rfl⟩
def PPrn(s:List UInt8)(w:World)(e:Ending)(w':World):Prop:=Below w.heap.size w w'/\match readL s with
 | some (.ok _)=>∃o:ByteArray,e = .returned (.tuple #[D o,A C 0])/\o.data.toList=s
 | some (.error x)=>e = .returned (.tuple #[D ⟨#[]⟩,A C x.1])
 | none=>True
theorem Wi(l B b w)(hB:B<=w.heap.size)(h:(l≠[]/\Dg B b 0 (Lib.byteCells l) w)\/(l=[]/\∃p,w.heap[b]? = I (L #[p,E G 0 0,A C 0] 93 (0,0)))):
  Calls Tryz.prog 28 #[J (I ⟨b,0,G⟩)] w fun e w'=>e = .returned (D ⟨l.toArray⟩)/\Below B w w':=by
 rcases h with⟨h0,h⟩|⟨rfl,p,h⟩
 ·exact Aa5 l h h0
 ·refine(Qk p h).mono ?_;rintro e w' ⟨rfl,hb⟩;exact⟨rfl,hb.mono hB⟩
theorem st_ne{d m}(h:m≠[]):Aq (Dw d m)≠[]:=by
 cases m with
 | nil=>exact absurd rfl h
 | cons x r=>
  intro e;have:(Aq (Dw d (x::r))).length=0:=(by rw[e];rfl);rw[Dw,Ch,Bg,Ch,lnA,lnA,lnA] at this;have h1:nl.raw.length=1:=rfl;omega
theorem prt_any(F kids ln c v w)(hn:A7 F w (.mk 1 ⟨#[]⟩ ln c kids) v)(hF:∀x,F x->x<w.heap.size)(hok:Gi 60 kids)(hko:Dj 65536 65540 kids)(hlen:kids.length<=65540)(hP:Ms w)(hsz:(printL kids).length<=1000000000)(hne:readL (printL kids)≠G):
  Calls Tryz.prog 10 #[v] w (PPrn (printL kids) w):=by
 obtain⟨a,cap,rfl,hr⟩:=hn.open;have aE:=Cn w 1 ⟨#[]⟩ ln c a kids.length cap;have aF:=ndOks_iff.1 hko;have HA:=Lq7 (Ib _ egS F a cap kids _ (by omega) (hr.below aE) (hP.below aE) fun x hx=>mayS_any (Kg hok hx) (aF x hx));have H0:=Lq7 (aIn (heap_alloc_new w (L #[A C 1,D ⟨#[]⟩,A C ln,A C c,E a kids.length cap] 27)) aE);unfold bxN at HA H0;have HP:=Lq7 hP;have aG:=Lq7 hne;have Hz:Hid ((⟨(printL kids).toArray⟩:ByteArray).size<=9223372036854775807):=Lq7 (by show(printL kids).toArray.size<=_;rw[List.size_toArray];omega)
 -- what the page's methods do
 have HS:Hid (∀w1:World,Below w.heap.size w w1->Calls Tryz.prog 27 #[J (I ⟨w1.heap.size,0,G⟩),E a kids.length cap] (w1.alloc (L #[J G,E G 0 0,A C 0] 93)) fun e w2=>e = .returned (.tuple #[])/\Below w1.heap.size w1 w2/\w1.heap.size<w2.heap.size /\
   Calls Tryz.prog 28 #[J (I ⟨w1.heap.size,0,G⟩)] w2 fun e w3=>e = .returned (D ⟨(printL kids).toArray⟩)/\Below w1.heap.size w2 w3):=Lq7 fun w1 aA=>by
  have hsz1:(w1.alloc (L #[J G,E G 0 0,A C 0] 93)).heap.size=w1.heap.size+1:=(by simp);have aB:Below w1.heap.size w1 (w1.alloc (L #[J G,E G 0 0,A C 0] 93)):=(bRf _ _).alloc (nlr _) _;by_cases hk:kids=[]
  ·have hl0:kids.length=0:=(by rw[hk];rfl);rw[hl0];refine(Yq _ a cap _).mono ?_;rintro e w2 ⟨rfl,rfl⟩;refine⟨rfl,aB,by omega,Wi _ _ _ _ (by omega) (.inr ⟨by rw[hk];rfl,J G,heap_alloc_new w1 _⟩)⟩
  ·refine(Sg 0 kids (by omega) (fun x hx=>put_stA (Kg hok hx) (aF x hx)) F a cap _ w1.heap.size w1.heap.size [] ((hr.below aA).below aB) (fun x hx=>nll (hF x hx) aA.size) (Dg.fresh w1) (by omega) (by rw[lnN,Nat.zero_add];exact hsz)).mono ?_;rintro e w2 ⟨rfl,h2,aM⟩;rw[List.nil_append] at h2;have hs2:=aM.size;exact⟨rfl,aB.trans aM.1,by omega,Wi _ _ _ _ (by omega) (.inl ⟨st_ne hk,h2⟩)⟩
 generalize hpl:printL kids=pl at HS aG Hz |-;clear hn hF hok hko hlen hP hsz hr aF aE hne hpl;go_enter Tryz.func10,Tryz.ntmps10;go_wp2_with fail;refine HA.out.mono ?_;rintro e w1 ⟨rfl,aA⟩;have H1:=Lq7 (aIn (stays H0.out.1 aA) (H0.out.2.trans (aA.mono H0.out.2.size)));have hlt:w.heap.size<w1.heap.size:=here H1.out.1;have aB:Below w1.heap.size w1 (w1.alloc (L #[J G,E G 0 0,A C 0] 93)):=(bRf _ _).alloc (nlr _) _;obtain⟨q0,q1,q2,q3,q4,q5,-⟩:=Aa (stays H1.out.1 aB);have HC:=Lq7 (HS.out w1 H1.out.2);clear aA HS aB;go_wp2_with fail;refine HC.out.mono ?_;rintro e w2 ⟨rfl,aH,hl2,aC⟩;have H2:=Lq7 (aIn (stays H1.out.1 aH) (H1.out.2.trans (aH.mono H1.out.2.size)));have aD:=Lq7 aC;clear aC HC q0 q1 q2 q3 q4 q5;go_wp2_with fail;refine aD.out.mono ?_;rintro e w3 ⟨rfl,aN⟩;have H3:=Lq7 (H2.out.2.trans (aN.mono (Nat.le_of_lt hlt)));clear aN aD aH hl2;have HR:=Lq7 (Qo ⟨pl.toArray⟩ w3 Hz.out (HP.out.below H3.out).1 aG.out);go_wp2_with fail;refine HR.out.mono ?_;rintro e w4 ⟨aQ,hq⟩;have H4:=Lq7 (H3.out.trans (aQ.mono H3.out.size));clear HR aQ;cases hrd:readL pl with
 | none=>exact absurd hrd aG.out
 | some r=>
  cases r with
  | error x=>
   rw[show readL (⟨pl.toArray⟩:ByteArray).data.toList=I (.error x) from hrd] at hq;subst hq;have aR:=Tq hrd;have aJ:=Lq7 hrd;clear hrd;unfold zeroNode;obtain⟨x1,x2,x3⟩:=x;have aR:x1≠0:=aR;go_wp2_with fail;refine bodyPost_ret (v:=.tuple #[D ⟨#[]⟩,A C x1]) (by simp[results,Tryz.results10,go_sem]) rfl ?_;refine⟨(H4.out.alloc H4.out.size _).alloc (by have:=H4.out.size;simp;omega) _,?_⟩;rw[aJ.out]
  | ok n=>
   rw[show readL (⟨pl.toArray⟩:ByteArray).data.toList=I (.ok n) from hrd] at hq;obtain⟨v2,rfl,aU⟩:=hq;obtain⟨nk,nt,nl2,nc,nks⟩:=n;obtain⟨a2,cap2,rfl,-⟩:=aU.open;have aJ:=Lq7 hrd;clear aU hrd;go_wp2_with fail;refine bodyPost_ret (v:=.tuple #[D ⟨pl.toArray⟩,A C 0]) (by simp[results,Tryz.results10,go_sem]) rfl ?_;refine⟨(H4.out.alloc H4.out.size _).alloc (by have:=H4.out.size;simp;omega) _,?_⟩;rw[aJ.out];exact⟨_,rfl,rfl⟩
end Go.Proofs.YtlbbbapiklendaaGreatDoor
