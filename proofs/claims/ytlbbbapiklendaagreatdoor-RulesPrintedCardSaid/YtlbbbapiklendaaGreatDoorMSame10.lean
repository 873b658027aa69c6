/-
  The walk of the document's Same at nodes that are the same but for places:yes. (And what it stands on.)
-/
import Derived.Test.YtlbbbapiklendaaGreatDoorMLoadW
namespace Go.Proofs.YtlbbbapiklendaaGreatDoor
open Go.IntKind renaming i64->B
open Go.Value renaming int->A,string->C,slice->E,pointer->J,agg->M,bool->K
open Go.Obj renaming cells->G
open Option renaming some->I,none->H
open Go Go.RowKit
open List renaming getElem?_eq_getElem->lgE,mem_of_getElem? -> lgM,length_cons->lnC,length_nil->lnN,length_append->lnA,take_of_length_le->ltL
open Nat renaming le_refl->nlr,zero_le->nlz,zero_mul->nzm,add_zero->naz
open Go.Lib renaming hid->Lq7,toList_data->Lq8
open Go.Act renaming put->aP
open And renaming intro->aIn
open Go.RowKit.Below renaming refl->bRf
open Bool renaming and_eq_true->bAt
set_option maxRecDepth 100000
set_option maxHeartbeats 16000000
theorem eqPlace(a b a' b' w):(binOp .eql 24 (M #[A B a,A B b]) (M #[A B a',A B b'])).run Tryz.prog w = .ok (K (a==a'&&b==b')) w:=by
 have hS:Tryz.prog.underlying 24=I (.struct (Tryz.prog.fieldsOf 24)):=(by kernel_rfl);have hp:Tryz.prog.stoodInHeld 24=false:=(by kernel_rfl);have u3:=Tryz.underlying3;have a3:∀w,(isAgg 3).run Tryz.prog w = .ok false w:=fun w=>(by kernel_rfl);have z3:∀w,(Go.sizeOf 3).run Tryz.prog w = .ok 1 w:=fun w=>(by kernel_rfl);rw[run_eql_struct,show(10000:Nat)=9999+1 from rfl,run_equalIn_agg w 9999 24 _ _ hS hp];simp only[Program.fieldsOf,Tryz.underlying24];go_simp;cases h1:(a==a')<;>cases h2:(b==b')<;>simp_all
theorem Xb(a b w):(binOp .neq 24 (M #[A B a,A B b]) (M #[A B a,A B b])).run Tryz.prog w = .ok (K false) w:=by
 have h:=eqPlace a b a b w;rw[run_eql_struct] at h;rw[run_neq_struct];cases hr:(Op.equalIn 10000 24 (M #[A B a,A B b]) (M #[A B a,A B b])).run Tryz.prog w with
 | ok b w'=>
  rw[hr] at h;simp only[Result.andThen_ok] at h |-;injection h with h1 h2;injection h1 with h1;rw[h1,h2];simp
 | halt x w'=>
  rw[hr] at h;cases h
def NdC(n:Nd):Prop:=∀(F:Nat->Prop) (a1:Option Addr) (c1:Nat) (g1:Option Addr) (d1:Nat) (w:World),Ac F w a1 (ndsD n.kids)->Ac F w g1 (ndsD n.kids) ->
 Calls Tryz.prog 30 #[M #[A B n.kind,C n.text,A B n.lnN,A B n.clN,E a1 n.kids.length c1],M #[A B n.kind,C n.text,A B n.lnN,A B n.clN,E g1 n.kids.length d1]] w (Lv w)
theorem nd_node(k t ln cl l)(hl:l.length<=140737488355328)(hit:∀x∈l,NdC x)(F a1 c1 g1 d1 w)(hr1:Ac F w a1 (ndsD l))(hg1:Ac F w g1 (ndsD l)):
  Calls Tryz.prog 30 #[M #[A B k,C t,A B ln,A B cl,E a1 l.length c1],M #[A B k,C t,A B ln,A B cl,E g1 l.length d1]] w (Lv w):=by
 obtain⟨h1,h2,h3,h4⟩:=Cl w (G #[A B k,C t,A B ln,A B cl,E a1 l.length c1] 27) (G #[A B k,C t,A B ln,A B cl,E g1 l.length d1] 27);have H0:=Lq7 (aIn h1 (aIn h2 h3));have Hr:=Lq7 (aIn hr1 hg1);have Hit:=Lq7 hit;have hf1:(k != k)=false:=(by simp);have hnp:=Xb ln cl;go_enter Tryz.func30,Tryz.ntmps30;go_wp2_with fail;generalize World.alloc _ _=W0 at H0 |-
 go_loopw [37] (fun i wr=>∃j:Nat,i = A B j/\j<=l.length/\Hid (wr.heap[w.heap.size]? = I (G #[A B k,C t,A B ln,A B cl,E a1 l.length c1] 27 (0,0))/\wr.heap[w.heap.size+1]? = I (G #[A B k,C t,A B ln,A B cl,E g1 l.length d1] 27 (0,0))/\Below w.heap.size w wr)) (fun i _=>l.length-(intOf i).toNat)
 case atStart=>exact⟨0,rfl,nlz _,H0⟩
 case round=>
  obtain⟨i,rfl,hi,aA⟩:=hrel;obtain⟨q0,q1,q2,q3,q4,q5,-⟩:=Aa aA.out.1;obtain⟨p0,p1,p2,p3,p4,p5,-⟩:=Aa aA.out.2.1;by_cases hlt2:i<l.length
  ·have aC:l[i]? = I l[i]:=lgE hlt2;generalize l[i]=x at aC;have HC:=Lq7 (Hit.out x (lgM aC));obtain⟨xk,xt,xl,xc,xs⟩:=x;have aD:Below wr.heap.size wr wr.drew:=(bRf _ wr).drew;have H2:=Lq7 (aIn (stays aA.out.1 aD) (aIn (stays aA.out.2.1 aD) (aA.out.2.2.trans (aD.mono aA.out.2.2.size))));obtain⟨b,off,x1,e1,aJ,-,hbl,r0,r1,r2,r3,r4,aM⟩:=(Hr.out.1.below H2.out.2.2).nd aC;obtain⟨b',off',x3,e3,hae',-,hbl',t0,t1,t2,t3,t4,aN⟩:=(Hr.out.2.below H2.out.2.2).nd aC;subst aJ;subst hae';have HK:=Lq7 (HC.out F x1 e1 x3 e3 wr.drew aM aN);go_wp2_with fail;refine Bm (.s 0 (.s 1 (.s 2 (.s 3 (.s 4 (.s 5 (.s 6 (.s 7 (.s 8 (.s 9 (.h 10 (.s 11 .nil)))))))))))) 99 (fun W'=>Below wr.drew.heap.size wr.drew W') (bRf _ _) ?_;generalize wr.drew=Wd at *;refine Bp (J (I ⟨w.heap.size,4,H⟩)) (fun W' hS=>?_) ?_
   ·obtain⟨z0,z1,z2,z3,z4,z5,-⟩:=Aa (stays H2.out.1 hS);go_simp
   refine Bp (E (I ⟨b,off,H⟩) l.length c1) (fun W' hS=>?_) ?_
   ·obtain⟨z0,z1,z2,z3,z4,z5,-⟩:=Aa (stays H2.out.1 hS);go_simp
   refine Aw (A B i) ?_;refine Aw (J (I ⟨b,off+i*5,H⟩)) ?_;refine Bp (M #[A B xk,C xt,A B xl,A B xc,E x1 xs.length e1]) (fun W' hS=>?_) ?_
   ·have z0:=(hS.cell (p:=⟨b,off+i*5,H⟩) hbl).trans r0;have z1:=(hS.cell (p:=⟨b,off+i*5+1,H⟩) hbl).trans r1;have z2:=(hS.cell (p:=⟨b,off+i*5+2,H⟩) hbl).trans r2;have z3:=(hS.cell (p:=⟨b,off+i*5+3,H⟩) hbl).trans r3;have z4:=(hS.cell (p:=⟨b,off+i*5+4,H⟩) hbl).trans r4;go_simp
   refine Bp (J (I ⟨w.heap.size+1,4,H⟩)) (fun W' hS=>?_) ?_
   ·obtain⟨z0,z1,z2,z3,z4,z5,-⟩:=Aa (stays H2.out.2.1 hS);go_simp
   refine Bp (E (I ⟨b',off',H⟩) l.length d1) (fun W' hS=>?_) ?_
   ·obtain⟨z0,z1,z2,z3,z4,z5,-⟩:=Aa (stays H2.out.2.1 hS);go_simp
   refine Aw (A B i) ?_;refine Aw (J (I ⟨b',off'+i*5,H⟩)) ?_;refine Bp (M #[A B xk,C xt,A B xl,A B xc,E x3 xs.length e3]) (fun W' hS=>?_) ?_
   ·have z0:=(hS.cell (p:=⟨b',off'+i*5,H⟩) hbl').trans t0;have z1:=(hS.cell (p:=⟨b',off'+i*5+1,H⟩) hbl').trans t1;have z2:=(hS.cell (p:=⟨b',off'+i*5+2,H⟩) hbl').trans t2;have z3:=(hS.cell (p:=⟨b',off'+i*5+3,H⟩) hbl').trans t3;have z4:=(hS.cell (p:=⟨b',off'+i*5+4,H⟩) hbl').trans t4;go_simp
   refine Ae rfl (fun aV aB=>?_);go_wp2_with fail;refine HK.out.mono ?_;rintro e w2 ⟨rfl,aH⟩;have aQ:=Lq7 (aIn (stays H2.out.1 aH) (aIn (stays H2.out.2.1 aH) (H2.out.2.2.trans (aH.mono H2.out.2.2.size))));have Hb2:=Lq7 aH;go_wp2_with fail;refine aB _ _ (fun _=>Hb2.out) ?_;(try simp only[gX,aP]);refine Aw (K false) ?_;refine A2 ?_;(try simp only[gX,aP]);go_wp2_with fail;go_roundw
   case rel=>exact⟨i+1,by go_num,by omega,aQ⟩
   case measure=>simp only[intOf];omega
  ·go_wp2_with fail;go_ret;exact⟨rfl,aA.out.2.2⟩
theorem nd_any(v):fewN v->NdC v:=
 Nd.rec (motive_1:=fun v=>fewN v->NdC v) (motive_2:=fun l=>fewNs l->∀x∈l,NdC x)
  (fun k t ln cl l ih h F a1 c1 g1 d1 w hr1 hg1=>by rw[fewN] at h;exact nd_node k t ln cl l h.1 (ih h.2) F a1 c1 g1 d1 w hr1 hg1)
  (fun _ x hx=>by cases hx)
  (fun v t hv ht h x hx=>by
   rw[fewNs] at h;rcases List.mem_cons.1 hx with rfl|hx
   ·exact hv h.1
   ·exact ht h.2 x hx) v
theorem T7(rn l body x1 x2)(hl:l.length<=140737488355328)(hs:∀x∈l,Ay x.dflt)(hbn:fewNs body)(hbl:body.length<=140737488355328)(F a1 a2 g1 g2 c1 c2 d1 d2 w)(hr1:Ac F w a1 (C0 l))(hr2:Ac F w a2 (ndsD body))(hg1:Ac F w g1 (C0 l))(hg2:Ac F w g2 (ndsD body)):
  Calls Tryz.prog 14 #[M #[C rn,E a1 l.length c1,E a2 body.length c2,A B x1,A B x2],M #[C rn,E g1 l.length d1,E g2 body.length d2,A B x1,A B x2]] w (Lv w):=by
 obtain⟨h1,h2,h3,h4⟩:=Cl w (G #[C rn,E a1 l.length c1,E a2 body.length c2,A B x1,A B x2] 46) (G #[C rn,E g1 l.length d1,E g2 body.length d2,A B x1,A B x2] 46);have H0:=Lq7 (aIn h1 (aIn h2 h3));have HN:=Lq7 (nd_any (.mk 0 ⟨#[]⟩ 0 0 body) (by rw[fewN];exact⟨hbl,hbn⟩) F a2 c2 g2 d2 _ (hr2.below h3) (hg2.below h3));have Hr:=Lq7 (aIn hr1 hg1);have Hs:=Lq7 hs;have hnp:=Xb x1 x2;go_enter Tryz.func14,Tryz.ntmps14;go_wp2_with fail;refine HN.out.mono ?_;rintro e w1 ⟨rfl,aR⟩;have H1:=Lq7 (aIn (stays H0.out.1 aR) (aIn (stays H0.out.2.1 aR) (H0.out.2.2.trans (aR.mono H0.out.2.2.size))));obtain⟨q0,q1,q2,q3,q4,q5,-⟩:=Aa H1.out.1;go_wp2_with fail
 go_loopw [42] (fun i wr=>∃j:Nat,i = A B j/\j<=l.length/\Hid (wr.heap[w.heap.size]? = I (G #[C rn,E a1 l.length c1,E a2 body.length c2,A B x1,A B x2] 46 (0,0))/\wr.heap[w.heap.size+1]? = I (G #[C rn,E g1 l.length d1,E g2 body.length d2,A B x1,A B x2] 46 (0,0))/\Below w.heap.size w wr)) (fun i _=>l.length-(intOf i).toNat)
 case atStart=>exact⟨0,rfl,nlz _,H1⟩
 case round=>
  obtain⟨i,rfl,hi,aA⟩:=hrel;by_cases hlt2:i<l.length
  ·have aC:l[i]? = I l[i]:=lgE hlt2;generalize l[i]=x at aC;have hsx:=Hs.out x (lgM aC);obtain⟨nm,ty,mu,⟨xk,xn,xs,xl,xks⟩⟩:=x;have hsx':Ay (.mk xk xn xs xl xks):=hsx;have aD:Below wr.heap.size wr wr.drew:=(bRf _ wr).drew;have H2:=Lq7 (aIn (stays aA.out.1 aD) (aIn (stays aA.out.2.1 aD) (aA.out.2.2.trans (aD.mono aA.out.2.2.size))));obtain⟨b,off,u1,e1,u2,e2,aJ,-,hbl,r0,r1,r2,r3,r4,r5,r6,r7,aM,hs2⟩:=(Hr.out.1.below H2.out.2.2).attr aC;obtain⟨b',off',u3,e3,u4,e4,hae',-,hbl',t0,t1,t2,t3,t4,t5,t6,t7,aN,hs4⟩:=(Hr.out.2.below H2.out.2.2).attr aC;subst aJ;subst hae';have HS:=Lq7 (fun W (h:Below wr.drew.heap.size wr.drew W)=>Y8 _ hsx' F u1 e1 u2 e2 u3 e3 u4 e4 W (aM.below h) (hs2.below h) (aN.below h) (hs4.below h));go_wp2_with fail
   go_cut [6,7] from 45 to 54 (fun v u wc=>∃gx gy:Nat,v = J (I ⟨gx,0,H⟩)/\u = J (I ⟨gy,0,H⟩)/\Hid (wc.heap[gx]? = I (G #[C nm,A B ty,K mu,A B xk,A B xn,C xs,E u1 xl.length e1,E u2 xks.length e2] 97 (0,0))/\wc.heap[gy]? = I (G #[C nm,A B ty,K mu,A B xk,A B xn,C xs,E u3 xl.length e3,E u4 xks.length e4] 97 (0,0))/\Below wr.drew.heap.size wr.drew wc))
   case first=>
    refine Bm (.s 0 (.s 1 (.s 2 (.s 3 (.s 4 (.s 5 (.s 6 (.s 7 (.s 8 (.s 9 (.b 10 (.h 11 (.h 12 (.h 13 .nil))) 11 (.h 10 (.h 12 (.h 13 .nil)))))))))))))) 13 (fun W'=>Below wr.drew.heap.size wr.drew W') (bRf _ _) ?_;generalize wr.drew=Wd at *;refine Bp (J (I ⟨w.heap.size,1,H⟩)) (fun W' hS=>?_) ?_
    ·obtain⟨z0,z1,z2,z3,z4,z5,-⟩:=Aa (stays H2.out.1 hS);go_simp
    refine Bp (E (I ⟨b,off,H⟩) l.length c1) (fun W' hS=>?_) ?_
    ·obtain⟨z0,z1,z2,z3,z4,z5,-⟩:=Aa (stays H2.out.1 hS);go_simp
    refine Aw (A B i) ?_;refine Aw (J (I ⟨b,off+i*8,H⟩)) ?_;refine Bp (M #[C nm,A B ty,K mu,A B xk,A B xn,C xs,E u1 xl.length e1,E u2 xks.length e2]) (fun W' hS=>?_) ?_
    ·have z0:=(hS.cell (p:=⟨b,off+i*8,H⟩) hbl).trans r0;have z1:=(hS.cell (p:=⟨b,off+i*8+1,H⟩) hbl).trans r1;have z2:=(hS.cell (p:=⟨b,off+i*8+2,H⟩) hbl).trans r2;have z3:=(hS.cell (p:=⟨b,off+i*8+3,H⟩) hbl).trans r3;have z4:=(hS.cell (p:=⟨b,off+i*8+4,H⟩) hbl).trans r4;have z5:=(hS.cell (p:=⟨b,off+i*8+5,H⟩) hbl).trans r5;have z6:=(hS.cell (p:=⟨b,off+i*8+6,H⟩) hbl).trans r6;have z7:=(hS.cell (p:=⟨b,off+i*8+7,H⟩) hbl).trans r7;go_simp
    refine Bp (J (I ⟨w.heap.size+1,1,H⟩)) (fun W' hS=>?_) ?_
    ·obtain⟨z0,z1,z2,z3,z4,z5,-⟩:=Aa (stays H2.out.2.1 hS);go_simp
    refine Bp (E (I ⟨b',off',H⟩) l.length d1) (fun W' hS=>?_) ?_
    ·obtain⟨z0,z1,z2,z3,z4,z5,-⟩:=Aa (stays H2.out.2.1 hS);go_simp
    refine Aw (A B i) ?_;refine Aw (J (I ⟨b',off'+i*8,H⟩)) ?_;refine Bp (M #[C nm,A B ty,K mu,A B xk,A B xn,C xs,E u3 xl.length e3,E u4 xks.length e4]) (fun W' hS=>?_) ?_
    ·have z0:=(hS.cell (p:=⟨b',off'+i*8,H⟩) hbl').trans t0;have z1:=(hS.cell (p:=⟨b',off'+i*8+1,H⟩) hbl').trans t1;have z2:=(hS.cell (p:=⟨b',off'+i*8+2,H⟩) hbl').trans t2;have z3:=(hS.cell (p:=⟨b',off'+i*8+3,H⟩) hbl').trans t3;have z4:=(hS.cell (p:=⟨b',off'+i*8+4,H⟩) hbl').trans t4;have z5:=(hS.cell (p:=⟨b',off'+i*8+5,H⟩) hbl').trans t5;have z6:=(hS.cell (p:=⟨b',off'+i*8+6,H⟩) hbl').trans t6;have z7:=(hS.cell (p:=⟨b',off'+i*8+7,H⟩) hbl').trans t7;go_simp
    obtain⟨n1,n2,n3,n4⟩:=Cl Wd (G #[C ⟨#[]⟩,A B 0,K false,A B 0,A B 0,C ⟨#[]⟩,E H 0 0,E H 0 0] 97) (G #[C ⟨#[]⟩,A B 0,K false,A B 0,A B 0,C ⟨#[]⟩,E H 0 0,E H 0 0] 97);have B0:=Lq7 (aIn ((bRf Wd.heap.size Wd).alloc (nlr _) (G #[C ⟨#[]⟩,A B 0,K false,A B 0,A B 0,C ⟨#[]⟩,E H 0 0,E H 0 0] 97)) (aIn n3 (aIn n1 n2)));refine Dz rfl rfl (fun aV aB=>?_) (fun K11 aE=>?_)
    ·go_wp2_with fail;refine aB _ _ (fun _=>B0.out.1) ?_;(try simp only[gX,aP]);refine Ae rfl (fun K11 aE=>?_);go_wp2_with fail;refine aE _ _ (fun _=>B0.out.2.1) ?_;(try simp only[gX,aP]);refine Ae rfl (fun K12 aF=>?_);go_wp2_with fail;refine aF _ _ (fun _=>(Cl Wd (G #[C nm,A B ty,K mu,A B xk,A B xn,C xs,E u1 xl.length e1,E u2 xks.length e2] 97) (G #[C ⟨#[]⟩,A B 0,K false,A B 0,A B 0,C ⟨#[]⟩,E H 0 0,E H 0 0] 97)).2.2.1) ?_;(try simp only[gX,aP]);refine Ae rfl (fun K13 aG=>?_);go_wp2_with fail;refine aG _ _ (fun h=>absurd rfl h) ?_;refine A2 ?_;(try simp only[gX,aP]);go_wp2_with fail;go_meet
     case rel=>exact⟨Wd.heap.size,Wd.heap.size+1,rfl,rfl,Lq7 ⟨(Cl Wd (G #[C nm,A B ty,K mu,A B xk,A B xn,C xs,E u1 xl.length e1,E u2 xks.length e2] 97) (G #[C nm,A B ty,K mu,A B xk,A B xn,C xs,E u3 xl.length e3,E u4 xks.length e4] 97)).1,(Cl Wd (G #[C nm,A B ty,K mu,A B xk,A B xn,C xs,E u1 xl.length e1,E u2 xks.length e2] 97) (G #[C nm,A B ty,K mu,A B xk,A B xn,C xs,E u3 xl.length e3,E u4 xks.length e4] 97)).2.1,(Cl Wd (G #[C nm,A B ty,K mu,A B xk,A B xn,C xs,E u1 xl.length e1,E u2 xks.length e2] 97) (G #[C nm,A B ty,K mu,A B xk,A B xn,C xs,E u3 xl.length e3,E u4 xks.length e4] 97)).2.2.1⟩⟩
    ·go_wp2_with fail;refine aE _ _ (fun _=>B0.out.1) ?_;(try simp only[gX,aP]);refine Ae rfl (fun aV aB=>?_);go_wp2_with fail;refine aB _ _ (fun _=>B0.out.2.1) ?_;(try simp only[gX,aP]);refine Ae rfl (fun K12 aF=>?_);go_wp2_with fail;refine aF _ _ (fun _=>(Cl Wd (G #[C ⟨#[]⟩,A B 0,K false,A B 0,A B 0,C ⟨#[]⟩,E H 0 0,E H 0 0] 97) (G #[C nm,A B ty,K mu,A B xk,A B xn,C xs,E u1 xl.length e1,E u2 xks.length e2] 97)).2.2.1) ?_;(try simp only[gX,aP]);refine Ae rfl (fun K13 aG=>?_);go_wp2_with fail;refine aG _ _ (fun h=>absurd rfl h) ?_;refine A2 ?_;(try simp only[gX,aP]);go_wp2_with fail;go_meet
     case rel=>exact⟨Wd.heap.size+1,Wd.heap.size,rfl,rfl,Lq7 ⟨(Cl Wd (G #[C nm,A B ty,K mu,A B xk,A B xn,C xs,E u3 xl.length e3,E u4 xks.length e4] 97) (G #[C nm,A B ty,K mu,A B xk,A B xn,C xs,E u1 xl.length e1,E u2 xks.length e2] 97)).2.1,(Cl Wd (G #[C nm,A B ty,K mu,A B xk,A B xn,C xs,E u3 xl.length e3,E u4 xks.length e4] 97) (G #[C nm,A B ty,K mu,A B xk,A B xn,C xs,E u1 xl.length e1,E u2 xks.length e2] 97)).1,(Cl Wd (G #[C nm,A B ty,K mu,A B xk,A B xn,C xs,E u3 xl.length e3,E u4 xks.length e4] 97) (G #[C nm,A B ty,K mu,A B xk,A B xn,C xs,E u1 xl.length e1,E u2 xks.length e2] 97)).2.2.1⟩⟩
   case rest=>
    obtain⟨gx,gy,rfl,rfl,hcut⟩:=hcut;have H3:=Lq7 (aIn (stays H2.out.1 hcut.out.2.2) (aIn (stays H2.out.2.1 hcut.out.2.2) (H2.out.2.2.trans (hcut.out.2.2.mono H2.out.2.2.size))));have HS1:=Lq7 (HS.out _ hcut.out.2.2);obtain⟨y0,y1,y2,y3,y4,y5,y6,y7,y8,-⟩:=Pf hcut.out.1;obtain⟨v0,v1,v2,v3,v4,v5,v6,v7,v8,-⟩:=Pf hcut.out.2.1;have hf1:(ty != ty)=false:=(by simp);have hf2:(mu != mu)=false:=(by simp);go_wp2_with fail;refine HS1.out.mono ?_;rintro e w5 ⟨rfl,aU⟩;have H5:=Lq7 (aIn (stays H3.out.1 aU) (aIn (stays H3.out.2.1 aU) (H3.out.2.2.trans (aU.mono H3.out.2.2.size))));go_wp2_with fail;go_roundw
    case rel=>exact⟨i+1,by go_num,by omega,H5⟩
    case measure=>simp only[intOf];omega
  ·go_wp2_with fail;go_ret;exact⟨rfl,aA.out.2.2⟩
structure PlB(w:World)(x y:Int)(W:World):Prop where
 p0:W.heap[w.heap.size]? = I (G #[A B x,A B y] 24 (0,0))
 b:Below w.heap.size w W
theorem PlB.below{w W W' x y}(h:PlB w x y W)(k:Below W.heap.size W W'):PlB w x y W':=⟨stays h.p0 k,h.b.trans (k.mono h.b.size)⟩
theorem PlB.set{w W x y}(h:PlB w x y W)(u v):PlB w u v ((W.setCell ⟨w.heap.size,0,H⟩ (A B u)).setCell ⟨w.heap.size,1,H⟩ (A B v)):=
 ⟨by rw[Af (Af h.p0 0 _) 1];rfl,(h.b.setCell (p:=⟨w.heap.size,0,H⟩) (nlr _) _).setCell (p:=⟨w.heap.size,1,H⟩) (nlr _) _⟩
theorem Zm(t):getL [(rulesB,t)] rulesB=I t:=by
 rw[getL,if_pos (by simp)]
theorem Aal(t):R1 [(rulesB,t)]=loadL t.data.toList:=by
 unfold R1;rw[Zm]
theorem Ru(t w)(hs:t.size<=9223372036854775807)(hE:Lt w)(hT:Em w)(hB:StdB w):Calls Tryz.prog 12 #[C t] w (R4 w (loadL t.data.toList) w):=by
 obtain⟨n1,n2,n3,n4⟩:=Cl w (G #[A B 0,A B 0] 24) (G #[C ⟨#[82,85,76,69,83]⟩,C t] 100);have H0:=Lq7 (PlB.mk n1 n3);have aB:Ac (fun b=>b=w.heap.size+1) ((w.alloc (G #[A B 0,A B 0] 24)).alloc (G #[C ⟨#[82,85,76,69,83]⟩,C t] 100)) (I ⟨w.heap.size+1,0,H⟩) (Of [(rulesB,t)]):=
  Ac.one (cs:=[C ⟨#[82,85,76,69,83]⟩,C t]) n2 rfl (.cons (.one _) (.cons (.one _) .nil))
 have HL:=Lq7 (Aau _ [(rulesB,t)] _ 1 _ aB (by simp) (fun u hu=>by
  rw[Zm] at hu;cases hu;exact hs) (hE.below n3) (hT.below n3) (hB.below n3))
 rw[Aal] at HL;simp only[lnC,lnN,Nat.zero_add] at HL;have aC:=Lq7 (E9.lt hT hB);have hws:=n3.size;have aD:=here n2;go_enter Tryz.func12,Tryz.ntmps12;go_wp2_with fail;generalize World.alloc _ _=W at H0 HL aD |-;refine HL.out.mono ?_;rintro e w1 ⟨aA,hq⟩;have H1:=Lq7 (H0.out.below aA);obtain⟨p0,p1,p2,p3,p4⟩:=A8 (H0.out.below aA).p0;cases hl:loadL t.data.toList with
 | error f=>
  rw[hl] at hq;obtain⟨rfl,hf⟩:=hq;obtain⟨fx,fl,fk⟩:=f;have Hf:=Lq7 hf;have Hl:=Lq7 hl;go_wp2_with fail;have H4:=H1.out.set fl fk;generalize World.setCell _ _ _=W9 at H4 |-;obtain⟨s0,s1,s2,-,-⟩:=A8 H4.p0;exact bodyPost_ret (v:=.tuple #[E H 0 0,A B fx,M #[A B fl,A B fk]]) (by simp[results,Tryz.results12,go_sem,s1,s2]) rfl ⟨H4.b,by rw[Hl.out];exact⟨rfl,Hf.out⟩⟩
 | ok l=>
  rw[hl] at hq;obtain⟨a,cap,rfl,hr⟩:=hq;have Hr:=Lq7 hr;have Hl:=Lq7 hl;go_wp2_with fail;have H4:=H1.out.set 0 0;have aE:Ac (Oh w) ((w1.setCell ⟨w.heap.size,0,H⟩ (A B 0)).setCell ⟨w.heap.size,1,H⟩ (A B 0)) a (Dy l):=Hr.out.mono fun b hb hl=>by
   have aF:b≠w.heap.size:=by
    rcases hb with hb|hb
    ·have:=aC.out b hb;omega
    ·omega
   exact⟨by
    rcases hb with hb|hb
    ·exact .inl hb
    ·exact .inr (by omega),by simpa using hl,(Ad aF 1 _).trans (Ad aF 0 _)⟩
  generalize World.setCell _ _ _=W9 at H4 aE |-;obtain⟨s0,s1,s2,-,-⟩:=A8 H4.p0;exact bodyPost_ret (v:=.tuple #[E a l.length cap,A B 0,M #[A B 0,A B 0]]) (by simp[results,Tryz.results12,go_sem,s1,s2]) rfl ⟨H4.b,by rw[Hl.out];exact⟨a,cap,rfl,aE⟩⟩
def copyRule:RuleP:=⟨⟨#[99,111,112,121]⟩,ownL++[⟨⟨#[115,114,99]⟩,5,true,vZero⟩],[],1,1⟩
theorem copy_load:loadL copyText.data.toList = .ok [copyRule]:=by
 unfold loadL;rw[copy_read]
 kernel_rfl
theorem Xy(w)(hE:Lt w)(hT:Em w)(hB:StdB w):Calls Tryz.prog 11 #[] w (Lv w):=by
 have HL:=Lq7 (Ru copyText w (by decide) hE hT hB);rw[copy_load] at HL;unfold copyText at HL;go_enter Tryz.func11,Tryz.ntmps11;go_wp2_with fail;refine HL.out.mono ?_;rintro e w1 ⟨aA,a,cap,rfl,hr⟩;have aG:Below w1.heap.size w1 (w1.alloc (G #[A B 0,A B 0] 24)):=(bRf _ _).alloc (nlr _) _;have Hb:=Lq7 (aA.trans (aG.mono aA.size));obtain⟨b,off,a1,c1,a2,c2,rfl,-,hbl,r0,r1,r2,r3,r4,hra,-⟩:=(hr.below aG).rule (j:=0) rfl;obtain⟨b2,off2,y1,z1,y2,z2,rfl,-,hbl2,t0,t1,t2,-,-,-,-,-,-,-⟩:=hra.attr (j:=2) (nm:=⟨#[115,114,99]⟩) (ty:=5) (mu:=true) (k:=0) (n:=0) (s:=⟨#[]⟩) (m:=[]) (ks:=[]) rfl;simp only[nzm,naz] at r0 r1 r2 r3 r4;rw[show copyRule.attrs.length=3 from rfl] at r1;simp only[lnC,lnN,Nat.zero_add];go_wp2_with fail;go_ret;exact⟨rfl,Hb.out⟩
def Sh(r:Except Flt (List RuleP))(l:List RuleP)(x y z:Int):Prop:=match r with
 | .ok m=>l=m/\x=0/\y=0/\z=0
 | .error f=>l=[]/\f=(x,y,z)
theorem R4.uni{w0 w w' r e}(h:R4 w0 r w e w'):Below w.heap.size w w'/\∃(a:Option Addr) (l:List RuleP) (cap:Nat) (x y z:Int),
  e = .returned (.tuple #[E a l.length cap,A B x,M #[A B y,A B z]])/\Ac (fun _=>True) w' a (Dy l)/\Sh r l x y z:=by
 refine⟨h.1,?_⟩;cases r with
 | ok m=>
  obtain⟨-,a,cap,rfl,hr⟩:=h;exact⟨a,m,cap,0,0,0,rfl,hr.mono fun b _ hl=>⟨trivial,hl,rfl⟩,rfl,rfl,rfl,rfl⟩
 | error f=>
  obtain⟨-,rfl,-⟩:=h;exact⟨H,[],0,f.1,f.2.1,f.2.2,rfl,Ac.nil _,rfl,rfl⟩
theorem sh_ok{s l x y z}(h:Sh (loadL s) l x y z):(∀r∈l,Qd r)/\l.length<=65540:=by
 cases hl:loadL s with
 | ok m=>rw[hl] at h;obtain⟨rfl,-⟩:=h;exact loadL_ok hl
 | error f=>rw[hl] at h;obtain⟨rfl,-⟩:=h;exact⟨fun r hr=>(by cases hr),by simp⟩
theorem Kh.len{α}{R:α->α->Prop}:∀{l m:List α},Kh R l m->m.length=l.length
 | _,_,.nil=>rfl
 | _,_,.cons _ hs=>congrArg (· + 1) hs.len
theorem Kh.at{α}{R:α->α->Prop}:∀{l m:List α},Kh R l m->∀{i:Nat} {x:α},l[i]? = I x->∃y,m[i]? = I y/\R x y
 | _,_,.nil,_,_,h=>by simp at h
 | _,_,.cons h hs,0,_,hx=>by
  rw[List.getElem?_cons_zero] at hx;obtain rfl:=Option.some.inj hx;exact⟨_,List.getElem?_cons_zero,h⟩
 | _,_,.cons _ hs,i+1,_,hx=>by
  rw[List.getElem?_cons_succ] at hx;obtain⟨y,hy,hr⟩:=hs.at hx;exact⟨y,by rw[List.getElem?_cons_succ];exact hy,hr⟩
theorem Sh.bare{s t}(h:FlB (Kh RuB) (loadL s) (loadL t)){l l' x y z x' y' z'}(h1:Sh (loadL s) l x y z)(h2:Sh (loadL t) l' x' y' z'):x'=x/\Kh RuB l l':=by
 cases hs:loadL s with
 | ok a=>
  cases ht:loadL t with
  | ok b=>
   rw[hs,ht] at h;rw[hs] at h1;rw[ht] at h2;obtain⟨rfl,rfl,-,-⟩:=h1;obtain⟨rfl,rfl,-,-⟩:=h2;exact⟨rfl,h⟩
  | error g=>rw[hs,ht] at h;exact h.elim
 | error f=>
  cases ht:loadL t with
  | ok b=>rw[hs,ht] at h;exact h.elim
  | error g=>
   rw[hs,ht] at h;rw[hs] at h1;rw[ht] at h2;obtain⟨rfl,rfl⟩:=h1;obtain⟨rfl,rfl⟩:=h2;exact⟨h.symm,.nil⟩
mutual
theorem F6{d e:Nat}(h:d<=e):∀n,okX d n->okX e n
 | .mk k t a b l,hn=>by
  rw[okX] at hn |-;by_cases h9:k=9
  ·rw[if_pos h9] at hn |-;exact hn
  rw[if_neg h9] at hn |-;by_cases h10:k=10
  ·rw[if_pos h10] at hn |-;exact hn
  rw[if_neg h10] at hn |-;by_cases h11:k=11
  ·rw[if_pos h11] at hn |-;exact hn
  rw[if_neg h11] at hn |-;by_cases h12:k=12
  ·rw[if_pos h12] at hn |-;exact⟨hn.1,by omega,Nk (by omega) l hn.2.2⟩
  rw[if_neg h12] at hn |-;by_cases h13:k=13
  ·rw[if_pos h13] at hn |-;exact⟨hn.1,by omega,Rk (by omega) l hn.2.2⟩
  rw[if_neg h13] at hn |-;by_cases h14:k=14
  ·rw[if_pos h14] at hn |-;exact⟨hn.1,by omega,Rl (by omega) l hn.2.2⟩
  rw[if_neg h14] at hn |-;by_cases h16:k=16
  ·rw[if_pos h16] at hn |-;by_cases ht:t.data.toList=notW
   ·rw[if_pos ht,if_pos ht] at hn |-;exact⟨⟨by omega,hn.1.2⟩,Nl (by omega) _ 0 l hn.2⟩
   ·rw[if_neg ht,if_neg ht] at hn |-;exact⟨hn.1,Nl h _ 0 l hn.2⟩
  ·rw[if_neg h16] at hn;exact hn.elim
theorem Nk{d e:Nat}(h:d<=e):∀l,Ea d l->Ea e l
 | [],_=>by rw[Ea];trivial
 | x::r,hn=>by rw[Ea] at hn |-;exact⟨F6 h x hn.1,Nk h r hn.2⟩
theorem Rk{d e:Nat}(h:d<=e):∀l,Fg d l->Fg e l
 | [],_=>by rw[Fg];trivial
 | [_],hn=>by rw[Fg] at hn;exact hn.elim
 | x::y::r,hn=>by rw[Fg] at hn |-;exact⟨hn.1,F6 h x hn.2.1,F6 h y hn.2.2.1,Rk h r hn.2.2.2⟩
theorem Rl{d e:Nat}(h:d<=e):∀l,Jk d l->Jk e l
 | [],_=>by rw[Jk];trivial
 | x::r,hn=>by rw[Jk] at hn |-;exact⟨okA_mono h x hn.1,Rl h r hn.2⟩
theorem okA_mono{d e:Nat}(h:d<=e):∀n,okA d n->okA e n
 | .mk k t a b l,hn=>by rw[okA] at hn |-;exact⟨hn.1,hn.2.1,hn.2.2.1,Nk h l hn.2.2.2⟩
theorem Nl{d e:Nat}(h:d<=e)(t:List UInt8):∀i l,Hh d t i l->Hh e t i l
 | _,[],_=>by rw[Hh];trivial
 | i,x::r,hn=>by
  rw[Hh] at hn |-;refine⟨?_,Nl h t (i+1) r hn.2⟩;have h1:=hn.1;split at h1
  ·rw[if_pos ‹_›];exact⟨by omega,F6 (by omega) x h1.2⟩
  ·rw[if_neg ‹_›];exact F6 h x h1
end
theorem Um{d}:∀{a b:List Nd},Ea d a->Ea d b->Ea d (a++b)
 | [],_,_,h=>h
 | x::a,b,h,h'=>by rw[Ea] at h;rw[List.cons_append,Ea];exact⟨h.1,Um h.2 h'⟩
theorem Un{d}:∀{a b:List Nd},Fg d a->Fg d b->Fg d (a++b)
 | [],_,_,h=>h
 | [_],_,h,_=>by rw[Fg] at h;exact h.elim
 | x::y::a,b,h,h'=>by rw[Fg] at h;rw[List.cons_append,List.cons_append,Fg];exact⟨h.1,h.2.1,h.2.2.1,Un h.2.2.2 h'⟩
theorem Uo{d}:∀{a b:List Nd},Jk d a->Jk d b->Jk d (a++b)
 | [],_,_,h=>h
 | x::a,b,h,h'=>by rw[Jk] at h;rw[List.cons_append,Jk];exact⟨h.1,Uo h.2 h'⟩
theorem Up{d}:∀{a b:List Nd},Gi d a->Gi d b->Gi d (a++b)
 | [],_,_,h=>h
 | x::a,b,h,h'=>by rw[Gi] at h;rw[List.cons_append,Gi];exact⟨h.1,Up h.2 h'⟩
def tokW(t:Tok):Prop:=(t.kind=1->Iz t.text.data.toList)/\(t.kind=2->NumL t.text.data.toList)/\(t.kind=3->K8 t.text.data.toList)
def TokW(ts:List Tok):Prop:=∀t∈ts,tokW t
section
variable {en:Int×Int} {α β:Type}
theorem S6{ts:List Tok}(h:TokW ts)(i:Nat):tokW (A1 en ts i):=by
 unfold A1;cases hi:ts[i]? with
 | none=>exact⟨fun e=>(by cases e),fun e=>(by cases e),fun e=>(by cases e)⟩
 | some t=>exact h t (lgM hi)
def PrA(D D':Int)(Q:α->Prop)(m:PM α)(ts:List Tok):Prop:=TokW ts->match m ts D with
 | .ok x ts' e=>e=D'/\TokW ts'/\Q x
 | _=>True
def Pr(D D':Int)(Q:α->Prop)(m:PM α):Prop:=∀ts,PrA D D' Q m ts
variable {D D' D2:Int} {Q:α->Prop} {R:β->Prop} {m:PM α} {ts:List Tok}
theorem PrA.pure{x:α}(h:Q x):PrA D D Q (PM.pure x) ts:=fun ht=>⟨rfl,ht,h⟩
theorem PrA.bind{f:α->PM β}(h1:PrA D D' Q m ts)(h2:∀x,Q x->Pr D' D2 R (f x)):PrA D D2 R (PM.bind m f) ts:=by
 intro ht;have g1:=h1 ht;unfold PM.bind;cases hm:m ts D with
 | err a b c=>exact trivial
 | out=>exact trivial
 | ok x t1 d1=>
  rw[hm] at g1;obtain⟨rfl,e2,e3⟩:=g1;exact h2 x e3 t1 e2
theorem PrA.look{f:List Tok->PM α}(h:TokW ts->PrA D D' Q (f ts) ts):PrA D D' Q (pLook f) ts:=fun ht=>h ht ht
theorem PrA.ite{c:Prop}[Decidable c]{m m':PM α}(h1:c->PrA D D' Q m ts)(h2:¬c->PrA D D' Q m' ts):PrA D D' Q (if c then m else m') ts:=by
 by_cases h:c
 ·rw[if_pos h];exact h1 h
 ·rw[if_neg h];exact h2 h
theorem PrA.mono{Q':α->Prop}(h:PrA D D' Q m ts)(hq:∀x,Q x->Q' x):PrA D D' Q' m ts:=by
 intro ht;have g:=h ht;cases hm:m ts D with
 | err a b c=>exact trivial
 | out=>exact trivial
 | ok x t1 d1=>rw[hm] at g;exact⟨g.1,g.2.1,hq _ g.2.2⟩
theorem PrA.take{b:Bool}:PrA D D (fun t=>tokW t/\b=true/\t=A1 en ts 0) (A3 en b) ts:=by
 intro ht;unfold A3;cases b with
 | false=>exact trivial
 | true=>
  cases ts with
  | nil=>exact trivial
  | cons t r=>exact⟨rfl,fun x hx=>ht x (List.mem_cons_of_mem _ hx),ht t (List.mem_cons_self ..),rfl,rfl⟩
theorem PrA.open{b:Bool}:PrA D (D+1) (fun t=>tokW t/\b=true/\t=A1 en ts 0/\D<60) (Dc en b) ts:=by
 intro ht;unfold Dc;by_cases h:(b&&decide (60<=D))=true
 ·rw[if_pos h];exact trivial
 ·rw[if_neg h];have g:=PrA.take (en:=en) (D:=D+1) (b:=b) (ts:=ts) ht;cases hm:A3 en b ts (D+1) with
  | err a b c=>exact trivial
  | out=>exact trivial
  | ok x t1 d1=>
   rw[hm] at g;refine⟨g.1,g.2.1,g.2.2.1,g.2.2.2.1,g.2.2.2.2,?_⟩;rw[g.2.2.2.1] at h;simp at h;omega
theorem Pr.down:Pr (D+1) D (fun _:Unit=>True) pDown:=fun ts ht=>⟨by omega,ht,trivial⟩
theorem Pr.eat{s:List UInt8}:Pr D D (fun _:Unit=>True) (C2 en s):=fun ts ht=>(PrA.bind (PrA.take (en:=en)) (fun _ _ _=>PrA.pure trivial):PrA D D (fun _:Unit=>True) (PM.bind (A3 en (Az en ts 0 s)) fun _=>PM.pure ()) ts) ht
theorem Pr.close{s:List UInt8}:Pr (D+1) D (fun _:Unit=>True) (Dh en s):=fun _=>PrA.bind (Pr.eat _) fun _ _=>Pr.down
theorem Pr.listGo{cl:List UInt8}{one:PM (List Nd)}{S:List Nd->Prop}(hs:∀a b,S a->S b->S (a++b))(h:Pr D D S one):∀(f:Nat) (acc:List Nd),S acc->Pr D D S (Ce en cl one f acc)
 | 0,_,_=>fun _ _=>trivial
 | f+1,acc,ha=>fun _=> .look fun _=> .ite (fun _=> .pure ha) fun _=>PrA.bind (Q:=fun _=>True) (.ite (fun _=> .pure trivial) fun _=>Pr.eat _) fun _ _ _=> .bind (h _) fun l hl=>Pr.listGo hs h f (acc++l) (hs _ _ ha hl)
theorem Pr.list{cl:List UInt8}{one:PM (List Nd)}{S:List Nd->Prop}(hs:∀a b,S a->S b->S (a++b))(h0:S [])(h:Pr D D S one):Pr D D S (Ct en cl one):=fun ts=>Pr.listGo hs h _ _ h0 ts
end
variable {en:Int×Int}
def PrmQ(d:Nat)(n:Nd):Prop:=if Fk n=true then 1<=d/\okX (d - 1) n else okX d n
def SumQ(d:Nat)(n:Nd):Prop:=if(Fk n && !(Gf n==[43]))=true then 1<=d/\okX (d - 1) n else okX d n
theorem PrmQ.sum{d n}(h:PrmQ d n):SumQ d n:=by
 unfold PrmQ at h;unfold SumQ;cases h2:Fk n with
 | false=>rw[h2] at h;simpa using h
 | true=>
  rw[h2,if_pos rfl] at h;split
  ·exact h
  ·exact F6 (by omega) n h.2
theorem SumQ.ok{d n}(h:SumQ d n):okX d n:=by
 unfold SumQ at h;split at h
 ·exact F6 (by omega) n h.2
 ·exact h
theorem PrmQ.of{d n}(h:okX d n)(h2:Fk n=false):PrmQ d n:=by unfold PrmQ;rw[h2];simpa using h
theorem PrmQ.brk{d n}(h1:1<=d)(h:okX (d - 1) n):PrmQ d n:=by
 unfold PrmQ;split
 ·exact⟨h1,h⟩
 ·exact F6 (by omega) n h
theorem Pi{k t s l}(h:k≠16):Fk (Aj k t s l)=false:=Zk h
theorem Gv{ts:List Tok}(h:TokW ts)(hn:Bb en ts=true):Eg (A1 en ts 0).text.data.toList:=by
 unfold Bb at hn;rw[bAt,beq_iff_eq] at hn;exact⟨(S6 h 0).1 hn.1,by simpa using hn.2⟩
theorem Uq{d b}(hb:okB d b):∀ps:List Nd,okLa d (ps++[b])
 | []=>by rw[List.nil_append,okLa];exact hb
 | [x]=>by
  rw[List.singleton_append,okLa]
  ·rw[okLa];exact hb
  ·simp
 | x::y::r=>by
  rw[List.cons_append,okLa]
  ·exact Uq hb (y::r)
  ·simp
structure LOk(en:Int×Int)(L:Lvl):Prop where
 expr:∀(D:Int) (d:Nat),D+d=60->Pr D D (okX d) L.expr
 prim:∀(D:Int) (d:Nat),D+d=60->Pr D D (PrmQ d) L.prim
 stmt:∀(D:Int) (d:Nat),D+d=60->Pr D D (okS d) L.stmt
section
variable {L:Lvl} (h:LOk en L) {D:Int} {d:Nat} (hd:D+d=60)
include h hd
theorem LOk.arg:Pr D D (okA d) (pArg en L):=fun ts=> .look fun ht=> .ite
 (fun hc=> .bind .take fun _ _ _=> .bind (Pr.eat _) fun _ _ _=> .bind (h.expr D d hd _) fun x hx _=> .pure (by
  rw[bAt] at hc;unfold Aj;rw[okA];exact⟨rfl,.inr (Gv ht hc.1),rfl,by rw[Ea,Ea];exact⟨hx,trivial⟩⟩))
 fun _=> .bind (h.expr D d hd _) fun x hx _=> .pure (by
  unfold Aj;rw[okA];exact⟨rfl,.inl rfl,rfl,by rw[Ea,Ea];exact⟨hx,trivial⟩⟩)
theorem LOk.call:Pr D D (fun n=>okX d n/\n.kind=14) (pCall en L):=fun ts=> .look fun ht=> .bind .take fun name hn _=> .look fun _=> .bind .open fun o ho _=>
 PrA.bind (Q:=Jk (d - 1)) (Pr.list (fun _ _=>Uo) (by rw[Jk];trivial) (fun _=> .bind (h.arg (D:=D+1) (d:=d - 1) (by have:=ho.2.2.2;omega) _) fun x hx _=> .pure (by rw[Jk,Jk];exact⟨hx,trivial⟩)) _) fun kids hk _=> .bind (Pr.close _) fun _ _ _=> .pure ⟨by
  have h1:=Gv ht hn.2.1;rw[<-hn.2.2] at h1;unfold Aj;rw[okX,if_neg (by decide),if_neg (by decide),if_neg (by decide),if_neg (by decide),if_neg (by decide),if_pos rfl];exact⟨h1,by have:=ho.2.2.2;omega,hk⟩,rfl⟩
theorem LOk.entry:Pr D D (Fg d) (pEntry en L):=fun ts=> .look fun ht=> .bind .take fun t hn _=> .bind (Pr.eat _) fun _ _ _=> .bind (h.expr D d hd _) fun x hx _=> .pure (by
 have h1:=hn.2.1;rw[<-hn.2.2,beq_iff_eq] at h1;unfold Aj;rw[Fg,Fg,okX,if_neg (by decide),if_neg (by decide),if_pos rfl];exact⟨rfl,⟨hn.1.2.2 h1,rfl⟩,hx,trivial⟩)
theorem LOk.prm:Pr D D (PrmQ d) (pPrim en L):=fun ts=> .look fun ht=> .ite
 (fun hk=> .bind .take fun _ _ _=> .pure (.of (by
  unfold Aj;rw[okX,if_neg (by decide),if_neg (by decide),if_pos rfl];exact⟨(S6 ht 0).2.2 (by simpa using hk),rfl⟩) (Pi (by decide)))) fun _=> .ite
 (fun hk=> .bind .take fun _ _ _=> .pure (.of (by
  unfold Aj;rw[okX,if_neg (by decide),if_pos rfl];exact⟨(S6 ht 0).2.1 (by simpa using hk),rfl⟩) (Pi (by decide)))) fun _=> .ite
 (fun _=>(h.call hd ts).mono fun x hx=> .of hx.1 (by obtain⟨k,t,a,b,l⟩:=x;obtain rfl:k=14:=hx.2;exact Zk (by decide))) fun _=> .ite
 (fun hk=> .bind .take fun _ _ _=> .pure (.of (by
  unfold Aj;rw[okX,if_pos rfl];exact⟨Gv ht hk,rfl⟩) (Pi (by decide)))) fun _=> .ite
 (fun _=> .bind .open fun o ho _=> .bind (h.prim (D+1) (d - 1) (by have:=ho.2.2.2;omega) _) fun x hx _=> .bind (Pr.down _) fun _ _ _=> .pure (.of (by
  unfold Aj;rw[okX,if_neg (by decide),if_neg (by decide),if_neg (by decide),if_neg (by decide),if_neg (by decide),if_neg (by decide),if_pos rfl,if_pos (show(bs [110,111,116]).data.toList=notW from rfl),if_pos (show(bs [110,111,116]).data.toList=notW from rfl),Hh,Hh];refine⟨⟨by have:=ho.2.2.2;omega,rfl⟩,?_,trivial⟩;have h1:PrmQ (d - 1) x:=hx;unfold PrmQ at h1;unfold C6;rw[if_pos (show(bs [110,111,116]).data.toList=notW from rfl)];exact h1) rfl)) fun _=> .ite
 (fun _=> .bind .open fun o ho _=>PrA.bind (Q:=Ea (d - 1)) (Pr.list (fun _ _=>Um) (by rw[Ea];trivial) (fun _=> .bind (h.expr (D+1) (d - 1) (by have:=ho.2.2.2;omega) _) fun x hx _=> .pure (by rw[Ea,Ea];exact⟨hx,trivial⟩)) _) fun kids hk _=> .bind (Pr.close _) fun _ _ _=> .pure (.of (by
  unfold Aj;rw[okX,if_neg (by decide),if_neg (by decide),if_neg (by decide),if_pos rfl];exact⟨rfl,by have:=ho.2.2.2;omega,hk⟩) (Pi (by decide)))) fun _=> .ite
 (fun _=> .bind .open fun o ho _=>PrA.bind (Q:=Fg (d - 1)) (Pr.list (fun _ _=>Un) (by rw[Fg];trivial) (h.entry (D:=D+1) (d:=d - 1) (by have:=ho.2.2.2;omega)) _) fun kids hk _=> .bind (Pr.close _) fun _ _ _=> .pure (.of (by
  unfold Aj;rw[okX,if_neg (by decide),if_neg (by decide),if_neg (by decide),if_neg (by decide),if_pos rfl];exact⟨rfl,by have:=ho.2.2.2;omega,hk⟩) (Pi (by decide)))) fun _=>
 .bind .open fun o ho _=> .bind (h.expr (D+1) (d - 1) (by have:=ho.2.2.2;omega) _) fun x hx _=> .bind (Pr.close _) fun _ _ _=> .pure (.brk (by have:=ho.2.2.2;omega) hx)
theorem LOk.sumGo:∀(f:Nat) (x:Nd),SumQ d x->Pr D D (SumQ d) (pSumGo en L f x)
 | 0,_,_=>fun _ _=>trivial
 | f+1,x,hx=>fun ts=> .look fun _=> .ite (fun _=> .bind .take fun t _ _=> .bind (h.prm hd _) fun y hy=>LOk.sumGo f _ (by
  have h1:okX d (Aj 16 t (bs [43]) [x,y]):=by
   unfold Aj;rw[okX,if_neg (by decide),if_neg (by decide),if_neg (by decide),if_neg (by decide),if_neg (by decide),if_neg (by decide),if_pos rfl,show(bs [43]).data.toList=[43] from rfl,if_neg (show ¬([43]:List UInt8)=notW by decide),if_neg (show ¬([43]:List UInt8)=notW by decide),Hh,Hh,Hh];refine⟨⟨by decide,rfl⟩,?_,?_,trivial⟩
   ·have h2:=hx;unfold SumQ at h2;unfold C6;rw[if_neg (show ¬([43]:List UInt8)=notW by decide)]
    simpa using h2
   ·have h2:=hy;unfold PrmQ at h2;unfold C6;rw[if_neg (show ¬([43]:List UInt8)=notW by decide)]
    simpa using h2
  unfold SumQ;rw[if_neg (by simp[Gf,Aj,Nd.text])];exact h1)) fun _=> .pure hx
theorem LOk.sum:Pr D D (SumQ d) (pSum en L):=fun ts=> .bind (h.prm hd ts) fun x hx ts=>LOk.sumGo h hd _ x hx.sum ts
theorem LOk.exp:Pr D D (okX d) (Dd en L):=fun ts=> .bind (h.sum hd ts) fun x hx ts=> .look fun ht=> .ite (fun hc=> .bind .take fun t htk _=> .bind (h.sum hd _) fun y hy _=> .pure (by
 have ho:t.text.data.toList∈[[61,61],[33,61],[105,110]]:=by
  rw[htk.2.2];unfold Az A5 at hc;simp only[Bool.or_eq_true,bAt,beq_iff_eq] at hc;rcases hc with (hc|hc)|hc
  ·rw[hc.2];simp
  ·rw[hc.2];simp
  ·rw[hc.2];simp
 have hn:t.text.data.toList≠notW:=(by rintro e;rw[e] at ho;exact absurd ho (by decide));have hp:t.text.data.toList≠[43]:=(by rintro e;rw[e] at ho;exact absurd ho (by decide));have hq:∀(i:Nat) (x:Nd),SumQ d x->if C6 t.text.data.toList i x=true then 1<=d/\okX (d - 1) x else okX d x:=fun i x hx=>by
  unfold SumQ at hx;unfold C6;rw[if_neg hn,show(t.text.data.toList==[43])=false by simpa using hp,Bool.and_false,Bool.or_false];exact hx
 unfold Aj;rw[okX,if_neg (by decide),if_neg (by decide),if_neg (by decide),if_neg (by decide),if_neg (by decide),if_neg (by decide),if_pos rfl,if_neg hn,if_neg hn,Hh,Hh,Hh];refine⟨⟨?_,rfl⟩,hq 0 x hx,hq 1 y hy,trivial⟩;unfold opsL;simp only[List.mem_cons,List.not_mem_nil,or_false] at ho |-;rcases ho with e|e|e<;>simp[e])) fun _=> .pure hx.ok
theorem LOk.stmtsGo{cl:List UInt8}:∀(f:Nat) (acc:List Nd),Gi d acc->Pr D D (Gi d) (Cj en L cl f acc)
 | 0,_,_=>fun _ _=>trivial
 | f+1,acc,ha=>fun ts=> .look fun _=> .ite (fun _=> .bind (h.stmt D d hd _) fun x hx=>LOk.stmtsGo f (acc++[x]) (Up ha (by rw[Gi,Gi];exact⟨hx,trivial⟩))) fun _=> .pure ha
theorem LOk.stmts{cl:List UInt8}:Pr D D (Gi d) (Cp en L cl):=fun ts=>LOk.stmtsGo h hd _ _ (by rw[Gi];trivial) ts
theorem LOk.block:Pr D D (okB d) (B9 en L):=fun ts=> .look fun _=> .bind .open fun o ho _=> .bind (h.stmts (D:=D+1) (d:=d - 1) (by have:=ho.2.2.2;omega) _) fun l hl _=> .bind (Pr.close _) fun _ _ _=> .pure (by
 unfold Aj;rw[okB];exact⟨rfl,rfl,by have:=ho.2.2.2;omega,hl⟩)
theorem LOk.param:Pr D D (Pk d) (C3 en L):=fun ts=> .look fun ht=> .bind .take fun name hn _=> .bind (Pr.eat _) fun _ _ _=> .look fun _=> .bind .take fun t htk _=> .look fun _=> .ite
 (fun _=> .bind (Pr.eat _) fun _ _ _=> .bind (h.exp hd _) fun x hx _=> .pure (by
  have h1:=Gv ht hn.2.1;rw[<-hn.2.2] at h1;have h2:=htk.2.1;rw[<-htk.2.2,bAt] at h2;exact⟨rfl,h1,rfl,h2.2,rfl,hx⟩))
 fun _=> .pure (by
  have h1:=Gv ht hn.2.1;rw[<-hn.2.2] at h1;have h2:=htk.2.1;rw[<-htk.2.2,bAt] at h2;exact⟨rfl,h1,rfl,h2.2,rfl⟩)
theorem LOk.rule:Pr D D (okS d) (pRule en L):=fun ts=> .bind .take fun t _ ts=> .look fun ht=> .bind .take fun name hn _=> .bind (Pr.eat _) fun _ _ _=>
 PrA.bind (Q:=fun l=>∀p∈l,Pk d p) (Pr.list (fun a b ha hb p hp=>(List.mem_append.1 hp).elim (ha p) (hb p)) (fun p hp=>by cases hp) (fun _=> .bind (h.param hd _) fun x hx _=> .pure (fun p hp=>by rw[List.mem_singleton.1 hp];exact hx)) _) fun kids hk _=> .bind (Pr.eat _) fun _ _ _=> .bind (h.block hd _) fun b hb _=> .pure (by
  have h1:=Gv ht hn.2.1;rw[<-hn.2.2] at h1;unfold Aj;rw[okS,if_neg (by decide),if_neg (by decide),if_neg (by decide),if_neg (by decide),if_pos rfl,List.dropLast_concat];exact⟨h1,hk,Uq hb kids⟩)
theorem LOk.stm:Pr D D (okS d) (pStmt en L):=fun ts=> .look fun ht=> .ite
 (fun _=> .bind .take fun _ _ ts2=> .look fun ht2=> .bind .take fun name hn _=> .look fun _=> .bind .take fun _ _ _=> .bind (h.exp hd _) fun x hx _=> .bind (h.block hd _) fun b hb _=> .pure (by
  have h1:=Gv ht2 hn.2.1;rw[<-hn.2.2] at h1;unfold Aj;rw[okS,if_neg (by decide),if_neg (by decide),if_pos rfl,D9,D9,D9,if_pos rfl,if_neg (by decide)];exact⟨h1,rfl,hx,hb,trivial⟩)) fun _=> .ite
 (fun _=> .bind .take fun _ _ _=> .bind (h.exp hd _) fun x hx _=> .bind (h.block hd _) fun b hb _=> .look fun _=> .ite
  (fun _=> .bind .take fun _ _ _=> .bind (h.block hd _) fun c hc _=> .pure (by
   unfold Aj;rw[okS,if_neg (by decide),if_neg (by decide),if_neg (by decide),if_pos rfl,D9,D9,D9,D9,if_pos rfl,if_neg (by decide),if_neg (by decide)];exact⟨rfl,.inr rfl,hx,hb,hc,trivial⟩))
  fun _=> .pure (by
   unfold Aj;rw[okS,if_neg (by decide),if_neg (by decide),if_neg (by decide),if_pos rfl,D9,D9,D9,if_pos rfl,if_neg (by decide)];exact⟨rfl,.inl rfl,hx,hb,trivial⟩)) fun _=> .ite
 (fun _=>h.rule hd ts) fun _=> .ite
 (fun _=> .bind (h.call hd ts) fun c hc _=> .bind (Pr.eat _) fun _ _ _=> .pure (by
  unfold Aj;rw[okS,if_neg (by decide),if_pos rfl,Ea,Ea];exact⟨rfl,rfl,fun x hx=>by rw[List.mem_singleton.1 hx];exact hc.2,hc.1,trivial⟩))
 fun _=> .bind .take fun name hn _=> .bind (Pr.eat _) fun _ _ _=> .bind (h.exp hd _) fun x hx _=> .bind (Pr.eat _) fun _ _ _=> .pure (by
  have h1:=Gv ht hn.2.1;rw[<-hn.2.2] at h1;unfold Aj;rw[okS,if_pos rfl,Ea,Ea];exact⟨h1,rfl,hx,trivial⟩)
end
theorem lvl_okd:∀f,LOk en (lvl en f)
 | 0=>⟨fun _ _ _ _ _=>trivial,fun _ _ _ _ _=>trivial,fun _ _ _ _ _=>trivial⟩
 | f+1=>⟨fun _ _ hd=>(lvl_okd f).exp hd,fun _ _ hd=>(lvl_okd f).prm hd,fun _ _ hd=>(lvl_okd f).stm hd⟩
theorem S7{c}(h:Di c=true):Cd c=true:=by unfold Cd;rw[h];rfl
theorem badQ_not{c}(h:¬c<32)(h':¬c=127):Lu c=false:=by
 have h1:32<=c.toNat:=by
  rw[UInt8.lt_iff_toNat_lt] at h;exact Nat.le_of_not_lt h
 have h2:c.toNat≠127:=fun e=>h' (UInt8.toNat_inj.1 e);unfold Lu;rw[decide_eq_false_iff_not];omega
theorem Pj{c l}(hc:Lu c=false)(h:K8 l):K8 (c::l):=fun x hx=>by
 rcases List.mem_cons.1 hx with rfl|hx
 ·exact hc
 ·exact h x hx
theorem quoted_ok:∀(m:Nat) (l:List UInt8),l.length<=m->∀r,Bs l=I r->K8 r.1
 | _,[],_,r,h=>by rw[Bs] at h;cases h
 | 0,c::t,hm,_,_=>absurd hm (by simp)
 | m+1,c::t,hm,r,h=>by
  rw[lnC] at hm;rw[Bs.eq_def] at h;simp only at h
  ·split at h
   ·cases h;exact fun x hx=>(by cases hx)
   ·split at h
    ·cases h
    ·rename_i h34 hbad
     split at h
     ·cases t with
      | nil=>cases h
      | cons d t'=>
       rw[lnC] at hm;simp only at h;obtain⟨e,he,h⟩:=Option.bind_eq_some_iff.1 h;obtain⟨q,hq,rfl⟩:=Option.map_eq_some_iff.1 h;refine Pj ?_ (quoted_ok m t' (by omega) q hq);unfold Fo at he;split at he
       ·cases he;decide
       ·split at he
        ·cases he;decide
        ·split at he
         ·cases he;decide
         ·cases he
     ·obtain⟨q,hq,rfl⟩:=Option.map_eq_some_iff.1 h;refine Pj ?_ (quoted_ok m t (by omega) q hq);rw[not_or] at hbad;exact badQ_not hbad.1 hbad.2
theorem nextL_w{l k s n}(h:Bu l = .ok (k,s,n))(a b):tokW ⟨k,⟨s.toArray⟩,a,b⟩:=by
 unfold Bu at h;cases l with
 | nil=>cases h
 | cons c t=>
  simp only at h;split at h
  ·cases h;exact⟨fun e=>absurd e (by show(0:Int)≠1;decide),fun e=>absurd e (by show(0:Int)≠2;decide),fun e=>absurd e (by show(0:Int)≠3;decide)⟩
  ·split at h
   ·cases h;exact⟨fun e=>absurd e (by show(0:Int)≠1;decide),fun e=>absurd e (by show(0:Int)≠2;decide),fun e=>absurd e (by show(0:Int)≠3;decide)⟩
   ·split at h
    ·rename_i hl
     cases h;refine⟨fun _=>⟨c,t.takeWhile Cd,List.takeWhile_cons_of_pos (S7 hl),hl,fun x hx=>List.all_eq_true.1 List.all_takeWhile x hx⟩,fun e=>absurd e (by show(1:Int)≠2;decide),fun e=>absurd e (by show(1:Int)≠3;decide)⟩
    ·split at h
     ·rename_i hd
      have hk:=(nextL_ok (l:=c::t) (k:=k) (s:=s) (n:=n) (by unfold Bu;simp only[*,if_false,if_true,Bool.false_eq_true]));refine⟨fun e=>?_,fun e=>hk.2 e,fun e=>?_⟩
      ·unfold C8 at h;split at h
       ·cases h
       ·split at h
        ·cases h
        ·cases h;exact absurd e (by show(2:Int)≠1;decide)
      ·unfold C8 at h;split at h
       ·cases h
       ·split at h
        ·cases h
        ·cases h;exact absurd e (by show(2:Int)≠3;decide)
     ·split at h
      ·split at h
       ·rename_i r hr
        cases h;exact⟨fun e=>absurd e (by show(3:Int)≠1;decide),fun e=>absurd e (by show(3:Int)≠2;decide),fun _=>quoted_ok _ t (nlr _) r hr⟩
       ·cases h
      ·split at h
       ·cases h;exact⟨fun e=>absurd e (by show(4:Int)≠1;decide),fun e=>absurd e (by show(4:Int)≠2;decide),fun e=>absurd e (by show(4:Int)≠3;decide)⟩
       ·split at h
        ·cases h;exact⟨fun e=>absurd e (by show(4:Int)≠1;decide),fun e=>absurd e (by show(4:Int)≠2;decide),fun e=>absurd e (by show(4:Int)≠3;decide)⟩
        ·cases h
theorem tokensL_w:∀(f:Nat) (p:Int×Int) (l:List UInt8) (ts:List Tok),Bt f p l = .ok ts->TokW ts
 | 0,p,l,ts,h=>by cases h;exact fun x hx=>by cases hx
 | f+1,p,l,ts,h=>by
  rw[Bt] at h;split at h
  ·cases h;exact fun x hx=>(by cases hx)
  ·split at h
   ·cases h
   ·next k s n hn=>
    split at h
    ·cases h
    ·next ts' hts=>
     have h1:=tokensL_w f (passL p (l.take n)) (l.drop n) ts' hts;cases h;by_cases hk:0<k
     ·rw[if_pos hk];intro x hx;rcases List.mem_cons.1 hx with rfl|hx
      ·exact nextL_w hn _ _
      ·exact h1 x hx
     ·rw[if_neg hk];exact h1
theorem read_okd{l n}(h:readL l=I (.ok n)):∃kids,n = .mk 1 ⟨#[]⟩ 1 1 kids/\Gi 60 kids:=by
 unfold readL at h;cases hl:G6 l with
 | error e=>rw[hl] at h;cases h
 | ok ts=>
  rw[hl] at h;simp only at h;have hw:TokW ts:=by
   unfold G6 at hl;split at hl
   ·cases hl
   ·exact tokensL_w _ _ _ _ hl
  have hg:=(lvl_okd (en:=Id l) (ts.length+2)).stmts (D:=0) (d:=60) (by decide) (cl:=[]) ts hw;cases hm:Cp (Id l) (lvl (Id l) (ts.length+2)) [] ts 0 with
  | err a b c=>rw[hm] at h;cases h
  | out=>rw[hm] at h;cases h
  | ok x t1 d1=>
   rw[hm] at h hg;cases h;exact⟨x,rfl,hg.2.2⟩
def cK(t:Tok):Nat:=2*t.text.data.toList.length+63
def cT(ts:List Tok):Nat:=(ts.map cK).sum
theorem cT_cons(t ts):cT (t::ts)=cK t+cT ts:=rfl
def Cx(x:List Pc):Nat:=(Aq x).length
theorem Bo(a b):Cx (a++b)=Cx a+Cx b:=by unfold Cx;rw[Bg,lnA]
theorem Be(p b):Cx (p::b)=p.raw.length+Cx b:=by unfold Cx;rw[Aq,List.flatMap_cons,lnA];rfl
theorem lenP_nil:Cx []=0:=rfl
section
variable {en:Int×Int} {α β:Type}
def WtA(Q:Nat->α->Prop)(m:PM α)(ts:List Tok):Prop:=∀d,match m ts d with
 | .ok x ts' _=>∃k,cT ts=k+cT ts'/\Q k x
 | _=>True
def Wt(Q:Nat->α->Prop)(m:PM α):Prop:=∀ts,WtA Q m ts
variable {Q:Nat->α->Prop} {R:Nat->β->Prop} {m:PM α} {ts:List Tok}
theorem WtA.pure{x:α}(h:Q 0 x):WtA Q (PM.pure x) ts:=fun _=>⟨0,by rw[Nat.zero_add],h⟩
theorem WtA.bind{f:α->PM β}(h1:WtA Q m ts)(h2:∀x k,Q k x->Wt (fun j y=>R (k+j) y) (f x)):WtA R (PM.bind m f) ts:=by
 intro d;have g1:=h1 d;unfold PM.bind;cases hm:m ts d with
 | err a b c=>exact trivial
 | out=>exact trivial
 | ok x t1 d1=>
  rw[hm] at g1;obtain⟨k,e1,e2⟩:=g1;have g2:=h2 x k e2 t1 d1;show match f x t1 d1 with | .ok x ts' _=>_|_=>_;cases hf:f x t1 d1 with
  | err a b c=>exact trivial
  | out=>exact trivial
  | ok y t2 d2=>
   rw[hf] at g2;obtain⟨j,e3,e4⟩:=g2;exact⟨k+j,by omega,e4⟩
theorem WtA.look{f:List Tok->PM α}(h:WtA Q (f ts) ts):WtA Q (pLook f) ts:=fun d=>h d
theorem WtA.ite{c:Prop}[Decidable c]{m m':PM α}(h1:c->WtA Q m ts)(h2:¬c->WtA Q m' ts):WtA Q (if c then m else m') ts:=by
 by_cases h:c
 ·rw[if_pos h];exact h1 h
 ·rw[if_neg h];exact h2 h
theorem WtA.mono{Q':Nat->α->Prop}(h:WtA Q m ts)(hq:∀k x,Q k x->Q' k x):WtA Q' m ts:=by
 intro d;have g:=h d;cases hm:m ts d with
 | err a b c=>exact trivial
 | out=>exact trivial
 | ok x t1 d1=>
  rw[hm] at g;obtain⟨k,e1,e2⟩:=g;exact⟨k,e1,hq _ _ e2⟩
theorem WtA.take{b:Bool}:WtA (fun k t=>k=cK t/\t=A1 en ts 0) (A3 en b) ts:=by
 intro d;unfold A3;cases b with
 | false=>exact trivial
 | true=>
  cases ts with
  | nil=>exact trivial
  | cons t r=>exact⟨cK t,rfl,rfl,rfl⟩
theorem WtA.open{b:Bool}:WtA (fun k t=>k=cK t/\t=A1 en ts 0) (Dc en b) ts:=by
 intro d;unfold Dc;by_cases h:(b&&decide (60<=d))=true
 ·rw[if_pos h];exact trivial
 ·rw[if_neg h];exact WtA.take (en:=en) (b:=b) (ts:=ts) (d+1)
theorem Wt.down:Wt (fun k (_:Unit)=>k=0) pDown:=fun ts d=>⟨0,by rw[Nat.zero_add],rfl⟩
theorem Wt.eat{s:List UInt8}:Wt (fun k (_:Unit)=>63<=k) (C2 en s):=fun ts d=>(WtA.bind (WtA.take (en:=en)) (fun t k hk _=>WtA.pure (by show 63<=k+0;have:=hk.1;unfold cK at this;omega)):WtA (fun k (_:Unit)=>63<=k) (PM.bind (A3 en (Az en ts 0 s)) fun _=>PM.pure ()) ts) d
theorem Wt.close{s:List UInt8}:Wt (fun k (_:Unit)=>63<=k) (Dh en s):=fun _=>WtA.bind (Wt.eat _) fun _ k hk _=>(Wt.down _).mono fun j _ hj=>by omega
theorem Wt.listGo{cl:List UInt8}{one:PM (List Nd)}{V:List Nd->Nat}(hv:∀a b,V (a++b)=V a+V b)(h:Wt (fun k l=>V l<=k) one):∀(f:Nat) (acc:List Nd),Wt (fun k l=>V l<=V acc+k) (Ce en cl one f acc)
 | 0,_=>fun _ _=>trivial
 | f+1,acc=>fun _=> .look (.ite (fun _=> .pure (by omega)) fun _=>WtA.bind (Q:=fun _ (_:Unit)=>True) (.ite (fun _=> .pure trivial) fun _=>(Wt.eat _).mono fun _ _ _=>trivial) fun _ i _ _=> .bind (h _) fun l k hl _=>(Wt.listGo hv h f (acc++l) _).mono fun j x hx=>by rw[hv] at hx;omega)
theorem Wt.list{cl:List UInt8}{one:PM (List Nd)}{V:List Nd->Nat}(hv:∀a b,V (a++b)=V a+V b)(h0:V []=0)(h:Wt (fun k l=>V l<=k) one):Wt (fun k l=>V l<=k) (Ct en cl one):=fun ts=>(Wt.listGo hv h _ [] ts).mono fun k x hx=>by omega
end
variable {en:Int×Int}
def vE(n:Nd):Nat:=Cx (exP n)+4
def vEs:List Nd->Nat
 | []=>0
 | x::r=>vE x+vEs r
theorem Zx(a b):vEs (a++b)=vEs a+vEs b:=by
 induction a with
 | nil=>simp[vEs]
 | cons x r ih=>rw[List.cons_append,vEs,vEs,ih];omega
theorem Jj(sep)(hs:∀i,Cx (sep i)<=2):∀(l:List (List Pc)) (i:Nat),Cx (A6 sep i l)<=(l.map fun x=>Cx x+2).sum
 | [],_=>nlz _
 | x::r,i=>by
  have h1:=Jj sep hs r (i+1);have h2:=hs i;rw[A6,Bo,Bo,List.map_cons,List.sum_cons];omega
theorem lenC(i):Cx (En i)<=2:=by
 unfold En;split
 ·exact nlz _
 ·exact nlr _
theorem lenD(i):Cx (Fl i)<=2:=by
 unfold Fl;split
 ·exact nlz _
 ·split<;>exact nlr _
theorem sum_vE(l):((exPs l).map fun x=>Cx x+2).sum<=vEs l:=by
 induction l with
 | nil=>exact nlr _
 | cons x r ih=>rw[exPs,List.map_cons,List.sum_cons,vEs];unfold vE;omega
def vA(n:Nd):Nat:=Cx (arP n)+4
def vAs:List Nd->Nat
 | []=>0
 | x::r=>vA x+vAs r
theorem vAs_app(a b):vAs (a++b)=vAs a+vAs b:=by
 induction a with
 | nil=>simp[vAs]
 | cons x r ih=>rw[List.cons_append,vAs,vAs,ih];omega
theorem sum_vA(l):((arPs l).map fun x=>Cx x+2).sum<=vAs l:=by
 induction l with
 | nil=>exact nlr _
 | cons x r ih=>rw[arPs,List.map_cons,List.sum_cons,vAs];unfold vA;omega
theorem Sl(l):(quoteL l).length<=2*l.length+2:=by
 unfold quoteL;split
 ·exact nlz _
 ·rw[lnA,lnC,List.length_singleton];have:=esc_len l;omega
theorem M5(b x):Cx (brk b x)<=Cx x+2:=by
 unfold brk;split
 ·rw[Be,Bo];show 1+(Cx x+1)<=_;omega
 ·omega
structure LWt(en:Int×Int)(L:Lvl):Prop where
 expr:Wt (fun k n=>vE n<=k) L.expr
 prim:Wt (fun k n=>vE n<=k) L.prim
section
variable {L:Lvl} (h:LWt en L)
include h
theorem LWt.arg:Wt (fun k n=>vA n<=k) (pArg en L):=fun ts=> .look (.ite
 (fun _=> .bind .take fun t k hk _=> .bind (Wt.eat _) fun _ j hj _=> .bind (h.expr _) fun x i hx _=> .pure (by
  show vA (Aj 15 (A1 en ts 0) (A1 en ts 0).text [x])<=k+(j+(i+0));have h1:=hk.1;rw[hk.2] at h1;unfold cK at h1;unfold vA Aj;rw[arP,fiP,Bo];unfold vE at hx;have h2:Cx (nameP (A1 en ts 0).text.data.toList)<=(A1 en ts 0).text.data.toList.length+3:=by
   unfold nameP;split
   ·exact nlz _
   ·rw[Be];exact nlr _
  omega))
 fun _=> .bind (h.expr _) fun x i hx _=> .pure (by
  show vA (Aj 15 (A1 en ts 0) ⟨#[]⟩ [x])<=i+0;unfold vA Aj;rw[arP,fiP,Bo,show nameP (⟨#[]⟩:ByteArray).data.toList=[] from rfl,lenP_nil];unfold vE at hx;omega))
theorem LWt.call:Wt (fun k n=>vE n+63<=k) (pCall en L):=fun ts=> .look (.bind .take fun name k hk _=> .look (.bind .open fun o j hj _=> .bind
 (Wt.list vAs_app rfl (fun _=> .bind (h.arg _) fun x i hx _=> .pure (by show vAs [x]<=i+0;rw[vAs,vAs];omega)) _) fun kids i hi _=> .bind (Wt.close _) fun _ q hq _=> .pure (by
  show vE (Aj 14 name name.text kids)+63<=k+(j+(i+(q+0)));have h1:=hk.1;have h2:=hj.1;unfold cK at h1 h2;unfold vE Aj;rw[exP,if_neg (by decide),if_neg (by decide),if_neg (by decide),if_pos rfl,Be,Be,Bo];have h3:=Jj En lenC (arPs kids) 0;have h4:=sum_vA kids;show name.text.data.toList.length+(1+(Cx (A6 En 0 (arPs kids))+1))+4+63<=_;omega)))
theorem LWt.entry:Wt (fun k l=>vEs l<=k) (pEntry en L):=fun ts=> .look (.bind .take fun t k hk _=> .bind (Wt.eat _) fun _ j hj _=> .bind (h.expr _) fun x i hx _=> .pure (by
 show vEs [Aj 11 t t.text [],x]<=k+(j+(i+0));have h1:=hk.1;unfold cK at h1;rw[vEs,vEs,vEs];have h2:vE (Aj 11 t t.text [])<=2*t.text.data.toList.length+2+4:=by
  unfold vE Aj;rw[exP,if_pos rfl,Be];have:=Sl t.text.data.toList;show(quoteL t.text.data.toList).length+0+4<=_;omega
 omega))
end
variable {en:Int×Int}
theorem len_sepO(t i):Cx (G8 t i)<=t.length+2:=by
 unfold G8 opK;split
 ·exact nlz _
 ·split
  ·rw[Be,Be,Be];show 1+(t.length+(1+0))<=_;omega
  ·rw[Be,Be,Be];show 1+(t.length+(1+0))<=_;omega
theorem Zy(t a b x y):Cx (exP (.mk 16 t a b [x,y]))<=Cx (exP x)+Cx (exP y)+2*t.data.toList.length+10:=by
 rw[exP,if_neg (by decide),if_neg (by decide),if_neg (by decide),if_neg (by decide),if_pos rfl];split
 ·rw[Be,Be,onP];have:=M5 (Fk x) (exP x);show 3+(1+_)<=_;omega
 ·rw[opPs,opPs,opPs,A6,A6,A6,Bo,Bo,Bo,Bo,lenP_nil];have h1:=M5 (C6 t.data.toList 0 x) (exP x);have h2:=M5 (C6 t.data.toList (0+1) y) (exP y);have h3:=len_sepO t.data.toList (0+1);have h4:Cx (G8 t.data.toList 0)=0:=rfl;omega
theorem len_op1(t a b x):Cx (exP (.mk 16 t a b [x]))<=Cx (exP x)+10:=by
 rw[exP,if_neg (by decide),if_neg (by decide),if_neg (by decide),if_neg (by decide),if_pos rfl];split
 ·rw[Be,Be,onP];have:=M5 (Fk x) (exP x);show 3+(1+_)<=_;omega
 ·rw[opPs,opPs,A6,A6,Bo,Bo,lenP_nil];have h1:=M5 (C6 t.data.toList 0 x) (exP x);have h4:Cx (G8 t.data.toList 0)=0:=rfl;omega
section
variable {L:Lvl} (h:LWt en L)
include h
theorem LWt.prm:Wt (fun k n=>vE n<=k) (pPrim en L):=fun ts=> .look (.ite
 (fun hk3=> .bind .take fun t k hk _=> .pure (by
  show vE (Aj 11 (A1 en ts 0) (A1 en ts 0).text [])<=k+0;have h1:=hk.1;rw[hk.2] at h1;unfold cK at h1;unfold vE Aj;rw[exP,if_pos rfl,Be,lenP_nil];have:=Sl (A1 en ts 0).text.data.toList;show(quoteL (A1 en ts 0).text.data.toList).length+0+4<=_;omega)) fun _=> .ite
 (fun _=> .bind .take fun t k hk _=> .pure (by
  show vE (Aj 10 (A1 en ts 0) (A1 en ts 0).text [])<=k+0;have h1:=hk.1;rw[hk.2] at h1;unfold cK at h1;unfold vE Aj;rw[exP,if_neg (by decide),if_neg (by decide),if_neg (by decide),if_neg (by decide),if_neg (by decide),Be,lenP_nil];show(A1 en ts 0).text.data.toList.length+0+4<=_;omega)) fun _=> .ite
 (fun _=>(h.call ts).mono fun k x hx=>by omega) fun _=> .ite
 (fun _=> .bind .take fun t k hk _=> .pure (by
  show vE (Aj 9 (A1 en ts 0) (A1 en ts 0).text [])<=k+0;have h1:=hk.1;rw[hk.2] at h1;unfold cK at h1;unfold vE Aj;rw[exP,if_neg (by decide),if_neg (by decide),if_neg (by decide),if_neg (by decide),if_neg (by decide),Be,lenP_nil];show(A1 en ts 0).text.data.toList.length+0+4<=_;omega)) fun _=> .ite
 (fun _=> .bind .open fun o k hk _=> .bind (h.prim _) fun x j hx _=> .bind (Wt.down _) fun _ i hi _=> .pure (by
  show vE (Aj 16 (A1 en ts 0) (bs [110,111,116]) [x])<=k+(j+(i+0));have h1:=hk.1;unfold cK at h1;unfold vE Aj;unfold vE at hx;have:=len_op1 (bs [110,111,116]) (A1 en ts 0).line (A1 en ts 0).col x;omega)) fun _=> .ite
 (fun _=> .bind .open fun o k hk _=> .bind (Wt.list Zx rfl (fun _=> .bind (h.expr _) fun x i hx _=> .pure (by show vEs [x]<=i+0;rw[vEs,vEs];omega)) _) fun kids j hj _=> .bind (Wt.close _) fun _ i hi _=> .pure (by
  show vE (Aj 12 (A1 en ts 0) ⟨#[]⟩ kids)<=k+(j+(i+0));unfold vE Aj;rw[exP,if_neg (by decide),if_pos rfl,Be,Bo];have h3:=Jj En lenC (exPs kids) 0;have h4:=sum_vE kids;show 1+(Cx (A6 En 0 (exPs kids))+1)+4<=_;omega)) fun _=> .ite
 (fun _=> .bind .open fun o k hk _=> .bind (Wt.list Zx rfl h.entry _) fun kids j hj _=> .bind (Wt.close _) fun _ i hi _=> .pure (by
  show vE (Aj 13 (A1 en ts 0) ⟨#[]⟩ kids)<=k+(j+(i+0));unfold vE Aj;rw[exP,if_neg (by decide),if_neg (by decide),if_pos rfl,Be,Bo];have h3:=Jj Fl lenD (exPs kids) 0;have h4:=sum_vE kids;show 1+(Cx (A6 Fl 0 (exPs kids))+1)+4<=_;omega)) fun _=>
 .bind .open fun o k hk _=> .bind (h.expr _) fun x j hx _=> .bind (Wt.close _) fun _ i hi _=> .pure (by show vE x<=k+(j+(i+0));omega))
theorem LWt.sumGo:∀(f:Nat) (x:Nd),Wt (fun k n=>vE n<=vE x+k) (pSumGo en L f x)
 | 0,_=>fun _ _=>trivial
 | f+1,x=>fun ts=> .look (.ite (fun _=> .bind .take fun t k hk _=> .bind (h.prm _) fun y j hy _=>(LWt.sumGo f (Aj 16 t (bs [43]) [x,y]) _).mono fun i n hn=>by
  have h1:=hk.1;unfold cK at h1;have h2:=Zy (bs [43]) t.line t.col x y;have h3:(bs [43]).data.toList.length=1:=rfl;have h4:vE (Aj 16 t (bs [43]) [x,y])=Cx (exP (.mk 16 (bs [43]) t.line t.col [x,y]))+4:=rfl;unfold vE at *;omega) fun _=> .pure (by show vE x<=vE x+0;omega))
theorem LWt.sum:Wt (fun k n=>vE n<=k) (pSum en L):=fun ts=> .bind (h.prm ts) fun x k hx ts d=>(((LWt.sumGo h _ x ts).mono fun j n hn=>by omega):WtA (fun j n=>vE n<=k+j) (pSumGo en L (ts.length+1) x) ts) d
theorem LWt.exp:Wt (fun k n=>vE n<=k) (Dd en L):=fun ts=> .bind (h.sum ts) fun x k hx ts=> .look (.ite (fun _=> .bind .take fun t i hi _=> .bind (h.sum _) fun y j hy _=> .pure (by
 show vE (Aj 16 t t.text [x,y])<=k+(i+(j+0));have h1:=hi.1;unfold cK at h1;have h2:=Zy t.text t.line t.col x y;unfold vE Aj;unfold vE at hx hy;omega)) fun _=> .pure (by show vE x<=k+0;omega))
end
def vP(n:Nd):Nat:=Cx (paP n)+4
def vPs:List Nd->Nat
 | []=>0
 | x::r=>vP x+vPs r
theorem vPs_app(a b):vPs (a++b)=vPs a+vPs b:=by
 induction a with
 | nil=>simp[vPs]
 | cons x r ih=>rw[List.cons_append,vPs,vPs,ih];omega
theorem sum_vP(l):((l.map paP).map fun x=>Cx x+2).sum<=vPs l:=by
 induction l with
 | nil=>exact nlr _
 | cons x r ih=>rw[List.map_cons,List.map_cons,List.sum_cons,vPs];unfold vP;omega
mutual
def wS:Nd->Nat
 | .mk k t a b l=>
  if k=2 then Cx (arP (.mk k t a b l))+63
  else if k=3 then Cx (fiP l)+63
  else if k=4 then t.data.toList.length+9+Cx (fiP l)+wLa l+62
  else if k=5 then 4+Cx (fiP l)+wIf 0 l+62
  else if k=6 then t.data.toList.length+8+vPs l.dropLast+wLa l+62
  else 62
def wLa:List Nd->Nat
 | []=>0
 | [x]=>wB x
 | _::r=>wLa r
def wIf:Nat->List Nd->Nat
 | _,[]=>0
 | i,x::r=>(if i=0 then 0 else wB x+6)+wIf (i+1) r
def wB:Nd->Nat
 | .mk _ _ _ _ l=>63+wSs l
def wSs:List Nd->Nat
 | []=>0
 | x::r=>wS x+wSs r
end
theorem wSs_app(a b):wSs (a++b)=wSs a+wSs b:=by
 induction a with
 | nil=>simp[wSs]
 | cons x r ih=>rw[List.cons_append,wSs,wSs,ih];omega
theorem wLa_snoc:∀(ps:List Nd) (b:Nd),wLa (ps++[b])=wB b
 | [],b=>by rw[List.nil_append,wLa]
 | [x],b=>by rw[List.singleton_append,wLa,wLa];simp
 | x::y::r,b=>by
  rw[List.cons_append,wLa]
  ·exact wLa_snoc (y::r) b
  ·simp
mutual
theorem len_st(d:Nat):∀(n:Nd) (dd:Nat),okS dd n->d+dd<=60->Cx (stP d n)+d+1<=wS n
 | .mk k t a b l,dd,h,hd=>by
  rw[okS] at h;rw[stP,wS];by_cases h2:k=2
  ·rw[if_pos h2,if_pos h2,Bo];show _+(1+0)+d+1<=_;omega
  rw[if_neg h2] at h |-;rw[if_neg h2];by_cases h3:k=3
  ·rw[if_pos h3,if_pos h3,Bo];show _+(1+0)+d+1<=_;omega
  rw[if_neg h3] at h |-;rw[if_neg h3];by_cases h4:k=4
  ·rw[if_pos h4] at h |-;rw[if_pos h4]
   match l,h with
   | [x,y],h=>
    have hi:=h.2.2;rw[D9,D9,if_pos rfl,if_neg (by omega)] at hi;have hb:=Yz d y dd hi.2.1 hd;rw[Bo,Bo,Be sp (laP d [x,y]),show laP d [x,y]=blP d y from I9 d [x] y,show wLa [x,y]=wB y from wLa_snoc [x] y];have h9:Cx [pW forW,sp,pW t.data.toList,sp,pW inW,sp]=t.data.toList.length+8:=by
     simp[Cx,Aq,pW,sp,Pc.raw,forW,inW]<;>omega
    have h8:sp.raw.length=1:=rfl;omega
  rw[if_neg h4] at h |-;rw[if_neg h4];by_cases h5:k=5
  ·rw[if_pos h5] at h |-;rw[if_pos h5];have hb:=len_if d 0 l dd h.2.2 hd;rw[Bo,Bo,Be sp (ifP d 0 l)];have h9:Cx [pW ifW,sp]=3:=rfl;have h8:sp.raw.length=1:=rfl;omega
  rw[if_neg h5] at h |-;rw[if_neg h5];by_cases h6:k=6
  ·rw[if_pos h6] at h |-;rw[if_pos h6];have hla:=h.2.2;have hb:=len_la d l dd hla hd;rw[Bo,Bo,Bo];have h3:=Jj En lenC (l.dropLast.map paP) 0;have h4:=sum_vP l.dropLast;have h9:Cx [pW ruleW,sp,pW t.data.toList,pS 40]=t.data.toList.length+6:=by
    simp[Cx,Aq,pW,pS,sp,Pc.raw,ruleW]<;>omega
   have h8:Cx [pS 41,sp]=2:=rfl;omega
  ·rw[if_neg h6] at h;exact h.elim
theorem len_la(d:Nat):∀(l:List Nd) (dd:Nat),okLa dd l->d+dd<=60->Cx (laP d l)<=wLa l
 | [],_,h,_=>by rw[okLa] at h;exact h.elim
 | [x],dd,h,hd=>by rw[okLa] at h;rw[laP,wLa];exact Yz d x dd h hd
 | x::y::r,dd,h,hd=>by
  have h1:okLa dd (y::r):=by
   rw[okLa] at h
   ·exact h
   ·simp
  have h2:laP d (x::y::r)=laP d (y::r):=(by rw[laP];simp);have h3:wLa (x::y::r)=wLa (y::r):=(by rw[wLa];simp);rw[h2,h3];exact len_la d (y::r) dd h1 hd
theorem len_if(d:Nat):∀(i:Nat) (l:List Nd) (dd:Nat),D9 dd i l->d+dd<=60->Cx (ifP d i l)<=wIf i l
 | _,[],_,_,_=>nlz _
 | i,x::r,dd,h,hd=>by
  rw[D9] at h;have h1:=len_if d (i+1) r dd h.2 hd;rw[ifP,wIf,Bo];by_cases h0:i=0
  ·rw[if_pos h0,if_pos h0,lenP_nil];omega
  ·have h2:=h.1;rw[if_neg h0] at h2;have h3:=Yz d x dd h2 hd;rw[if_neg h0,if_neg h0];split
   ·omega
   ·rw[Bo];have h9:Cx [sp,pW elseW,sp]=6:=rfl;omega
theorem Yz(d:Nat):∀(n:Nd) (dd:Nat),okB dd n->d+dd<=60->Cx (blP d n)<=wB n
 | .mk k t a b l,dd,h,hd=>by
  rw[okB] at h;have h1:=Tz (d+1) l (dd - 1) h.2.2.2 (by omega);rw[blP,wB,Be,Be,Bo,Be,Be,lenP_nil];have e1:(pS 123).raw.length=1:=rfl;have e2:nl.raw.length=1:=rfl;have e3:(tabP d).raw.length=d:=(by show(List.replicate d (9:UInt8)).length=d;rw[List.length_replicate]);have e4:(pS 125).raw.length=1:=rfl;have:=h.2.2.1;omega
theorem Tz(d:Nat):∀(l:List Nd) (dd:Nat),Gi dd l->d+dd<=60->Cx (Dw d l)<=wSs l
 | [],_,_,_=>nlz _
 | x::r,dd,h,hd=>by
  rw[Gi] at h;have h1:=len_st d x dd h.1 hd;have h2:=Tz d r dd h.2 hd;rw[Dw,wSs,Be,Bo,Be];have e2:nl.raw.length=1:=rfl;have e3:(tabP d).raw.length=d:=(by show(List.replicate d (9:UInt8)).length=d;rw[List.length_replicate]);omega
end
structure LWs(en:Int×Int)(L:Lvl):Prop extends LWt en L where
 stmt:Wt (fun k n=>wS n<=k) L.stmt
section
variable {L:Lvl} (h:LWs en L)
include h
theorem LWs.stmtsGo{cl:List UInt8}:∀(f:Nat) (acc:List Nd),Wt (fun k l=>wSs l<=wSs acc+k) (Cj en L cl f acc)
 | 0,_=>fun _ _=>trivial
 | f+1,acc=>fun ts=> .look (.ite (fun _=> .bind (h.stmt _) fun x k hx _=>(LWs.stmtsGo f (acc++[x]) _).mono fun j l hl=>by rw[wSs_app,wSs,wSs] at hl;omega) fun _=> .pure (by show wSs acc<=wSs acc+0;omega))
theorem LWs.stmts{cl:List UInt8}:Wt (fun k l=>wSs l<=k) (Cp en L cl):=fun ts=>((LWs.stmtsGo h _ [] ts).mono fun k l hl=>by rw[wSs] at hl;omega:WtA (fun k l=>wSs l<=k) (Cj en L cl (ts.length+1) []) ts)
theorem LWs.block:Wt (fun k n=>wB n+63<=k) (B9 en L):=fun ts=> .look (.bind .open fun o k hk _=> .bind (h.stmts _) fun l j hl _=> .bind (Wt.close _) fun _ i hi _=> .pure (by
 show wB (Aj 8 o ⟨#[]⟩ l)+63<=k+(j+(i+0));have h1:=hk.1;unfold cK at h1;unfold Aj;rw[wB];omega))
theorem LWs.param:Wt (fun k n=>vP n<=k) (C3 en L):=fun ts=> .look (.bind .take fun name k hk _=> .bind (Wt.eat _) fun _ j hj _=> .look (.bind .take fun t i hi _=> .look (.ite
 (fun _=> .bind (Wt.eat _) fun _ q hq _=> .bind (h.toLWt.exp _) fun x p hx _=> .pure (by
  show vP (Aj 7 name name.text [Aj 9 t t.text [],x])<=k+(j+(i+(q+(p+0))));have h1:=hk.1;have h2:=hi.1;unfold cK at h1 h2;unfold vE at hx;unfold vP;have h9:paP (Aj 7 name name.text [Aj 9 t t.text [],x])=[pW name.text.data.toList,pS 58,sp,pW t.text.data.toList]++([sp,pS 61,sp]++exP x):=rfl;rw[h9,Bo,Bo];have e1:Cx [pW name.text.data.toList,pS 58,sp,pW t.text.data.toList]=name.text.data.toList.length+2+t.text.data.toList.length:=by
   simp[Cx,Aq,pW,pS,sp,Pc.raw]<;>omega
  have e2:Cx [sp,pS 61,sp]=3:=rfl;omega))
 fun _=> .pure (by
  show vP (Aj 7 name name.text [Aj 9 t t.text []])<=k+(j+(i+0));have h1:=hk.1;have h2:=hi.1;unfold cK at h1 h2;unfold vP;have h9:paP (Aj 7 name name.text [Aj 9 t t.text []])=[pW name.text.data.toList,pS 58,sp,pW t.text.data.toList]:=rfl;rw[h9];have e1:Cx [pW name.text.data.toList,pS 58,sp,pW t.text.data.toList]=name.text.data.toList.length+2+t.text.data.toList.length:=by
   simp[Cx,Aq,pW,pS,sp,Pc.raw]<;>omega
  omega))))
theorem LWs.rule:Wt (fun k n=>wS n<=k) (pRule en L):=fun ts=> .bind .take fun t k hk ts=> .look (.bind .take fun name j hj _=> .bind (Wt.eat _) fun _ i hi _=> .bind
 (Wt.list vPs_app rfl (fun _=> .bind (h.param _) fun x q hx _=> .pure (by show vPs [x]<=q+0;rw[vPs,vPs];omega)) _) fun kids q hq _=> .bind (Wt.eat _) fun _ p hp _=> .bind (h.block _) fun b r hb _=> .pure (by
  show wS (Aj 6 t name.text (kids++[b]))<=k+(j+(i+(q+(p+(r+0)))));have h1:=hk.1;have h2:=hj.1;unfold cK at h1 h2;unfold Aj;rw[wS,if_neg (by decide),if_neg (by decide),if_neg (by decide),if_neg (by decide),if_pos rfl,List.dropLast_concat,wLa_snoc];omega))
theorem LWs.stm:Wt (fun k n=>wS n<=k) (pStmt en L):=fun ts=> .look (.ite
 (fun _=> .bind .take fun _ k hk _=> .look (.bind .take fun name j hj _=> .look (.bind .take fun _ i hi _=> .bind (h.toLWt.exp _) fun x q hx _=> .bind (h.block _) fun b p hb _=> .pure (by
  show wS (Aj 4 (A1 en ts 0) name.text [x,b])<=k+(j+(i+(q+(p+0))));have h1:=hk.1;have h2:=hj.1;have h3:=hi.1;unfold cK at h1 h2 h3;unfold vE at hx;unfold Aj;rw[wS,if_neg (by decide),if_neg (by decide),if_pos rfl,fiP,show wLa [x,b]=wB b from wLa_snoc [x] b];omega)))) fun _=> .ite
 (fun _=> .bind .take fun _ k hk _=> .bind (h.toLWt.exp _) fun x j hx _=> .bind (h.block _) fun b i hb _=> .look (.ite
  (fun _=> .bind .take fun _ q hq _=> .bind (h.block _) fun c p hc _=> .pure (by
   show wS (Aj 5 (A1 en ts 0) ⟨#[]⟩ [x,b,c])<=k+(j+(i+(q+(p+0))));have h1:=hk.1;have h2:=hq.1;unfold cK at h1 h2;unfold vE at hx;unfold Aj;rw[wS,if_neg (by decide),if_neg (by decide),if_neg (by decide),if_pos rfl,fiP,wIf,wIf,wIf,wIf,if_pos rfl,if_neg (by omega),if_neg (by omega)];omega))
  fun _=> .pure (by
   show wS (Aj 5 (A1 en ts 0) ⟨#[]⟩ [x,b])<=k+(j+(i+0));have h1:=hk.1;unfold cK at h1;unfold vE at hx;unfold Aj;rw[wS,if_neg (by decide),if_neg (by decide),if_neg (by decide),if_pos rfl,fiP,wIf,wIf,wIf,if_pos rfl,if_neg (by omega)];omega))) fun _=> .ite
 (fun _=>h.rule ts) fun _=> .ite
 (fun _=> .bind (h.toLWt.call ts) fun c k hc _=> .bind (Wt.eat _) fun _ j hj _=> .pure (by
  show wS (Aj 3 (A1 en ts 0) ⟨#[]⟩ [c])<=k+(j+0);unfold vE at hc;unfold Aj;rw[wS,if_neg (by decide),if_pos rfl,fiP];omega))
 fun _=> .bind .take fun name k hk _=> .bind (Wt.eat _) fun _ j hj _=> .bind (h.toLWt.exp _) fun x i hx _=> .bind (Wt.eat _) fun _ q hq _=> .pure (by
  show wS (Aj 2 (A1 en ts 0) name.text [x])<=k+(j+(i+(q+0)));have h1:=hk.1;unfold cK at h1;unfold vE at hx;unfold Aj;rw[wS,if_pos rfl,arP,fiP,Bo];have h2:Cx (nameP name.text.data.toList)<=name.text.data.toList.length+3:=by
   unfold nameP;split
   ·exact nlz _
   ·rw[Be];exact nlr _
  omega))
end
theorem lvl_ws:∀f,LWs en (lvl en f)
 | 0=>⟨⟨fun _ _=>trivial,fun _ _=>trivial⟩,fun _ _=>trivial⟩
 | f+1=>⟨⟨(lvl_ws f).toLWt.exp,(lvl_ws f).toLWt.prm⟩,(lvl_ws f).stm⟩
theorem quoted_sn:∀(m:Nat) (l:List UInt8),l.length<=m->∀r,Bs l=I r->r.1.length<=r.2
 | _,[],_,r,h=>by rw[Bs] at h;cases h
 | 0,c::t,hm,_,_=>absurd hm (by simp)
 | m+1,c::t,hm,r,h=>by
  rw[lnC] at hm;rw[Bs.eq_def] at h;simp only at h;split at h
  ·cases h;exact nlz _
  ·split at h
   ·cases h
   ·split at h
    ·cases t with
     | nil=>cases h
     | cons d t'=>
      rw[lnC] at hm;simp only at h;obtain⟨e,he,h⟩:=Option.bind_eq_some_iff.1 h;obtain⟨q,hq,rfl⟩:=Option.map_eq_some_iff.1 h;have:=quoted_sn m t' (by omega) q hq;show(e::q.1).length<=q.2+2;rw[lnC];omega
    ·obtain⟨q,hq,rfl⟩:=Option.map_eq_some_iff.1 h;have:=quoted_sn m t (by omega) q hq;show(c::q.1).length<=q.2+1;rw[lnC];omega
theorem nextL_sn{l k s n}(h:Bu l = .ok (k,s,n)):s.length<=n:=by
 unfold Bu at h;cases l with
 | nil=>cases h
 | cons c t=>
  simp only at h;split at h
  ·cases h;exact nlz _
  ·split at h
   ·cases h;exact nlz _
   ·split at h
    ·cases h;exact nlr _
    ·split at h
     ·unfold C8 at h;split at h
      ·cases h
      ·split at h
       ·cases h
       ·cases h;exact nlr _
     ·split at h
      ·split at h
       ·rename_i r hr
        cases h;have:=quoted_sn _ t (nlr _) r hr;omega
       ·cases h
      ·split at h
       ·cases h;rw[List.length_take];omega
       ·split at h
        ·cases h;exact nlr _
        ·cases h
theorem tokens_cT:∀(f:Nat) (p:Int×Int) (l:List UInt8) (ts:List Tok),Bt f p l = .ok ts->cT ts<=65*l.length
 | 0,p,l,ts,h=>by cases h;exact nlz _
 | f+1,p,l,ts,h=>by
  rw[Bt] at h;split at h
  ·cases h;exact nlz _
  ·split at h
   ·cases h
   ·next k s n hn=>
    split at h
    ·cases h
    ·next ts' hts=>
     have h1:=tokens_cT f (passL p (l.take n)) (l.drop n) ts' hts;have h2:=Jd hn;simp only at h2;have h3:=nextL_sn hn;rw[List.length_drop] at h1;cases h;by_cases hk:0<k
     ·rw[if_pos hk,cT_cons];unfold cK;show 2*s.length+63+cT ts'<=_;omega
     ·rw[if_neg hk];omega
theorem print_len{l kids}(h:readL l=I (.ok (.mk 1 ⟨#[]⟩ 1 1 kids))):(printL kids).length<=65*l.length:=by
 obtain⟨kids',he,hok⟩:=read_okd h;cases he;unfold readL at h;cases hl:G6 l with
 | error e=>rw[hl] at h;cases h
 | ok ts=>
  rw[hl] at h;simp only at h;have hc:cT ts<=65*l.length:=by
   unfold G6 at hl;split at hl
   ·cases hl
   ·exact tokens_cT _ _ _ _ hl
  have hg:=(lvl_ws (en:=Id l) (ts.length+2)).stmts (cl:=[]) ts 0;cases hm:Cp (Id l) (lvl (Id l) (ts.length+2)) [] ts 0 with
  | err a b c=>rw[hm] at h;cases h
  | out=>rw[hm] at h;cases h
  | ok x t1 d1=>
   rw[hm] at h hg;cases h;obtain⟨k,e1,e2⟩:=hg;have h3:=Tz 0 kids 60 hok (by omega);show Cx (Dw 0 kids)<=_;omega
def Ms(w:World):Prop:=Lt w/\Em w
theorem Ms.below{w w'}(h:Ms w)(hb:Below w.heap.size w w'):Ms w':=⟨h.1.below hb,h.2.below hb⟩
theorem A7.bel{F w w' n v}(h:A7 F w n v)(hb:Below w.heap.size w w'):A7 F w' n v:=h.mono fun b hF hl=>⟨hF,Nat.lt_of_lt_of_le hl hb.size,hb.block b hl⟩
theorem word_lex{s}(h:Iz s)(hl:s.length<=65536):∃a b,G6 s = .ok [⟨1,bs s,a,b⟩]:=by
 have hr:Reads s [(1,s)]:=by
  have:=Reads.word h (.nil _) .nil;rw[List.append_nil] at this;exact this
 obtain⟨ts,h1,h2⟩:=hr.lex hl;obtain⟨a,b,r,rfl,h3⟩:=kts_cons h2;obtain rfl:=kts_nil h3;exact⟨a,b,h1⟩
theorem X8(s)(hs:Iz s.data.toList)(hz:s.size<=65536)(w)(hP:Ms w):Calls Tryz.prog 83 #[C s] w (Lv w):=by
 obtain⟨x,y,hx⟩:=word_lex hs (by rw[Al];exact hz);have HA:=Tl s w (by omega) hP.1;rw[hx,show bs s.data.toList=s from bytes_ext rfl] at HA;have aH:=Lq7 HA;clear HA hx hs hP;have aN:(s.toList==s.toList)=true:=(by simp);go_enter Tryz.func83,Tryz.ntmps83;go_wp2_with fail;refine aH.out.mono ?_;rintro e w1 ⟨aB,a,cap,rfl,hcap,aE⟩;obtain⟨b,off,rfl,hF,hbl,c0,c1,-,-⟩:=Yd aE (k:=0) (t:=⟨1,s,x,y⟩) rfl;simp only[nzm,naz] at c0 c1;have aA:=Lq7 aB;clear aE hcap aB hF;go_wp2_with fail;go_ret;exact⟨rfl,aA.out.alloc aA.out.size _⟩
theorem Fv(s)(hs:Eg s.data.toList)(hz:s.size<=65536)(w)(hP:Ms w):Calls Tryz.prog 43 #[C s] w (Lv w):=by
 have H1:=Lq7 (X8 s hs.1 hz w hP);have H2:=Lq7 (fun w1=>M0 s w1);rw[hs.2] at H2;clear hs hP;go_enter Tryz.func43,Tryz.ntmps43;go_wp2_with fail;refine H1.out.mono ?_;rintro e w1 ⟨rfl,aB⟩;have aA:=Lq7 aB;go_wp2_with fail;refine(H2.out w1).mono ?_;rintro e w2 ⟨rfl,aJ⟩;have aM:=Lq7 (aA.out.trans (aJ.mono aA.out.size));go_wp2_with fail;go_ret;exact⟨rfl,aM.out⟩
theorem Tp(s)(hs:NumL s.data.toList)(hz:s.size<=65536)(w)(hP:Ms w):Calls Tryz.prog 85 #[C s] w (Lv w):=by
 have h:=U9 (s:=s) hs hz;have hv0:0<=(natOf s.data.toList:Int):=Int.natCast_nonneg _;generalize (natOf s.data.toList:Int)=v at h hv0;have hp:Lib.parseIntB 64 s.data.toList = .ok v/\inR v=true/\s.size<=65536/\Lib.itoa v=s.data.toList:=by
  unfold numOf at h;split at h
  ·rename_i v' hv'
   split at h
   ·rename_i hc
    cases h;exact⟨hv',hc⟩
   ·cases h
  ·cases h
 obtain⟨h1,h2,h4,h5⟩:=hp;unfold inR at h2;simp only[bAt,decide_eq_true_eq] at h2;have Hp:=Lq7 (Tryz.strconv_ParseInt_10_at64_ok s (by omega) v h1 w);have Hn:=Lq7 (fun(w1:World) (hT1:Em w1)=>Tryz.strconv_FormatInt_10 v h2.1 h2.2 w1 hT1);have H5:=Lq7 h5;have HT:=Lq7 hP.2;clear h h1 h5 h2 hP hs;go_enter Tryz.func85,Tryz.ntmps85;go_wp2_with fail;refine Hp.out.mono ?_;rintro e w1 ⟨rfl,aQ⟩;have aB:Below w.heap.size w w1:=by
  rcases aQ with rfl|⟨t,rfl⟩
  ·exact bRf _ _
  ·exact Gl w _ t
 clear aQ;have aA:=Lq7 aB;clear aB;go_wp2_with fail;refine(Hn.out _ (HT.out.below aA.out)).mono ?_;rintro e w2 ⟨rfl,k,os,hw⟩;have Hb:Hid (Below w.heap.size w w2):=Lq7 (by
  rw[hw];exact(Cy aA.out k).trans ((below_grown (w1.drewN k) 0 os).mono (by have:=aA.out.size;simpa using this)))
 clear hw;have aN:(⟨(Lib.itoa v).toArray⟩:ByteArray)=s:=bytes_ext H5.out;rw[aN];have hst:(s.toList==s.toList)=true:=(by simp);go_wp2_with fail;go_ret;exact⟨rfl,Hb.out⟩
def Ec(g:FuncId)(n:Nd):Prop:=∀(F:Nat->Prop) (v:Value) (w:World),A7 F w n v->Ms w->Calls Tryz.prog g #[v] w (Lv w)
def PNo(w:World)(e:Ending)(w':World):Prop:=e = .returned (K false)/\Below w.heap.size w w'
theorem all1_no(g)(eg:∀args w,(callFunc g args).run Tryz.prog w = .ok (.enter g args) w)(bx n)(h:Ec g n)(F v w)(hn:A7 F w n v)(hP:Ms w)(hb:w.heap[bx]? = I (G #[.func (.func g) #[] #[]] 86 (0,0))):
  Calls Tryz.prog 42 #[v,J (I ⟨bx,0,H⟩)] w (PNo w):=by
 obtain⟨k,t,l,c,kids⟩:=n;obtain⟨a,cap,rfl,-⟩:=hn.open;have aC:Below w.heap.size w (w.alloc (G #[A B k,C t,A B l,A B c,E a kids.length cap] 27)):=(bRf _ w).alloc (nlr _) _;have HC:=Lq7 (h F _ _ (hn.bel aC) (hP.below aC));have aF:=Lq7 aC;obtain⟨s0,s1⟩:=Bj hb;clear h hn hP hb aC;go_enter Tryz.func42,Tryz.ntmps42;go_wp2_with fail;refine HC.out.mono ?_;rintro e w1 ⟨rfl,aB⟩;have aA:=Lq7 (aF.out.trans (aB.mono aF.out.size));go_wp2_with fail;go_ret;exact⟨rfl,aA.out⟩
theorem O3(g)(eg:∀args w,(callFunc g args).run Tryz.prog w = .ok (.enter g args) w)(bx F a cap l w)(hl:l.length<=140737488355328)(hr:Ac F w a (Au l))(hP:Ms w)(h:∀x∈l,Ec g x)(hb:w.heap[bx]? = I (G #[.func (.func g) #[] #[]] 86 (0,0))):
  Calls Tryz.prog 82 #[E a l.length cap,.func (.func 42) #[] #[J (I ⟨bx,0,H⟩)]] w (fun e w'=>e = .returned (A B (-1))/\Below w.heap.size w w'):=by
 have eg1:∀args w,(callFunc 42 args).run Tryz.prog w = .ok (.enter 42 args) w:=enters_of Tryz.func42 (by kernel_rfl) rfl;have Hr:=Lq7 hr;have Hb:=Lq7 hb;have HP:=Lq7 hP;have HY:=Lq7 h;clear hr hb hP h;go_enter Tryz.func82,Tryz.ntmps82;go_wp2
 go_loopw [8] (fun i wr=>∃k:Nat,i = A B k/\k<=l.length/\Hid (Below w.heap.size w wr)) (fun i _=>l.length-(intOf i).toNat)
 case atStart=>exact⟨0,rfl,nlz _,Lq7 (bRf _ _)⟩
 case round=>
  obtain⟨k,rfl,hk,aD⟩:=hrel;by_cases hlt:k<l.length
  ·have aG:l[k]? = I l[k]:=lgE hlt;generalize l[k]=x at aG;have HX:=Lq7 (HY.out x (lgM aG));obtain⟨xk,xt,xl,xc,xs⟩:=x;obtain⟨b,off,a1,c1,rfl,hF,hbl,r0,r1,r2,r3,r4,h6,aR⟩:=(Hr.out.below aD.out).nodeK aG;have HC:=Lq7 (all1_no g eg bx _ HX.out F _ wr (A7.mk xk xt xl xc c1 aR h6.out) (HP.out.below aD.out) (stays Hb.out aD.out));clear aR hF h6 aG;go_wp2_with fail;refine HC.out.mono ?_;rintro e w2 ⟨rfl,aJ⟩;have aM:=Lq7 (aD.out.trans (aJ.mono aD.out.size));go_wp2;go_roundw
   case rel=>exact⟨k+1,by go_num,by omega,aM⟩
   case measure=>simp only[intOf];omega
  ·obtain rfl:k=l.length:=(by omega);go_wp2;go_ret;exact⟨rfl,aD.out⟩
theorem Mb(g)(eg:∀args w,(callFunc g args).run Tryz.prog w = .ok (.enter g args) w)(bx F a cap l w)(hl:l.length<=140737488355328)(hr:Ac F w a (Au l))(hP:Ms w)(h:∀x∈l,Ec g x)(hb:w.heap[bx]? = I (G #[.func (.func g) #[] #[]] 86 (0,0))):
  Calls Tryz.prog 41 #[E a l.length cap,.func (.func 42) #[] #[J (I ⟨bx,0,H⟩)]] w (PNo w):=by
 have HI:=Lq7 (O3 g eg bx F a cap l w hl hr hP h hb);clear hr hP h hb;go_enter Tryz.func41,Tryz.ntmps41;go_wp2_with fail;refine HI.out.mono ?_;rintro e w1 ⟨rfl,aB⟩;have aA:=Lq7 aB;go_wp2;go_ret;exact⟨rfl,aA.out⟩
theorem Ib(g)(eg:∀args w,(callFunc g args).run Tryz.prog w = .ok (.enter g args) w)(F a cap l w)(hl:l.length<=140737488355328)(hr:Ac F w a (Au l))(hP:Ms w)(h:∀x∈l,Ec g x):
  Calls Tryz.prog 25 #[E a l.length cap,.func (.func g) #[] #[]] w (Lv w):=by
 have aC:Below w.heap.size w (w.alloc (G #[.func (.func g) #[] #[]] 86)):=(bRf _ w).alloc (nlr _) _;have HC:=Lq7 (Mb g eg w.heap.size F a cap l _ hl (hr.below aC) (hP.below aC) h (heap_alloc_new w (G #[.func (.func g) #[] #[]] 86)));have aF:=Lq7 aC;clear hr hP h aC;go_enter Tryz.func25,Tryz.ntmps25;go_wp2_with fail;refine HC.out.mono ?_;rintro e w1 ⟨rfl,aB⟩;have aA:=Lq7 (aF.out.trans (aB.mono aF.out.size));go_wp2_with fail;go_ret;exact⟨rfl,aA.out⟩
theorem egX:∀args w,(callFunc 44 args).run Tryz.prog w = .ok (.enter 44 args) w:=enters_of Tryz.func44 (by kernel_rfl) rfl
theorem egA:∀args w,(callFunc 87 args).run Tryz.prog w = .ok (.enter 87 args) w:=enters_of Tryz.func87 (by kernel_rfl) rfl
def bxN(w:World)(k:Int)(t:ByteArray)(l c:Int)(a:Option Addr)(n cap:Nat):World:=w.alloc (G #[A B k,C t,A B l,A B c,E a n cap] 27)
theorem Cn(w k t l c a n cap):Below w.heap.size w (bxN w k t l c a n cap):=(bRf _ w).alloc (nlr _) _
theorem ne_of_list{t:ByteArray}(h:t.data.toList≠[]):(t.toList==([]:List UInt8))=false:=by
 rw[Lq8]
 simpa using h
theorem name_ne{s}(h:Eg s):s≠[]:=by obtain⟨⟨c,r,hc,-⟩,-⟩:=h;rw[hc];simp
section
variable {l c:Int}
theorem Aav(t:ByteArray)(ht:Eg t.data.toList)(hz:t.size<=65536):Ec 44 (.mk 9 t l c []):=by
 intro F v w hn hP;obtain⟨a,cap,rfl,-⟩:=hn.open;have aA:=Cn w 9 t l c a 0 cap;have H1:=Lq7 (Fv t ht hz _ (hP.below aA));have aB:=Lq7 aA;unfold bxN at H1 aB;clear aA ht hn hP;rw[lnN];go_enter Tryz.func44,Tryz.ntmps44;go_wp2_with fail;refine H1.out.mono ?_;rintro e w1 ⟨rfl,aC⟩;have aH:=Lq7 (aB.out.trans (aC.mono aB.out.size));go_wp2_with fail;go_ret;exact⟨rfl,aH.out⟩
theorem mayX_num(t:ByteArray)(ht:NumL t.data.toList)(hz:t.size<=65536):Ec 44 (.mk 10 t l c []):=by
 intro F v w hn hP;obtain⟨a,cap,rfl,-⟩:=hn.open;have aA:=Cn w 10 t l c a 0 cap;have H1:=Lq7 (Tp t ht hz _ (hP.below aA));have aB:=Lq7 aA;unfold bxN at H1 aB;clear aA ht hn hP;rw[lnN];go_enter Tryz.func44,Tryz.ntmps44;go_wp2_with fail;refine H1.out.mono ?_;rintro e w1 ⟨rfl,aC⟩;have aH:=Lq7 (aB.out.trans (aC.mono aB.out.size));go_wp2_with fail;go_ret;exact⟨rfl,aH.out⟩
theorem Aaw(t:ByteArray)(ht:K8 t.data.toList)(hz:t.size<=65536):Ec 44 (.mk 11 t l c []):=by
 intro F v w hn hP;obtain⟨a,cap,rfl,-⟩:=hn.open;have aA:=Cn w 11 t l c a 0 cap;have H1:=Lq7 (Lr t (bxN w 11 t l c a 0 cap) hz);have Hne:Hid (∀o:ByteArray,o.data.toList=quoteL t.data.toList->o.toList.isEmpty=false):=Lq7 fun o ho=>by
  rw[Lq8,ho,La ht];rfl
 have aB:=Lq7 aA;unfold bxN at H1 aB;clear aA ht hn hP;rw[lnN];go_enter Tryz.func44,Tryz.ntmps44;go_wp2_with fail;refine H1.out.mono ?_;rintro e w1 ⟨o,rfl,ho,aC⟩;have hne:=Hne.out o ho;have aH:=Lq7 (aB.out.trans (aC.mono aB.out.size));clear ho aC;go_wp2_with fail;go_ret;exact⟨rfl,aH.out⟩
theorem Aax(m:List Nd)(hl:m.length<=140737488355328)(hY:∀x∈m,Ec 44 x):Ec 44 (.mk 12 ⟨#[]⟩ l c m):=by
 intro F v w hn hP;obtain⟨a,cap,rfl,hr⟩:=hn.open;have aA:=Cn w 12 ⟨#[]⟩ l c a m.length cap;have H1:=Lq7 (Ib _ egX F a cap m _ hl (hr.below aA) (hP.below aA) hY);have aB:=Lq7 aA;unfold bxN at H1 aB;clear aA hn hP hr hY;go_enter Tryz.func44,Tryz.ntmps44;go_wp2_with fail;refine H1.out.mono ?_;rintro e w1 ⟨rfl,aC⟩;have aH:=Lq7 (aB.out.trans (aC.mono aB.out.size));go_wp2_with fail;go_ret;exact⟨rfl,aH.out⟩
theorem Aay(t:ByteArray)(ht:Eg t.data.toList)(hz:t.size<=65536)(m:List Nd)(hl:m.length<=140737488355328)(hY:∀x∈m,Ec 87 x):Ec 44 (.mk 14 t l c m):=by
 intro F v w hn hP;obtain⟨a,cap,rfl,hr⟩:=hn.open;have aA:=Cn w 14 t l c a m.length cap;have H1:=Lq7 (Fv t ht hz _ (hP.below aA));have H2:=Lq7 (fun w1 (h:Below w.heap.size w w1)=>Ib _ egA F a cap m w1 hl (hr.below h) (hP.below h) hY);have H0:=Lq7 (aIn (heap_alloc_new w (G #[A B 14,C t,A B l,A B c,E a m.length cap] 27)) aA);unfold bxN at H1 H0;clear aA hn hP hr hY ht;go_enter Tryz.func44,Tryz.ntmps44;go_wp2_with fail;refine H1.out.mono ?_;rintro e w1 ⟨rfl,aC⟩;have aE:=Lq7 (aIn (stays H0.out.1 aC) (H0.out.2.trans (aC.mono H0.out.2.size)));have HA:=Lq7 (H2.out w1 aE.out.2);obtain⟨q0,q1,q2,q3,q4,q5,-⟩:=Aa aE.out.1;go_wp2_with fail;refine HA.out.mono ?_;rintro e w2 ⟨rfl,aD⟩;have aF:=Lq7 (aE.out.2.trans (aD.mono aE.out.2.size));go_wp2_with fail;go_ret;exact⟨rfl,aF.out⟩
theorem mayX_op(t:ByteArray)(m:List Nd)(ht:(t.data.toList=notW/\m.length=1)\/(t.data.toList∈opsL/\m.length=2))(hY:∀x∈m,Ec 44 x):Ec 44 (.mk 16 t l c m):=by
 intro F v w hn hP;obtain⟨a,cap,rfl,hr⟩:=hn.open;have aA:=Cn w 16 t l c a m.length cap;have hl:m.length<=140737488355328:=by rcases ht with h|h<;>omega
 have aN:([[61,61],[33,61],[105,110],[43],[110,111,116]]:List (List UInt8)).contains t.data.toList=true:=by
  rcases ht with h|h
  ·rw[h.1];decide
  ·have h1:=h.1;unfold opsL at h1;simp only[List.mem_cons,List.not_mem_nil,or_false] at h1;rcases h1 with e|e|e|e<;>rw[e]<;>decide
 have H0:=Lq7 (aIn (heap_alloc_new w (G #[A B 16,C t,A B l,A B c,E a m.length cap] 27)) aA);have H2:=Lq7 (fun w1 (h:Below w.heap.size w w1)=>Ib _ egX F a cap m w1 hl (hr.below h) (hP.below h) hY);have HC:=Lq7 (fun(W:World)=>Tryz.slices_Contains_string W.heap.size 0 5 5 (([[61,61],[33,61],[105,110],[43],[110,111,116]]:List (List UInt8)).map bs) t (W.alloc (.cells ((([[61,61],[33,61],[105,110],[43],[110,111,116]]:List (List UInt8)).map bs).map Value.string).toArray 9)) (by decide) (by omega) (N7 W 9 (([[61,61],[33,61],[105,110],[43],[110,111,116]]:List (List UInt8)).map bs)));have aQ:=Lq7 aN;unfold bxN at H0;clear aA hn hP hr hY aN hl;rcases ht with⟨hn,h1⟩|⟨hn,h1⟩
 ·obtain rfl:t=bs notW:=bytes_ext hn;have bB:(m.length:Int)=1:=(by omega);clear hn h1;generalize m.length=q at bB H0 H2 |-;obtain rfl:q=1:=(by omega);clear bB;have aJ:=HC.out (w.alloc (G #[A B 16,C (bs notW),A B l,A B c,E a 1 cap] 27));rw[show(w.alloc (G #[A B 16,C (bs notW),A B l,A B c,E a 1 cap] 27)).heap.size=w.heap.size+1 by simp] at aJ;have aZ:=Lq7 aJ;clear aJ;unfold notW at *;go_enter Tryz.func44,Tryz.ntmps44;go_wp2_with fail;refine aZ.out.mono ?_;rintro e w1 ⟨rfl,rfl⟩;rw[ltL (by decide),Ic,aQ.out];have HA:=Lq7 (H2.out _ (H0.out.2.alloc H0.out.2.size (.cells ((([[61,61],[33,61],[105,110],[43],[110,111,116]]:List (List UInt8)).map bs).map Value.string).toArray 9)));go_wp2_with fail;refine HA.out.mono ?_;rintro e w2 ⟨rfl,aD⟩;have aF:=Lq7 ((H0.out.2.alloc H0.out.2.size (.cells ((([[61,61],[33,61],[105,110],[43],[110,111,116]]:List (List UInt8)).map bs).map Value.string).toArray 9)).trans (aD.mono (by have:=H0.out.2.size;simp;omega)));go_wp2_with fail;go_ret;exact⟨rfl,aF.out⟩
 ·have hnn:(t.toList==[110,111,116])=false:=by
   have:=opsL_not hn;unfold notW at this;rw[Lq8]
   simpa using this
  generalize m.length=q at h1 H0 H2 |-;subst h1;have aJ:=HC.out (w.alloc (G #[A B 16,C t,A B l,A B c,E a 2 cap] 27));rw[show(w.alloc (G #[A B 16,C t,A B l,A B c,E a 2 cap] 27)).heap.size=w.heap.size+1 by simp] at aJ;have aZ:=Lq7 aJ;clear aJ;clear hn;go_enter Tryz.func44,Tryz.ntmps44;go_wp2_with fail;refine aZ.out.mono ?_;rintro e w1 ⟨rfl,rfl⟩;rw[ltL (by decide),Ic,aQ.out];have HA:=Lq7 (H2.out _ (H0.out.2.alloc H0.out.2.size (.cells ((([[61,61],[33,61],[105,110],[43],[110,111,116]]:List (List UInt8)).map bs).map Value.string).toArray 9)));go_wp2_with fail;refine HA.out.mono ?_;rintro e w2 ⟨rfl,aD⟩;have aF:=Lq7 ((H0.out.2.alloc H0.out.2.size (.cells ((([[61,61],[33,61],[105,110],[43],[110,111,116]]:List (List UInt8)).map bs).map Value.string).toArray 9)).trans (aD.mono (by have:=H0.out.2.size;simp;omega)));go_wp2_with fail;go_ret;exact⟨rfl,aF.out⟩
theorem Aaz(m:List Nd)(hl:m.length<=65540)(hev:m.length % 2=0)(hk:∀j x,m[j]? = I x->j % 2=0->x.kind=11)(hY:∀x∈m,Ec 44 x):Ec 44 (.mk 13 ⟨#[]⟩ l c m):=by
 intro F v w hn hP;obtain⟨a,cap,rfl,hr⟩:=hn.open;have aA:=Cn w 13 ⟨#[]⟩ l c a m.length cap;have H0:=Lq7 (aIn (heap_alloc_new w (G #[A B 13,C ⟨#[]⟩,A B l,A B c,E a m.length cap] 27)) aA);have Hr:=Lq7 hr;have HP:=Lq7 hP;have HY:=Lq7 hY;have Hk:=Lq7 hk;have hev2:((m.length:Int) % 2==0)=true:=by
  have:(m.length:Int) % 2=0:=(by omega);rw[this];rfl
 have Hev:=Lq7 hev;unfold bxN at H0;clear aA hn hP hr hY hk hev;go_enter Tryz.func44,Tryz.ntmps44;go_wp2_with fail;generalize World.alloc _ _=W0 at H0 |-
 go_loopw [55] (fun i wr=>∃j:Nat,i = A B j/\j<=m.length/\Hid (wr.heap[w.heap.size]? = I (G #[A B 13,C ⟨#[]⟩,A B l,A B c,E a m.length cap] 27 (0,0))/\Below w.heap.size w wr)) (fun i _=>m.length-(intOf i).toNat)
 case atStart=>exact⟨0,rfl,nlz _,H0⟩
 case round=>
  obtain⟨j,rfl,hj,aM⟩:=hrel;obtain⟨q0,q1,q2,q3,q4,q5,-⟩:=Aa aM.out.1;by_cases hlt:j<m.length
  ·have aR:m[j]? = I m[j]:=lgE hlt;generalize m[j]=x at aR;have HX:=Lq7 (HY.out x (lgM aR));have HK:=Lq7 (Hk.out j x aR);obtain⟨xk,xt,xl,xc,xs⟩:=x;obtain⟨b,off,a1,c1,rfl,hF,hbl,r0,r1,r2,r3,r4,h6,aV⟩:=(Hr.out.below aM.out.2).nodeK aR;have aW:Below wr.heap.size wr (wr.alloc (G #[A B xk,C xt,A B xl,A B xc,E a1 xs.length c1] 27)):=(bRf _ _).alloc (nlr _) _;have HC:=Lq7 (HX.out F _ _ (A7.mk xk xt xl xc c1 (aV.below aW) h6.out) ((HP.out.below aM.out.2).below aW));have HN:=Lq7 (aIn (heap_alloc_new wr (G #[A B xk,C xt,A B xl,A B xc,E a1 xs.length c1] 27)) aW);clear aV hF h6 aR aW;go_wp2_with fail;refine HC.out.mono ?_;rintro e w2 ⟨rfl,aD⟩;have aU:=Lq7 (aIn (stays (stays aM.out.1 HN.out.2) aD) (aM.out.2.trans ((HN.out.2.trans (aD.mono HN.out.2.size)).mono aM.out.2.size)));obtain⟨p0,p1,p2,p3,p4,p5,-⟩:=Aa (stays HN.out.1 aD);by_cases hpar:j % 2=0
   ·have hp2:((j:Int) % 2==0)=true:=by
     have:(j:Int) % 2=0:=(by omega);rw[this];rfl
    obtain rfl:xk=11:=HK.out hpar;clear hpar;go_wp2_with fail;go_roundw
    case rel=>exact⟨j+1,by go_num,by omega,aU⟩
    case measure=>simp only[intOf];omega
   ·have hp2:((j:Int) % 2==0)=false:=by
     have:(j:Int) % 2=1:=(by omega);rw[this];rfl
    clear hpar;go_wp2_with fail;go_roundw
    case rel=>exact⟨j+1,by go_num,by omega,aU⟩
    case measure=>simp only[intOf];omega
  ·obtain rfl:j=m.length:=(by omega);have Hb:=Lq7 aM.out.2;go_wp2_with fail;go_ret;exact⟨rfl,Hb.out⟩
theorem mayA_yes(t:ByteArray)(ht:t.data.toList=[]\/Eg t.data.toList)(hz:t.size<=65536)(x:Nd)(hY:Ec 44 x):Ec 87 (.mk 15 t l c [x]):=by
 intro F v w hn hP;obtain⟨a,cap,rfl,hr⟩:=hn.open;have aA:=Cn w 15 t l c a 1 cap;have H0:=Lq7 (aIn (heap_alloc_new w (G #[A B 15,C t,A B l,A B c,E a 1 cap] 27)) aA);have HX:Hid (∀w1,Below w.heap.size w w1->∃b off k2 t2 l2 c2 a2 n2 p2,a=I ⟨b,off,H⟩/\b<w1.heap.size/\w1.cell? ⟨b,off,H⟩=I (A B k2)/\w1.cell? ⟨b,off+1,H⟩=I (C t2)/\w1.cell? ⟨b,off+2,H⟩=I (A B l2)/\w1.cell? ⟨b,off+3,H⟩=I (A B c2)/\w1.cell? ⟨b,off+4,H⟩=I (E a2 n2 p2)/\Calls Tryz.prog 44 #[M #[A B k2,C t2,A B l2,A B c2,E a2 n2 p2]] w1 (Lv w1)):=Lq7 fun w1 h=>by
  obtain⟨xk,xt,xl,xc,xs⟩:=x;obtain⟨b,off,a1,c1,rfl,hF,hbl,r0,r1,r2,r3,r4,h6,aV⟩:=(hr.below h).nodeK (j:=0) rfl;simp only[nzm,naz] at r0 r1 r2 r3 r4;exact⟨b,off,_,_,_,_,_,_,_,rfl,hbl,r0,r1,r2,r3,r4,hY F _ w1 (A7.mk xk xt xl xc c1 aV h6.out) (hP.below h)⟩
 unfold bxN at H0;rw[show [x].length=1 from rfl];rcases ht with ht|ht
 ·obtain rfl:t=⟨#[]⟩:=bytes_ext ht;clear hn hP hr hY aA ht;obtain⟨b,off,k2,t2,l2,c2,a2,n2,p2,rfl,hbl,r0,r1,r2,r3,r4,hc⟩:=HX.out _ H0.out.2;have HC:=Lq7 hc;have hbw:b<w.heap.size:=by
   by_cases h:b<w.heap.size
   ·exact h
   ·have h1:=HX.out w (bRf _ _);obtain⟨b',off',_,_,_,_,_,_,_,he,hb',-⟩:=h1;cases he;exact hb'
  clear hbl hc;go_enter Tryz.func87,Tryz.ntmps87;go_wp2_with fail;refine HC.out.mono ?_;rintro e w2 ⟨rfl,aD⟩;have aF:=Lq7 (H0.out.2.trans (aD.mono H0.out.2.size));go_wp2_with fail;go_ret;exact⟨rfl,aF.out⟩
 ·have hne:=ne_of_list (name_ne ht);have H1:=Lq7 (Fv t ht hz _ (hP.below aA));unfold bxN at H1;clear hn hP hr hY aA ht;go_enter Tryz.func87,Tryz.ntmps87;go_wp2_with fail;refine H1.out.mono ?_;rintro e w1 ⟨rfl,aC⟩;have aE:=Lq7 (aIn (stays H0.out.1 aC) (H0.out.2.trans (aC.mono H0.out.2.size)));obtain⟨q0,q1,q2,q3,q4,q5,-⟩:=Aa aE.out.1;obtain⟨b,off,k2,t2,l2,c2,a2,n2,p2,rfl,hbl,r0,r1,r2,r3,r4,hc⟩:=HX.out _ aE.out.2;have HC:=Lq7 hc;clear hc;go_wp2_with fail;refine HC.out.mono ?_;rintro e w2 ⟨rfl,aD⟩;have aF:=Lq7 (aE.out.2.trans (aD.mono aE.out.2.size));go_wp2_with fail;go_ret;exact⟨rfl,aF.out⟩
end
theorem Mt{d t}:∀{l:List Nd} {i:Nat} {x:Nd},Hh d t i l->x∈l->okX d x
 | y::l,i,x,h,hx=>by
  rw[Hh] at h;rcases List.mem_cons.1 hx with rfl|hx
  ·have h1:=h.1;split at h1
   ·exact F6 (by omega) x h1.2
   ·exact h1
  ·exact Mt h.2 hx
theorem R5{d}:∀{l:List Nd},Fg d l->l.length % 2=0
 | [],_=>rfl
 | [_],h=>by rw[Fg] at h;exact h.elim
 | x::y::r,h=>by rw[Fg] at h;have:=R5 h.2.2.2;rw[lnC,lnC];omega
theorem N5{d}:∀{l:List Nd},Fg d l->(∀(j:Nat) x,l[j]? = I x->j % 2=0->x.kind=11)/\∀x∈l,okX d x
 | [],_=>⟨fun j x h=>by simp at h,fun x h=>by cases h⟩
 | [_],h=>by rw[Fg] at h;exact h.elim
 | x::y::r,h=>by
  rw[Fg] at h;obtain⟨h1,h2⟩:=N5 h.2.2.2;refine⟨fun j z hz hj=>?_,fun z hz=>?_⟩
  ·match j,hz with
   | 0,hz=>simp at hz;rw[<-hz];exact h.1
   | 1,_=>omega
   | j+2,hz=>exact h1 j z (by simpa using hz) (by omega)
  ·rcases List.mem_cons.1 hz with rfl|hz
   ·exact h.2.1
   ·rcases List.mem_cons.1 hz with rfl|hz
    ·exact h.2.2.1
    ·exact h2 z hz
theorem mayX:∀(m:Nat) (n:Nd) (d:Nat),ndH n<=m->okX d n->Ci 65536 65540 n->Ec 44 n
 | 0,n,_,h,_,_=>by have:=F7 n;omega
 | m+1,.mk k t a0 b0 l,d,hm,h,ho=>by
  have hh:ndH (.mk k t a0 b0 l)=ndHs l+2:=(by rw[ndH]);rw[hh] at hm;have aG:∀x∈l,ndH x<=m:=fun x hx=>(by have:=ndH_mem hx;omega);rw[Ci] at ho;obtain⟨hz,hlen,-,-,hks⟩:=ho;have aY:=ndOks_iff.1 hks;rw[okX] at h;by_cases h9:k=9
  ·subst h9;rw[if_pos rfl] at h;obtain⟨hn,rfl⟩:=h;exact Aav t hn hz
  rw[if_neg h9] at h;by_cases h10:k=10
  ·subst h10;rw[if_pos rfl] at h;obtain⟨hn,rfl⟩:=h;exact mayX_num t hn hz
  rw[if_neg h10] at h;by_cases h11:k=11
  ·subst h11;rw[if_pos rfl] at h;obtain⟨hn,rfl⟩:=h;exact Aaw t hn hz
  rw[if_neg h11] at h;by_cases h12:k=12
  ·subst h12;rw[if_pos rfl] at h;obtain⟨ht,-,hl⟩:=h;obtain rfl:t=⟨#[]⟩:=bytes_ext ht;exact Aax l (by omega) fun x hx=>mayX m x (d - 1) (aG x hx) (Kf hl hx) (aY x hx)
  rw[if_neg h12] at h;by_cases h13:k=13
  ·subst h13;rw[if_pos rfl] at h;obtain⟨ht,-,hl⟩:=h;obtain rfl:t=⟨#[]⟩:=bytes_ext ht;obtain⟨g1,g2⟩:=N5 hl;exact Aaz l (by omega) (R5 hl) g1 fun x hx=>mayX m x (d - 1) (aG x hx) (g2 x hx) (aY x hx)
  rw[if_neg h13] at h;by_cases h14:k=14
  ·subst h14;rw[if_pos rfl] at h;obtain⟨hn,-,hl⟩:=h;refine Aay t hn hz l (by omega) fun x hx=>?_;have bC:=Ml hl hx;have bA:=aY x hx;have hxm:=aG x hx;obtain⟨k2,t2,c2,d2,l2⟩:=x;rw[okA] at bC;obtain⟨rfl,ht2,hl2,bD⟩:=bC;obtain⟨y,rfl⟩:=G4 hl2;rw[Ci,Dj] at bA;rw[Ea] at bD;rw[ndH,ndHs] at hxm;exact mayA_yes t2 ht2 bA.1 y (mayX m y (d - 1) (by omega) bD.1 bA.2.2.2.2.1)
  rw[if_neg h14] at h;by_cases h16:k=16
  ·subst h16;rw[if_pos rfl] at h;refine mayX_op t l ?_ fun x hx=>?_
   ·by_cases hn:t.data.toList=notW
    ·rw[if_pos hn] at h;exact .inl ⟨hn,h.1.2⟩
    ·rw[if_neg hn] at h;exact .inr h.1
   ·exact mayX m x _ (aG x hx) (Mt h.2 hx) (aY x hx)
  ·rw[if_neg h16] at h;exact h.elim
theorem Kq{n d}(h:okX d n)(ho:Ci 65536 65540 n):Ec 44 n:=mayX (ndH n) n d (nlr _) h ho
def NdS(n:Nd):Prop:=∀(m:Nd),bareN n=bareN m->∀(F:Nat->Prop) (a1:Option Addr) (c1:Nat) (g1:Option Addr) (d1:Nat) (w:World),Ac F w a1 (ndsD n.kids)->Ac F w g1 (ndsD m.kids) ->
 Calls Tryz.prog 13 #[M #[A B n.kind,C n.text,A B n.lnN,A B n.clN,E a1 n.kids.length c1],M #[A B m.kind,C m.text,A B m.lnN,A B m.clN,E g1 m.kids.length d1]] w (Lv w)
theorem nd_same(k t ln cl ln' cl' l l')(hl:l.length<=140737488355328)(hbs:bareNs l=bareNs l')(hit:∀x∈l,NdS x)(F a1 c1 g1 d1 w)(hr1:Ac F w a1 (ndsD l))(hg1:Ac F w g1 (ndsD l')):
  Calls Tryz.prog 13 #[M #[A B k,C t,A B ln,A B cl,E a1 l.length c1],M #[A B k,C t,A B ln',A B cl',E g1 l.length d1]] w (Lv w):=by
 obtain⟨h1,h2,h3,h4⟩:=Cl w (G #[A B k,C t,A B ln,A B cl,E a1 l.length c1] 27) (G #[A B k,C t,A B ln',A B cl',E g1 l.length d1] 27);have H0:=Lq7 (aIn h1 (aIn h2 h3));have Hr:=Lq7 (aIn hr1 hg1);have Hit:=Lq7 hit;have hf1:(k != k)=false:=(by simp);go_enter Tryz.func13,Tryz.ntmps13;go_wp2_with fail;generalize World.alloc _ _=W0 at H0 |-
 go_loopw [30] (fun i wr=>∃j:Nat,i = A B j/\j<=l.length/\Hid (wr.heap[w.heap.size]? = I (G #[A B k,C t,A B ln,A B cl,E a1 l.length c1] 27 (0,0))/\wr.heap[w.heap.size+1]? = I (G #[A B k,C t,A B ln',A B cl',E g1 l.length d1] 27 (0,0))/\Below w.heap.size w wr)) (fun i _=>l.length-(intOf i).toNat)
 case atStart=>exact⟨0,rfl,nlz _,H0⟩
 case round=>
  obtain⟨i,rfl,hi,aC⟩:=hrel;obtain⟨q0,q1,q2,q3,q4,q5,-⟩:=Aa aC.out.1;obtain⟨p0,p1,p2,p3,p4,p5,-⟩:=Aa aC.out.2.1;by_cases hlt2:i<l.length
  ·have aD:l[i]? = I l[i]:=lgE hlt2;generalize l[i]=x at aD;have hll:=bares_len hbs;have aG:l'[i]? = I (l'[i]'(by omega)):=lgE (by omega);generalize (l'[i]'(by omega))=y at aG;have aH:=bares_get hbs aD aG;have HC:=Lq7 (Hit.out x (lgM aD) y aH);obtain⟨hk1,ht1,hs1'⟩:=bare_kind aH;have aA:=bares_len hs1';obtain⟨xk,xt,xl,xc,xs⟩:=x;obtain⟨yk,yt,yl,yc,ys⟩:=y;obtain rfl:xk=yk:=hk1;obtain rfl:xt=yt:=ht1;have aB:xs.length=ys.length:=aA;clear aH hs1' aA hll;have aJ:Below wr.heap.size wr wr.drew:=(bRf _ wr).drew;have H2:=Lq7 (aIn (stays aC.out.1 aJ) (aIn (stays aC.out.2.1 aJ) (aC.out.2.2.trans (aJ.mono aC.out.2.2.size))));obtain⟨b,off,x1,e1,hae,-,hbl,r0,r1,r2,r3,r4,hs1⟩:=(Hr.out.1.below H2.out.2.2).nd aD;obtain⟨b',off',x3,e3,hae',-,hbl',t0,t1,t2,t3,t4,hs3⟩:=(Hr.out.2.below H2.out.2.2).nd aG;subst hae;subst hae';have aE:=HC.out F x1 e1 x3 e3 wr.drew hs1 hs3;simp only[Nd.kind,Nd.text,Nd.lnN,Nd.clN,Nd.kids] at aE;rw[<-aB] at aE t4;have HK:=Lq7 aE;clear aE aB;go_wp2_with fail;refine Bm (.s 0 (.s 1 (.s 2 (.s 3 (.s 4 (.s 5 (.s 6 (.s 7 (.s 8 (.s 9 (.h 10 (.s 11 .nil)))))))))))) 99 (fun W'=>Below wr.drew.heap.size wr.drew W') (bRf _ _) ?_;generalize wr.drew=Wd at *;refine Bp (J (I ⟨w.heap.size,4,H⟩)) (fun W' hS=>?_) ?_
   ·obtain⟨z0,z1,z2,z3,z4,z5,-⟩:=Aa (stays H2.out.1 hS);go_simp
   refine Bp (E (I ⟨b,off,H⟩) l.length c1) (fun W' hS=>?_) ?_
   ·obtain⟨z0,z1,z2,z3,z4,z5,-⟩:=Aa (stays H2.out.1 hS);go_simp
   refine Aw (A B i) ?_;refine Aw (J (I ⟨b,off+i*5,H⟩)) ?_;refine Bp (M #[A B xk,C xt,A B xl,A B xc,E x1 xs.length e1]) (fun W' hS=>?_) ?_
   ·have z0:=(hS.cell (p:=⟨b,off+i*5,H⟩) hbl).trans r0;have z1:=(hS.cell (p:=⟨b,off+i*5+1,H⟩) hbl).trans r1;have z2:=(hS.cell (p:=⟨b,off+i*5+2,H⟩) hbl).trans r2;have z3:=(hS.cell (p:=⟨b,off+i*5+3,H⟩) hbl).trans r3;have z4:=(hS.cell (p:=⟨b,off+i*5+4,H⟩) hbl).trans r4;go_simp
   refine Bp (J (I ⟨w.heap.size+1,4,H⟩)) (fun W' hS=>?_) ?_
   ·obtain⟨z0,z1,z2,z3,z4,z5,-⟩:=Aa (stays H2.out.2.1 hS);go_simp
   refine Bp (E (I ⟨b',off',H⟩) l.length d1) (fun W' hS=>?_) ?_
   ·obtain⟨z0,z1,z2,z3,z4,z5,-⟩:=Aa (stays H2.out.2.1 hS);go_simp
   refine Aw (A B i) ?_;refine Aw (J (I ⟨b',off'+i*5,H⟩)) ?_;refine Bp (M #[A B xk,C xt,A B yl,A B yc,E x3 xs.length e3]) (fun W' hS=>?_) ?_
   ·have z0:=(hS.cell (p:=⟨b',off'+i*5,H⟩) hbl').trans t0;have z1:=(hS.cell (p:=⟨b',off'+i*5+1,H⟩) hbl').trans t1;have z2:=(hS.cell (p:=⟨b',off'+i*5+2,H⟩) hbl').trans t2;have z3:=(hS.cell (p:=⟨b',off'+i*5+3,H⟩) hbl').trans t3;have z4:=(hS.cell (p:=⟨b',off'+i*5+4,H⟩) hbl').trans t4;go_simp
   refine Ae rfl (fun K10 aM=>?_);go_wp2_with fail;refine HK.out.mono ?_;rintro e w2 ⟨rfl,aF⟩;have aN:=Lq7 (aIn (stays H2.out.1 aF) (aIn (stays H2.out.2.1 aF) (H2.out.2.2.trans (aF.mono H2.out.2.2.size))));have Hb2:=Lq7 aF;go_wp2_with fail;refine aM _ _ (fun _=>Hb2.out) ?_;(try simp only[gX,aP]);refine Aw (K false) ?_;refine A2 ?_;(try simp only[gX,aP]);go_wp2_with fail;go_roundw
   case rel=>exact⟨i+1,by go_num,by omega,aN⟩
   case measure=>simp only[intOf];omega
  ·go_wp2_with fail;go_ret;exact⟨rfl,aC.out.2.2⟩
theorem Xa(n):fewN n->NdS n:=
 Nd.rec (motive_1:=fun v=>fewN v->NdS v) (motive_2:=fun l=>fewNs l->∀x∈l,NdS x)
  (fun k t ln cl kids ih hv=>by
   rw[fewN] at hv;intro m hbm F a1 c1 g1 d1 w hr hg;obtain⟨mk,mt,ml,mc,ms⟩:=m;obtain⟨h1,h2,h3⟩:=bare_kind hbm.symm;obtain rfl:mk=k:=h1;obtain rfl:mt=t:=h2;have hlen:kids.length=ms.length:=bares_len h3.symm;simp only[Nd.kind,Nd.text,Nd.lnN,Nd.clN,Nd.kids] at hr hg |-;rw[<-hlen];exact nd_same mk mt ln cl ml mc kids ms hv.1 h3.symm (ih hv.2) F a1 c1 g1 d1 w hr hg)
  (fun _ x hx=>absurd hx (by simp))
  (fun v l hv hl h=>by
   rw[fewNs] at h;intro x hx;rcases List.mem_cons.1 hx with rfl|hx
   ·exact hv h.1
   ·exact hl h.2 x hx) n
end Go.Proofs.YtlbbbapiklendaaGreatDoor
