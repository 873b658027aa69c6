/-
  The walk of the statement RulesFiles. (Printed by lawfiles_gen.py.) (And what it stands on.)
-/
import Derived.Test.YtbcdimjbepigcaaGreatDoorMSameG
import Derived.Test.YtbcdimjbepigcaaGreatDoorMLoadW
import Derived.Test.YtbcdimjbepigcaaGreatDoorMParseNz
import Derived.Test.YtbcdimjbepigcaaGreatDoorMGet05
import Derived.Test.YtbcdimjbepigcaaGreatDoorMLoadGood
namespace Go.Proofs.YtbcdimjbepigcaaGreatDoor
open Go Go.RowKit
open List renaming getElem?_eq_getElem->lgE,mem_of_getElem? -> lgM,length_cons->lnC,length_nil->lnN
open Nat renaming le_refl->nlr,zero_le->nlz
open Go.Lib renaming hid->Lq7
open Go.Act renaming put->aP
open And renaming intro->aIn
open Go.RowKit.Below renaming refl->bRf
set_option maxRecDepth 100000
set_option maxHeartbeats 16000000
theorem Uu(a b a' b' w):(binOp .eql 28 (.agg #[.int .i64 a,.int .i64 b]) (.agg #[.int .i64 a',.int .i64 b'])).run Tryz.prog w = .ok (.bool (a==a'&&b==b')) w:=by
 have hS:Tryz.prog.underlying 28=some (.struct (Tryz.prog.fieldsOf 28)):=(by kernel_rfl);have hp:Tryz.prog.stoodInHeld 28=false:=(by kernel_rfl);have u3:=Tryz.underlying3;have a3:∀w,(isAgg 3).run Tryz.prog w = .ok false w:=fun w=>(by kernel_rfl);have z3:∀w,(Go.sizeOf 3).run Tryz.prog w = .ok 1 w:=fun w=>(by kernel_rfl);rw[run_eql_struct,show(10000:Nat)=9999+1 from rfl,run_equalIn_agg w 9999 28 _ _ hS hp];simp only[Program.fieldsOf,Tryz.underlying28];go_simp;cases h1:(a==a')<;>cases h2:(b==b')<;>simp_all
theorem neqPlace(a b w):(binOp .neq 28 (.agg #[.int .i64 a,.int .i64 b]) (.agg #[.int .i64 a,.int .i64 b])).run Tryz.prog w = .ok (.bool false) w:=by
 have h:=Uu a b a b w;rw[run_eql_struct] at h;rw[run_neq_struct];cases hr:(Op.equalIn 10000 28 (.agg #[.int .i64 a,.int .i64 b]) (.agg #[.int .i64 a,.int .i64 b])).run Tryz.prog w with
 | ok b w'=>
  rw[hr] at h;simp only[Result.andThen_ok] at h |-;injection h with h1 h2;injection h1 with h1;rw[h1,h2];simp
 | halt x w'=>
  rw[hr] at h;cases h
def NdC(n:Nd):Prop:=∀(F:Nat->Prop) (a1:Option Addr) (c1:Nat) (g1:Option Addr) (d1:Nat) (w:World),Af F w a1 (ndsD n.kids)->Af F w g1 (ndsD n.kids) ->
 Calls Tryz.prog 26 #[.agg #[.int .i64 n.kind,.string n.text,.int .i64 n.lnN,.int .i64 n.clN,.slice a1 n.kids.length c1],.agg #[.int .i64 n.kind,.string n.text,.int .i64 n.lnN,.int .i64 n.clN,.slice g1 n.kids.length d1]] w (PYes w)
theorem nd_node(k t ln cl l)(hl:l.length<=140737488355328)(hit:∀x∈l,NdC x)(F a1 c1 g1 d1 w)(hr1:Af F w a1 (ndsD l))(hg1:Af F w g1 (ndsD l)):
  Calls Tryz.prog 26 #[.agg #[.int .i64 k,.string t,.int .i64 ln,.int .i64 cl,.slice a1 l.length c1],.agg #[.int .i64 k,.string t,.int .i64 ln,.int .i64 cl,.slice g1 l.length d1]] w (PYes w):=by
 obtain⟨h1,h2,h3,h4⟩:=D5 w (.cells #[.int .i64 k,.string t,.int .i64 ln,.int .i64 cl,.slice a1 l.length c1] 49) (.cells #[.int .i64 k,.string t,.int .i64 ln,.int .i64 cl,.slice g1 l.length d1] 49);have H0:=Lq7 (aIn h1 (aIn h2 h3));have Hr:=Lq7 (aIn hr1 hg1);have Hit:=Lq7 hit;have hf1:(k != k)=false:=(by simp);have hnp:=neqPlace ln cl;go_enter Tryz.func26,Tryz.ntmps26;go_wp2_with fail;generalize World.alloc _ _=W0 at H0 |-
 go_loopw [37] (fun i wr=>∃j:Nat,i = .int .i64 j/\j<=l.length/\Hid (wr.heap[w.heap.size]? = some (.cells #[.int .i64 k,.string t,.int .i64 ln,.int .i64 cl,.slice a1 l.length c1] 49 (0,0))/\wr.heap[w.heap.size+1]? = some (.cells #[.int .i64 k,.string t,.int .i64 ln,.int .i64 cl,.slice g1 l.length d1] 49 (0,0))/\Below w.heap.size w wr)) (fun i _=>l.length-(intOf i).toNat)
 case atStart=>exact⟨0,rfl,nlz _,H0⟩
 case round=>
  obtain⟨i,rfl,hi,aB⟩:=hrel;obtain⟨q0,q1,q2,q3,q4,q5,-⟩:=Aa aB.out.1;obtain⟨p0,p1,p2,p3,p4,p5,-⟩:=Aa aB.out.2.1;by_cases hlt2:i<l.length
  ·have aD:l[i]? = some l[i]:=lgE hlt2;generalize l[i]=x at aD;have HC:=Lq7 (Hit.out x (lgM aD));obtain⟨xk,xt,xl,xc,xs⟩:=x;have aE:Below wr.heap.size wr wr.drew:=(bRf _ wr).drew;have H2:=Lq7 (aIn (stays aB.out.1 aE) (aIn (stays aB.out.2.1 aE) (aB.out.2.2.trans (aE.mono aB.out.2.2.size))));obtain⟨b,off,x1,e1,aM,-,hbl,r0,r1,r2,r3,r4,aN⟩:=(Hr.out.1.below H2.out.2.2).nd aD;obtain⟨b',off',x3,e3,hae',-,hbl',t0,t1,t2,t3,t4,aQ⟩:=(Hr.out.2.below H2.out.2.2).nd aD;subst aM;subst hae';have HK:=Lq7 (HC.out F x1 e1 x3 e3 wr.drew aN aQ);go_wp2_with fail;refine A4 (.s 0 (.s 1 (.s 2 (.s 3 (.s 4 (.s 5 (.s 6 (.s 7 (.s 8 (.s 9 (.h 10 (.s 11 .nil)))))))))))) 99 (fun W'=>Below wr.drew.heap.size wr.drew W') (bRf _ _) ?_;generalize wr.drew=Wd at *;refine A9 (.pointer (some ⟨w.heap.size,4,none⟩)) (fun W' hS=>?_) ?_
   ·obtain⟨z0,z1,z2,z3,z4,z5,-⟩:=Aa (stays H2.out.1 hS);go_simp
   refine A9 (.slice (some ⟨b,off,none⟩) l.length c1) (fun W' hS=>?_) ?_
   ·obtain⟨z0,z1,z2,z3,z4,z5,-⟩:=Aa (stays H2.out.1 hS);go_simp
   refine Aj (.int .i64 i) ?_;refine Aj (.pointer (some ⟨b,off+i*5,none⟩)) ?_;refine A9 (.agg #[.int .i64 xk,.string xt,.int .i64 xl,.int .i64 xc,.slice x1 xs.length e1]) (fun W' hS=>?_) ?_
   ·have z0:=(hS.cell (p:=⟨b,off+i*5,none⟩) hbl).trans r0;have z1:=(hS.cell (p:=⟨b,off+i*5+1,none⟩) hbl).trans r1;have z2:=(hS.cell (p:=⟨b,off+i*5+2,none⟩) hbl).trans r2;have z3:=(hS.cell (p:=⟨b,off+i*5+3,none⟩) hbl).trans r3;have z4:=(hS.cell (p:=⟨b,off+i*5+4,none⟩) hbl).trans r4;go_simp
   refine A9 (.pointer (some ⟨w.heap.size+1,4,none⟩)) (fun W' hS=>?_) ?_
   ·obtain⟨z0,z1,z2,z3,z4,z5,-⟩:=Aa (stays H2.out.2.1 hS);go_simp
   refine A9 (.slice (some ⟨b',off',none⟩) l.length d1) (fun W' hS=>?_) ?_
   ·obtain⟨z0,z1,z2,z3,z4,z5,-⟩:=Aa (stays H2.out.2.1 hS);go_simp
   refine Aj (.int .i64 i) ?_;refine Aj (.pointer (some ⟨b',off'+i*5,none⟩)) ?_;refine A9 (.agg #[.int .i64 xk,.string xt,.int .i64 xl,.int .i64 xc,.slice x3 xs.length e3]) (fun W' hS=>?_) ?_
   ·have z0:=(hS.cell (p:=⟨b',off'+i*5,none⟩) hbl').trans t0;have z1:=(hS.cell (p:=⟨b',off'+i*5+1,none⟩) hbl').trans t1;have z2:=(hS.cell (p:=⟨b',off'+i*5+2,none⟩) hbl').trans t2;have z3:=(hS.cell (p:=⟨b',off'+i*5+3,none⟩) hbl').trans t3;have z4:=(hS.cell (p:=⟨b',off'+i*5+4,none⟩) hbl').trans t4;go_simp
   refine Ac rfl (fun aY aC=>?_);go_wp2_with fail;refine HK.out.mono ?_;rintro e w2 ⟨rfl,aJ⟩;have aR:=Lq7 (aIn (stays H2.out.1 aJ) (aIn (stays H2.out.2.1 aJ) (H2.out.2.2.trans (aJ.mono H2.out.2.2.size))));have Hb2:=Lq7 aJ;go_wp2_with fail;refine aC _ _ (fun _=>Hb2.out) ?_;(try simp only[gX,aP]);refine Aj (.bool false) ?_;refine Ak ?_;(try simp only[gX,aP]);go_wp2_with fail;go_roundw
   case rel=>exact⟨i+1,by go_num,by omega,aR⟩
   case measure=>simp only[intOf];omega
  ·go_wp2_with fail;go_ret;exact⟨rfl,aB.out.2.2⟩
theorem nd_any(v):fewN v->NdC v:=
 Nd.rec (motive_1:=fun v=>fewN v->NdC v) (motive_2:=fun l=>fewNs l->∀x∈l,NdC x)
  (fun k t ln cl l ih h F a1 c1 g1 d1 w hr1 hg1=>by rw[fewN] at h;exact nd_node k t ln cl l h.1 (ih h.2) F a1 c1 g1 d1 w hr1 hg1)
  (fun _ x hx=>by cases hx)
  (fun v t hv ht h x hx=>by
   rw[fewNs] at h;rcases List.mem_cons.1 hx with rfl|hx
   ·exact hv h.1
   ·exact ht h.2 x hx) v
theorem Qw(rn l body x1 x2)(hl:l.length<=140737488355328)(hs:∀x∈l,A6 x.dflt)(hbn:fewNs body)(hbl:body.length<=140737488355328)(F a1 a2 g1 g2 c1 c2 d1 d2 w)(hr1:Af F w a1 (Cz l))(hr2:Af F w a2 (ndsD body))(hg1:Af F w g1 (Cz l))(hg2:Af F w g2 (ndsD body)):
  Calls Tryz.prog 12 #[.agg #[.string rn,.slice a1 l.length c1,.slice a2 body.length c2,.int .i64 x1,.int .i64 x2],.agg #[.string rn,.slice g1 l.length d1,.slice g2 body.length d2,.int .i64 x1,.int .i64 x2]] w (PYes w):=by
 obtain⟨h1,h2,h3,h4⟩:=D5 w (.cells #[.string rn,.slice a1 l.length c1,.slice a2 body.length c2,.int .i64 x1,.int .i64 x2] 38) (.cells #[.string rn,.slice g1 l.length d1,.slice g2 body.length d2,.int .i64 x1,.int .i64 x2] 38);have H0:=Lq7 (aIn h1 (aIn h2 h3));have HN:=Lq7 (nd_any (.mk 0 ⟨#[]⟩ 0 0 body) (by rw[fewN];exact⟨hbl,hbn⟩) F a2 c2 g2 d2 _ (hr2.below h3) (hg2.below h3));have Hr:=Lq7 (aIn hr1 hg1);have Hs:=Lq7 hs;have hnp:=neqPlace x1 x2;go_enter Tryz.func12,Tryz.ntmps12;go_wp2_with fail;refine HN.out.mono ?_;rintro e w1 ⟨rfl,aU⟩;have H1:=Lq7 (aIn (stays H0.out.1 aU) (aIn (stays H0.out.2.1 aU) (H0.out.2.2.trans (aU.mono H0.out.2.2.size))));obtain⟨q0,q1,q2,q3,q4,q5,-⟩:=Aa H1.out.1;go_wp2_with fail
 go_loopw [42] (fun i wr=>∃j:Nat,i = .int .i64 j/\j<=l.length/\Hid (wr.heap[w.heap.size]? = some (.cells #[.string rn,.slice a1 l.length c1,.slice a2 body.length c2,.int .i64 x1,.int .i64 x2] 38 (0,0))/\wr.heap[w.heap.size+1]? = some (.cells #[.string rn,.slice g1 l.length d1,.slice g2 body.length d2,.int .i64 x1,.int .i64 x2] 38 (0,0))/\Below w.heap.size w wr)) (fun i _=>l.length-(intOf i).toNat)
 case atStart=>exact⟨0,rfl,nlz _,H1⟩
 case round=>
  obtain⟨i,rfl,hi,aB⟩:=hrel;by_cases hlt2:i<l.length
  ·have aD:l[i]? = some l[i]:=lgE hlt2;generalize l[i]=x at aD;have hsx:=Hs.out x (lgM aD);obtain⟨nm,ty,mu,⟨xk,xn,xs,xl,xks⟩⟩:=x;have hsx':A6 (.mk xk xn xs xl xks):=hsx;have aE:Below wr.heap.size wr wr.drew:=(bRf _ wr).drew;have H2:=Lq7 (aIn (stays aB.out.1 aE) (aIn (stays aB.out.2.1 aE) (aB.out.2.2.trans (aE.mono aB.out.2.2.size))));obtain⟨b,off,u1,e1,u2,e2,aM,-,hbl,r0,r1,r2,r3,r4,r5,r6,r7,aN,hs2⟩:=(Hr.out.1.below H2.out.2.2).attr aD;obtain⟨b',off',u3,e3,u4,e4,hae',-,hbl',t0,t1,t2,t3,t4,t5,t6,t7,aQ,hs4⟩:=(Hr.out.2.below H2.out.2.2).attr aD;subst aM;subst hae';have HS:=Lq7 (fun W (h:Below wr.drew.heap.size wr.drew W)=>T9 _ hsx' F u1 e1 u2 e2 u3 e3 u4 e4 W (aN.below h) (hs2.below h) (aQ.below h) (hs4.below h));go_wp2_with fail
   go_cut [6,7] from 45 to 54 (fun v u wc=>∃gx gy:Nat,v = .pointer (some ⟨gx,0,none⟩)/\u = .pointer (some ⟨gy,0,none⟩)/\Hid (wc.heap[gx]? = some (.cells #[.string nm,.int .i64 ty,.bool mu,.int .i64 xk,.int .i64 xn,.string xs,.slice u1 xl.length e1,.slice u2 xks.length e2] 47 (0,0))/\wc.heap[gy]? = some (.cells #[.string nm,.int .i64 ty,.bool mu,.int .i64 xk,.int .i64 xn,.string xs,.slice u3 xl.length e3,.slice u4 xks.length e4] 47 (0,0))/\Below wr.drew.heap.size wr.drew wc))
   case first=>
    refine A4 (.s 0 (.s 1 (.s 2 (.s 3 (.s 4 (.s 5 (.s 6 (.s 7 (.s 8 (.s 9 (.b 10 (.h 11 (.h 12 (.h 13 .nil))) 11 (.h 10 (.h 12 (.h 13 .nil)))))))))))))) 13 (fun W'=>Below wr.drew.heap.size wr.drew W') (bRf _ _) ?_;generalize wr.drew=Wd at *;refine A9 (.pointer (some ⟨w.heap.size,1,none⟩)) (fun W' hS=>?_) ?_
    ·obtain⟨z0,z1,z2,z3,z4,z5,-⟩:=Aa (stays H2.out.1 hS);go_simp
    refine A9 (.slice (some ⟨b,off,none⟩) l.length c1) (fun W' hS=>?_) ?_
    ·obtain⟨z0,z1,z2,z3,z4,z5,-⟩:=Aa (stays H2.out.1 hS);go_simp
    refine Aj (.int .i64 i) ?_;refine Aj (.pointer (some ⟨b,off+i*8,none⟩)) ?_;refine A9 (.agg #[.string nm,.int .i64 ty,.bool mu,.int .i64 xk,.int .i64 xn,.string xs,.slice u1 xl.length e1,.slice u2 xks.length e2]) (fun W' hS=>?_) ?_
    ·have z0:=(hS.cell (p:=⟨b,off+i*8,none⟩) hbl).trans r0;have z1:=(hS.cell (p:=⟨b,off+i*8+1,none⟩) hbl).trans r1;have z2:=(hS.cell (p:=⟨b,off+i*8+2,none⟩) hbl).trans r2;have z3:=(hS.cell (p:=⟨b,off+i*8+3,none⟩) hbl).trans r3;have z4:=(hS.cell (p:=⟨b,off+i*8+4,none⟩) hbl).trans r4;have z5:=(hS.cell (p:=⟨b,off+i*8+5,none⟩) hbl).trans r5;have z6:=(hS.cell (p:=⟨b,off+i*8+6,none⟩) hbl).trans r6;have z7:=(hS.cell (p:=⟨b,off+i*8+7,none⟩) hbl).trans r7;go_simp
    refine A9 (.pointer (some ⟨w.heap.size+1,1,none⟩)) (fun W' hS=>?_) ?_
    ·obtain⟨z0,z1,z2,z3,z4,z5,-⟩:=Aa (stays H2.out.2.1 hS);go_simp
    refine A9 (.slice (some ⟨b',off',none⟩) l.length d1) (fun W' hS=>?_) ?_
    ·obtain⟨z0,z1,z2,z3,z4,z5,-⟩:=Aa (stays H2.out.2.1 hS);go_simp
    refine Aj (.int .i64 i) ?_;refine Aj (.pointer (some ⟨b',off'+i*8,none⟩)) ?_;refine A9 (.agg #[.string nm,.int .i64 ty,.bool mu,.int .i64 xk,.int .i64 xn,.string xs,.slice u3 xl.length e3,.slice u4 xks.length e4]) (fun W' hS=>?_) ?_
    ·have z0:=(hS.cell (p:=⟨b',off'+i*8,none⟩) hbl').trans t0;have z1:=(hS.cell (p:=⟨b',off'+i*8+1,none⟩) hbl').trans t1;have z2:=(hS.cell (p:=⟨b',off'+i*8+2,none⟩) hbl').trans t2;have z3:=(hS.cell (p:=⟨b',off'+i*8+3,none⟩) hbl').trans t3;have z4:=(hS.cell (p:=⟨b',off'+i*8+4,none⟩) hbl').trans t4;have z5:=(hS.cell (p:=⟨b',off'+i*8+5,none⟩) hbl').trans t5;have z6:=(hS.cell (p:=⟨b',off'+i*8+6,none⟩) hbl').trans t6;have z7:=(hS.cell (p:=⟨b',off'+i*8+7,none⟩) hbl').trans t7;go_simp
    obtain⟨n1,n2,n3,n4⟩:=D5 Wd (.cells #[.string ⟨#[]⟩,.int .i64 0,.bool false,.int .i64 0,.int .i64 0,.string ⟨#[]⟩,.slice none 0 0,.slice none 0 0] 47) (.cells #[.string ⟨#[]⟩,.int .i64 0,.bool false,.int .i64 0,.int .i64 0,.string ⟨#[]⟩,.slice none 0 0,.slice none 0 0] 47);have B0:=Lq7 (aIn ((bRf Wd.heap.size Wd).alloc (nlr _) (.cells #[.string ⟨#[]⟩,.int .i64 0,.bool false,.int .i64 0,.int .i64 0,.string ⟨#[]⟩,.slice none 0 0,.slice none 0 0] 47)) (aIn n3 (aIn n1 n2)));refine Ca rfl rfl (fun aY aC=>?_) (fun K11 aF=>?_)
    ·go_wp2_with fail;refine aC _ _ (fun _=>B0.out.1) ?_;(try simp only[gX,aP]);refine Ac rfl (fun K11 aF=>?_);go_wp2_with fail;refine aF _ _ (fun _=>B0.out.2.1) ?_;(try simp only[gX,aP]);refine Ac rfl (fun K12 aG=>?_);go_wp2_with fail;refine aG _ _ (fun _=>(D5 Wd (.cells #[.string nm,.int .i64 ty,.bool mu,.int .i64 xk,.int .i64 xn,.string xs,.slice u1 xl.length e1,.slice u2 xks.length e2] 47) (.cells #[.string ⟨#[]⟩,.int .i64 0,.bool false,.int .i64 0,.int .i64 0,.string ⟨#[]⟩,.slice none 0 0,.slice none 0 0] 47)).2.2.1) ?_;(try simp only[gX,aP]);refine Ac rfl (fun K13 aH=>?_);go_wp2_with fail;refine aH _ _ (fun h=>absurd rfl h) ?_;refine Ak ?_;(try simp only[gX,aP]);go_wp2_with fail;go_meet
     case rel=>exact⟨Wd.heap.size,Wd.heap.size+1,rfl,rfl,Lq7 ⟨(D5 Wd (.cells #[.string nm,.int .i64 ty,.bool mu,.int .i64 xk,.int .i64 xn,.string xs,.slice u1 xl.length e1,.slice u2 xks.length e2] 47) (.cells #[.string nm,.int .i64 ty,.bool mu,.int .i64 xk,.int .i64 xn,.string xs,.slice u3 xl.length e3,.slice u4 xks.length e4] 47)).1,(D5 Wd (.cells #[.string nm,.int .i64 ty,.bool mu,.int .i64 xk,.int .i64 xn,.string xs,.slice u1 xl.length e1,.slice u2 xks.length e2] 47) (.cells #[.string nm,.int .i64 ty,.bool mu,.int .i64 xk,.int .i64 xn,.string xs,.slice u3 xl.length e3,.slice u4 xks.length e4] 47)).2.1,(D5 Wd (.cells #[.string nm,.int .i64 ty,.bool mu,.int .i64 xk,.int .i64 xn,.string xs,.slice u1 xl.length e1,.slice u2 xks.length e2] 47) (.cells #[.string nm,.int .i64 ty,.bool mu,.int .i64 xk,.int .i64 xn,.string xs,.slice u3 xl.length e3,.slice u4 xks.length e4] 47)).2.2.1⟩⟩
    ·go_wp2_with fail;refine aF _ _ (fun _=>B0.out.1) ?_;(try simp only[gX,aP]);refine Ac rfl (fun aY aC=>?_);go_wp2_with fail;refine aC _ _ (fun _=>B0.out.2.1) ?_;(try simp only[gX,aP]);refine Ac rfl (fun K12 aG=>?_);go_wp2_with fail;refine aG _ _ (fun _=>(D5 Wd (.cells #[.string ⟨#[]⟩,.int .i64 0,.bool false,.int .i64 0,.int .i64 0,.string ⟨#[]⟩,.slice none 0 0,.slice none 0 0] 47) (.cells #[.string nm,.int .i64 ty,.bool mu,.int .i64 xk,.int .i64 xn,.string xs,.slice u1 xl.length e1,.slice u2 xks.length e2] 47)).2.2.1) ?_;(try simp only[gX,aP]);refine Ac rfl (fun K13 aH=>?_);go_wp2_with fail;refine aH _ _ (fun h=>absurd rfl h) ?_;refine Ak ?_;(try simp only[gX,aP]);go_wp2_with fail;go_meet
     case rel=>exact⟨Wd.heap.size+1,Wd.heap.size,rfl,rfl,Lq7 ⟨(D5 Wd (.cells #[.string nm,.int .i64 ty,.bool mu,.int .i64 xk,.int .i64 xn,.string xs,.slice u3 xl.length e3,.slice u4 xks.length e4] 47) (.cells #[.string nm,.int .i64 ty,.bool mu,.int .i64 xk,.int .i64 xn,.string xs,.slice u1 xl.length e1,.slice u2 xks.length e2] 47)).2.1,(D5 Wd (.cells #[.string nm,.int .i64 ty,.bool mu,.int .i64 xk,.int .i64 xn,.string xs,.slice u3 xl.length e3,.slice u4 xks.length e4] 47) (.cells #[.string nm,.int .i64 ty,.bool mu,.int .i64 xk,.int .i64 xn,.string xs,.slice u1 xl.length e1,.slice u2 xks.length e2] 47)).1,(D5 Wd (.cells #[.string nm,.int .i64 ty,.bool mu,.int .i64 xk,.int .i64 xn,.string xs,.slice u3 xl.length e3,.slice u4 xks.length e4] 47) (.cells #[.string nm,.int .i64 ty,.bool mu,.int .i64 xk,.int .i64 xn,.string xs,.slice u1 xl.length e1,.slice u2 xks.length e2] 47)).2.2.1⟩⟩
   case rest=>
    obtain⟨gx,gy,rfl,rfl,hcut⟩:=hcut;have H3:=Lq7 (aIn (stays H2.out.1 hcut.out.2.2) (aIn (stays H2.out.2.1 hcut.out.2.2) (H2.out.2.2.trans (hcut.out.2.2.mono H2.out.2.2.size))));have HS1:=Lq7 (HS.out _ hcut.out.2.2);obtain⟨y0,y1,y2,y3,y4,y5,y6,y7,y8,-⟩:=B6 hcut.out.1;obtain⟨v0,v1,v2,v3,v4,v5,v6,v7,v8,-⟩:=B6 hcut.out.2.1;have hf1:(ty != ty)=false:=(by simp);have hf2:(mu != mu)=false:=(by simp);go_wp2_with fail;refine HS1.out.mono ?_;rintro e w5 ⟨rfl,aW⟩;have H5:=Lq7 (aIn (stays H3.out.1 aW) (aIn (stays H3.out.2.1 aW) (H3.out.2.2.trans (aW.mono H3.out.2.2.size))));go_wp2_with fail;go_roundw
    case rel=>exact⟨i+1,by go_num,by omega,H5⟩
    case measure=>simp only[intOf];omega
  ·go_wp2_with fail;go_ret;exact⟨rfl,aB.out.2.2⟩
theorem Ug(t):getL [(rulesB,t)] rulesB=some t:=by
 rw[getL,if_pos (by simp)]
theorem Vj(t):Jy [(rulesB,t)]=loadL t.data.toList:=by
 unfold Jy;rw[Ug]
theorem Pa(t w)(hs:t.size<=9223372036854775807)(hE:Ka w)(hT:Et w)(hB:StdB w):Calls Tryz.prog 11 #[.string t] w (Me w (loadL t.data.toList) w):=by
 obtain⟨n1,n2,n3,n4⟩:=D5 w (.cells #[.int .i64 0,.int .i64 0] 28) (.cells #[.string ⟨#[82,85,76,69,83]⟩,.string t] 65);have H0:=Lq7 (PlB.mk n1 n3);have aC:Af (fun b=>b=w.heap.size+1) ((w.alloc (.cells #[.int .i64 0,.int .i64 0] 28)).alloc (.cells #[.string ⟨#[82,85,76,69,83]⟩,.string t] 65)) (some ⟨w.heap.size+1,0,none⟩) (G9 [(rulesB,t)]):=
  Af.one (cs:=[.string ⟨#[82,85,76,69,83]⟩,.string t]) n2 rfl (.cons (.one _) (.cons (.one _) .nil))
 have HL:=Lq7 (Pg _ [(rulesB,t)] _ 1 _ aC (by simp) (fun u hu=>by
  rw[Ug] at hu;cases hu;exact hs) (hE.below n3) (hT.below n3) (hB.below n3))
 rw[Vj] at HL;simp only[lnC,lnN,Nat.zero_add] at HL;have aD:=Lq7 (Or.lt hT hB);have hws:=n3.size;have aE:=here n2;go_enter Tryz.func11,Tryz.ntmps11;go_wp2_with fail;generalize World.alloc _ _=W at H0 HL aE |-;refine HL.out.mono ?_;rintro e w1 ⟨aB,hq⟩;have H1:=Lq7 (H0.out.below aB);obtain⟨p0,p1,p2,p3,p4⟩:=Av (H0.out.below aB).p0;cases hl:loadL t.data.toList with
 | error f=>
  rw[hl] at hq;obtain⟨rfl,hf⟩:=hq;obtain⟨fx,fl,fk⟩:=f;have Hf:=Lq7 hf;have Hl:=Lq7 hl;go_wp2_with fail;have H4:=H1.out.set fl fk;generalize World.setCell _ _ _=W9 at H4 |-;obtain⟨s0,s1,s2,-,-⟩:=Av H4.p0;exact bodyPost_ret (v:=.tuple #[.slice none 0 0,.int .i64 fx,.agg #[.int .i64 fl,.int .i64 fk]]) (by simp[results,Tryz.results11,go_sem,s1,s2]) rfl ⟨H4.b,by rw[Hl.out];exact⟨rfl,Hf.out⟩⟩
 | ok l=>
  rw[hl] at hq;obtain⟨a,cap,rfl,hr⟩:=hq;have Hr:=Lq7 hr;have Hl:=Lq7 hl;go_wp2_with fail;have H4:=H1.out.set 0 0;have aF:Af (Fj w) ((w1.setCell ⟨w.heap.size,0,none⟩ (.int .i64 0)).setCell ⟨w.heap.size,1,none⟩ (.int .i64 0)) a (Ds l):=Hr.out.mono fun b hb hl=>by
   have aG:b≠w.heap.size:=by
    rcases hb with hb|hb
    ·have:=aD.out b hb;omega
    ·omega
   exact⟨by
    rcases hb with hb|hb
    ·exact .inl hb
    ·exact .inr (by omega),by simpa using hl,(Ad aG 1 _).trans (Ad aG 0 _)⟩
  generalize World.setCell _ _ _=W9 at H4 aF |-;obtain⟨s0,s1,s2,-,-⟩:=Av H4.p0;exact bodyPost_ret (v:=.tuple #[.slice a l.length cap,.int .i64 0,.agg #[.int .i64 0,.int .i64 0]]) (by simp[results,Tryz.results11,go_sem,s1,s2]) rfl ⟨H4.b,by rw[Hl.out];exact⟨a,cap,rfl,aF⟩⟩
def copyRule:RuleP:=⟨⟨#[99,111,112,121]⟩,ownL++[⟨⟨#[115,114,99]⟩,5,true,vZero⟩],[],1,1⟩
theorem copy_load:loadL copyText.data.toList = .ok [copyRule]:=by
 unfold loadL;rw[copy_read]
 kernel_rfl
theorem S8(w)(hE:Ka w)(hT:Et w)(hB:StdB w):Calls Tryz.prog 8 #[] w (PYes w):=by
 have HL:=Lq7 (Pa copyText w (by decide) hE hT hB);rw[copy_load] at HL;unfold copyText at HL;go_enter Tryz.func8,Tryz.ntmps8;go_wp2_with fail;refine HL.out.mono ?_;rintro e w1 ⟨aB,a,cap,rfl,hr⟩;have aH:Below w1.heap.size w1 (w1.alloc (.cells #[.int .i64 0,.int .i64 0] 28)):=(bRf _ _).alloc (nlr _) _;have Hb:=Lq7 (aB.trans (aH.mono aB.size));obtain⟨b,off,a1,c1,a2,c2,rfl,-,hbl,r0,r1,r2,r3,r4,hra,-⟩:=(hr.below aH).rule (j:=0) rfl;obtain⟨b2,off2,y1,z1,y2,z2,rfl,-,hbl2,t0,t1,t2,-,-,-,-,-,-,-⟩:=hra.attr (j:=2) (nm:=⟨#[115,114,99]⟩) (ty:=5) (mu:=true) (k:=0) (n:=0) (s:=⟨#[]⟩) (m:=[]) (ks:=[]) rfl;simp only[Nat.zero_mul,Nat.add_zero] at r0 r1 r2 r3 r4;rw[show copyRule.attrs.length=3 from rfl] at r1;simp only[lnC,lnN,Nat.zero_add];go_wp2_with fail;go_ret;exact⟨rfl,Hb.out⟩
theorem getL_mem:∀{fs:List (ByteArray×ByteArray)} {p t:ByteArray},getL fs p=some t->∃q∈fs,q.2=t
 | f::r,p,t,h=>by
  rw[getL] at h;split at h
  ·cases h;exact⟨f,List.mem_cons_self ..,rfl⟩
  ·obtain⟨q,hq,he⟩:=getL_mem h;exact⟨q,List.mem_cons_of_mem _ hq,he⟩
def Sh(r:Except Flt (List RuleP))(l:List RuleP)(x y z:Int):Prop:=match r with
 | .ok m=>l=m/\x=0/\y=0/\z=0
 | .error f=>l=[]/\f=(x,y,z)
theorem Sh.one{r l l' x y z x' y' z'}(h:Sh r l x y z)(h':Sh r l' x' y' z'):l=l'/\x=x'/\y=y'/\z=z':=by
 cases r with
 | ok m=>exact⟨h.1.trans h'.1.symm,h.2.1.trans h'.2.1.symm,h.2.2.1.trans h'.2.2.1.symm,h.2.2.2.trans h'.2.2.2.symm⟩
 | error f=>
  have e:=h.2.symm.trans h'.2;simp only[Prod.mk.injEq] at e;exact⟨h.1.trans h'.1.symm,e.1,e.2.1,e.2.2⟩
theorem Me.uni{w0 w w' r e}(h:Me w0 r w e w'):Below w.heap.size w w'/\∃(a:Option Addr) (l:List RuleP) (cap:Nat) (x y z:Int),
  e = .returned (.tuple #[.slice a l.length cap,.int .i64 x,.agg #[.int .i64 y,.int .i64 z]])/\Af (fun _=>True) w' a (Ds l)/\Sh r l x y z:=by
 refine⟨h.1,?_⟩;cases r with
 | ok m=>
  obtain⟨-,a,cap,rfl,hr⟩:=h;exact⟨a,m,cap,0,0,0,rfl,hr.mono fun b _ hl=>⟨trivial,hl,rfl⟩,rfl,rfl,rfl,rfl⟩
 | error f=>
  obtain⟨-,rfl,-⟩:=h;exact⟨none,[],0,f.1,f.2.1,f.2.2,rfl,Af.nil _,rfl,rfl⟩
theorem S9{fs t}(h:getL fs rulesB=some t):Jy fs=loadL t.data.toList:=by unfold Jy;rw[h]
theorem Ta{fs}(h:getL fs rulesB=none):Jy fs = .ok []:=by unfold Jy;rw[h]
theorem sh_ok{s l x y z}(h:Sh (loadL s) l x y z):(∀r∈l,Nu r)/\l.length<=65540:=by
 cases hl:loadL s with
 | ok m=>rw[hl] at h;obtain⟨rfl,-⟩:=h;exact loadL_ok hl
 | error f=>rw[hl] at h;obtain⟨rfl,-⟩:=h;exact⟨fun r hr=>(by cases hr),by simp⟩
theorem Vp(F fs a cap w)(hl:fs.length<=140737488355328)(hr:Af F w a (G9 fs))(hE:Ka w)(hT:Et w)(hB:StdB w):
  Calls Tryz.prog 3 #[.slice a fs.length cap] w (PYes w):=by
 have HGr:=Lq7 (Rl F fs a cap w hl hr);have aU:=Lq7 (fun W (h:Below w.heap.size w W)=>S8 W (hE.below h) (hT.below h) (hB.below h));have bG:=Lq7 (fun(t:ByteArray) (ht:t.size<=9223372036854775807) W (h:Below w.heap.size w W)=>Pa t W ht (hE.below h) (hT.below h) (hB.below h));have bH:=Lq7 (fun(hsz:∀t,getL fs rulesB=some t->t.size<=9223372036854775807)=>Pg F fs a cap w hr hl hsz hE hT hB);have bI:=Lq7 (fun W (h:Below w.heap.size w W)=>Vk F fs a cap rulesB W hl (hr.below h));go_enter Tryz.func3,Tryz.ntmps3;go_wp2_with fail;refine HGr.out.mono ?_;rintro e w1 ⟨hw1,b,rfl,aF⟩;subst hw1;cases b;rotate_left
 ·clear aF bG bH bI;have aG:=Lq7 (aU.out _ (bRf _ w1));go_wp2_with fail;refine aG.out.mono ?_;rintro e w2 ⟨rfl,aJ⟩;have Hb2:=Lq7 aJ;go_wp2_with fail;go_ret;exact⟨rfl,Hb2.out⟩
 ·have hfw:=aF rfl;have hsz:∀t,getL fs rulesB=some t->t.size<=9223372036854775807:=fun t ht=>by
   obtain⟨q,hq,rfl⟩:=getL_mem ht;have:=(hfw.2 q hq).2;omega
  have HL1:=Lq7 (bH.out hsz);have aW:=Lq7 hsz;go_wp2_with fail;refine HL1.out.mono ?_;rintro e w2 aY;obtain⟨aJ,a1,l,c1,x,y,z,rfl,hr1,hsh⟩:=aY.uni;have aH:Below w2.heap.size w2 (w2.alloc (.cells #[.int .i64 y,.int .i64 z] 28)):=(bRf _ _).alloc (nlr _) _;have H5:=Lq7 (heap_alloc_new w2 (.cells #[.int .i64 y,.int .i64 z] 28));have bJ:=aJ.trans (aH.mono aJ.size);have bL:=Lq7 (hr1.below aH);have aZ:=Lq7 (bI.out _ bJ);have aB:=Lq7 bJ;have bM:=Lq7 hsh;unfold rulesB at aZ;go_wp2_with fail;generalize World.alloc _ _=W3 at H5 bL aZ aB |-;generalize w2.heap.size=p5 at H5 |-;refine aZ.out.mono ?_;rintro e w3 ⟨hw3,rfl⟩;subst hw3;cases hgt:getL fs ⟨#[82,85,76,69,83]⟩ with
  | none=>
   have aC:=bM.out;rw[Ta (by unfold rulesB;exact hgt)] at aC;obtain⟨rfl,rfl,rfl,rfl⟩:=aC;simp only[Option.getD_none,Option.isSome_none,lnN];obtain⟨q0,q1,q2,q3,q4⟩:=Av H5.out;have heq:=Uu 0 0 0 0;have aG:=Lq7 (aU.out _ aB.out);simp only[beq_self_eq_true,Bool.and_self] at heq;go_wp2_with fail;refine aG.out.mono ?_;rintro e w4 ⟨rfl,aM⟩;have Hb4:=Lq7 (aB.out.trans (aM.mono aB.out.size));go_wp2_with fail;go_ret;exact⟨rfl,Hb4.out⟩
  | some t=>
   have aC:=bM.out;rw[S9 (by unfold rulesB;exact hgt)] at aC;have HT1:=Lq7 (bG.out t (aW.out t (by unfold rulesB;exact hgt)) _ aB.out);have Hs0:=Lq7 aC;have bN:=Lq7 (sh_ok aC);simp only[Option.getD_some,Option.isSome_some];go_wp2_with fail;refine HT1.out.mono ?_;rintro e w4 aY;obtain⟨aM,a2,l2,c2,x2,y2,z2,rfl,hr2,bA⟩:=aY.uni;obtain⟨rfl,rfl,rfl,rfl⟩:=Hs0.out.one bA;have aH:Below w4.heap.size w4 (w4.alloc (.cells #[.int .i64 y,.int .i64 z] 28)):=(bRf _ _).alloc (nlr _) _;have bB:=Lq7 (heap_alloc_new w4 (.cells #[.int .i64 y,.int .i64 z] 28));have bC:=aM.trans (aH.mono aM.size);have HH:=Lq7 (aIn (stays H5.out bC) (aIn (bL.out.below bC) (aIn (hr2.below aH) (aB.out.trans (bC.mono aB.out.size)))));have hneq:=neqPlace y z;have hxx:(x != x)=false:=(by simp)
   go_upto_region 8 with fail
   generalize World.alloc _ _=W5 at bB HH |-;generalize w4.heap.size=p10 at bB |-;obtain⟨q0,q1,q2,q3,q4⟩:=Av HH.out.1;obtain⟨p0,p1,p2,p3,p4⟩:=Av bB.out;go_wp2_with fail
   go_loopw [11] (fun i wr=>∃j:Nat,i = .int .i64 j/\j<=l.length/\Hid (Af (fun _=>True) wr a1 (Ds l)/\Af (fun _=>True) wr a2 (Ds l)/\Below w1.heap.size w1 wr)) (fun i _=>l.length-(intOf i).toNat)
   case atStart=>exact⟨0,rfl,nlz _,Lq7 HH.out.2⟩
   case round=>
    obtain⟨j,rfl,hj,aD⟩:=hrel;have hlb:=bN.out.2;by_cases hlt:j<l.length
    ·have aN:l[j]? = some l[j]:=lgE hlt;generalize l[j]=r at aN;have aQ:=bN.out.1 r (lgM aN);obtain⟨rn,ra,rb,rx,ry⟩:=r;have bD:Below wr.heap.size wr wr.drew:=(bRf _ wr).drew;have H2:=Lq7 (aIn (aD.out.1.below bD) (aIn (aD.out.2.1.below bD) (aD.out.2.2.trans (bD.mono aD.out.2.2.size))));obtain⟨b,off,u1,e1,u2,e2,hae,-,hbl,r0,r1,r2,r3,r4,hs1,hs2⟩:=H2.out.1.rule aN;obtain⟨b',off',u3,e3,u4,e4,hae',-,hbl',t0,t1,t2,t3,t4,hs3,hs4⟩:=H2.out.2.1.rule aN;subst hae;subst hae';have HK:=Lq7 (Qw rn ra rb rx ry (by have h9:ra.length<=65550:=aQ.2.2.2;omega) aQ.1 aQ.2.1 (by have h9:rb.length<=65540:=aQ.2.2.1;omega) (fun _=>True) u1 u2 u3 u4 e1 e2 e3 e4 wr.drew hs1 hs2 hs3 hs4);go_wp2_with fail;refine A4 (.s 0 (.s 1 (.s 2 (.s 3 (.s 4 (.s 5 (.s 6 (.s 7 (.h 8 (.s 9 .nil)))))))))) 99 (fun W'=>Below wr.drew.heap.size wr.drew W') (bRf _ _) ?_;generalize wr.drew=Wd at *;refine Aj (.slice (some ⟨b,off,none⟩) l.length c1) ?_;refine Aj (.int .i64 j) ?_;refine Aj (.pointer (some ⟨b,off+j*5,none⟩)) ?_;refine A9 (.agg #[.string rn,.slice u1 ra.length e1,.slice u2 rb.length e2,.int .i64 rx,.int .i64 ry]) (fun W' hS=>?_) ?_
     ·have z0:=(hS.cell (p:=⟨b,off+j*5,none⟩) hbl).trans r0;have z1:=(hS.cell (p:=⟨b,off+j*5+1,none⟩) hbl).trans r1;have z2:=(hS.cell (p:=⟨b,off+j*5+2,none⟩) hbl).trans r2;have z3:=(hS.cell (p:=⟨b,off+j*5+3,none⟩) hbl).trans r3;have z4:=(hS.cell (p:=⟨b,off+j*5+4,none⟩) hbl).trans r4;go_simp
     refine Aj (.slice (some ⟨b',off',none⟩) l.length c2) ?_;refine Aj (.int .i64 j) ?_;refine Aj (.pointer (some ⟨b',off'+j*5,none⟩)) ?_;refine A9 (.agg #[.string rn,.slice u3 ra.length e3,.slice u4 rb.length e4,.int .i64 rx,.int .i64 ry]) (fun W' hS=>?_) ?_
     ·have z0:=(hS.cell (p:=⟨b',off'+j*5,none⟩) hbl').trans t0;have z1:=(hS.cell (p:=⟨b',off'+j*5+1,none⟩) hbl').trans t1;have z2:=(hS.cell (p:=⟨b',off'+j*5+2,none⟩) hbl').trans t2;have z3:=(hS.cell (p:=⟨b',off'+j*5+3,none⟩) hbl').trans t3;have z4:=(hS.cell (p:=⟨b',off'+j*5+4,none⟩) hbl').trans t4;go_simp
     refine Ac rfl (fun K10 bE=>?_);go_wp2_with fail;refine HK.out.mono ?_;rintro e w6 ⟨rfl,aE⟩;have bF:=Lq7 (aIn (H2.out.1.below aE) (aIn (H2.out.2.1.below aE) (H2.out.2.2.trans (aE.mono H2.out.2.2.size))));have aR:=Lq7 aE;go_wp2_with fail;refine bE _ _ (fun _=>aR.out) ?_;(try simp only[gX,aP]);refine Aj (.bool false) ?_;refine Ak ?_;(try simp only[gX,aP]);go_wp2_with fail;go_roundw
     case rel=>exact⟨j+1,by go_num,by omega,bF⟩
     case measure=>simp only[intOf];omega
    ·have aG:=Lq7 (aU.out _ aD.out.2.2);have aR:=Lq7 aD.out.2.2;go_wp2_with fail;refine aG.out.mono ?_;rintro e w6 ⟨rfl,aE⟩;have Hb7:=Lq7 (aR.out.trans (aE.mono aR.out.size));go_wp2_with fail;go_ret;exact⟨rfl,Hb7.out⟩
end Go.Proofs.YtbcdimjbepigcaaGreatDoor
