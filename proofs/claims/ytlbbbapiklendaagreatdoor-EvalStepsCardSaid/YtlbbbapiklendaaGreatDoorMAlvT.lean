/-
  The chapter's example,in plain words:its tree;what comes of it with 14 steps,and with 13. (And what it stands on.)
-/
import Derived.Test.YtlbbbapiklendaaGreatDoorMEh
import Derived.Test.YtlbbbapiklendaaGreatDoorMOwnLow
import Derived.Test.YtlbbbapiklendaaGreatDoorMKeysB
import Derived.Test.YtlbbbapiklendaaGreatDoorIter
import Derived.Test.YtlbbbapiklendaaGreatDoorMPathPart
import Derived.Test.YtlbbbapiklendaaGreatDoorMSame12
namespace Go.Proofs.YtlbbbapiklendaaGreatDoor
open Go.IntKind renaming i64->B
open Go.Value renaming int->A,string->D,slice->C
open Go.Obj renaming cells->E
open Option renaming some->J,none->I
open Go Go.RowKit Go.Maps
open List renaming getElem?_eq_getElem->lgE,mem_of_getElem? -> lgM,length_take->lnT
open Nat renaming le_refl->nlr,lt_of_lt_of_le->nll,zero_le->nlz
open Go.Lib renaming hid->Lq7
open Go.RowKit.Below renaming refl->bRf
open Go.World renaming setCell->wsC
set_option maxRecDepth 100000
set_option maxHeartbeats 16000000
theorem Zj{mp mb hv ex}(hnz:∀n st x y z,ex n st = .err x y z->x≠0)(hx:XDoes 74 mp mb hv ex):XDoes 125 mp mb hv (Pm ex):=by
 intro G c w st n v hm hG hn eC dB;obtain⟨kk,t,l,k,kids⟩:=n;obtain⟨a,cap,rfl,hr⟩:=hn.open;have hmm:=@run_makeMap Tryz.prog;obtain⟨i0,hi,hz0,hz1,hz2⟩:=info_parts infoVal;rw[Cg] at eC;obtain⟨-,hlen,aU⟩:=eC;obtain⟨h3a,h3b,h3c,eD,h3e⟩:=Gx w (E #[A B kk,D t,A B l,A B k,C a kids.length cap] 27) (E #[A B 0,A B 0,D ⟨#[]⟩,C I 0 0,C I 0 0] 53) (E #[A B 0,A B 0,A B 0] 75);have H0:=XB.start hm.ok #[A B kk,D t,A B l,A B k,C a kids.length cap] #[A B 0,A B 0,D ⟨#[]⟩,C I 0 0,C I 0 0] #[A B 0,A B 0,A B 0];have eE:DI mp mb hv G c w #[A B kk,D t,A B l,A B k,C a kids.length cap] a kids c ((((w.alloc (E #[A B kk,D t,A B l,A B k,C a kids.length cap] 27)).alloc (E #[A B 0,A B 0,D ⟨#[]⟩,C I 0 0,C I 0 0] 53)).alloc (E #[A B 0,A B 0,A B 0] 75)).alloc (.map #[] 0)) st []:=by
  generalize ((w.alloc (E #[A B kk,D t,A B l,A B k,C a kids.length cap] 27)).alloc (E #[A B 0,A B 0,D ⟨#[]⟩,C I 0 0,C I 0 0] 53)).alloc (E #[A B 0,A B 0,A B 0] 75)=W0 at *;have hb:Below w.heap.size w (W0.alloc (.map #[] 0)):=eD.alloc (by omega) _;have hs0:W0.heap.size=w.heap.size+1+1+1:=(by omega);exact⟨H0.below ((bRf _ W0).alloc (nlr _) _),by rw[<-hs0];exact NM.made _ W0,⟨fun h=>by have:=hm.ok.ml _ h;omega,fun h=>by have:=hm.ok.fl _ h;omega⟩,hm.below hb,hG.mv (.of_below c hb),fun b h=>(hG b h).1,hr.below hb⟩
 have HL:=Lq7 eE;clear h3a h3b h3c eD h3e H0 eE hm hG hr hn;obtain⟨res,bC⟩:∃res,res=Pm ex (.mk kk t l k kids) st:=⟨_,rfl⟩;rw[<-bC] at dB |-;have dC:Hid (res=EM.bind (Ep ex (kids.drop 0) []) (fun m=>Dl (J0 m) l k) st):=Lq7 bC;have eF:=Lq7 dB;have aV:=Lq7 aU;have Hx:=Lq7 hx;have Hnz:=Lq7 hnz;clear bC dB aU hx hnz;unfold ptr;go_enter Tryz.func125,Tryz.ntmps125;go_wp2_with fail;generalize World.alloc _ _=W1 at HL |-
 go_loopw [7] (fun i wr=>∃(j:Nat) (acc:List (ByteArray×Vl)) (c1:Ctx) (aQ:St),i = A B j/\j<=kids.length/\acc.length+acc.length=j/\Hid (DI mp mb hv G c w #[A B kk,D t,A B l,A B k,C a kids.length cap] a kids c1 wr aQ acc)/\Hid (res=EM.bind (Ep ex (kids.drop j) acc) (fun m=>Dl (J0 m) l k) aQ)) (fun i _=>kids.length-(intOf i).toNat)
 case atStart=>exact⟨0,[],c,st,rfl,nlz _,rfl,HL,dC⟩
 case round=>
  obtain⟨j,acc,c1,aQ,rfl,hj,hacc,hl,bD⟩:=hrel;obtain⟨r0,r1,r2,r3,r4,r5,r6,r7,r8,r9,bR⟩:=Aa hl.out.xb.na;by_cases hlt:j+1<kids.length
  ·have bS:j<kids.length:=(by omega);have dD:(j:Int)+1<kids.length:=(by omega);cases hk:kids[j] with
   | mk xk xt xl xc xs=>
   cases hk2:kids[j+1] with
   | mk vk vt vl vc vs=>
    have aR:kids[j]? = J (.mk xk xt xl xc xs):=(by rw[lgE bS,hk]);have cR:kids[j+1]? = J (.mk vk vt vl vc vs):=(by rw[lgE hlt,hk2]);have aA:kids.drop j = .mk xk xt xl xc xs :: .mk vk vt vl vc vs::kids.drop (j+1+1):=(by rw[List.drop_eq_getElem_cons bS,hk,List.drop_eq_getElem_cons hlt,hk2]);have eG:xt.size<=maxLen:=by
     have:=Ev aV.out (lgM aR);rw[Cg] at this;exact this.1
    have dE:=Lq7 eG;obtain⟨b,off,a1,c1',eH,hF,hbl,p0,p1,p2,p3,p4,eI,eJ⟩:=hl.out.row.nodeK aR;obtain⟨b',off',a2,c2',hae',-,hbl',v0,v1,v2,v3,v4,bT,dF⟩:=hl.out.row.nodeK cR;have eK:=eH.symm.trans hae';obtain rfl:b=b':=(by injection eK with h;injection h);obtain rfl:off=off':=(by injection eK with h;injection h);have bE:Below wr.heap.size wr (wr.alloc (E #[A B xk,D xt,A B xl,A B xc,C a1 xs.length c1'] 27)):=(bRf _ wr).alloc (nlr _) _;have bU:=Lq7 (hl.out.below bE);have bM:=Lq7 (heap_alloc_new wr (E #[A B xk,D xt,A B xl,A B xc,C a1 xs.length c1'] 27));have dG:=Lq7 (dF.below bE);have bW:b<(wr.alloc (E #[A B xk,D xt,A B xl,A B xc,C a1 xs.length c1'] 27)).heap.size:=nll hbl bE.size;subst eH;rcases bU.out.nm.look xt dE.out with⟨hno,bG⟩|⟨x',cs',hyes,hag',-,bG⟩;rotate_left
    ·have aB:Hid (res = .err 8 xl xc):=Lq7 (by rw[bD.out,aA,Ep,if_pos (by show(lookN acc xt).isSome=true;rw[hyes];rfl)];rfl);obtain⟨zk,zn,zs,zl,zks⟩:=x';obtain⟨b3,e3,b4,e4,rfl,-,-⟩:=hag'.val;have aW:Below (wr.alloc (E #[A B xk,D xt,A B xl,A B xc,C a1 xs.length c1'] 27)).heap.size (wr.alloc (E #[A B xk,D xt,A B xl,A B xc,C a1 xs.length c1'] 27)) ((wr.alloc (E #[A B xk,D xt,A B xl,A B xc,C a1 xs.length c1'] 27)).alloc (E #[A B zk,A B zn,D zs,C b3 zl.length e3,C b4 zks.length e4] 53)):=(bRf _ _).alloc (nlr _) _;have H6:=Lq7 (bU.out.xb.below aW);have bX:=Lq7 (stays bM.out aW);have hsz:=hl.out.xb.size;obtain⟨u0,u1,u2,u3,u4,u5,u6,u7,u8,u9,cU⟩:=Aa bM.out;clear hyes hag' aW bU bM dG hl bD hk hk2 aR cR aA eG dE eJ dF hF eI bT
     go_upto_region 8 with fail
     generalize World.alloc (World.alloc _ _) _=Wb at H6 bX |-;generalize wr.heap.size=kb at bX hsz |-;clear p0 p1 p2 p3 p4 v0 v1 v2 v3 v4 r0 r1 r2 r3 r4 r5 r6 r7 r8 r9 bR u0 u1 u2 u3 u4 u5 u6 u7 u8 u9 cU hbl hbl' bW bG;refine Ba (.s 0 (.s 1 (.s 2 (.s 3 (.h 4 (.h 5 .nil)))))) 99 (fun W'=>W'.heap[kb]? = J (E #[A B xk,D xt,A B xl,A B xc,C a1 xs.length c1'] 27 (0,0))) bX.out ?_;have H7:=Lq7 (H6.out.below ((bRf _ Wb).drew));have dH:Hid (Wb.drew.heap[kb]? = J (E #[A B xk,D xt,A B xl,A B xc,C a1 xs.length c1'] 27 (0,0))):=Lq7 bX.out;generalize Wb.drew=Wd2 at H7 dH |-;clear H6 bX;refine Ag (.agg #[A B 0,A B 0,D ⟨#[]⟩,C I 0 0,C I 0 0]) ?_;refine Ag (.pointer (J ⟨kb,2,I⟩)) ?_;refine A8 (.agg #[A B xl,A B xc]) ?_;refine Ag (.agg #[A B 8,A B xl,A B xc]) ?_;obtain⟨s0,s1,s2,s3,s4,s5,s6,s7,s8,s9,bN⟩:=Aa H7.out.vb;refine Ad rfl (fun Kx bY=>?_);go_wp2_with fail;have H8:=Lq7 (H7.out.setV (A B 0) (A B 0) (D ⟨#[]⟩) (C I 0 0) (C I 0 0));have cV:=Lq7 ((Dv (W:=Wd2) (b:=w.heap.size+1) (k:=kb) (by omega) (A B 0) (A B 0) (D ⟨#[]⟩) (C I 0 0) (C I 0 0)).trans dH.out);unfold set5 at H8;refine bY _ _ (fun _=>cV.out) ?_;generalize wsC _ _ _=W8 at H8 cV |-;(try simp only[gX,Act.put]);clear s0 s1 s2 s3 s4 s5 s6 s7 s8 s9 bN bY H7 dH;obtain⟨d0,d1,d2,d3,d4,d5,d6⟩:=Bx H8.out.fc;refine Ad rfl (fun Ky bZ=>?_);go_wp2_with fail;have H9:=Lq7 (H8.out.setF (A B 8) (A B xl) (A B xc));unfold set3 at H9;refine bZ _ _ (fun _=>((((Ae (by omega) 2 _).trans (Ae (by omega) 1 _)).trans (Ae (by omega) 0 _)).trans cV.out)) ?_;generalize wsC _ _ _=W9 at H9 |-;refine Ay ?_;(try simp only[gX,Act.put]);clear d0 d1 d2 d3 d4 d5 d6 bZ H8 cV;obtain⟨s0,s1,s2,s3,s4,s5,s6,s7,s8,s9,bN⟩:=Aa H9.out.vb;obtain⟨d0,d1,d2,d3,d4,d5,d6⟩:=Bx H9.out.fc;go_wp2_with fail;refine bodyPost_ret (v:=badV 8 xl xc) (by simp[badV,zeroV,Bo,results,Tryz.results125,go_sem,s1,s2,s3,s4,s5,d1,d2,d3]) rfl ?_;rw[aB.out];exact⟨_,H9.out.mv,rfl⟩
    ·have bH:ex (.mk vk vt vl vc vs) aQ ≠ .out:=fun h=>eF.out (by rw[bD.out,aA,Ep,if_neg (by show ¬(lookN acc xt).isSome=true;rw[hno];decide),C4 (C4 h)]);have cA:Hid (res=EM.bind (EM.bind (ex (.mk vk vt vl vc vs)) fun x=>Ep ex (kids.drop (j+2)) (acc++[(xt,x)])) (fun m=>Dl (J0 m) l k) aQ):=Lq7 (by rw[bD.out,aA,Ep,if_neg (by show ¬(lookN acc xt).isSome=true;rw[hno];decide)];rfl);have aW:Below (wr.alloc (E #[A B xk,D xt,A B xl,A B xc,C a1 xs.length c1'] 27)).heap.size (wr.alloc (E #[A B xk,D xt,A B xl,A B xc,C a1 xs.length c1'] 27)) ((wr.alloc (E #[A B xk,D xt,A B xl,A B xc,C a1 xs.length c1'] 27)).alloc (E #[A B 0,A B 0,D ⟨#[]⟩,C I 0 0,C I 0 0] 53)):=(bRf _ _).alloc (nlr _) _;have bO:=Lq7 (bU.out.below aW);have dI:=Lq7 (stays bM.out aW);have Hc:=Lq7 (Hx.out G c1 _ aQ (.mk vk vt vl vc vs) _ bO.out.ms bO.out.g (A2.mk _ _ _ _ c2' (dG.out.below aW)) (Ev aV.out (lgM cR)) bH);have dJ:=Lq7 hno;have cC:∀b,c1.M b->b<wr.heap.size:=hl.out.ms.ok.ml;have bI:=Lq7 cC;obtain⟨u0,u1,u2,u3,u4,u5,u6,u7,u8,u9,cU⟩:=Aa bM.out;unfold ptr at Hc;unfold zeroV at bG;clear hno cC bH aW bU bM dG bD hk hk2 aR cR aA eJ dF hF eI bT;go_wp2_with fail;refine Hc.out.mono ?_;rintro e w2 ⟨c2,cD,hq⟩;have dK:=Lq7 ((cD.block _ (here dI.out) (fun h=>by have:=bI.out _ h;omega)).trans dI.out);clear p0 p1 p2 p3 p4 v0 v1 v2 v3 v4 r0 r1 r2 r3 r4 r5 r6 r7 r8 r9 bR u0 u1 u2 u3 u4 u5 u6 u7 u8 u9 cU hbl hbl' bW bG Hc dI;cases hxx:ex (.mk vk vt vl vc vs) aQ with
     | out=>exact absurd hxx (fun h=>eF.out (by rw[cA.out,C4 (C4 h)]))
     | err x y z=>
      rw[hxx] at hq;obtain rfl:=hq;have aB:Hid (res = .err x y z):=Lq7 (by rw[cA.out,ebind_err (ebind_err hxx)]);have hxz:=Hnz.out _ _ _ _ _ hxx;have hxz':(x==0)=false:=(by simpa using hxz);have H1:=Lq7 (bO.out.xb.later cD);clear hxx cA bO hl cD dK dJ bI;unfold badV zeroV Bo
      go_upto_region 11 with fail
      have eL:Below w2.heap.size w2 ((w2.alloc (E #[A B 0,A B 0,D ⟨#[]⟩,C I 0 0,C I 0 0] 53)).alloc (E #[A B x,A B y,A B z] 75)):=((bRf _ w2).alloc (nlr _) _).alloc (by simp) _;have Hf:=Lq7 (heap_alloc_new (w2.alloc (E #[A B 0,A B 0,D ⟨#[]⟩,C I 0 0,C I 0 0] 53)) (E #[A B x,A B y,A B z] 75));rw[show(w2.alloc (E #[A B 0,A B 0,D ⟨#[]⟩,C I 0 0,C I 0 0] 53)).heap.size=w2.heap.size+1 by simp] at Hf;have H2:=Lq7 (H1.out.below eL);have hsz:=H1.out.size;generalize World.alloc (World.alloc _ _) _=W at H2 Hf |-;generalize hfb:w2.heap.size+1=fb at Hf hsz |-;have hsz:w.heap.size+3<=fb:=(by omega);clear eL H1 hfb;refine Ba (.s 0 (.s 1 (.h 2 (.h 3 .nil)))) 99 (fun W'=>W'.heap[fb]? = J (E #[A B x,A B y,A B z] 75 (0,0))) Hf.out ?_;have H5:=Lq7 (H2.out.below ((bRf _ W).drew));have dL:Hid (W.drew.heap[fb]? = J (E #[A B x,A B y,A B z] 75 (0,0))):=Lq7 Hf.out;generalize W.drew=Wd at H5 dL |-;clear H2 Hf;refine Ag (.agg #[A B 0,A B 0,D ⟨#[]⟩,C I 0 0,C I 0 0]) ?_;refine A8 (.agg #[A B x,A B y,A B z]) ?_;obtain⟨s0,s1,s2,s3,s4,s5,s6,s7,s8,s9,bN⟩:=Aa H5.out.vb;refine Ad rfl (fun Kx bY=>?_);go_wp2_with fail;have H6:=Lq7 (H5.out.setV (A B 0) (A B 0) (D ⟨#[]⟩) (C I 0 0) (C I 0 0));have cW:=Lq7 ((Dv (W:=Wd) (b:=w.heap.size+1) (k:=fb) (by omega) (A B 0) (A B 0) (D ⟨#[]⟩) (C I 0 0) (C I 0 0)).trans dL.out);unfold set5 at H6;refine bY _ _ (fun _=>cW.out) ?_;generalize wsC _ _ _=W6 at H6 cW |-;(try simp only[gX,Act.put]);clear s0 s1 s2 s3 s4 s5 s6 s7 s8 s9 bN bY H5 dL;obtain⟨d0,d1,d2,d3,d4,d5,d6⟩:=Bx H6.out.fc;refine Ad rfl (fun Ky bZ=>?_);go_wp2_with fail;have H7:=Lq7 (H6.out.setF (A B x) (A B y) (A B z));unfold set3 at H7;refine bZ _ _ (fun _=>((((Ae (by omega) 2 _).trans (Ae (by omega) 1 _)).trans (Ae (by omega) 0 _)).trans cW.out)) ?_;generalize wsC _ _ _=W7 at H7 |-;refine Ay ?_;(try simp only[gX,Act.put]);clear d0 d1 d2 d3 d4 d5 d6 bZ H6 cW;obtain⟨s0,s1,s2,s3,s4,s5,s6,s7,s8,s9,bN⟩:=Aa H7.out.vb;obtain⟨d0,d1,d2,d3,d4,d5,d6⟩:=Bx H7.out.fc;go_wp2_with fail;refine bodyPost_ret (v:=badV x y z) (by simp[badV,zeroV,Bo,results,Tryz.results125,go_sem,s1,s2,s3,s4,s5,d1,d2,d3]) rfl ?_;rw[aB.out];exact⟨_,H7.out.mv,rfl⟩
     | ok x st2=>
      rw[hxx] at hq;obtain⟨cE,v2,rfl,cs,rfl,bJ,aE⟩:=hq;obtain⟨yk,yn,ys,yl,yks⟩:=x;have eM:=bO.out.later cD cE;have cF:Ax (c2.with c1.F).F w2 (valD (.mk yk yn ys yl yks)) cs:=bJ.wider (fun b h _=> .inl h);obtain⟨b1,e1,b2,e2,rfl,-,-⟩:=bJ.val;have aF:Hid (res=EM.bind (Ep ex (kids.drop (j+2)) (acc++[(xt,.mk yk yn ys yl yks)])) (fun m=>Dl (J0 m) l k) st2):=Lq7 (by rw[cA.out];simp[EM.bind,hxx]);have cY:Below w2.heap.size w2 ((w2.alloc (E #[A B yk,A B yn,D ys,C b1 yl.length e1,C b2 yks.length e2] 53)).alloc (E #[A B 0,A B 0,A B 0] 75)):=((bRf _ w2).alloc (nlr _) _).alloc (by simp) _;have dM:=Lq7 (eM.below cY);have aH:=Lq7 (cF.below cY);have dN:=Lq7 (stays dK.out cY);have dO:=Lq7 aE;have dP:Hid (((w2.alloc (E #[A B yk,A B yn,D ys,C b1 yl.length e1,C b2 yks.length e2] 53)).alloc (E #[A B 0,A B 0,A B 0] 75)).heap[w2.heap.size]? = J (E #[A B yk,A B yn,D ys,C b1 yl.length e1,C b2 yks.length e2] 53 (0,0))):=Lq7 ((Below.heap_alloc _ _ _ (by simp)).trans (heap_alloc_new w2 (E #[A B yk,A B yn,D ys,C b1 yl.length e1,C b2 yks.length e2] 53)));clear hxx cA bO hl cD cE bJ aE eM cF cY dK bI;unfold Bo
      go_upto_region 12 with fail
      generalize World.alloc (World.alloc _ _) _=W3 at dM aH dN dP |-;obtain⟨o,hrun,dQ⟩:=dM.out.put xt dE.out _ _ aH.out dO.out;rw[K1 _ (Uc dJ.out)] at dQ;have Hdi:=Lq7 dQ;obtain⟨u0,u1,u2,u3,u4,u5,u6,u7,u8,u9,cU⟩:=Aa dN.out;obtain⟨q0,q1,q2,q3,q4,q5,q6,q7,q8,q9,bP⟩:=Aa dP.out;clear dQ dM aH dN dP dJ;go_wp2_with fail;go_roundw
      case rel=>exact⟨j+2,acc++[(xt,.mk yk yn ys yl yks)],_,st2,by go_num,by omega,by simp;omega,Hdi,aF⟩
      case measure=>simp only[intOf];omega
  ·generalize wr=wo at *;have dD:¬(j:Int)+1<kids.length:=(by omega);have hd:Ep ex (kids.drop j) acc=EM.pure acc:=by
    cases hdj:kids.drop j with
    | nil=>rfl
    | cons x t=>
     cases t with
     | nil=>rfl
     | cons y t=>
      have:=congrArg List.length hdj;rw[List.length_drop] at this;simp at this;omega
   have aF:Hid (res=Dl (J0 acc) l k aQ):=Lq7 (by rw[bD.out,hd];rfl);have eN:acc.length<=1000000:=(by omega);have dR:=Lq7 hl.out;have Hml:=Lq7 hl.out.ms.ok.ml;have dS:=Lq7 hl.out.nm.few;obtain⟨Dm,hown,aY,aJ⟩:=hl.out.nm.owns eN;have dT:=Lq7 hown;have aZ:=Lq7 aY;clear hl bD hd aY
   go_upto_region 13 with fail
   clear r0 r1 r2 r3 r4 r5 r6 r7 r8 r9 bR;go_wp2_with fail;refine((callsIn_wide (n:=5)).1 (Tryz.maps_Keys_22 (J (w.heap.size+1+1+1)) wo)).mono ?_;rintro e w2 ⟨rfl,hw2⟩;subst hw2;have HS:=Lq7 ((callsIn_wide (n:=5)).1 (Tryz.slices_Sorted_keys_21_22 (w.heap.size+1+1+1) _ Dm anyElem wo hown (by rw[aJ];unfold maxLen;omega) (by rw[aJ];omega)));have eO:Below wo.heap.size wo (wo.alloc (E #[.map (J (w.heap.size+1+1+1))] 71)):=(bRf _ wo).alloc (nlr _) _;have H3:=Lq7 (dR.out.below eO);have Hs0:Hid (w.heap.size+3<=wo.heap.size):=Lq7 dR.out.xb.size;clear hown aJ eO dR dT;go_wp2_with fail;refine HS.out.mono ?_;rintro e w3 ⟨v,ss,rfl,hS,cG,-,dU⟩;have hK:=Rh (hS.trans aZ.out) cG;have eP:∀g,v.ownBlock=J g->(fun b=>wo.heap.size<=b/\b<w3.heap.size) g:=fun g hg=>by
    have:=hK.block hg;simp at this;omega
   obtain⟨aK,cK,rfl,eQ⟩:=hK.rowAt eP;have dV:=Lq7 eQ;have H4:=Lq7 (H3.out.below dU);have hws:wo.heap.size<w3.heap.size:=(by have:=dU.size;simp at this;omega);have bL:=Lq7 (Nj acc);have hkb:(Cw acc).length<=1000000:=(by have:=bL.out;omega);have cH:Hid (((C3 acc).map (·.2)).length=acc.length):=Lq7 (by rw[List.length_map,Mb]);clear hS cG dU hK eQ H3 HS aZ eP;have dW:=heap_alloc_new w3 (E #[A B 5,A B 0,D ⟨#[]⟩,C I 0 0,C aK (Cw acc).length cK] 53);have eR:Hid (SI c1.F w3.heap.size (C aK (Cw acc).length cK) w3 (w3.alloc (E #[A B 5,A B 0,D ⟨#[]⟩,C I 0 0,C aK (Cw acc).length cK] 53)) (C I 0 0) (((C3 acc).map (·.2)).take 0)):=Lq7 ⟨dW,OwnD.nil _ _ _ _ _,(bRf _ w3).alloc (nlr _) _,H4.out.ms.ok.fl⟩;obtain⟨q0,q1,q2,q3,q4,q5,q6,q7,q8,q9,bP⟩:=Aa dW;clear dW;go_wp2_with fail;clear q0 q1 q2 q3 q4 q5 q6 q7 q8 q9 bP;generalize World.alloc _ _=W4 at eR |-
   go_loopw [69] (fun i wr=>∃(i1:Nat) (L:Value),i = A B i1/\i1<=(Cw acc).length/\Hid (SI c1.F w3.heap.size (C aK (Cw acc).length cK) w3 wr L (((C3 acc).map (·.2)).take i1))) (fun i _=>(Cw acc).length-(intOf i).toNat)
   case atStart=>exact⟨0,_,rfl,nlz _,eR⟩
   case round=>
    obtain⟨i1,L,rfl,hi1,aG⟩:=hrel;have aC:Below w3.heap.size w3 wr:=aG.out.bw;obtain⟨q0,q1,q2,q3,q4,q5,q6,q7,q8,q9,bP⟩:=Aa aG.out.sb;obtain⟨aL,capL,hL,-⟩:=(aG.out.own.wide (G:=fun _=>True) (fun _ _=>trivial)).rowAt (fun _ _=>trivial);rw[Bm,lnT,cH.out] at hL;by_cases hlt:i1<(Cw acc).length
    ·have eS:=Lq7 hlt;have aM:min i1 acc.length=i1:=(by have:=bL.out;omega);rw[aM] at hL;subst hL;clear aM;have aR:(Cw acc)[i1]? = J (Cw acc)[i1]:=lgE hlt;obtain⟨q,hq,eT⟩:=Rf (List.getElem_mem hlt);obtain⟨bK,oK,hak,aE⟩:=(dV.out.strs.below aC) i1 _ aR;subst hak;have bH:=Rg aR;generalize (Cw acc)[i1]=sn at aR eT aE bH;subst eT;obtain⟨cs,bG,bA,cI⟩:=(H4.out.nm.below aC).look1 hq;obtain⟨nm,vk,vn,vs,vl,vks⟩:=q;obtain⟨a1,c1',a2,c2,rfl,-,-⟩:=bA.val;rw[bG,Option.getD_some] at bH;have Htk:Hid (((C3 acc).map (·.2)).take (i1+1)=((C3 acc).map (·.2)).take i1++[.mk vk vn vs vl vks]):=Lq7 (by rw[List.take_add_one,List.getElem?_map,bH];rfl);have eU:(Av (((C3 acc).map (·.2)).take i1)).length=i1:=(by rw[Bm,lnT,cH.out];have:=bL.out;omega);have bE:Below wr.heap.size wr (wr.alloc (E #[A B vk,A B vn,D vs,C a1 vl.length c1',C a2 vks.length c2] 53)):=(bRf _ wr).alloc (nlr _) _;have bQ:=Lq7 (aG.out.below bE);have bB:=Lq7 (Kc wr [A B vk,A B vn,D vs,C a1 vl.length c1',C a2 vks.length c2] 53);have cJ:=Lq7 ((bA.below bE).wider (G:=fun b=>c1.F b/\(Value.slice aL i1 capL).ownBlock≠J b) (fun b h _=>⟨h,fun e=>by have:=(aG.out.own.block_lt e).1;have:=aG.out.fl b h;omega⟩));have hvl:=here aG.out.sb;have dX:=Lq7 eU;clear eU;clear bH bG bA hq aR aG bE
     go_wp2_with (at_builtin;refine Dg rfl _ _ 50 rfl (w3.heap.size+1) 53 i0 _ 5 80 Tryz.underlying50 hi hz0 hz1 hz2 rfl (by decide) (C aL i1 capL) c1.F (Av (((C3 acc).map (·.2)).take i1)) rfl bQ.out.own ⟨wr.heap.size,0,I⟩ 1 (valD (.mk vk vn vs vl vks)) [A B vk,A B vn,D vs,C a1 vl.length c1',C a2 vks.length c2] rfl rfl bB.out ?_ cJ.out ?_ ?_ ?_ ?_)
     ·simp[Value.oneCell']
     ·rw[dX.out];have:=bL.out;unfold maxLen;omega
     ·rw[dX.out];have:=bL.out;omega
     ·first|omega|(simp;omega)
     intro v5 w5 aN aD _;obtain⟨a5,cap5,eV,-⟩:=(aN.wide (G:=fun _=>True) (fun _ _=>trivial)).rowAt (fun _ _=>trivial);rw[List.length_append,dX.out,List.length_singleton] at eV;subst eV;have cM:=(aD.block _ (here bQ.out.sb) (fun e=>by have:=(bQ.out.own.block_lt e.symm).1;omega)).trans bQ.out.sb;have cN:=Lq7 (bQ.out.grown aN aD);rw[<-Htk.out] at cN;clear q0 q1 q2 q3 q4 q5 q6 q7 q8 q9 bP aN aD bQ bB cJ cI aE;obtain⟨q0,q1,q2,q3,q4,q5,q6,q7,q8,q9,bP⟩:=Aa cM;clear cM;go_wp2_with fail;go_roundw
     case rel=>exact⟨i1+1,_,by go_num,Nat.succ_le_of_lt eS.out,cN⟩
     case measure=>have:=eS.out;simp only[intOf];omega
    ·have cQ:((C3 acc).map (·.2)).take i1=(C3 acc).map (·.2):=List.take_of_length_le (by have:=bL.out;have:=cH.out;omega);rw[cQ] at aG;have aM:min i1 acc.length=acc.length:=(by have:=bL.out;omega);rw[aM] at hL;subst hL;have eW:∀b,(wo.heap.size<=b/\b<wr.heap.size)->w.heap.size+3<=b:=fun b hb=>Nat.le_trans Hs0.out hb.1;have cZ:=(H4.out.ms.below aC).with (g:=fun b=>wo.heap.size<=b/\b<wr.heap.size) (fun b hb=>⟨hb.2,fun h=>by have:=Hml.out b h;omega⟩);have dY:=(H4.out.xb.below aC).with eW;obtain⟨aI,capI,hI,dZ⟩:=(aG.out.own.wide (G:=(c1.with fun b=>wo.heap.size<=b/\b<wr.heap.size).F) (fun b hb=> .inl hb)).rowAt (fun g hg=> .inr (by have:=aG.out.own.block_lt hg;omega));rw[Bm,cH.out] at hI;clear aM cQ;obtain⟨rfl,rfl⟩:aL=aI/\capL=capI:=(by injection hI with h1 h2 h3;exact⟨h1,h3⟩);have eA:Af (c1.with fun b=>wo.heap.size<=b/\b<wr.heap.size).F wr aK (Bv (Cw acc)):=dV.out.mono fun b hb hl=>⟨.inr ⟨hb.1,nll hb.2 aC.size⟩,nll hl aC.size,aC.block b hl⟩;have bA:Ax (c1.with fun b=>wo.heap.size<=b/\b<wr.heap.size).F wr (valD (J0 acc)) [A B 5,A B 0,D ⟨#[]⟩,C aL acc.length capL,C aK (Cw acc).length cK]:=by
      have:=Ax.val_mk 5 0 ⟨#[]⟩ capL cK dZ eA;rw[cH.out] at this;unfold J0;rw[<-Wi];exact this
     have eB:=cZ.ok;generalize c1.with (fun b=>wo.heap.size<=b/\b<wr.heap.size)=c2 at cZ dY bA eB dZ eA;have Hm:=Lq7 (Ub _ (Wj eN dS.out) c2.F _ l k wr eB.fl bA);have H1:=Lq7 dY;have eX:=Lq7 cZ;have cJ:=Lq7 bA;clear cZ dY bA eB dZ eA aG eW H4 dV;obtain⟨r0,r1,r2,r3,r4,r5,r6,r7,r8,r9,bR⟩:=Aa H1.out.na;go_wp2_with fail;refine Hm.out.mono ?_;rintro e w5 ⟨dA,rfl⟩;have H3:=Lq7 (H1.out.below dA);have Hm3:=Lq7 (eX.out.below dA);have aH:=Lq7 (cJ.out.below dA);clear dA H1 eX cJ Hm r0 r1 r2 r3 r4 r5 r6 r7 r8 r9 bR q0 q1 q2 q3 q4 q5 q6 q7 q8 q9 bP;obtain⟨s0,s1,s2,s3,s4,s5,s6,s7,s8,s9,bN⟩:=Aa H3.out.vb;obtain⟨d0,d1,d2,d3,d4,d5,d6⟩:=Bx H3.out.fc;by_cases aE:Ao (J0 acc)=true
     ·rw[if_pos aE];have dO:=Lq7 aE;have aB:Hid (res = .ok (J0 acc) aQ):=Lq7 (by rw[aF.out];unfold Dl;rw[if_pos aE];rfl);unfold Bo;clear aE aF;go_wp2_with fail;refine bodyPost_ret (v:=.tuple #[.agg #[A B 5,A B 0,D ⟨#[]⟩,C aL acc.length capL,C aK (Cw acc).length cK],Bo 0 0 0]) (by simp[Bo,results,Tryz.results125,go_sem,s1,s2,s3,s4,s5,d1,d2,d3]) rfl ?_;have H4:=H3.out.setV (A B 5) (A B 0) (D ⟨#[]⟩) (C aL acc.length capL) (C aK (Cw acc).length cK);have Hm4:=H3.out.msV Hm3.out (A B 5) (A B 0) (D ⟨#[]⟩) (C aL acc.length capL) (C aK (Cw acc).length cK);have Ha4:=H3.out.aggV aH.out (A B 5) (A B 0) (D ⟨#[]⟩) (C aL acc.length capL) (C aK (Cw acc).length cK);rw[aB.out];exact⟨c2,(H4.setF (A B 0) (A B 0) (A B 0)).mv,H4.msF Hm4 (A B 0) (A B 0) (A B 0),_,rfl,[_,_,_,_,_],rfl,H4.aggF Ha4 (A B 0) (A B 0) (A B 0),dO.out⟩
     ·rw[if_neg aE];have aB:Hid (res = .err 6 l k):=Lq7 (by rw[aF.out];unfold Dl;rw[if_neg aE];rfl);unfold badV zeroV Bo;clear aE aF;go_wp2_with fail;refine bodyPost_ret (v:=badV 6 l k) (by simp[badV,zeroV,Bo,results,Tryz.results125,go_sem,s1,s2,s3,s4,s5,d1,d2,d3]) rfl ?_;rw[aB.out];exact⟨c2,((H3.out.setV (A B 0) (A B 0) (D ⟨#[]⟩) (C I 0 0) (C I 0 0)).setF (A B 6) (A B l) (A B k)).mv,rfl⟩
end Go.Proofs.YtlbbbapiklendaaGreatDoor
namespace Go.Proofs.YtlbbbapiklendaaGreatDoor
open Go.IntKind renaming i64->B
open Go.Value renaming int->A,string->D,slice->C
open Go.Obj renaming cells->E
open Option renaming some->J,none->I
open Go Go.RowKit
open List renaming mem_of_getElem? -> lgM,mem_cons_self->lmS,mem_cons_of_mem->lmO,length_cons->lnC,length_nil->lnN,getElem?_eq_getElem->lgE,set_cons_zero->lsA,set_cons_succ->lsB
open Go.Lib renaming hid->Lq7
set_option maxRecDepth 100000
set_option maxHeartbeats 16000000
def ENz{α:Type}(m:EM α):Prop:=∀st x y z,m st = .err x y z->x≠0
theorem ENz.bind{α β}{m:EM α}{g:α->EM β}(hm:ENz m)(hg:∀a,ENz (g a)):ENz (EM.bind m g):=by
 intro st x y z h;cases hms:m st with
 | ok a st'=>rw[Ej hms] at h;exact hg _ _ _ _ _ h
 | err a b c=>rw[ebind_err hms] at h;cases h;exact hm _ _ _ _ hms
 | out=>rw[C4 hms] at h;cases h
theorem ENz.pure{α}(x:α):ENz (EM.pure x):=fun _ _ _ _ h=>by cases h
theorem ENz.out{α}:ENz (eOut:EM α):=fun _ _ _ _ h=>by cases h
theorem ENz.fail{α e}(he:e≠0)(l c):ENz (eFail e l c:EM α):=fun _ _ _ _ h=>by cases h;exact he
theorem ENz.step(l c):ENz (Cv l c):=fun st x y z h=>by
 unfold Cv at h;split at h
 ·cases h;decide
 ·cases h
theorem ENz.put(s v l c):ENz (Ig s v l c):=fun st x y z h=>by
 unfold Ig at h;split at h
 ·cases h;decide
 ·cases h
theorem ENz.made(v l c):ENz (Dl v l c):=by
 unfold Dl;split
 ·exact .pure _
 ·exact .fail (by decide) _ _
theorem ENz.items{ex}(hx:∀n,ENz (ex n)):∀(l:List Nd) (acc:List Vl),ENz (Ge ex l acc)
 | [],acc=> .pure acc
 | n::t,acc=> .bind (hx n) fun x=>ENz.items hx t (acc++[x])
theorem ENz.res{r}(h:∀e,r = .error e->e≠0)(l c):ENz (eRes r l c):=by
 cases r with
 | ok v=>exact .pure _
 | error e=>exact .fail (h e rfl) _ _
theorem ENz.op{ex}(hx:∀n,ENz (ex n))(n):ENz (eOp ex n):=by
 refine .bind (hx _) fun a=>?_;split
 ·exact .pure _
 ·exact .bind (hx _) fun b=> .res (fun e h=>opL_nz h) _ _
theorem ENz.ents{ex}(hx:∀n,ENz (ex n)):∀(l:List Nd) (acc:List (ByteArray×Vl)),ENz (Ep ex l acc)
 | [],acc=> .pure acc
 | [_],acc=> .pure acc
 | k::n::t,acc=>by
  rw[Ep];split
  ·exact .fail (by decide) _ _
  ·exact .bind (hx n) fun x=>ENz.ents hx t _
theorem ENz.dict{ex}(hx:∀n,ENz (ex n))(n):ENz (Pm ex n):=.bind (ENz.ents hx _ _) fun _=> .made _ _ _
theorem ENz.args{ex}(hx:∀n,ENz (ex n)):∀(l:List Nd) (acc:List (ByteArray×Vl)),ENz (Iv ex l acc)
 | [],acc=> .pure acc
 | n::t,acc=> .bind (hx _) fun x=>ENz.args hx t (acc++[(n.text,x)])
def Mc(ans:Ans):Prop:=∀log q y,ans log q=J (.error y)->y≠0
theorem ENz.ask{ans}(h:Mc ans)(q):ENz (Ih ans q):=fun st x y z he=>by
 unfold Ih at he;split at he
 ·cases he
 ·next hq=>cases he;exact h _ _ _ hq
 ·split at he
  ·cases he
  ·cases he;decide
theorem ENz.expr{ans}(ha:Mc ans){ex}(hx:∀n,ENz (ex n))(n):ENz (Ii ans ex n):=by
 refine .bind (.step _ _) fun _=>?_;intro st x y z h;split at h
 ·split at h
  ·cases h
  ·dsimp only at h
   split at h
   ·cases h
   ·cases h;decide
 ·split at h
  ·split at h<;>cases h
  ·split at h
   ·exact ENz.bind (ENz.items hx n.kids []) (fun l=>ENz.made _ _ _) st x y z h
   ·split at h
    ·exact ENz.op hx n st x y z h
    ·split at h
     ·exact ENz.made _ _ _ st x y z h
     ·split at h
      ·exact ENz.bind (ENz.args hx n.kids []) (fun l=>ENz.ask ha _) st x y z h
      ·split at h
       ·exact ENz.dict hx n st x y z h
       ·cases h;decide
theorem ENz.exprs{ans}(ha:Mc ans):∀(f:Nat) (n:Nd),ENz (Cc ans f n)
 | 0,_=> .out
 | f+1,n=>ENz.expr ha (ENz.exprs ha f) n
theorem Pj{mp mb:Nat}{hv}{fn:Nat}{rv}(hop:OpC)(hdo:Pn fn rv mp mb hv)(hin:HInv fn rv hv)(ha:Mc hv.ans):∀f,XDoes 74 mp mb hv (Cc hv.ans f)
 | 0=>fun _ _ _ _ _ _ _ _ _ _ hne=>absurd rfl hne
 | f+1=>
  have hx:=Pj hop hdo hin ha f;have hz:=ENz.exprs ha f
  expr_xd ⟨list_d ⟨hx,hz⟩,fun n=>ENz.bind (ENz.items hz n.kids []) (fun _=>ENz.made _ _ _)⟩ ⟨op_d hop hz hx,ENz.op hz⟩ ⟨call_d hdo hin ⟨hx,hz⟩,fun n=>ENz.bind (ENz.args hz n.kids []) (fun _=>ENz.ask ha _)⟩ ⟨Zj hz hx,ENz.dict hz⟩
def B4{α:Type}(m:EM α):Prop:=∀st x st',m st = .ok x st'->st'.names=st.names
theorem B4.bind{α β}{m:EM α}{g:α->EM β}(hm:B4 m)(hg:∀a,B4 (g a)):B4 (EM.bind m g):=by
 intro st x st' h;cases hms:m st with
 | ok a st1=>rw[Ej hms] at h;exact(hg _ _ _ _ h).trans (hm _ _ _ hms)
 | err a b c=>rw[ebind_err hms] at h;cases h
 | out=>rw[C4 hms] at h;cases h
theorem B4.pure{α}(x:α):B4 (EM.pure x):=fun _ _ _ h=>by cases h;rfl
theorem B4.fail{α}(e l c):B4 (eFail e l c:EM α):=fun _ _ _ h=>by cases h
theorem B4.out{α}:B4 (eOut:EM α):=fun _ _ _ h=>by cases h
theorem B4.step(l c):B4 (Cv l c):=fun st x st' h=>by
 unfold Cv at h;split at h
 ·cases h
 ·cases h;rfl
theorem B4.made(v l c):B4 (Dl v l c):=by
 unfold Dl;split
 ·exact .pure _
 ·exact .fail _ _ _
theorem B4.items{ex}(hx:∀n,B4 (ex n)):∀(l:List Nd) (acc:List Vl),B4 (Ge ex l acc)
 | [],acc=> .pure acc
 | n::t,acc=> .bind (hx n) fun x=>B4.items hx t (acc++[x])
theorem B4.res(r l c):B4 (eRes r l c):=by
 cases r with
 | ok v=>exact .pure _
 | error e=>exact .fail _ _ _
theorem B4.op{ex}(hx:∀n,B4 (ex n))(n):B4 (eOp ex n):=by
 refine .bind (hx _) fun a=>?_;split
 ·exact .pure _
 ·exact .bind (hx _) fun b=> .res _ _ _
theorem B4.ents{ex}(hx:∀n,B4 (ex n)):∀(l:List Nd) (acc:List (ByteArray×Vl)),B4 (Ep ex l acc)
 | [],acc=> .pure acc
 | [_],acc=> .pure acc
 | k::n::t,acc=>by
  rw[Ep];split
  ·exact .fail _ _ _
  ·exact .bind (hx n) fun x=>B4.ents hx t _
theorem B4.args{ex}(hx:∀n,B4 (ex n)):∀(l:List Nd) (acc:List (ByteArray×Vl)),B4 (Iv ex l acc)
 | [],acc=> .pure acc
 | n::t,acc=> .bind (hx _) fun x=>B4.args hx t (acc++[(n.text,x)])
theorem B4.ask(ans q):B4 (Ih ans q):=fun st x st' he=>by
 unfold Ih at he;split at he
 ·cases he
 ·cases he
 ·split at he
  ·cases he;rfl
  ·cases he
theorem B4.expr(ans){ex}(hx:∀n,B4 (ex n))(n):B4 (Ii ans ex n):=by
 refine .bind (.step _ _) fun _=>?_;intro st x st' h;split at h
 ·split at h
  ·cases h;rfl
  ·dsimp only at h
   split at h
   ·cases h;rfl
   ·cases h
 ·split at h
  ·split at h
   ·cases h;rfl
   ·cases h
  ·split at h
   ·exact B4.bind (B4.items hx n.kids []) (fun l=>B4.made _ _ _) st x st' h
   ·split at h
    ·exact B4.op hx n st x st' h
    ·split at h
     ·exact B4.made _ _ _ st x st' h
     ·split at h
      ·exact B4.bind (B4.args hx n.kids []) (fun l=>B4.ask ans _) st x st' h
      ·split at h
       ·exact B4.bind (B4.ents hx n.kids []) (fun l=>B4.made _ _ _) st x st' h
       ·cases h
theorem B4.exprs(ans):∀(f:Nat) (n:Nd),B4 (Cc ans f n)
 | 0,_=> .out
 | f+1,n=>B4.expr ans (B4.exprs ans f) n
def Cr{α:Type}(m:EM α):Prop:=∀st,m st ≠ .out
theorem Cr.bind{α β}{m:EM α}{g:α->EM β}(hm:Cr m)(hg:∀a,Cr (g a)):Cr (EM.bind m g):=by
 intro st;cases hms:m st with
 | ok a st1=>rw[Ej hms];exact hg _ _
 | err a b c=>rw[ebind_err hms];intro h;cases h
 | out=>exact absurd hms (hm st)
theorem Cr.pure{α}(x:α):Cr (EM.pure x):=fun _ h=>by cases h
theorem Cr.fail{α}(e l c):Cr (eFail e l c:EM α):=fun _ h=>by cases h
theorem Cr.step(l c):Cr (Cv l c):=fun st h=>by
 unfold Cv at h;split at h<;>cases h
theorem Cr.made(v l c):Cr (Dl v l c):=by
 unfold Dl;split
 ·exact .pure _
 ·exact .fail _ _ _
theorem Cr.items{ex}:∀(l:List Nd) (acc:List Vl),(∀n∈l,Cr (ex n))->Cr (Ge ex l acc)
 | [],acc,_=> .pure acc
 | n::t,acc,hx=> .bind (hx n (lmS ..)) fun x=>Cr.items t (acc++[x]) fun n hn=>hx n (lmO _ hn)
theorem Cr.res(r l c):Cr (eRes r l c):=by
 cases r with
 | ok v=>exact .pure _
 | error e=>exact .fail _ _ _
theorem Cr.ents{ex}:∀(l:List Nd) (acc:List (ByteArray×Vl)),(∀n∈l,Cr (ex n))->Cr (Ep ex l acc)
 | [],acc,_=> .pure acc
 | [_],acc,_=> .pure acc
 | k::n::t,acc,hx=>by
  rw[Ep];split
  ·exact .fail _ _ _
  ·exact .bind (hx n (lmO _ (lmS ..))) fun x=>Cr.ents t _ fun n hn=>hx n (lmO _ (lmO _ hn))
theorem Cr.args{ex}:∀(l:List Nd) (acc:List (ByteArray×Vl)),(∀n∈l,Cr (ex (kidN n 0)))->Cr (Iv ex l acc)
 | [],acc,_=> .pure acc
 | n::t,acc,hx=> .bind (hx n (lmS ..)) fun x=>Cr.args t (acc++[(n.text,x)]) fun n hn=>hx n (lmO _ hn)
def Pl(ans:Ans):Prop:=∀log q,ans log q≠I
theorem Cr.ask{ans}(h:Pl ans)(q):Cr (Ih ans q):=fun st he=>by
 unfold Ih at he;split at he
 ·next hq=>exact h _ _ hq
 ·cases he
 ·split at he<;>cases he
mutual
def ndH:Nd->Nat
 | .mk _ _ _ _ l=>ndHs l+2
def ndHs:List Nd->Nat
 | []=>0
 | x::t=>ndH x+ndHs t
end
theorem ndH_mem:∀{l:List Nd} {x:Nd},x∈l->ndH x<=ndHs l
 | _::t,_,.head _=>by rw[ndHs];omega
 | y::t,x,.tail _ h=>by have:=ndH_mem h;rw[ndHs];omega
theorem E8(n):2<=ndH n:=by obtain⟨k,t,l,c,kids⟩:=n;rw[ndH];omega
theorem Jo{n}{i:Nat}{x}(h:n.kids[i]? = J x):ndH x+2<=ndH n:=by
 obtain⟨k,t,l,c,kids⟩:=n;have:=ndH_mem (lgM (show kids[i]? = J x from h));rw[ndH.eq_1 k t l c kids];omega
theorem Wn(l c):natOf (l++[c])=10*natOf l+(c.toNat - 48):=by
 unfold natOf;rw[List.foldl_append];rfl
theorem Ug{c}(h:Bd c=true):UInt8.ofNat (48+(c.toNat - 48))=c:=by
 obtain⟨h1,h2⟩:=Gq h;rw[show 48+(c.toNat - 48)=c.toNat by omega];exact UInt8.ofNat_toNat
theorem dec_nat(l:List UInt8):l.reverse≠[]->(∀c∈l.reverse,Bd c=true)->¬(1<l.reverse.length/\l.reverse.head? = J 48)->Lib.decDigits (natOf l.reverse)=l.reverse:=by
 induction l with
 | nil=>intro h;exact absurd rfl h
 | cons c t ih=>
  intro _ hd hz;rw[List.reverse_cons] at hd hz |-;have hc:=hd c (by simp);obtain⟨h1,h2⟩:=Gq hc;rw[Wn];by_cases ht:t=[]
  ·subst ht;rw[show natOf ([]:List UInt8).reverse=0 from rfl,Lib.decDigits_one (by omega),Nat.mul_zero,Nat.zero_add,Ug hc];rfl
  ·have aA:t.reverse≠[]:=(by simpa using ht);have hlen:1<(t.reverse++[c]).length:=by
    rw[List.length_append,List.length_singleton];have:=List.length_pos_iff.2 aA;omega
   have hh:(t.reverse++[c]).head? = t.reverse.head?:=by
    cases hr:t.reverse with
    | nil=>exact absurd hr aA
    | cons x xs=>rfl
   have hi:=ih aA (fun x hx=>hd x (List.mem_append_left _ hx)) (fun h=>hz ⟨hlen,by rw[hh];exact h.2⟩);have hpos:natOf t.reverse≠0:=fun h0=>by
    rw[h0,Lib.decDigits_one (by omega)] at hi;exact hz ⟨hlen,by rw[hh,<-hi];rfl⟩
   rw[Lib.decDigits,dif_neg (by omega),show(10*natOf t.reverse+(c.toNat - 48)) / 10=natOf t.reverse by omega,show(10*natOf t.reverse+(c.toNat - 48)) % 10=c.toNat - 48 by omega,hi,Ug hc]
theorem Wo{l}(h0:l≠[])(hd:∀c∈l,Bd c=true)(hz:¬(1<l.length/\l.head? = J 48)):Lib.itoa (natOf l:Int)=l:=by
 unfold Lib.itoa;rw[if_neg (by omega),Int.toNat_natCast];have:=dec_nat l.reverse;rw[List.reverse_reverse] at this;exact this h0 hd hz
theorem Uh{s}(h:U1 s)(hs:s.size<=65536):numOf s=J (natOf s.data.toList:Int):=by
 obtain⟨h0,hd,hz,hm⟩:=h;have hp:Lib.parseIntB 64 s.data.toList = .ok (natOf s.data.toList:Int):=by
  unfold Lib.parseIntB;cases hl:s.data.toList with
  | nil=>exact absurd hl h0
  | cons c r=>
   obtain⟨h1,h2⟩:=Gq (hd c (by rw[hl];exact lmS ..));rw[hl] at hd hm
   dsimp only
   rw[if_neg (by omega)];rcases parseUint_digits (l:=c::r) (by simp) hd with⟨h3,h4⟩|⟨h3,h4⟩
   ·rw[h4]
    dsimp only
    rw[if_neg (by omega),if_neg (by omega),if_neg (by omega)]
   ·omega
 unfold numOf;rw[hp]
 dsimp only
 rw[if_pos ⟨by unfold inR;simp only[Bool.and_eq_true,decide_eq_true_eq];omega,hs,Wo h0 hd hz⟩]
theorem numOf_ok{s}(h:U1 s)(hs:s.size<=65536):numOf s≠I:=by
 rw[Uh h hs];exact fun h=>(by cases h)
section
variable {K:Nat} {ans:Ans}
theorem Nf(f:Nat):Cr (Cc ans (f+1) ndZero):=by
 show Cr (Ii ans (Cc ans f) ndZero);refine .bind (.step _ _) fun _ st h=>?_;cases h
theorem Lu{n x:Nd}{i:Nat}(h:D9 65536 K n)(hx:n.kids[i]? = J x):D9 65536 K x:=by
 obtain⟨k,t,l,c,kids⟩:=n;rw[D9] at h;exact ndOks_iff.1 h.2.2.2.2 x (lgM hx)
theorem Jp(ha:Pl ans):∀(f:Nat) (n:Nd),D9 65536 K n->ndH n<=f->Cr (Cc ans f n)
 | 0,n,_,hh=>by have:=E8 n;omega
 | f+1,n,hn,hh=>by
  have hf:1<=f:=(by have:=E8 n;omega);obtain⟨g,rfl⟩:∃g,f=g+1:=⟨f - 1,by omega⟩;have hk:∀i,Cr (Cc ans (g+1) (kidN n i)):=fun i=>by
   unfold kidN;cases hi:n.kids[i]? with
   | none=>exact Nf g
   | some x=>exact Jp ha (g+1) x (Lu hn hi) (by have:=Jo hi;omega)
  have hm:∀x∈n.kids,Cr (Cc ans (g+1) x):=fun x hx=>by
   obtain⟨i,hi⟩:=List.getElem?_of_mem hx;exact Jp ha (g+1) x (Lu hn hi) (by have:=Jo hi;omega)
  have hkk:∀x∈n.kids,Cr (Cc ans (g+1) (kidN x 0)):=fun x hx=>by
   obtain⟨i,hi⟩:=List.getElem?_of_mem hx;unfold kidN;cases hj:x.kids[0]? with
   | none=>exact Nf g
   | some y=>exact Jp ha (g+1) y (Lu (Lu hn hi) hj) (by have:=Jo hi;have:=Jo hj;omega)
  show Cr (Ii ans (Cc ans (g+1)) n);refine .bind (.step _ _) fun _ st h=>?_;split at h
  ·split at h
   ·cases h
   ·(try dsimp only at h);split at h<;>cases h
  ·split at h
   ·rename_i hk10
    split at h
    ·cases h
    ·rename_i hno
     obtain⟨k,t,l,c,kids⟩:=n;rw[D9] at hn;exact numOf_ok (hn.2.2.1 hk10) hn.1 hno
   ·split at h
    ·exact Cr.bind (Cr.items n.kids [] hm) (fun l=>Cr.made _ _ _) st h
    ·split at h
     ·refine Cr.bind (hk 0) (fun a=>?_) st h;split
      ·exact .pure _
      ·exact .bind (hk 1) fun b=> .res _ _ _
     ·split at h
      ·exact Cr.made _ _ _ st h
      ·split at h
       ·exact Cr.bind (Cr.args n.kids [] hkk) (fun l=>Cr.ask ha _) st h
       ·split at h
        ·exact Cr.bind (Cr.ents n.kids [] hm) (fun l=>Cr.made _ _ _) st h
        ·cases h
end
theorem Cr.put(s v l c):Cr (Ig s v l c):=fun st h=>by
 unfold Ig at h;split at h<;>cases h
theorem Cr.block{sm}:∀l:List Nd,(∀n∈l,Cr (sm n))->Cr (Cn sm l)
 | [],_=> .pure ()
 | n::t,h=> .bind (h n (lmS ..)) fun _=>Cr.block t fun x hx=>h x (lmO _ hx)
theorem Cr.each{sm}(n body)(h:Cr (Cn sm body)):∀l:List Vl,Cr (Ij sm n body l)
 | []=> .pure ()
 | _::t=> .bind (.put _ _ _ _) fun _=> .bind h fun _=>Cr.each n body h t
theorem Qn{K ans}(ha:Pl ans):∀(f:Nat) (n:Nd),D9 65536 K n->ndH n<=f->Cr (Dr ans f n)
 | 0,n,_,hh=>by have:=E8 n;omega
 | f+1,n,hn,hh=>by
  have hf:1<=f:=(by have:=E8 n;omega);obtain⟨g,rfl⟩:∃g,f=g+1:=⟨f - 1,by omega⟩;have hk:∀i,Cr (Cc ans (g+1) (kidN n i)):=fun i=>by
   unfold kidN;cases hi:n.kids[i]? with
   | none=>exact Nf g
   | some x=>exact Jp ha (g+1) x (Lu hn hi) (by have:=Jo hi;omega)
  have hb:∀i,Cr (Cn (Dr ans (g+1)) (kidN n i).kids):=fun i=>by
   unfold kidN;cases hi:n.kids[i]? with
   | none=>exact .pure ()
   | some x=>
     exact .block _ fun y hy=>by
      obtain⟨j,(hj:x.kids[j]? = J y)⟩:=List.getElem?_of_mem hy;exact Qn ha (g+1) y (Lu (Lu hn hi) hj) (by have:=Jo hi;have:=Jo hj;omega)
  show Cr (Me (Cc ans (g+1)) (Dr ans (g+1)) n);refine .bind (.step _ _) fun _=>?_;split
  ·exact .bind (hk 0) fun v=> .put _ _ _ _
  ·split
   ·refine .bind (hk 0) fun v=>?_;split
    ·exact .each _ _ (hb 1) _
    ·exact .fail _ _ _
   ·split
    ·exact .bind (hk 0) fun _=> .pure _
    ·split
     ·refine .bind (hk 0) fun v=>?_;split
      ·exact hb 1
      ·exact hb 2
     ·exact .fail _ _ _
theorem Vx{K ans}(ha:Pl ans){l}(h:Dn 65536 K l){f}(hf:ndHs l<=f)(s):G0 ans f l s ≠ .out:=
 Cr.block l (fun n hn=>Qn ha f n (ndOks_iff.1 h n hn) (Nat.le_trans (ndH_mem hn) hf)) _
def St.more(st:St)(d:Int):St:={ st with left:=st.left+d}
def Mo{α:Type}(m:EM α):Prop:=∀st d,0<=d->(∀x st',m st = .ok x st'->m (st.more d) = .ok x (st'.more d))/\∀a b c,m st = .err a b c->a≠12->m (st.more d) = .err a b c
theorem Mo.bind{α β}{m:EM α}{g:α->EM β}(hm:Mo m)(hg:∀a,Mo (g a)):Mo (EM.bind m g):=fun st d hd=>by
 cases hms:m st with
 | ok a st1=>
  have h1:=(hm st d hd).1 a st1 hms;rw[Ej hms,Ej h1];exact hg a st1 d hd
 | err a b c=>
  rw[ebind_err hms];refine⟨fun x st' h=>(by cases h),fun a' b' c' h hne=>?_⟩;cases h;exact ebind_err ((hm st d hd).2 _ _ _ hms hne)
 | out=>
  rw[C4 hms];exact⟨fun x st' h=>(by cases h),fun a b c h=>by cases h⟩
theorem Mo.pure{α}(x:α):Mo (EM.pure x):=fun st d _=>⟨fun y st' h=>(by cases h;rfl),fun a b c h=>by cases h⟩
theorem Mo.fail{α}(e l c):Mo (eFail e l c:EM α):=fun st d _=>⟨fun y st' h=>(by cases h),fun a b c h _=>by cases h;rfl⟩
theorem Mo.out{α}:Mo (eOut:EM α):=fun st d _=>⟨fun y st' h=>(by cases h),fun a b c h=>by cases h⟩
theorem Mo.step(l c):Mo (Cv l c):=fun st d hd=>by
 unfold Cv;refine⟨fun y st' h=>?_,fun a b c h hne=>?_⟩
 ·split at h
  ·cases h
  ·rename_i hl
   cases h;rw[if_neg (show ¬(st.more d).left<=0 by simp only[St.more];omega)];simp only[St.more]
   congr 2
   omega
 ·split at h
  ·cases h;exact absurd rfl hne
  ·cases h
theorem Mo.put(s v l c):Mo (Ig s v l c):=fun st d _=>by
 unfold Ig;split
 ·exact⟨fun y st' h=>(by cases h),fun a b c h _=>by cases h;rfl⟩
 ·exact⟨fun y st' h=>(by cases h;rfl),fun a b c h=>by cases h⟩
theorem Mo.made(v l c):Mo (Dl v l c):=by
 unfold Dl;split
 ·exact .pure _
 ·exact .fail _ _ _
theorem Mo.res(r l c):Mo (eRes r l c):=by
 cases r with
 | ok v=>exact .pure _
 | error e=>exact .fail _ _ _
theorem Mo.items{ex}(hx:∀n,Mo (ex n)):∀(l:List Nd) (acc:List Vl),Mo (Ge ex l acc)
 | [],acc=> .pure acc
 | n::t,acc=> .bind (hx n) fun x=>Mo.items hx t (acc++[x])
theorem Mo.ents{ex}(hx:∀n,Mo (ex n)):∀(l:List Nd) (acc:List (ByteArray×Vl)),Mo (Ep ex l acc)
 | [],acc=> .pure acc
 | [_],acc=> .pure acc
 | k::n::t,acc=>by
  rw[Ep];split
  ·exact .fail _ _ _
  ·exact .bind (hx n) fun x=>Mo.ents hx t _
theorem Mo.args{ex}(hx:∀n,Mo (ex n)):∀(l:List Nd) (acc:List (ByteArray×Vl)),Mo (Iv ex l acc)
 | [],acc=> .pure acc
 | n::t,acc=> .bind (hx _) fun x=>Mo.args hx t (acc++[(n.text,x)])
theorem Mo.ask(ans q):Mo (Ih ans q):=fun st d _=>by
 unfold Ih;rw[show(st.more d).log=st.log from rfl];split
 ·exact⟨fun y st' h=>(by cases h),fun a b c h=>by cases h⟩
 ·exact⟨fun y st' h=>(by cases h),fun a b c h _=>by cases h;rfl⟩
 ·split
  ·exact⟨fun y st' h=>(by cases h;rfl),fun a b c h=>by cases h⟩
  ·exact⟨fun y st' h=>(by cases h),fun a b c h _=>by cases h;rfl⟩
theorem Mo.iteS{α:Type}{c:Prop}[Decidable c]{f g:EM α}(hf:Mo f)(hg:Mo g):Mo (fun st=>if c then f st else g st):=by
 by_cases h:c
 ·rw[show(fun st=>if c then f st else g st)=f by funext st;rw[if_pos h]];exact hf
 ·rw[show(fun st=>if c then f st else g st)=g by funext st;rw[if_neg h]];exact hg
theorem Mo.expr(ans){ex}(hx:∀n,Mo (ex n))(n):Mo (Ii ans ex n):=by
 refine .bind (.step _ _) fun _=> .iteS ?_ (.iteS ?_ (.iteS ?_ (.iteS ?_ (.iteS (.made _ _ _) (.iteS ?_ (.iteS ?_ ?_))))))
 ·cases fixedV n.text with
  | some v=>exact .pure v
  | none=>
    exact fun st d _=>by
     dsimp only
     rw[show(st.more d).names=st.names from rfl];cases lookN st.names n.text with
     | some v=>exact⟨fun y st' h=>(by cases h;rfl),fun a b c h=>by cases h⟩
     | none=>exact⟨fun y st' h=>(by cases h),fun a b c h _=>by cases h;rfl⟩
 ·cases numOf n.text with
  | some x=>exact .pure _
  | none=>exact .out
 ·exact .bind (.items hx _ _) fun l=> .made _ _ _
 ·exact .bind (hx _) fun a=>by
   split
   ·exact .pure _
   ·exact .bind (hx _) fun b=> .res _ _ _
 ·exact .bind (.args hx _ _) fun l=> .ask _ _
 ·exact .bind (.ents hx _ _) fun m=> .made _ _ _
 ·exact .fail _ _ _
theorem Mo.exprs(ans):∀(f:Nat) (n:Nd),Mo (Cc ans f n)
 | 0,_=> .out
 | f+1,n=> .expr ans (Mo.exprs ans f) n
theorem Mo.block{sm}(h:∀n,Mo (sm n)):∀l:List Nd,Mo (Cn sm l)
 | []=> .pure ()
 | n::t=> .bind (h n) fun _=>Mo.block h t
theorem Mo.each{sm}(h:∀n,Mo (sm n))(n body):∀l:List Vl,Mo (Ij sm n body l)
 | []=> .pure ()
 | _::t=> .bind (.put _ _ _ _) fun _=> .bind (.block h body) fun _=>Mo.each h n body t
theorem Mo.stmts(ans):∀(f:Nat) (n:Nd),Mo (Dr ans f n)
 | 0,_=> .out
 | f+1,n=>by
  have hx:=Mo.exprs ans f;have hs:=Mo.stmts ans f;show Mo (Me (Cc ans f) (Dr ans f) n);refine .bind (.step _ _) fun _=>?_;split
  ·exact .bind (hx _) fun v=> .put _ _ _ _
  ·split
   ·refine .bind (hx _) fun v=>?_;split
    ·exact .each hs _ _ _
    ·exact .fail _ _ _
   ·split
    ·exact .bind (hx _) fun _=> .pure _
    ·split
     ·refine .bind (hx _) fun v=>?_;split
      ·exact .block hs _
      ·exact .block hs _
     ·exact .fail _ _ _
def N1(r:ER Unit):Except (Int×Int×Int) (List (ByteArray×Vl)):=match r with
 | .ok _ st=> .ok st.names
 | .err a b c=> .error (a,b,c)
 | .out=> .ok []
theorem run_more(ans f l){s t}(h:s<=t)(h12:∀b c,N1 (G0 ans f l s) ≠ .error (12,b,c))(hne:G0 ans f l s ≠ .out):N1 (G0 ans f l t)=N1 (G0 ans f l s):=by
 have hm:=Mo.block (Mo.stmts ans f) l ⟨[],s,[]⟩ (t-s) (by omega);have ht:(⟨[],s,[]⟩:St).more (t-s)=⟨[],t,[]⟩:=by
  simp only[St.more]
  congr 1
  omega
 rw[ht] at hm;unfold G0 at *;cases hr:Cn (Dr ans f) l ⟨[],s,[]⟩ with
 | ok x st=>rw[hm.1 _ _ hr];rfl
 | err a b c=>
  rw[hr] at h12;rw[hm.2 _ _ _ hr fun e=>h12 b c (by rw[e];rfl)]
 | out=>exact absurd hr hne
def Lo{α:Type}(m:EM α):Prop:=∀st x st',m st = .ok x st'->st'.left<=st.left/\(0<=st.left->0<=st'.left)
theorem Lo.bind{α β}{m:EM α}{g:α->EM β}(hm:Lo m)(hg:∀a,Lo (g a)):Lo (EM.bind m g):=by
 intro st x st' h;cases hms:m st with
 | ok a st1=>
  rw[Ej hms] at h;have h1:=hm _ _ _ hms;have h2:=hg _ _ _ _ h;exact⟨by omega,fun h0=>h2.2 (h1.2 h0)⟩
 | err a b c=>rw[ebind_err hms] at h;cases h
 | out=>rw[C4 hms] at h;cases h
theorem Lo.pure{α}(x:α):Lo (EM.pure x):=fun _ _ _ h=>by cases h;exact⟨Int.le_refl _,id⟩
theorem Lo.fail{α}(e l c):Lo (eFail e l c:EM α):=fun _ _ _ h=>by cases h
theorem Lo.out{α}:Lo (eOut:EM α):=fun _ _ _ h=>by cases h
theorem Lo.step(l c):Lo (Cv l c):=fun st x st' h=>by
 unfold Cv at h;split at h
 ·cases h
 ·cases h;exact⟨by dsimp only;omega,fun _=>by dsimp only;omega⟩
theorem Lo.made(v l c):Lo (Dl v l c):=by
 unfold Dl;split
 ·exact .pure _
 ·exact .fail _ _ _
theorem Lo.res(r l c):Lo (eRes r l c):=by
 cases r with
 | ok v=>exact .pure _
 | error e=>exact .fail _ _ _
theorem Lo.items{ex}(hx:∀n,Lo (ex n)):∀(l:List Nd) (acc:List Vl),Lo (Ge ex l acc)
 | [],acc=> .pure acc
 | n::t,acc=> .bind (hx n) fun x=>Lo.items hx t (acc++[x])
theorem Lo.ents{ex}(hx:∀n,Lo (ex n)):∀(l:List Nd) (acc:List (ByteArray×Vl)),Lo (Ep ex l acc)
 | [],acc=> .pure acc
 | [_],acc=> .pure acc
 | k::n::t,acc=>by
  rw[Ep];split
  ·exact .fail _ _ _
  ·exact .bind (hx n) fun x=>Lo.ents hx t _
theorem Lo.args{ex}(hx:∀n,Lo (ex n)):∀(l:List Nd) (acc:List (ByteArray×Vl)),Lo (Iv ex l acc)
 | [],acc=> .pure acc
 | n::t,acc=> .bind (hx _) fun x=>Lo.args hx t (acc++[(n.text,x)])
theorem Lo.ask(ans q):Lo (Ih ans q):=fun st x st' he=>by
 unfold Ih at he;split at he
 ·cases he
 ·cases he
 ·split at he
  ·cases he;exact⟨Int.le_refl _,id⟩
  ·cases he
theorem Lo.iteS{α:Type}{c:Prop}[Decidable c]{f g:EM α}(hf:Lo f)(hg:Lo g):Lo (fun st=>if c then f st else g st):=by
 by_cases h:c
 ·rw[show(fun st=>if c then f st else g st)=f by funext st;rw[if_pos h]];exact hf
 ·rw[show(fun st=>if c then f st else g st)=g by funext st;rw[if_neg h]];exact hg
theorem Lo.exprs(ans):∀(f:Nat) (n:Nd),Lo (Cc ans f n)
 | 0,_=> .out
 | f+1,n=>by
  have hx:=Lo.exprs ans f;show Lo (Ii ans (Cc ans f) n);refine .bind (.step _ _) fun _=> .iteS ?_ (.iteS ?_ (.iteS ?_ (.iteS ?_ (.iteS (.made _ _ _) (.iteS ?_ (.iteS ?_ ?_))))))
  ·cases fixedV n.text with
   | some v=>exact .pure v
   | none=>
     exact fun st x st' h=>by
      dsimp only at h
      cases hl:lookN st.names n.text with
      | some v=>rw[hl] at h;cases h;exact⟨Int.le_refl _,id⟩
      | none=>rw[hl] at h;cases h
  ·cases numOf n.text with
   | some x=>exact .pure _
   | none=>exact .out
  ·exact .bind (.items hx _ _) fun l=> .made _ _ _
  ·exact .bind (hx _) fun a=>by
    split
    ·exact .pure _
    ·exact .bind (hx _) fun b=> .res _ _ _
  ·exact .bind (.args hx _ _) fun l=> .ask _ _
  ·exact .bind (.ents hx _ _) fun m=> .made _ _ _
  ·exact .fail _ _ _
theorem Uj(m s v):(putN m s v).length<=m.length+1/\((lookN m s).isSome=true->(putN m s v).length=m.length)/\(lookN (putN m s v) s).isSome=true/\∀t,(lookN m t).isSome=true->(lookN (putN m s v) t).isSome=true:=by
 induction m with
 | nil=>simp[putN,lookN]
 | cons p r ih=>
  unfold putN;by_cases h:(p.1.data.toList==s.data.toList)=true
  ·rw[if_pos h];refine⟨by simp,fun _=>by simp,by simp[lookN],fun t ht=>?_⟩;have hps:p.1.data.toList=s.data.toList:=(by simpa using h);unfold lookN at ht |-;rw[List.find?_cons] at ht |-;rw[hps] at ht
   dsimp only at ht |-
   split
   ·rfl
   ·next hh=>rw[hh] at ht;exact ht
  ·rw[if_neg h];obtain⟨h1,h2,h3,h4⟩:=ih;have hl:∀q:List (ByteArray×Vl),lookN (p::q) s=lookN q s:=fun q=>by
    unfold lookN;rw[List.find?_cons];rw[show(p.1.data.toList==s.data.toList)=false by simpa using h]
   refine⟨by simp only[lnC];omega,fun hh=>by rw[hl] at hh;simp only[lnC];rw[h2 hh],by rw[hl];exact h3,fun t ht=>?_⟩;unfold lookN at ht |-;rw[List.find?_cons] at ht |-;split
   ·rfl
   ·next hh=>
    rw[hh] at ht;exact h4 t ht
def Fw{α:Type}(k:Int)(m:EM α):Prop:=∀st x st',m st = .ok x st'->((st'.names.length:Int)+st'.left<=st.names.length+st.left+k/\(0<=st.left->0<=st'.left))/\∀s,(lookN st.names s).isSome=true->(lookN st'.names s).isSome=true
theorem Fw.bind{α β i j k}{m:EM α}{g:α->EM β}(hm:Fw i m)(hg:∀a,Fw j (g a))(hk:i+j<=k):Fw k (EM.bind m g):=by
 intro st x st' h;cases hms:m st with
 | ok a st1=>
  rw[Ej hms] at h;have h1:=hm _ _ _ hms;have h2:=hg _ _ _ _ h;exact⟨⟨by omega,fun h0=>h2.1.2 (h1.1.2 h0)⟩,fun s hs=>h2.2 s (h1.2 s hs)⟩
 | err a b c=>rw[ebind_err hms] at h;cases h
 | out=>rw[C4 hms] at h;cases h
theorem Fw.of{α}{m:EM α}(h1:B4 m)(h2:Lo m):Fw 0 m:=fun st x st' h=>by
 have a:=h1 _ _ _ h;have b:=h2 _ _ _ h;rw[a];exact⟨⟨by omega,b.2⟩,fun s h=>h⟩
theorem Fw.fail{α}(k e l c):Fw k (eFail e l c:EM α):=fun _ _ _ h=>by cases h
theorem Fw.pure{α}(x:α):Fw 0 (EM.pure x):=.of (.pure x) (.pure x)
theorem Fw.step(l c):Fw (-1) (Cv l c):=fun st x st' h=>by
 unfold Cv at h;split at h
 ·cases h
 ·cases h;exact⟨⟨by dsimp only;omega,fun _=>by dsimp only;omega⟩,fun s h=>h⟩
theorem Fw.put(s v l c):Fw 1 (Ig s v l c):=fun st x st' h=>by
 unfold Ig at h;split at h
 ·cases h
 ·cases h;have hp:=Uj st.names s v;exact⟨⟨by dsimp only;omega,fun h=>h⟩,hp.2.2.2⟩
theorem Fw.block{sm}(h:∀n,Fw 0 (sm n)):∀l:List Nd,Fw 0 (Cn sm l)
 | []=> .pure ()
 | n::t=> .bind (h n) (fun _=>Fw.block h t) (by omega)
theorem Fw.each{sm}(h:∀n,Fw 0 (sm n))(n body):∀(l:List Vl) (st:St) (x:Unit) (st':St),Ij sm n body l st = .ok x st' ->
  (((st'.names.length:Int)+st'.left<=st.names.length+st.left+1/\((lookN st.names n.text).isSome=true->(st'.names.length:Int)+st'.left<=st.names.length+st.left))/\(0<=st.left->0<=st'.left))/\∀s,(lookN st.names s).isSome=true->(lookN st'.names s).isSome=true
 | [],st,x,st',he=>by cases he;exact⟨⟨⟨by omega,fun _=>by omega⟩,id⟩,fun s h=>h⟩
 | v::t,st,x,st',he=>by
  rw[Ij] at he;cases hp:Ig n.text v n.ln n.cl st with
  | out=>rw[C4 hp] at he;cases he
  | err a b c=>rw[ebind_err hp] at he;cases he
  | ok u st1=>
   rw[Ej hp] at he;have h1:((st1.names.length:Int)<=st.names.length+1/\((lookN st.names n.text).isSome=true->(st1.names.length:Int)=st.names.length))/\st1.left=st.left/\(lookN st1.names n.text).isSome=true/\∀s,(lookN st.names s).isSome=true->(lookN st1.names s).isSome=true:=by
    unfold Ig at hp;split at hp
    ·cases hp
    ·cases hp;have hq:=Uj st.names n.text v;exact⟨⟨by dsimp only;omega,fun h=>by dsimp only;rw[hq.2.1 h]⟩,rfl,hq.2.2.1,hq.2.2.2⟩
   cases hb:Cn sm body st1 with
   | out=>rw[C4 hb] at he;cases he
   | err a b c=>rw[ebind_err hb] at he;cases he
   | ok u2 st2=>
    rw[Ej hb] at he;have h2:=Fw.block h body _ _ _ hb;have h3:=Fw.each h n body t st2 x st' he;have h4:=h3.1.1.2 (h2.2 _ h1.2.2.1);have h5:=h2.1.1;refine⟨⟨⟨by omega,fun hs=>by have:=h1.1.2 hs;omega⟩,fun h0=>h3.1.2 (h2.1.2 (by omega))⟩,fun s hs=>h3.2 s (h2.2 s (h1.2.2.2 s hs))⟩
theorem Fw.stmts(ans):∀(f:Nat) (n:Nd),Fw 0 (Dr ans f n)
 | 0,_=>fun _ _ _ h=>by cases h
 | f+1,n=>by
  have hx:=fun n=>Fw.of (B4.exprs ans f n) (Lo.exprs ans f n);have hs:=Fw.stmts ans f;show Fw 0 (Me (Cc ans f) (Dr ans f) n);refine .bind (.step _ _) (j:=1) (fun _=>?_) (by omega);have up:∀{m:EM Unit},Fw 0 m->Fw 1 m:=fun h st x st' hh=>(by have:=h st x st' hh;exact⟨⟨by omega,this.1.2⟩,this.2⟩);split
  ·exact .bind (hx _) (fun v=> .put _ _ _ _) (by omega)
  ·split
   ·refine .bind (j:=1) (hx _) (fun v=>?_) (by omega);split
    ·exact fun st x st' h=>by
      have:=Fw.each hs _ _ _ _ _ _ h;exact⟨⟨this.1.1.1,this.1.2⟩,this.2⟩
    ·exact .fail _ _ _ _
   ·split
    ·exact up (.bind (hx _) (fun _=> .pure _) (by omega))
    ·split
     ·refine up (.bind (j:=0) (hx _) (fun v=>?_) (by omega));split
      ·exact .block hs _
      ·exact .block hs _
     ·exact .fail _ _ _ _
theorem Yj(ans f l){s}(hs:0<=s/\s<=1000000)(st)(h:G0 ans f l s = .ok () st):st.names.length<=1000000:=by
 have:=Fw.block (Fw.stmts ans f) l _ _ _ h;have h1:=this.1.2 hs.1;have h2:=this.1.1;simp only[lnN] at h2;omega
def SDoes(f mp mb:Nat)(hv:D5)(sm:Nd->EM Unit):Prop:=∀(G:Nat->Prop) (c:Ctx) (w:World) (st:St) (n:Nd) (v:Value),MS c w mp mb hv st->GOk G c w->A2 G w n v->Cg n->sm n st ≠ .out ->
 Calls Tryz.prog f #[ptr mp,v] w (EP mp mb hv N5 Bo c (sm n st) w)
structure XM(f mp mb:Nat)(hv:D5)(sm:Nd->EM Unit):Prop where
 does:SDoes f mp mb hv sm
 nz:∀n,ENz (sm n)
structure XBl(mp mb:Nat)(hv:D5)(sm:Nd->EM Unit):Prop where
 does:∀(G:Nat->Prop) (c:Ctx) (w:World) (st:St) (l:List Nd) (a:Option Addr) (cap:Nat),MS c w mp mb hv st->GOk G c w->Af G w a (Au l)->smallNs l->l.length<=1000000->Cn sm l st ≠ .out->Calls Tryz.prog 20 #[ptr mp,C a l.length cap] w (EP mp mb hv N5 Bo c (Cn sm l st) w)
 nz:∀n,ENz (sm n)
theorem node_kids(a b c d e w):(Instr.field 27 (.agg #[a,b,c,d,e]) 3).run Tryz.prog w = .ok e w:=by kernel_rfl
theorem ENz.block{sm}(hs:∀n,ENz (sm n)):∀l:List Nd,ENz (Cn sm l)
 | []=> .pure ()
 | n::t=> .bind (hs n) fun _=>ENz.block hs t
section
variable {c0 c c':Ctx} {w W W':World} {mp mb:Nat} {hv:D5} {G:Nat->Prop} {lv:Bool} {st st':St} {ls:List (Nat×Array Value×TypeId)} {nr:List (Option Addr×List Nd)} {vr:List (List Dat×List Value)} {ow:OwS} {β:Type} {z:ER β} {Q:Ending->World->Prop} {f:FuncId} {args:Array Value}
theorem xU{m:EM Unit}{k:Unit->EM β}(H:EI c0 w mp mb hv G true c st ls nr vr ow W)(hz:ENz m)(Hn:Hid (z ≠ .out))(S:Hid (z=EM.bind m k st))(Hc:m st ≠ .out->Calls Tryz.prog f args W (EP mp mb hv N5 Bo c (m st) W))
  (hok:∀c' W' st',Hid (EI c0 w mp mb hv G true c' st' ls nr vr ow W')->Hid (z=k () st')->Q (.returned (.agg #[A B 0,A B 0,A B 0])) W')
  (herr:∀c' W' x y l,x≠0->Hid (EI c0 w mp mb hv G false c' st ls nr vr ow W')->Hid (z = .err x y l)->Q (.returned (.agg #[A B x,A B y,A B l])) W'):Calls Tryz.prog f args W Q:=by
 refine(Hc fun h=>Hn.out (S.out.trans (C4 h))).mono ?_;rintro e w' ⟨c2,aA,hq⟩;cases hm:m st with
 | out=>exact absurd (S.out.trans (C4 hm)) Hn.out
 | err x y l=>
  rw[hm] at hq;obtain rfl:=hq;have hm0:Mv c W ⟨c.M,c.F⟩ w':=⟨aA.os,aA.tape,aA.output,aA.size,aA.block,fun _ h=> .inl h,fun _ h=> .inl h⟩;exact herr _ w' x y l (hz _ _ _ _ hm) (Lq7 (H.dead.call (st':=st) hm0 (H.ok.below aA.size) (fun e=>by cases e))) (Lq7 (S.out.trans (ebind_err hm)))
 | ok u st2=>
  rw[hm] at hq;obtain⟨aB,v1,rfl,hv1⟩:=hq;obtain rfl:v1=Bo 0 0 0:=hv1;exact hok _ w' st2 (Lq7 (H.call aA aB.ok (fun _=>aB))) (Lq7 (S.out.trans (Ej hm)))
theorem xStm{sm:Nd->EM Unit}{k:Unit->EM β}{nk nl nc:Int}{nt:ByteArray}{ns:List Nd}{a:Option Addr}{cap:Nat}(hx:XM f mp mb hv sm)(Hn:Hid (z ≠ .out))(S:Hid (z=EM.bind (sm (.mk nk nt nl nc ns)) k st))
  (hok:∀c' W' st',Hid (EI c0 w mp mb hv G true c' st' ls nr vr ow W')->Hid (z=k () st')->Q (.returned (.agg #[A B 0,A B 0,A B 0])) W')
  (herr:∀c' W' x y l,x≠0->Hid (EI c0 w mp mb hv G false c' st ls nr vr ow W')->Hid (z = .err x y l)->Q (.returned (.agg #[A B x,A B y,A B l])) W')
  (H:EI c0 w mp mb hv G true c st ls nr vr ow W:=by exact gH) (hs:Hid (Cg (.mk nk nt nl nc ns)):=by assumption) (hc:Hid (Jw nk=true->ns.length<=cap):=by assumption) (hr:(a,ns)∈nr:=by simp):Calls Tryz.prog f #[.pointer (J ⟨mp,0,I⟩),.agg #[A B nk,D nt,A B nl,A B nc,C a ns.length cap]] W Q:=
 xU H (hx.nz _) Hn S (fun hne=>hx.does G c W st _ _ (H.ms rfl) H.g (A2.mk nk nt nl nc cap (H.nr _ hr) hc.out) hs.out hne) hok herr
theorem xPut{t:ByteArray}{l k1:Int}{k:Unit->EM β}{yk yn:Int}{ys:ByteArray}{yl:List Vl}{yks:List ByteArray}{b1 b2:Option Addr}{e1 e2:Nat}(ht:t.size<=maxLen)(Hn:Hid (z ≠ .out))(S:Hid (z=EM.bind (Ig t (.mk yk yn ys yl yks) l k1) k st))
  (hok:∀c' W' st',Hid (EI c0 w mp mb hv G true c' st' ls nr vr ow W')->Hid (z=k () st')->Q (.returned (.agg #[A B 0,A B 0,A B 0])) W')
  (herr:∀c' W' x y l,x≠0->Hid (EI c0 w mp mb hv G false c' st ls nr vr ow W')->Hid (z = .err x y l)->Q (.returned (.agg #[A B x,A B y,A B l])) W')
  (H:EI c0 w mp mb hv G true c st ls nr vr ow W:=by exact gH) (ha:(valD (.mk yk yn ys yl yks),[A B yk,A B yn,D ys,C b1 yl.length e1,C b2 yks.length e2])∈vr:=by simp) (hc:Ao (.mk yk yn ys yl yks)=true:=by refine Hid.out ?_;assumption):
  Calls Tryz.prog 76 #[.pointer (J ⟨mp,0,I⟩),D t,.agg #[A B yk,A B yn,D ys,C b1 yl.length e1,C b2 yks.length e2],.agg #[A B l,A B k1]] W Q:=
 xU H (.put _ _ _ _) Hn S (fun _=>put_any c mp mb hv st t _ _ l k1 W (H.ms rfl) ht (H.vr _ ha) hc) hok herr
theorem xBlk{sm:Nd->EM Unit}{k:Unit->EM β}{nk nl nc:Int}{nt:ByteArray}{ns:List Nd}{a:Option Addr}{cap:Nat}(hx:XBl mp mb hv sm)(Hn:Hid (z ≠ .out))(S:Hid (z=EM.bind (Cn sm ns) k st))
  (hok:∀c' W' st',Hid (EI c0 w mp mb hv G true c' st' ls nr vr ow W')->Hid (z=k () st')->Q (.returned (.agg #[A B 0,A B 0,A B 0])) W')
  (herr:∀c' W' x y l,x≠0->Hid (EI c0 w mp mb hv G false c' st ls nr vr ow W')->Hid (z = .err x y l)->Q (.returned (.agg #[A B x,A B y,A B l])) W')
  (H:EI c0 w mp mb hv G true c st ls nr vr ow W:=by exact gH) (hs:Hid (Cg (.mk nk nt nl nc ns)):=by assumption) (hr:(a,ns)∈nr:=by simp):Calls Tryz.prog 20 #[.pointer (J ⟨mp,0,I⟩),C a ns.length cap] W Q:=by
 have h:=hs.out;rw[Cg] at h;exact xU H (.block hx.nz _) Hn S (fun hne=>hx.does G c W st _ _ cap (H.ms rfl) H.g (H.nr _ hr) h.2.2 h.2.1 hne) hok herr
theorem eretU(j:Nat){fn:Func}{i bF:Nat}{T:TypeId}{z:ER Unit}{tm:Array Value}(S:Hid (z = .ok () st))(H:EI c0 w mp mb hv G true c st ls nr vr ow W)(hF:ls[j]? = J (bF,#[A B 0,A B 0,A B 0],T):=by rfl)
  (hf:fn.results=#[.cell i 75]:=by rfl) (hu:tm.getD i undef = .pointer (J ⟨bF,0,I⟩):=by rfl):bodyPost Tryz.prog fn (EP mp mb hv N5 Bo c0 z w) .ret ⟨tm,[]⟩ W:=by
 rw[Array.getD_eq_getD_getElem?] at hu;obtain⟨q0,q1,q2,q3,-⟩:=Bx (H.locs _ (lgM hF));refine bodyPost_ret (v:=Bo 0 0 0) (by simp[Bo,results,hf,go_sem,hu,q1,q2,q3]) rfl ?_;rw[S.out];exact⟨c,H.mv,H.ms rfl,_,rfl,rfl⟩
theorem eretE(j:Nat){fn:Func}{i bF:Nat}{T:TypeId}{x y l:Int}{z:ER Unit}{tm:Array Value}(S:Hid (z = .err x y l))(H:EI c0 w mp mb hv G lv c st ls nr vr ow W)(hF:ls[j]? = J (bF,#[A B x,A B y,A B l],T):=by rfl)
  (hf:fn.results=#[.cell i 75]:=by rfl) (hu:tm.getD i undef = .pointer (J ⟨bF,0,I⟩):=by rfl):bodyPost Tryz.prog fn (EP mp mb hv N5 Bo c0 z w) .ret ⟨tm,[]⟩ W:=by
 rw[Array.getD_eq_getD_getElem?] at hu;obtain⟨q0,q1,q2,q3,-⟩:=Bx (H.locs _ (lgM hF));refine bodyPost_ret (v:=Bo x y l) (by simp[Bo,results,hf,go_sem,hu,q1,q2,q3]) rfl ?_;rw[S.out];exact⟨c,H.mv,rfl⟩
end
theorem Ss{mp mb hv sm}(hx:XM 35 mp mb hv sm):XBl mp mb hv sm:=by
 refine⟨?_,hx.nz⟩;intro G c w st l a cap hm hG hr aD hlen aB;obtain⟨z,hz⟩:∃z,z=Cn sm l st:=⟨_,rfl⟩;rw[<-hz] at aB |-;have Hn:=Lq7 aB;have Hb:=Lq7 hx;have Hsn:=Lq7 aD;have S:Hid (z=Cn sm (l.drop 0) st):=Lq7 hz;have H:=Lq7 ((EI.start hm hG hr).alloc #[A B 0,A B 0,A B 0] 75);clear hz aB hx aD hm hG hr;unfold ptr;go_enter Tryz.func20,Tryz.ntmps20;go_wp2_with fail;generalize World.alloc _ _=W at H |-
 go_loopw [10] (fun i wr=>∃(j:Nat) (c1:Ctx) (aA:St),i = A B j/\j<=l.length/\Hid (EI c w mp mb hv G true c1 aA [(w.heap.size,#[A B 0,A B 0,A B 0],75)] [(a,l)] [] .nil wr)/\Hid (z=Cn sm (l.drop j) aA)) (fun i _=>l.length-(intOf i).toNat)
 case atStart=>exact⟨0,c,st,rfl,Nat.zero_le _,H,S⟩
 case round=>
  obtain⟨j,c1,aA,rfl,hj,H,S⟩:=hrel;by_cases hlt:j<l.length
  ·cases hk:l[j] with
   | mk xk xt xl xc xs=>
    have aC:l[j]? = J (.mk xk xt xl xc xs):=(by rw[lgE hlt,hk]);have hS:z=EM.bind (sm (.mk xk xt xl xc xs)) (fun _=>Cn sm (l.drop (j+1))) aA:=(by rw[S.out,List.drop_eq_getElem_cons hlt,hk];rfl);have S:=Lq7 hS;obtain⟨b,off,a1,c1',rfl,-,hbl,r0,r1,r2,r3,r4,Hcp,aE⟩:=(H.out.nr _ (lmS ..)).nodeK aC;have H:=Lq7 (H.out.node aE);have Hs:=Lq7 (Ev Hsn.out (lgM aC));clear aC hk aE hS;refine goM ?_;exact xdrv
  ·have S:Hid (z = .ok () aA):=Lq7 (S.out.trans (by rw[List.drop_eq_nil_of_le (by omega)];rfl));refine goM ?_;exact xdrv
theorem each_d{mp mb hv ex sm}(hx:XN 74 mp mb hv ex)(hb:XBl mp mb hv sm):SDoes 77 mp mb hv (eFor ex sm):=by
 intro G cc w st n v hm hG hn aA aB;obtain⟨kk,t,l,k,kids⟩:=n;obtain⟨a,cap,rfl,hr⟩:=hn.open;obtain⟨z,hz⟩:∃z,z=eFor ex sm (.mk kk t l k kids) st:=⟨_,rfl⟩;rw[<-hz] at aB |-;have Hn:=Lq7 aB;have Hx:=Lq7 hx;have Hb:=Lq7 hb;have Hs:=Lq7 aA;have HL:Hid (kids.length<=140737488355328):=Lq7 (by rw[Cg] at aA;omega);have Ht:Hid (t.size<=maxLen):=Lq7 (by rw[Cg] at aA;exact aA.1);have S:Hid (z=EM.bind (ex (kidN (.mk kk t l k kids) 0)) (fun v=>if v.kind=4 then Ij sm (.mk kk t l k kids) (kidN (.mk kk t l k kids) 1).kids v.items else eFail 9 (kidN (.mk kk t l k kids) 0).ln (kidN (.mk kk t l k kids) 0).cl) st):=Lq7 hz;have H:=Lq7 (EI.start hm hG hr);have hnk:=node_kids;clear hz aB hx hb aA hn hm hG hr;unfold ptr;go_enter Tryz.func77,Tryz.ntmps77;go_wp2_with fail;refine xKid 0 Hs.out ?_ HL.out;intro V xk xt xl xc xs a1 p hx hs hc H;rw[hx] at S
 ((try simp only[List.cons_append,List.nil_append] at H);(have hD:=H.out.fa);(simp only[FaA,PwA,NeB,and_true] at hD);go_wp2_with fail;all_goals (try clear hD))
 refine xNode Hx.out Hn S (fun c V yk yn ys yl yks b1 e1 b2 e2 st H S hk=>?_) (fun c V x y l hq H S=>?_);rotate_left
 ·have hq':(x==0)=false:=(by simpa using hq);refine goM ?_;exact xdrv
 by_cases h4:yk=4;rotate_left
 ·have h4':(yk==4)=false:=(by simpa using h4);have S:Hid (z = .err 9 xl xc):=Lq7 (S.out.trans (ifF h4));refine goM ?_;exact xdrv
 subst h4;have S:Hid (z=Ij sm (.mk kk t l k kids) (kidN (.mk kk t l k kids) 1).kids (yl.drop 0) st):=Lq7 (S.out.trans (ifT rfl))
 ((try simp only[List.cons_append,List.nil_append] at H);(have hD:=H.out.fa);(simp only[FaA,PwA,NeB,and_true] at hD);go_wp2_with fail;all_goals (try clear hD))
 go_loopw [35] (fun i wr=>∃(j:Nat) (c1:Ctx) (aC:St),i = A B j/\j<=yl.length/\Hid (EI cc w mp mb hv G true c1 aC [(w.heap.size,#[A B kk,D t,A B l,A B k,C a kids.length cap],27),(w.heap.size+1,#[A B 0,A B 0,A B 0],75)] [(a,kids)] [(valD (.mk 4 yn ys yl yks),[A B 4,A B yn,D ys,C b1 yl.length e1,C b2 yks.length e2])] .nil wr)/\Hid (z=Ij sm (.mk kk t l k kids) (kidN (.mk kk t l k kids) 1).kids (yl.drop j) aC)) (fun i _=>yl.length-(intOf i).toNat)
 case atStart=>exact⟨0,c,st,rfl,Nat.zero_le _,Lq7 (EI.sub gH 2),S⟩
 case round=>
  obtain⟨j,c1,aC,rfl,hj,H,S⟩:=hrel;by_cases hlt:j<yl.length
  ·cases hz:yl[j] with
   | mk zk zn zs zm zks=>
    have aD:yl[j]? = J (.mk zk zn zs zm zks):=(by rw[lgE hlt,hz]);have hS:z=EM.bind (Ig t (.mk zk zn zs zm zks) l k) (fun _=>EM.bind (Cn sm (kidN (.mk kk t l k kids) 1).kids) fun _=>Ij sm (.mk kk t l k kids) (kidN (.mk kk t l k kids) 1).kids (yl.drop (j+1))) aC:=(by rw[S.out,List.drop_eq_getElem_cons hlt,hz];rfl);have S:=Lq7 hS;obtain⟨b,off,a3,c3,a4,c4,rfl,-,hbl,r0,r1,r2,r3,r4,aE,aF⟩:=(Q7 (H.out.vr _ (lmS ..))).1.val aD;have H:=Lq7 (H.out.val (Ax.val_mk (l:=zm) (ks:=zks) zk zn zs c3 c4 aE aF));have hyl:yl.length<=140737488355328:=(by have h:=B7 hk.out;rw[A5] at h;exact h.2.1);have hk2:=Lq7 (N7 hk.out _ (lgM aD));clear aD hz aE aF hS;refine goM ?_;exact xdrv
  ·have S:Hid (z = .ok () aC):=Lq7 (S.out.trans (by rw[List.drop_eq_nil_of_le (by omega)];rfl));refine goM ?_;exact xdrv
theorem stmt_d{mp mb hv ex sm}(hx:XN 74 mp mb hv ex)(hb:XBl mp mb hv sm)(he:XM 77 mp mb hv (eFor ex sm)):SDoes 35 mp mb hv (Me ex sm):=by
 intro G c w st n v hm hG hn aA aB;obtain⟨kk,t,l,k,kids⟩:=n;obtain⟨a,cap,rfl,hr⟩:=hn.open;obtain⟨z,hz⟩:∃z,z=Me ex sm (.mk kk t l k kids) st:=⟨_,rfl⟩;rw[<-hz] at aB |-;have Hn:=Lq7 aB;have Hx:=Lq7 hx;have Hb:=Lq7 hb;have He:=Lq7 he;have Hs:=Lq7 aA;have Hc:=Lq7 (A2.cap hn);have HL:Hid (kids.length<=140737488355328):=Lq7 (by rw[Cg] at aA;omega);have Ht:Hid (t.size<=maxLen):=Lq7 (by rw[Cg] at aA;exact aA.1);have H:=Lq7 (EI.start hm hG hr);have hnk:=node_kids;clear aB hx hb he aA hn hm hG hr;unfold ptr;by_cases h2:kk=2
 ·subst h2;have S:Hid (z=EM.bind (Cv l k) (fun _=>EM.bind (ex (kidN (.mk 2 t l k kids) 0)) fun v=>Ig t v l k) st):=Lq7 (hz.trans rfl);clear hz;go_enter Tryz.func35,Tryz.ntmps35;go_wp2_with fail;exact xdrv
 by_cases h4:kk=4
 ·subst h4;have S:Hid (z=EM.bind (Cv l k) (fun _=>eFor ex sm (.mk 4 t l k kids)) st):=Lq7 (hz.trans rfl);clear hz;go_enter Tryz.func35,Tryz.ntmps35;go_wp2_with fail;exact xdrv
 by_cases h3:kk=3
 ·subst h3;have S:Hid (z=EM.bind (Cv l k) (fun _=>EM.bind (ex (kidN (.mk 3 t l k kids) 0)) fun _=>EM.pure ()) st):=Lq7 (hz.trans rfl);clear hz;go_enter Tryz.func35,Tryz.ntmps35;go_wp2_with fail;exact xdrv
 by_cases h5:kk=5
 ·subst h5;have S:Hid (z=EM.bind (Cv l k) (fun _=>EM.bind (ex (kidN (.mk 5 t l k kids) 0)) fun v=>if Gl v then Cn sm (kidN (.mk 5 t l k kids) 1).kids else Cn sm (kidN (.mk 5 t l k kids) 2).kids) st):=Lq7 (hz.trans rfl);clear hz;go_enter Tryz.func35,Tryz.ntmps35;go_wp2_with fail;exact xdrv
 have S:Hid (z=EM.bind (Cv l k) (fun _=>eFail 3 l k) st):=Lq7 (hz.trans (congrArg (fun g=>EM.bind (Cv l k) g st) (by funext _;simp only[Nd.kind,h2,h4,h3,h5,if_false];rfl)));clear hz;go_enter Tryz.func35,Tryz.ntmps35;go_wp2_with fail;exact xdrv
theorem ENz.each{sm}(hs:∀n,ENz (sm n))(n body):∀l:List Vl,ENz (Ij sm n body l)
 | []=> .pure ()
 | _::t=> .bind (.put _ _ _ _) fun _=> .bind (ENz.block hs body) fun _=>ENz.each hs n body t
theorem ENz.stmt{ex sm}(hx:∀n,ENz (ex n))(hs:∀n,ENz (sm n))(n):ENz (Me ex sm n):=by
 refine .bind (.step _ _) fun _=>?_;split
 ·exact .bind (hx _) fun v=> .put _ _ _ _
 ·split
  ·refine .bind (hx _) fun v=>?_;split
   ·exact .each hs _ _ _
   ·exact .fail (by decide) _ _
  ·split
   ·exact .bind (hx _) fun _=> .pure ()
   ·split
    ·refine .bind (hx _) fun v=>?_;split
     ·exact .block hs _
     ·exact .block hs _
    ·exact .fail (by decide) _ _
theorem ENz.stmts{ans}(ha:Mc ans):∀(f:Nat) (n:Nd),ENz (Dr ans f n)
 | 0,_=> .out
 | f+1,n=>ENz.stmt (ENz.exprs ha f) (ENz.stmts ha f) n
theorem Wm{mp mb hv sm}(hnz:∀n,ENz (sm n))(hs:SDoes 35 mp mb hv sm)(G c w st l a cap)(hm:MS c w mp mb hv st)(hG:GOk G c w)(hr:Af G w a (Au l))(hsn:smallNs l)(hlen:l.length<=1000000)(aA:Cn sm l st ≠ .out):
  Calls Tryz.prog 20 #[ptr mp,C a l.length cap] w (EP mp mb hv N5 Bo c (Cn sm l st) w):=
 (Ss ⟨hs,hnz⟩).does G c w st l a cap hm hG hr hsn hlen aA
theorem Pk{mp mb:Nat}{hv}{fn:Nat}{rv}(hop:OpC)(hdo:Pn fn rv mp mb hv)(hin:HInv fn rv hv)(ha:Mc hv.ans):∀f,SDoes 35 mp mb hv (Dr hv.ans f)
 | 0=>fun _ _ _ _ _ _ _ _ _ _ aA=>absurd rfl aA
 | f+1=>
  have hx:XN _ mp mb hv (Cc hv.ans f):=⟨Pj hop hdo hin ha f,ENz.exprs ha f⟩;have hs:XM _ mp mb hv (Dr hv.ans f):=⟨Pk hop hdo hin ha f,ENz.stmts ha f⟩
  stmt_d hx (Ss hs) ⟨each_d hx (Ss hs),fun n=> .bind (hx.nz _) fun v=>by
   split
   ·exact .each hs.nz _ _ _
   ·exact .fail (by decide) _ _⟩
def Ka(ans:Ans):D5:=⟨.iface 83 (.agg #[]),ans,fun _ F w _=>E3 w/\StdB w/\F 3/\F 0,
 fun h hF _ hk=>⟨h.1.keep (hk _ (.inr h.2.2.1) h.1.here),(by
  obtain⟨m,hm⟩:=h.2.1;exact⟨m,(World.cell?_of_block (hk _ (.inr h.2.2.2) (Ar hm))).trans hm⟩),hF _ h.2.2.1,hF _ h.2.2.2⟩,fun h=>⟨h.1,h.2.1⟩⟩
theorem Re(ans):HInv 268 (.agg #[]) (Ka ans):=fun _ _=>by
 unfold Ka
 kernel_rfl
def aliveText:ByteArray:=⟨#[120,32,61,32,49,59,32,102,111,114,32,105,32,105,110,32,91,50,44,32,51,93,32,123,32,120,32,61,32,120,32,43,32,105,59,32,125]⟩
def aliveKids:List Nd:=
  [.mk 2 ⟨#[120]⟩ 1 1 [.mk 10 ⟨#[49]⟩ 1 5 []],
   .mk 4 ⟨#[105]⟩ 1 8 [.mk 12 ⟨#[]⟩ 1 17 [.mk 10 ⟨#[50]⟩ 1 18 [],.mk 10 ⟨#[51]⟩ 1 21 []],
     .mk 8 ⟨#[]⟩ 1 24 [.mk 2 ⟨#[120]⟩ 1 26 [.mk 16 ⟨#[43]⟩ 1 32 [.mk 9 ⟨#[120]⟩ 1 30 [],.mk 9 ⟨#[105]⟩ 1 34 []]]]]]
def intV(n:Int):Vl:=.mk 2 n ⟨#[]⟩ [] []
theorem alive_read:readL aliveText.data.toList=J (.ok (.mk 1 ⟨#[]⟩ 1 1 aliveKids)):=by kernel_rfl
theorem Oz(ans):G0 ans 8 aliveKids 14 = .ok () ⟨[(⟨#[120]⟩,intV 6),(⟨#[105]⟩,intV 3)],0,[]⟩:=by kernel_rfl
theorem O0(ans):G0 ans 8 aliveKids 13 = .err 12 1 34:=by kernel_rfl
theorem alive_small:smallNs aliveKids:=by
 unfold aliveKids;simp only[smallNs,Cg,and_true,lnC,lnN]
 decide
end Go.Proofs.YtlbbbapiklendaaGreatDoor
