/-
  The plain host among hosts:its method Call is found. (And what it stands on.)
-/
import Derived.Test.YtlbbbapiklendaaGreatDoorMEh
import Derived.Test.YtlbbbapiklendaaGreatDoorIter
namespace Go.Proofs.YtlbbbapiklendaaGreatDoor
open Go.IntKind renaming i64->B
open Go.Value renaming int->A,string->D,slice->C
open Go.Obj renaming cells->E
open Option renaming some->J,none->I
open Go Go.RowKit Go.Maps
open List renaming getElem?_eq_getElem->lgE,mem_of_getElem? -> lgM,length_take->lnT
open Nat renaming le_refl->nlr,lt_of_lt_of_le->nll,zero_le->nlz
open Go.Lib renaming hid->Lq7
open Go.RowKit.Below renaming refl->bRf
open Go.World renaming setCell->wsC
set_option maxRecDepth 100000
set_option maxHeartbeats 16000000
theorem Aaj{mp mb hv ex}(hnz:∀n st x y z,ex n st = .err x y z->x≠0)(hx:XDoes 74 mp mb hv ex):XDoes 125 mp mb hv (P5 ex):=by
 intro G c w st n v hm hG hn eC dB;obtain⟨kk,t,l,k,kids⟩:=n;obtain⟨a,cap,rfl,hr⟩:=hn.open;have hmm:=@run_makeMap Tryz.prog;obtain⟨i0,hi,hz0,hz1,hz2⟩:=info_parts infoVal;rw[Cf] at eC;obtain⟨-,hlen,aU⟩:=eC;obtain⟨h3a,h3b,h3c,eD,h3e⟩:=Gg w (E #[A B kk,D t,A B l,A B k,C a kids.length cap] 27) (E #[A B 0,A B 0,D ⟨#[]⟩,C I 0 0,C I 0 0] 53) (E #[A B 0,A B 0,A B 0] 75);have H0:=XB.start hm.ok #[A B kk,D t,A B l,A B k,C a kids.length cap] #[A B 0,A B 0,D ⟨#[]⟩,C I 0 0,C I 0 0] #[A B 0,A B 0,A B 0];have eE:DI mp mb hv G c w #[A B kk,D t,A B l,A B k,C a kids.length cap] a kids c ((((w.alloc (E #[A B kk,D t,A B l,A B k,C a kids.length cap] 27)).alloc (E #[A B 0,A B 0,D ⟨#[]⟩,C I 0 0,C I 0 0] 53)).alloc (E #[A B 0,A B 0,A B 0] 75)).alloc (.map #[] 0)) st []:=by
  generalize ((w.alloc (E #[A B kk,D t,A B l,A B k,C a kids.length cap] 27)).alloc (E #[A B 0,A B 0,D ⟨#[]⟩,C I 0 0,C I 0 0] 53)).alloc (E #[A B 0,A B 0,A B 0] 75)=W0 at *;have hb:Below w.heap.size w (W0.alloc (.map #[] 0)):=eD.alloc (by omega) _;have hs0:W0.heap.size=w.heap.size+1+1+1:=(by omega);exact⟨H0.below ((bRf _ W0).alloc (nlr _) _),by rw[<-hs0];exact NM.made _ W0,⟨fun h=>by have:=hm.ok.ml _ h;omega,fun h=>by have:=hm.ok.fl _ h;omega⟩,hm.below hb,hG.mv (.of_below c hb),fun b h=>(hG b h).1,hr.below hb⟩
 have HL:=Lq7 eE;clear h3a h3b h3c eD h3e H0 eE hm hG hr hn;obtain⟨res,bC⟩:∃res,res=P5 ex (.mk kk t l k kids) st:=⟨_,rfl⟩;rw[<-bC] at dB |-;have dC:Hid (res=EM.bind (Fw ex (kids.drop 0) []) (fun m=>D8 (J7 m) l k) st):=Lq7 bC;have eF:=Lq7 dB;have aV:=Lq7 aU;have Hx:=Lq7 hx;have Hnz:=Lq7 hnz;clear bC dB aU hx hnz;unfold ptr;go_enter Tryz.func125,Tryz.ntmps125;go_wp2_with fail;generalize World.alloc _ _=W1 at HL |-
 go_loopw [7] (fun i wr=>∃(j:Nat) (acc:List (ByteArray×Vl)) (c1:Ctx) (aQ:St),i = A B j/\j<=kids.length/\acc.length+acc.length=j/\Hid (DI mp mb hv G c w #[A B kk,D t,A B l,A B k,C a kids.length cap] a kids c1 wr aQ acc)/\Hid (res=EM.bind (Fw ex (kids.drop j) acc) (fun m=>D8 (J7 m) l k) aQ)) (fun i _=>kids.length-(intOf i).toNat)
 case atStart=>exact⟨0,[],c,st,rfl,nlz _,rfl,HL,dC⟩
 case round=>
  obtain⟨j,acc,c1,aQ,rfl,hj,hacc,hl,bD⟩:=hrel;obtain⟨r0,r1,r2,r3,r4,r5,r6,r7,r8,r9,bR⟩:=Aa hl.out.xb.na;by_cases hlt:j+1<kids.length
  ·have bS:j<kids.length:=(by omega);have dD:(j:Int)+1<kids.length:=(by omega);cases hk:kids[j] with
   | mk xk xt xl xc xs=>
   cases hk2:kids[j+1] with
   | mk vk vt vl vc vs=>
    have aR:kids[j]? = J (.mk xk xt xl xc xs):=(by rw[lgE bS,hk]);have cR:kids[j+1]? = J (.mk vk vt vl vc vs):=(by rw[lgE hlt,hk2]);have aA:kids.drop j = .mk xk xt xl xc xs :: .mk vk vt vl vc vs::kids.drop (j+1+1):=(by rw[List.drop_eq_getElem_cons bS,hk,List.drop_eq_getElem_cons hlt,hk2]);have eG:xt.size<=maxLen:=by
     have:=Ex aV.out (lgM aR);rw[Cf] at this;exact this.1
    have dE:=Lq7 eG;obtain⟨b,off,a1,c1',eH,hF,hbl,p0,p1,p2,p3,p4,eI,eJ⟩:=hl.out.row.nodeK aR;obtain⟨b',off',a2,c2',hae',-,hbl',v0,v1,v2,v3,v4,bT,dF⟩:=hl.out.row.nodeK cR;have eK:=eH.symm.trans hae';obtain rfl:b=b':=(by injection eK with h;injection h);obtain rfl:off=off':=(by injection eK with h;injection h);have bE:Below wr.heap.size wr (wr.alloc (E #[A B xk,D xt,A B xl,A B xc,C a1 xs.length c1'] 27)):=(bRf _ wr).alloc (nlr _) _;have bU:=Lq7 (hl.out.below bE);have bM:=Lq7 (heap_alloc_new wr (E #[A B xk,D xt,A B xl,A B xc,C a1 xs.length c1'] 27));have dG:=Lq7 (dF.below bE);have bW:b<(wr.alloc (E #[A B xk,D xt,A B xl,A B xc,C a1 xs.length c1'] 27)).heap.size:=nll hbl bE.size;subst eH;rcases bU.out.nm.look xt dE.out with⟨hno,bG⟩|⟨x',cs',hyes,hag',-,bG⟩;rotate_left
    ·have aB:Hid (res = .err 8 xl xc):=Lq7 (by rw[bD.out,aA,Fw,if_pos (by show(lookN acc xt).isSome=true;rw[hyes];rfl)];rfl);obtain⟨zk,zn,zs,zl,zks⟩:=x';obtain⟨b3,e3,b4,e4,rfl,-,-⟩:=hag'.val;have aW:Below (wr.alloc (E #[A B xk,D xt,A B xl,A B xc,C a1 xs.length c1'] 27)).heap.size (wr.alloc (E #[A B xk,D xt,A B xl,A B xc,C a1 xs.length c1'] 27)) ((wr.alloc (E #[A B xk,D xt,A B xl,A B xc,C a1 xs.length c1'] 27)).alloc (E #[A B zk,A B zn,D zs,C b3 zl.length e3,C b4 zks.length e4] 53)):=(bRf _ _).alloc (nlr _) _;have H6:=Lq7 (bU.out.xb.below aW);have bX:=Lq7 (stays bM.out aW);have hsz:=hl.out.xb.size;obtain⟨u0,u1,u2,u3,u4,u5,u6,u7,u8,u9,cU⟩:=Aa bM.out;clear hyes hag' aW bU bM dG hl bD hk hk2 aR cR aA eG dE eJ dF hF eI bT
     go_upto_region 8 with fail
     generalize World.alloc (World.alloc _ _) _=Wb at H6 bX |-;generalize wr.heap.size=kb at bX hsz |-;clear p0 p1 p2 p3 p4 v0 v1 v2 v3 v4 r0 r1 r2 r3 r4 r5 r6 r7 r8 r9 bR u0 u1 u2 u3 u4 u5 u6 u7 u8 u9 cU hbl hbl' bW bG;refine Bm (.s 0 (.s 1 (.s 2 (.s 3 (.h 4 (.h 5 .nil)))))) 99 (fun W'=>W'.heap[kb]? = J (E #[A B xk,D xt,A B xl,A B xc,C a1 xs.length c1'] 27 (0,0))) bX.out ?_;have H7:=Lq7 (H6.out.below ((bRf _ Wb).drew));have dH:Hid (Wb.drew.heap[kb]? = J (E #[A B xk,D xt,A B xl,A B xc,C a1 xs.length c1'] 27 (0,0))):=Lq7 bX.out;generalize Wb.drew=Wd2 at H7 dH |-;clear H6 bX;refine Aw (.agg #[A B 0,A B 0,D ⟨#[]⟩,C I 0 0,C I 0 0]) ?_;refine Aw (.pointer (J ⟨kb,2,I⟩)) ?_;refine A9 (.agg #[A B xl,A B xc]) ?_;refine Aw (.agg #[A B 8,A B xl,A B xc]) ?_;obtain⟨s0,s1,s2,s3,s4,s5,s6,s7,s8,s9,bN⟩:=Aa H7.out.vb;refine Ae rfl (fun Kx bY=>?_);go_wp2_with fail;have H8:=Lq7 (H7.out.setV (A B 0) (A B 0) (D ⟨#[]⟩) (C I 0 0) (C I 0 0));have cV:=Lq7 ((Dt (W:=Wd2) (b:=w.heap.size+1) (k:=kb) (by omega) (A B 0) (A B 0) (D ⟨#[]⟩) (C I 0 0) (C I 0 0)).trans dH.out);unfold Nt at H8;refine bY _ _ (fun _=>cV.out) ?_;generalize wsC _ _ _=W8 at H8 cV |-;(try simp only[gX,Act.put]);clear s0 s1 s2 s3 s4 s5 s6 s7 s8 s9 bN bY H7 dH;obtain⟨d0,d1,d2,d3,d4,d5,d6⟩:=Bh H8.out.fc;refine Ae rfl (fun Ky bZ=>?_);go_wp2_with fail;have H9:=Lq7 (H8.out.setF (A B 8) (A B xl) (A B xc));unfold set3 at H9;refine bZ _ _ (fun _=>((((Ad (by omega) 2 _).trans (Ad (by omega) 1 _)).trans (Ad (by omega) 0 _)).trans cV.out)) ?_;generalize wsC _ _ _=W9 at H9 |-;refine A2 ?_;(try simp only[gX,Act.put]);clear d0 d1 d2 d3 d4 d5 d6 bZ H8 cV;obtain⟨s0,s1,s2,s3,s4,s5,s6,s7,s8,s9,bN⟩:=Aa H9.out.vb;obtain⟨d0,d1,d2,d3,d4,d5,d6⟩:=Bh H9.out.fc;go_wp2_with fail;refine bodyPost_ret (v:=badV 8 xl xc) (by simp[badV,zeroV,Bk,results,Tryz.results125,go_sem,s1,s2,s3,s4,s5,d1,d2,d3]) rfl ?_;rw[aB.out];exact⟨_,H9.out.mv,rfl⟩
    ·have bH:ex (.mk vk vt vl vc vs) aQ ≠ .out:=fun h=>eF.out (by rw[bD.out,aA,Fw,if_neg (by show ¬(lookN acc xt).isSome=true;rw[hno];decide),Eo (Eo h)]);have cA:Hid (res=EM.bind (EM.bind (ex (.mk vk vt vl vc vs)) fun x=>Fw ex (kids.drop (j+2)) (acc++[(xt,x)])) (fun m=>D8 (J7 m) l k) aQ):=Lq7 (by rw[bD.out,aA,Fw,if_neg (by show ¬(lookN acc xt).isSome=true;rw[hno];decide)];rfl);have aW:Below (wr.alloc (E #[A B xk,D xt,A B xl,A B xc,C a1 xs.length c1'] 27)).heap.size (wr.alloc (E #[A B xk,D xt,A B xl,A B xc,C a1 xs.length c1'] 27)) ((wr.alloc (E #[A B xk,D xt,A B xl,A B xc,C a1 xs.length c1'] 27)).alloc (E #[A B 0,A B 0,D ⟨#[]⟩,C I 0 0,C I 0 0] 53)):=(bRf _ _).alloc (nlr _) _;have bO:=Lq7 (bU.out.below aW);have dI:=Lq7 (stays bM.out aW);have Hc:=Lq7 (Hx.out G c1 _ aQ (.mk vk vt vl vc vs) _ bO.out.ms bO.out.g (A7.mk _ _ _ _ c2' (dG.out.below aW)) (Ex aV.out (lgM cR)) bH);have dJ:=Lq7 hno;have cC:∀b,c1.M b->b<wr.heap.size:=hl.out.ms.ok.ml;have bI:=Lq7 cC;obtain⟨u0,u1,u2,u3,u4,u5,u6,u7,u8,u9,cU⟩:=Aa bM.out;unfold ptr at Hc;unfold zeroV at bG;clear hno cC bH aW bU bM dG bD hk hk2 aR cR aA eJ dF hF eI bT;go_wp2_with fail;refine Hc.out.mono ?_;rintro e w2 ⟨c2,cD,hq⟩;have dK:=Lq7 ((cD.block _ (here dI.out) (fun h=>by have:=bI.out _ h;omega)).trans dI.out);clear p0 p1 p2 p3 p4 v0 v1 v2 v3 v4 r0 r1 r2 r3 r4 r5 r6 r7 r8 r9 bR u0 u1 u2 u3 u4 u5 u6 u7 u8 u9 cU hbl hbl' bW bG Hc dI;cases hxx:ex (.mk vk vt vl vc vs) aQ with
     | out=>exact absurd hxx (fun h=>eF.out (by rw[cA.out,Eo (Eo h)]))
     | err x y z=>
      rw[hxx] at hq;obtain rfl:=hq;have aB:Hid (res = .err x y z):=Lq7 (by rw[cA.out,ebind_err (ebind_err hxx)]);have hxz:=Hnz.out _ _ _ _ _ hxx;have hxz':(x==0)=false:=(by simpa using hxz);have H1:=Lq7 (bO.out.xb.later cD);clear hxx cA bO hl cD dK dJ bI;unfold badV zeroV Bk
      go_upto_region 11 with fail
      have eL:Below w2.heap.size w2 ((w2.alloc (E #[A B 0,A B 0,D ⟨#[]⟩,C I 0 0,C I 0 0] 53)).alloc (E #[A B x,A B y,A B z] 75)):=((bRf _ w2).alloc (nlr _) _).alloc (by simp) _;have Hf:=Lq7 (heap_alloc_new (w2.alloc (E #[A B 0,A B 0,D ⟨#[]⟩,C I 0 0,C I 0 0] 53)) (E #[A B x,A B y,A B z] 75));rw[show(w2.alloc (E #[A B 0,A B 0,D ⟨#[]⟩,C I 0 0,C I 0 0] 53)).heap.size=w2.heap.size+1 by simp] at Hf;have H2:=Lq7 (H1.out.below eL);have hsz:=H1.out.size;generalize World.alloc (World.alloc _ _) _=W at H2 Hf |-;generalize hfb:w2.heap.size+1=fb at Hf hsz |-;have hsz:w.heap.size+3<=fb:=(by omega);clear eL H1 hfb;refine Bm (.s 0 (.s 1 (.h 2 (.h 3 .nil)))) 99 (fun W'=>W'.heap[fb]? = J (E #[A B x,A B y,A B z] 75 (0,0))) Hf.out ?_;have H5:=Lq7 (H2.out.below ((bRf _ W).drew));have dL:Hid (W.drew.heap[fb]? = J (E #[A B x,A B y,A B z] 75 (0,0))):=Lq7 Hf.out;generalize W.drew=Wd at H5 dL |-;clear H2 Hf;refine Aw (.agg #[A B 0,A B 0,D ⟨#[]⟩,C I 0 0,C I 0 0]) ?_;refine A9 (.agg #[A B x,A B y,A B z]) ?_;obtain⟨s0,s1,s2,s3,s4,s5,s6,s7,s8,s9,bN⟩:=Aa H5.out.vb;refine Ae rfl (fun Kx bY=>?_);go_wp2_with fail;have H6:=Lq7 (H5.out.setV (A B 0) (A B 0) (D ⟨#[]⟩) (C I 0 0) (C I 0 0));have cW:=Lq7 ((Dt (W:=Wd) (b:=w.heap.size+1) (k:=fb) (by omega) (A B 0) (A B 0) (D ⟨#[]⟩) (C I 0 0) (C I 0 0)).trans dL.out);unfold Nt at H6;refine bY _ _ (fun _=>cW.out) ?_;generalize wsC _ _ _=W6 at H6 cW |-;(try simp only[gX,Act.put]);clear s0 s1 s2 s3 s4 s5 s6 s7 s8 s9 bN bY H5 dL;obtain⟨d0,d1,d2,d3,d4,d5,d6⟩:=Bh H6.out.fc;refine Ae rfl (fun Ky bZ=>?_);go_wp2_with fail;have H7:=Lq7 (H6.out.setF (A B x) (A B y) (A B z));unfold set3 at H7;refine bZ _ _ (fun _=>((((Ad (by omega) 2 _).trans (Ad (by omega) 1 _)).trans (Ad (by omega) 0 _)).trans cW.out)) ?_;generalize wsC _ _ _=W7 at H7 |-;refine A2 ?_;(try simp only[gX,Act.put]);clear d0 d1 d2 d3 d4 d5 d6 bZ H6 cW;obtain⟨s0,s1,s2,s3,s4,s5,s6,s7,s8,s9,bN⟩:=Aa H7.out.vb;obtain⟨d0,d1,d2,d3,d4,d5,d6⟩:=Bh H7.out.fc;go_wp2_with fail;refine bodyPost_ret (v:=badV x y z) (by simp[badV,zeroV,Bk,results,Tryz.results125,go_sem,s1,s2,s3,s4,s5,d1,d2,d3]) rfl ?_;rw[aB.out];exact⟨_,H7.out.mv,rfl⟩
     | ok x st2=>
      rw[hxx] at hq;obtain⟨cE,v2,rfl,cs,rfl,bJ,aE⟩:=hq;obtain⟨yk,yn,ys,yl,yks⟩:=x;have eM:=bO.out.later cD cE;have cF:Ai (c2.with c1.F).F w2 (valD (.mk yk yn ys yl yks)) cs:=bJ.wider (fun b h _=> .inl h);obtain⟨b1,e1,b2,e2,rfl,-,-⟩:=bJ.val;have aF:Hid (res=EM.bind (Fw ex (kids.drop (j+2)) (acc++[(xt,.mk yk yn ys yl yks)])) (fun m=>D8 (J7 m) l k) st2):=Lq7 (by rw[cA.out];simp[EM.bind,hxx]);have cY:Below w2.heap.size w2 ((w2.alloc (E #[A B yk,A B yn,D ys,C b1 yl.length e1,C b2 yks.length e2] 53)).alloc (E #[A B 0,A B 0,A B 0] 75)):=((bRf _ w2).alloc (nlr _) _).alloc (by simp) _;have dM:=Lq7 (eM.below cY);have aH:=Lq7 (cF.below cY);have dN:=Lq7 (stays dK.out cY);have dO:=Lq7 aE;have dP:Hid (((w2.alloc (E #[A B yk,A B yn,D ys,C b1 yl.length e1,C b2 yks.length e2] 53)).alloc (E #[A B 0,A B 0,A B 0] 75)).heap[w2.heap.size]? = J (E #[A B yk,A B yn,D ys,C b1 yl.length e1,C b2 yks.length e2] 53 (0,0))):=Lq7 ((Below.heap_alloc _ _ _ (by simp)).trans (heap_alloc_new w2 (E #[A B yk,A B yn,D ys,C b1 yl.length e1,C b2 yks.length e2] 53)));clear hxx cA bO hl cD cE bJ aE eM cF cY dK bI;unfold Bk
      go_upto_region 12 with fail
      generalize World.alloc (World.alloc _ _) _=W3 at dM aH dN dP |-;obtain⟨o,hrun,dQ⟩:=dM.out.put xt dE.out _ _ aH.out dO.out;rw[Ll _ (U4 dJ.out)] at dQ;have Hdi:=Lq7 dQ;obtain⟨u0,u1,u2,u3,u4,u5,u6,u7,u8,u9,cU⟩:=Aa dN.out;obtain⟨q0,q1,q2,q3,q4,q5,q6,q7,q8,q9,bP⟩:=Aa dP.out;clear dQ dM aH dN dP dJ;go_wp2_with fail;go_roundw
      case rel=>exact⟨j+2,acc++[(xt,.mk yk yn ys yl yks)],_,st2,by go_num,by omega,by simp;omega,Hdi,aF⟩
      case measure=>simp only[intOf];omega
  ·generalize wr=wo at *;have dD:¬(j:Int)+1<kids.length:=(by omega);have hd:Fw ex (kids.drop j) acc=EM.pure acc:=by
    cases hdj:kids.drop j with
    | nil=>rfl
    | cons x t=>
     cases t with
     | nil=>rfl
     | cons y t=>
      have:=congrArg List.length hdj;rw[List.length_drop] at this;simp at this;omega
   have aF:Hid (res=D8 (J7 acc) l k aQ):=Lq7 (by rw[bD.out,hd];rfl);have eN:acc.length<=1000000:=(by omega);have dR:=Lq7 hl.out;have Hml:=Lq7 hl.out.ms.ok.ml;have dS:=Lq7 hl.out.nm.few;obtain⟨Dm,hown,aY,aJ⟩:=hl.out.nm.owns eN;have dT:=Lq7 hown;have aZ:=Lq7 aY;clear hl bD hd aY
   go_upto_region 13 with fail
   clear r0 r1 r2 r3 r4 r5 r6 r7 r8 r9 bR;go_wp2_with fail;refine((callsIn_wide (n:=5)).1 (Tryz.maps_Keys_22 (J (w.heap.size+1+1+1)) wo)).mono ?_;rintro e w2 ⟨rfl,hw2⟩;subst hw2;have HS:=Lq7 ((callsIn_wide (n:=5)).1 (Tryz.slices_Sorted_keys_21_22 (w.heap.size+1+1+1) _ Dm anyElem wo hown (by rw[aJ];unfold maxLen;omega) (by rw[aJ];omega)));have eO:Below wo.heap.size wo (wo.alloc (E #[.map (J (w.heap.size+1+1+1))] 71)):=(bRf _ wo).alloc (nlr _) _;have H3:=Lq7 (dR.out.below eO);have Hs0:Hid (w.heap.size+3<=wo.heap.size):=Lq7 dR.out.xb.size;clear hown aJ eO dR dT;go_wp2_with fail;refine HS.out.mono ?_;rintro e w3 ⟨v,ss,rfl,hS,cG,-,dU⟩;have hK:=Rx (hS.trans aZ.out) cG;have eP:∀g,v.ownBlock=J g->(fun b=>wo.heap.size<=b/\b<w3.heap.size) g:=fun g hg=>by
    have:=hK.block hg;simp at this;omega
   obtain⟨aK,cK,rfl,eQ⟩:=hK.rowAt eP;have dV:=Lq7 eQ;have H4:=Lq7 (H3.out.below dU);have hws:wo.heap.size<w3.heap.size:=(by have:=dU.size;simp at this;omega);have bL:=Lq7 (Ny acc);have hkb:(Cs acc).length<=1000000:=(by have:=bL.out;omega);have cH:Hid (((C5 acc).map (·.2)).length=acc.length):=Lq7 (by rw[List.length_map,Pz]);clear hS cG dU hK eQ H3 HS aZ eP;have dW:=heap_alloc_new w3 (E #[A B 5,A B 0,D ⟨#[]⟩,C I 0 0,C aK (Cs acc).length cK] 53);have eR:Hid (SI c1.F w3.heap.size (C aK (Cs acc).length cK) w3 (w3.alloc (E #[A B 5,A B 0,D ⟨#[]⟩,C I 0 0,C aK (Cs acc).length cK] 53)) (C I 0 0) (((C5 acc).map (·.2)).take 0)):=Lq7 ⟨dW,OwnD.nil _ _ _ _ _,(bRf _ w3).alloc (nlr _) _,H4.out.ms.ok.fl⟩;obtain⟨q0,q1,q2,q3,q4,q5,q6,q7,q8,q9,bP⟩:=Aa dW;clear dW;go_wp2_with fail;clear q0 q1 q2 q3 q4 q5 q6 q7 q8 q9 bP;generalize World.alloc _ _=W4 at eR |-
   go_loopw [69] (fun i wr=>∃(i1:Nat) (L:Value),i = A B i1/\i1<=(Cs acc).length/\Hid (SI c1.F w3.heap.size (C aK (Cs acc).length cK) w3 wr L (((C5 acc).map (·.2)).take i1))) (fun i _=>(Cs acc).length-(intOf i).toNat)
   case atStart=>exact⟨0,_,rfl,nlz _,eR⟩
   case round=>
    obtain⟨i1,L,rfl,hi1,aG⟩:=hrel;have aC:Below w3.heap.size w3 wr:=aG.out.bw;obtain⟨q0,q1,q2,q3,q4,q5,q6,q7,q8,q9,bP⟩:=Aa aG.out.sb;obtain⟨aL,capL,hL,-⟩:=(aG.out.own.wide (G:=fun _=>True) (fun _ _=>trivial)).rowAt (fun _ _=>trivial);rw[Bi,lnT,cH.out] at hL;by_cases hlt:i1<(Cs acc).length
    ·have eS:=Lq7 hlt;have aM:min i1 acc.length=i1:=(by have:=bL.out;omega);rw[aM] at hL;subst hL;clear aM;have aR:(Cs acc)[i1]? = J (Cs acc)[i1]:=lgE hlt;obtain⟨q,hq,eT⟩:=Rv (List.getElem_mem hlt);obtain⟨bK,oK,hak,aE⟩:=(dV.out.strs.below aC) i1 _ aR;subst hak;have bH:=Rw aR;generalize (Cs acc)[i1]=sn at aR eT aE bH;subst eT;obtain⟨cs,bG,bA,cI⟩:=(H4.out.nm.below aC).look1 hq;obtain⟨nm,vk,vn,vs,vl,vks⟩:=q;obtain⟨a1,c1',a2,c2,rfl,-,-⟩:=bA.val;rw[bG,Option.getD_some] at bH;have Htk:Hid (((C5 acc).map (·.2)).take (i1+1)=((C5 acc).map (·.2)).take i1++[.mk vk vn vs vl vks]):=Lq7 (by rw[List.take_add_one,List.getElem?_map,bH];rfl);have eU:(Ar (((C5 acc).map (·.2)).take i1)).length=i1:=(by rw[Bi,lnT,cH.out];have:=bL.out;omega);have bE:Below wr.heap.size wr (wr.alloc (E #[A B vk,A B vn,D vs,C a1 vl.length c1',C a2 vks.length c2] 53)):=(bRf _ wr).alloc (nlr _) _;have bQ:=Lq7 (aG.out.below bE);have bB:=Lq7 (Ko wr [A B vk,A B vn,D vs,C a1 vl.length c1',C a2 vks.length c2] 53);have cJ:=Lq7 ((bA.below bE).wider (G:=fun b=>c1.F b/\(Value.slice aL i1 capL).ownBlock≠J b) (fun b h _=>⟨h,fun e=>by have:=(aG.out.own.block_lt e).1;have:=aG.out.fl b h;omega⟩));have hvl:=here aG.out.sb;have dX:=Lq7 eU;clear eU;clear bH bG bA hq aR aG bE
     go_wp2_with (at_builtin;refine Df rfl _ _ 50 rfl (w3.heap.size+1) 53 i0 _ 5 80 Tryz.underlying50 hi hz0 hz1 hz2 rfl (by decide) (C aL i1 capL) c1.F (Ar (((C5 acc).map (·.2)).take i1)) rfl bQ.out.own ⟨wr.heap.size,0,I⟩ 1 (valD (.mk vk vn vs vl vks)) [A B vk,A B vn,D vs,C a1 vl.length c1',C a2 vks.length c2] rfl rfl bB.out ?_ cJ.out ?_ ?_ ?_ ?_)
     ·simp[Value.oneCell']
     ·rw[dX.out];have:=bL.out;unfold maxLen;omega
     ·rw[dX.out];have:=bL.out;omega
     ·first|omega|(simp;omega)
     intro v5 w5 aN aD _;obtain⟨a5,cap5,eV,-⟩:=(aN.wide (G:=fun _=>True) (fun _ _=>trivial)).rowAt (fun _ _=>trivial);rw[List.length_append,dX.out,List.length_singleton] at eV;subst eV;have cM:=(aD.block _ (here bQ.out.sb) (fun e=>by have:=(bQ.out.own.block_lt e.symm).1;omega)).trans bQ.out.sb;have cN:=Lq7 (bQ.out.grown aN aD);rw[<-Htk.out] at cN;clear q0 q1 q2 q3 q4 q5 q6 q7 q8 q9 bP aN aD bQ bB cJ cI aE;obtain⟨q0,q1,q2,q3,q4,q5,q6,q7,q8,q9,bP⟩:=Aa cM;clear cM;go_wp2_with fail;go_roundw
     case rel=>exact⟨i1+1,_,by go_num,Nat.succ_le_of_lt eS.out,cN⟩
     case measure=>have:=eS.out;simp only[intOf];omega
    ·have cQ:((C5 acc).map (·.2)).take i1=(C5 acc).map (·.2):=List.take_of_length_le (by have:=bL.out;have:=cH.out;omega);rw[cQ] at aG;have aM:min i1 acc.length=acc.length:=(by have:=bL.out;omega);rw[aM] at hL;subst hL;have eW:∀b,(wo.heap.size<=b/\b<wr.heap.size)->w.heap.size+3<=b:=fun b hb=>Nat.le_trans Hs0.out hb.1;have cZ:=(H4.out.ms.below aC).with (g:=fun b=>wo.heap.size<=b/\b<wr.heap.size) (fun b hb=>⟨hb.2,fun h=>by have:=Hml.out b h;omega⟩);have dY:=(H4.out.xb.below aC).with eW;obtain⟨aI,capI,hI,dZ⟩:=(aG.out.own.wide (G:=(c1.with fun b=>wo.heap.size<=b/\b<wr.heap.size).F) (fun b hb=> .inl hb)).rowAt (fun g hg=> .inr (by have:=aG.out.own.block_lt hg;omega));rw[Bi,cH.out] at hI;clear aM cQ;obtain⟨rfl,rfl⟩:aL=aI/\capL=capI:=(by injection hI with h1 h2 h3;exact⟨h1,h3⟩);have eA:Ac (c1.with fun b=>wo.heap.size<=b/\b<wr.heap.size).F wr aK (Bn (Cs acc)):=dV.out.mono fun b hb hl=>⟨.inr ⟨hb.1,nll hb.2 aC.size⟩,nll hl aC.size,aC.block b hl⟩;have bA:Ai (c1.with fun b=>wo.heap.size<=b/\b<wr.heap.size).F wr (valD (J7 acc)) [A B 5,A B 0,D ⟨#[]⟩,C aL acc.length capL,C aK (Cs acc).length cK]:=by
      have:=Ai.val_mk 5 0 ⟨#[]⟩ capL cK dZ eA;rw[cH.out] at this;unfold J7;rw[<-Xq];exact this
     have eB:=cZ.ok;generalize c1.with (fun b=>wo.heap.size<=b/\b<wr.heap.size)=c2 at cZ dY bA eB dZ eA;have Hm:=Lq7 (U3 _ (Xr eN dS.out) c2.F _ l k wr eB.fl bA);have H1:=Lq7 dY;have eX:=Lq7 cZ;have cJ:=Lq7 bA;clear cZ dY bA eB dZ eA aG eW H4 dV;obtain⟨r0,r1,r2,r3,r4,r5,r6,r7,r8,r9,bR⟩:=Aa H1.out.na;go_wp2_with fail;refine Hm.out.mono ?_;rintro e w5 ⟨dA,rfl⟩;have H3:=Lq7 (H1.out.below dA);have Hm3:=Lq7 (eX.out.below dA);have aH:=Lq7 (cJ.out.below dA);clear dA H1 eX cJ Hm r0 r1 r2 r3 r4 r5 r6 r7 r8 r9 bR q0 q1 q2 q3 q4 q5 q6 q7 q8 q9 bP;obtain⟨s0,s1,s2,s3,s4,s5,s6,s7,s8,s9,bN⟩:=Aa H3.out.vb;obtain⟨d0,d1,d2,d3,d4,d5,d6⟩:=Bh H3.out.fc;by_cases aE:Am (J7 acc)=true
     ·rw[if_pos aE];have dO:=Lq7 aE;have aB:Hid (res = .ok (J7 acc) aQ):=Lq7 (by rw[aF.out];unfold D8;rw[if_pos aE];rfl);unfold Bk;clear aE aF;go_wp2_with fail;refine bodyPost_ret (v:=.tuple #[.agg #[A B 5,A B 0,D ⟨#[]⟩,C aL acc.length capL,C aK (Cs acc).length cK],Bk 0 0 0]) (by simp[Bk,results,Tryz.results125,go_sem,s1,s2,s3,s4,s5,d1,d2,d3]) rfl ?_;have H4:=H3.out.setV (A B 5) (A B 0) (D ⟨#[]⟩) (C aL acc.length capL) (C aK (Cs acc).length cK);have Hm4:=H3.out.msV Hm3.out (A B 5) (A B 0) (D ⟨#[]⟩) (C aL acc.length capL) (C aK (Cs acc).length cK);have Ha4:=H3.out.aggV aH.out (A B 5) (A B 0) (D ⟨#[]⟩) (C aL acc.length capL) (C aK (Cs acc).length cK);rw[aB.out];exact⟨c2,(H4.setF (A B 0) (A B 0) (A B 0)).mv,H4.msF Hm4 (A B 0) (A B 0) (A B 0),_,rfl,[_,_,_,_,_],rfl,H4.aggF Ha4 (A B 0) (A B 0) (A B 0),dO.out⟩
     ·rw[if_neg aE];have aB:Hid (res = .err 6 l k):=Lq7 (by rw[aF.out];unfold D8;rw[if_neg aE];rfl);unfold badV zeroV Bk;clear aE aF;go_wp2_with fail;refine bodyPost_ret (v:=badV 6 l k) (by simp[badV,zeroV,Bk,results,Tryz.results125,go_sem,s1,s2,s3,s4,s5,d1,d2,d3]) rfl ?_;rw[aB.out];exact⟨c2,((H3.out.setV (A B 0) (A B 0) (D ⟨#[]⟩) (C I 0 0) (C I 0 0)).setF (A B 6) (A B l) (A B k)).mv,rfl⟩
end Go.Proofs.YtlbbbapiklendaaGreatDoor
namespace Go.Proofs.YtlbbbapiklendaaGreatDoor
open Go.IntKind renaming i64->B
open Go.Value renaming int->A,string->D,slice->C
open Go.Obj renaming cells->E
open Option renaming some->J,none->I
open Go Go.RowKit
open List renaming mem_of_getElem? -> lgM,mem_cons_self->lmS,mem_cons_of_mem->lmO,getElem?_eq_getElem->lgE,set_cons_zero->lsA,set_cons_succ->lsB
open Go.Lib renaming hid->Lq7
set_option maxRecDepth 100000
set_option maxHeartbeats 16000000
def ENz{α:Type}(m:EM α):Prop:=∀st x y z,m st = .err x y z->x≠0
theorem ENz.bind{α β}{m:EM α}{g:α->EM β}(hm:ENz m)(hg:∀a,ENz (g a)):ENz (EM.bind m g):=by
 intro st x y z h;cases hms:m st with
 | ok a st'=>rw[Gx hms] at h;exact hg _ _ _ _ _ h
 | err a b c=>rw[ebind_err hms] at h;cases h;exact hm _ _ _ _ hms
 | out=>rw[Eo hms] at h;cases h
theorem ENz.pure{α}(x:α):ENz (EM.pure x):=fun _ _ _ _ h=>by cases h
theorem ENz.out{α}:ENz (eOut:EM α):=fun _ _ _ _ h=>by cases h
theorem ENz.fail{α e}(he:e≠0)(l c):ENz (eFail e l c:EM α):=fun _ _ _ _ h=>by cases h;exact he
theorem ENz.step(l c):ENz (De l c):=fun st x y z h=>by
 unfold De at h;split at h
 ·cases h;decide
 ·cases h
theorem ENz.put(s v l c):ENz (Kc s v l c):=fun st x y z h=>by
 unfold Kc at h;split at h
 ·cases h;decide
 ·cases h
theorem ENz.made(v l c):ENz (D8 v l c):=by
 unfold D8;split
 ·exact .pure _
 ·exact .fail (by decide) _ _
theorem ENz.items{ex}(hx:∀n,ENz (ex n)):∀(l:List Nd) (acc:List Vl),ENz (Ip ex l acc)
 | [],acc=> .pure acc
 | n::t,acc=> .bind (hx n) fun x=>ENz.items hx t (acc++[x])
theorem ENz.res{r}(h:∀e,r = .error e->e≠0)(l c):ENz (eRes r l c):=by
 cases r with
 | ok v=>exact .pure _
 | error e=>exact .fail (h e rfl) _ _
theorem ENz.op{ex}(hx:∀n,ENz (ex n))(n):ENz (eOp ex n):=by
 refine .bind (hx _) fun a=>?_;split
 ·exact .pure _
 ·exact .bind (hx _) fun b=> .res (fun e h=>opL_nz h) _ _
theorem ENz.ents{ex}(hx:∀n,ENz (ex n)):∀(l:List Nd) (acc:List (ByteArray×Vl)),ENz (Fw ex l acc)
 | [],acc=> .pure acc
 | [_],acc=> .pure acc
 | k::n::t,acc=>by
  rw[Fw];split
  ·exact .fail (by decide) _ _
  ·exact .bind (hx n) fun x=>ENz.ents hx t _
theorem ENz.dict{ex}(hx:∀n,ENz (ex n))(n):ENz (P5 ex n):=.bind (ENz.ents hx _ _) fun _=> .made _ _ _
theorem ENz.args{ex}(hx:∀n,ENz (ex n)):∀(l:List Nd) (acc:List (ByteArray×Vl)),ENz (J8 ex l acc)
 | [],acc=> .pure acc
 | n::t,acc=> .bind (hx _) fun x=>ENz.args hx t (acc++[(n.text,x)])
def Om(ans:Ans):Prop:=∀log q y,ans log q=J (.error y)->y≠0
theorem ENz.ask{ans}(h:Om ans)(q):ENz (Jv ans q):=fun st x y z he=>by
 unfold Jv at he;split at he
 ·cases he
 ·next hq=>cases he;exact h _ _ _ hq
 ·split at he
  ·cases he
  ·cases he;decide
theorem ENz.expr{ans}(ha:Om ans){ex}(hx:∀n,ENz (ex n))(n):ENz (Jc ans ex n):=by
 refine .bind (.step _ _) fun _=>?_;intro st x y z h;split at h
 ·split at h
  ·cases h
  ·dsimp only at h
   split at h
   ·cases h
   ·cases h;decide
 ·split at h
  ·split at h<;>cases h
  ·split at h
   ·exact ENz.bind (ENz.items hx n.kids []) (fun l=>ENz.made _ _ _) st x y z h
   ·split at h
    ·exact ENz.op hx n st x y z h
    ·split at h
     ·exact ENz.made _ _ _ st x y z h
     ·split at h
      ·exact ENz.bind (ENz.args hx n.kids []) (fun l=>ENz.ask ha _) st x y z h
      ·split at h
       ·exact ENz.dict hx n st x y z h
       ·cases h;decide
theorem ENz.exprs{ans}(ha:Om ans):∀(f:Nat) (n:Nd),ENz (Cr ans f n)
 | 0,_=> .out
 | f+1,n=>ENz.expr ha (ENz.exprs ha f) n
theorem P2{mp mb:Nat}{hv}{fn:Nat}{rv}(hop:OpC)(hdo:Rt fn rv mp mb hv)(hin:HInv fn rv hv)(ha:Om hv.ans):∀f,XDoes 74 mp mb hv (Cr hv.ans f)
 | 0=>fun _ _ _ _ _ _ _ _ _ _ hne=>absurd rfl hne
 | f+1=>
  have hx:=P2 hop hdo hin ha f;have hz:=ENz.exprs ha f
  expr_xd ⟨list_d ⟨hx,hz⟩,fun n=>ENz.bind (ENz.items hz n.kids []) (fun _=>ENz.made _ _ _)⟩ ⟨op_d hop hz hx,ENz.op hz⟩ ⟨call_d hdo hin ⟨hx,hz⟩,fun n=>ENz.bind (ENz.args hz n.kids []) (fun _=>ENz.ask ha _)⟩ ⟨Aaj hz hx,ENz.dict hz⟩
def B4{α:Type}(m:EM α):Prop:=∀st x st',m st = .ok x st'->st'.names=st.names
theorem B4.bind{α β}{m:EM α}{g:α->EM β}(hm:B4 m)(hg:∀a,B4 (g a)):B4 (EM.bind m g):=by
 intro st x st' h;cases hms:m st with
 | ok a st1=>rw[Gx hms] at h;exact(hg _ _ _ _ h).trans (hm _ _ _ hms)
 | err a b c=>rw[ebind_err hms] at h;cases h
 | out=>rw[Eo hms] at h;cases h
theorem B4.pure{α}(x:α):B4 (EM.pure x):=fun _ _ _ h=>by cases h;rfl
theorem B4.fail{α}(e l c):B4 (eFail e l c:EM α):=fun _ _ _ h=>by cases h
theorem B4.out{α}:B4 (eOut:EM α):=fun _ _ _ h=>by cases h
theorem B4.step(l c):B4 (De l c):=fun st x st' h=>by
 unfold De at h;split at h
 ·cases h
 ·cases h;rfl
theorem B4.made(v l c):B4 (D8 v l c):=by
 unfold D8;split
 ·exact .pure _
 ·exact .fail _ _ _
theorem B4.items{ex}(hx:∀n,B4 (ex n)):∀(l:List Nd) (acc:List Vl),B4 (Ip ex l acc)
 | [],acc=> .pure acc
 | n::t,acc=> .bind (hx n) fun x=>B4.items hx t (acc++[x])
theorem B4.res(r l c):B4 (eRes r l c):=by
 cases r with
 | ok v=>exact .pure _
 | error e=>exact .fail _ _ _
theorem B4.op{ex}(hx:∀n,B4 (ex n))(n):B4 (eOp ex n):=by
 refine .bind (hx _) fun a=>?_;split
 ·exact .pure _
 ·exact .bind (hx _) fun b=> .res _ _ _
theorem B4.ents{ex}(hx:∀n,B4 (ex n)):∀(l:List Nd) (acc:List (ByteArray×Vl)),B4 (Fw ex l acc)
 | [],acc=> .pure acc
 | [_],acc=> .pure acc
 | k::n::t,acc=>by
  rw[Fw];split
  ·exact .fail _ _ _
  ·exact .bind (hx n) fun x=>B4.ents hx t _
theorem B4.args{ex}(hx:∀n,B4 (ex n)):∀(l:List Nd) (acc:List (ByteArray×Vl)),B4 (J8 ex l acc)
 | [],acc=> .pure acc
 | n::t,acc=> .bind (hx _) fun x=>B4.args hx t (acc++[(n.text,x)])
theorem B4.ask(ans q):B4 (Jv ans q):=fun st x st' he=>by
 unfold Jv at he;split at he
 ·cases he
 ·cases he
 ·split at he
  ·cases he;rfl
  ·cases he
theorem B4.expr(ans){ex}(hx:∀n,B4 (ex n))(n):B4 (Jc ans ex n):=by
 refine .bind (.step _ _) fun _=>?_;intro st x st' h;split at h
 ·split at h
  ·cases h;rfl
  ·dsimp only at h
   split at h
   ·cases h;rfl
   ·cases h
 ·split at h
  ·split at h
   ·cases h;rfl
   ·cases h
  ·split at h
   ·exact B4.bind (B4.items hx n.kids []) (fun l=>B4.made _ _ _) st x st' h
   ·split at h
    ·exact B4.op hx n st x st' h
    ·split at h
     ·exact B4.made _ _ _ st x st' h
     ·split at h
      ·exact B4.bind (B4.args hx n.kids []) (fun l=>B4.ask ans _) st x st' h
      ·split at h
       ·exact B4.bind (B4.ents hx n.kids []) (fun l=>B4.made _ _ _) st x st' h
       ·cases h
theorem B4.exprs(ans):∀(f:Nat) (n:Nd),B4 (Cr ans f n)
 | 0,_=> .out
 | f+1,n=>B4.expr ans (B4.exprs ans f) n
def Dv{α:Type}(m:EM α):Prop:=∀st,m st ≠ .out
theorem Dv.bind{α β}{m:EM α}{g:α->EM β}(hm:Dv m)(hg:∀a,Dv (g a)):Dv (EM.bind m g):=by
 intro st;cases hms:m st with
 | ok a st1=>rw[Gx hms];exact hg _ _
 | err a b c=>rw[ebind_err hms];intro h;cases h
 | out=>exact absurd hms (hm st)
theorem Dv.pure{α}(x:α):Dv (EM.pure x):=fun _ h=>by cases h
theorem Dv.fail{α}(e l c):Dv (eFail e l c:EM α):=fun _ h=>by cases h
theorem Dv.step(l c):Dv (De l c):=fun st h=>by
 unfold De at h;split at h<;>cases h
theorem Dv.made(v l c):Dv (D8 v l c):=by
 unfold D8;split
 ·exact .pure _
 ·exact .fail _ _ _
theorem Dv.items{ex}:∀(l:List Nd) (acc:List Vl),(∀n∈l,Dv (ex n))->Dv (Ip ex l acc)
 | [],acc,_=> .pure acc
 | n::t,acc,hx=> .bind (hx n (lmS ..)) fun x=>Dv.items t (acc++[x]) fun n hn=>hx n (lmO _ hn)
theorem Dv.res(r l c):Dv (eRes r l c):=by
 cases r with
 | ok v=>exact .pure _
 | error e=>exact .fail _ _ _
theorem Dv.ents{ex}:∀(l:List Nd) (acc:List (ByteArray×Vl)),(∀n∈l,Dv (ex n))->Dv (Fw ex l acc)
 | [],acc,_=> .pure acc
 | [_],acc,_=> .pure acc
 | k::n::t,acc,hx=>by
  rw[Fw];split
  ·exact .fail _ _ _
  ·exact .bind (hx n (lmO _ (lmS ..))) fun x=>Dv.ents t _ fun n hn=>hx n (lmO _ (lmO _ hn))
theorem Dv.args{ex}:∀(l:List Nd) (acc:List (ByteArray×Vl)),(∀n∈l,Dv (ex (kidN n 0)))->Dv (J8 ex l acc)
 | [],acc,_=> .pure acc
 | n::t,acc,hx=> .bind (hx n (lmS ..)) fun x=>Dv.args t (acc++[(n.text,x)]) fun n hn=>hx n (lmO _ hn)
def Tg(ans:Ans):Prop:=∀log q,ans log q≠I
theorem Dv.ask{ans}(h:Tg ans)(q):Dv (Jv ans q):=fun st he=>by
 unfold Jv at he;split at he
 ·next hq=>exact h _ _ hq
 ·cases he
 ·split at he<;>cases he
mutual
def ndH:Nd->Nat
 | .mk _ _ _ _ l=>ndHs l+2
def ndHs:List Nd->Nat
 | []=>0
 | x::t=>ndH x+ndHs t
end
theorem ndH_mem:∀{l:List Nd} {x:Nd},x∈l->ndH x<=ndHs l
 | _::t,_,.head _=>by rw[ndHs];omega
 | y::t,x,.tail _ h=>by have:=ndH_mem h;rw[ndHs];omega
theorem F7(n):2<=ndH n:=by obtain⟨k,t,l,c,kids⟩:=n;rw[ndH];omega
theorem O9{n}{i:Nat}{x}(h:n.kids[i]? = J x):ndH x+2<=ndH n:=by
 obtain⟨k,t,l,c,kids⟩:=n;have:=ndH_mem (lgM (show kids[i]? = J x from h));rw[ndH.eq_1 k t l c kids];omega
theorem Xv(l c):natOf (l++[c])=10*natOf l+(c.toNat - 48):=by
 unfold natOf;rw[List.foldl_append];rfl
theorem U8{c}(h:Ba c=true):UInt8.ofNat (48+(c.toNat - 48))=c:=by
 obtain⟨h1,h2⟩:=Gy h;rw[show 48+(c.toNat - 48)=c.toNat by omega];exact UInt8.ofNat_toNat
theorem dec_nat(l:List UInt8):l.reverse≠[]->(∀c∈l.reverse,Ba c=true)->¬(1<l.reverse.length/\l.reverse.head? = J 48)->Lib.decDigits (natOf l.reverse)=l.reverse:=by
 induction l with
 | nil=>intro h;exact absurd rfl h
 | cons c t ih=>
  intro _ hd hz;rw[List.reverse_cons] at hd hz |-;have hc:=hd c (by simp);obtain⟨h1,h2⟩:=Gy hc;rw[Xv];by_cases ht:t=[]
  ·subst ht;rw[show natOf ([]:List UInt8).reverse=0 from rfl,Lib.decDigits_one (by omega),Nat.mul_zero,Nat.zero_add,U8 hc];rfl
  ·have aA:t.reverse≠[]:=(by simpa using ht);have hlen:1<(t.reverse++[c]).length:=by
    rw[List.length_append,List.length_singleton];have:=List.length_pos_iff.2 aA;omega
   have hh:(t.reverse++[c]).head? = t.reverse.head?:=by
    cases hr:t.reverse with
    | nil=>exact absurd hr aA
    | cons x xs=>rfl
   have hi:=ih aA (fun x hx=>hd x (List.mem_append_left _ hx)) (fun h=>hz ⟨hlen,by rw[hh];exact h.2⟩);have hpos:natOf t.reverse≠0:=fun h0=>by
    rw[h0,Lib.decDigits_one (by omega)] at hi;exact hz ⟨hlen,by rw[hh,<-hi];rfl⟩
   rw[Lib.decDigits,dif_neg (by omega),show(10*natOf t.reverse+(c.toNat - 48)) / 10=natOf t.reverse by omega,show(10*natOf t.reverse+(c.toNat - 48)) % 10=c.toNat - 48 by omega,hi,U8 hc]
theorem Xw{l}(h0:l≠[])(hd:∀c∈l,Ba c=true)(hz:¬(1<l.length/\l.head? = J 48)):Lib.itoa (natOf l:Int)=l:=by
 unfold Lib.itoa;rw[if_neg (by omega),Int.toNat_natCast];have:=dec_nat l.reverse;rw[List.reverse_reverse] at this;exact this h0 hd hz
theorem U9{s}(h:Vv s)(hs:s.size<=65536):numOf s=J (natOf s.data.toList:Int):=by
 obtain⟨h0,hd,hz,hm⟩:=h;have hp:Lib.parseIntB 64 s.data.toList = .ok (natOf s.data.toList:Int):=by
  unfold Lib.parseIntB;cases hl:s.data.toList with
  | nil=>exact absurd hl h0
  | cons c r=>
   obtain⟨h1,h2⟩:=Gy (hd c (by rw[hl];exact lmS ..));rw[hl] at hd hm
   dsimp only
   rw[if_neg (by omega)];rcases parseUint_digits (l:=c::r) (by simp) hd with⟨h3,h4⟩|⟨h3,h4⟩
   ·rw[h4]
    dsimp only
    rw[if_neg (by omega),if_neg (by omega),if_neg (by omega)]
   ·omega
 unfold numOf;rw[hp]
 dsimp only
 rw[if_pos ⟨by unfold inR;simp only[Bool.and_eq_true,decide_eq_true_eq];omega,hs,Xw h0 hd hz⟩]
theorem numOf_ok{s}(h:Vv s)(hs:s.size<=65536):numOf s≠I:=by
 rw[U9 h hs];exact fun h=>(by cases h)
section
variable {K:Nat} {ans:Ans}
theorem Rr(f:Nat):Dv (Cr ans (f+1) ndZero):=by
 show Dv (Jc ans (Cr ans f) ndZero);refine .bind (.step _ _) fun _ st h=>?_;cases h
theorem P4{n x:Nd}{i:Nat}(h:Ci 65536 K n)(hx:n.kids[i]? = J x):Ci 65536 K x:=by
 obtain⟨k,t,l,c,kids⟩:=n;rw[Ci] at h;exact ndOks_iff.1 h.2.2.2.2 x (lgM hx)
theorem Ju(ha:Tg ans):∀(f:Nat) (n:Nd),Ci 65536 K n->ndH n<=f->Dv (Cr ans f n)
 | 0,n,_,hh=>by have:=F7 n;omega
 | f+1,n,hn,hh=>by
  have hf:1<=f:=(by have:=F7 n;omega);obtain⟨g,rfl⟩:∃g,f=g+1:=⟨f - 1,by omega⟩;have hk:∀i,Dv (Cr ans (g+1) (kidN n i)):=fun i=>by
   unfold kidN;cases hi:n.kids[i]? with
   | none=>exact Rr g
   | some x=>exact Ju ha (g+1) x (P4 hn hi) (by have:=O9 hi;omega)
  have hm:∀x∈n.kids,Dv (Cr ans (g+1) x):=fun x hx=>by
   obtain⟨i,hi⟩:=List.getElem?_of_mem hx;exact Ju ha (g+1) x (P4 hn hi) (by have:=O9 hi;omega)
  have hkk:∀x∈n.kids,Dv (Cr ans (g+1) (kidN x 0)):=fun x hx=>by
   obtain⟨i,hi⟩:=List.getElem?_of_mem hx;unfold kidN;cases hj:x.kids[0]? with
   | none=>exact Rr g
   | some y=>exact Ju ha (g+1) y (P4 (P4 hn hi) hj) (by have:=O9 hi;have:=O9 hj;omega)
  show Dv (Jc ans (Cr ans (g+1)) n);refine .bind (.step _ _) fun _ st h=>?_;split at h
  ·split at h
   ·cases h
   ·(try dsimp only at h);split at h<;>cases h
  ·split at h
   ·rename_i hk10
    split at h
    ·cases h
    ·rename_i hno
     obtain⟨k,t,l,c,kids⟩:=n;rw[Ci] at hn;exact numOf_ok (hn.2.2.1 hk10) hn.1 hno
   ·split at h
    ·exact Dv.bind (Dv.items n.kids [] hm) (fun l=>Dv.made _ _ _) st h
    ·split at h
     ·refine Dv.bind (hk 0) (fun a=>?_) st h;split
      ·exact .pure _
      ·exact .bind (hk 1) fun b=> .res _ _ _
     ·split at h
      ·exact Dv.made _ _ _ st h
      ·split at h
       ·exact Dv.bind (Dv.args n.kids [] hkk) (fun l=>Dv.ask ha _) st h
       ·split at h
        ·exact Dv.bind (Dv.ents n.kids [] hm) (fun l=>Dv.made _ _ _) st h
        ·cases h
end
def D1(n:Nd):Nd:=.mk 2 (bs [120]) n.ln n.cl [n]
def workL(ans:Ans)(n:Nd):Except (Int×Int×Int) Vl:=match L6 ans (ndH n+1) [D1 n] 20000 with
 | .ok _ st=> .ok ((lookN st.names (bs [120])).getD vZero)
 | .err e l c=> .error (e,l,c)
 | .out=> .ok vZero
theorem x_free:fixedV (bs [120])=I:=by decide
theorem run_one{K ans n}(ha:Tg ans)(hn:Ci 65536 K n):L6 ans (ndH n+1) [D1 n] 20000 ≠ .out /\
  ∀st,L6 ans (ndH n+1) [D1 n] 20000 = .ok () st->∃v,st.names=[(bs [120],v)]:=by
 have hs:=Ju (K:=K) ha (ndH n) n hn (Nat.le_refl _);have hkp:=B4.exprs ans (ndH n) n;have h0:L6 ans (ndH n+1) [D1 n] 20000=EM.bind (EM.bind (Cr ans (ndH n) n) fun v=>Kc (bs [120]) v n.ln n.cl) (fun _=>EM.pure ()) ⟨[],19999,[]⟩:=rfl;rw[h0];cases hx:Cr ans (ndH n) n ⟨[],19999,[]⟩ with
 | out=>exact absurd hx (hs _)
 | err a b c=>
  rw[ebind_err (ebind_err hx)];exact⟨fun h=>(by cases h),fun st h=>(by cases h)⟩
 | ok v st=>
  have hp:Kc (bs [120]) v n.ln n.cl st = .ok () { st with names:=putN st.names (bs [120]) v}:=by
   unfold Kc;rw[x_free];rfl
  rw[Gx ((Gx hx).trans hp)];refine⟨fun h=>(by cases h),fun st' h=>?_⟩;cases h;refine⟨v,?_⟩;show putN st.names (bs [120]) v=_;rw[hkp _ _ _ hx];rfl
def SDoes(f mp mb:Nat)(hv:Dq)(sm:Nd->EM Unit):Prop:=∀(G:Nat->Prop) (c:Ctx) (w:World) (st:St) (n:Nd) (v:Value),MS c w mp mb hv st->GOk G c w->A7 G w n v->Cf n->sm n st ≠ .out ->
 Calls Tryz.prog f #[ptr mp,v] w (EP mp mb hv Oj Bk c (sm n st) w)
structure XM(f mp mb:Nat)(hv:Dq)(sm:Nd->EM Unit):Prop where
 does:SDoes f mp mb hv sm
 nz:∀n,ENz (sm n)
structure XBl(mp mb:Nat)(hv:Dq)(sm:Nd->EM Unit):Prop where
 does:∀(G:Nat->Prop) (c:Ctx) (w:World) (st:St) (l:List Nd) (a:Option Addr) (cap:Nat),MS c w mp mb hv st->GOk G c w->Ac G w a (Au l)->smallNs l->l.length<=1000000->Dk sm l st ≠ .out->Calls Tryz.prog 20 #[ptr mp,C a l.length cap] w (EP mp mb hv Oj Bk c (Dk sm l st) w)
 nz:∀n,ENz (sm n)
theorem node_kids(a b c d e w):(Instr.field 27 (.agg #[a,b,c,d,e]) 3).run Tryz.prog w = .ok e w:=by kernel_rfl
theorem ENz.block{sm}(hs:∀n,ENz (sm n)):∀l:List Nd,ENz (Dk sm l)
 | []=> .pure ()
 | n::t=> .bind (hs n) fun _=>ENz.block hs t
section
variable {c0 c c':Ctx} {w W W':World} {mp mb:Nat} {hv:Dq} {G:Nat->Prop} {lv:Bool} {st st':St} {ls:List (Nat×Array Value×TypeId)} {nr:List (Option Addr×List Nd)} {vr:List (List Dat×List Value)} {ow:OwS} {β:Type} {z:ER β} {Q:Ending->World->Prop} {f:FuncId} {args:Array Value}
theorem xU{m:EM Unit}{k:Unit->EM β}(H:EI c0 w mp mb hv G true c st ls nr vr ow W)(hz:ENz m)(Hn:Hid (z ≠ .out))(S:Hid (z=EM.bind m k st))(Hc:m st ≠ .out->Calls Tryz.prog f args W (EP mp mb hv Oj Bk c (m st) W))
  (hok:∀c' W' st',Hid (EI c0 w mp mb hv G true c' st' ls nr vr ow W')->Hid (z=k () st')->Q (.returned (.agg #[A B 0,A B 0,A B 0])) W')
  (herr:∀c' W' x y l,x≠0->Hid (EI c0 w mp mb hv G false c' st ls nr vr ow W')->Hid (z = .err x y l)->Q (.returned (.agg #[A B x,A B y,A B l])) W'):Calls Tryz.prog f args W Q:=by
 refine(Hc fun h=>Hn.out (S.out.trans (Eo h))).mono ?_;rintro e w' ⟨c2,aA,hq⟩;cases hm:m st with
 | out=>exact absurd (S.out.trans (Eo hm)) Hn.out
 | err x y l=>
  rw[hm] at hq;obtain rfl:=hq;have hm0:Mv c W ⟨c.M,c.F⟩ w':=⟨aA.os,aA.tape,aA.output,aA.size,aA.block,fun _ h=> .inl h,fun _ h=> .inl h⟩;exact herr _ w' x y l (hz _ _ _ _ hm) (Lq7 (H.dead.call (st':=st) hm0 (H.ok.below aA.size) (fun e=>by cases e))) (Lq7 (S.out.trans (ebind_err hm)))
 | ok u st2=>
  rw[hm] at hq;obtain⟨aB,v1,rfl,hv1⟩:=hq;obtain rfl:v1=Bk 0 0 0:=hv1;exact hok _ w' st2 (Lq7 (H.call aA aB.ok (fun _=>aB))) (Lq7 (S.out.trans (Gx hm)))
theorem xStm{sm:Nd->EM Unit}{k:Unit->EM β}{nk nl nc:Int}{nt:ByteArray}{ns:List Nd}{a:Option Addr}{cap:Nat}(hx:XM f mp mb hv sm)(Hn:Hid (z ≠ .out))(S:Hid (z=EM.bind (sm (.mk nk nt nl nc ns)) k st))
  (hok:∀c' W' st',Hid (EI c0 w mp mb hv G true c' st' ls nr vr ow W')->Hid (z=k () st')->Q (.returned (.agg #[A B 0,A B 0,A B 0])) W')
  (herr:∀c' W' x y l,x≠0->Hid (EI c0 w mp mb hv G false c' st ls nr vr ow W')->Hid (z = .err x y l)->Q (.returned (.agg #[A B x,A B y,A B l])) W')
  (H:EI c0 w mp mb hv G true c st ls nr vr ow W:=by exact gH) (hs:Hid (Cf (.mk nk nt nl nc ns)):=by assumption) (hc:Hid (F5 nk=true->ns.length<=cap):=by assumption) (hr:(a,ns)∈nr:=by simp):Calls Tryz.prog f #[.pointer (J ⟨mp,0,I⟩),.agg #[A B nk,D nt,A B nl,A B nc,C a ns.length cap]] W Q:=
 xU H (hx.nz _) Hn S (fun hne=>hx.does G c W st _ _ (H.ms rfl) H.g (A7.mk nk nt nl nc cap (H.nr _ hr) hc.out) hs.out hne) hok herr
theorem xPut{t:ByteArray}{l k1:Int}{k:Unit->EM β}{yk yn:Int}{ys:ByteArray}{yl:List Vl}{yks:List ByteArray}{b1 b2:Option Addr}{e1 e2:Nat}(ht:t.size<=maxLen)(Hn:Hid (z ≠ .out))(S:Hid (z=EM.bind (Kc t (.mk yk yn ys yl yks) l k1) k st))
  (hok:∀c' W' st',Hid (EI c0 w mp mb hv G true c' st' ls nr vr ow W')->Hid (z=k () st')->Q (.returned (.agg #[A B 0,A B 0,A B 0])) W')
  (herr:∀c' W' x y l,x≠0->Hid (EI c0 w mp mb hv G false c' st ls nr vr ow W')->Hid (z = .err x y l)->Q (.returned (.agg #[A B x,A B y,A B l])) W')
  (H:EI c0 w mp mb hv G true c st ls nr vr ow W:=by exact gH) (ha:(valD (.mk yk yn ys yl yks),[A B yk,A B yn,D ys,C b1 yl.length e1,C b2 yks.length e2])∈vr:=by simp) (hc:Am (.mk yk yn ys yl yks)=true:=by refine Hid.out ?_;assumption):
  Calls Tryz.prog 76 #[.pointer (J ⟨mp,0,I⟩),D t,.agg #[A B yk,A B yn,D ys,C b1 yl.length e1,C b2 yks.length e2],.agg #[A B l,A B k1]] W Q:=
 xU H (.put _ _ _ _) Hn S (fun _=>put_any c mp mb hv st t _ _ l k1 W (H.ms rfl) ht (H.vr _ ha) hc) hok herr
theorem xBlk{sm:Nd->EM Unit}{k:Unit->EM β}{nk nl nc:Int}{nt:ByteArray}{ns:List Nd}{a:Option Addr}{cap:Nat}(hx:XBl mp mb hv sm)(Hn:Hid (z ≠ .out))(S:Hid (z=EM.bind (Dk sm ns) k st))
  (hok:∀c' W' st',Hid (EI c0 w mp mb hv G true c' st' ls nr vr ow W')->Hid (z=k () st')->Q (.returned (.agg #[A B 0,A B 0,A B 0])) W')
  (herr:∀c' W' x y l,x≠0->Hid (EI c0 w mp mb hv G false c' st ls nr vr ow W')->Hid (z = .err x y l)->Q (.returned (.agg #[A B x,A B y,A B l])) W')
  (H:EI c0 w mp mb hv G true c st ls nr vr ow W:=by exact gH) (hs:Hid (Cf (.mk nk nt nl nc ns)):=by assumption) (hr:(a,ns)∈nr:=by simp):Calls Tryz.prog 20 #[.pointer (J ⟨mp,0,I⟩),C a ns.length cap] W Q:=by
 have h:=hs.out;rw[Cf] at h;exact xU H (.block hx.nz _) Hn S (fun hne=>hx.does G c W st _ _ cap (H.ms rfl) H.g (H.nr _ hr) h.2.2 h.2.1 hne) hok herr
theorem eretU(j:Nat){fn:Func}{i bF:Nat}{T:TypeId}{z:ER Unit}{tm:Array Value}(S:Hid (z = .ok () st))(H:EI c0 w mp mb hv G true c st ls nr vr ow W)(hF:ls[j]? = J (bF,#[A B 0,A B 0,A B 0],T):=by rfl)
  (hf:fn.results=#[.cell i 75]:=by rfl) (hu:tm.getD i undef = .pointer (J ⟨bF,0,I⟩):=by rfl):bodyPost Tryz.prog fn (EP mp mb hv Oj Bk c0 z w) .ret ⟨tm,[]⟩ W:=by
 rw[Array.getD_eq_getD_getElem?] at hu;obtain⟨q0,q1,q2,q3,-⟩:=Bh (H.locs _ (lgM hF));refine bodyPost_ret (v:=Bk 0 0 0) (by simp[Bk,results,hf,go_sem,hu,q1,q2,q3]) rfl ?_;rw[S.out];exact⟨c,H.mv,H.ms rfl,_,rfl,rfl⟩
theorem eretE(j:Nat){fn:Func}{i bF:Nat}{T:TypeId}{x y l:Int}{z:ER Unit}{tm:Array Value}(S:Hid (z = .err x y l))(H:EI c0 w mp mb hv G lv c st ls nr vr ow W)(hF:ls[j]? = J (bF,#[A B x,A B y,A B l],T):=by rfl)
  (hf:fn.results=#[.cell i 75]:=by rfl) (hu:tm.getD i undef = .pointer (J ⟨bF,0,I⟩):=by rfl):bodyPost Tryz.prog fn (EP mp mb hv Oj Bk c0 z w) .ret ⟨tm,[]⟩ W:=by
 rw[Array.getD_eq_getD_getElem?] at hu;obtain⟨q0,q1,q2,q3,-⟩:=Bh (H.locs _ (lgM hF));refine bodyPost_ret (v:=Bk x y l) (by simp[Bk,results,hf,go_sem,hu,q1,q2,q3]) rfl ?_;rw[S.out];exact⟨c,H.mv,rfl⟩
end
theorem Tf{mp mb hv sm}(hx:XM 35 mp mb hv sm):XBl mp mb hv sm:=by
 refine⟨?_,hx.nz⟩;intro G c w st l a cap hm hG hr aD hlen aB;obtain⟨z,hz⟩:∃z,z=Dk sm l st:=⟨_,rfl⟩;rw[<-hz] at aB |-;have Hn:=Lq7 aB;have Hb:=Lq7 hx;have Hsn:=Lq7 aD;have S:Hid (z=Dk sm (l.drop 0) st):=Lq7 hz;have H:=Lq7 ((EI.start hm hG hr).alloc #[A B 0,A B 0,A B 0] 75);clear hz aB hx aD hm hG hr;unfold ptr;go_enter Tryz.func20,Tryz.ntmps20;go_wp2_with fail;generalize World.alloc _ _=W at H |-
 go_loopw [10] (fun i wr=>∃(j:Nat) (c1:Ctx) (aA:St),i = A B j/\j<=l.length/\Hid (EI c w mp mb hv G true c1 aA [(w.heap.size,#[A B 0,A B 0,A B 0],75)] [(a,l)] [] .nil wr)/\Hid (z=Dk sm (l.drop j) aA)) (fun i _=>l.length-(intOf i).toNat)
 case atStart=>exact⟨0,c,st,rfl,Nat.zero_le _,H,S⟩
 case round=>
  obtain⟨j,c1,aA,rfl,hj,H,S⟩:=hrel;by_cases hlt:j<l.length
  ·cases hk:l[j] with
   | mk xk xt xl xc xs=>
    have aC:l[j]? = J (.mk xk xt xl xc xs):=(by rw[lgE hlt,hk]);have hS:z=EM.bind (sm (.mk xk xt xl xc xs)) (fun _=>Dk sm (l.drop (j+1))) aA:=(by rw[S.out,List.drop_eq_getElem_cons hlt,hk];rfl);have S:=Lq7 hS;obtain⟨b,off,a1,c1',rfl,-,hbl,r0,r1,r2,r3,r4,Hcp,aE⟩:=(H.out.nr _ (lmS ..)).nodeK aC;have H:=Lq7 (H.out.node aE);have Hs:=Lq7 (Ex Hsn.out (lgM aC));clear aC hk aE hS;refine goM ?_;exact xdrv
  ·have S:Hid (z = .ok () aA):=Lq7 (S.out.trans (by rw[List.drop_eq_nil_of_le (by omega)];rfl));refine goM ?_;exact xdrv
theorem each_d{mp mb hv ex sm}(hx:XN 74 mp mb hv ex)(hb:XBl mp mb hv sm):SDoes 77 mp mb hv (eFor ex sm):=by
 intro G cc w st n v hm hG hn aA aB;obtain⟨kk,t,l,k,kids⟩:=n;obtain⟨a,cap,rfl,hr⟩:=hn.open;obtain⟨z,hz⟩:∃z,z=eFor ex sm (.mk kk t l k kids) st:=⟨_,rfl⟩;rw[<-hz] at aB |-;have Hn:=Lq7 aB;have Hx:=Lq7 hx;have Hb:=Lq7 hb;have Hs:=Lq7 aA;have HL:Hid (kids.length<=140737488355328):=Lq7 (by rw[Cf] at aA;omega);have Ht:Hid (t.size<=maxLen):=Lq7 (by rw[Cf] at aA;exact aA.1);have S:Hid (z=EM.bind (ex (kidN (.mk kk t l k kids) 0)) (fun v=>if v.kind=4 then Km sm (.mk kk t l k kids) (kidN (.mk kk t l k kids) 1).kids v.items else eFail 9 (kidN (.mk kk t l k kids) 0).ln (kidN (.mk kk t l k kids) 0).cl) st):=Lq7 hz;have H:=Lq7 (EI.start hm hG hr);have hnk:=node_kids;clear hz aB hx hb aA hn hm hG hr;unfold ptr;go_enter Tryz.func77,Tryz.ntmps77;go_wp2_with fail;refine xKid 0 Hs.out ?_ HL.out;intro V xk xt xl xc xs a1 p hx hs hc H;rw[hx] at S
 ((try simp only[List.cons_append,List.nil_append] at H);(have hD:=H.out.fa);(simp only[FaA,PwA,NeB,and_true] at hD);go_wp2_with fail;all_goals (try clear hD))
 refine xNode Hx.out Hn S (fun c V yk yn ys yl yks b1 e1 b2 e2 st H S hk=>?_) (fun c V x y l hq H S=>?_);rotate_left
 ·have hq':(x==0)=false:=(by simpa using hq);refine goM ?_;exact xdrv
 by_cases h4:yk=4;rotate_left
 ·have h4':(yk==4)=false:=(by simpa using h4);have S:Hid (z = .err 9 xl xc):=Lq7 (S.out.trans (ifF h4));refine goM ?_;exact xdrv
 subst h4;have S:Hid (z=Km sm (.mk kk t l k kids) (kidN (.mk kk t l k kids) 1).kids (yl.drop 0) st):=Lq7 (S.out.trans (ifT rfl))
 ((try simp only[List.cons_append,List.nil_append] at H);(have hD:=H.out.fa);(simp only[FaA,PwA,NeB,and_true] at hD);go_wp2_with fail;all_goals (try clear hD))
 go_loopw [35] (fun i wr=>∃(j:Nat) (c1:Ctx) (aC:St),i = A B j/\j<=yl.length/\Hid (EI cc w mp mb hv G true c1 aC [(w.heap.size,#[A B kk,D t,A B l,A B k,C a kids.length cap],27),(w.heap.size+1,#[A B 0,A B 0,A B 0],75)] [(a,kids)] [(valD (.mk 4 yn ys yl yks),[A B 4,A B yn,D ys,C b1 yl.length e1,C b2 yks.length e2])] .nil wr)/\Hid (z=Km sm (.mk kk t l k kids) (kidN (.mk kk t l k kids) 1).kids (yl.drop j) aC)) (fun i _=>yl.length-(intOf i).toNat)
 case atStart=>exact⟨0,c,st,rfl,Nat.zero_le _,Lq7 (EI.sub gH 2),S⟩
 case round=>
  obtain⟨j,c1,aC,rfl,hj,H,S⟩:=hrel;by_cases hlt:j<yl.length
  ·cases hz:yl[j] with
   | mk zk zn zs zm zks=>
    have aD:yl[j]? = J (.mk zk zn zs zm zks):=(by rw[lgE hlt,hz]);have hS:z=EM.bind (Kc t (.mk zk zn zs zm zks) l k) (fun _=>EM.bind (Dk sm (kidN (.mk kk t l k kids) 1).kids) fun _=>Km sm (.mk kk t l k kids) (kidN (.mk kk t l k kids) 1).kids (yl.drop (j+1))) aC:=(by rw[S.out,List.drop_eq_getElem_cons hlt,hz];rfl);have S:=Lq7 hS;obtain⟨b,off,a3,c3,a4,c4,rfl,-,hbl,r0,r1,r2,r3,r4,aE,aF⟩:=(Pv (H.out.vr _ (lmS ..))).1.val aD;have H:=Lq7 (H.out.val (Ai.val_mk (l:=zm) (ks:=zks) zk zn zs c3 c4 aE aF));have hyl:yl.length<=140737488355328:=(by have h:=Bw hk.out;rw[Ay] at h;exact h.2.1);have hk2:=Lq7 (On hk.out _ (lgM aD));clear aD hz aE aF hS;refine goM ?_;exact xdrv
  ·have S:Hid (z = .ok () aC):=Lq7 (S.out.trans (by rw[List.drop_eq_nil_of_le (by omega)];rfl));refine goM ?_;exact xdrv
theorem stmt_d{mp mb hv ex sm}(hx:XN 74 mp mb hv ex)(hb:XBl mp mb hv sm)(he:XM 77 mp mb hv (eFor ex sm)):SDoes 35 mp mb hv (Rs ex sm):=by
 intro G c w st n v hm hG hn aA aB;obtain⟨kk,t,l,k,kids⟩:=n;obtain⟨a,cap,rfl,hr⟩:=hn.open;obtain⟨z,hz⟩:∃z,z=Rs ex sm (.mk kk t l k kids) st:=⟨_,rfl⟩;rw[<-hz] at aB |-;have Hn:=Lq7 aB;have Hx:=Lq7 hx;have Hb:=Lq7 hb;have He:=Lq7 he;have Hs:=Lq7 aA;have Hc:=Lq7 (A7.cap hn);have HL:Hid (kids.length<=140737488355328):=Lq7 (by rw[Cf] at aA;omega);have Ht:Hid (t.size<=maxLen):=Lq7 (by rw[Cf] at aA;exact aA.1);have H:=Lq7 (EI.start hm hG hr);have hnk:=node_kids;clear aB hx hb he aA hn hm hG hr;unfold ptr;by_cases h2:kk=2
 ·subst h2;have S:Hid (z=EM.bind (De l k) (fun _=>EM.bind (ex (kidN (.mk 2 t l k kids) 0)) fun v=>Kc t v l k) st):=Lq7 (hz.trans rfl);clear hz;go_enter Tryz.func35,Tryz.ntmps35;go_wp2_with fail;exact xdrv
 by_cases h4:kk=4
 ·subst h4;have S:Hid (z=EM.bind (De l k) (fun _=>eFor ex sm (.mk 4 t l k kids)) st):=Lq7 (hz.trans rfl);clear hz;go_enter Tryz.func35,Tryz.ntmps35;go_wp2_with fail;exact xdrv
 by_cases h3:kk=3
 ·subst h3;have S:Hid (z=EM.bind (De l k) (fun _=>EM.bind (ex (kidN (.mk 3 t l k kids) 0)) fun _=>EM.pure ()) st):=Lq7 (hz.trans rfl);clear hz;go_enter Tryz.func35,Tryz.ntmps35;go_wp2_with fail;exact xdrv
 by_cases h5:kk=5
 ·subst h5;have S:Hid (z=EM.bind (De l k) (fun _=>EM.bind (ex (kidN (.mk 5 t l k kids) 0)) fun v=>if Gs v then Dk sm (kidN (.mk 5 t l k kids) 1).kids else Dk sm (kidN (.mk 5 t l k kids) 2).kids) st):=Lq7 (hz.trans rfl);clear hz;go_enter Tryz.func35,Tryz.ntmps35;go_wp2_with fail;exact xdrv
 have S:Hid (z=EM.bind (De l k) (fun _=>eFail 3 l k) st):=Lq7 (hz.trans (congrArg (fun g=>EM.bind (De l k) g st) (by funext _;simp only[Nd.kind,h2,h4,h3,h5,if_false];rfl)));clear hz;go_enter Tryz.func35,Tryz.ntmps35;go_wp2_with fail;exact xdrv
theorem ENz.each{sm}(hs:∀n,ENz (sm n))(n body):∀l:List Vl,ENz (Km sm n body l)
 | []=> .pure ()
 | _::t=> .bind (.put _ _ _ _) fun _=> .bind (ENz.block hs body) fun _=>ENz.each hs n body t
theorem ENz.stmt{ex sm}(hx:∀n,ENz (ex n))(hs:∀n,ENz (sm n))(n):ENz (Rs ex sm n):=by
 refine .bind (.step _ _) fun _=>?_;split
 ·exact .bind (hx _) fun v=> .put _ _ _ _
 ·split
  ·refine .bind (hx _) fun v=>?_;split
   ·exact .each hs _ _ _
   ·exact .fail (by decide) _ _
  ·split
   ·exact .bind (hx _) fun _=> .pure ()
   ·split
    ·refine .bind (hx _) fun v=>?_;split
     ·exact .block hs _
     ·exact .block hs _
    ·exact .fail (by decide) _ _
theorem ENz.stmts{ans}(ha:Om ans):∀(f:Nat) (n:Nd),ENz (Fs ans f n)
 | 0,_=> .out
 | f+1,n=>ENz.stmt (ENz.exprs ha f) (ENz.stmts ha f) n
theorem Xu{mp mb hv sm}(hnz:∀n,ENz (sm n))(hs:SDoes 35 mp mb hv sm)(G c w st l a cap)(hm:MS c w mp mb hv st)(hG:GOk G c w)(hr:Ac G w a (Au l))(hsn:smallNs l)(hlen:l.length<=1000000)(aA:Dk sm l st ≠ .out):
  Calls Tryz.prog 20 #[ptr mp,C a l.length cap] w (EP mp mb hv Oj Bk c (Dk sm l st) w):=
 (Tf ⟨hs,hnz⟩).does G c w st l a cap hm hG hr hsn hlen aA
theorem P3{mp mb:Nat}{hv}{fn:Nat}{rv}(hop:OpC)(hdo:Rt fn rv mp mb hv)(hin:HInv fn rv hv)(ha:Om hv.ans):∀f,SDoes 35 mp mb hv (Fs hv.ans f)
 | 0=>fun _ _ _ _ _ _ _ _ _ _ aA=>absurd rfl aA
 | f+1=>
  have hx:XN _ mp mb hv (Cr hv.ans f):=⟨P2 hop hdo hin ha f,ENz.exprs ha f⟩;have hs:XM _ mp mb hv (Fs hv.ans f):=⟨P3 hop hdo hin ha f,ENz.stmts ha f⟩
  stmt_d hx (Tf hs) ⟨each_d hx (Tf hs),fun n=> .bind (hx.nz _) fun v=>by
   split
   ·exact .each hs.nz _ _ _
   ·exact .fail (by decide) _ _⟩
def L7(ans:Ans):Dq:=⟨.iface 83 (.agg #[]),ans,fun _ F w _=>Em w/\StdB w/\F 3/\F 0,
 fun h hF _ hk=>⟨h.1.keep (hk _ (.inr h.2.2.1) h.1.here),(by
  obtain⟨m,hm⟩:=h.2.1;exact⟨m,(World.cell?_of_block (hk _ (.inr h.2.2.2) (Ax hm))).trans hm⟩),hF _ h.2.2.1,hF _ h.2.2.2⟩,fun h=>⟨h.1,h.2.1⟩⟩
theorem Aam(ans):HInv 268 (.agg #[]) (L7 ans):=fun _ _=>by
 unfold L7
 kernel_rfl
end Go.Proofs.YtlbbbapiklendaaGreatDoor
