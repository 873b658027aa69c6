/-
  The plain host among hosts:its method Call is found. (And what it stands on.)
-/
import Derived.Test.YtbcdimjbepigcaaGreatDoorMEvU
import Derived.Test.YtbcdimjbepigcaaGreatDoorMParseNz
import Derived.Test.YtbcdimjbepigcaaGreatDoorMKeysB
import Derived.Test.YtbcdimjbepigcaaGreatDoorIter
import Derived.Test.YtbcdimjbepigcaaGreatDoorMEvW
import Derived.Test.YtbcdimjbepigcaaGreatDoorMSameG
namespace Go.Proofs.YtbcdimjbepigcaaGreatDoor
open Go Go.RowKit Go.Maps
open List renaming getElem?_eq_getElem->lgE,mem_of_getElem? -> lgM,length_take->lnT
open Nat renaming le_refl->nlr,lt_of_lt_of_le->nll,zero_le->nlz
open Go.Lib renaming hid->Lq7
open Go.RowKit.Below renaming refl->bRf
open Go.World renaming setCell->wsC
set_option maxRecDepth 100000
set_option maxHeartbeats 16000000
theorem Vi{mp mb hv ex}(hnz:∀n st x y z,ex n st = .err x y z->x≠0)(hx:Fc 116 mp mb hv ex):Fc 168 mp mb hv (Nl ex):=by
 intro G c w st n v hm hG hn eC dB;obtain⟨kk,t,l,k,kids⟩:=n;obtain⟨a,cap,rfl,hr⟩:=hn.open;have hmm:=@run_makeMap Tryz.prog;obtain⟨i0,hi,hz0,hz1,hz2⟩:=info_parts infoVal;rw[Ci] at eC;obtain⟨-,hlen,aW⟩:=eC;obtain⟨h3a,h3b,h3c,eD,h3e⟩:=Ch w (.cells #[.int .i64 kk,.string t,.int .i64 l,.int .i64 k,.slice a kids.length cap] 49) (.cells #[.int .i64 0,.int .i64 0,.string ⟨#[]⟩,.slice none 0 0,.slice none 0 0] 42) (.cells #[.int .i64 0,.int .i64 0,.int .i64 0] 95);have H0:=XB.start hm.ok #[.int .i64 kk,.string t,.int .i64 l,.int .i64 k,.slice a kids.length cap] #[.int .i64 0,.int .i64 0,.string ⟨#[]⟩,.slice none 0 0,.slice none 0 0] #[.int .i64 0,.int .i64 0,.int .i64 0];have eE:DI mp mb hv G c w #[.int .i64 kk,.string t,.int .i64 l,.int .i64 k,.slice a kids.length cap] a kids c ((((w.alloc (.cells #[.int .i64 kk,.string t,.int .i64 l,.int .i64 k,.slice a kids.length cap] 49)).alloc (.cells #[.int .i64 0,.int .i64 0,.string ⟨#[]⟩,.slice none 0 0,.slice none 0 0] 42)).alloc (.cells #[.int .i64 0,.int .i64 0,.int .i64 0] 95)).alloc (.map #[] 0)) st []:=by
  generalize ((w.alloc (.cells #[.int .i64 kk,.string t,.int .i64 l,.int .i64 k,.slice a kids.length cap] 49)).alloc (.cells #[.int .i64 0,.int .i64 0,.string ⟨#[]⟩,.slice none 0 0,.slice none 0 0] 42)).alloc (.cells #[.int .i64 0,.int .i64 0,.int .i64 0] 95)=W0 at *;have hb:Below w.heap.size w (W0.alloc (.map #[] 0)):=eD.alloc (by omega) _;have hs0:W0.heap.size=w.heap.size+1+1+1:=(by omega);exact⟨H0.below ((bRf _ W0).alloc (nlr _) _),by rw[<-hs0];exact NM.made _ W0,⟨fun h=>by have:=hm.ok.ml _ h;omega,fun h=>by have:=hm.ok.fl _ h;omega⟩,hm.below hb,hG.mv (.of_below c hb),fun b h=>(hG b h).1,hr.below hb⟩
 have HL:=Lq7 eE;clear h3a h3b h3c eD h3e H0 eE hm hG hr hn;obtain⟨res,bE⟩:∃res,res=Nl ex (.mk kk t l k kids) st:=⟨_,rfl⟩;rw[<-bE] at dB |-;have dC:Hid (res=EM.bind (Gg ex (kids.drop 0) []) (fun m=>Di (I1 m) l k) st):=Lq7 bE;have eF:=Lq7 dB;have aY:=Lq7 aW;have Hx:=Lq7 hx;have Hnz:=Lq7 hnz;clear bE dB aW hx hnz;unfold ptr;go_enter Tryz.func168,Tryz.ntmps168;go_wp2_with fail;generalize World.alloc _ _=W1 at HL |-
 go_loopw [7] (fun i wr=>∃(j:Nat) (acc:List (ByteArray×Vl)) (c1:Ctx) (aR:St),i = .int .i64 j/\j<=kids.length/\acc.length+acc.length=j/\Hid (DI mp mb hv G c w #[.int .i64 kk,.string t,.int .i64 l,.int .i64 k,.slice a kids.length cap] a kids c1 wr aR acc)/\Hid (res=EM.bind (Gg ex (kids.drop j) acc) (fun m=>Di (I1 m) l k) aR)) (fun i _=>kids.length-(intOf i).toNat)
 case atStart=>exact⟨0,[],c,st,rfl,nlz _,rfl,HL,dC⟩
 case round=>
  obtain⟨j,acc,c1,aR,rfl,hj,hacc,hl,bF⟩:=hrel;obtain⟨r0,r1,r2,r3,r4,r5,r6,r7,r8,r9,bS⟩:=Aa hl.out.xb.na;by_cases hlt:j+1<kids.length
  ·have bT:j<kids.length:=(by omega);have dD:(j:Int)+1<kids.length:=(by omega);cases hk:kids[j] with
   | mk xk xt xl xc xs=>
   cases hk2:kids[j+1] with
   | mk vk vt vl vc vs=>
    have aU:kids[j]? = some (.mk xk xt xl xc xs):=(by rw[lgE bT,hk]);have cQ:kids[j+1]? = some (.mk vk vt vl vc vs):=(by rw[lgE hlt,hk2]);have aB:kids.drop j = .mk xk xt xl xc xs :: .mk vk vt vl vc vs::kids.drop (j+1+1):=(by rw[List.drop_eq_getElem_cons bT,hk,List.drop_eq_getElem_cons hlt,hk2]);have eG:xt.size<=maxLen:=by
     have:=Em aY.out (lgM aU);rw[Ci] at this;exact this.1
    have dE:=Lq7 eG;obtain⟨b,off,a1,c1',eH,hF,hbl,p0,p1,p2,p3,p4,eI,eJ⟩:=hl.out.row.nodeK aU;obtain⟨b',off',a2,c2',hae',-,hbl',v0,v1,v2,v3,v4,bU,dF⟩:=hl.out.row.nodeK cQ;have eK:=eH.symm.trans hae';obtain rfl:b=b':=(by injection eK with h;injection h);obtain rfl:off=off':=(by injection eK with h;injection h);have bG:Below wr.heap.size wr (wr.alloc (.cells #[.int .i64 xk,.string xt,.int .i64 xl,.int .i64 xc,.slice a1 xs.length c1'] 49)):=(bRf _ wr).alloc (nlr _) _;have bV:=Lq7 (hl.out.below bG);have bN:=Lq7 (heap_alloc_new wr (.cells #[.int .i64 xk,.string xt,.int .i64 xl,.int .i64 xc,.slice a1 xs.length c1'] 49));have dG:=Lq7 (dF.below bG);have bW:b<(wr.alloc (.cells #[.int .i64 xk,.string xt,.int .i64 xl,.int .i64 xc,.slice a1 xs.length c1'] 49)).heap.size:=nll hbl bG.size;subst eH;rcases bV.out.nm.look xt dE.out with⟨hno,bH⟩|⟨x',cs',hyes,hag',-,bH⟩;rotate_left
    ·have aC:Hid (res = .err 8 xl xc):=Lq7 (by rw[bF.out,aB,Gg,if_pos (by show(C9 acc xt).isSome=true;rw[hyes];rfl)];rfl);obtain⟨zk,zn,zs,zl,zks⟩:=x';obtain⟨b3,e3,b4,e4,rfl,-,-⟩:=hag'.val;have aZ:Below (wr.alloc (.cells #[.int .i64 xk,.string xt,.int .i64 xl,.int .i64 xc,.slice a1 xs.length c1'] 49)).heap.size (wr.alloc (.cells #[.int .i64 xk,.string xt,.int .i64 xl,.int .i64 xc,.slice a1 xs.length c1'] 49)) ((wr.alloc (.cells #[.int .i64 xk,.string xt,.int .i64 xl,.int .i64 xc,.slice a1 xs.length c1'] 49)).alloc (.cells #[.int .i64 zk,.int .i64 zn,.string zs,.slice b3 zl.length e3,.slice b4 zks.length e4] 42)):=(bRf _ _).alloc (nlr _) _;have H6:=Lq7 (bV.out.xb.below aZ);have bX:=Lq7 (stays bN.out aZ);have hsz:=hl.out.xb.size;obtain⟨u0,u1,u2,u3,u4,u5,u6,u7,u8,u9,cR⟩:=Aa bN.out;clear hyes hag' aZ bV bN dG hl bF hk hk2 aU cQ aB eG dE eJ dF hF eI bU
     go_upto_region 8 with fail
     generalize World.alloc (World.alloc _ _) _=Wb at H6 bX |-;generalize wr.heap.size=kb at bX hsz |-;clear p0 p1 p2 p3 p4 v0 v1 v2 v3 v4 r0 r1 r2 r3 r4 r5 r6 r7 r8 r9 bS u0 u1 u2 u3 u4 u5 u6 u7 u8 u9 cR hbl hbl' bW bH;refine A4 (.s 0 (.s 1 (.s 2 (.s 3 (.h 4 (.h 5 .nil)))))) 99 (fun W'=>W'.heap[kb]? = some (.cells #[.int .i64 xk,.string xt,.int .i64 xl,.int .i64 xc,.slice a1 xs.length c1'] 49 (0,0))) bX.out ?_;have H7:=Lq7 (H6.out.below ((bRf _ Wb).drew));have dH:Hid (Wb.drew.heap[kb]? = some (.cells #[.int .i64 xk,.string xt,.int .i64 xl,.int .i64 xc,.slice a1 xs.length c1'] 49 (0,0))):=Lq7 bX.out;generalize Wb.drew=Wd2 at H7 dH |-;clear H6 bX;refine Aj (.agg #[.int .i64 0,.int .i64 0,.string ⟨#[]⟩,.slice none 0 0,.slice none 0 0]) ?_;refine Aj (.pointer (some ⟨kb,2,none⟩)) ?_;refine Ap (.agg #[.int .i64 xl,.int .i64 xc]) ?_;refine Aj (.agg #[.int .i64 8,.int .i64 xl,.int .i64 xc]) ?_;obtain⟨s0,s1,s2,s3,s4,s5,s6,s7,s8,s9,bO⟩:=Aa H7.out.vb;refine Ac rfl (fun Kx bY=>?_);go_wp2_with fail;have H8:=Lq7 (H7.out.setV (.int .i64 0) (.int .i64 0) (.string ⟨#[]⟩) (.slice none 0 0) (.slice none 0 0));have cU:=Lq7 ((Ba (W:=Wd2) (b:=w.heap.size+1) (k:=kb) (by omega) (.int .i64 0) (.int .i64 0) (.string ⟨#[]⟩) (.slice none 0 0) (.slice none 0 0)).trans dH.out);unfold Cb at H8;refine bY _ _ (fun _=>cU.out) ?_;generalize wsC _ _ _=W8 at H8 cU |-;(try simp only[gX,Act.put]);clear s0 s1 s2 s3 s4 s5 s6 s7 s8 s9 bO bY H7 dH;obtain⟨d0,d1,d2,d3,d4,d5,d6⟩:=Ah H8.out.fc;refine Ac rfl (fun Ky bZ=>?_);go_wp2_with fail;have H9:=Lq7 (H8.out.setF (.int .i64 8) (.int .i64 xl) (.int .i64 xc));unfold Bs at H9;refine bZ _ _ (fun _=>((((Ad (by omega) 2 _).trans (Ad (by omega) 1 _)).trans (Ad (by omega) 0 _)).trans cU.out)) ?_;generalize wsC _ _ _=W9 at H9 |-;refine Ak ?_;(try simp only[gX,Act.put]);clear d0 d1 d2 d3 d4 d5 d6 bZ H8 cU;obtain⟨s0,s1,s2,s3,s4,s5,s6,s7,s8,s9,bO⟩:=Aa H9.out.vb;obtain⟨d0,d1,d2,d3,d4,d5,d6⟩:=Ah H9.out.fc;go_wp2_with fail;refine bodyPost_ret (v:=badV 8 xl xc) (by simp[badV,zeroV,Ai,results,Tryz.results168,go_sem,s1,s2,s3,s4,s5,d1,d2,d3]) rfl ?_;rw[aC.out];exact⟨_,H9.out.mv,rfl⟩
    ·have bI:ex (.mk vk vt vl vc vs) aR ≠ .out:=fun h=>eF.out (by rw[bF.out,aB,Gg,if_neg (by show ¬(C9 acc xt).isSome=true;rw[hno];decide),Bo (Bo h)]);have cB:Hid (res=EM.bind (EM.bind (ex (.mk vk vt vl vc vs)) fun x=>Gg ex (kids.drop (j+2)) (acc++[(xt,x)])) (fun m=>Di (I1 m) l k) aR):=Lq7 (by rw[bF.out,aB,Gg,if_neg (by show ¬(C9 acc xt).isSome=true;rw[hno];decide)];rfl);have aZ:Below (wr.alloc (.cells #[.int .i64 xk,.string xt,.int .i64 xl,.int .i64 xc,.slice a1 xs.length c1'] 49)).heap.size (wr.alloc (.cells #[.int .i64 xk,.string xt,.int .i64 xl,.int .i64 xc,.slice a1 xs.length c1'] 49)) ((wr.alloc (.cells #[.int .i64 xk,.string xt,.int .i64 xl,.int .i64 xc,.slice a1 xs.length c1'] 49)).alloc (.cells #[.int .i64 0,.int .i64 0,.string ⟨#[]⟩,.slice none 0 0,.slice none 0 0] 42)):=(bRf _ _).alloc (nlr _) _;have bP:=Lq7 (bV.out.below aZ);have dI:=Lq7 (stays bN.out aZ);have Hc:=Lq7 (Hx.out G c1 _ aR (.mk vk vt vl vc vs) _ bP.out.ms bP.out.g (A3.mk _ _ _ _ c2' (dG.out.below aZ)) (Em aY.out (lgM cQ)) bI);have dJ:=Lq7 hno;have cC:∀b,c1.M b->b<wr.heap.size:=hl.out.ms.ok.ml;have bJ:=Lq7 cC;obtain⟨u0,u1,u2,u3,u4,u5,u6,u7,u8,u9,cR⟩:=Aa bN.out;unfold ptr at Hc;unfold zeroV at bH;clear hno cC bI aZ bV bN dG bF hk hk2 aU cQ aB eJ dF hF eI bU;go_wp2_with fail;refine Hc.out.mono ?_;rintro e w2 ⟨c2,cD,hq⟩;have dK:=Lq7 ((cD.block _ (here dI.out) (fun h=>by have:=bJ.out _ h;omega)).trans dI.out);clear p0 p1 p2 p3 p4 v0 v1 v2 v3 v4 r0 r1 r2 r3 r4 r5 r6 r7 r8 r9 bS u0 u1 u2 u3 u4 u5 u6 u7 u8 u9 cR hbl hbl' bW bH Hc dI;cases hxx:ex (.mk vk vt vl vc vs) aR with
     | out=>exact absurd hxx (fun h=>eF.out (by rw[cB.out,Bo (Bo h)]))
     | err x y z=>
      rw[hxx] at hq;obtain rfl:=hq;have aC:Hid (res = .err x y z):=Lq7 (by rw[cB.out,Cf (Cf hxx)]);have hxz:=Hnz.out _ _ _ _ _ hxx;have hxz':(x==0)=false:=(by simpa using hxz);have H1:=Lq7 (bP.out.xb.later cD);clear hxx cB bP hl cD dK dJ bJ;unfold badV zeroV Ai
      go_upto_region 11 with fail
      have eL:Below w2.heap.size w2 ((w2.alloc (.cells #[.int .i64 0,.int .i64 0,.string ⟨#[]⟩,.slice none 0 0,.slice none 0 0] 42)).alloc (.cells #[.int .i64 x,.int .i64 y,.int .i64 z] 95)):=((bRf _ w2).alloc (nlr _) _).alloc (by simp) _;have Hf:=Lq7 (heap_alloc_new (w2.alloc (.cells #[.int .i64 0,.int .i64 0,.string ⟨#[]⟩,.slice none 0 0,.slice none 0 0] 42)) (.cells #[.int .i64 x,.int .i64 y,.int .i64 z] 95));rw[show(w2.alloc (.cells #[.int .i64 0,.int .i64 0,.string ⟨#[]⟩,.slice none 0 0,.slice none 0 0] 42)).heap.size=w2.heap.size+1 by simp] at Hf;have H2:=Lq7 (H1.out.below eL);have hsz:=H1.out.size;generalize World.alloc (World.alloc _ _) _=W at H2 Hf |-;generalize hfb:w2.heap.size+1=fb at Hf hsz |-;have hsz:w.heap.size+3<=fb:=(by omega);clear eL H1 hfb;refine A4 (.s 0 (.s 1 (.h 2 (.h 3 .nil)))) 99 (fun W'=>W'.heap[fb]? = some (.cells #[.int .i64 x,.int .i64 y,.int .i64 z] 95 (0,0))) Hf.out ?_;have H5:=Lq7 (H2.out.below ((bRf _ W).drew));have dL:Hid (W.drew.heap[fb]? = some (.cells #[.int .i64 x,.int .i64 y,.int .i64 z] 95 (0,0))):=Lq7 Hf.out;generalize W.drew=Wd at H5 dL |-;clear H2 Hf;refine Aj (.agg #[.int .i64 0,.int .i64 0,.string ⟨#[]⟩,.slice none 0 0,.slice none 0 0]) ?_;refine Ap (.agg #[.int .i64 x,.int .i64 y,.int .i64 z]) ?_;obtain⟨s0,s1,s2,s3,s4,s5,s6,s7,s8,s9,bO⟩:=Aa H5.out.vb;refine Ac rfl (fun Kx bY=>?_);go_wp2_with fail;have H6:=Lq7 (H5.out.setV (.int .i64 0) (.int .i64 0) (.string ⟨#[]⟩) (.slice none 0 0) (.slice none 0 0));have cW:=Lq7 ((Ba (W:=Wd) (b:=w.heap.size+1) (k:=fb) (by omega) (.int .i64 0) (.int .i64 0) (.string ⟨#[]⟩) (.slice none 0 0) (.slice none 0 0)).trans dL.out);unfold Cb at H6;refine bY _ _ (fun _=>cW.out) ?_;generalize wsC _ _ _=W6 at H6 cW |-;(try simp only[gX,Act.put]);clear s0 s1 s2 s3 s4 s5 s6 s7 s8 s9 bO bY H5 dL;obtain⟨d0,d1,d2,d3,d4,d5,d6⟩:=Ah H6.out.fc;refine Ac rfl (fun Ky bZ=>?_);go_wp2_with fail;have H7:=Lq7 (H6.out.setF (.int .i64 x) (.int .i64 y) (.int .i64 z));unfold Bs at H7;refine bZ _ _ (fun _=>((((Ad (by omega) 2 _).trans (Ad (by omega) 1 _)).trans (Ad (by omega) 0 _)).trans cW.out)) ?_;generalize wsC _ _ _=W7 at H7 |-;refine Ak ?_;(try simp only[gX,Act.put]);clear d0 d1 d2 d3 d4 d5 d6 bZ H6 cW;obtain⟨s0,s1,s2,s3,s4,s5,s6,s7,s8,s9,bO⟩:=Aa H7.out.vb;obtain⟨d0,d1,d2,d3,d4,d5,d6⟩:=Ah H7.out.fc;go_wp2_with fail;refine bodyPost_ret (v:=badV x y z) (by simp[badV,zeroV,Ai,results,Tryz.results168,go_sem,s1,s2,s3,s4,s5,d1,d2,d3]) rfl ?_;rw[aC.out];exact⟨_,H7.out.mv,rfl⟩
     | ok x st2=>
      rw[hxx] at hq;obtain⟨cE,v2,rfl,cs,rfl,bL,aF⟩:=hq;obtain⟨yk,yn,ys,yl,yks⟩:=x;have eM:=bP.out.later cD cE;have cF:Am (c2.with c1.F).F w2 (valD (.mk yk yn ys yl yks)) cs:=bL.wider (fun b h _=> .inl h);obtain⟨b1,e1,b2,e2,rfl,-,-⟩:=bL.val;have aG:Hid (res=EM.bind (Gg ex (kids.drop (j+2)) (acc++[(xt,.mk yk yn ys yl yks)])) (fun m=>Di (I1 m) l k) st2):=Lq7 (by rw[cB.out];simp[EM.bind,hxx]);have cY:Below w2.heap.size w2 ((w2.alloc (.cells #[.int .i64 yk,.int .i64 yn,.string ys,.slice b1 yl.length e1,.slice b2 yks.length e2] 42)).alloc (.cells #[.int .i64 0,.int .i64 0,.int .i64 0] 95)):=((bRf _ w2).alloc (nlr _) _).alloc (by simp) _;have dM:=Lq7 (eM.below cY);have aJ:=Lq7 (cF.below cY);have dN:=Lq7 (stays dK.out cY);have dO:=Lq7 aF;have dP:Hid (((w2.alloc (.cells #[.int .i64 yk,.int .i64 yn,.string ys,.slice b1 yl.length e1,.slice b2 yks.length e2] 42)).alloc (.cells #[.int .i64 0,.int .i64 0,.int .i64 0] 95)).heap[w2.heap.size]? = some (.cells #[.int .i64 yk,.int .i64 yn,.string ys,.slice b1 yl.length e1,.slice b2 yks.length e2] 42 (0,0))):=Lq7 ((Below.heap_alloc _ _ _ (by simp)).trans (heap_alloc_new w2 (.cells #[.int .i64 yk,.int .i64 yn,.string ys,.slice b1 yl.length e1,.slice b2 yks.length e2] 42)));clear hxx cB bP hl cD cE bL aF eM cF cY dK bJ;unfold Ai
      go_upto_region 12 with fail
      generalize World.alloc (World.alloc _ _) _=W3 at dM aJ dN dP |-;obtain⟨o,hrun,dQ⟩:=dM.out.put xt dE.out _ _ aJ.out dO.out;rw[Jn _ (Rb dJ.out)] at dQ;have Hdi:=Lq7 dQ;obtain⟨u0,u1,u2,u3,u4,u5,u6,u7,u8,u9,cR⟩:=Aa dN.out;obtain⟨q0,q1,q2,q3,q4,q5,q6,q7,q8,q9,bQ⟩:=Aa dP.out;clear dQ dM aJ dN dP dJ;go_wp2_with fail;go_roundw
      case rel=>exact⟨j+2,acc++[(xt,.mk yk yn ys yl yks)],_,st2,by go_num,by omega,by simp;omega,Hdi,aG⟩
      case measure=>simp only[intOf];omega
  ·generalize wr=wo at *;have dD:¬(j:Int)+1<kids.length:=(by omega);have hd:Gg ex (kids.drop j) acc=EM.pure acc:=by
    cases hdj:kids.drop j with
    | nil=>rfl
    | cons x t=>
     cases t with
     | nil=>rfl
     | cons y t=>
      have:=congrArg List.length hdj;rw[List.length_drop] at this;simp at this;omega
   have aG:Hid (res=Di (I1 acc) l k aR):=Lq7 (by rw[bF.out,hd];rfl);have eN:acc.length<=1000000:=(by omega);have dR:=Lq7 hl.out;have Hml:=Lq7 hl.out.ms.ok.ml;have dS:=Lq7 hl.out.nm.few;obtain⟨Dm,hown,bA,aM⟩:=hl.out.nm.owns eN;have dT:=Lq7 hown;have bB:=Lq7 bA;clear hl bF hd bA
   go_upto_region 13 with fail
   clear r0 r1 r2 r3 r4 r5 r6 r7 r8 r9 bS;go_wp2_with fail;refine((callsIn_wide (n:=5)).1 (Tryz.maps_Keys_41 (some (w.heap.size+1+1+1)) wo)).mono ?_;rintro e w2 ⟨rfl,hw2⟩;subst hw2;have HS:=Lq7 ((callsIn_wide (n:=5)).1 (Tryz.slices_Sorted_keys_40_41 (w.heap.size+1+1+1) _ Dm anyElem wo hown (by rw[aM];unfold maxLen;omega) (by rw[aM];omega)));have eO:Below wo.heap.size wo (wo.alloc (.cells #[.map (some (w.heap.size+1+1+1))] 91)):=(bRf _ wo).alloc (nlr _) _;have H3:=Lq7 (dR.out.below eO);have Hs0:Hid (w.heap.size+3<=wo.heap.size):=Lq7 dR.out.xb.size;clear hown aM eO dR dT;go_wp2_with fail;refine HS.out.mono ?_;rintro e w3 ⟨v,ss,rfl,hS,cG,-,dU⟩;have hK:=Pd (hS.trans bB.out) cG;have eP:∀g,v.ownBlock=some g->(fun b=>wo.heap.size<=b/\b<w3.heap.size) g:=fun g hg=>by
    have:=hK.block hg;simp at this;omega
   obtain⟨aK,cK,rfl,eQ⟩:=hK.rowAt eP;have dV:=Lq7 eQ;have H4:=Lq7 (H3.out.below dU);have hws:wo.heap.size<w3.heap.size:=(by have:=dU.size;simp at this;omega);have bM:=Lq7 (Lp acc);have hkb:(Cn acc).length<=1000000:=(by have:=bM.out;omega);have cH:Hid (((Cu acc).map (·.2)).length=acc.length):=Lq7 (by rw[List.length_map,Ng]);clear hS cG dU hK eQ H3 HS bB eP;have dW:=heap_alloc_new w3 (.cells #[.int .i64 5,.int .i64 0,.string ⟨#[]⟩,.slice none 0 0,.slice aK (Cn acc).length cK] 42);have eR:Hid (SI c1.F w3.heap.size (.slice aK (Cn acc).length cK) w3 (w3.alloc (.cells #[.int .i64 5,.int .i64 0,.string ⟨#[]⟩,.slice none 0 0,.slice aK (Cn acc).length cK] 42)) (.slice none 0 0) (((Cu acc).map (·.2)).take 0)):=Lq7 ⟨dW,OwnD.nil _ _ _ _ _,(bRf _ w3).alloc (nlr _) _,H4.out.ms.ok.fl⟩;obtain⟨q0,q1,q2,q3,q4,q5,q6,q7,q8,q9,bQ⟩:=Aa dW;clear dW;go_wp2_with fail;clear q0 q1 q2 q3 q4 q5 q6 q7 q8 q9 bQ;generalize World.alloc _ _=W4 at eR |-
   go_loopw [69] (fun i wr=>∃(i1:Nat) (L:Value),i = .int .i64 i1/\i1<=(Cn acc).length/\Hid (SI c1.F w3.heap.size (.slice aK (Cn acc).length cK) w3 wr L (((Cu acc).map (·.2)).take i1))) (fun i _=>(Cn acc).length-(intOf i).toNat)
   case atStart=>exact⟨0,_,rfl,nlz _,eR⟩
   case round=>
    obtain⟨i1,L,rfl,hi1,aH⟩:=hrel;have aD:Below w3.heap.size w3 wr:=aH.out.bw;obtain⟨q0,q1,q2,q3,q4,q5,q6,q7,q8,q9,bQ⟩:=Aa aH.out.sb;obtain⟨aL,capL,hL,-⟩:=(aH.out.own.wide (G:=fun _=>True) (fun _ _=>trivial)).rowAt (fun _ _=>trivial);rw[Bd,lnT,cH.out] at hL;by_cases hlt:i1<(Cn acc).length
    ·have eS:=Lq7 hlt;have aN:min i1 acc.length=i1:=(by have:=bM.out;omega);rw[aN] at hL;subst hL;clear aN;have aU:(Cn acc)[i1]? = some (Cn acc)[i1]:=lgE hlt;obtain⟨q,hq,eT⟩:=Pb (List.getElem_mem hlt);obtain⟨bK,oK,hak,aF⟩:=(dV.out.strs.below aD) i1 _ aU;subst hak;have bI:=Pc aU;generalize (Cn acc)[i1]=sn at aU eT aF bI;subst eT;obtain⟨cs,bH,bC,cI⟩:=(H4.out.nm.below aD).look1 hq;obtain⟨nm,vk,vn,vs,vl,vks⟩:=q;obtain⟨a1,c1',a2,c2,rfl,-,-⟩:=bC.val;rw[bH,Option.getD_some] at bI;have Htk:Hid (((Cu acc).map (·.2)).take (i1+1)=((Cu acc).map (·.2)).take i1++[.mk vk vn vs vl vks]):=Lq7 (by rw[List.take_add_one,List.getElem?_map,bI];rfl);have eU:(Ar (((Cu acc).map (·.2)).take i1)).length=i1:=(by rw[Bd,lnT,cH.out];have:=bM.out;omega);have bG:Below wr.heap.size wr (wr.alloc (.cells #[.int .i64 vk,.int .i64 vn,.string vs,.slice a1 vl.length c1',.slice a2 vks.length c2] 42)):=(bRf _ wr).alloc (nlr _) _;have bR:=Lq7 (aH.out.below bG);have bD:=Lq7 (Fe wr [.int .i64 vk,.int .i64 vn,.string vs,.slice a1 vl.length c1',.slice a2 vks.length c2] 42);have cJ:=Lq7 ((bC.below bG).wider (G:=fun b=>c1.F b/\(Value.slice aL i1 capL).ownBlock≠some b) (fun b h _=>⟨h,fun e=>by have:=(aH.out.own.block_lt e).1;have:=aH.out.fl b h;omega⟩));have hvl:=here aH.out.sb;have dX:=Lq7 eU;clear eU;clear bI bH bC hq aU aH bG
     go_wp2_with (at_builtin;refine Bw rfl _ _ 39 rfl (w3.heap.size+1) 42 i0 _ 5 80 Tryz.underlying39 hi hz0 hz1 hz2 rfl (by decide) (.slice aL i1 capL) c1.F (Ar (((Cu acc).map (·.2)).take i1)) rfl bR.out.own ⟨wr.heap.size,0,none⟩ 1 (valD (.mk vk vn vs vl vks)) [.int .i64 vk,.int .i64 vn,.string vs,.slice a1 vl.length c1',.slice a2 vks.length c2] rfl rfl bD.out ?_ cJ.out ?_ ?_ ?_ ?_)
     ·simp[Value.oneCell']
     ·rw[dX.out];have:=bM.out;unfold maxLen;omega
     ·rw[dX.out];have:=bM.out;omega
     ·first|omega|(simp;omega)
     intro v5 w5 aQ aE _;obtain⟨a5,cap5,eV,-⟩:=(aQ.wide (G:=fun _=>True) (fun _ _=>trivial)).rowAt (fun _ _=>trivial);rw[List.length_append,dX.out,List.length_singleton] at eV;subst eV;have cM:=(aE.block _ (here bR.out.sb) (fun e=>by have:=(bR.out.own.block_lt e.symm).1;omega)).trans bR.out.sb;have cN:=Lq7 (bR.out.grown aQ aE);rw[<-Htk.out] at cN;clear q0 q1 q2 q3 q4 q5 q6 q7 q8 q9 bQ aQ aE bR bD cJ cI aF;obtain⟨q0,q1,q2,q3,q4,q5,q6,q7,q8,q9,bQ⟩:=Aa cM;clear cM;go_wp2_with fail;go_roundw
     case rel=>exact⟨i1+1,_,by go_num,Nat.succ_le_of_lt eS.out,cN⟩
     case measure=>have:=eS.out;simp only[intOf];omega
    ·have cP:((Cu acc).map (·.2)).take i1=(Cu acc).map (·.2):=List.take_of_length_le (by have:=bM.out;have:=cH.out;omega);rw[cP] at aH;have aN:min i1 acc.length=acc.length:=(by have:=bM.out;omega);rw[aN] at hL;subst hL;have eW:∀b,(wo.heap.size<=b/\b<wr.heap.size)->w.heap.size+3<=b:=fun b hb=>Nat.le_trans Hs0.out hb.1;have cZ:=(H4.out.ms.below aD).with (g:=fun b=>wo.heap.size<=b/\b<wr.heap.size) (fun b hb=>⟨hb.2,fun h=>by have:=Hml.out b h;omega⟩);have dY:=(H4.out.xb.below aD).with eW;obtain⟨aI,capI,hI,dZ⟩:=(aH.out.own.wide (G:=(c1.with fun b=>wo.heap.size<=b/\b<wr.heap.size).F) (fun b hb=> .inl hb)).rowAt (fun g hg=> .inr (by have:=aH.out.own.block_lt hg;omega));rw[Bd,cH.out] at hI;clear aN cP;obtain⟨rfl,rfl⟩:aL=aI/\capL=capI:=(by injection hI with h1 h2 h3;exact⟨h1,h3⟩);have eA:Af (c1.with fun b=>wo.heap.size<=b/\b<wr.heap.size).F wr aK (Bl (Cn acc)):=dV.out.mono fun b hb hl=>⟨.inr ⟨hb.1,nll hb.2 aD.size⟩,nll hl aD.size,aD.block b hl⟩;have bC:Am (c1.with fun b=>wo.heap.size<=b/\b<wr.heap.size).F wr (valD (I1 acc)) [.int .i64 5,.int .i64 0,.string ⟨#[]⟩,.slice aL acc.length capL,.slice aK (Cn acc).length cK]:=by
      have:=Am.val_mk 5 0 ⟨#[]⟩ capL cK dZ eA;rw[cH.out] at this;unfold I1;rw[<-Sz];exact this
     have eB:=cZ.ok;generalize c1.with (fun b=>wo.heap.size<=b/\b<wr.heap.size)=c2 at cZ dY bC eB dZ eA;have Hm:=Lq7 (Nf _ (S0 eN dS.out) c2.F _ l k wr eB.fl bC);have H1:=Lq7 dY;have eX:=Lq7 cZ;have cJ:=Lq7 bC;clear cZ dY bC eB dZ eA aH eW H4 dV;obtain⟨r0,r1,r2,r3,r4,r5,r6,r7,r8,r9,bS⟩:=Aa H1.out.na;go_wp2_with fail;refine Hm.out.mono ?_;rintro e w5 ⟨dA,rfl⟩;have H3:=Lq7 (H1.out.below dA);have Hm3:=Lq7 (eX.out.below dA);have aJ:=Lq7 (cJ.out.below dA);clear dA H1 eX cJ Hm r0 r1 r2 r3 r4 r5 r6 r7 r8 r9 bS q0 q1 q2 q3 q4 q5 q6 q7 q8 q9 bQ;obtain⟨s0,s1,s2,s3,s4,s5,s6,s7,s8,s9,bO⟩:=Aa H3.out.vb;obtain⟨d0,d1,d2,d3,d4,d5,d6⟩:=Ah H3.out.fc;by_cases aF:A0 (I1 acc)=true
     ·rw[if_pos aF];have dO:=Lq7 aF;have aC:Hid (res = .ok (I1 acc) aR):=Lq7 (by rw[aG.out];unfold Di;rw[if_pos aF];rfl);unfold Ai;clear aF aG;go_wp2_with fail;refine bodyPost_ret (v:=.tuple #[.agg #[.int .i64 5,.int .i64 0,.string ⟨#[]⟩,.slice aL acc.length capL,.slice aK (Cn acc).length cK],Ai 0 0 0]) (by simp[Ai,results,Tryz.results168,go_sem,s1,s2,s3,s4,s5,d1,d2,d3]) rfl ?_;have H4:=H3.out.setV (.int .i64 5) (.int .i64 0) (.string ⟨#[]⟩) (.slice aL acc.length capL) (.slice aK (Cn acc).length cK);have Hm4:=H3.out.msV Hm3.out (.int .i64 5) (.int .i64 0) (.string ⟨#[]⟩) (.slice aL acc.length capL) (.slice aK (Cn acc).length cK);have Ha4:=H3.out.aggV aJ.out (.int .i64 5) (.int .i64 0) (.string ⟨#[]⟩) (.slice aL acc.length capL) (.slice aK (Cn acc).length cK);rw[aC.out];exact⟨c2,(H4.setF (.int .i64 0) (.int .i64 0) (.int .i64 0)).mv,H4.msF Hm4 (.int .i64 0) (.int .i64 0) (.int .i64 0),_,rfl,[_,_,_,_,_],rfl,H4.aggF Ha4 (.int .i64 0) (.int .i64 0) (.int .i64 0),dO.out⟩
     ·rw[if_neg aF];have aC:Hid (res = .err 6 l k):=Lq7 (by rw[aG.out];unfold Di;rw[if_neg aF];rfl);unfold badV zeroV Ai;clear aF aG;go_wp2_with fail;refine bodyPost_ret (v:=badV 6 l k) (by simp[badV,zeroV,Ai,results,Tryz.results168,go_sem,s1,s2,s3,s4,s5,d1,d2,d3]) rfl ?_;rw[aC.out];exact⟨c2,((H3.out.setV (.int .i64 0) (.int .i64 0) (.string ⟨#[]⟩) (.slice none 0 0) (.slice none 0 0)).setF (.int .i64 6) (.int .i64 l) (.int .i64 k)).mv,rfl⟩
end Go.Proofs.YtbcdimjbepigcaaGreatDoor
namespace Go.Proofs.YtbcdimjbepigcaaGreatDoor
open Go Go.RowKit
open Nat renaming le_refl->nlr
open Go.Lib renaming hid->Lq7
open Go.RowKit.Below renaming refl->bRf
set_option maxRecDepth 100000
set_option maxHeartbeats 16000000
def ENz{α:Type}(m:EM α):Prop:=∀st x y z,m st = .err x y z->x≠0
theorem ENz.bind{α β}{m:EM α}{g:α->EM β}(hm:ENz m)(hg:∀a,ENz (g a)):ENz (EM.bind m g):=by
 intro st x y z h;cases hms:m st with
 | ok a st'=>rw[Dv hms] at h;exact hg _ _ _ _ _ h
 | err a b c=>rw[Cf hms] at h;cases h;exact hm _ _ _ _ hms
 | out=>rw[Bo hms] at h;cases h
theorem ENz.pure{α}(x:α):ENz (EM.pure x):=fun _ _ _ _ h=>by cases h
theorem ENz.out{α}:ENz (eOut:EM α):=fun _ _ _ _ h=>by cases h
theorem ENz.fail{α e}(he:e≠0)(l c):ENz (eFail e l c:EM α):=fun _ _ _ _ h=>by cases h;exact he
theorem ENz.step(l c):ENz (Dw l c):=fun st x y z h=>by
 unfold Dw at h;split at h
 ·cases h;decide
 ·cases h
theorem ENz.put(s v l c):ENz (Jb s v l c):=fun st x y z h=>by
 unfold Jb at h;split at h
 ·cases h;decide
 ·cases h
theorem ENz.made(v l c):ENz (Di v l c):=by
 unfold Di;split
 ·exact .pure _
 ·exact .fail (by decide) _ _
theorem ENz.items{ex}(hx:∀n,ENz (ex n)):∀(l:List Nd) (acc:List Vl),ENz (Gv ex l acc)
 | [],acc=> .pure acc
 | n::t,acc=> .bind (hx n) fun x=>ENz.items hx t (acc++[x])
theorem ENz.res{r}(h:∀e,r = .error e->e≠0)(l c):ENz (eRes r l c):=by
 cases r with
 | ok v=>exact .pure _
 | error e=>exact .fail (h e rfl) _ _
theorem ENz.op{ex}(hx:∀n,ENz (ex n))(n):ENz (eOp ex n):=by
 refine .bind (hx _) fun a=>?_;split
 ·exact .pure _
 ·exact .bind (hx _) fun b=> .res (fun e h=>opL_nz h) _ _
theorem ENz.ents{ex}(hx:∀n,ENz (ex n)):∀(l:List Nd) (acc:List (ByteArray×Vl)),ENz (Gg ex l acc)
 | [],acc=> .pure acc
 | [_],acc=> .pure acc
 | k::n::t,acc=>by
  rw[Gg];split
  ·exact .fail (by decide) _ _
  ·exact .bind (hx n) fun x=>ENz.ents hx t _
theorem ENz.dict{ex}(hx:∀n,ENz (ex n))(n):ENz (Nl ex n):=.bind (ENz.ents hx _ _) fun _=> .made _ _ _
theorem ENz.args{ex}(hx:∀n,ENz (ex n)):∀(l:List Nd) (acc:List (ByteArray×Vl)),ENz (Jv ex l acc)
 | [],acc=> .pure acc
 | n::t,acc=> .bind (hx _) fun x=>ENz.args hx t (acc++[(n.text,x)])
def Ma(ans:Ans):Prop:=∀log q y,ans log q=some (.error y)->y≠0
theorem ENz.ask{ans}(h:Ma ans)(q):ENz (Jc ans q):=fun st x y z he=>by
 unfold Jc at he;split at he
 ·cases he
 ·next hq=>cases he;exact h _ _ _ hq
 ·split at he
  ·cases he
  ·cases he;decide
theorem ENz.expr{ans}(ha:Ma ans){ex}(hx:∀n,ENz (ex n))(n):ENz (Mb ans ex n):=by
 refine .bind (.step _ _) fun _=>?_;intro st x y z h;split at h
 ·split at h
  ·cases h
  ·dsimp only at h
   split at h
   ·cases h
   ·cases h;decide
 ·split at h
  ·split at h<;>cases h
  ·split at h
   ·exact ENz.bind (ENz.items hx n.kids []) (fun l=>ENz.made _ _ _) st x y z h
   ·split at h
    ·exact ENz.op hx n st x y z h
    ·split at h
     ·exact ENz.made _ _ _ st x y z h
     ·split at h
      ·exact ENz.bind (ENz.args hx n.kids []) (fun l=>ENz.ask ha _) st x y z h
      ·split at h
       ·exact ENz.dict hx n st x y z h
       ·cases h;decide
theorem ENz.exprs{ans}(ha:Ma ans):∀(f:Nat) (n:Nd),ENz (Fs ans f n)
 | 0,_=> .out
 | f+1,n=>ENz.expr ha (ENz.exprs ha f) n
theorem Gu{mp mb:Nat}{hv}{fn:Nat}{rv}(hop:OpC)(hdo:Rj fn rv mp mb hv)(hin:HInv fn rv hv)(ha:Ma hv.ans):∀f,Fc 116 mp mb hv (Fs hv.ans f)
 | 0=>fun _ _ _ _ _ _ _ _ _ _ hne=>absurd rfl hne
 | f+1=>Vc (Vd (ENz.exprs ha f) (Gu hop hdo hin ha f)) (op_does hop (ENz.exprs ha f) (Gu hop hdo hin ha f)) (Vh hdo hin (ENz.exprs ha f) (Gu hop hdo hin ha f)) (Vi (ENz.exprs ha f) (Gu hop hdo hin ha f))
def Re(f mp mb:Nat)(hv:Ec)(sm:Nd->EM Unit):Prop:=∀(G:Nat->Prop) (c:Ctx) (w:World) (st:St) (n:Nd) (v:Value),MS c w mp mb hv st->GOk G c w->A3 G w n v->Ci n->sm n st ≠ .out ->
 Calls Tryz.prog f #[ptr mp,v] w (EP mp mb hv M9 Ai c (sm n st) w)
structure XF(c0:Ctx)(w:World)(c:Ctx)(W:World)(b:Nat)(f:Array Value):Prop where
 mv:Mv c0 w c W
 fc:W.heap[b]? = some (.cells f 95 (0,0))
 new:w.heap.size<=b
 out:¬c.M b/\¬c.F b
section
variable {c0 c c':Ctx} {w W W':World} {b:Nat} {f:Array Value}
theorem XF.later(h:XF c0 w c W b f)(k:Mv c W c' W'):XF c0 w c' W' b f:=by
 have hl:=(Array.getElem?_eq_some_iff.1 h.fc).1;refine⟨h.mv.trans k,(k.block b hl h.out.1).trans h.fc,h.new,fun hm=>?_,fun hm=>?_⟩
 ·rcases k.m b hm with h3|h3
  ·exact h.out.1 h3
  ·omega
 ·rcases k.f b hm with h3|h3
  ·exact h.out.2 h3
  ·omega
theorem XF.below(h:XF c0 w c W b f)(k:Below W.heap.size W W'):XF c0 w c W' b f:=h.later (.of_below c k)
theorem XF.setF{x0 x1 x2:Value}(h:XF c0 w c W b #[x0,x1,x2])(v0 v1 v2:Value):XF c0 w c (Bs W b v0 v1 v2) b #[v0,v1,v2]:=by
 unfold Bs;refine⟨((h.mv.set (.inl h.new) 0 _).set (.inl h.new) 1 _).set (.inl h.new) 2 _,?_,h.new,h.out⟩;rw[Ag (Ag (Ag h.fc 0 v0) 1 v1) 2 v2];rfl
end
theorem J5{mp mb hv sm}(hnz:∀n,ENz (sm n))(hs:Re 65 mp mb hv sm)(G c w st l a cap)(hm:MS c w mp mb hv st)(hG:GOk G c w)(hr:Af G w a (A2 l))(hsn:smallNs l)(hlen:l.length<=1000000)(hne:Cs sm l st ≠ .out):
  Calls Tryz.prog 39 #[ptr mp,.slice a l.length cap] w (EP mp mb hv M9 Ai c (Cs sm l st) w):=by
 have aJ:Below w.heap.size w (w.alloc (.cells #[.int .i64 0,.int .i64 0,.int .i64 0] 95)):=(bRf _ w).alloc (nlr _) _;have H0:Hid (XF c w c (w.alloc (.cells #[.int .i64 0,.int .i64 0,.int .i64 0] 95)) w.heap.size #[.int .i64 0,.int .i64 0,.int .i64 0]):=Lq7 ⟨.of_below c aJ,heap_alloc_new w _,nlr _,fun h=>by have:=hm.ok.ml _ h;omega,fun h=>by have:=hm.ok.fl _ h;omega⟩;have aZ:Hid (MS c (w.alloc (.cells #[.int .i64 0,.int .i64 0,.int .i64 0] 95)) mp mb hv st/\GOk G c (w.alloc (.cells #[.int .i64 0,.int .i64 0,.int .i64 0] 95))/\Af G (w.alloc (.cells #[.int .i64 0,.int .i64 0,.int .i64 0] 95)) a (A2 l)):=Lq7 ⟨hm.below aJ,hG.mv (.of_below c aJ),hr.below aJ⟩;obtain⟨res,aG⟩:∃res,res=Cs sm l st:=⟨_,rfl⟩;rw[<-aG] at hne |-;have aN:Hid (res=Cs sm (l.drop 0) st):=Lq7 aG;have bA:=Lq7 hne;have Hs:=Lq7 hs;have Hnz:=Lq7 hnz;have Hsn:=Lq7 hsn;unfold ptr;go_enter Tryz.func39,Tryz.ntmps39;go_wp2_with fail;generalize World.alloc _ _=W1 at H0 aZ |-
 go_loopw [10] (fun i wr=>∃(j:Nat) (c1:Ctx) (aB:St),i = .int .i64 j/\j<=l.length/\Hid (XF c w c1 wr w.heap.size #[.int .i64 0,.int .i64 0,.int .i64 0])/\Hid (MS c1 wr mp mb hv aB/\GOk G c1 wr/\Af G wr a (A2 l))/\Hid (res=Cs sm (l.drop j) aB)) (fun i _=>l.length-(intOf i).toNat)
 case atStart=>exact⟨0,c,st,rfl,Nat.zero_le _,H0,aZ,aN⟩
 case round=>
  obtain⟨j,c1,aB,rfl,hj,hf,aE,aQ⟩:=hrel;by_cases hlt:j<l.length
  ·cases hk:l[j] with
   | mk xk xt xl xc xs=>
    have bB:l[j]? = some (.mk xk xt xl xc xs):=(by rw[List.getElem?_eq_getElem hlt,hk]);have aC:l.drop j = .mk xk xt xl xc xs::l.drop (j+1):=(by rw[List.drop_eq_getElem_cons hlt,hk]);obtain⟨b,off,a1,c1',hae,-,hbl,r0,r1,r2,r3,r4,Hcp,hr1⟩:=aE.out.2.2.nodeK bB;have hnx:sm (.mk xk xt xl xc xs) aB ≠ .out:=fun h=>bA.out (by rw[aQ.out,aC,Cs,Bo h]);have aF:Below wr.heap.size wr (wr.alloc (.cells #[.int .i64 xk,.string xt,.int .i64 xl,.int .i64 xc,.slice a1 xs.length c1'] 49)):=(bRf _ wr).alloc (nlr _) _;have Hc:=Lq7 (Hs.out G c1 _ aB (.mk xk xt xl xc xs) _ (aE.out.1.below aF) (aE.out.2.1.mv (.of_below c1 aF)) (A3.mk _ _ _ _ c1' (hr1.below aF)) (Em Hsn.out (List.mem_of_getElem? bB)) hnx);have Hf1:=Lq7 (hf.out.below aF);have aH:Hid (GOk G c1 (wr.alloc (.cells #[.int .i64 xk,.string xt,.int .i64 xl,.int .i64 xc,.slice a1 xs.length c1'] 49))/\Af G (wr.alloc (.cells #[.int .i64 xk,.string xt,.int .i64 xl,.int .i64 xc,.slice a1 xs.length c1'] 49)) a (A2 l)):=Lq7 ⟨aE.out.2.1.mv (.of_below c1 aF),aE.out.2.2.below aF⟩;have aR:Hid (res=EM.bind (sm (.mk xk xt xl xc xs)) (fun _=>Cs sm (l.drop (j+1))) aB):=Lq7 (by rw[aQ.out,aC];rfl);unfold ptr at Hc;subst hae;go_wp2_with fail;refine Hc.out.mono ?_;rintro e w2 ⟨c2,aU,hq⟩;have H2:=Lq7 (Hf1.out.later aU);obtain⟨d0,d1,d2,d3,d4,d5,d6⟩:=Ah H2.out.fc;cases hxx:sm (.mk xk xt xl xc xs) aB with
    | out=>exact absurd hxx (fun h=>bA.out (by rw[aR.out,Bo h]))
    | err x y z=>
     rw[hxx] at hq;obtain rfl:=hq;have aD:Hid (res = .err x y z):=Lq7 (by rw[aR.out,Cf hxx]);have hxz:=Hnz.out _ _ _ _ _ hxx;have hxz':(x==0)=false:=(by simpa using hxz);unfold Ai;go_wp2_with fail;refine bodyPost_ret (v:=Ai x y z) (by simp[Ai,results,Tryz.results39,go_sem,d0,d1,d2,d3]) rfl ?_;rw[aD.out];exact⟨c2,((H2.out.setF (.int .i64 x) (.int .i64 y) (.int .i64 z)).below ((bRf _ _).alloc (nlr _) _)).mv,rfl⟩
    | ok u st2=>
     rw[hxx] at hq;obtain⟨aW,v2,rfl,hv2⟩:=hq;obtain rfl:v2=Ai 0 0 0:=hv2;have aY:Hid (res=Cs sm (l.drop (j+1)) st2):=Lq7 (by rw[aR.out,Dv hxx]);have aM:Below w2.heap.size w2 (w2.alloc (.cells #[.int .i64 0,.int .i64 0,.int .i64 0] 95)):=(bRf _ w2).alloc (nlr _) _;have H3:=Lq7 (H2.out.below aM);have Hm3:=Lq7 (And.intro (aW.below aM) (And.intro ((aH.out.1.mv aU).mv (.of_below c2 aM)) ((aH.out.2.gmv aH.out.1 aU).below aM)));unfold Ai;go_wp2_with fail;go_roundw
     case rel=>exact⟨j+1,c2,st2,by go_num,by omega,H3,Hm3,aY⟩
     case measure=>simp only[intOf];omega
  ·have hd0:l.drop j=[]:=List.drop_eq_nil_of_le (by omega);have aD:Hid (res = .ok () aB):=Lq7 (by rw[aQ.out,hd0];rfl);have H1:=Lq7 hf.out;have aH:=Lq7 aE.out.1;obtain⟨d0,d1,d2,d3,d4,d5,d6⟩:=Ah H1.out.fc;go_wp2_with fail;refine bodyPost_ret (v:=Ai 0 0 0) (by simp[Ai,results,Tryz.results39,go_sem,d1,d2,d3]) rfl ?_;rw[aD.out];exact⟨c1,(H1.out.setF (.int .i64 0) (.int .i64 0) (.int .i64 0)).mv,aH.out.setO H1.out.out (.int .i64 0) (.int .i64 0) (.int .i64 0),_,rfl,rfl⟩
structure XS(c0:Ctx)(w:World)(c:Ctx)(W:World)(n f:Array Value):Prop where
 fx:XF c0 w c W (w.heap.size+1) f
 na:W.heap[w.heap.size]? = some (.cells n 49 (0,0))
 no:¬c.M w.heap.size/\¬c.F w.heap.size
section
variable {c0 c c':Ctx} {w W W':World} {n f:Array Value}
theorem XS.start(h:c0.Ok w)(n f:Array Value):XS c0 w c0 ((w.alloc (.cells n 49)).alloc (.cells f 95)) n f:=by
 have hb:Below w.heap.size w ((w.alloc (.cells n 49)).alloc (.cells f 95)):=((bRf _ w).alloc (nlr _) _).alloc (by simp) _;have h1:=heap_alloc_new (w.alloc (.cells n 49)) (.cells f 95);rw[show(w.alloc (.cells n 49)).heap.size=w.heap.size+1 by simp] at h1;exact⟨⟨.of_below c0 hb,h1,by omega,fun h2=>by have:=h.ml _ h2;omega,fun h2=>by have:=h.fl _ h2;omega⟩,(Below.heap_alloc _ _ _ (by simp)).trans (heap_alloc_new w _),fun h2=>by have:=h.ml _ h2;omega,fun h2=>by have:=h.fl _ h2;omega⟩
theorem XS.later(h:XS c0 w c W n f)(k:Mv c W c' W'):XS c0 w c' W' n f:=by
 have hl:=(Array.getElem?_eq_some_iff.1 h.na).1;refine⟨h.fx.later k,(k.block _ hl h.no.1).trans h.na,fun hm=>?_,fun hm=>?_⟩
 ·rcases k.m _ hm with h3|h3
  ·exact h.no.1 h3
  ·omega
 ·rcases k.f _ hm with h3|h3
  ·exact h.no.2 h3
  ·omega
theorem XS.below(h:XS c0 w c W n f)(k:Below W.heap.size W W'):XS c0 w c W' n f:=h.later (.of_below c k)
end
theorem Vf{mp mb hv}(G c w st t l k kids a cap)(hm:MS c w mp mb hv st)(hG:GOk G c w)(hr:Af G w a (A2 kids))(kk)(hle:st.left<=0):
  Calls Tryz.prog 65 #[ptr mp,.agg #[.int .i64 kk,.string t,.int .i64 l,.int .i64 k,.slice a kids.length cap]] w (EP mp mb hv M9 Ai c (.err 12 l k) w):=by
 have aF:Below w.heap.size w ((w.alloc (.cells #[.int .i64 kk,.string t,.int .i64 l,.int .i64 k,.slice a kids.length cap] 49)).alloc (.cells #[.int .i64 0,.int .i64 0,.int .i64 0] 95)):=((bRf _ w).alloc (nlr _) _).alloc (by simp) _;have H0:=Lq7 (XS.start hm.ok #[.int .i64 kk,.string t,.int .i64 l,.int .i64 k,.slice a kids.length cap] #[.int .i64 0,.int .i64 0,.int .i64 0]);have aG:=Lq7 (Dl c mp mb hv st l k _ (hm.below aF));have aQ:=Lq7 (hG.mv (.of_below c aF));have bB:=Lq7 (hr.below aF);rw[show Dw l k st = .err 12 l k from if_pos hle] at aG;unfold ptr at aG |-;go_enter Tryz.func65,Tryz.ntmps65;go_wp2_with fail;refine aG.out.mono ?_;rintro e w1 ⟨c1,aE,rfl⟩;have H1:=Lq7 (H0.out.later aE);unfold Ai;obtain⟨d0,d1,d2,d3,d4,d5,d6⟩:=Ah H1.out.fx.fc;go_wp2_with fail;refine bodyPost_ret (v:=Ai 12 l k) (by simp[Ai,results,Tryz.results65,go_sem,d0,d1,d2,d3]) rfl ?_;exact⟨c1,((H1.out.fx.setF (.int .i64 12) (.int .i64 l) (.int .i64 k)).below ((bRf _ _).alloc (nlr _) _)).mv,rfl⟩
theorem Rf{mp mb:Nat}{hv:Ec}(G:Nat->Prop)(c:Ctx)(w:World)(st:St)(t:ByteArray)(l k:Int)(kids:List Nd)(a:Option Addr)(cap:Nat)(hm:MS c w mp mb hv st)(hG:GOk G c w)(hr:Af G w a (A2 kids))(hle:¬st.left<=0)(hsn:Ci (.mk 2 t l k kids))(ex:Nd->EM Vl)(hnz:∀n,ENz (ex n))(hx:Fc 116 mp mb hv ex)(hne:EM.bind (ex (kidN (.mk 2 t l k kids) 0)) (fun v=>Jb t v l k) { st with left:=st.left - 1} ≠ .out):
  Calls Tryz.prog 65 #[ptr mp,.agg #[.int .i64 2,.string t,.int .i64 l,.int .i64 k,.slice a kids.length cap]] w (EP mp mb hv M9 Ai c (EM.bind (ex (kidN (.mk 2 t l k kids) 0)) (fun v=>Jb t v l k) { st with left:=st.left - 1}) w):=by
 have aF:Below w.heap.size w ((w.alloc (.cells #[.int .i64 2,.string t,.int .i64 l,.int .i64 k,.slice a kids.length cap] 49)).alloc (.cells #[.int .i64 0,.int .i64 0,.int .i64 0] 95)):=((bRf _ w).alloc (nlr _) _).alloc (by simp) _;have H0:=Lq7 (XS.start hm.ok #[.int .i64 2,.string t,.int .i64 l,.int .i64 k,.slice a kids.length cap] #[.int .i64 0,.int .i64 0,.int .i64 0]);have aG:=Lq7 (Dl c mp mb hv st l k _ (hm.below aF));have aQ:=Lq7 (hG.mv (.of_below c aF));have bB:=Lq7 (hr.below aF);have Hx:=Lq7 hx;have bC:=Lq7 (Fh hsn 0);have hlen:kids.length<=140737488355328/\t.size<=maxLen:=(by rw[Ci] at hsn;exact⟨by omega,hsn.1⟩);have aH:=Lq7 hlen;have Hnz:=Lq7 hnz;obtain⟨res,aJ⟩:∃res,res=EM.bind (ex (kidN (.mk 2 t l k kids) 0)) (fun v=>Jb t v l k) { st with left:=st.left - 1}:=⟨_,rfl⟩;rw[<-aJ] at hne |-;have aB:=Lq7 aJ;have aR:=Lq7 hne;rw[show Dw l k st = .ok () { st with left:=st.left - 1} from if_neg hle] at aG;unfold ptr at aG |-;go_enter Tryz.func65,Tryz.ntmps65;go_wp2_with fail;refine aG.out.mono ?_;rintro e w0 ⟨c0,aE,hms,v0,rfl,hv0⟩;obtain rfl:v0=Ai 0 0 0:=hv0;have aN:Below w0.heap.size w0 (w0.alloc (.cells #[.int .i64 0,.int .i64 0,.int .i64 0] 95)):=(bRf _ w0).alloc (nlr _) _;have H1:=Lq7 ((H0.out.later aE).below aN);have Hm1:=Lq7 (hms.below aN);have HG1:=Lq7 ((aQ.out.mv aE).mv (.of_below c0 aN));have Hr1:=Lq7 ((bB.out.gmv aQ.out aE).below aN);unfold Ai;obtain⟨r0,r1,r2,r3,r4,r5,r6,r7,r8,r9,r10⟩:=Aa H1.out.na;have Hk:Hid (Calls Tryz.prog 117 #[.agg #[.int .i64 2,.string t,.int .i64 l,.int .i64 k,.slice a kids.length cap],.int .i64 0] (w0.alloc (.cells #[.int .i64 0,.int .i64 0,.int .i64 0] 95)) (PKid G (kidN (.mk 2 t l k kids) 0) (w0.alloc (.cells #[.int .i64 0,.int .i64 0,.int .i64 0] 95)))):=Lq7 (Io G 2 t l k kids a cap 0 _ (by omega) (by omega) aH.out.1 Hr1.out);generalize hx0:kidN (.mk 2 t l k kids) 0=x0 at Hk bC aB;go_wp2_with fail;refine Hk.out.mono ?_;rintro e w1 ⟨v1,rfl,hn1,aU⟩;have hn0:ex x0 { st with left:=st.left - 1} ≠ .out:=fun h=>aR.out (by rw[aB.out,Bo h]);have Hc:=Lq7 (Hx.out G c0 w1 { st with left:=st.left - 1} x0 v1 (Hm1.out.below aU) (HG1.out.mv (.of_below c0 aU)) hn1 bC.out hn0);have H2:=Lq7 (H1.out.below aU);unfold ptr at Hc;go_wp2_with fail;refine Hc.out.mono ?_;rintro e w2 ⟨c2,aE,hq⟩;have H3:=Lq7 (H2.out.later aE);obtain⟨d0,d1,d2,d3,d4,d5,d6⟩:=Ah H3.out.fx.fc;obtain⟨r0,r1,r2,r3,r4,r5,r6,r7,r8,r9,r10⟩:=Aa H3.out.na;cases hxx:ex x0 { st with left:=st.left - 1} with
 | out=>exact absurd hxx (fun h=>aR.out (by rw[aB.out,Bo h]))
 | err x y z=>
  rw[hxx] at hq;obtain rfl:=hq;have aC:Hid (res = .err x y z):=Lq7 (by rw[aB.out,Cf hxx]);have hxz:=Hnz.out _ _ _ _ _ hxx;have hxz':(x==0)=false:=(by simpa using hxz);have d01:w.heap.size<w2.heap.size:=(by omega);unfold badV zeroV Ai;go_wp2_with fail;refine bodyPost_ret (v:=Ai x y z) (by simp[Ai,results,Tryz.results65,go_sem,d0,d01,d1,d2,d3]) rfl ?_;rw[aC.out];have hbe:=fun(W:World)=>((bRf _ W).alloc (nlr _) (.cells #[.int .i64 0,.int .i64 0,.string ⟨#[]⟩,.slice none 0 0,.slice none 0 0] 42)).alloc (by simp) (.cells #[.int .i64 x,.int .i64 y,.int .i64 z] 95);exact⟨c2,((H3.out.fx.setF (.int .i64 x) (.int .i64 y) (.int .i64 z)).below (hbe _)).mv,rfl⟩
 | ok xa st2=>
  rw[hxx] at hq;obtain⟨aW,v2,rfl,cs,rfl,aM,aY⟩:=hq;have aD:Hid (res=Jb t xa l k st2):=Lq7 (by rw[aB.out,Dv hxx]);have aZ:∀o1 o2,Below w2.heap.size w2 ((w2.alloc o1).alloc o2):=fun o1 o2=>((bRf _ w2).alloc (nlr _) _).alloc (by simp) _;obtain⟨b1,e1,b2,e2,hcs,-,-⟩:∃a c a' c',cs=[.int .i64 xa.kind,.int .i64 xa.num,.string xa.str,.slice a xa.items.length c,.slice a' xa.keys.length c']/\True/\True:=by
   obtain⟨yk,yn,ys,yl,yks⟩:=xa;obtain⟨b1,e1,b2,e2,h,-,-⟩:=aM.val;exact⟨b1,e1,b2,e2,h,trivial,trivial⟩
  subst hcs;have Hp:=Lq7 (put_any c2 mp mb hv st2 t xa _ l k _ (aW.below (aZ (.cells #[.int .i64 xa.kind,.int .i64 xa.num,.string xa.str,.slice b1 xa.items.length e1,.slice b2 xa.keys.length e2] 42) (.cells #[.int .i64 0,.int .i64 0,.int .i64 0] 95))) aH.out.2 (aM.below (aZ _ _)) aY);have H4:=Lq7 (H3.out.below (aZ (.cells #[.int .i64 xa.kind,.int .i64 xa.num,.string xa.str,.slice b1 xa.items.length e1,.slice b2 xa.keys.length e2] 42) (.cells #[.int .i64 0,.int .i64 0,.int .i64 0] 95)));unfold ptr at Hp;unfold Ai;go_wp2_with fail;refine Hp.out.mono ?_;rintro e w4 ⟨c4,aE,hq⟩;have H5:=Lq7 (H4.out.later aE);obtain⟨d0,d1,d2,d3,d4,d5,d6⟩:=Ah H5.out.fx.fc;cases hpx:Jb t xa l k st2 with
  | out=>exact absurd hpx (fun h=>aR.out (by rw[aD.out,h]))
  | err x y z=>
   rw[hpx] at hq;obtain rfl:=hq;have aC:Hid (res = .err x y z):=Lq7 (by rw[aD.out,hpx]);unfold Ai;go_wp2_with fail;refine bodyPost_ret (v:=Ai x y z) (by simp[Ai,results,Tryz.results65,go_sem,d1,d2,d3]) rfl ?_;rw[aC.out];exact⟨c4,(H5.out.fx.setF (.int .i64 x) (.int .i64 y) (.int .i64 z)).mv,rfl⟩
  | ok u st4=>
   rw[hpx] at hq;obtain⟨bA,v4,rfl,hv4⟩:=hq;obtain rfl:v4=Ai 0 0 0:=hv4;have aC:Hid (res = .ok u st4):=Lq7 (by rw[aD.out,hpx]);have Hm5:=Lq7 bA;unfold Ai;go_wp2_with fail;refine bodyPost_ret (v:=Ai 0 0 0) (by simp[Ai,results,Tryz.results65,go_sem,d1,d2,d3]) rfl ?_;rw[aC.out];exact⟨c4,(H5.out.fx.setF (.int .i64 0) (.int .i64 0) (.int .i64 0)).mv,Hm5.out.setO H5.out.fx.out (.int .i64 0) (.int .i64 0) (.int .i64 0),_,rfl,rfl⟩
theorem ENz.block{sm}(hs:∀n,ENz (sm n)):∀l:List Nd,ENz (Cs sm l)
 | []=> .pure ()
 | n::t=> .bind (hs n) fun _=>ENz.block hs t
theorem S5{ex sm st kk l k t kids}(hle:st.left<=0):Rk ex sm (.mk kk t l k kids) st = .err 12 l k:=
 Cf (if_pos hle)
theorem eStmt_go{ex sm st kk l k t kids}(hle:¬st.left<=0):Rk ex sm (.mk kk t l k kids) st =
  (if kk=2 then EM.bind (ex (kidN (.mk kk t l k kids) 0)) fun v=>Jb t v l k
  else eOut) { st with left:=st.left - 1}:=
 Dv (if_neg hle)
theorem Nj{mp mb hv ex sm}(hnz:∀n,ENz (ex n))(_hnzs:∀n,ENz (sm n))(_hs:Re 65 mp mb hv sm)(hx:Fc 116 mp mb hv ex):
  Re 65 mp mb hv (Rk ex sm):=by
 intro G c w st n v hm hG hn hsn aB;obtain⟨kk,t,l,k,kids⟩:=n;obtain⟨a,cap,rfl,hr⟩:=hn.open;by_cases hle:st.left<=0
 ·rw[S5 hle];exact Vf G c w st t l k kids a cap hm hG hr kk hle
 rw[eStmt_go hle] at aB |-;by_cases h2:kk=2
 ·subst h2;rw[if_pos rfl] at aB |-;exact Rf G c w st t l k kids a cap hm hG hr hle hsn ex hnz hx aB
 rw[if_neg h2] at aB |-;exact absurd rfl aB
theorem ENz.stmt{ex sm}(hx:∀n,ENz (ex n))(_hs:∀n,ENz (sm n))(n):ENz (Rk ex sm n):=by
 refine .bind (.step _ _) fun _=>?_;split
 ·exact .bind (hx _) fun v=> .put _ _ _ _
 ·exact .out
theorem ENz.stmts{ans}(ha:Ma ans):∀(f:Nat) (n:Nd),ENz (Ll ans f n)
 | 0,_=> .out
 | f+1,n=>ENz.stmt (ENz.exprs ha f) (ENz.stmts ha f) n
theorem Nk{mp mb:Nat}{hv}{fn:Nat}{rv}(hop:OpC)(hdo:Rj fn rv mp mb hv)(hin:HInv fn rv hv)(ha:Ma hv.ans):∀f,Re 65 mp mb hv (Ll hv.ans f)
 | 0=>fun _ _ _ _ _ _ _ _ _ _ aB=>absurd rfl aB
 | f+1=>Nj (ENz.exprs ha f) (ENz.stmts ha f) (Nk hop hdo hin ha f) (Gu hop hdo hin ha f)
def J8(ans:Ans):Ec:=⟨.iface 103 (.agg #[]),ans,fun _ F w _=>Et w/\StdB w/\F 1/\F 0,
 fun h hF _ hk=>⟨h.1.keep (hk _ (.inr h.2.2.1) h.1.here),(by
  obtain⟨m,hm⟩:=h.2.1;exact⟨m,(World.cell?_of_block (hk _ (.inr h.2.2.2) (Au hm))).trans hm⟩),hF _ h.2.2.1,hF _ h.2.2.2⟩,fun h=>⟨h.1,h.2.1⟩⟩
theorem Vm(ans):HInv 288 (.agg #[]) (J8 ans):=fun _ _=>by
 unfold J8
 kernel_rfl
end Go.Proofs.YtbcdimjbepigcaaGreatDoor
