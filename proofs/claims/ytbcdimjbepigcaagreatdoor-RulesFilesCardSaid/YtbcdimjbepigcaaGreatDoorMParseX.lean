/-
  The walk of the parser's Read,where the lexer doesn't break off. (And what it stands on.)
-/
import Derived.Defers
import Derived.Recover
import Derived.Test.YtbcdimjbepigcaaGreatDoorMParseH
import Derived.Test.YtbcdimjbepigcaaGreatDoorMRegionHeldD
namespace Go.Proofs.YtbcdimjbepigcaaGreatDoor
open Go Go.RowKit
open List renaming length_cons->lnC,length_nil->lnN,getElem?_eq_some_iff->lgS,setIfInBounds_toArray->laA,set_cons_zero->lsA,set_cons_succ->lsB
open Go.Lib renaming hid->Lq7
open Nat renaming le_refl->nlr
open Go.RowKit.Below renaming refl->bRf
open Go.Act renaming put->aP
open _root_.Array renaming getElem?_eq_some_iff->agS
open Go.World renaming setCell->wsC
set_option maxRecDepth 100000
set_option maxHeartbeats 16000000
theorem expr_any(bp en L)(hi:Inc 0 (pSum en L))(hx:Eg 155 bp en C7 (pSum en L)):Eg 110 bp en C7 (Dd en L):=by
 intro w ts dp hp hd0 hd1 hr;have Hr:=Lq7 hr;have Hx:=Lq7 hx;clear hx;have fQ:Dd en L ts dp=PM.bind (pSum en L) (fun x=>Ce fun ts=>if Bf en ts 0 [61,61]||Bf en ts 0 [33,61]||Bt en ts [105,110] then PM.bind (Bc en true) fun t=>PM.bind (pSum en L) fun y=>PM.pure (A1 16 t t.text [x,y]) else PM.pure x) ts dp:=rfl;have eU:=Lq7 fQ;have H0:=Lq7 ((PI.start hp).alloc #[.int .i64 0,.string ⟨#[]⟩,.int .i64 0,.int .i64 0,.slice none 0 0] 49);clear hp hr fQ;unfold ptr;go_enter Tryz.func110,Tryz.ntmps110;go_wp2_with fail;have eV:=Lq7 (Hx.out (w.alloc (.cells #[.int .i64 0,.string ⟨#[]⟩,.int .i64 0,.int .i64 0,.slice none 0 0] 49)) ts (dp) H0.out.ps (by omega) (by omega) (Bb Hr eU));(try unfold ptr at eV);refine Ay (dp) eV Hr eU (hi) (by omega) (fun hg hf=>⟨rfl,by rw[hf];exact⟨Ae H0.out.grown hg,rfl⟩⟩) ?_;rintro x6 aZ w2 v hm hg aU hv dU;obtain⟨aH,aJ,aM,aN,aQ⟩:=x6;obtain⟨a7,aE,rfl,aR⟩:=A3.open hv;have Hccap8:=Lq7 (A3.cap hv);have H3:=Lq7 ((H0.out.call hg aU).row aR H0.out.grown.size H0.out.lt);clear hv aR;clear hm hg aU eV H0 eU;have dV:=Lq7 (H3.out.alloc #[.int .i64 aH,.string aJ,.int .i64 aM,.int .i64 aN,.slice a7 aQ.length aE] 49);clear H3;go_wp2_with fail;generalize w2.alloc _=W9 at dV |-;generalize w2.heap.size=b11 at dV |-;have aG:Hid (Dd en L ts dp=(if Bf en aZ 0 [61,61]||Bf en aZ 0 [33,61]||Bt en aZ [105,110] then PM.bind (Bc en true) fun t=>PM.bind (pSum en L) fun y=>PM.pure (A1 16 t t.text [.mk aH aJ aM aN aQ,y]) else PM.pure (.mk aH aJ aM aN aQ)) aZ dp):=Lq7 (by rw[dU.out]<;>rfl)
 clear dU;have cZ:=Lq7 (Cx bp 0 ⟨#[61,61]⟩ en aZ (dp) W9 (by omega) dV.out.ps);(try unfold ptr at cZ);refine Bj cZ (fun hb=>dV.out.below hb) ?_;intro fR dA;clear cZ dV;cases h1:Bf en aZ 0 [61,61]
 ·(try rw[h1]);have dB:=Lq7 (Cx bp 0 ⟨#[33,61]⟩ en aZ (dp) fR (by omega) dA.out.ps);(try unfold ptr at dB);go_wp2_with fail;refine Bj dB (fun hb=>dA.out.below hb) ?_;intro fS dC;clear dB dA;cases h2:Bf en aZ 0 [33,61]
  ·(try rw[h2]);have dD:=Lq7 (Gw bp ⟨#[105,110]⟩ en aZ (dp) fS dC.out.ps);(try unfold ptr at dD);go_wp2_with fail;refine Bj dD (fun hb=>dC.out.below hb) ?_;intro w20 dE;clear dD dC;cases h3:Bt en aZ [105,110]
   ·(try rw[h3]);have dW:Hid (Dd en L ts dp=PM.pure (.mk aH aJ aM aN aQ) aZ dp):=Lq7 (by rw[aG.out,h1,h2,h3]<;>rfl)
    clear aG;obtain⟨r23,r24,r25,r26,r27,r28,r29,r30,r31,r32,r33⟩:=Aa (dE.out.at (b:=b11) (cs:=#[.int .i64 aH,.string aJ,.int .i64 aM,.int .i64 aN,.slice a7 aQ.length aE]) (T:=49) (by simp));obtain⟨r34,r35,r36,r37,r38,r39,r40,r41,r42,r43,r44⟩:=Aa (dE.out.at (b:=w.heap.size) (cs:=#[.int .i64 0,.string ⟨#[]⟩,.int .i64 0,.int .i64 0,.slice none 0 0]) (T:=49) (by simp));go_wp2_with fail;refine bodyPost_ret (v:=.agg #[.int .i64 aH,.string aJ,.int .i64 aM,.int .i64 aN,.slice a7 aQ.length aE]) (by simp[results,Tryz.results110,go_sem,r35,r36,r37,r38,r39]) rfl ?_;have G:=Lq7 (dE.out.put5 1 rfl (.int .i64 aH) (.string aJ) (.int .i64 aM) (.int .i64 aN) (.slice a7 aQ.length aE));rw[dW.out];exact⟨G.out.grown,G.out.ps,_,rfl,A3.mk _ _ _ _ _ (G.out.hand (by simp[]))⟩
   ·(try rw[h3]);have bT:Hid (Dd en L ts dp=PM.bind (Bc en true) (fun t=>PM.bind (pSum en L) fun y=>PM.pure (A1 16 t t.text [.mk aH aJ aM aN aQ,y])) aZ dp):=Lq7 (by rw[aG.out,h1,h2,h3]<;>rfl)
    clear aG;have dF:=Lq7 (Bp bp true en aZ (dp) w20 dE.out.ps (Bb Hr bT));(try unfold ptr at dF);go_wp2_with fail;refine Ay (dp) dF Hr bT (Inc.take _) (by omega) (fun hg hf=>⟨rfl,by rw[hf];exact⟨Ae dE.out.grown hg,rfl⟩⟩) ?_;rintro aW eW fT v hm hg aU rfl bU;have fU:=Lq7 (dE.out.call hg aU);(try unfold tokV);clear hm hg aU dF dE bT;have eM:=Lq7 (fU.out.alloc #[.int .i64 aW.kind,.string aW.text,.int .i64 aW.line,.int .i64 aW.col] 87);clear fU;go_wp2_with fail;generalize fT.alloc _=W52 at eM |-;generalize fT.heap.size=b54 at eM |-;have cU:=Lq7 eM.out.drew;clear eM;go_wp2_with fail;refine A4 (.s 0 (.s 1 (.s 2 (.s 3 (.s 4 (.h 5 (.h 6 (.h 7 (.h 8 .nil))))))))) 8 (fun W'=>W'.heap[b54]? = some (.cells #[.int .i64 aW.kind,.string aW.text,.int .i64 aW.line,.int .i64 aW.col] 87 (0,0))/\W'.heap[b11]? = some (.cells #[.int .i64 aH,.string aJ,.int .i64 aM,.int .i64 aN,.slice a7 aQ.length aE] 49 (0,0))) (⟨cU.out.at (by simp),cU.out.at (by simp)⟩) ?_;refine Aw (tokV aW) rfl rfl (fun W' hS=>?_) ?_
    ·(try unfold tokV);(try unfold ptr);obtain⟨aB,aC⟩:=hS;obtain⟨bD,bE,bF,bG,bH⟩:=Al aB;clear aB;obtain⟨bI,bJ,bL,bM,bN,bO,bP,bQ,bR,bS,aF⟩:=Aa aC;clear aC;go_simp
    refine Aw (.pointer (some ⟨b54,1,none⟩)) rfl rfl (fun W' hS=>?_) ?_
    ·(try unfold tokV);(try unfold ptr);obtain⟨aB,aC⟩:=hS;obtain⟨bD,bE,bF,bG,bH⟩:=Al aB;clear aB;obtain⟨bI,bJ,bL,bM,bN,bO,bP,bQ,bR,bS,aF⟩:=Aa aC;clear aC;go_simp
    refine Aw (.string aW.text) rfl rfl (fun W' hS=>?_) ?_
    ·(try unfold tokV);(try unfold ptr);obtain⟨aB,aC⟩:=hS;obtain⟨bD,bE,bF,bG,bH⟩:=Al aB;clear aB;obtain⟨bI,bJ,bL,bM,bN,bO,bP,bQ,bR,bS,aF⟩:=Aa aC;clear aC;go_simp
    refine Aw (.agg #[.int .i64 aH,.string aJ,.int .i64 aM,.int .i64 aN,.slice a7 aQ.length aE]) rfl rfl (fun W' hS=>?_) ?_
    ·(try unfold tokV);(try unfold ptr);obtain⟨aB,aC⟩:=hS;obtain⟨bD,bE,bF,bG,bH⟩:=Al aB;clear aB;obtain⟨bI,bJ,bL,bM,bN,bO,bP,bQ,bR,bS,aF⟩:=Aa aC;clear aC;go_simp
    refine Aw (ptr bp) rfl rfl (fun W' hS=>?_) ?_
    ·(try unfold tokV);(try unfold ptr);obtain⟨aB,aC⟩:=hS;obtain⟨bD,bE,bF,bG,bH⟩:=Al aB;clear aB;obtain⟨bI,bJ,bL,bM,bN,bO,bP,bQ,bR,bS,aF⟩:=Aa aC;clear aC;go_simp
    refine Ac rfl (fun K56 eX=>?_);(try unfold tokV ptr);go_wp2_with fail;have dG:=Lq7 (Hx.out W52.drew eW (dp) cU.out.ps (by omega) (by omega) (Bb Hr bU));(try unfold ptr at dG);refine Ay (dp) dG Hr bU (hi) (by omega) (fun hg hf=>⟨rfl,by rw[hf];exact⟨Ae cU.out.grown hg,rfl⟩⟩) ?_;rintro x62 ts61 eN v hm hg aU hv dX;obtain⟨dH,dI,dJ,dK,dL⟩:=x62;obtain⟨a63,cW,rfl,aR⟩:=A3.open hv;have Hccap64:=Lq7 (A3.cap hv);have eO:=Lq7 ((cU.out.call hg aU).row aR cU.out.grown.size cU.out.lt);clear hv aR;clear hm hg aU dG cU bU;go_wp2_with fail;refine eX _ _ (fun _=>⟨eO.out.at (by simp),eO.out.at (by simp)⟩) ?_;refine Ac rfl (fun K65 eY=>?_);(try unfold tokV ptr);go_wp2_with fail;have eP:=Lq7 (eO.out.lit 49 [[.int .i64 aH,.string aJ,.int .i64 aM,.int .i64 aN,.slice a7 aQ.length aE],[.int .i64 dH,.string dI,.int .i64 dJ,.int .i64 dK,.slice a63 dL.length cW]] [.mk aH aJ aM aN aQ,.mk dH dI dJ dK dL] rfl (by simp) rfl (fun j n c hj hc=>by
     have dY:=(lgS.1 hc).1;simp only[lnC,lnN] at dY;obtain rfl|rfl:j=0\/j=1:=by omega
     ·simp at hj hc;subst hj hc;exact⟨_,_,_,_,_,_,_,rfl,rfl,.inl (by simp)⟩
     ·simp at hj hc;subst hj hc;exact⟨_,_,_,_,_,_,_,rfl,rfl,.inl (by simp)⟩))
    clear eO;refine eY _ _ (fun _=>⟨eP.out.at (by simp),eP.out.at (by simp)⟩) ?_;refine Ac rfl (fun K67 eZ=>?_);(try unfold tokV ptr);go_wp2_with fail;have bV:=Lq7 (Bq 16 aW aW.text (some ⟨eN.heap.size,0,none⟩) 2 2 (eN.alloc (.cells #[.int .i64 aH,.string aJ,.int .i64 aM,.int .i64 aN,.slice a7 aQ.length aE,.int .i64 dH,.string dI,.int .i64 dJ,.int .i64 dK,.slice a63 dL.length cW] 49)));unfold tokV C6 at bV;refine bV.out.mono ?_;rintro e w68 ⟨rfl,hb⟩;have eQ:=Lq7 (eP.out.below hb);clear hb bV eP;go_wp2_with fail;refine eZ _ _ (fun _=>⟨eQ.out.at (by simp),eQ.out.at (by simp)⟩) ?_;obtain⟨r70,r71,r72,r73,r74,r75,r76,r77,r78,r79,r80⟩:=Aa (eQ.out.at (b:=w.heap.size) (cs:=#[.int .i64 0,.string ⟨#[]⟩,.int .i64 0,.int .i64 0,.slice none 0 0]) (T:=49) (by simp));refine Ac rfl (fun K81 fA=>?_);(try unfold tokV ptr);go_wp2_with fail;refine fA _ _ (fun h=>absurd rfl h) ?_;refine Ak ?_;go_wp2_with fail;refine bodyPost_ret (v:=.agg #[.int .i64 16,.string aW.text,.int .i64 aW.line,.int .i64 aW.col,.slice (some ⟨eN.heap.size,0,none⟩) 2 2]) (by simp[results,Tryz.results110,go_sem,r71,r72,r73,r74,r75]) rfl ?_;have G:=Lq7 (eQ.out.put5 2 rfl (.int .i64 16) (.string aW.text) (.int .i64 aW.line) (.int .i64 aW.col) (.slice (some ⟨eN.heap.size,0,none⟩) 2 2));rw[dX.out];exact⟨G.out.grown,G.out.ps,_,rfl,A3.mk _ _ _ _ _ (G.out.hand (by simp[]))⟩
  ·(try rw[h2]);have bW:Hid (Dd en L ts dp=PM.bind (Bc en true) (fun t=>PM.bind (pSum en L) fun y=>PM.pure (A1 16 t t.text [.mk aH aJ aM aN aQ,y])) aZ dp):=Lq7 (by rw[aG.out,h1,h2]<;>rfl)
   clear aG;have dM:=Lq7 (Bp bp true en aZ (dp) fS dC.out.ps (Bb Hr bW));(try unfold ptr at dM);go_wp2_with fail;refine Ay (dp) dM Hr bW (Inc.take _) (by omega) (fun hg hf=>⟨rfl,by rw[hf];exact⟨Ae dC.out.grown hg,rfl⟩⟩) ?_;rintro aY fB fV v hm hg aU rfl bX;have fW:=Lq7 (dC.out.call hg aU);(try unfold tokV);clear hm hg aU dM dC bW;have eR:=Lq7 (fW.out.alloc #[.int .i64 aY.kind,.string aY.text,.int .i64 aY.line,.int .i64 aY.col] 87);clear fW;go_wp2_with fail;generalize fV.alloc _=W89 at eR |-;generalize fV.heap.size=b91 at eR |-;have cY:=Lq7 eR.out.drew;clear eR;go_wp2_with fail;refine A4 (.s 0 (.s 1 (.s 2 (.s 3 (.s 4 (.h 5 (.h 6 (.h 7 (.h 8 .nil))))))))) 8 (fun W'=>W'.heap[b91]? = some (.cells #[.int .i64 aY.kind,.string aY.text,.int .i64 aY.line,.int .i64 aY.col] 87 (0,0))/\W'.heap[b11]? = some (.cells #[.int .i64 aH,.string aJ,.int .i64 aM,.int .i64 aN,.slice a7 aQ.length aE] 49 (0,0))) (⟨cY.out.at (by simp),cY.out.at (by simp)⟩) ?_;refine Aw (tokV aY) rfl rfl (fun W' hS=>?_) ?_
   ·(try unfold tokV);(try unfold ptr);obtain⟨aB,aC⟩:=hS;obtain⟨bD,bE,bF,bG,bH⟩:=Al aB;clear aB;obtain⟨bI,bJ,bL,bM,bN,bO,bP,bQ,bR,bS,aF⟩:=Aa aC;clear aC;go_simp
   refine Aw (.pointer (some ⟨b91,1,none⟩)) rfl rfl (fun W' hS=>?_) ?_
   ·(try unfold tokV);(try unfold ptr);obtain⟨aB,aC⟩:=hS;obtain⟨bD,bE,bF,bG,bH⟩:=Al aB;clear aB;obtain⟨bI,bJ,bL,bM,bN,bO,bP,bQ,bR,bS,aF⟩:=Aa aC;clear aC;go_simp
   refine Aw (.string aY.text) rfl rfl (fun W' hS=>?_) ?_
   ·(try unfold tokV);(try unfold ptr);obtain⟨aB,aC⟩:=hS;obtain⟨bD,bE,bF,bG,bH⟩:=Al aB;clear aB;obtain⟨bI,bJ,bL,bM,bN,bO,bP,bQ,bR,bS,aF⟩:=Aa aC;clear aC;go_simp
   refine Aw (.agg #[.int .i64 aH,.string aJ,.int .i64 aM,.int .i64 aN,.slice a7 aQ.length aE]) rfl rfl (fun W' hS=>?_) ?_
   ·(try unfold tokV);(try unfold ptr);obtain⟨aB,aC⟩:=hS;obtain⟨bD,bE,bF,bG,bH⟩:=Al aB;clear aB;obtain⟨bI,bJ,bL,bM,bN,bO,bP,bQ,bR,bS,aF⟩:=Aa aC;clear aC;go_simp
   refine Aw (ptr bp) rfl rfl (fun W' hS=>?_) ?_
   ·(try unfold tokV);(try unfold ptr);obtain⟨aB,aC⟩:=hS;obtain⟨bD,bE,bF,bG,bH⟩:=Al aB;clear aB;obtain⟨bI,bJ,bL,bM,bN,bO,bP,bQ,bR,bS,aF⟩:=Aa aC;clear aC;go_simp
   refine Ac rfl (fun K93 fC=>?_);(try unfold tokV ptr);go_wp2_with fail;have dN:=Lq7 (Hx.out W89.drew fB (dp) cY.out.ps (by omega) (by omega) (Bb Hr bX));(try unfold ptr at dN);refine Ay (dp) dN Hr bX (hi) (by omega) (fun hg hf=>⟨rfl,by rw[hf];exact⟨Ae cY.out.grown hg,rfl⟩⟩) ?_;rintro x99 ts98 eS v hm hg aU hv dZ;obtain⟨dO,dP,dQ,dR,dS⟩:=x99;obtain⟨eA,bY,rfl,aR⟩:=A3.open hv;have Hccap101:=Lq7 (A3.cap hv);have eT:=Lq7 ((cY.out.call hg aU).row aR cY.out.grown.size cY.out.lt);clear hv aR;clear hm hg aU dN cY bX;go_wp2_with fail;refine fC _ _ (fun _=>⟨eT.out.at (by simp),eT.out.at (by simp)⟩) ?_;refine Ac rfl (fun K102 eB=>?_);(try unfold tokV ptr);go_wp2_with fail;have cI:=Lq7 (eT.out.lit 49 [[.int .i64 aH,.string aJ,.int .i64 aM,.int .i64 aN,.slice a7 aQ.length aE],[.int .i64 dO,.string dP,.int .i64 dQ,.int .i64 dR,.slice eA dS.length bY]] [.mk aH aJ aM aN aQ,.mk dO dP dQ dR dS] rfl (by simp) rfl (fun j n c hj hc=>by
    have dY:=(lgS.1 hc).1;simp only[lnC,lnN] at dY;obtain rfl|rfl:j=0\/j=1:=by omega
    ·simp at hj hc;subst hj hc;exact⟨_,_,_,_,_,_,_,rfl,rfl,.inl (by simp)⟩
    ·simp at hj hc;subst hj hc;exact⟨_,_,_,_,_,_,_,rfl,rfl,.inl (by simp)⟩))
   clear eT;refine eB _ _ (fun _=>⟨cI.out.at (by simp),cI.out.at (by simp)⟩) ?_;refine Ac rfl (fun K104 eC=>?_);(try unfold tokV ptr);go_wp2_with fail;have bV:=Lq7 (Bq 16 aY aY.text (some ⟨eS.heap.size,0,none⟩) 2 2 (eS.alloc (.cells #[.int .i64 aH,.string aJ,.int .i64 aM,.int .i64 aN,.slice a7 aQ.length aE,.int .i64 dO,.string dP,.int .i64 dQ,.int .i64 dR,.slice eA dS.length bY] 49)));unfold tokV C6 at bV;refine bV.out.mono ?_;rintro e w105 ⟨rfl,hb⟩;have cJ:=Lq7 (cI.out.below hb);clear hb bV cI;go_wp2_with fail;refine eC _ _ (fun _=>⟨cJ.out.at (by simp),cJ.out.at (by simp)⟩) ?_;obtain⟨fD,fE,fF,fG,fH,fI,r113,r114,r115,r116,r117⟩:=Aa (cJ.out.at (b:=w.heap.size) (cs:=#[.int .i64 0,.string ⟨#[]⟩,.int .i64 0,.int .i64 0,.slice none 0 0]) (T:=49) (by simp));refine Ac rfl (fun K118 eD=>?_);(try unfold tokV ptr);go_wp2_with fail;refine eD _ _ (fun h=>absurd rfl h) ?_;refine Ak ?_;go_wp2_with fail;refine bodyPost_ret (v:=.agg #[.int .i64 16,.string aY.text,.int .i64 aY.line,.int .i64 aY.col,.slice (some ⟨eS.heap.size,0,none⟩) 2 2]) (by simp[results,Tryz.results110,go_sem,fE,fF,fG,fH,fI]) rfl ?_;have G:=Lq7 (cJ.out.put5 2 rfl (.int .i64 16) (.string aY.text) (.int .i64 aY.line) (.int .i64 aY.col) (.slice (some ⟨eS.heap.size,0,none⟩) 2 2));rw[dZ.out];exact⟨G.out.grown,G.out.ps,_,rfl,A3.mk _ _ _ _ _ (G.out.hand (by simp[]))⟩
 ·(try rw[h1]);have bB:Hid (Dd en L ts dp=PM.bind (Bc en true) (fun t=>PM.bind (pSum en L) fun y=>PM.pure (A1 16 t t.text [.mk aH aJ aM aN aQ,y])) aZ dp):=Lq7 (by rw[aG.out,h1]<;>rfl)
  clear aG;have bZ:=Lq7 (Bp bp true en aZ (dp) fR dA.out.ps (Bb Hr bB));(try unfold ptr at bZ);go_wp2_with fail;refine Ay (dp) bZ Hr bB (Inc.take _) (by omega) (fun hg hf=>⟨rfl,by rw[hf];exact⟨Ae dA.out.grown hg,rfl⟩⟩) ?_;rintro aD eE eF v hm hg aU rfl bC;have eG:=Lq7 (dA.out.call hg aU);(try unfold tokV);clear hm hg aU bZ dA bB;have cM:=Lq7 (eG.out.alloc #[.int .i64 aD.kind,.string aD.text,.int .i64 aD.line,.int .i64 aD.col] 87);clear eG;go_wp2_with fail;generalize eF.alloc _=W126 at cM |-;generalize eF.heap.size=b128 at cM |-;have bA:=Lq7 cM.out.drew;clear cM;go_wp2_with fail;refine A4 (.s 0 (.s 1 (.s 2 (.s 3 (.s 4 (.h 5 (.h 6 (.h 7 (.h 8 .nil))))))))) 8 (fun W'=>W'.heap[b128]? = some (.cells #[.int .i64 aD.kind,.string aD.text,.int .i64 aD.line,.int .i64 aD.col] 87 (0,0))/\W'.heap[b11]? = some (.cells #[.int .i64 aH,.string aJ,.int .i64 aM,.int .i64 aN,.slice a7 aQ.length aE] 49 (0,0))) (⟨bA.out.at (by simp),bA.out.at (by simp)⟩) ?_;refine Aw (tokV aD) rfl rfl (fun W' hS=>?_) ?_
  ·(try unfold tokV);(try unfold ptr);obtain⟨aB,aC⟩:=hS;obtain⟨bD,bE,bF,bG,bH⟩:=Al aB;clear aB;obtain⟨bI,bJ,bL,bM,bN,bO,bP,bQ,bR,bS,aF⟩:=Aa aC;clear aC;go_simp
  refine Aw (.pointer (some ⟨b128,1,none⟩)) rfl rfl (fun W' hS=>?_) ?_
  ·(try unfold tokV);(try unfold ptr);obtain⟨aB,aC⟩:=hS;obtain⟨bD,bE,bF,bG,bH⟩:=Al aB;clear aB;obtain⟨bI,bJ,bL,bM,bN,bO,bP,bQ,bR,bS,aF⟩:=Aa aC;clear aC;go_simp
  refine Aw (.string aD.text) rfl rfl (fun W' hS=>?_) ?_
  ·(try unfold tokV);(try unfold ptr);obtain⟨aB,aC⟩:=hS;obtain⟨bD,bE,bF,bG,bH⟩:=Al aB;clear aB;obtain⟨bI,bJ,bL,bM,bN,bO,bP,bQ,bR,bS,aF⟩:=Aa aC;clear aC;go_simp
  refine Aw (.agg #[.int .i64 aH,.string aJ,.int .i64 aM,.int .i64 aN,.slice a7 aQ.length aE]) rfl rfl (fun W' hS=>?_) ?_
  ·(try unfold tokV);(try unfold ptr);obtain⟨aB,aC⟩:=hS;obtain⟨bD,bE,bF,bG,bH⟩:=Al aB;clear aB;obtain⟨bI,bJ,bL,bM,bN,bO,bP,bQ,bR,bS,aF⟩:=Aa aC;clear aC;go_simp
  refine Aw (ptr bp) rfl rfl (fun W' hS=>?_) ?_
  ·(try unfold tokV);(try unfold ptr);obtain⟨aB,aC⟩:=hS;obtain⟨bD,bE,bF,bG,bH⟩:=Al aB;clear aB;obtain⟨bI,bJ,bL,bM,bN,bO,bP,bQ,bR,bS,aF⟩:=Aa aC;clear aC;go_simp
  refine Ac rfl (fun K130 eH=>?_);(try unfold tokV ptr);go_wp2_with fail;have cB:=Lq7 (Hx.out W126.drew eE (dp) bA.out.ps (by omega) (by omega) (Bb Hr bC));(try unfold ptr at cB);refine Ay (dp) cB Hr bC (hi) (by omega) (fun hg hf=>⟨rfl,by rw[hf];exact⟨Ae bA.out.grown hg,rfl⟩⟩) ?_;rintro fJ ts135 cN v hm hg aU hv dT;obtain⟨cC,cD,cE,cF,cG⟩:=fJ;obtain⟨eI,cH,rfl,aR⟩:=A3.open hv;have Hccap138:=Lq7 (A3.cap hv);have cP:=Lq7 ((bA.out.call hg aU).row aR bA.out.grown.size bA.out.lt);clear hv aR;clear hm hg aU cB bA bC;go_wp2_with fail;refine eH _ _ (fun _=>⟨cP.out.at (by simp),cP.out.at (by simp)⟩) ?_;refine Ac rfl (fun K139 eJ=>?_);(try unfold tokV ptr);go_wp2_with fail;have cQ:=Lq7 (cP.out.lit 49 [[.int .i64 aH,.string aJ,.int .i64 aM,.int .i64 aN,.slice a7 aQ.length aE],[.int .i64 cC,.string cD,.int .i64 cE,.int .i64 cF,.slice eI cG.length cH]] [.mk aH aJ aM aN aQ,.mk cC cD cE cF cG] rfl (by simp) rfl (fun j n c hj hc=>by
   have dY:=(lgS.1 hc).1;simp only[lnC,lnN] at dY;obtain rfl|rfl:j=0\/j=1:=by omega
   ·simp at hj hc;subst hj hc;exact⟨_,_,_,_,_,_,_,rfl,rfl,.inl (by simp)⟩
   ·simp at hj hc;subst hj hc;exact⟨_,_,_,_,_,_,_,rfl,rfl,.inl (by simp)⟩))
  clear cP;refine eJ _ _ (fun _=>⟨cQ.out.at (by simp),cQ.out.at (by simp)⟩) ?_;refine Ac rfl (fun K141 eK=>?_);(try unfold tokV ptr);go_wp2_with fail;have bV:=Lq7 (Bq 16 aD aD.text (some ⟨cN.heap.size,0,none⟩) 2 2 (cN.alloc (.cells #[.int .i64 aH,.string aJ,.int .i64 aM,.int .i64 aN,.slice a7 aQ.length aE,.int .i64 cC,.string cD,.int .i64 cE,.int .i64 cF,.slice eI cG.length cH] 49)));unfold tokV C6 at bV;refine bV.out.mono ?_;rintro e w142 ⟨rfl,hb⟩;have cR:=Lq7 (cQ.out.below hb);clear hb bV cQ;go_wp2_with fail;refine eK _ _ (fun _=>⟨cR.out.at (by simp),cR.out.at (by simp)⟩) ?_;obtain⟨fK,fL,fM,fN,fO,fP,r150,r151,r152,r153,r154⟩:=Aa (cR.out.at (b:=w.heap.size) (cs:=#[.int .i64 0,.string ⟨#[]⟩,.int .i64 0,.int .i64 0,.slice none 0 0]) (T:=49) (by simp));refine Ac rfl (fun K155 eL=>?_);(try unfold tokV ptr);go_wp2_with fail;refine eL _ _ (fun h=>absurd rfl h) ?_;refine Ak ?_;go_wp2_with fail;refine bodyPost_ret (v:=.agg #[.int .i64 16,.string aD.text,.int .i64 aD.line,.int .i64 aD.col,.slice (some ⟨cN.heap.size,0,none⟩) 2 2]) (by simp[results,Tryz.results110,go_sem,fL,fM,fN,fO,fP]) rfl ?_;have G:=Lq7 (cR.out.put5 2 rfl (.int .i64 16) (.string aD.text) (.int .i64 aD.line) (.int .i64 aD.col) (.slice (some ⟨cN.heap.size,0,none⟩) 2 2));rw[dT.out];exact⟨G.out.grown,G.out.ps,_,rfl,A3.mk _ _ _ _ _ (G.out.hand (by simp[]))⟩
theorem sum_any(bp en L)(hi:Inc 0 (pPrim en L))(hx:Eg 201 bp en C7 (pPrim en L)):Eg 155 bp en C7 (pSum en L):=by
 intro w ts dp hp hd0 hd1 hr;have Hr:=Lq7 hr;have Hx:=Lq7 hx;clear hx;have cF:pSum en L ts dp=PM.bind (pPrim en L) (fun x ts d=>pSumGo en L (ts.length+1) x ts d) ts dp:=rfl;have bT:=Lq7 cF;have H0:=Lq7 ((PI.start hp).alloc #[.int .i64 0,.string ⟨#[]⟩,.int .i64 0,.int .i64 0,.slice none 0 0] 49);clear hp hr cF;unfold ptr;go_enter Tryz.func155,Tryz.ntmps155;go_wp2_with fail;have bU:=Lq7 (Hx.out (w.alloc (.cells #[.int .i64 0,.string ⟨#[]⟩,.int .i64 0,.int .i64 0,.slice none 0 0] 49)) ts (dp) H0.out.ps (by omega) (by omega) (Bb Hr bT));(try unfold ptr at bU);refine Ay (dp) bU Hr bT (hi) (by omega) (fun hg hf=>⟨rfl,by rw[hf];exact⟨Ae H0.out.grown hg,rfl⟩⟩) ?_;rintro x6 bV w2 v hm hg aR hv bH;obtain⟨cG,cH,cI,cJ,cM⟩:=x6;obtain⟨a7,bW,rfl,aE⟩:=A3.open hv;have bC:=Lq7 (A3.cap hv);have H3:=Lq7 ((H0.out.call hg aR).row aE H0.out.grown.size H0.out.lt);clear hv aE;clear hm hg aR bU H0 bT;have bN:=Lq7 (H3.out.alloc #[.int .i64 cG,.string cH,.int .i64 cI,.int .i64 cJ,.slice a7 cM.length bW] 49);clear H3;go_wp2_with fail;generalize w2.alloc _=W9 at bN |-;generalize w2.heap.size=b11 at bN |-;have aU:Hid (pSum en L ts dp=pSumGo en L (bV.length+1) (.mk cG cH cI cJ cM) bV dp):=Lq7 (by rw[bH.out]<;>rfl)
 clear bH
 go_loopg [] (bV.length+1) (fun g wr=>∃(k0:Int) (t0:ByteArray) (l0 c0:Int) (aB:List Nd) (a0:Option Addr) (aC:Nat) (aW:List Tok),Hid (pSum en L ts dp=pSumGo en L g (.mk k0 t0 l0 c0 aB) aW dp)/\Hid (PI w bp en aW dp [(b11,#[.int .i64 k0,.string t0,.int .i64 l0,.int .i64 c0,.slice a0 aB.length aC],49),(w.heap.size,#[.int .i64 0,.string ⟨#[]⟩,.int .i64 0,.int .i64 0,.slice none 0 0],49)] [(a0,aB)] wr)/\Hid (k0=6->aB.length<=aC))
 case atStart=>exact⟨_,_,_,_,_,_,_,_,aU,bN,bC⟩
 case round=>
  clear aU bN;obtain⟨k0,t0,l0,c0,aB,a0,aC,aW,bI,bX,Hccap0⟩:=hrel;cases gk with
  | zero=>exact absurd bI.out Hr.out
  | succ g=>
   have bD:=Lq7 (Cx bp 0 ⟨#[43]⟩ en aW (dp) wr (by omega) bX.out.ps);(try unfold ptr at bD);go_wp2_with fail;refine Bj bD (fun hb=>bX.out.below hb) ?_;intro w14 bE;clear bD bX;cases h1:Bf en aW 0 [43]
   ·(try rw[h1]);have bJ:Hid (pSum en L ts dp=PM.pure (.mk k0 t0 l0 c0 aB) aW dp):=Lq7 (by rw[bI.out,pSumGo,Ce,h1]<;>rfl)
    clear bI;clear h1;obtain⟨r17,r18,r19,r20,r21,r22,r23,r24,r25,r26,r27⟩:=Aa (bE.out.at (b:=b11) (cs:=#[.int .i64 k0,.string t0,.int .i64 l0,.int .i64 c0,.slice a0 aB.length aC]) (T:=49) (by simp));obtain⟨r28,r29,r30,r31,r32,r33,r34,r35,r36,r37,r38⟩:=Aa (bE.out.at (b:=w.heap.size) (cs:=#[.int .i64 0,.string ⟨#[]⟩,.int .i64 0,.int .i64 0,.slice none 0 0]) (T:=49) (by simp));go_wp2_with fail;refine bodyPost_ret (v:=.agg #[.int .i64 k0,.string t0,.int .i64 l0,.int .i64 c0,.slice a0 aB.length aC]) (by simp[results,Tryz.results155,go_sem,r29,r30,r31,r32,r33]) rfl ?_;have G:=Lq7 (bE.out.put5 1 rfl (.int .i64 k0) (.string t0) (.int .i64 l0) (.int .i64 c0) (.slice a0 aB.length aC));rw[bJ.out];exact⟨G.out.grown,G.out.ps,_,rfl,A3.mk _ _ _ _ _ (G.out.hand (by simp[]))⟩
   ·(try rw[h1]);have aF:Hid (pSum en L ts dp=PM.bind (Bc en true) (fun t=>PM.bind (pPrim en L) fun y=>pSumGo en L g (A1 16 t (bs [43]) [.mk k0 t0 l0 c0 aB,y])) aW dp):=Lq7 (by rw[bI.out,pSumGo,Ce,h1]<;>rfl)
    clear bI;clear h1;have bF:=Lq7 (Bp bp true en aW (dp) w14 bE.out.ps (Bb Hr aF));(try unfold ptr at bF);go_wp2_with fail;refine Ay (dp) bF Hr aF (Inc.take _) (by omega) (fun hg hf=>⟨rfl,by rw[hf];exact⟨Ae bE.out.grown hg,rfl⟩⟩) ?_;rintro aD bY cN v hm hg aR rfl aG;have cP:=Lq7 (bE.out.call hg aR);(try unfold tokV);clear hm hg aR bF bE aF;have bO:=Lq7 (cP.out.alloc #[.int .i64 aD.kind,.string aD.text,.int .i64 aD.line,.int .i64 aD.col] 87);clear cP;go_wp2_with fail;generalize cN.alloc _=W46 at bO |-;generalize cN.heap.size=b48 at bO |-;have aY:=Lq7 bO.out.drew;clear bO;go_wp2_with fail;refine A4 (.s 0 (.s 1 (.s 2 (.h 3 (.h 4 (.h 5 (.h 6 .nil))))))) 6 (fun W'=>W'.heap[b48]? = some (.cells #[.int .i64 aD.kind,.string aD.text,.int .i64 aD.line,.int .i64 aD.col] 87 (0,0))/\W'.heap[b11]? = some (.cells #[.int .i64 k0,.string t0,.int .i64 l0,.int .i64 c0,.slice a0 aB.length aC] 49 (0,0))) (⟨aY.out.at (by simp),aY.out.at (by simp)⟩) ?_;refine Aw (tokV aD) rfl rfl (fun W' hS=>?_) ?_
    ·(try unfold tokV);(try unfold ptr);obtain⟨aZ,bA⟩:=hS;obtain⟨cQ,cR,cU,cW,cY⟩:=Al aZ;clear aZ;obtain⟨cZ,dA,dB,dC,dD,dE,dF,dG,dH,dI,bL⟩:=Aa bA;clear bA;go_simp
    refine Aw (.agg #[.int .i64 k0,.string t0,.int .i64 l0,.int .i64 c0,.slice a0 aB.length aC]) rfl rfl (fun W' hS=>?_) ?_
    ·(try unfold tokV);(try unfold ptr);obtain⟨aZ,bA⟩:=hS;obtain⟨cQ,cR,cU,cW,cY⟩:=Al aZ;clear aZ;obtain⟨cZ,dA,dB,dC,dD,dE,dF,dG,dH,dI,bL⟩:=Aa bA;clear bA;go_simp
    refine Aw (ptr bp) rfl rfl (fun W' hS=>?_) ?_
    ·(try unfold tokV);(try unfold ptr);obtain⟨aZ,bA⟩:=hS;obtain⟨cQ,cR,cU,cW,cY⟩:=Al aZ;clear aZ;obtain⟨cZ,dA,dB,dC,dD,dE,dF,dG,dH,dI,bL⟩:=Aa bA;clear bA;go_simp
    refine Ac rfl (fun K50 bZ=>?_);(try unfold tokV ptr);go_wp2_with fail;have bG:=Lq7 (Hx.out W46.drew bY (dp) aY.out.ps (by omega) (by omega) (Bb Hr aG));(try unfold ptr at bG);refine Ay (dp) bG Hr aG (hi) (by omega) (fun hg hf=>⟨rfl,by rw[hf];exact⟨Ae aY.out.grown hg,rfl⟩⟩) ?_;rintro x56 ts55 bP v hm hg aR hv bM;obtain⟨aH,aJ,aM,aN,aQ⟩:=x56;obtain⟨a57,bB,rfl,aE⟩:=A3.open hv;have Hccap58:=Lq7 (A3.cap hv);have bQ:=Lq7 ((aY.out.call hg aR).row aE aY.out.grown.size aY.out.lt);clear hv aE;clear hm hg aR bG aY aG;go_wp2_with fail;refine bZ _ _ (fun _=>⟨bQ.out.at (by simp),bQ.out.at (by simp)⟩) ?_;refine Ac rfl (fun K59 cB=>?_);(try unfold tokV ptr);go_wp2_with fail;have bR:=Lq7 (bQ.out.lit 49 [[.int .i64 k0,.string t0,.int .i64 l0,.int .i64 c0,.slice a0 aB.length aC],[.int .i64 aH,.string aJ,.int .i64 aM,.int .i64 aN,.slice a57 aQ.length bB]] [.mk k0 t0 l0 c0 aB,.mk aH aJ aM aN aQ] rfl (by simp) rfl (fun j n c hj hc=>by
     have hjl:=(lgS.1 hc).1;simp only[lnC,lnN] at hjl;obtain rfl|rfl:j=0\/j=1:=by omega
     ·simp at hj hc;subst hj hc;exact⟨_,_,_,_,_,_,_,rfl,rfl,.inl (by simp)⟩
     ·simp at hj hc;subst hj hc;exact⟨_,_,_,_,_,_,_,rfl,rfl,.inl (by simp)⟩))
    clear bQ;refine cB _ _ (fun _=>⟨bR.out.at (by simp),bR.out.at (by simp)⟩) ?_;refine Ac rfl (fun K61 cC=>?_);(try unfold tokV ptr);go_wp2_with fail;have cD:=Lq7 (Bq 16 aD ⟨#[43]⟩ (some ⟨bP.heap.size,0,none⟩) 2 2 (bP.alloc (.cells #[.int .i64 k0,.string t0,.int .i64 l0,.int .i64 c0,.slice a0 aB.length aC,.int .i64 aH,.string aJ,.int .i64 aM,.int .i64 aN,.slice a57 aQ.length bB] 49)));unfold tokV C6 at cD;refine cD.out.mono ?_;rintro e w62 ⟨rfl,hb⟩;have bS:=Lq7 (bR.out.below hb);clear hb cD bR;go_wp2_with fail;refine cC _ _ (fun _=>⟨bS.out.at (by simp),bS.out.at (by simp)⟩) ?_;obtain⟨r64,r65,r66,r67,r68,r69,r70,r71,r72,r73,r74⟩:=Aa (bS.out.at (b:=b11) (cs:=#[.int .i64 k0,.string t0,.int .i64 l0,.int .i64 c0,.slice a0 aB.length aC]) (T:=49) (by simp));refine Ac rfl (fun K75 cE=>?_);(try unfold tokV ptr);go_wp2_with fail;refine cE _ _ (fun h=>absurd rfl h) ?_;refine Ak ?_;go_wp2_with fail
    go_roundg g
    case measure=>omega
    case rel=>exact⟨_,_,_,_,_,_,_,_,bM,Lq7 ((bS.out.put5 1 rfl (.int .i64 16) (.string ⟨#[43]⟩) (.int .i64 aD.line) (.int .i64 aD.col) (.slice (some ⟨bP.heap.size,0,none⟩) 2 2)).less (r2:=[((some ⟨bP.heap.size,0,none⟩),[.mk k0 t0 l0 c0 aB,.mk aH aJ aM aN aQ])]) (List.sublist_cons_self _ _) (by simp)),Lq7 (fun h=>absurd h (by decide))⟩
theorem N6{α f bp en}{val:Nat->α->World->Value->Prop}:Eg f bp en val (fun _ _=>(.out:PR α)):=fun _ _ _ _ _ _ h=>absurd rfl h
theorem R5(bp en):∀n,Eg 110 bp en C7 (lvl en n).expr/\Eg 201 bp en C7 (lvl en n).prim/\Eg 64 bp en C7 (lvl en n).stmt
 | 0=>⟨N6,N6,N6⟩
 | n+1=>by
  obtain⟨h1,h2,h3⟩:=R5 bp en n;have hL:=I5.lvl en n;have harg:=arg_any bp en (lvl en n) hL h1;have hcall:=call_any bp en (lvl en n) hL harg;have hentry:=Wc bp en (lvl en n) hL h1;have hprim:=prim_any bp en (lvl en n) hL h1 h2 hcall hentry;have hsum:=sum_any bp en (lvl en n) (Inc.prim hL) hprim;have hexpr:=expr_any bp en (lvl en n) (Inc.sum hL) hsum;have hblock:=V1 bp en (lvl en n) hL h3;have hparam:=Wf bp en (lvl en n) hL hexpr;have hrule:=rule_any bp en (lvl en n) hL hparam hblock;have hstmt:=stmt_any bp en (lvl en n) hL hexpr hblock hrule hcall;exact⟨hexpr,hprim,hstmt⟩
theorem tokensL_few:∀(f:Nat) (p:Int×Int) (l:List UInt8) (ts:List Tok),Cg f p l = .ok ts->ts.length<=f
 | 0,_,_,ts,h=>by cases h;simp
 | f+1,p,l,ts,h=>by
  rw[Cg] at h;split at h
  ·cases h;simp
  ·split at h
   ·cases h
   ·split at h
    ·cases h
    ·rename_i ts' h'
     have:=tokensL_few f _ _ _ h';cases h;split
     ·simp;exact this
     ·omega
theorem lexL_few{l ts}(h:I4 l = .ok ts):ts.length<=65537:=by
 unfold I4 at h;split at h
 ·cases h
 ·have:=tokensL_few _ _ _ _ h;omega
def Ek(p:Int×Int)(c:UInt8):Int×Int:=if c=10 then(p.1+1,1) else(p.1,p.2+1)
theorem endL_eq(l):Mu l=l.foldl Ek (1,1):=rfl
theorem Wg(l:List UInt8):∀p:Int×Int,0<=p.1->0<=p.2->0<=(l.foldl Ek p).1/\0<=(l.foldl Ek p).2/\(l.foldl Ek p).1<=p.1+l.length/\(l.foldl Ek p).2<=p.2+1+l.length:=by
 induction l with
 | nil=>intro p h1 h2;exact⟨h1,h2,by simp,by simp;omega⟩
 | cons c t ih=>
  intro p h1 h2;rw[List.foldl_cons];by_cases hc:c=10
  ·rw[show Ek p c=(p.1+1,1) from if_pos hc];obtain⟨a,b,d,e⟩:=ih (p.1+1,1) (by simp;omega) (by simp);refine⟨a,b,by simp at d |-;omega,by simp at e |-;omega⟩
  ·rw[show Ek p c=(p.1,p.2+1) from if_neg hc];obtain⟨a,b,d,e⟩:=ih (p.1,p.2+1) h1 (by simp;omega);refine⟨a,b,by simp at d |-;omega,by simp at e |-;omega⟩
def PEnd(p:Int×Int)(w:World)(e:Ending)(w':World):Prop:=e = .returned (.agg #[.int .i64 p.1,.int .i64 p.2])/\Below w.heap.size w w'
theorem end_any(s w)(hs:s.size<=65536):Calls Tryz.prog 36 #[.string s] w (PEnd (Mu s.data.toList) w):=by
 go_enter Tryz.func36,Tryz.ntmps36;go_wp2
 go_loopw [8] (fun i wr=>∃(k:Nat) (p:Int×Int),k<=s.size/\i = .int .i64 k/\Hid (p=(s.data.toList.take k).foldl Ek (1,1))/\wr=(w.alloc (.cells #[.int .i64 0,.int .i64 0] 28)).alloc (.cells #[.int .i64 p.1,.int .i64 p.2] 28)) (fun i _=>s.size-(intOf i).toNat)
 case atStart=>exact⟨0,(1,1),Nat.zero_le _,rfl,Lq7 rfl,rfl⟩
 case round=>
  obtain⟨k,p,hk,rfl,hp,rfl⟩:=hrel;have hl:(s.data.toList.take k).length<=k:=List.length_take_le _ _;obtain⟨b1,b2,b3,b4⟩:=Wg (s.data.toList.take k) (1,1) (by simp) (by simp);rw[<-hp.out] at b1 b2 b3 b4;simp only at b3 b4;by_cases hlt:k<s.size
  ·have aE:Hid ((s.data.toList.take (k+1)).foldl Ek (1,1)=Ek p s[k]):=Lq7 (by
    rw[List.take_succ_eq_append_getElem (by rw[Ax];exact hlt),List.foldl_append,<-hp.out];rfl)
   cases hc:(((s[k]:UInt8).toNat:Int)==10)
   ·have aB:(s[k]:UInt8)≠10:=(by intro e;rw[e] at hc;cases hc);have aC:Hid (Ek p s[k]=(p.1,p.2+1)):=Lq7 (by unfold Ek;rw[if_neg aB]);clear aB;go_wp2;go_roundw
    case rel=>exact⟨k+1,(p.1,p.2+1),by omega,by go_num,Lq7 (by rw[aE.out,aC.out]),rfl⟩
    case measure=>simp[intOf];omega
   ·have aB:(s[k]:UInt8)=10:=by
     have:((s[k]:UInt8).toNat:Int)=10:=(by simpa using hc);exact UInt8.toNat_inj.1 (by show _=10;omega)
    have aC:Hid (Ek p s[k]=(p.1+1,1)):=Lq7 (by unfold Ek;rw[if_pos aB]);clear aB;go_wp2;go_roundw
    case rel=>exact⟨k+1,(p.1+1,1),by omega,by go_num,Lq7 (by rw[aE.out,aC.out]),rfl⟩
    case measure=>simp[intOf];omega
  ·have aD:Hid (Mu s.data.toList=p):=Lq7 (by rw[endL_eq,hp.out,List.take_of_length_le (by rw[Ax];omega)]);go_wp2;refine bodyPost_ret (v:=.agg #[.int .i64 p.1,.int .i64 p.2]) (by simp[results,Tryz.results36,go_sem]) rfl ?_;rw[aD.out];exact⟨rfl,((bRf _ w).alloc (nlr _) _).alloc (by simp) _⟩
def PRead(s:ByteArray)(w:World)(e:Ending)(w':World):Prop:=
 Below w.heap.size w w'/\match readL s.data.toList with
  | some (.ok n)=>∃v,e = .returned (.tuple #[v,.int .i64 0,.agg #[.int .i64 0,.int .i64 0]])/\A3 (fun b=>w.heap.size<=b) w' n v
  | some (.error x)=>e = .returned (.tuple #[.agg zeroNode,.int .i64 x.1,.agg #[.int .i64 x.2.1,.int .i64 x.2.2]])
  | none=>True
structure RdB(w W:World)(n:Array Value)(e l c:Int):Prop where
 below:Below w.heap.size w W
 a:W.heap[w.heap.size]? = some (.cells n 49 (0,0))
 b:W.heap[w.heap.size+1]? = some (.cells #[.int .i64 e] 26 (0,0))
 c:W.heap[w.heap.size+1+1]? = some (.cells #[.int .i64 l,.int .i64 c] 28 (0,0))
section
variable {w W W':World} {n:Array Value} {e l c:Int}
theorem RdB.later(h:RdB w W n e l c)(hb:Below W.heap.size W W'):RdB w W' n e l c:=
 ⟨h.below.trans (hb.mono h.below.size),(hb.block _ (agS.1 h.a).1).trans h.a,(hb.block _ (agS.1 h.b).1).trans h.b,(hb.block _ (agS.1 h.c).1).trans h.c⟩
theorem RdB.setB(h:RdB w W n e l c)(x:Int):RdB w (W.setCell ⟨w.heap.size+1,0,none⟩ (.int .i64 x)) n x l c:=
 ⟨h.below.setCell (p:=⟨w.heap.size+1,0,none⟩) (by simp) _,(Ad (by omega) 0 _).trans h.a,by rw[Ag h.b 0];rfl,(Ad (by omega) 0 _).trans h.c⟩
theorem RdB.setC(h:RdB w W n e l c)(x y:Int):RdB w ((W.setCell ⟨w.heap.size+1+1,0,none⟩ (.int .i64 x)).setCell ⟨w.heap.size+1+1,1,none⟩ (.int .i64 y)) n e x y:=
 ⟨(h.below.setCell (p:=⟨w.heap.size+1+1,0,none⟩) (by simp;omega) _).setCell (p:=⟨w.heap.size+1+1,1,none⟩) (by simp;omega) _,((Ad (by omega) 1 _).trans (Ad (by omega) 0 _)).trans h.a,((Ad (by omega) 1 _).trans (Ad (by omega) 0 _)).trans h.b,
  by rw[Ag (Ag h.c 0 (.int .i64 x)) 1];rfl⟩
theorem RdB.setA{x0 x1 x2 x3 x4:Value}(h:RdB w W #[x0,x1,x2,x3,x4] e l c)(v0 v1 v2 v3 v4:Value):
  RdB w (((((W.setCell ⟨w.heap.size,0,none⟩ v0).setCell ⟨w.heap.size,1,none⟩ v1).setCell ⟨w.heap.size,2,none⟩ v2).setCell ⟨w.heap.size,3,none⟩ v3).setCell ⟨w.heap.size,4,none⟩ v4) #[v0,v1,v2,v3,v4] e l c:=by
 have hs:∀k,k≠w.heap.size->(((((W.setCell ⟨w.heap.size,0,none⟩ v0).setCell ⟨w.heap.size,1,none⟩ v1).setCell ⟨w.heap.size,2,none⟩ v2).setCell ⟨w.heap.size,3,none⟩ v3).setCell ⟨w.heap.size,4,none⟩ v4).heap[k]? = W.heap[k]?:=fun k hk=>by
  rw[Ad hk,Ad hk,Ad hk,Ad hk,Ad hk]
 refine⟨((((h.below.setCell (p:=⟨w.heap.size,0,none⟩) (nlr _) _).setCell (p:=⟨w.heap.size,1,none⟩) (nlr _) _).setCell (p:=⟨w.heap.size,2,none⟩) (nlr _) _).setCell (p:=⟨w.heap.size,3,none⟩) (nlr _) _).setCell (p:=⟨w.heap.size,4,none⟩) (nlr _) _,?_,(hs _ (by omega)).trans h.b,(hs _ (by omega)).trans h.c⟩;rw[Ag (Ag (Ag (Ag (Ag h.a 0 v0) 1 v1) 2 v2) 3 v3) 4 v4];rfl
end
theorem Pq(w):RdB w (((w.alloc (.cells #[.int .i64 0,.string ⟨#[]⟩,.int .i64 0,.int .i64 0,.slice none 0 0] 49)).alloc (.cells #[.int .i64 0] 26)).alloc (.cells #[.int .i64 0,.int .i64 0] 28)) #[.int .i64 0,.string ⟨#[]⟩,.int .i64 0,.int .i64 0,.slice none 0 0] 0 0 0:=by
 refine⟨(((bRf _ w).alloc (nlr _) _).alloc (by simp) _).alloc (by simp;omega) _,?_,?_,?_⟩
 ·rw[Below.heap_alloc _ _ _ (by simp;omega),Below.heap_alloc _ _ _ (by simp)];exact heap_alloc_new w _
 ·rw[Below.heap_alloc _ _ _ (by simp)];have:=heap_alloc_new (w.alloc (.cells #[.int .i64 0,.string ⟨#[]⟩,.int .i64 0,.int .i64 0,.slice none 0 0] 49)) (.cells #[.int .i64 0] 26)
  simpa using this
 ·have:=heap_alloc_new ((w.alloc (.cells #[.int .i64 0,.string ⟨#[]⟩,.int .i64 0,.int .i64 0,.slice none 0 0] 49)).alloc (.cells #[.int .i64 0] 26)) (.cells #[.int .i64 0,.int .i64 0] 28)
  simpa using this
theorem Df{w:World}{b:Nat}{x t}(h:w.heap[b]? = some (.cells #[x] t (0,0))):w.cell? ⟨b,0,none⟩=some x/\w.frozen? ⟨b,0,none⟩=false:=by
 obtain⟨h1,h2,h3⟩:=A5 h;exact⟨h2 0,h3 0⟩
theorem Ba{W:World}{b k:Nat}(hk:k≠b)(v0 v1 v2 v3 v4):(((((W.setCell ⟨b,0,none⟩ v0).setCell ⟨b,1,none⟩ v1).setCell ⟨b,2,none⟩ v2).setCell ⟨b,3,none⟩ v3).setCell ⟨b,4,none⟩ v4).heap[k]? = W.heap[k]?:=by
 rw[Ad hk,Ad hk,Ad hk,Ad hk,Ad hk]
theorem Tq(W):(Instr.typeAssert .nilIface 20 80 true).run Tryz.prog W = .ok (.tuple #[.agg #[.int .i64 0,.int .i64 0,.int .i64 0],.bool false]) W:=by kernel_rfl
theorem Qm(W v):(Instr.typeAssert (.iface 80 v) 20 80 true).run Tryz.prog W = .ok (.tuple #[v,.bool true]) W:=by kernel_rfl
theorem R6(w W n e l c)(h:RdB w W n e l c):
  CallsD Tryz.prog 35 #[.pointer (some ⟨w.heap.size,0,none⟩),.pointer (some ⟨w.heap.size+1,0,none⟩),.pointer (some ⟨w.heap.size+1+1,0,none⟩)] .returning W
   (fun e' u' w'=>e' = .returned (.tuple #[])/\u' = .returning/\RdB w w' n e l c/\Below W.heap.size W w'):=by
 have H:=Lq7 h;have hta:=Tq;refine callsD_of_wpS Tryz.func35 rfl fun c₀ cs hu=>?_;apply wpS_seq;apply wpS_region;simp[wpOpsS,go_sem,recoverD,hu,Tryz.ntmps35,Exit.thenS];refine wpS_of_wp ?_;simp only[Array.replicate_succ,Array.replicate_zero,List.push_toArray,List.append_toArray,List.nil_append,List.cons_append,laA,lsA,lsB];go_wp2_with fail;refine⟨rfl,_,by cases c₀;simp_all,_,results_none rfl _ _ _,rfl,rfl,H.out.later ((bRf _ W).alloc (nlr _) _),(bRf _ W).alloc (nlr _) _⟩
theorem Qn(w W x0 x1 x2 x3 x4 e l c ex lx cx)(h:RdB w W #[x0,x1,x2,x3,x4] e l c):
  CallsD Tryz.prog 35 #[.pointer (some ⟨w.heap.size,0,none⟩),.pointer (some ⟨w.heap.size+1,0,none⟩),.pointer (some ⟨w.heap.size+1+1,0,none⟩)] (.panicking [{ v:=L0 ex lx cx,recovered:=false}]) W
   (fun e' u' w'=>e' = .returned (.tuple #[])/\u' = .panicking [{ v:=L0 ex lx cx,recovered:=true}]/\RdB w w' zeroNode ex lx cx):=by
 have H:=Lq7 h;have hta:=Qm;unfold L0;refine callsD_of_wpS Tryz.func35 rfl fun c₀ cs hu=>?_;apply wpS_seq;apply wpS_region;simp[wpOpsS,go_sem,recoverD,hu,Tryz.ntmps35,Exit.thenS];refine wpS_of_wp ?_;simp only[Array.replicate_succ,Array.replicate_zero,List.push_toArray,List.append_toArray,List.nil_append,List.cons_append,laA,lsA,lsB];go_wp2_with fail;have H1:=Lq7 (H.out.later ((bRf _ W).alloc (nlr _) (.cells #[.int .i64 ex,.int .i64 lx,.int .i64 cx] 80)));have aE:=heap_alloc_new W (.cells #[.int .i64 ex,.int .i64 lx,.int .i64 cx] 80);have hsz:w.heap.size+3<=W.heap.size:=by
  have:=(agS.1 H.out.c).1;omega
 generalize hW:W.alloc (.cells #[.int .i64 ex,.int .i64 lx,.int .i64 cx] 80)=W1 at H1 aE |-;generalize hwq:W.heap.size=wb at aE hsz |-;have aH:=Lq7 aE;refine A4 (.s 0 (.s 1 (.s 2 (.s 3 (.s 4 (.h 5 (.h 6 (.h 7 .nil)))))))) 99 (fun W'=>W'.heap[wb]? = some (.cells #[.int .i64 ex,.int .i64 lx,.int .i64 cx] 80 (0,0))) aH.out ?_;have aF:=Lq7 (H1.out.later ((bRf _ W1).drew));have aD:Hid (W1.drew.heap[wb]? = some (.cells #[.int .i64 ex,.int .i64 lx,.int .i64 cx] 80 (0,0))):=Lq7 aH.out;generalize W1.drew=Wd at aF aD |-;refine Aj (.agg #[.int .i64 0,.string ⟨#[]⟩,.int .i64 0,.int .i64 0,.slice none 0 0]) ?_;refine Aj (.pointer (some ⟨wb,0,none⟩)) ?_;refine Ap (.int .i64 ex) ?_;refine Aj (.pointer (some ⟨wb,1,none⟩)) ?_;refine Ap (.agg #[.int .i64 lx,.int .i64 cx]) ?_;obtain⟨r0,r1,r2,r3,r4,r5,r6,r7,r8,r9,r10⟩:=Aa aF.out.a;refine Ac rfl (fun Kx hKx=>?_);go_wp2_with fail;have H2:=Lq7 (aF.out.setA (.int .i64 0) (.string ⟨#[]⟩) (.int .i64 0) (.int .i64 0) (.slice none 0 0));have aB:=Lq7 ((Ba (W:=Wd) (b:=w.heap.size) (k:=wb) (by omega) (.int .i64 0) (.string ⟨#[]⟩) (.int .i64 0) (.int .i64 0) (.slice none 0 0)).trans aD.out);refine hKx _ _ (fun _=>aB.out) ?_;generalize wsC _ _ _=W2 at H2 aB |-;(try simp only[gX,aP]);obtain⟨b0,b1⟩:=Df H2.out.b;refine Ac rfl (fun Ky hKy=>?_);go_wp2_with fail;have H3:=Lq7 (H2.out.setB ex);have aC:=Lq7 ((Ad (w:=W2) (b:=w.heap.size+1) (k:=wb) (by omega) 0 (.int .i64 ex)).trans aB.out);refine hKy _ _ (fun _=>aC.out) ?_;generalize wsC _ _ _=W3 at H3 aC |-;(try simp only[gX,aP]);obtain⟨c0,c1,c2,c3,c4⟩:=Av H3.out.c;refine Ac rfl (fun Kz hKz=>?_);go_wp2_with fail;have H4:=Lq7 (H3.out.setC lx cx);have aG:=Lq7 (((Ad (w:=W3.setCell ⟨w.heap.size+1+1,0,none⟩ (.int .i64 lx)) (b:=w.heap.size+1+1) (k:=wb) (by omega) 1 (.int .i64 cx)).trans (Ad (by omega) 0 (.int .i64 lx))).trans aC.out);refine hKz _ _ (fun _=>aG.out) ?_;refine Ak ?_;refine⟨rfl,_,rfl,_,results_none rfl _ _ _,rfl,rfl,H4.out⟩
theorem To{l e}(h:C1 l = .error e):e=2\/e=3:=by
 unfold C1 at h;split at h
 ·cases h;exact .inr rfl
 ·split at h
  ·cases h
  ·split at h
   ·cases h
   ·split at h
    ·cases h
    ·split at h
     ·unfold Dn at h;split at h
      ·cases h;exact .inr rfl
      ·split at h
       ·cases h;exact .inl rfl
       ·cases h
     ·split at h
      ·split at h
       ·cases h
       ·cases h;exact .inr rfl
      ·split at h
       ·cases h
       ·split at h
        ·cases h
        ·cases h;exact .inr rfl
theorem tokensL_err:∀(f:Nat) (p:Int×Int) (l:List UInt8) (x:Int×Int×Int),Cg f p l = .error x->x.1=2\/x.1=3
 | 0,_,_,x,h=>by cases h
 | f+1,p,l,x,h=>by
  rw[Cg] at h;split at h
  ·cases h
  ·split at h
   ·rename_i e he
    cases h;exact To he
   ·split at h
    ·rename_i e he
     cases h;exact tokensL_err f _ _ _ he
    ·cases h
theorem lexL_err{l x}(h:I4 l = .error x):x.1=2\/x.1=3\/x.1=6:=by
 unfold I4 at h;split at h
 ·cases h;exact .inr (.inr rfl)
 ·rcases tokensL_err _ _ _ _ h with h|h
  ·exact .inl h
  ·exact .inr (.inl h)
theorem Tp{l ts}(h:I4 l = .ok ts):l.length<=65536:=by
 unfold I4 at h;split at h
 ·cases h
 ·omega
theorem readSame(d)(hd:5<=d)(tmps v w):(results Tryz.f18 (tmps.setIfInBounds d v)).run Tryz.prog w=(results Tryz.f18 tmps).run Tryz.prog w:=by
 have h:∀k,k<5->(tmps.setIfInBounds d v).getD k undef=tmps.getD k undef:=fun k hk=>by
  rw[Array.getD_eq_getD_getElem?,Array.getD_eq_getD_getElem?,Array.getElem?_setIfInBounds_ne (by omega)]
 simp only[results,Tryz.results18,List.mapM_toArray,List.mapM_cons,List.mapM_nil,h 2 (by omega),h 3 (by omega),h 4 (by omega)]
theorem readQ{ops:Array Oper}{R:Ending->World->Prop}{Q:Exit->Act->World->Prop}(hq:∀c a w,Q (.panic c) a w=bodyPostD Tryz.prog Tryz.f18 R (.panic c) a w)(hops:(ops.toList.all fun o=>match o.dst with|none=>true|some d=>decide (5<=d))=true):
  ∀(i:Nat) (o:Oper),ops[i]? = some o->∀c a v w,Q (.panic c) (a.put o.dst v) w->Q (.panic c) a w:=by
 intro i o ho c a v w h;rw[hq] at h |-;have hd:=List.all_eq_true.1 hops o (List.mem_of_getElem? (by rw[Array.getElem?_toList];exact ho));cases hdst:o.dst with
 | none=>rw[hdst] at h;exact h
 | some d=>
  rw[hdst] at h hd;have hd5:5<=d:=(by simpa using hd);exact Ji (fun w=>readSame d hd5 a.tmps v w) a.defers _ _ h
theorem read_lex(s w)(hs:s.size<=9223372036854775807)(hw:Ka w)(x)(hl:I4 s.data.toList = .error x):
  Calls Tryz.prog 18 #[.string s] w (PRead s w):=by
 have aC:=Pq w;have aB:=Lq7 (Ui s _ hs (hw.below aC.below));have H0:=Lq7 aC;have hx:=lexL_err hl;have hx0:(x.1==0)=false:=(by rw[beq_eq_false_iff_ne];omega);have hx1:(x.1 != 0)=true:=(by rw[bne,hx0];rfl);have Hr:Hid (readL s.data.toList=some (.error x)):=Lq7 (by unfold readL;rw[hl]);have Hl:=Lq7 hl
 go_enter_defers Tryz.func18,Tryz.ntmps18
 go_wp2_with fail;refine aB.out.mono ?_;rintro e w1 ⟨hb1,hq⟩;rw[Hl.out] at hq;obtain rfl:=hq;have H1:=Lq7 (H0.out.later hb1);obtain⟨b0,b1⟩:=Df H1.out.b;obtain⟨c0,c1,c2,c3,c4⟩:=Av H1.out.c;have hbl:w.heap.size+1<w1.heap.size:=(agS.1 H1.out.b).1
 go_upto_region 2 with fail
 have H2:=Lq7 ((H1.out.setB x.1).setC x.2.1 x.2.2);generalize wsC _ _ _=W2 at H2 |-;obtain⟨b0,b1⟩:=Df H2.out.b;go_wp2_with fail;refine Ij (.s 0 (.s 1 (.s 2 (.h 3 (.h 4 (.h 5 .nil)))))) 99 (fun W'=>W'.heap[w.heap.size]? = some (.cells #[.int .i64 0,.string ⟨#[]⟩,.int .i64 0,.int .i64 0,.slice none 0 0] 49 (0,0))/\W'.heap[w.heap.size+1]? = some (.cells #[.int .i64 x.1] 26 (0,0))/\W'.heap[w.heap.size+1+1]? = some (.cells #[.int .i64 x.2.1,.int .i64 x.2.2] 28 (0,0))) (by kernel_rfl) (by kernel_rfl) (readQ (fun _ _ _=>rfl) (by kernel_rfl)) ⟨H2.out.a,H2.out.b,H2.out.c⟩ ?_;have H3:=Lq7 (H2.out.later ((bRf _ W2).drew));generalize W2.drew=W3 at H3 |-;refine A9 (.agg #[.int .i64 0,.string ⟨#[]⟩,.int .i64 0,.int .i64 0,.slice none 0 0]) (fun W' hS=>?_) ?_
 ·obtain⟨s0,s1,s2,s3,s4,s5,s6,s7,s8,s9,s10⟩:=Aa hS.1;go_simp
 refine A9 (.int .i64 x.1) (fun W' hS=>?_) ?_
 ·obtain⟨s0,s1⟩:=Df hS.2.1;go_simp
 refine A9 (.agg #[.int .i64 x.2.1,.int .i64 x.2.2]) (fun W' hS=>?_) ?_
 ·obtain⟨s0,s1,s2,s3,s4⟩:=Av hS.2.2;go_simp
 obtain⟨r0,r1,r2,r3,r4,r5,r6,r7,r8,r9,r10⟩:=Aa H3.out.a;refine Ac rfl (fun Kx hKx=>?_);go_wp2_with fail;have H4:=Lq7 (H3.out.setA (.int .i64 0) (.string ⟨#[]⟩) (.int .i64 0) (.int .i64 0) (.slice none 0 0));refine hKx _ _ (fun _=>⟨H4.out.a,H4.out.b,H4.out.c⟩) ?_;generalize wsC _ _ _=W4 at H4 |-;(try simp only[gX,aP]);obtain⟨b0,b1⟩:=Df H4.out.b;refine Ac rfl (fun Ky hKy=>?_);go_wp2_with fail;have H5:=Lq7 (H4.out.setB x.1);refine hKy _ _ (fun _=>⟨H5.out.a,H5.out.b,H5.out.c⟩) ?_;generalize wsC _ _ _=W5 at H5 |-;(try simp only[gX,aP]);obtain⟨c0,c1,c2,c3,c4⟩:=Av H5.out.c;refine Ac rfl (fun Kz hKz=>?_);go_wp2_with fail;have H6:=Lq7 (H5.out.setC x.2.1 x.2.2);refine hKz _ _ (fun _=>⟨H6.out.a,H6.out.b,H6.out.c⟩) ?_;generalize wsC _ _ _=W6 at H6 |-;refine Ak ?_;(try simp only[gX,aP]);go_wp2_with fail;obtain⟨r0,r1,r2,r3,r4,r5,r6,r7,r8,r9,r10⟩:=Aa H6.out.a;obtain⟨b0,b1⟩:=Df H6.out.b;obtain⟨c0,c1,c2,c3,c4⟩:=Av H6.out.c;refine⟨.tuple #[.agg zeroNode,.int .i64 x.1,.agg #[.int .i64 x.2.1,.int .i64 x.2.2]],by simp[zeroNode,results,Tryz.results18,go_sem,r1,r2,r3,r4,r5,b0,c1,c2],?_⟩;refine⟨H6.out.below,?_⟩;rw[Hr.out]
theorem RdB.call{w W W' n e l c bp}(h:RdB w W n e l c)(hg:W.grownBy W' (some bp))(hb:w.heap.size+3<=bp):RdB w W' n e l c:=by
 have hs:=(agS.1 h.c).1;have hk:∀k,k<w.heap.size+3->W'.heap[k]? = W.heap[k]?:=fun k hk=>hg.block k (by omega) (fun e=>by cases e;omega);exact⟨⟨hg.os.trans h.below.os,hg.tape.trans h.below.tape,hg.output.trans h.below.output,Nat.le_trans h.below.size hg.size,fun k hl=>(hk k (by omega)).trans (h.below.block k hl)⟩,(hk _ (by omega)).trans h.a,(hk _ (by omega)).trans h.b,(hk _ (by omega)).trans h.c⟩
theorem read_ok(s w)(hs:s.size<=9223372036854775807)(hw:Ka w)(ts)(hl:I4 s.data.toList = .ok ts)(hne:readL s.data.toList≠none):
  Calls Tryz.prog 18 #[.string s] w (PRead s w):=by
 have hmf:∀(fn:Fn) (first cap:Array Value) (w:World),(Instr.makeFunc fn first cap).run Tryz.prog w = .ok (.func fn first cap) w:=fun _ _ _ _=>rfl;have bM:=Pq w;have bF:=Lq7 (Ui s _ hs (hw.below bM.below));have H0:=Lq7 bM;have aB:=Tp hl;have hfew:=lexL_few hl;rw[Ax] at aB;have Hl:=Lq7 hl;have bG:Hid (Du (Mu s.data.toList) (lvl (Mu s.data.toList) (ts.length+2)) [] ts 0 ≠ .out):=Lq7 (fun h=>hne (by unfold readL;rw[hl];simp only[h]))
 go_enter_defers Tryz.func18,Tryz.ntmps18
 go_wp2_with fail;refine bF.out.mono ?_;rintro e w1 ⟨hb1,hq⟩;rw[Hl.out] at hq;obtain⟨a,cap,rfl,hcap,aH⟩:=hq;have H1:=Lq7 (H0.out.later hb1);have aU:=Lq7 hcap;have bH:=Lq7 aH;obtain⟨b0,b1⟩:=Df H1.out.b;obtain⟨c0,c1,c2,c3,c4⟩:=Av H1.out.c;have hbl:w.heap.size+1<w1.heap.size:=(agS.1 H1.out.b).1
 go_upto_region 2 with fail
 have H2:=Lq7 ((H1.out.setB 0).setC 0 0);have aD:Hid (Af (fun b=>w.heap.size+3<=b) (((w1.setCell ⟨w.heap.size+1,0,none⟩ (.int .i64 0)).setCell ⟨w.heap.size+1+1,0,none⟩ (.int .i64 0)).setCell ⟨w.heap.size+1+1,1,none⟩ (.int .i64 0)) a (ts.map Lt)):=Lq7 (bH.out.mono fun b hb hl=>by
  have hb':w.heap.size+3<=b:=(by simpa using hb);exact⟨hb',by simpa using hl,by rw[Ad (by omega),Ad (by omega),Ad (by omega)]⟩)
 generalize wsC _ _ _=W2 at H2 aD |-;obtain⟨b0,b1⟩:=Df H2.out.b;have bI:=Lq7 (end_any s W2 aB);go_wp2_with fail;refine bI.out.mono ?_;rintro e W3 ⟨rfl,bN⟩;have H3:=Lq7 (H2.out.later bN);have aW:=Lq7 (aD.out.below bN);generalize hen:Mu s.data.toList=en at bG |-;have bO:=Lq7 hen;have aY:w.heap.size+3<=W3.heap.size:=by
  have:=(agS.1 H3.out.c).1;omega
 go_upto_region 7 with fail
 have bP:Below W3.heap.size W3 ((W3.alloc (.cells #[.slice a ts.length cap,.int .i64 en.1,.int .i64 en.2,.int .i64 0] 85)).alloc (.cells #[.int .i64 0,.string ⟨#[]⟩,.int .i64 1,.int .i64 1] 87)):=((bRf _ W3).alloc (nlr _) _).alloc (by simp) _;have H4:=Lq7 (H3.out.later bP);have bJ:Hid (PS ((W3.alloc (.cells #[.slice a ts.length cap,.int .i64 en.1,.int .i64 en.2,.int .i64 0] 85)).alloc (.cells #[.int .i64 0,.string ⟨#[]⟩,.int .i64 1,.int .i64 1] 87)) W3.heap.size en ts 0):=Lq7
  ⟨a,cap,by rw[Below.heap_alloc _ _ _ (by simp)];exact heap_alloc_new W3 _,⟨aU.out.1,by omega⟩,aU.out.2,(aW.out.here.below bP).wider (fun b hb _=>hb.2)⟩
 have bE:Hid (((W3.alloc (.cells #[.slice a ts.length cap,.int .i64 en.1,.int .i64 en.2,.int .i64 0] 85)).alloc (.cells #[.int .i64 0,.string ⟨#[]⟩,.int .i64 1,.int .i64 1] 87)).heap[W3.heap.size+1]? = some (.cells #[.int .i64 0,.string ⟨#[]⟩,.int .i64 1,.int .i64 1] 87 (0,0))):=Lq7 (by
  have:=heap_alloc_new (W3.alloc (.cells #[.slice a ts.length cap,.int .i64 en.1,.int .i64 en.2,.int .i64 0] 85)) (.cells #[.int .i64 0,.string ⟨#[]⟩,.int .i64 1,.int .i64 1] 87)
  simpa using this)
 generalize hbp:W3.heap.size=bp at aY bJ bE |-;generalize World.alloc _ _=W4 at H4 bJ bE |-;refine Ij (.s 0 (.s 1 (.s 4 (.h 2 (.h 3 (.h 5 (.h 6 (.h 7 .nil)))))))) 99 (fun W'=>W'.heap[bp+1]? = some (.cells #[.int .i64 0,.string ⟨#[]⟩,.int .i64 1,.int .i64 1] 87 (0,0))) (by kernel_rfl) (by kernel_rfl) (readQ (fun _ _ _=>rfl) (by kernel_rfl)) bE.out ?_;have H5:=Lq7 (H4.out.later ((bRf _ W4).drew));have aJ:=Lq7 (bJ.out.grown ((bRf _ W4).drew));have aM:Hid (W4.drew.heap[bp+1]? = some (.cells #[.int .i64 0,.string ⟨#[]⟩,.int .i64 1,.int .i64 1] 87 (0,0))):=Lq7 bE.out;generalize W4.drew=W5 at H5 aJ aM |-;refine Ap (.agg #[.int .i64 0,.string ⟨#[]⟩,.int .i64 1,.int .i64 1]) ?_;refine Aj (.pointer (some ⟨bp,0,none⟩)) ?_;refine Aj (.agg #[.int .i64 0,.int .i64 0]) ?_;have bQ:=Lq7 (Pp bp ⟨#[]⟩ en (lvl en (ts.length+2)) (I5.lvl en _) (R5 bp en (ts.length+2)).2.2 W5 ts 0 aJ.out (by omega) (by omega) bG.out);unfold ptr at bQ;refine Ac rfl (fun Kx hKx=>?_);go_wp2_with fail;refine bQ.out.mono ?_;rintro e W6 ⟨aZ,hq⟩;have H6:=Lq7 (H5.out.call aZ aY);have aN:=Lq7 ((aZ.block (bp+1) (agS.1 aM.out).1 (fun e=>by cases e)).trans aM.out);have hbl6:bp<W5.heap.size:=aJ.out.lt;have hs6:=aZ.size;cases hm:Du en (lvl en (ts.length+2)) [] ts 0 with
 | out=>exact absurd hm bG.out
 | err x l c=>
  have hq':PP bp en (Mt W5.heap.size) (.err x l c) W5 e W6:=(by rw[<-hm];exact⟨aZ,hq⟩);obtain rfl:=hq'.2;have Hr:Hid (readL s.data.toList=some (.error (x,l,c))):=Lq7 (by unfold readL;rw[Hl.out];simp only[bO.out,hm]);refine leaves_cons (f:=35) (args:=#[.pointer (some ⟨w.heap.size,0,none⟩),.pointer (some ⟨w.heap.size+1,0,none⟩),.pointer (some ⟨w.heap.size+1+1,0,none⟩)]) (by simp) (by simp[go_sem]) ?_;refine(Qn w W6 _ _ _ _ _ _ _ _ x l c H6.out).mono ?_;rintro e u w2 ⟨rfl,rfl,h2⟩;obtain⟨r0,r1,r2,r3,r4,r5,r6,r7,r8,r9,bR⟩:=Aa h2.a;obtain⟨b0,b1⟩:=Df h2.b;obtain⟨c0,c1,c2,c3,c4⟩:=Av h2.c;refine⟨.tuple #[.agg zeroNode,.int .i64 x,.agg #[.int .i64 l,.int .i64 c]],by simp[zeroNode,results,Tryz.results18,go_sem,r1,r2,r3,r4,r5,b0,c1,c2],?_⟩;refine⟨h2.below,?_⟩;rw[Hr.out]
 | ok x ts' dp'=>
  have hq':PP bp en (Mt W5.heap.size) (.ok x ts' dp') W5 e W6:=(by rw[<-hm];exact⟨aZ,hq⟩);obtain⟨-,-,v,rfl,a2,aC,rfl,aH⟩:=hq';have Hr:Hid (readL s.data.toList=some (.ok (.mk 1 ⟨#[]⟩ 1 1 x))):=Lq7 (by unfold readL;rw[Hl.out];simp only[bO.out,hm]);have bA:=Lq7 aH;go_wp2_with fail;refine hKx _ _ (fun _=>aN.out) ?_;(try simp only[gX,aP]);have bS:=Lq7 (Bq 1 ⟨0,⟨#[]⟩,1,1⟩ ⟨#[]⟩ a2 x.length aC W6);unfold tokV C6 at bS;refine Ac rfl (fun Ky hKy=>?_);go_wp2_with fail;refine bS.out.mono ?_;rintro e W7 ⟨rfl,bL⟩;have H7:=Lq7 (H6.out.later bL);have bB:=Lq7 ((bL.block _ (agS.1 aN.out).1).trans aN.out);have bC:=Lq7 (bA.out.below bL);go_wp2_with fail;refine hKy _ _ (fun _=>bB.out) ?_;(try simp only[gX,aP]);obtain⟨r0,r1,r2,r3,r4,r5,r6,r7,r8,r9,bR⟩:=Aa H7.out.a;refine Ac rfl (fun Kz hKz=>?_);go_wp2_with fail;have H8:=Lq7 (H7.out.setA (.int .i64 1) (.string ⟨#[]⟩) (.int .i64 1) (.int .i64 1) (.slice a2 x.length aC));have aQ:=Lq7 ((Ba (W:=W7) (b:=w.heap.size) (k:=bp+1) (by omega) (.int .i64 1) (.string ⟨#[]⟩) (.int .i64 1) (.int .i64 1) (.slice a2 x.length aC)).trans bB.out);have aE:Hid (Af (fun b=>w.heap.size+3<=b) (((((W7.setCell ⟨w.heap.size,0,none⟩ (.int .i64 1)).setCell ⟨w.heap.size,1,none⟩ (.string ⟨#[]⟩)).setCell ⟨w.heap.size,2,none⟩ (.int .i64 1)).setCell ⟨w.heap.size,3,none⟩ (.int .i64 1)).setCell ⟨w.heap.size,4,none⟩ (.slice a2 x.length aC)) a2 (A2 x)):=Lq7 (bC.out.mono fun b hb hl=>⟨by omega,by simpa using hl,Ba (by omega) _ _ _ _ _⟩);refine hKz _ _ (fun _=>aQ.out) ?_;generalize wsC _ _ _=W8 at H8 aQ aE |-;(try simp only[gX,aP]);obtain⟨b0,b1⟩:=Df H8.out.b;refine Ac rfl (fun Ku hKu=>?_);go_wp2_with fail;have H9:=Lq7 (H8.out.setB 0);have aR:=Lq7 ((Ad (w:=W8) (b:=w.heap.size+1) (k:=bp+1) (by omega) 0 (.int .i64 0)).trans aQ.out);have aF:Hid (Af (fun b=>w.heap.size+3<=b) (W8.setCell ⟨w.heap.size+1,0,none⟩ (.int .i64 0)) a2 (A2 x)):=Lq7 (aE.out.mono fun b hb hl=>⟨hb,by simpa using hl,Ad (by omega) _ _⟩);refine hKu _ _ (fun _=>aR.out) ?_;generalize wsC _ _ _=W9 at H9 aR aF |-;(try simp only[gX,aP]);obtain⟨c0,c1,c2,c3,c4⟩:=Av H9.out.c;refine Ac rfl (fun Kv hKv=>?_);go_wp2_with fail;have Ha:=Lq7 (H9.out.setC 0 0);have bD:=Lq7 (((Ad (w:=W9.setCell ⟨w.heap.size+1+1,0,none⟩ (.int .i64 0)) (b:=w.heap.size+1+1) (k:=bp+1) (by omega) 1 (.int .i64 0)).trans (Ad (by omega) 0 (.int .i64 0))).trans aR.out);have aG:Hid (Af (fun b=>w.heap.size+3<=b) ((W9.setCell ⟨w.heap.size+1+1,0,none⟩ (.int .i64 0)).setCell ⟨w.heap.size+1+1,1,none⟩ (.int .i64 0)) a2 (A2 x)):=Lq7 (aF.out.mono fun b hb hl=>⟨hb,by simpa using hl,by rw[Ad (by omega),Ad (by omega)]⟩);refine hKv _ _ (fun _=>bD.out) ?_;generalize wsC _ _ _=Wa at Ha bD aG |-;refine Ak ?_;(try simp only[gX,aP]);go_wp2_with fail;refine leaves_cons (f:=35) (args:=#[.pointer (some ⟨w.heap.size,0,none⟩),.pointer (some ⟨w.heap.size+1,0,none⟩),.pointer (some ⟨w.heap.size+1+1,0,none⟩)]) (by simp) (by simp[go_sem]) ?_;refine(R6 w Wa _ _ _ _ Ha.out).mono ?_;rintro e u w2 ⟨rfl,rfl,h2,hb2⟩;obtain⟨r0,r1,r2,r3,r4,r5,r6,r7,r8,r9,bR⟩:=Aa h2.a;obtain⟨b0,b1⟩:=Df h2.b;obtain⟨c0,c1,c2,c3,c4⟩:=Av h2.c;refine⟨.tuple #[.agg #[.int .i64 1,.string ⟨#[]⟩,.int .i64 1,.int .i64 1,.slice a2 x.length aC],.int .i64 0,.agg #[.int .i64 0,.int .i64 0]],by simp[results,Tryz.results18,go_sem,r1,r2,r3,r4,r5,b0,c1,c2],?_⟩;refine⟨h2.below,?_⟩;rw[Hr.out];exact⟨_,rfl,A3.mk _ _ _ _ _ ((aG.out.below hb2).wider (fun b hb _=>by omega))⟩
theorem read_any(s w)(hs:s.size<=9223372036854775807)(hw:Ka w)(hne:readL s.data.toList≠none):
  Calls Tryz.prog 18 #[.string s] w (PRead s w):=by
 cases hl:I4 s.data.toList with
 | error x=>exact read_lex s w hs hw x hl
 | ok ts=>exact read_ok s w hs hw ts hl hne
end Go.Proofs.YtbcdimjbepigcaaGreatDoor
