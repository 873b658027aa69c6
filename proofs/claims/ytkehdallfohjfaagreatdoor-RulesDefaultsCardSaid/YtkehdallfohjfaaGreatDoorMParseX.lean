/-
  The walk of the parser's Read,where the lexer doesn't break off. (And what it stands on.)
-/
import Derived.Defers
import Derived.Recover
import Derived.Test.YtkehdallfohjfaaGreatDoorMParseH
import Derived.Test.YtkehdallfohjfaaGreatDoorMHeldSkip
namespace Go.Proofs.YtkehdallfohjfaaGreatDoor
open Go Go.RowKit
open List renaming length_cons->lnC,length_nil->lnN,getElem?_eq_some_iff->lgS,setIfInBounds_toArray->laA,set_cons_zero->lsA,set_cons_succ->lsB
open Go.Lib renaming hid->Lq7
open Nat renaming le_refl->nlr
open Go.RowKit.Below renaming refl->bRf
open Go.Act renaming put->aP
open _root_.Array renaming getElem?_eq_some_iff->agS
open Go.World renaming setCell->wsC
set_option maxRecDepth 100000
set_option maxHeartbeats 16000000
theorem expr_any(bp en L)(hi:Inc 0 (pSum en L))(hx:Dv 125 bp en Cy (pSum en L)):Dv 87 bp en Cy (Co en L):=by
 intro w ts dp hp hd0 hd1 hr;have Hr:=Lq7 hr;have Hx:=Lq7 hx;clear hx;have fJ:Co en L ts dp=PM.bind (pSum en L) (fun x=>B3 fun ts=>if Be en ts 0 [61,61]||Be en ts 0 [33,61]||Bq en ts [105,110] then PM.bind (Bb en true) fun t=>PM.bind (pSum en L) fun y=>PM.pure (Ax 16 t t.text [x,y]) else PM.pure x) ts dp:=rfl;have eN:=Lq7 fJ;have H0:=Lq7 ((PI.start hp).alloc #[.int .i64 0,.string ⟨#[]⟩,.int .i64 0,.int .i64 0,.slice none 0 0] 43);clear hp hr fJ;unfold ptr;go_enter Tryz.func87,Tryz.ntmps87;go_wp2_with fail;have eO:=Lq7 (Hx.out (w.alloc (.cells #[.int .i64 0,.string ⟨#[]⟩,.int .i64 0,.int .i64 0,.slice none 0 0] 43)) ts (dp) H0.out.ps (by omega) (by omega) (Ba Hr eN));(try unfold ptr at eO);refine Au (dp) eO Hr eN (hi) (by omega) (fun hg hf=>⟨rfl,by rw[hf];exact⟨Ae H0.out.grown hg,rfl⟩⟩) ?_;rintro x6 aU w2 v hm hg aQ hv dN;obtain⟨aG,aH,aI,aJ,aM⟩:=x6;obtain⟨a7,aD,rfl,aN⟩:=A0.open hv;have Hccap8:=Lq7 (A0.cap hv);have H3:=Lq7 ((H0.out.call hg aQ).row aN H0.out.grown.size H0.out.lt);clear hv aN;clear hm hg aQ eO H0 eN;have dO:=Lq7 (H3.out.alloc #[.int .i64 aG,.string aH,.int .i64 aI,.int .i64 aJ,.slice a7 aM.length aD] 43);clear H3;go_wp2_with fail;generalize w2.alloc _=W9 at dO |-;generalize w2.heap.size=b11 at dO |-;have aF:Hid (Co en L ts dp=(if Be en aU 0 [61,61]||Be en aU 0 [33,61]||Bq en aU [105,110] then PM.bind (Bb en true) fun t=>PM.bind (pSum en L) fun y=>PM.pure (Ax 16 t t.text [.mk aG aH aI aJ aM,y]) else PM.pure (.mk aG aH aI aJ aM)) aU dp):=Lq7 (by rw[dN.out]<;>rfl)
 clear dN;have cQ:=Lq7 (Ci bp 0 ⟨#[61,61]⟩ en aU (dp) W9 (by omega) dO.out.ps);(try unfold ptr at cQ);refine Bi cQ (fun hb=>dO.out.below hb) ?_;intro fK cR;clear cQ dO;cases h1:Be en aU 0 [61,61]
 ·(try rw[h1]);have cS:=Lq7 (Ci bp 0 ⟨#[33,61]⟩ en aU (dp) fK (by omega) cR.out.ps);(try unfold ptr at cS);go_wp2_with fail;refine Bi cS (fun hb=>cR.out.below hb) ?_;intro fL cU;clear cS cR;cases h2:Be en aU 0 [33,61]
  ·(try rw[h2]);have cV:=Lq7 (Fo bp ⟨#[105,110]⟩ en aU (dp) fL cU.out.ps);(try unfold ptr at cV);go_wp2_with fail;refine Bi cV (fun hb=>cU.out.below hb) ?_;intro w20 cW;clear cV cU;cases h3:Bq en aU [105,110]
   ·(try rw[h3]);have dP:Hid (Co en L ts dp=PM.pure (.mk aG aH aI aJ aM) aU dp):=Lq7 (by rw[aF.out,h1,h2,h3]<;>rfl)
    clear aF;obtain⟨r23,r24,r25,r26,r27,r28,r29,r30,r31,r32,r33⟩:=Aa (cW.out.at (b:=b11) (cs:=#[.int .i64 aG,.string aH,.int .i64 aI,.int .i64 aJ,.slice a7 aM.length aD]) (T:=43) (by simp));obtain⟨r34,r35,r36,r37,r38,r39,r40,r41,r42,r43,r44⟩:=Aa (cW.out.at (b:=w.heap.size) (cs:=#[.int .i64 0,.string ⟨#[]⟩,.int .i64 0,.int .i64 0,.slice none 0 0]) (T:=43) (by simp));go_wp2_with fail;refine bodyPost_ret (v:=.agg #[.int .i64 aG,.string aH,.int .i64 aI,.int .i64 aJ,.slice a7 aM.length aD]) (by simp[results,Tryz.results87,go_sem,r35,r36,r37,r38,r39]) rfl ?_;have G:=Lq7 (cW.out.put5 1 rfl (.int .i64 aG) (.string aH) (.int .i64 aI) (.int .i64 aJ) (.slice a7 aM.length aD));rw[dP.out];exact⟨G.out.grown,G.out.ps,_,rfl,A0.mk _ _ _ _ _ (G.out.hand (by simp[]))⟩
   ·(try rw[h3]);have bP:Hid (Co en L ts dp=PM.bind (Bb en true) (fun t=>PM.bind (pSum en L) fun y=>PM.pure (Ax 16 t t.text [.mk aG aH aI aJ aM,y])) aU dp):=Lq7 (by rw[aF.out,h1,h2,h3]<;>rfl)
    clear aF;have cY:=Lq7 (Bn bp true en aU (dp) w20 cW.out.ps (Ba Hr bP));(try unfold ptr at cY);go_wp2_with fail;refine Au (dp) cY Hr bP (Inc.take _) (by omega) (fun hg hf=>⟨rfl,by rw[hf];exact⟨Ae cW.out.grown hg,rfl⟩⟩) ?_;rintro aR eP fM v hm hg aQ rfl bQ;have fN:=Lq7 (cW.out.call hg aQ);(try unfold tokV);clear hm hg aQ cY cW bP;have eF:=Lq7 (fN.out.alloc #[.int .i64 aR.kind,.string aR.text,.int .i64 aR.line,.int .i64 aR.col] 70);clear fN;go_wp2_with fail;generalize fM.alloc _=W52 at eF |-;generalize fM.heap.size=b54 at eF |-;have cM:=Lq7 eF.out.drew;clear eF;go_wp2_with fail;refine A8 (.s 0 (.s 1 (.s 2 (.s 3 (.s 4 (.h 5 (.h 6 (.h 7 (.h 8 .nil))))))))) 8 (fun W'=>W'.heap[b54]? = some (.cells #[.int .i64 aR.kind,.string aR.text,.int .i64 aR.line,.int .i64 aR.col] 70 (0,0))/\W'.heap[b11]? = some (.cells #[.int .i64 aG,.string aH,.int .i64 aI,.int .i64 aJ,.slice a7 aM.length aD] 43 (0,0))) (⟨cM.out.at (by simp),cM.out.at (by simp)⟩) ?_;refine Ad (tokV aR) rfl rfl (fun W' hS=>?_) ?_
    ·(try unfold tokV);(try unfold ptr);obtain⟨aA,aB⟩:=hS;obtain⟨aZ,bA,bB,bC,bD⟩:=Ak aA;clear aA;obtain⟨bE,bF,bG,bH,bI,bJ,bL,bM,bN,bO,aE⟩:=Aa aB;clear aB;go_simp
    refine Ad (.pointer (some ⟨b54,1,none⟩)) rfl rfl (fun W' hS=>?_) ?_
    ·(try unfold tokV);(try unfold ptr);obtain⟨aA,aB⟩:=hS;obtain⟨aZ,bA,bB,bC,bD⟩:=Ak aA;clear aA;obtain⟨bE,bF,bG,bH,bI,bJ,bL,bM,bN,bO,aE⟩:=Aa aB;clear aB;go_simp
    refine Ad (.string aR.text) rfl rfl (fun W' hS=>?_) ?_
    ·(try unfold tokV);(try unfold ptr);obtain⟨aA,aB⟩:=hS;obtain⟨aZ,bA,bB,bC,bD⟩:=Ak aA;clear aA;obtain⟨bE,bF,bG,bH,bI,bJ,bL,bM,bN,bO,aE⟩:=Aa aB;clear aB;go_simp
    refine Ad (.agg #[.int .i64 aG,.string aH,.int .i64 aI,.int .i64 aJ,.slice a7 aM.length aD]) rfl rfl (fun W' hS=>?_) ?_
    ·(try unfold tokV);(try unfold ptr);obtain⟨aA,aB⟩:=hS;obtain⟨aZ,bA,bB,bC,bD⟩:=Ak aA;clear aA;obtain⟨bE,bF,bG,bH,bI,bJ,bL,bM,bN,bO,aE⟩:=Aa aB;clear aB;go_simp
    refine Ad (ptr bp) rfl rfl (fun W' hS=>?_) ?_
    ·(try unfold tokV);(try unfold ptr);obtain⟨aA,aB⟩:=hS;obtain⟨aZ,bA,bB,bC,bD⟩:=Ak aA;clear aA;obtain⟨bE,bF,bG,bH,bI,bJ,bL,bM,bN,bO,aE⟩:=Aa aB;clear aB;go_simp
    refine Ac rfl (fun K56 eQ=>?_);(try unfold tokV ptr);go_wp2_with fail;have cZ:=Lq7 (Hx.out W52.drew eP (dp) cM.out.ps (by omega) (by omega) (Ba Hr bQ));(try unfold ptr at cZ);refine Au (dp) cZ Hr bQ (hi) (by omega) (fun hg hf=>⟨rfl,by rw[hf];exact⟨Ae cM.out.grown hg,rfl⟩⟩) ?_;rintro x62 ts61 eG v hm hg aQ hv dQ;obtain⟨dA,dB,dC,dD,dE⟩:=x62;obtain⟨a63,cN,rfl,aN⟩:=A0.open hv;have Hccap64:=Lq7 (A0.cap hv);have eH:=Lq7 ((cM.out.call hg aQ).row aN cM.out.grown.size cM.out.lt);clear hv aN;clear hm hg aQ cZ cM bQ;go_wp2_with fail;refine eQ _ _ (fun _=>⟨eH.out.at (by simp),eH.out.at (by simp)⟩) ?_;refine Ac rfl (fun K65 eR=>?_);(try unfold tokV ptr);go_wp2_with fail;have eI:=Lq7 (eH.out.lit 43 [[.int .i64 aG,.string aH,.int .i64 aI,.int .i64 aJ,.slice a7 aM.length aD],[.int .i64 dA,.string dB,.int .i64 dC,.int .i64 dD,.slice a63 dE.length cN]] [.mk aG aH aI aJ aM,.mk dA dB dC dD dE] rfl (by simp) rfl (fun j n c hj hc=>by
     have dR:=(lgS.1 hc).1;simp only[lnC,lnN] at dR;obtain rfl|rfl:j=0\/j=1:=by omega
     ·simp at hj hc;subst hj hc;exact⟨_,_,_,_,_,_,_,rfl,rfl,.inl (by simp)⟩
     ·simp at hj hc;subst hj hc;exact⟨_,_,_,_,_,_,_,rfl,rfl,.inl (by simp)⟩))
    clear eH;refine eR _ _ (fun _=>⟨eI.out.at (by simp),eI.out.at (by simp)⟩) ?_;refine Ac rfl (fun K67 eS=>?_);(try unfold tokV ptr);go_wp2_with fail;have bR:=Lq7 (Bo 16 aR aR.text (some ⟨eG.heap.size,0,none⟩) 2 2 (eG.alloc (.cells #[.int .i64 aG,.string aH,.int .i64 aI,.int .i64 aJ,.slice a7 aM.length aD,.int .i64 dA,.string dB,.int .i64 dC,.int .i64 dD,.slice a63 dE.length cN] 43)));unfold tokV Cx at bR;refine bR.out.mono ?_;rintro e w68 ⟨rfl,hb⟩;have eJ:=Lq7 (eI.out.below hb);clear hb bR eI;go_wp2_with fail;refine eS _ _ (fun _=>⟨eJ.out.at (by simp),eJ.out.at (by simp)⟩) ?_;obtain⟨r70,r71,r72,r73,r74,r75,r76,r77,r78,r79,r80⟩:=Aa (eJ.out.at (b:=w.heap.size) (cs:=#[.int .i64 0,.string ⟨#[]⟩,.int .i64 0,.int .i64 0,.slice none 0 0]) (T:=43) (by simp));refine Ac rfl (fun K81 eT=>?_);(try unfold tokV ptr);go_wp2_with fail;refine eT _ _ (fun h=>absurd rfl h) ?_;refine Ao ?_;go_wp2_with fail;refine bodyPost_ret (v:=.agg #[.int .i64 16,.string aR.text,.int .i64 aR.line,.int .i64 aR.col,.slice (some ⟨eG.heap.size,0,none⟩) 2 2]) (by simp[results,Tryz.results87,go_sem,r71,r72,r73,r74,r75]) rfl ?_;have G:=Lq7 (eJ.out.put5 2 rfl (.int .i64 16) (.string aR.text) (.int .i64 aR.line) (.int .i64 aR.col) (.slice (some ⟨eG.heap.size,0,none⟩) 2 2));rw[dQ.out];exact⟨G.out.grown,G.out.ps,_,rfl,A0.mk _ _ _ _ _ (G.out.hand (by simp[]))⟩
  ·(try rw[h2]);have bS:Hid (Co en L ts dp=PM.bind (Bb en true) (fun t=>PM.bind (pSum en L) fun y=>PM.pure (Ax 16 t t.text [.mk aG aH aI aJ aM,y])) aU dp):=Lq7 (by rw[aF.out,h1,h2]<;>rfl)
   clear aF;have dF:=Lq7 (Bn bp true en aU (dp) fL cU.out.ps (Ba Hr bS));(try unfold ptr at dF);go_wp2_with fail;refine Au (dp) dF Hr bS (Inc.take _) (by omega) (fun hg hf=>⟨rfl,by rw[hf];exact⟨Ae cU.out.grown hg,rfl⟩⟩) ?_;rintro aS eU fO v hm hg aQ rfl bT;have fP:=Lq7 (cU.out.call hg aQ);(try unfold tokV);clear hm hg aQ dF cU bS;have eK:=Lq7 (fP.out.alloc #[.int .i64 aS.kind,.string aS.text,.int .i64 aS.line,.int .i64 aS.col] 70);clear fP;go_wp2_with fail;generalize fO.alloc _=W89 at eK |-;generalize fO.heap.size=b91 at eK |-;have cP:=Lq7 eK.out.drew;clear eK;go_wp2_with fail;refine A8 (.s 0 (.s 1 (.s 2 (.s 3 (.s 4 (.h 5 (.h 6 (.h 7 (.h 8 .nil))))))))) 8 (fun W'=>W'.heap[b91]? = some (.cells #[.int .i64 aS.kind,.string aS.text,.int .i64 aS.line,.int .i64 aS.col] 70 (0,0))/\W'.heap[b11]? = some (.cells #[.int .i64 aG,.string aH,.int .i64 aI,.int .i64 aJ,.slice a7 aM.length aD] 43 (0,0))) (⟨cP.out.at (by simp),cP.out.at (by simp)⟩) ?_;refine Ad (tokV aS) rfl rfl (fun W' hS=>?_) ?_
   ·(try unfold tokV);(try unfold ptr);obtain⟨aA,aB⟩:=hS;obtain⟨aZ,bA,bB,bC,bD⟩:=Ak aA;clear aA;obtain⟨bE,bF,bG,bH,bI,bJ,bL,bM,bN,bO,aE⟩:=Aa aB;clear aB;go_simp
   refine Ad (.pointer (some ⟨b91,1,none⟩)) rfl rfl (fun W' hS=>?_) ?_
   ·(try unfold tokV);(try unfold ptr);obtain⟨aA,aB⟩:=hS;obtain⟨aZ,bA,bB,bC,bD⟩:=Ak aA;clear aA;obtain⟨bE,bF,bG,bH,bI,bJ,bL,bM,bN,bO,aE⟩:=Aa aB;clear aB;go_simp
   refine Ad (.string aS.text) rfl rfl (fun W' hS=>?_) ?_
   ·(try unfold tokV);(try unfold ptr);obtain⟨aA,aB⟩:=hS;obtain⟨aZ,bA,bB,bC,bD⟩:=Ak aA;clear aA;obtain⟨bE,bF,bG,bH,bI,bJ,bL,bM,bN,bO,aE⟩:=Aa aB;clear aB;go_simp
   refine Ad (.agg #[.int .i64 aG,.string aH,.int .i64 aI,.int .i64 aJ,.slice a7 aM.length aD]) rfl rfl (fun W' hS=>?_) ?_
   ·(try unfold tokV);(try unfold ptr);obtain⟨aA,aB⟩:=hS;obtain⟨aZ,bA,bB,bC,bD⟩:=Ak aA;clear aA;obtain⟨bE,bF,bG,bH,bI,bJ,bL,bM,bN,bO,aE⟩:=Aa aB;clear aB;go_simp
   refine Ad (ptr bp) rfl rfl (fun W' hS=>?_) ?_
   ·(try unfold tokV);(try unfold ptr);obtain⟨aA,aB⟩:=hS;obtain⟨aZ,bA,bB,bC,bD⟩:=Ak aA;clear aA;obtain⟨bE,bF,bG,bH,bI,bJ,bL,bM,bN,bO,aE⟩:=Aa aB;clear aB;go_simp
   refine Ac rfl (fun K93 eV=>?_);(try unfold tokV ptr);go_wp2_with fail;have dG:=Lq7 (Hx.out W89.drew eU (dp) cP.out.ps (by omega) (by omega) (Ba Hr bT));(try unfold ptr at dG);refine Au (dp) dG Hr bT (hi) (by omega) (fun hg hf=>⟨rfl,by rw[hf];exact⟨Ae cP.out.grown hg,rfl⟩⟩) ?_;rintro x99 ts98 eL v hm hg aQ hv dS;obtain⟨dH,dI,dJ,dK,dL⟩:=x99;obtain⟨dT,bU,rfl,aN⟩:=A0.open hv;have Hccap101:=Lq7 (A0.cap hv);have eM:=Lq7 ((cP.out.call hg aQ).row aN cP.out.grown.size cP.out.lt);clear hv aN;clear hm hg aQ dG cP bT;go_wp2_with fail;refine eV _ _ (fun _=>⟨eM.out.at (by simp),eM.out.at (by simp)⟩) ?_;refine Ac rfl (fun K102 dU=>?_);(try unfold tokV ptr);go_wp2_with fail;have cD:=Lq7 (eM.out.lit 43 [[.int .i64 aG,.string aH,.int .i64 aI,.int .i64 aJ,.slice a7 aM.length aD],[.int .i64 dH,.string dI,.int .i64 dJ,.int .i64 dK,.slice dT dL.length bU]] [.mk aG aH aI aJ aM,.mk dH dI dJ dK dL] rfl (by simp) rfl (fun j n c hj hc=>by
    have dR:=(lgS.1 hc).1;simp only[lnC,lnN] at dR;obtain rfl|rfl:j=0\/j=1:=by omega
    ·simp at hj hc;subst hj hc;exact⟨_,_,_,_,_,_,_,rfl,rfl,.inl (by simp)⟩
    ·simp at hj hc;subst hj hc;exact⟨_,_,_,_,_,_,_,rfl,rfl,.inl (by simp)⟩))
   clear eM;refine dU _ _ (fun _=>⟨cD.out.at (by simp),cD.out.at (by simp)⟩) ?_;refine Ac rfl (fun K104 dV=>?_);(try unfold tokV ptr);go_wp2_with fail;have bR:=Lq7 (Bo 16 aS aS.text (some ⟨eL.heap.size,0,none⟩) 2 2 (eL.alloc (.cells #[.int .i64 aG,.string aH,.int .i64 aI,.int .i64 aJ,.slice a7 aM.length aD,.int .i64 dH,.string dI,.int .i64 dJ,.int .i64 dK,.slice dT dL.length bU] 43)));unfold tokV Cx at bR;refine bR.out.mono ?_;rintro e w105 ⟨rfl,hb⟩;have cE:=Lq7 (cD.out.below hb);clear hb bR cD;go_wp2_with fail;refine dV _ _ (fun _=>⟨cE.out.at (by simp),cE.out.at (by simp)⟩) ?_;obtain⟨eW,eX,eY,eZ,fA,fB,r113,r114,r115,r116,r117⟩:=Aa (cE.out.at (b:=w.heap.size) (cs:=#[.int .i64 0,.string ⟨#[]⟩,.int .i64 0,.int .i64 0,.slice none 0 0]) (T:=43) (by simp));refine Ac rfl (fun K118 dW=>?_);(try unfold tokV ptr);go_wp2_with fail;refine dW _ _ (fun h=>absurd rfl h) ?_;refine Ao ?_;go_wp2_with fail;refine bodyPost_ret (v:=.agg #[.int .i64 16,.string aS.text,.int .i64 aS.line,.int .i64 aS.col,.slice (some ⟨eL.heap.size,0,none⟩) 2 2]) (by simp[results,Tryz.results87,go_sem,eX,eY,eZ,fA,fB]) rfl ?_;have G:=Lq7 (cE.out.put5 2 rfl (.int .i64 16) (.string aS.text) (.int .i64 aS.line) (.int .i64 aS.col) (.slice (some ⟨eL.heap.size,0,none⟩) 2 2));rw[dS.out];exact⟨G.out.grown,G.out.ps,_,rfl,A0.mk _ _ _ _ _ (G.out.hand (by simp[]))⟩
 ·(try rw[h1]);have aW:Hid (Co en L ts dp=PM.bind (Bb en true) (fun t=>PM.bind (pSum en L) fun y=>PM.pure (Ax 16 t t.text [.mk aG aH aI aJ aM,y])) aU dp):=Lq7 (by rw[aF.out,h1]<;>rfl)
  clear aF;have bV:=Lq7 (Bn bp true en aU (dp) fK cR.out.ps (Ba Hr aW));(try unfold ptr at bV);go_wp2_with fail;refine Au (dp) bV Hr aW (Inc.take _) (by omega) (fun hg hf=>⟨rfl,by rw[hf];exact⟨Ae cR.out.grown hg,rfl⟩⟩) ?_;rintro aC dX dY v hm hg aQ rfl aY;have dZ:=Lq7 (cR.out.call hg aQ);(try unfold tokV);clear hm hg aQ bV cR aW;have cF:=Lq7 (dZ.out.alloc #[.int .i64 aC.kind,.string aC.text,.int .i64 aC.line,.int .i64 aC.col] 70);clear dZ;go_wp2_with fail;generalize dY.alloc _=W126 at cF |-;generalize dY.heap.size=b128 at cF |-;have aV:=Lq7 cF.out.drew;clear cF;go_wp2_with fail;refine A8 (.s 0 (.s 1 (.s 2 (.s 3 (.s 4 (.h 5 (.h 6 (.h 7 (.h 8 .nil))))))))) 8 (fun W'=>W'.heap[b128]? = some (.cells #[.int .i64 aC.kind,.string aC.text,.int .i64 aC.line,.int .i64 aC.col] 70 (0,0))/\W'.heap[b11]? = some (.cells #[.int .i64 aG,.string aH,.int .i64 aI,.int .i64 aJ,.slice a7 aM.length aD] 43 (0,0))) (⟨aV.out.at (by simp),aV.out.at (by simp)⟩) ?_;refine Ad (tokV aC) rfl rfl (fun W' hS=>?_) ?_
  ·(try unfold tokV);(try unfold ptr);obtain⟨aA,aB⟩:=hS;obtain⟨aZ,bA,bB,bC,bD⟩:=Ak aA;clear aA;obtain⟨bE,bF,bG,bH,bI,bJ,bL,bM,bN,bO,aE⟩:=Aa aB;clear aB;go_simp
  refine Ad (.pointer (some ⟨b128,1,none⟩)) rfl rfl (fun W' hS=>?_) ?_
  ·(try unfold tokV);(try unfold ptr);obtain⟨aA,aB⟩:=hS;obtain⟨aZ,bA,bB,bC,bD⟩:=Ak aA;clear aA;obtain⟨bE,bF,bG,bH,bI,bJ,bL,bM,bN,bO,aE⟩:=Aa aB;clear aB;go_simp
  refine Ad (.string aC.text) rfl rfl (fun W' hS=>?_) ?_
  ·(try unfold tokV);(try unfold ptr);obtain⟨aA,aB⟩:=hS;obtain⟨aZ,bA,bB,bC,bD⟩:=Ak aA;clear aA;obtain⟨bE,bF,bG,bH,bI,bJ,bL,bM,bN,bO,aE⟩:=Aa aB;clear aB;go_simp
  refine Ad (.agg #[.int .i64 aG,.string aH,.int .i64 aI,.int .i64 aJ,.slice a7 aM.length aD]) rfl rfl (fun W' hS=>?_) ?_
  ·(try unfold tokV);(try unfold ptr);obtain⟨aA,aB⟩:=hS;obtain⟨aZ,bA,bB,bC,bD⟩:=Ak aA;clear aA;obtain⟨bE,bF,bG,bH,bI,bJ,bL,bM,bN,bO,aE⟩:=Aa aB;clear aB;go_simp
  refine Ad (ptr bp) rfl rfl (fun W' hS=>?_) ?_
  ·(try unfold tokV);(try unfold ptr);obtain⟨aA,aB⟩:=hS;obtain⟨aZ,bA,bB,bC,bD⟩:=Ak aA;clear aA;obtain⟨bE,bF,bG,bH,bI,bJ,bL,bM,bN,bO,aE⟩:=Aa aB;clear aB;go_simp
  refine Ac rfl (fun K130 eA=>?_);(try unfold tokV ptr);go_wp2_with fail;have bW:=Lq7 (Hx.out W126.drew dX (dp) aV.out.ps (by omega) (by omega) (Ba Hr aY));(try unfold ptr at bW);refine Au (dp) bW Hr aY (hi) (by omega) (fun hg hf=>⟨rfl,by rw[hf];exact⟨Ae aV.out.grown hg,rfl⟩⟩) ?_;rintro fC ts135 cG v hm hg aQ hv dM;obtain⟨bX,bY,bZ,cA,cB⟩:=fC;obtain⟨eB,cC,rfl,aN⟩:=A0.open hv;have Hccap138:=Lq7 (A0.cap hv);have cH:=Lq7 ((aV.out.call hg aQ).row aN aV.out.grown.size aV.out.lt);clear hv aN;clear hm hg aQ bW aV aY;go_wp2_with fail;refine eA _ _ (fun _=>⟨cH.out.at (by simp),cH.out.at (by simp)⟩) ?_;refine Ac rfl (fun K139 eC=>?_);(try unfold tokV ptr);go_wp2_with fail;have cI:=Lq7 (cH.out.lit 43 [[.int .i64 aG,.string aH,.int .i64 aI,.int .i64 aJ,.slice a7 aM.length aD],[.int .i64 bX,.string bY,.int .i64 bZ,.int .i64 cA,.slice eB cB.length cC]] [.mk aG aH aI aJ aM,.mk bX bY bZ cA cB] rfl (by simp) rfl (fun j n c hj hc=>by
   have dR:=(lgS.1 hc).1;simp only[lnC,lnN] at dR;obtain rfl|rfl:j=0\/j=1:=by omega
   ·simp at hj hc;subst hj hc;exact⟨_,_,_,_,_,_,_,rfl,rfl,.inl (by simp)⟩
   ·simp at hj hc;subst hj hc;exact⟨_,_,_,_,_,_,_,rfl,rfl,.inl (by simp)⟩))
  clear cH;refine eC _ _ (fun _=>⟨cI.out.at (by simp),cI.out.at (by simp)⟩) ?_;refine Ac rfl (fun K141 eD=>?_);(try unfold tokV ptr);go_wp2_with fail;have bR:=Lq7 (Bo 16 aC aC.text (some ⟨cG.heap.size,0,none⟩) 2 2 (cG.alloc (.cells #[.int .i64 aG,.string aH,.int .i64 aI,.int .i64 aJ,.slice a7 aM.length aD,.int .i64 bX,.string bY,.int .i64 bZ,.int .i64 cA,.slice eB cB.length cC] 43)));unfold tokV Cx at bR;refine bR.out.mono ?_;rintro e w142 ⟨rfl,hb⟩;have cJ:=Lq7 (cI.out.below hb);clear hb bR cI;go_wp2_with fail;refine eD _ _ (fun _=>⟨cJ.out.at (by simp),cJ.out.at (by simp)⟩) ?_;obtain⟨fD,fE,fF,fG,fH,fI,r150,r151,r152,r153,r154⟩:=Aa (cJ.out.at (b:=w.heap.size) (cs:=#[.int .i64 0,.string ⟨#[]⟩,.int .i64 0,.int .i64 0,.slice none 0 0]) (T:=43) (by simp));refine Ac rfl (fun K155 eE=>?_);(try unfold tokV ptr);go_wp2_with fail;refine eE _ _ (fun h=>absurd rfl h) ?_;refine Ao ?_;go_wp2_with fail;refine bodyPost_ret (v:=.agg #[.int .i64 16,.string aC.text,.int .i64 aC.line,.int .i64 aC.col,.slice (some ⟨cG.heap.size,0,none⟩) 2 2]) (by simp[results,Tryz.results87,go_sem,fE,fF,fG,fH,fI]) rfl ?_;have G:=Lq7 (cJ.out.put5 2 rfl (.int .i64 16) (.string aC.text) (.int .i64 aC.line) (.int .i64 aC.col) (.slice (some ⟨cG.heap.size,0,none⟩) 2 2));rw[dM.out];exact⟨G.out.grown,G.out.ps,_,rfl,A0.mk _ _ _ _ _ (G.out.hand (by simp[]))⟩
theorem sum_any(bp en L)(hi:Inc 0 (pPrim en L))(hx:Dv 157 bp en Cy (pPrim en L)):Dv 125 bp en Cy (pSum en L):=by
 intro w ts dp hp hd0 hd1 hr;have Hr:=Lq7 hr;have Hx:=Lq7 hx;clear hx;have cA:pSum en L ts dp=PM.bind (pPrim en L) (fun x ts d=>pSumGo en L (ts.length+1) x ts d) ts dp:=rfl;have bP:=Lq7 cA;have H0:=Lq7 ((PI.start hp).alloc #[.int .i64 0,.string ⟨#[]⟩,.int .i64 0,.int .i64 0,.slice none 0 0] 43);clear hp hr cA;unfold ptr;go_enter Tryz.func125,Tryz.ntmps125;go_wp2_with fail;have bQ:=Lq7 (Hx.out (w.alloc (.cells #[.int .i64 0,.string ⟨#[]⟩,.int .i64 0,.int .i64 0,.slice none 0 0] 43)) ts (dp) H0.out.ps (by omega) (by omega) (Ba Hr bP));(try unfold ptr at bQ);refine Au (dp) bQ Hr bP (hi) (by omega) (fun hg hf=>⟨rfl,by rw[hf];exact⟨Ae H0.out.grown hg,rfl⟩⟩) ?_;rintro x6 bR w2 v hm hg aN hv bD;obtain⟨cB,cC,cD,cE,cF⟩:=x6;obtain⟨a7,bS,rfl,aD⟩:=A0.open hv;have aY:=Lq7 (A0.cap hv);have H3:=Lq7 ((H0.out.call hg aN).row aD H0.out.grown.size H0.out.lt);clear hv aD;clear hm hg aN bQ H0 bP;have bI:=Lq7 (H3.out.alloc #[.int .i64 cB,.string cC,.int .i64 cD,.int .i64 cE,.slice a7 cF.length bS] 43);clear H3;go_wp2_with fail;generalize w2.alloc _=W9 at bI |-;generalize w2.heap.size=b11 at bI |-;have aQ:Hid (pSum en L ts dp=pSumGo en L (bR.length+1) (.mk cB cC cD cE cF) bR dp):=Lq7 (by rw[bD.out]<;>rfl)
 clear bD
 go_loopg [] (bR.length+1) (fun g wr=>∃(k0:Int) (t0:ByteArray) (l0 c0:Int) (aA:List Nd) (a0:Option Addr) (aB:Nat) (aR:List Tok),Hid (pSum en L ts dp=pSumGo en L g (.mk k0 t0 l0 c0 aA) aR dp)/\Hid (PI w bp en aR dp [(b11,#[.int .i64 k0,.string t0,.int .i64 l0,.int .i64 c0,.slice a0 aA.length aB],43),(w.heap.size,#[.int .i64 0,.string ⟨#[]⟩,.int .i64 0,.int .i64 0,.slice none 0 0],43)] [(a0,aA)] wr)/\Hid (capK k0=true->aA.length<=aB))
 case atStart=>exact⟨_,_,_,_,_,_,_,_,aQ,bI,aY⟩
 case round=>
  clear aQ bI;obtain⟨k0,t0,l0,c0,aA,a0,aB,aR,bE,bT,Hccap0⟩:=hrel;cases gk with
  | zero=>exact absurd bE.out Hr.out
  | succ g=>
   have aZ:=Lq7 (Ci bp 0 ⟨#[43]⟩ en aR (dp) wr (by omega) bT.out.ps);(try unfold ptr at aZ);go_wp2_with fail;refine Bi aZ (fun hb=>bT.out.below hb) ?_;intro w14 bA;clear aZ bT;cases h1:Be en aR 0 [43]
   ·(try rw[h1]);have bF:Hid (pSum en L ts dp=PM.pure (.mk k0 t0 l0 c0 aA) aR dp):=Lq7 (by rw[bE.out,pSumGo,B3,h1]<;>rfl)
    clear bE;clear h1;obtain⟨r17,r18,r19,r20,r21,r22,r23,r24,r25,r26,r27⟩:=Aa (bA.out.at (b:=b11) (cs:=#[.int .i64 k0,.string t0,.int .i64 l0,.int .i64 c0,.slice a0 aA.length aB]) (T:=43) (by simp));obtain⟨r28,r29,r30,r31,r32,r33,r34,r35,r36,r37,r38⟩:=Aa (bA.out.at (b:=w.heap.size) (cs:=#[.int .i64 0,.string ⟨#[]⟩,.int .i64 0,.int .i64 0,.slice none 0 0]) (T:=43) (by simp));go_wp2_with fail;refine bodyPost_ret (v:=.agg #[.int .i64 k0,.string t0,.int .i64 l0,.int .i64 c0,.slice a0 aA.length aB]) (by simp[results,Tryz.results125,go_sem,r29,r30,r31,r32,r33]) rfl ?_;have G:=Lq7 (bA.out.put5 1 rfl (.int .i64 k0) (.string t0) (.int .i64 l0) (.int .i64 c0) (.slice a0 aA.length aB));rw[bF.out];exact⟨G.out.grown,G.out.ps,_,rfl,A0.mk _ _ _ _ _ (G.out.hand (by simp[]))⟩
   ·(try rw[h1]);have aE:Hid (pSum en L ts dp=PM.bind (Bb en true) (fun t=>PM.bind (pPrim en L) fun y=>pSumGo en L g (Ax 16 t (bs [43]) [.mk k0 t0 l0 c0 aA,y])) aR dp):=Lq7 (by rw[bE.out,pSumGo,B3,h1]<;>rfl)
    clear bE;clear h1;have bB:=Lq7 (Bn bp true en aR (dp) w14 bA.out.ps (Ba Hr aE));(try unfold ptr at bB);go_wp2_with fail;refine Au (dp) bB Hr aE (Inc.take _) (by omega) (fun hg hf=>⟨rfl,by rw[hf];exact⟨Ae bA.out.grown hg,rfl⟩⟩) ?_;rintro aC bU cG v hm hg aN rfl aF;have cH:=Lq7 (bA.out.call hg aN);(try unfold tokV);clear hm hg aN bB bA aE;have bJ:=Lq7 (cH.out.alloc #[.int .i64 aC.kind,.string aC.text,.int .i64 aC.line,.int .i64 aC.col] 70);clear cH;go_wp2_with fail;generalize cG.alloc _=W46 at bJ |-;generalize cG.heap.size=b48 at bJ |-;have aS:=Lq7 bJ.out.drew;clear bJ;go_wp2_with fail;refine A8 (.s 0 (.s 1 (.s 2 (.h 3 (.h 4 (.h 5 (.h 6 .nil))))))) 6 (fun W'=>W'.heap[b48]? = some (.cells #[.int .i64 aC.kind,.string aC.text,.int .i64 aC.line,.int .i64 aC.col] 70 (0,0))/\W'.heap[b11]? = some (.cells #[.int .i64 k0,.string t0,.int .i64 l0,.int .i64 c0,.slice a0 aA.length aB] 43 (0,0))) (⟨aS.out.at (by simp),aS.out.at (by simp)⟩) ?_;refine Ad (tokV aC) rfl rfl (fun W' hS=>?_) ?_
    ·(try unfold tokV);(try unfold ptr);obtain⟨aU,aV⟩:=hS;obtain⟨cI,cJ,cM,cN,cP⟩:=Ak aU;clear aU;obtain⟨cQ,cR,cS,cU,cV,cW,cY,cZ,dA,dB,bG⟩:=Aa aV;clear aV;go_simp
    refine Ad (.agg #[.int .i64 k0,.string t0,.int .i64 l0,.int .i64 c0,.slice a0 aA.length aB]) rfl rfl (fun W' hS=>?_) ?_
    ·(try unfold tokV);(try unfold ptr);obtain⟨aU,aV⟩:=hS;obtain⟨cI,cJ,cM,cN,cP⟩:=Ak aU;clear aU;obtain⟨cQ,cR,cS,cU,cV,cW,cY,cZ,dA,dB,bG⟩:=Aa aV;clear aV;go_simp
    refine Ad (ptr bp) rfl rfl (fun W' hS=>?_) ?_
    ·(try unfold tokV);(try unfold ptr);obtain⟨aU,aV⟩:=hS;obtain⟨cI,cJ,cM,cN,cP⟩:=Ak aU;clear aU;obtain⟨cQ,cR,cS,cU,cV,cW,cY,cZ,dA,dB,bG⟩:=Aa aV;clear aV;go_simp
    refine Ac rfl (fun K50 bV=>?_);(try unfold tokV ptr);go_wp2_with fail;have bC:=Lq7 (Hx.out W46.drew bU (dp) aS.out.ps (by omega) (by omega) (Ba Hr aF));(try unfold ptr at bC);refine Au (dp) bC Hr aF (hi) (by omega) (fun hg hf=>⟨rfl,by rw[hf];exact⟨Ae aS.out.grown hg,rfl⟩⟩) ?_;rintro x56 ts55 bL v hm hg aN hv bH;obtain⟨aG,aH,aI,aJ,aM⟩:=x56;obtain⟨a57,aW,rfl,aD⟩:=A0.open hv;have Hccap58:=Lq7 (A0.cap hv);have bM:=Lq7 ((aS.out.call hg aN).row aD aS.out.grown.size aS.out.lt);clear hv aD;clear hm hg aN bC aS aF;go_wp2_with fail;refine bV _ _ (fun _=>⟨bM.out.at (by simp),bM.out.at (by simp)⟩) ?_;refine Ac rfl (fun K59 bW=>?_);(try unfold tokV ptr);go_wp2_with fail;have bN:=Lq7 (bM.out.lit 43 [[.int .i64 k0,.string t0,.int .i64 l0,.int .i64 c0,.slice a0 aA.length aB],[.int .i64 aG,.string aH,.int .i64 aI,.int .i64 aJ,.slice a57 aM.length aW]] [.mk k0 t0 l0 c0 aA,.mk aG aH aI aJ aM] rfl (by simp) rfl (fun j n c hj hc=>by
     have hjl:=(lgS.1 hc).1;simp only[lnC,lnN] at hjl;obtain rfl|rfl:j=0\/j=1:=by omega
     ·simp at hj hc;subst hj hc;exact⟨_,_,_,_,_,_,_,rfl,rfl,.inl (by simp)⟩
     ·simp at hj hc;subst hj hc;exact⟨_,_,_,_,_,_,_,rfl,rfl,.inl (by simp)⟩))
    clear bM;refine bW _ _ (fun _=>⟨bN.out.at (by simp),bN.out.at (by simp)⟩) ?_;refine Ac rfl (fun K61 bX=>?_);(try unfold tokV ptr);go_wp2_with fail;have bY:=Lq7 (Bo 16 aC ⟨#[43]⟩ (some ⟨bL.heap.size,0,none⟩) 2 2 (bL.alloc (.cells #[.int .i64 k0,.string t0,.int .i64 l0,.int .i64 c0,.slice a0 aA.length aB,.int .i64 aG,.string aH,.int .i64 aI,.int .i64 aJ,.slice a57 aM.length aW] 43)));unfold tokV Cx at bY;refine bY.out.mono ?_;rintro e w62 ⟨rfl,hb⟩;have bO:=Lq7 (bN.out.below hb);clear hb bY bN;go_wp2_with fail;refine bX _ _ (fun _=>⟨bO.out.at (by simp),bO.out.at (by simp)⟩) ?_;obtain⟨r64,r65,r66,r67,r68,r69,r70,r71,r72,r73,r74⟩:=Aa (bO.out.at (b:=b11) (cs:=#[.int .i64 k0,.string t0,.int .i64 l0,.int .i64 c0,.slice a0 aA.length aB]) (T:=43) (by simp));refine Ac rfl (fun K75 bZ=>?_);(try unfold tokV ptr);go_wp2_with fail;refine bZ _ _ (fun h=>absurd rfl h) ?_;refine Ao ?_;go_wp2_with fail
    go_roundg g
    case measure=>omega
    case rel=>exact⟨_,_,_,_,_,_,_,_,bH,Lq7 ((bO.out.put5 1 rfl (.int .i64 16) (.string ⟨#[43]⟩) (.int .i64 aC.line) (.int .i64 aC.col) (.slice (some ⟨bL.heap.size,0,none⟩) 2 2)).less (r2:=[((some ⟨bL.heap.size,0,none⟩),[.mk k0 t0 l0 c0 aA,.mk aG aH aI aJ aM])]) (List.sublist_cons_self _ _) (by simp)),Lq7 (fun h=>absurd h (by decide))⟩
theorem Lq{α f bp en}{val:Nat->α->World->Value->Prop}:Dv f bp en val (fun _ _=>(.out:PR α)):=fun _ _ _ _ _ _ h=>absurd rfl h
theorem Pe(bp en):∀n,Dv 87 bp en Cy (lvl en n).expr/\Dv 157 bp en Cy (lvl en n).prim/\Dv 46 bp en Cy (lvl en n).stmt
 | 0=>⟨Lq,Lq,Lq⟩
 | n+1=>by
  obtain⟨h1,h2,h3⟩:=Pe bp en n;have hL:=Gz.lvl en n;have harg:=arg_any bp en (lvl en n) hL h1;have hcall:=call_any bp en (lvl en n) hL harg;have hentry:=Ss bp en (lvl en n) hL h1;have hprim:=prim_any bp en (lvl en n) hL h1 h2 hcall hentry;have hsum:=sum_any bp en (lvl en n) (Inc.prim hL) hprim;have hexpr:=expr_any bp en (lvl en n) (Inc.sum hL) hsum;have hblock:=Sn bp en (lvl en n) hL h3;have hparam:=Su bp en (lvl en n) hL hexpr;have hrule:=rule_any bp en (lvl en n) hL hparam hblock;have hstmt:=stmt_any bp en (lvl en n) hL hexpr hblock hrule hcall;exact⟨hexpr,hprim,hstmt⟩
theorem tokensL_few:∀(f:Nat) (p:Int×Int) (l:List UInt8) (ts:List Tok),Bt f p l = .ok ts->ts.length<=f
 | 0,_,_,ts,h=>by cases h;simp
 | f+1,p,l,ts,h=>by
  rw[Bt] at h;split at h
  ·cases h;simp
  ·split at h
   ·cases h
   ·split at h
    ·cases h
    ·rename_i ts' h'
     have:=tokensL_few f _ _ _ h';cases h;split
     ·simp;exact this
     ·omega
theorem lexL_few{l ts}(h:F7 l = .ok ts):ts.length<=65537:=by
 unfold F7 at h;split at h
 ·cases h
 ·have:=tokensL_few _ _ _ _ h;omega
def Dx(p:Int×Int)(c:UInt8):Int×Int:=if c=10 then(p.1+1,1) else(p.1,p.2+1)
theorem endL_eq(l):Jo l=l.foldl Dx (1,1):=rfl
theorem Sv(l:List UInt8):∀p:Int×Int,0<=p.1->0<=p.2->0<=(l.foldl Dx p).1/\0<=(l.foldl Dx p).2/\(l.foldl Dx p).1<=p.1+l.length/\(l.foldl Dx p).2<=p.2+1+l.length:=by
 induction l with
 | nil=>intro p h1 h2;exact⟨h1,h2,by simp,by simp;omega⟩
 | cons c t ih=>
  intro p h1 h2;rw[List.foldl_cons];by_cases hc:c=10
  ·rw[show Dx p c=(p.1+1,1) from if_pos hc];obtain⟨a,b,d,e⟩:=ih (p.1+1,1) (by simp;omega) (by simp);refine⟨a,b,by simp at d |-;omega,by simp at e |-;omega⟩
  ·rw[show Dx p c=(p.1,p.2+1) from if_neg hc];obtain⟨a,b,d,e⟩:=ih (p.1,p.2+1) h1 (by simp;omega);refine⟨a,b,by simp at d |-;omega,by simp at e |-;omega⟩
def PEnd(p:Int×Int)(w:World)(e:Ending)(w':World):Prop:=e = .returned (.agg #[.int .i64 p.1,.int .i64 p.2])/\Below w.heap.size w w'
theorem end_any(s w)(hs:s.size<=65536):Calls Tryz.prog 25 #[.string s] w (PEnd (Jo s.data.toList) w):=by
 go_enter Tryz.func25,Tryz.ntmps25;go_wp2
 go_loopw [8] (fun i wr=>∃(k:Nat) (p:Int×Int),k<=s.size/\i = .int .i64 k/\Hid (p=(s.data.toList.take k).foldl Dx (1,1))/\wr=(w.alloc (.cells #[.int .i64 0,.int .i64 0] 32)).alloc (.cells #[.int .i64 p.1,.int .i64 p.2] 32)) (fun i _=>s.size-(intOf i).toNat)
 case atStart=>exact⟨0,(1,1),Nat.zero_le _,rfl,Lq7 rfl,rfl⟩
 case round=>
  obtain⟨k,p,hk,rfl,hp,rfl⟩:=hrel;have hl:(s.data.toList.take k).length<=k:=List.length_take_le _ _;obtain⟨b1,b2,b3,b4⟩:=Sv (s.data.toList.take k) (1,1) (by simp) (by simp);rw[<-hp.out] at b1 b2 b3 b4;simp only at b3 b4;by_cases hlt:k<s.size
  ·have aD:Hid ((s.data.toList.take (k+1)).foldl Dx (1,1)=Dx p s[k]):=Lq7 (by
    rw[List.take_succ_eq_append_getElem (by rw[Av];exact hlt),List.foldl_append,<-hp.out];rfl)
   cases hc:(((s[k]:UInt8).toNat:Int)==10)
   ·have aA:(s[k]:UInt8)≠10:=(by intro e;rw[e] at hc;cases hc);have aB:Hid (Dx p s[k]=(p.1,p.2+1)):=Lq7 (by unfold Dx;rw[if_neg aA]);clear aA;go_wp2;go_roundw
    case rel=>exact⟨k+1,(p.1,p.2+1),by omega,by go_num,Lq7 (by rw[aD.out,aB.out]),rfl⟩
    case measure=>simp[intOf];omega
   ·have aA:(s[k]:UInt8)=10:=by
     have:((s[k]:UInt8).toNat:Int)=10:=(by simpa using hc);exact UInt8.toNat_inj.1 (by show _=10;omega)
    have aB:Hid (Dx p s[k]=(p.1+1,1)):=Lq7 (by unfold Dx;rw[if_pos aA]);clear aA;go_wp2;go_roundw
    case rel=>exact⟨k+1,(p.1+1,1),by omega,by go_num,Lq7 (by rw[aD.out,aB.out]),rfl⟩
    case measure=>simp[intOf];omega
  ·have aC:Hid (Jo s.data.toList=p):=Lq7 (by rw[endL_eq,hp.out,List.take_of_length_le (by rw[Av];omega)]);go_wp2;refine bodyPost_ret (v:=.agg #[.int .i64 p.1,.int .i64 p.2]) (by simp[results,Tryz.results25,go_sem]) rfl ?_;rw[aC.out];exact⟨rfl,((bRf _ w).alloc (nlr _) _).alloc (by simp) _⟩
def PRead(s:ByteArray)(w:World)(e:Ending)(w':World):Prop:=
 Below w.heap.size w w'/\match readL s.data.toList with
  | some (.ok n)=>∃v,e = .returned (.tuple #[v,.int .i64 0,.agg #[.int .i64 0,.int .i64 0]])/\A0 (fun b=>w.heap.size<=b) w' n v
  | some (.error x)=>e = .returned (.tuple #[.agg zeroNode,.int .i64 x.1,.agg #[.int .i64 x.2.1,.int .i64 x.2.2]])
  | none=>True
structure RdB(w W:World)(n:Array Value)(e l c:Int):Prop where
 below:Below w.heap.size w W
 a:W.heap[w.heap.size]? = some (.cells n 43 (0,0))
 b:W.heap[w.heap.size+1]? = some (.cells #[.int .i64 e] 30 (0,0))
 c:W.heap[w.heap.size+1+1]? = some (.cells #[.int .i64 l,.int .i64 c] 32 (0,0))
section
variable {w W W':World} {n:Array Value} {e l c:Int}
theorem RdB.later(h:RdB w W n e l c)(hb:Below W.heap.size W W'):RdB w W' n e l c:=
 ⟨h.below.trans (hb.mono h.below.size),(hb.block _ (agS.1 h.a).1).trans h.a,(hb.block _ (agS.1 h.b).1).trans h.b,(hb.block _ (agS.1 h.c).1).trans h.c⟩
theorem RdB.setB(h:RdB w W n e l c)(x:Int):RdB w (W.setCell ⟨w.heap.size+1,0,none⟩ (.int .i64 x)) n x l c:=
 ⟨h.below.setCell (p:=⟨w.heap.size+1,0,none⟩) (by simp) _,(Af (by omega) 0 _).trans h.a,by rw[Al h.b 0];rfl,(Af (by omega) 0 _).trans h.c⟩
theorem RdB.setC(h:RdB w W n e l c)(x y:Int):RdB w ((W.setCell ⟨w.heap.size+1+1,0,none⟩ (.int .i64 x)).setCell ⟨w.heap.size+1+1,1,none⟩ (.int .i64 y)) n e x y:=
 ⟨(h.below.setCell (p:=⟨w.heap.size+1+1,0,none⟩) (by simp;omega) _).setCell (p:=⟨w.heap.size+1+1,1,none⟩) (by simp;omega) _,((Af (by omega) 1 _).trans (Af (by omega) 0 _)).trans h.a,((Af (by omega) 1 _).trans (Af (by omega) 0 _)).trans h.b,
  by rw[Al (Al h.c 0 (.int .i64 x)) 1];rfl⟩
theorem RdB.setA{x0 x1 x2 x3 x4:Value}(h:RdB w W #[x0,x1,x2,x3,x4] e l c)(v0 v1 v2 v3 v4:Value):
  RdB w (((((W.setCell ⟨w.heap.size,0,none⟩ v0).setCell ⟨w.heap.size,1,none⟩ v1).setCell ⟨w.heap.size,2,none⟩ v2).setCell ⟨w.heap.size,3,none⟩ v3).setCell ⟨w.heap.size,4,none⟩ v4) #[v0,v1,v2,v3,v4] e l c:=by
 have hs:∀k,k≠w.heap.size->(((((W.setCell ⟨w.heap.size,0,none⟩ v0).setCell ⟨w.heap.size,1,none⟩ v1).setCell ⟨w.heap.size,2,none⟩ v2).setCell ⟨w.heap.size,3,none⟩ v3).setCell ⟨w.heap.size,4,none⟩ v4).heap[k]? = W.heap[k]?:=fun k hk=>by
  rw[Af hk,Af hk,Af hk,Af hk,Af hk]
 refine⟨((((h.below.setCell (p:=⟨w.heap.size,0,none⟩) (nlr _) _).setCell (p:=⟨w.heap.size,1,none⟩) (nlr _) _).setCell (p:=⟨w.heap.size,2,none⟩) (nlr _) _).setCell (p:=⟨w.heap.size,3,none⟩) (nlr _) _).setCell (p:=⟨w.heap.size,4,none⟩) (nlr _) _,?_,(hs _ (by omega)).trans h.b,(hs _ (by omega)).trans h.c⟩;rw[Al (Al (Al (Al (Al h.a 0 v0) 1 v1) 2 v2) 3 v3) 4 v4];rfl
end
theorem My(w):RdB w (((w.alloc (.cells #[.int .i64 0,.string ⟨#[]⟩,.int .i64 0,.int .i64 0,.slice none 0 0] 43)).alloc (.cells #[.int .i64 0] 30)).alloc (.cells #[.int .i64 0,.int .i64 0] 32)) #[.int .i64 0,.string ⟨#[]⟩,.int .i64 0,.int .i64 0,.slice none 0 0] 0 0 0:=by
 refine⟨(((bRf _ w).alloc (nlr _) _).alloc (by simp) _).alloc (by simp;omega) _,?_,?_,?_⟩
 ·rw[Below.heap_alloc _ _ _ (by simp;omega),Below.heap_alloc _ _ _ (by simp)];exact heap_alloc_new w _
 ·rw[Below.heap_alloc _ _ _ (by simp)];have:=heap_alloc_new (w.alloc (.cells #[.int .i64 0,.string ⟨#[]⟩,.int .i64 0,.int .i64 0,.slice none 0 0] 43)) (.cells #[.int .i64 0] 30)
  simpa using this
 ·have:=heap_alloc_new ((w.alloc (.cells #[.int .i64 0,.string ⟨#[]⟩,.int .i64 0,.int .i64 0,.slice none 0 0] 43)).alloc (.cells #[.int .i64 0] 30)) (.cells #[.int .i64 0,.int .i64 0] 32)
  simpa using this
theorem C5{w:World}{b:Nat}{x t}(h:w.heap[b]? = some (.cells #[x] t (0,0))):w.cell? ⟨b,0,none⟩=some x/\w.frozen? ⟨b,0,none⟩=false:=by
 obtain⟨h1,h2,h3⟩:=A3 h;exact⟨h2 0,h3 0⟩
theorem Bu{W:World}{b k:Nat}(hk:k≠b)(v0 v1 v2 v3 v4):(((((W.setCell ⟨b,0,none⟩ v0).setCell ⟨b,1,none⟩ v1).setCell ⟨b,2,none⟩ v2).setCell ⟨b,3,none⟩ v3).setCell ⟨b,4,none⟩ v4).heap[k]? = W.heap[k]?:=by
 rw[Af hk,Af hk,Af hk,Af hk,Af hk]
theorem Qu(W):(Instr.typeAssert .nilIface 20 63 true).run Tryz.prog W = .ok (.tuple #[.agg #[.int .i64 0,.int .i64 0,.int .i64 0],.bool false]) W:=by kernel_rfl
theorem N0(W v):(Instr.typeAssert (.iface 63 v) 20 63 true).run Tryz.prog W = .ok (.tuple #[v,.bool true]) W:=by kernel_rfl
theorem Pf(w W n e l c)(h:RdB w W n e l c):
  CallsD Tryz.prog 24 #[.pointer (some ⟨w.heap.size,0,none⟩),.pointer (some ⟨w.heap.size+1,0,none⟩),.pointer (some ⟨w.heap.size+1+1,0,none⟩)] .returning W
   (fun e' u' w'=>e' = .returned (.tuple #[])/\u' = .returning/\RdB w w' n e l c/\Below W.heap.size W w'):=by
 have H:=Lq7 h;have hta:=Qu;refine callsD_of_wpS Tryz.func24 rfl fun c₀ cs hu=>?_;apply wpS_seq;apply wpS_region;simp[wpOpsS,go_sem,recoverD,hu,Tryz.ntmps24,Exit.thenS];refine wpS_of_wp ?_;simp only[Array.replicate_succ,Array.replicate_zero,List.push_toArray,List.append_toArray,List.nil_append,List.cons_append,laA,lsA,lsB];go_wp2_with fail;refine⟨rfl,_,by cases c₀;simp_all,_,results_none rfl _ _ _,rfl,rfl,H.out.later ((bRf _ W).alloc (nlr _) _),(bRf _ W).alloc (nlr _) _⟩
theorem N1(w W x0 x1 x2 x3 x4 e l c ex lx cx)(h:RdB w W #[x0,x1,x2,x3,x4] e l c):
  CallsD Tryz.prog 24 #[.pointer (some ⟨w.heap.size,0,none⟩),.pointer (some ⟨w.heap.size+1,0,none⟩),.pointer (some ⟨w.heap.size+1+1,0,none⟩)] (.panicking [{ v:=Jn ex lx cx,recovered:=false}]) W
   (fun e' u' w'=>e' = .returned (.tuple #[])/\u' = .panicking [{ v:=Jn ex lx cx,recovered:=true}]/\RdB w w' zeroNode ex lx cx):=by
 have H:=Lq7 h;have hta:=N0;unfold Jn;refine callsD_of_wpS Tryz.func24 rfl fun c₀ cs hu=>?_;apply wpS_seq;apply wpS_region;simp[wpOpsS,go_sem,recoverD,hu,Tryz.ntmps24,Exit.thenS];refine wpS_of_wp ?_;simp only[Array.replicate_succ,Array.replicate_zero,List.push_toArray,List.append_toArray,List.nil_append,List.cons_append,laA,lsA,lsB];go_wp2_with fail;have H1:=Lq7 (H.out.later ((bRf _ W).alloc (nlr _) (.cells #[.int .i64 ex,.int .i64 lx,.int .i64 cx] 63)));have aD:=heap_alloc_new W (.cells #[.int .i64 ex,.int .i64 lx,.int .i64 cx] 63);have hsz:w.heap.size+3<=W.heap.size:=by
  have:=(agS.1 H.out.c).1;omega
 generalize hW:W.alloc (.cells #[.int .i64 ex,.int .i64 lx,.int .i64 cx] 63)=W1 at H1 aD |-;generalize hwq:W.heap.size=wb at aD hsz |-;have aG:=Lq7 aD;refine A8 (.s 0 (.s 1 (.s 2 (.s 3 (.s 4 (.h 5 (.h 6 (.h 7 .nil)))))))) 99 (fun W'=>W'.heap[wb]? = some (.cells #[.int .i64 ex,.int .i64 lx,.int .i64 cx] 63 (0,0))) aG.out ?_;have aE:=Lq7 (H1.out.later ((bRf _ W1).drew));have aC:Hid (W1.drew.heap[wb]? = some (.cells #[.int .i64 ex,.int .i64 lx,.int .i64 cx] 63 (0,0))):=Lq7 aG.out;generalize W1.drew=Wd at aE aC |-;refine Ah (.agg #[.int .i64 0,.string ⟨#[]⟩,.int .i64 0,.int .i64 0,.slice none 0 0]) ?_;refine Ah (.pointer (some ⟨wb,0,none⟩)) ?_;refine A2 (.int .i64 ex) ?_;refine Ah (.pointer (some ⟨wb,1,none⟩)) ?_;refine A2 (.agg #[.int .i64 lx,.int .i64 cx]) ?_;obtain⟨r0,r1,r2,r3,r4,r5,r6,r7,r8,r9,r10⟩:=Aa aE.out.a;refine Ac rfl (fun Kx hKx=>?_);go_wp2_with fail;have H2:=Lq7 (aE.out.setA (.int .i64 0) (.string ⟨#[]⟩) (.int .i64 0) (.int .i64 0) (.slice none 0 0));have aA:=Lq7 ((Bu (W:=Wd) (b:=w.heap.size) (k:=wb) (by omega) (.int .i64 0) (.string ⟨#[]⟩) (.int .i64 0) (.int .i64 0) (.slice none 0 0)).trans aC.out);refine hKx _ _ (fun _=>aA.out) ?_;generalize wsC _ _ _=W2 at H2 aA |-;(try simp only[gX,aP]);obtain⟨b0,b1⟩:=C5 H2.out.b;refine Ac rfl (fun Ky hKy=>?_);go_wp2_with fail;have H3:=Lq7 (H2.out.setB ex);have aB:=Lq7 ((Af (w:=W2) (b:=w.heap.size+1) (k:=wb) (by omega) 0 (.int .i64 ex)).trans aA.out);refine hKy _ _ (fun _=>aB.out) ?_;generalize wsC _ _ _=W3 at H3 aB |-;(try simp only[gX,aP]);obtain⟨c0,c1,c2,c3,c4⟩:=A1 H3.out.c;refine Ac rfl (fun Kz hKz=>?_);go_wp2_with fail;have H4:=Lq7 (H3.out.setC lx cx);have aF:=Lq7 (((Af (w:=W3.setCell ⟨w.heap.size+1+1,0,none⟩ (.int .i64 lx)) (b:=w.heap.size+1+1) (k:=wb) (by omega) 1 (.int .i64 cx)).trans (Af (by omega) 0 (.int .i64 lx))).trans aB.out);refine hKz _ _ (fun _=>aF.out) ?_;refine Ao ?_;refine⟨rfl,_,rfl,_,results_none rfl _ _ _,rfl,rfl,H4.out⟩
theorem Qs{l e}(h:Bz l = .error e):e=2\/e=3:=by
 unfold Bz at h;split at h
 ·cases h;exact .inr rfl
 ·split at h
  ·cases h
  ·split at h
   ·cases h
   ·split at h
    ·cases h
    ·split at h
     ·unfold C7 at h;split at h
      ·cases h;exact .inr rfl
      ·split at h
       ·cases h;exact .inl rfl
       ·cases h
     ·split at h
      ·split at h
       ·cases h
       ·cases h;exact .inr rfl
      ·split at h
       ·cases h
       ·split at h
        ·cases h
        ·cases h;exact .inr rfl
theorem tokensL_err:∀(f:Nat) (p:Int×Int) (l:List UInt8) (x:Int×Int×Int),Bt f p l = .error x->x.1=2\/x.1=3
 | 0,_,_,x,h=>by cases h
 | f+1,p,l,x,h=>by
  rw[Bt] at h;split at h
  ·cases h
  ·split at h
   ·rename_i e he
    cases h;exact Qs he
   ·split at h
    ·rename_i e he
     cases h;exact tokensL_err f _ _ _ he
    ·cases h
theorem lexL_err{l x}(h:F7 l = .error x):x.1=2\/x.1=3\/x.1=6:=by
 unfold F7 at h;split at h
 ·cases h;exact .inr (.inr rfl)
 ·rcases tokensL_err _ _ _ _ h with h|h
  ·exact .inl h
  ·exact .inr (.inl h)
theorem Qt{l ts}(h:F7 l = .ok ts):l.length<=65536:=by
 unfold F7 at h;split at h
 ·cases h
 ·omega
theorem readSame(d)(hd:5<=d)(tmps v w):(results Tryz.f11 (tmps.setIfInBounds d v)).run Tryz.prog w=(results Tryz.f11 tmps).run Tryz.prog w:=by
 have h:∀k,k<5->(tmps.setIfInBounds d v).getD k undef=tmps.getD k undef:=fun k hk=>by
  rw[Array.getD_eq_getD_getElem?,Array.getD_eq_getD_getElem?,Array.getElem?_setIfInBounds_ne (by omega)]
 simp only[results,Tryz.results11,List.mapM_toArray,List.mapM_cons,List.mapM_nil,h 2 (by omega),h 3 (by omega),h 4 (by omega)]
theorem readQ{ops:Array Oper}{R:Ending->World->Prop}{Q:Exit->Act->World->Prop}(hq:∀c a w,Q (.panic c) a w=bodyPostD Tryz.prog Tryz.f11 R (.panic c) a w)(hops:(ops.toList.all fun o=>match o.dst with|none=>true|some d=>decide (5<=d))=true):
  ∀(i:Nat) (o:Oper),ops[i]? = some o->∀c a v w,Q (.panic c) (a.put o.dst v) w->Q (.panic c) a w:=by
 intro i o ho c a v w h;rw[hq] at h |-;have hd:=List.all_eq_true.1 hops o (List.mem_of_getElem? (by rw[Array.getElem?_toList];exact ho));cases hdst:o.dst with
 | none=>rw[hdst] at h;exact h
 | some d=>
  rw[hdst] at h hd;have hd5:5<=d:=(by simpa using hd);exact Hh (fun w=>readSame d hd5 a.tmps v w) a.defers _ _ h
theorem read_lex(s w)(hs:s.size<=9223372036854775807)(hw:Ir w)(x)(hl:F7 s.data.toList = .error x):
  Calls Tryz.prog 11 #[.string s] w (PRead s w):=by
 have aB:=My w;have aA:=Lq7 (Q8 s _ hs (hw.below aB.below));have H0:=Lq7 aB;have hx:=lexL_err hl;have hx0:(x.1==0)=false:=(by rw[beq_eq_false_iff_ne];omega);have hx1:(x.1 != 0)=true:=(by rw[bne,hx0];rfl);have Hr:Hid (readL s.data.toList=some (.error x)):=Lq7 (by unfold readL;rw[hl]);have Hl:=Lq7 hl
 go_enter_defers Tryz.func11,Tryz.ntmps11
 go_wp2_with fail;refine aA.out.mono ?_;rintro e w1 ⟨hb1,hq⟩;rw[Hl.out] at hq;obtain rfl:=hq;have H1:=Lq7 (H0.out.later hb1);obtain⟨b0,b1⟩:=C5 H1.out.b;obtain⟨c0,c1,c2,c3,c4⟩:=A1 H1.out.c;have hbl:w.heap.size+1<w1.heap.size:=(agS.1 H1.out.b).1
 go_upto_region 2 with fail
 have H2:=Lq7 ((H1.out.setB x.1).setC x.2.1 x.2.2);generalize wsC _ _ _=W2 at H2 |-;obtain⟨b0,b1⟩:=C5 H2.out.b;go_wp2_with fail;refine Gg (.s 0 (.s 1 (.s 2 (.h 3 (.h 4 (.h 5 .nil)))))) 99 (fun W'=>W'.heap[w.heap.size]? = some (.cells #[.int .i64 0,.string ⟨#[]⟩,.int .i64 0,.int .i64 0,.slice none 0 0] 43 (0,0))/\W'.heap[w.heap.size+1]? = some (.cells #[.int .i64 x.1] 30 (0,0))/\W'.heap[w.heap.size+1+1]? = some (.cells #[.int .i64 x.2.1,.int .i64 x.2.2] 32 (0,0))) (by kernel_rfl) (by kernel_rfl) (readQ (fun _ _ _=>rfl) (by kernel_rfl)) ⟨H2.out.a,H2.out.b,H2.out.c⟩ ?_;have H3:=Lq7 (H2.out.later ((bRf _ W2).drew));generalize W2.drew=W3 at H3 |-;refine A6 (.agg #[.int .i64 0,.string ⟨#[]⟩,.int .i64 0,.int .i64 0,.slice none 0 0]) (fun W' hS=>?_) ?_
 ·obtain⟨s0,s1,s2,s3,s4,s5,s6,s7,s8,s9,s10⟩:=Aa hS.1;go_simp
 refine A6 (.int .i64 x.1) (fun W' hS=>?_) ?_
 ·obtain⟨s0,s1⟩:=C5 hS.2.1;go_simp
 refine A6 (.agg #[.int .i64 x.2.1,.int .i64 x.2.2]) (fun W' hS=>?_) ?_
 ·obtain⟨s0,s1,s2,s3,s4⟩:=A1 hS.2.2;go_simp
 obtain⟨r0,r1,r2,r3,r4,r5,r6,r7,r8,r9,r10⟩:=Aa H3.out.a;refine Ac rfl (fun Kx hKx=>?_);go_wp2_with fail;have H4:=Lq7 (H3.out.setA (.int .i64 0) (.string ⟨#[]⟩) (.int .i64 0) (.int .i64 0) (.slice none 0 0));refine hKx _ _ (fun _=>⟨H4.out.a,H4.out.b,H4.out.c⟩) ?_;generalize wsC _ _ _=W4 at H4 |-;(try simp only[gX,aP]);obtain⟨b0,b1⟩:=C5 H4.out.b;refine Ac rfl (fun Ky hKy=>?_);go_wp2_with fail;have H5:=Lq7 (H4.out.setB x.1);refine hKy _ _ (fun _=>⟨H5.out.a,H5.out.b,H5.out.c⟩) ?_;generalize wsC _ _ _=W5 at H5 |-;(try simp only[gX,aP]);obtain⟨c0,c1,c2,c3,c4⟩:=A1 H5.out.c;refine Ac rfl (fun Kz hKz=>?_);go_wp2_with fail;have H6:=Lq7 (H5.out.setC x.2.1 x.2.2);refine hKz _ _ (fun _=>⟨H6.out.a,H6.out.b,H6.out.c⟩) ?_;generalize wsC _ _ _=W6 at H6 |-;refine Ao ?_;(try simp only[gX,aP]);go_wp2_with fail;obtain⟨r0,r1,r2,r3,r4,r5,r6,r7,r8,r9,r10⟩:=Aa H6.out.a;obtain⟨b0,b1⟩:=C5 H6.out.b;obtain⟨c0,c1,c2,c3,c4⟩:=A1 H6.out.c;refine⟨.tuple #[.agg zeroNode,.int .i64 x.1,.agg #[.int .i64 x.2.1,.int .i64 x.2.2]],by simp[zeroNode,results,Tryz.results11,go_sem,r1,r2,r3,r4,r5,b0,c1,c2],?_⟩;refine⟨H6.out.below,?_⟩;rw[Hr.out]
theorem RdB.call{w W W' n e l c bp}(h:RdB w W n e l c)(hg:W.grownBy W' (some bp))(hb:w.heap.size+3<=bp):RdB w W' n e l c:=by
 have hs:=(agS.1 h.c).1;have hk:∀k,k<w.heap.size+3->W'.heap[k]? = W.heap[k]?:=fun k hk=>hg.block k (by omega) (fun e=>by cases e;omega);exact⟨⟨hg.os.trans h.below.os,hg.tape.trans h.below.tape,hg.output.trans h.below.output,Nat.le_trans h.below.size hg.size,fun k hl=>(hk k (by omega)).trans (h.below.block k hl)⟩,(hk _ (by omega)).trans h.a,(hk _ (by omega)).trans h.b,(hk _ (by omega)).trans h.c⟩
theorem read_ok(s w)(hs:s.size<=9223372036854775807)(hw:Ir w)(ts)(hl:F7 s.data.toList = .ok ts)(hne:readL s.data.toList≠none):
  Calls Tryz.prog 11 #[.string s] w (PRead s w):=by
 have hmf:∀(fn:Fn) (first cap:Array Value) (w:World),(Instr.makeFunc fn first cap).run Tryz.prog w = .ok (.func fn first cap) w:=fun _ _ _ _=>rfl;have bH:=My w;have bB:=Lq7 (Q8 s _ hs (hw.below bH.below));have H0:=Lq7 bH;have aA:=Qt hl;have hfew:=lexL_few hl;rw[Av] at aA;have Hl:=Lq7 hl;have bC:Hid (C4 (Jo s.data.toList) (lvl (Jo s.data.toList) (ts.length+2)) [] ts 0 ≠ .out):=Lq7 (fun h=>hne (by unfold readL;rw[hl];simp only[h]))
 go_enter_defers Tryz.func11,Tryz.ntmps11
 go_wp2_with fail;refine bB.out.mono ?_;rintro e w1 ⟨hb1,hq⟩;rw[Hl.out] at hq;obtain⟨a,cap,rfl,hcap,aG⟩:=hq;have H1:=Lq7 (H0.out.later hb1);have aQ:=Lq7 hcap;have bD:=Lq7 aG;obtain⟨b0,b1⟩:=C5 H1.out.b;obtain⟨c0,c1,c2,c3,c4⟩:=A1 H1.out.c;have hbl:w.heap.size+1<w1.heap.size:=(agS.1 H1.out.b).1
 go_upto_region 2 with fail
 have H2:=Lq7 ((H1.out.setB 0).setC 0 0);have aC:Hid (Ag (fun b=>w.heap.size+3<=b) (((w1.setCell ⟨w.heap.size+1,0,none⟩ (.int .i64 0)).setCell ⟨w.heap.size+1+1,0,none⟩ (.int .i64 0)).setCell ⟨w.heap.size+1+1,1,none⟩ (.int .i64 0)) a (ts.map Jh)):=Lq7 (bD.out.mono fun b hb hl=>by
  have hb':w.heap.size+3<=b:=(by simpa using hb);exact⟨hb',by simpa using hl,by rw[Af (by omega),Af (by omega),Af (by omega)]⟩)
 generalize wsC _ _ _=W2 at H2 aC |-;obtain⟨b0,b1⟩:=C5 H2.out.b;have bE:=Lq7 (end_any s W2 aA);go_wp2_with fail;refine bE.out.mono ?_;rintro e W3 ⟨rfl,bI⟩;have H3:=Lq7 (H2.out.later bI);have aR:=Lq7 (aC.out.below bI);generalize hen:Jo s.data.toList=en at bC |-;have bJ:=Lq7 hen;have aS:w.heap.size+3<=W3.heap.size:=by
  have:=(agS.1 H3.out.c).1;omega
 go_upto_region 7 with fail
 have bL:Below W3.heap.size W3 ((W3.alloc (.cells #[.slice a ts.length cap,.int .i64 en.1,.int .i64 en.2,.int .i64 0] 68)).alloc (.cells #[.int .i64 0,.string ⟨#[]⟩,.int .i64 1,.int .i64 1] 70)):=((bRf _ W3).alloc (nlr _) _).alloc (by simp) _;have H4:=Lq7 (H3.out.later bL);have bF:Hid (PS ((W3.alloc (.cells #[.slice a ts.length cap,.int .i64 en.1,.int .i64 en.2,.int .i64 0] 68)).alloc (.cells #[.int .i64 0,.string ⟨#[]⟩,.int .i64 1,.int .i64 1] 70)) W3.heap.size en ts 0):=Lq7
  ⟨a,cap,by rw[Below.heap_alloc _ _ _ (by simp)];exact heap_alloc_new W3 _,⟨aQ.out.1,by omega⟩,aQ.out.2,(aR.out.here.below bL).wider (fun b hb _=>hb.2)⟩
 have bA:Hid (((W3.alloc (.cells #[.slice a ts.length cap,.int .i64 en.1,.int .i64 en.2,.int .i64 0] 68)).alloc (.cells #[.int .i64 0,.string ⟨#[]⟩,.int .i64 1,.int .i64 1] 70)).heap[W3.heap.size+1]? = some (.cells #[.int .i64 0,.string ⟨#[]⟩,.int .i64 1,.int .i64 1] 70 (0,0))):=Lq7 (by
  have:=heap_alloc_new (W3.alloc (.cells #[.slice a ts.length cap,.int .i64 en.1,.int .i64 en.2,.int .i64 0] 68)) (.cells #[.int .i64 0,.string ⟨#[]⟩,.int .i64 1,.int .i64 1] 70)
  simpa using this)
 generalize hbp:W3.heap.size=bp at aS bF bA |-;generalize World.alloc _ _=W4 at H4 bF bA |-;refine Gg (.s 0 (.s 1 (.s 4 (.h 2 (.h 3 (.h 5 (.h 6 (.h 7 .nil)))))))) 99 (fun W'=>W'.heap[bp+1]? = some (.cells #[.int .i64 0,.string ⟨#[]⟩,.int .i64 1,.int .i64 1] 70 (0,0))) (by kernel_rfl) (by kernel_rfl) (readQ (fun _ _ _=>rfl) (by kernel_rfl)) bA.out ?_;have H5:=Lq7 (H4.out.later ((bRf _ W4).drew));have aH:=Lq7 (bF.out.grown ((bRf _ W4).drew));have aI:Hid (W4.drew.heap[bp+1]? = some (.cells #[.int .i64 0,.string ⟨#[]⟩,.int .i64 1,.int .i64 1] 70 (0,0))):=Lq7 bA.out;generalize W4.drew=W5 at H5 aH aI |-;refine A2 (.agg #[.int .i64 0,.string ⟨#[]⟩,.int .i64 1,.int .i64 1]) ?_;refine Ah (.pointer (some ⟨bp,0,none⟩)) ?_;refine Ah (.agg #[.int .i64 0,.int .i64 0]) ?_;have bM:=Lq7 (Mx bp ⟨#[]⟩ en (lvl en (ts.length+2)) (Gz.lvl en _) (Pe bp en (ts.length+2)).2.2 W5 ts 0 aH.out (by omega) (by omega) bC.out);unfold ptr at bM;refine Ac rfl (fun Kx hKx=>?_);go_wp2_with fail;refine bM.out.mono ?_;rintro e W6 ⟨aU,hq⟩;have H6:=Lq7 (H5.out.call aU aS);have aJ:=Lq7 ((aU.block (bp+1) (agS.1 aI.out).1 (fun e=>by cases e)).trans aI.out);have hbl6:bp<W5.heap.size:=aH.out.lt;have hs6:=aU.size;cases hm:C4 en (lvl en (ts.length+2)) [] ts 0 with
 | out=>exact absurd hm bC.out
 | err x l c=>
  have hq':PP bp en (Kd W5.heap.size) (.err x l c) W5 e W6:=(by rw[<-hm];exact⟨aU,hq⟩);obtain rfl:=hq'.2;have Hr:Hid (readL s.data.toList=some (.error (x,l,c))):=Lq7 (by unfold readL;rw[Hl.out];simp only[bJ.out,hm]);refine leaves_cons (f:=24) (args:=#[.pointer (some ⟨w.heap.size,0,none⟩),.pointer (some ⟨w.heap.size+1,0,none⟩),.pointer (some ⟨w.heap.size+1+1,0,none⟩)]) (by simp) (by simp[go_sem]) ?_;refine(N1 w W6 _ _ _ _ _ _ _ _ x l c H6.out).mono ?_;rintro e u w2 ⟨rfl,rfl,h2⟩;obtain⟨r0,r1,r2,r3,r4,r5,r6,r7,r8,r9,bN⟩:=Aa h2.a;obtain⟨b0,b1⟩:=C5 h2.b;obtain⟨c0,c1,c2,c3,c4⟩:=A1 h2.c;refine⟨.tuple #[.agg zeroNode,.int .i64 x,.agg #[.int .i64 l,.int .i64 c]],by simp[zeroNode,results,Tryz.results11,go_sem,r1,r2,r3,r4,r5,b0,c1,c2],?_⟩;refine⟨h2.below,?_⟩;rw[Hr.out]
 | ok x ts' dp'=>
  have hq':PP bp en (Kd W5.heap.size) (.ok x ts' dp') W5 e W6:=(by rw[<-hm];exact⟨aU,hq⟩);obtain⟨-,-,v,rfl,a2,aB,rfl,aG⟩:=hq';have Hr:Hid (readL s.data.toList=some (.ok (.mk 1 ⟨#[]⟩ 1 1 x))):=Lq7 (by unfold readL;rw[Hl.out];simp only[bJ.out,hm]);have aV:=Lq7 aG;go_wp2_with fail;refine hKx _ _ (fun _=>aJ.out) ?_;(try simp only[gX,aP]);have bO:=Lq7 (Bo 1 ⟨0,⟨#[]⟩,1,1⟩ ⟨#[]⟩ a2 x.length aB W6);unfold tokV Cx at bO;refine Ac rfl (fun Ky hKy=>?_);go_wp2_with fail;refine bO.out.mono ?_;rintro e W7 ⟨rfl,bG⟩;have H7:=Lq7 (H6.out.later bG);have aW:=Lq7 ((bG.block _ (agS.1 aJ.out).1).trans aJ.out);have aY:=Lq7 (aV.out.below bG);go_wp2_with fail;refine hKy _ _ (fun _=>aW.out) ?_;(try simp only[gX,aP]);obtain⟨r0,r1,r2,r3,r4,r5,r6,r7,r8,r9,bN⟩:=Aa H7.out.a;refine Ac rfl (fun Kz hKz=>?_);go_wp2_with fail;have H8:=Lq7 (H7.out.setA (.int .i64 1) (.string ⟨#[]⟩) (.int .i64 1) (.int .i64 1) (.slice a2 x.length aB));have aM:=Lq7 ((Bu (W:=W7) (b:=w.heap.size) (k:=bp+1) (by omega) (.int .i64 1) (.string ⟨#[]⟩) (.int .i64 1) (.int .i64 1) (.slice a2 x.length aB)).trans aW.out);have aD:Hid (Ag (fun b=>w.heap.size+3<=b) (((((W7.setCell ⟨w.heap.size,0,none⟩ (.int .i64 1)).setCell ⟨w.heap.size,1,none⟩ (.string ⟨#[]⟩)).setCell ⟨w.heap.size,2,none⟩ (.int .i64 1)).setCell ⟨w.heap.size,3,none⟩ (.int .i64 1)).setCell ⟨w.heap.size,4,none⟩ (.slice a2 x.length aB)) a2 (Az x)):=Lq7 (aY.out.mono fun b hb hl=>⟨by omega,by simpa using hl,Bu (by omega) _ _ _ _ _⟩);refine hKz _ _ (fun _=>aM.out) ?_;generalize wsC _ _ _=W8 at H8 aM aD |-;(try simp only[gX,aP]);obtain⟨b0,b1⟩:=C5 H8.out.b;refine Ac rfl (fun Ku hKu=>?_);go_wp2_with fail;have H9:=Lq7 (H8.out.setB 0);have aN:=Lq7 ((Af (w:=W8) (b:=w.heap.size+1) (k:=bp+1) (by omega) 0 (.int .i64 0)).trans aM.out);have aE:Hid (Ag (fun b=>w.heap.size+3<=b) (W8.setCell ⟨w.heap.size+1,0,none⟩ (.int .i64 0)) a2 (Az x)):=Lq7 (aD.out.mono fun b hb hl=>⟨hb,by simpa using hl,Af (by omega) _ _⟩);refine hKu _ _ (fun _=>aN.out) ?_;generalize wsC _ _ _=W9 at H9 aN aE |-;(try simp only[gX,aP]);obtain⟨c0,c1,c2,c3,c4⟩:=A1 H9.out.c;refine Ac rfl (fun Kv hKv=>?_);go_wp2_with fail;have Ha:=Lq7 (H9.out.setC 0 0);have aZ:=Lq7 (((Af (w:=W9.setCell ⟨w.heap.size+1+1,0,none⟩ (.int .i64 0)) (b:=w.heap.size+1+1) (k:=bp+1) (by omega) 1 (.int .i64 0)).trans (Af (by omega) 0 (.int .i64 0))).trans aN.out);have aF:Hid (Ag (fun b=>w.heap.size+3<=b) ((W9.setCell ⟨w.heap.size+1+1,0,none⟩ (.int .i64 0)).setCell ⟨w.heap.size+1+1,1,none⟩ (.int .i64 0)) a2 (Az x)):=Lq7 (aE.out.mono fun b hb hl=>⟨hb,by simpa using hl,by rw[Af (by omega),Af (by omega)]⟩);refine hKv _ _ (fun _=>aZ.out) ?_;generalize wsC _ _ _=Wa at Ha aZ aF |-;refine Ao ?_;(try simp only[gX,aP]);go_wp2_with fail;refine leaves_cons (f:=24) (args:=#[.pointer (some ⟨w.heap.size,0,none⟩),.pointer (some ⟨w.heap.size+1,0,none⟩),.pointer (some ⟨w.heap.size+1+1,0,none⟩)]) (by simp) (by simp[go_sem]) ?_;refine(Pf w Wa _ _ _ _ Ha.out).mono ?_;rintro e u w2 ⟨rfl,rfl,h2,hb2⟩;obtain⟨r0,r1,r2,r3,r4,r5,r6,r7,r8,r9,bN⟩:=Aa h2.a;obtain⟨b0,b1⟩:=C5 h2.b;obtain⟨c0,c1,c2,c3,c4⟩:=A1 h2.c;refine⟨.tuple #[.agg #[.int .i64 1,.string ⟨#[]⟩,.int .i64 1,.int .i64 1,.slice a2 x.length aB],.int .i64 0,.agg #[.int .i64 0,.int .i64 0]],by simp[results,Tryz.results11,go_sem,r1,r2,r3,r4,r5,b0,c1,c2],?_⟩;refine⟨h2.below,?_⟩;rw[Hr.out];exact⟨_,rfl,A0.mk _ _ _ _ _ ((aF.out.below hb2).wider (fun b hb _=>by omega))⟩
theorem read_any(s w)(hs:s.size<=9223372036854775807)(hw:Ir w)(hne:readL s.data.toList≠none):
  Calls Tryz.prog 11 #[.string s] w (PRead s w):=by
 cases hl:F7 s.data.toList with
 | error x=>exact read_lex s w hs hw x hl
 | ok ts=>exact read_ok s w hs hw ts hl hne
end Go.Proofs.YtkehdallfohjfaaGreatDoor
