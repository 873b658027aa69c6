/-
  The walk of the statement EvalSteps. (And what it stands on.)
-/
import Derived.Test.YtlbbbapiklendaaGreatDoorMPgH
import Derived.Test.YtlbbbapiklendaaGreatDoorMParseX
import Derived.Test.YtlbbbapiklendaaGreatDoorMParseNz
import Derived.Test.YtlbbbapiklendaaGreatDoorMPgA
import Derived.Test.YtlbbbapiklendaaGreatDoorMSame12
import Derived.Test.YtlbbbapiklendaaGreatDoorMBackG
namespace Go.Proofs.YtlbbbapiklendaaGreatDoor
open Go.IntKind renaming i64->C
open Go.Value renaming int->A,string->E,slice->D,pointer->M
open Go.Obj renaming cells->I
open Option renaming some->J,none->L
open Go Go.RowKit
open List renaming length_cons->lnC,length_append->lnA,length_nil->lnN,set_cons_zero->lsA,set_cons_succ->lsB,length_map->lnM
open Nat renaming le_refl->nlr,le_trans->nlt,zero_mul->nzm,add_zero->naz
open Go.Lib renaming hid->Lq7
open And renaming intro->aIn
open Go.RowKit.Below renaming refl->bRf
set_option maxRecDepth 100000
set_option maxHeartbeats 16000000
theorem fi_one(x):fiP [x]=exP x:=by rw[fiP]
theorem Aag(d t ln c x)(hX:Dw 93 d exP x):Dw 48 d (stP d) (.mk 2 t ln c [x]):=by
 have hN:=named_put d 2 t ln c x hX;have aD:Aq (stP d (.mk 2 t ln c [x]))=Aq (arP (.mk 2 t ln c [x]))++[59]:=by
  rw[stP,if_pos rfl,Bk];rfl
 intro F v w B b l hn hF hp hB hlen;obtain⟨a,cap,rfl,hr⟩:=hn.open;have aY:=hp.facts.2.2.2;have HF:=Lq7 hF;have HB:=Lq7 hB;have Hr:=Lq7 (fun(W:World) (hk:Kp B b w W)=>hr.kp hF hk);obtain⟨kb,off,k2,t2,l2,c2,a2,n2,p2,rfl,hbl,r0,r1,r2,r3,r4,-,-,-,-,-,hv,-⟩:=kidY (g:=93) (j:=0) (x:=x) hr rfl;have Hv:=Lq7 (fun(W:World) (hk:Kp B b w W)=>hv.kp hF hk);simp only[nzm,naz] at r0 r1 r2 r3 r4;have aR:Below w.heap.size w (w.alloc (I #[A C 2,E t,A C ln,A C c,D (J ⟨kb,off,L⟩) 1 cap] 27)):=(bRf _ _).alloc (nlr _) _;have aH:Below (w.alloc (I #[A C 2,E t,A C ln,A C c,D (J ⟨kb,off,L⟩) 1 cap] 27)).heap.size (w.alloc (I #[A C 2,E t,A C ln,A C c,D (J ⟨kb,off,L⟩) 1 cap] 27)) ((w.alloc (I #[A C 2,E t,A C ln,A C c,D (J ⟨kb,off,L⟩) 1 cap] 27)).alloc (I #[A C k2,E t2,A C l2,A C c2,D a2 n2 p2] 27)):=(bRf _ _).alloc (nlr _) _;have aJ:(w.alloc (I #[A C 2,E t,A C ln,A C c,D (J ⟨kb,off,L⟩) 1 cap] 27)).heap.size=w.heap.size+1:=(by simp);have H0:=Lq7 (aIn (stays (heap_alloc_new w (I #[A C 2,E t,A C ln,A C c,D (J ⟨kb,off,L⟩) 1 cap] 27)) aH) (aIn (aJ▸heap_alloc_new (w.alloc (I #[A C 2,E t,A C ln,A C c,D (J ⟨kb,off,L⟩) 1 cap] 27)) (I #[A C k2,E t2,A C l2,A C c2,D a2 n2 p2] 27)) (aIn ((hp.alloc (I #[A C 2,E t,A C ln,A C c,D (J ⟨kb,off,L⟩) 1 cap] 27)).alloc (I #[A C k2,E t2,A C l2,A C c2,D a2 n2 p2] 27)) (((Kp.refl B b w).alloc hB (I #[A C 2,E t,A C ln,A C c,D (J ⟨kb,off,L⟩) 1 cap] 27)).alloc hB (I #[A C k2,E t2,A C l2,A C c2,D a2 n2 p2] 27)))));clear aR aH aJ;have bG:=aD;rw[aD,lnA] at hlen;have aA:=Lq7 hlen;have aQ:=Lq7 aD;have bQ:=Lq7 (fun(W:World) (l':List UInt8) (hk:Kp B b w W) (hpw:Bw B b d (Lib.byteCells l') W) (hl:l'.length+(Aq (arP (.mk 2 t ln c [x]))).length<=1000000000)=>hN F _ W B b l' (hn.kp hF hk) hF hpw (nlt hB hk.size) hl);rw[show [x].length=1 from rfl] at bQ |-;clear hn hF hp hB hlen aD bG hr hN hX hv;go_enter Tryz.func48,Tryz.ntmps48;have aU:=Lq7 (bQ.out _ l H0.out.2.2.2 H0.out.2.2.1 (by have:=aA.out;simp only[lnC,lnN] at this |-;omega));go_wp2_with fail;refine aU.out.mono ?_;rintro e w1 ⟨rfl,h1,aB⟩;have H1:=Lq7 (aIn (aB.stay H0.out.1 (by decide) (by omega)) (aIn (aB.stay H0.out.2.1 (by decide) (by omega)) (aIn h1 (H0.out.2.2.2.trans aB))));clear h1 aB aU;have aM:=Lq7 (Er (B:=B) (b:=b) (tb:=d) 59 59 rfl H1.out.2.2.1 (by have:=aA.out;simp only[lnA,lnC,lnN] at this |-;omega) (nlt HB.out H1.out.2.2.2.size));go_wp2_with fail;refine aM.out.mono ?_;rintro e w2 ⟨rfl,h2,aC⟩;have H2:=Lq7 (aIn (aC.stay H1.out.1 (by decide) (by omega)) (aIn (aC.stay H1.out.2.1 (by decide) (by omega)) (aIn h2 (H1.out.2.2.2.trans aC))));clear h2 aC aM;go_wp2_with fail
 go_end0
 refine⟨rfl,?_,H2.out.2.2.2⟩;rw[aQ.out];have h9:=H2.out.2.2.1;simp only[List.append_assoc] at h9 |-;exact h9
theorem st_do(d t ln c x)(hX:Dw 93 d exP x):Dw 48 d (stP d) (.mk 3 t ln c [x]):=by
 have aD:Aq (stP d (.mk 3 t ln c [x]))=Aq (exP x)++[59]:=by
  rw[stP,if_neg (by decide),if_pos rfl,Bk,fi_one];rfl
 intro F v w B b l hn hF hp hB hlen;obtain⟨a,cap,rfl,hr⟩:=hn.open;have aY:=hp.facts.2.2.2;have HF:=Lq7 hF;have HB:=Lq7 hB;have Hr:=Lq7 (fun(W:World) (hk:Kp B b w W)=>hr.kp hF hk);obtain⟨kb,off,k2,t2,l2,c2,a2,n2,p2,rfl,hbl,r0,r1,r2,r3,r4,-,-,-,-,-,hv,-⟩:=kidY (g:=93) (j:=0) (x:=x) hr rfl;have Hv:=Lq7 (fun(W:World) (hk:Kp B b w W)=>hv.kp hF hk);simp only[nzm,naz] at r0 r1 r2 r3 r4;have aR:Below w.heap.size w (w.alloc (I #[A C 3,E t,A C ln,A C c,D (J ⟨kb,off,L⟩) 1 cap] 27)):=(bRf _ _).alloc (nlr _) _;have aH:Below (w.alloc (I #[A C 3,E t,A C ln,A C c,D (J ⟨kb,off,L⟩) 1 cap] 27)).heap.size (w.alloc (I #[A C 3,E t,A C ln,A C c,D (J ⟨kb,off,L⟩) 1 cap] 27)) ((w.alloc (I #[A C 3,E t,A C ln,A C c,D (J ⟨kb,off,L⟩) 1 cap] 27)).alloc (I #[A C k2,E t2,A C l2,A C c2,D a2 n2 p2] 27)):=(bRf _ _).alloc (nlr _) _;have aJ:(w.alloc (I #[A C 3,E t,A C ln,A C c,D (J ⟨kb,off,L⟩) 1 cap] 27)).heap.size=w.heap.size+1:=(by simp);have H0:=Lq7 (aIn (stays (heap_alloc_new w (I #[A C 3,E t,A C ln,A C c,D (J ⟨kb,off,L⟩) 1 cap] 27)) aH) (aIn (aJ▸heap_alloc_new (w.alloc (I #[A C 3,E t,A C ln,A C c,D (J ⟨kb,off,L⟩) 1 cap] 27)) (I #[A C k2,E t2,A C l2,A C c2,D a2 n2 p2] 27)) (aIn ((hp.alloc (I #[A C 3,E t,A C ln,A C c,D (J ⟨kb,off,L⟩) 1 cap] 27)).alloc (I #[A C k2,E t2,A C l2,A C c2,D a2 n2 p2] 27)) (((Kp.refl B b w).alloc hB (I #[A C 3,E t,A C ln,A C c,D (J ⟨kb,off,L⟩) 1 cap] 27)).alloc hB (I #[A C k2,E t2,A C l2,A C c2,D a2 n2 p2] 27)))));clear aR aH aJ;rw[aD,lnA] at hlen;have aA:=Lq7 hlen;have aQ:=Lq7 aD;have HX:=Lq7 (fun(W:World) (l':List UInt8) (v:Value) (hk:Kp B b w W) (hv:A2 F W x v) (hpw:Bw B b d (Lib.byteCells l') W) (hl:l'.length+(Aq (exP x)).length<=1000000000)=>hX F v W B b l' hv hF hpw (nlt hB hk.size) hl);rw[show [x].length=1 from rfl];clear hn hF hp hB hlen aD hr hX hv;go_enter Tryz.func48,Tryz.ntmps48;have aU:=Lq7 (HX.out _ l _ H0.out.2.2.2 (Hv.out _ H0.out.2.2.2) H0.out.2.2.1 (by have:=aA.out;simp only[lnC,lnN] at this |-;omega));go_wp2_with fail;refine aU.out.mono ?_;rintro e w1 ⟨rfl,h1,aB⟩;have H1:=Lq7 (aIn (aB.stay H0.out.1 (by decide) (by omega)) (aIn (aB.stay H0.out.2.1 (by decide) (by omega)) (aIn h1 (H0.out.2.2.2.trans aB))));clear h1 aB aU;have aM:=Lq7 (Er (B:=B) (b:=b) (tb:=d) 59 59 rfl H1.out.2.2.1 (by have:=aA.out;simp only[lnA,lnC,lnN] at this |-;omega) (nlt HB.out H1.out.2.2.2.size));go_wp2_with fail;refine aM.out.mono ?_;rintro e w2 ⟨rfl,h2,aC⟩;have H2:=Lq7 (aIn (aC.stay H1.out.1 (by decide) (by omega)) (aIn (aC.stay H1.out.2.1 (by decide) (by omega)) (aIn h2 (H1.out.2.2.2.trans aC))));clear h2 aC aM;go_wp2_with fail
 go_end0
 refine⟨rfl,?_,H2.out.2.2.2⟩;rw[aQ.out];have h9:=H2.out.2.2.1;simp only[List.append_assoc] at h9 |-;exact h9
theorem st_for(d t ln c x y)(hX:Dw 93 d exP x)(hY:Dw 94 d (blP d) y):Dw 48 d (stP d) (.mk 4 t ln c [x,y]):=by
 have aD:Aq (stP d (.mk 4 t ln c [x,y]))=[102,111,114,32]++t.data.toList++[32,105,110,32]++(Aq (exP x)++([32]++Aq (blP d y))):=by
  rw[stP,if_neg (by decide),if_neg (by decide),if_pos rfl,Bk,Bk,fiP,Ci,show laP d [x,y]=blP d y from I4 d [x] y];simp[Aq,pW,sp,Pc.raw,forW,inW]
 intro F v w B b l hn hF hp hB hlen;obtain⟨a,cap,rfl,hr⟩:=hn.open;have aY:=hp.facts.2.2.2;have HF:=Lq7 hF;have HB:=Lq7 hB;have Hr:=Lq7 (fun(W:World) (hk:Kp B b w W)=>hr.kp hF hk);obtain⟨kb,off,k2,t2,l2,c2,a2,n2,p2,rfl,hbl,r0,r1,r2,r3,r4,-,-,-,-,-,hv,-⟩:=kidY (g:=93) (j:=1) (x:=y) hr rfl;have Hv:=Lq7 (fun(W:World) (hk:Kp B b w W)=>hv.kp hF hk);simp only[Nat.one_mul] at r0 r1 r2 r3 r4;have aR:Below w.heap.size w (w.alloc (I #[A C 4,E t,A C ln,A C c,D (J ⟨kb,off,L⟩) 2 cap] 27)):=(bRf _ _).alloc (nlr _) _;have aH:Below (w.alloc (I #[A C 4,E t,A C ln,A C c,D (J ⟨kb,off,L⟩) 2 cap] 27)).heap.size (w.alloc (I #[A C 4,E t,A C ln,A C c,D (J ⟨kb,off,L⟩) 2 cap] 27)) ((w.alloc (I #[A C 4,E t,A C ln,A C c,D (J ⟨kb,off,L⟩) 2 cap] 27)).alloc (I #[A C k2,E t2,A C l2,A C c2,D a2 n2 p2] 27)):=(bRf _ _).alloc (nlr _) _;have aJ:(w.alloc (I #[A C 4,E t,A C ln,A C c,D (J ⟨kb,off,L⟩) 2 cap] 27)).heap.size=w.heap.size+1:=(by simp);have H0:=Lq7 (aIn (stays (heap_alloc_new w (I #[A C 4,E t,A C ln,A C c,D (J ⟨kb,off,L⟩) 2 cap] 27)) aH) (aIn (aJ▸heap_alloc_new (w.alloc (I #[A C 4,E t,A C ln,A C c,D (J ⟨kb,off,L⟩) 2 cap] 27)) (I #[A C k2,E t2,A C l2,A C c2,D a2 n2 p2] 27)) (aIn ((hp.alloc (I #[A C 4,E t,A C ln,A C c,D (J ⟨kb,off,L⟩) 2 cap] 27)).alloc (I #[A C k2,E t2,A C l2,A C c2,D a2 n2 p2] 27)) (((Kp.refl B b w).alloc hB (I #[A C 4,E t,A C ln,A C c,D (J ⟨kb,off,L⟩) 2 cap] 27)).alloc hB (I #[A C k2,E t2,A C l2,A C c2,D a2 n2 p2] 27)))));clear aR aH aJ;have aZ:=Lq7 (fun(W:World) (hk:Kp B b w W)=>kidY (g:=93) (j:=0) (x:=x) (Hr.out W hk) rfl);rw[aD] at hlen;have aA:=Lq7 hlen;have aQ:=Lq7 aD;have HX:=Lq7 (fun(W:World) (l':List UInt8) (v:Value) (hk:Kp B b w W) (hv:A2 F W x v) (hpw:Bw B b d (Lib.byteCells l') W) (hl:l'.length+(Aq (exP x)).length<=1000000000)=>hX F v W B b l' hv hF hpw (nlt hB hk.size) hl);have HY:=Lq7 (fun(W:World) (l':List UInt8) (v:Value) (hk:Kp B b w W) (hv:A2 F W y v) (hpw:Bw B b d (Lib.byteCells l') W) (hl:l'.length+(Aq (blP d y)).length<=1000000000)=>hY F v W B b l' hv hF hpw (nlt hB hk.size) hl);rw[show [x,y].length=2 from rfl];clear hn hF hp hB hlen aD hr hX hv hY;go_enter Tryz.func48,Tryz.ntmps48;have htz:t.size<=1000000000:=(by have:=aA.out;simp only[lnA,lnC,lnN] at this;rw[Ai] at this;omega);have bH:4+t.size<=9223372036854775807:=(by omega);have bI:4+t.size+4<=9223372036854775807:=(by omega);have bJ:t.size<=9223372036854775803:=(by omega);have bL:4+t.size<=9223372036854775803:=(by omega)
 go_upto_region 10 with fail
 generalize World.alloc _ _=W0 at H0 |-;refine Ba (.s 0 (.s 1 (.s 2 (.s 3 (.s 4 (.s 5 (.s 6 (.h 7 .nil)))))))) 99 (fun W'=>W'.heap[w.heap.size]? = J (I #[A C 4,E t,A C ln,A C c,D (J ⟨kb,off,L⟩) 2 cap] 27 (0,0))/\W'.heap[w.heap.size+1]? = J (I #[A C k2,E t2,A C l2,A C c2,D a2 n2 p2] 27 (0,0))) ⟨H0.out.1,H0.out.2.1⟩ ?_;have Hd:Hid (W0.drew.heap[w.heap.size]? = J (I #[A C 4,E t,A C ln,A C c,D (J ⟨kb,off,L⟩) 2 cap] 27 (0,0))/\W0.drew.heap[w.heap.size+1]? = J (I #[A C k2,E t2,A C l2,A C c2,D a2 n2 p2] 27 (0,0))/\Bw B b d (Lib.byteCells l) W0.drew/\Kp B b w W0.drew):=Lq7 ⟨H0.out.1,H0.out.2.1,H0.out.2.2.1.drew,H0.out.2.2.2.drew⟩;generalize W0.drew=W1 at Hd |-;refine Ag (M (J ⟨b,0,L⟩)) ?_;refine Ag (M (J ⟨b,0,L⟩)) ?_;refine Ag (M (J ⟨b,0,L⟩)) ?_;refine Ag (M (J ⟨w.heap.size,1,L⟩)) ?_;refine Bl (E t) (fun W' hS=>?_) ?_
 ·obtain⟨bA,bM⟩:=hS;obtain⟨z0,z1,z2,z3,z4,z5,-⟩:=Aa bA;clear bA bM;go_simp
 refine Ag (E (⟨#[102,111,114,32]⟩++t)) ?_;refine Ag (E ((⟨#[102,111,114,32]⟩++t)++⟨#[32,105,110,32]⟩)) ?_;have HP:=Lq7 (Da ((⟨#[102,111,114,32]⟩++t)++⟨#[32,105,110,32]⟩) Hd.out.2.2.1 (by rw[ByteArray.size_append,ByteArray.size_append];have:=aA.out;simp only[lnA,lnC,lnN] at this;rw[Ai] at this;show _+(4+t.size+4)<=_;omega) (nlt HB.out Hd.out.2.2.2.size));refine Ad rfl (fun Kx bB=>?_);go_wp2_with fail;refine HP.out.mono ?_;rintro e w1 ⟨rfl,h1,aB⟩;have H1:=Lq7 (aIn (aB.stay Hd.out.1 (by decide) (by omega)) (aIn (aB.stay Hd.out.2.1 (by decide) (by omega)) (aIn h1 (Hd.out.2.2.2.trans aB))));clear h1 aB HP;go_wp2_with fail;refine bB _ _ (fun _=>⟨H1.out.1,H1.out.2.1⟩) ?_;clear bB;refine Ay ?_;(try simp only[gX,Act.put]);obtain⟨q0,q1,q2,q3,q4,q5,-⟩:=Aa H1.out.1;obtain⟨u0,u1,u2,u3,u4,u5,-⟩:=Aa H1.out.2.1;obtain⟨kb',off',k3,t3,l3,c3,a3,n3,p3,he,aE,s0,s1,s2,s3,s4,-,-,-,-,-,aN,-⟩:=aZ.out _ H1.out.2.2.2;cases he;simp only[nzm,naz] at s0 s1 s2 s3 s4;have aM:=Lq7 (HX.out _ _ _ H1.out.2.2.2 aN H1.out.2.2.1 (by have:=aA.out;simp only[lnA,lnC,lnN,Am] at this |-;omega));clear aN;go_wp2_with fail;refine aM.out.mono ?_;rintro e w2 ⟨rfl,h2,aC⟩;have H2:=Lq7 (aIn (aC.stay H1.out.1 (by decide) (by omega)) (aIn (aC.stay H1.out.2.1 (by decide) (by omega)) (aIn h2 (H1.out.2.2.2.trans aC))));clear h2 aC aM;clear s0 s1 s2 s3 s4 aE;have aV:=Lq7 (Er (B:=B) (b:=b) (tb:=d) 32 32 rfl H2.out.2.2.1 (by have:=aA.out;simp only[lnA,lnC,lnN,Am] at this |-;omega) (nlt HB.out H2.out.2.2.2.size));go_wp2_with fail;refine aV.out.mono ?_;rintro e w3 ⟨rfl,h3,aF⟩;have H3:=Lq7 (aIn (aF.stay H2.out.1 (by decide) (by omega)) (aIn (aF.stay H2.out.2.1 (by decide) (by omega)) (aIn h3 (H2.out.2.2.2.trans aF))));clear h3 aF aV;clear q0 q1 q2 q3 q4 q5 u0 u1 u2 u3 u4 u5;obtain⟨q0,q1,q2,q3,q4,q5,-⟩:=Aa H3.out.1;obtain⟨u0,u1,u2,u3,u4,u5,-⟩:=Aa H3.out.2.1;have aW:=Lq7 (HY.out _ _ _ H3.out.2.2.2 (Hv.out _ H3.out.2.2.2) H3.out.2.2.1 (by have:=aA.out;simp only[lnA,lnC,lnN,Am] at this |-;omega));go_wp2_with fail;refine aW.out.mono ?_;rintro e w4 ⟨rfl,h4,aG⟩;have H4:=Lq7 (aIn (aG.stay H3.out.1 (by decide) (by omega)) (aIn (aG.stay H3.out.2.1 (by decide) (by omega)) (aIn h4 (H3.out.2.2.2.trans aG))));clear h4 aG aW;go_wp2_with fail
 go_end0
 refine⟨rfl,?_,H4.out.2.2.2⟩;rw[aQ.out];have h9:=H4.out.2.2.1;simp only[List.append_assoc,Am] at h9 |-;exact h9
theorem st_if2(d t ln c x y)(hX:Dw 93 d exP x)(hY:Dw 94 d (blP d) y):Dw 48 d (stP d) (.mk 5 t ln c [x,y]):=by
 have aD:Aq (stP d (.mk 5 t ln c [x,y]))=[105,102,32]++(Aq (exP x)++([32]++(Aq (blP d y)))):=by
  rw[stP,if_neg (by decide),if_neg (by decide),if_neg (by decide),if_pos rfl,fiP,ifP,ifP,ifP,if_pos rfl,if_neg (by omega),if_pos rfl];simp[Aq,pW,sp,Pc.raw,ifW]
 intro F v w B b l hn hF hp hB hlen;obtain⟨a,cap,rfl,hcap,hr⟩:=hn.openC;have aY:=hp.facts.2.2.2;have HF:=Lq7 hF;have HB:=Lq7 hB;have Hr:=Lq7 (fun(W:World) (hk:Kp B b w W)=>hr.kp hF hk);obtain⟨kb,off,k2,t2,l2,c2,a2,n2,p2,rfl,hbl,r0,r1,r2,r3,r4,-,-,-,-,-,hv,-⟩:=kidY (g:=93) (j:=1) (x:=y) hr rfl;have Hv:=Lq7 (fun(W:World) (hk:Kp B b w W)=>hv.kp hF hk);simp only[Nat.one_mul] at r0 r1 r2 r3 r4;have aR:Below w.heap.size w (w.alloc (I #[A C 5,E t,A C ln,A C c,D (J ⟨kb,off,L⟩) 2 cap] 27)):=(bRf _ _).alloc (nlr _) _;have aH:Below (w.alloc (I #[A C 5,E t,A C ln,A C c,D (J ⟨kb,off,L⟩) 2 cap] 27)).heap.size (w.alloc (I #[A C 5,E t,A C ln,A C c,D (J ⟨kb,off,L⟩) 2 cap] 27)) ((w.alloc (I #[A C 5,E t,A C ln,A C c,D (J ⟨kb,off,L⟩) 2 cap] 27)).alloc (I #[A C k2,E t2,A C l2,A C c2,D a2 n2 p2] 27)):=(bRf _ _).alloc (nlr _) _;have aJ:(w.alloc (I #[A C 5,E t,A C ln,A C c,D (J ⟨kb,off,L⟩) 2 cap] 27)).heap.size=w.heap.size+1:=(by simp);have H0:=Lq7 (aIn (stays (heap_alloc_new w (I #[A C 5,E t,A C ln,A C c,D (J ⟨kb,off,L⟩) 2 cap] 27)) aH) (aIn (aJ▸heap_alloc_new (w.alloc (I #[A C 5,E t,A C ln,A C c,D (J ⟨kb,off,L⟩) 2 cap] 27)) (I #[A C k2,E t2,A C l2,A C c2,D a2 n2 p2] 27)) (aIn ((hp.alloc (I #[A C 5,E t,A C ln,A C c,D (J ⟨kb,off,L⟩) 2 cap] 27)).alloc (I #[A C k2,E t2,A C l2,A C c2,D a2 n2 p2] 27)) (((Kp.refl B b w).alloc hB (I #[A C 5,E t,A C ln,A C c,D (J ⟨kb,off,L⟩) 2 cap] 27)).alloc hB (I #[A C k2,E t2,A C l2,A C c2,D a2 n2 p2] 27)))));clear aR aH aJ;have aZ:=Lq7 (fun(W:World) (hk:Kp B b w W)=>kidY (g:=93) (j:=0) (x:=x) (Hr.out W hk) rfl);have bN:=Lq7 (fun(W:World) (hk:Kp B b w W)=>kidY (g:=93) (j:=1) (x:=y) (Hr.out W hk) rfl);rw[aD] at hlen;have aA:=Lq7 hlen;have aQ:=Lq7 aD;have HX:=Lq7 (fun(W:World) (l':List UInt8) (v:Value) (hk:Kp B b w W) (hv:A2 F W x v) (hpw:Bw B b d (Lib.byteCells l') W) (hl:l'.length+(Aq (exP x)).length<=1000000000)=>hX F v W B b l' hv hF hpw (nlt hB hk.size) hl);have HY:=Lq7 (fun(W:World) (l':List UInt8) (v:Value) (hk:Kp B b w W) (hv:A2 F W y v) (hpw:Bw B b d (Lib.byteCells l') W) (hl:l'.length+(Aq (blP d y)).length<=1000000000)=>hY F v W B b l' hv hF hpw (nlt hB hk.size) hl);rw[show([x,y]:List Nd).length=2 from rfl];clear hn hF hp hB hlen aD hr hX hv hY hcap;go_enter Tryz.func48,Tryz.ntmps48;have aU:=Lq7 (Da ⟨#[105,102,32]⟩ H0.out.2.2.1 (by have:=aA.out;simp only[lnA,lnC,lnN] at this |-;show _+3<=_;omega) (nlt HB.out H0.out.2.2.2.size));go_wp2_with fail;refine aU.out.mono ?_;rintro e w1 ⟨rfl,h1,aB⟩;have H1:=Lq7 (aIn (aB.stay H0.out.1 (by decide) (by omega)) (aIn (aB.stay H0.out.2.1 (by decide) (by omega)) (aIn h1 (H0.out.2.2.2.trans aB))));clear h1 aB aU;obtain⟨q0,q1,q2,q3,q4,q5,-⟩:=Aa H1.out.1;obtain⟨u0,u1,u2,u3,u4,u5,-⟩:=Aa H1.out.2.1;obtain⟨kb',off',k3,t3,l3,c3,a3,n3,p3,he,aE,s0,s1,s2,s3,s4,-,-,-,-,-,aN,-⟩:=aZ.out _ H1.out.2.2.2;cases he;simp only[nzm,naz] at s0 s1 s2 s3 s4;have aM:=Lq7 (HX.out _ _ _ H1.out.2.2.2 aN H1.out.2.2.1 (by have:=aA.out;simp only[lnA,lnC,lnN] at this |-;omega));clear aN;go_wp2_with fail;refine aM.out.mono ?_;rintro e w2 ⟨rfl,h2,aC⟩;have H2:=Lq7 (aIn (aC.stay H1.out.1 (by decide) (by omega)) (aIn (aC.stay H1.out.2.1 (by decide) (by omega)) (aIn h2 (H1.out.2.2.2.trans aC))));clear h2 aC aM;clear s0 s1 s2 s3 s4 aE;have aV:=Lq7 (Er (B:=B) (b:=b) (tb:=d) 32 32 rfl H2.out.2.2.1 (by have:=aA.out;simp only[lnA,lnC,lnN] at this |-;omega) (nlt HB.out H2.out.2.2.2.size));go_wp2_with fail;refine aV.out.mono ?_;rintro e w3 ⟨rfl,h3,aF⟩;have H3:=Lq7 (aIn (aF.stay H2.out.1 (by decide) (by omega)) (aIn (aF.stay H2.out.2.1 (by decide) (by omega)) (aIn h3 (H2.out.2.2.2.trans aF))));clear h3 aF aV;clear q0 q1 q2 q3 q4 q5 u0 u1 u2 u3 u4 u5;obtain⟨q0,q1,q2,q3,q4,q5,-⟩:=Aa H3.out.1;obtain⟨u0,u1,u2,u3,u4,u5,-⟩:=Aa H3.out.2.1;obtain⟨kb',off',k3,t3,l3,c3,a3,n3,p3,he,aE,s0,s1,s2,s3,s4,-,-,-,-,-,aN,-⟩:=bN.out _ H3.out.2.2.2;cases he;simp only[Nat.one_mul] at s0 s1 s2 s3 s4;have aW:=Lq7 (HY.out _ _ _ H3.out.2.2.2 aN H3.out.2.2.1 (by have:=aA.out;simp only[lnA,lnC,lnN] at this |-;omega));clear aN;go_wp2_with fail;refine aW.out.mono ?_;rintro e w4 ⟨rfl,h4,aG⟩;have H4:=Lq7 (aIn (aG.stay H3.out.1 (by decide) (by omega)) (aIn (aG.stay H3.out.2.1 (by decide) (by omega)) (aIn h4 (H3.out.2.2.2.trans aG))));clear h4 aG aW;clear s0 s1 s2 s3 s4 aE;clear q0 q1 q2 q3 q4 q5 u0 u1 u2 u3 u4 u5;obtain⟨q0,q1,q2,q3,q4,q5,-⟩:=Aa H4.out.1;obtain⟨u0,u1,u2,u3,u4,u5,-⟩:=Aa H4.out.2.1;go_wp2_with fail
 go_end0
 refine⟨rfl,?_,H4.out.2.2.2⟩;rw[aQ.out];have h9:=H4.out.2.2.1;simp only[List.append_assoc] at h9 |-;exact h9
theorem st_if3(d t ln c x y z)(hX:Dw 93 d exP x)(hY:Dw 94 d (blP d) y)(hZ:Dw 94 d (blP d) z):Dw 48 d (stP d) (.mk 5 t ln c [x,y,z]):=by
 have aD:Aq (stP d (.mk 5 t ln c [x,y,z]))=[105,102,32]++(Aq (exP x)++([32]++(Aq (blP d y)++([32,101,108,115,101,32]++Aq (blP d z))))):=by
  rw[stP,if_neg (by decide),if_neg (by decide),if_neg (by decide),if_pos rfl,fiP,ifP,ifP,ifP,ifP,if_pos rfl,if_neg (by omega),if_pos rfl,if_neg (by omega),if_neg (by omega)];simp[Aq,pW,sp,Pc.raw,ifW,elseW]
 intro F v w B b l hn hF hp hB hlen;obtain⟨a,cap,rfl,hcap,hr⟩:=hn.openC;have aY:=hp.facts.2.2.2;have HF:=Lq7 hF;have HB:=Lq7 hB;have Hr:=Lq7 (fun(W:World) (hk:Kp B b w W)=>hr.kp hF hk);obtain⟨kb,off,k2,t2,l2,c2,a2,n2,p2,rfl,hbl,r0,r1,r2,r3,r4,-,-,-,-,-,hv,-⟩:=kidY (g:=93) (j:=2) (x:=z) hr rfl;have Hv:=Lq7 (fun(W:World) (hk:Kp B b w W)=>hv.kp hF hk);have aR:Below w.heap.size w (w.alloc (I #[A C 5,E t,A C ln,A C c,D (J ⟨kb,off,L⟩) 3 cap] 27)):=(bRf _ _).alloc (nlr _) _;have aH:Below (w.alloc (I #[A C 5,E t,A C ln,A C c,D (J ⟨kb,off,L⟩) 3 cap] 27)).heap.size (w.alloc (I #[A C 5,E t,A C ln,A C c,D (J ⟨kb,off,L⟩) 3 cap] 27)) ((w.alloc (I #[A C 5,E t,A C ln,A C c,D (J ⟨kb,off,L⟩) 3 cap] 27)).alloc (I #[A C k2,E t2,A C l2,A C c2,D a2 n2 p2] 27)):=(bRf _ _).alloc (nlr _) _;have aJ:(w.alloc (I #[A C 5,E t,A C ln,A C c,D (J ⟨kb,off,L⟩) 3 cap] 27)).heap.size=w.heap.size+1:=(by simp);have H0:=Lq7 (aIn (stays (heap_alloc_new w (I #[A C 5,E t,A C ln,A C c,D (J ⟨kb,off,L⟩) 3 cap] 27)) aH) (aIn (aJ▸heap_alloc_new (w.alloc (I #[A C 5,E t,A C ln,A C c,D (J ⟨kb,off,L⟩) 3 cap] 27)) (I #[A C k2,E t2,A C l2,A C c2,D a2 n2 p2] 27)) (aIn ((hp.alloc (I #[A C 5,E t,A C ln,A C c,D (J ⟨kb,off,L⟩) 3 cap] 27)).alloc (I #[A C k2,E t2,A C l2,A C c2,D a2 n2 p2] 27)) (((Kp.refl B b w).alloc hB (I #[A C 5,E t,A C ln,A C c,D (J ⟨kb,off,L⟩) 3 cap] 27)).alloc hB (I #[A C k2,E t2,A C l2,A C c2,D a2 n2 p2] 27)))));clear aR aH aJ;have aZ:=Lq7 (fun(W:World) (hk:Kp B b w W)=>kidY (g:=93) (j:=0) (x:=x) (Hr.out W hk) rfl);have bN:=Lq7 (fun(W:World) (hk:Kp B b w W)=>kidY (g:=93) (j:=1) (x:=y) (Hr.out W hk) rfl);rw[aD] at hlen;have aA:=Lq7 hlen;have aQ:=Lq7 aD;have HX:=Lq7 (fun(W:World) (l':List UInt8) (v:Value) (hk:Kp B b w W) (hv:A2 F W x v) (hpw:Bw B b d (Lib.byteCells l') W) (hl:l'.length+(Aq (exP x)).length<=1000000000)=>hX F v W B b l' hv hF hpw (nlt hB hk.size) hl);have HY:=Lq7 (fun(W:World) (l':List UInt8) (v:Value) (hk:Kp B b w W) (hv:A2 F W y v) (hpw:Bw B b d (Lib.byteCells l') W) (hl:l'.length+(Aq (blP d y)).length<=1000000000)=>hY F v W B b l' hv hF hpw (nlt hB hk.size) hl);have HZ:=Lq7 (fun(W:World) (l':List UInt8) (v:Value) (hk:Kp B b w W) (hv:A2 F W z v) (hpw:Bw B b d (Lib.byteCells l') W) (hl:l'.length+(Aq (blP d z)).length<=1000000000)=>hZ F v W B b l' hv hF hpw (nlt hB hk.size) hl);rw[show([x,y,z]:List Nd).length=3 from rfl];clear hn hF hp hB hlen aD hr hX hv hY hZ hcap;go_enter Tryz.func48,Tryz.ntmps48;have aU:=Lq7 (Da ⟨#[105,102,32]⟩ H0.out.2.2.1 (by have:=aA.out;simp only[lnA,lnC,lnN] at this |-;show _+3<=_;omega) (nlt HB.out H0.out.2.2.2.size));go_wp2_with fail;refine aU.out.mono ?_;rintro e w1 ⟨rfl,h1,aB⟩;have H1:=Lq7 (aIn (aB.stay H0.out.1 (by decide) (by omega)) (aIn (aB.stay H0.out.2.1 (by decide) (by omega)) (aIn h1 (H0.out.2.2.2.trans aB))));clear h1 aB aU;obtain⟨q0,q1,q2,q3,q4,q5,-⟩:=Aa H1.out.1;obtain⟨u0,u1,u2,u3,u4,u5,-⟩:=Aa H1.out.2.1;obtain⟨kb',off',k3,t3,l3,c3,a3,n3,p3,he,aE,s0,s1,s2,s3,s4,-,-,-,-,-,aN,-⟩:=aZ.out _ H1.out.2.2.2;cases he;simp only[nzm,naz] at s0 s1 s2 s3 s4;have aM:=Lq7 (HX.out _ _ _ H1.out.2.2.2 aN H1.out.2.2.1 (by have:=aA.out;simp only[lnA,lnC,lnN] at this |-;omega));clear aN;go_wp2_with fail;refine aM.out.mono ?_;rintro e w2 ⟨rfl,h2,aC⟩;have H2:=Lq7 (aIn (aC.stay H1.out.1 (by decide) (by omega)) (aIn (aC.stay H1.out.2.1 (by decide) (by omega)) (aIn h2 (H1.out.2.2.2.trans aC))));clear h2 aC aM;clear s0 s1 s2 s3 s4 aE;have aV:=Lq7 (Er (B:=B) (b:=b) (tb:=d) 32 32 rfl H2.out.2.2.1 (by have:=aA.out;simp only[lnA,lnC,lnN] at this |-;omega) (nlt HB.out H2.out.2.2.2.size));go_wp2_with fail;refine aV.out.mono ?_;rintro e w3 ⟨rfl,h3,aF⟩;have H3:=Lq7 (aIn (aF.stay H2.out.1 (by decide) (by omega)) (aIn (aF.stay H2.out.2.1 (by decide) (by omega)) (aIn h3 (H2.out.2.2.2.trans aF))));clear h3 aF aV;clear q0 q1 q2 q3 q4 q5 u0 u1 u2 u3 u4 u5;obtain⟨q0,q1,q2,q3,q4,q5,-⟩:=Aa H3.out.1;obtain⟨u0,u1,u2,u3,u4,u5,-⟩:=Aa H3.out.2.1;obtain⟨kb',off',k3,t3,l3,c3,a3,n3,p3,he,aE,s0,s1,s2,s3,s4,-,-,-,-,-,aN,-⟩:=bN.out _ H3.out.2.2.2;cases he;simp only[Nat.one_mul] at s0 s1 s2 s3 s4;have aW:=Lq7 (HY.out _ _ _ H3.out.2.2.2 aN H3.out.2.2.1 (by have:=aA.out;simp only[lnA,lnC,lnN] at this |-;omega));clear aN;go_wp2_with fail;refine aW.out.mono ?_;rintro e w4 ⟨rfl,h4,aG⟩;have H4:=Lq7 (aIn (aG.stay H3.out.1 (by decide) (by omega)) (aIn (aG.stay H3.out.2.1 (by decide) (by omega)) (aIn h4 (H3.out.2.2.2.trans aG))));clear h4 aG aW;clear s0 s1 s2 s3 s4 aE;clear q0 q1 q2 q3 q4 q5 u0 u1 u2 u3 u4 u5;obtain⟨q0,q1,q2,q3,q4,q5,-⟩:=Aa H4.out.1;obtain⟨u0,u1,u2,u3,u4,u5,-⟩:=Aa H4.out.2.1;have bR:=Lq7 (Da ⟨#[32,101,108,115,101,32]⟩ H4.out.2.2.1 (by have:=aA.out;simp only[lnA,lnC,lnN] at this |-;show _+6<=_;omega) (nlt HB.out H4.out.2.2.2.size));go_wp2_with fail;refine bR.out.mono ?_;rintro e w5 ⟨rfl,h5,bC⟩;have H5:=Lq7 (aIn (bC.stay H4.out.1 (by decide) (by omega)) (aIn (bC.stay H4.out.2.1 (by decide) (by omega)) (aIn h5 (H4.out.2.2.2.trans bC))));clear h5 bC bR;clear q0 q1 q2 q3 q4 q5 u0 u1 u2 u3 u4 u5;obtain⟨q0,q1,q2,q3,q4,q5,-⟩:=Aa H5.out.1;obtain⟨u0,u1,u2,u3,u4,u5,-⟩:=Aa H5.out.2.1;have bS:=Lq7 (HZ.out _ _ _ H5.out.2.2.2 (Hv.out _ H5.out.2.2.2) H5.out.2.2.1 (by have:=aA.out;simp only[lnA,lnC,lnN] at this |-;omega));go_wp2_with fail;refine bS.out.mono ?_;rintro e w6 ⟨rfl,h6,bD⟩;have H6:=Lq7 (aIn (bD.stay H5.out.1 (by decide) (by omega)) (aIn (bD.stay H5.out.2.1 (by decide) (by omega)) (aIn h6 (H5.out.2.2.2.trans bD))));clear h6 bD bS;go_wp2_with fail
 go_end0
 refine⟨rfl,?_,H6.out.2.2.2⟩;rw[aQ.out];have h9:=H6.out.2.2.1;simp only[List.append_assoc] at h9 |-;exact h9
theorem st_rule(d t ln c ps y)(hm:ps.length<=140737488355328)(hPs:∀x∈ps,Dw 96 d paP x)(hY:Dw 94 d (blP d) y):Dw 48 d (stP d) (.mk 6 t ln c (ps++[y])):=by
 have aD:Aq (stP d (.mk 6 t ln c (ps++[y])))=[114,117,108,101,32]++t.data.toList++[40]++(Aq (A9 Ek 0 (ps.map paP))++([41,32]++Aq (blP d y))):=by
  rw[stP,if_neg (by decide),if_neg (by decide),if_neg (by decide),if_neg (by decide),if_pos rfl,List.dropLast_concat,I4,Bk,Bk,Bk];simp[Aq,pW,pS,sp,Pc.raw,ruleW]
 intro F v w B b l hn hF hp hB hlen;obtain⟨a,cap,rfl,hcap,hr⟩:=hn.openC;have bT:(ps++[y]).length=ps.length+1:=(by simp);rw[bT] at hcap |-;have hcap:=hcap (by decide);have aY:=hp.facts.2.2.2;have HF:=Lq7 hF;have HB:=Lq7 hB;have Hr:=Lq7 (fun(W:World) (hk:Kp B b w W)=>hr.kp hF hk);obtain⟨kb,off,k2,t2,l2,c2,a2,n2,p2,rfl,hbl,r0,r1,r2,r3,r4,-,-,-,-,-,hv,-⟩:=kidY (g:=93) (j:=ps.length) (x:=y) hr (by simp);have Hv:=Lq7 (fun(W:World) (hk:Kp B b w W)=>hv.kp hF hk);have aR:Below w.heap.size w (w.alloc (I #[A C 6,E t,A C ln,A C c,D (J ⟨kb,off,L⟩) (ps.length+1:Nat) cap] 27)):=(bRf _ _).alloc (nlr _) _;have aH:Below (w.alloc (I #[A C 6,E t,A C ln,A C c,D (J ⟨kb,off,L⟩) (ps.length+1:Nat) cap] 27)).heap.size (w.alloc (I #[A C 6,E t,A C ln,A C c,D (J ⟨kb,off,L⟩) (ps.length+1:Nat) cap] 27)) ((w.alloc (I #[A C 6,E t,A C ln,A C c,D (J ⟨kb,off,L⟩) (ps.length+1:Nat) cap] 27)).alloc (I #[A C k2,E t2,A C l2,A C c2,D a2 n2 p2] 27)):=(bRf _ _).alloc (nlr _) _;have aJ:(w.alloc (I #[A C 6,E t,A C ln,A C c,D (J ⟨kb,off,L⟩) (ps.length+1:Nat) cap] 27)).heap.size=w.heap.size+1:=(by simp);have H0:=Lq7 (aIn (stays (heap_alloc_new w (I #[A C 6,E t,A C ln,A C c,D (J ⟨kb,off,L⟩) (ps.length+1:Nat) cap] 27)) aH) (aIn (aJ▸heap_alloc_new (w.alloc (I #[A C 6,E t,A C ln,A C c,D (J ⟨kb,off,L⟩) (ps.length+1:Nat) cap] 27)) (I #[A C k2,E t2,A C l2,A C c2,D a2 n2 p2] 27)) (aIn ((hp.alloc (I #[A C 6,E t,A C ln,A C c,D (J ⟨kb,off,L⟩) (ps.length+1:Nat) cap] 27)).alloc (I #[A C k2,E t2,A C l2,A C c2,D a2 n2 p2] 27)) (((Kp.refl B b w).alloc hB (I #[A C 6,E t,A C ln,A C c,D (J ⟨kb,off,L⟩) (ps.length+1:Nat) cap] 27)).alloc hB (I #[A C k2,E t2,A C l2,A C c2,D a2 n2 p2] 27)))));clear aR aH aJ;rw[aD] at hlen;have aA:=Lq7 hlen;have aQ:=Lq7 aD;have bO:=Lq7 (fun(W:World) (l':List UInt8) (hk:Kp B b w W) (hpw:Bw B b d (Lib.byteCells l') W) (hl:l'.length+(Aq (A9 Ek 0 (ps.map paP))).length<=1000000000)=>S8 _ egPa d paP F (J ⟨kb,off,L⟩) cap ps hm hPs W B b l' (Af.init (Hr.out W hk)) hF hpw (nlt hB hk.size) hl);have HY:=Lq7 (fun(W:World) (l':List UInt8) (v:Value) (hk:Kp B b w W) (hv:A2 F W y v) (hpw:Bw B b d (Lib.byteCells l') W) (hl:l'.length+(Aq (blP d y)).length<=1000000000)=>hY F v W B b l' hv hF hpw (nlt hB hk.size) hl);obtain⟨fj,bE⟩:∃fj,fj=Aq (A9 Ek 0 (ps.map paP)):=⟨_,rfl⟩;rw[<-bE] at aA aQ;have bP:=Lq7 bE;generalize ps.map paP=pl at bO bP bE;clear hn hF hp hB hlen aD hr hv hY hPs bT bE Hr;generalize ps.length=pq at hm hcap H0 bO r0 r1 r2 r3 r4 |-;go_enter Tryz.func48,Tryz.ntmps48;have htz:t.size<=1000000000:=(by have:=aA.out;simp only[lnA,lnC,lnN] at this;rw[Ai] at this;omega);have bH:5+t.size<=9223372036854775807:=(by omega);have bI:5+t.size+1<=9223372036854775807:=(by omega);have bJ:t.size<=9223372036854775802:=(by omega);have bL:5+t.size<=9223372036854775806:=(by omega)
 go_upto_region 23 with fail
 generalize World.alloc _ _=W0 at H0 |-;refine Ba (.s 0 (.s 1 (.s 2 (.s 3 (.s 4 (.s 5 (.s 6 (.h 7 .nil)))))))) 99 (fun W'=>W'.heap[w.heap.size]? = J (I #[A C 6,E t,A C ln,A C c,D (J ⟨kb,off,L⟩) (pq+1:Nat) cap] 27 (0,0))/\W'.heap[w.heap.size+1]? = J (I #[A C k2,E t2,A C l2,A C c2,D a2 n2 p2] 27 (0,0))) ⟨H0.out.1,H0.out.2.1⟩ ?_;have Hd:Hid (W0.drew.heap[w.heap.size]? = J (I #[A C 6,E t,A C ln,A C c,D (J ⟨kb,off,L⟩) (pq+1:Nat) cap] 27 (0,0))/\W0.drew.heap[w.heap.size+1]? = J (I #[A C k2,E t2,A C l2,A C c2,D a2 n2 p2] 27 (0,0))/\Bw B b d (Lib.byteCells l) W0.drew/\Kp B b w W0.drew):=Lq7 ⟨H0.out.1,H0.out.2.1,H0.out.2.2.1.drew,H0.out.2.2.2.drew⟩;generalize W0.drew=W1 at Hd |-;refine Ag (M (J ⟨b,0,L⟩)) ?_;refine Ag (M (J ⟨b,0,L⟩)) ?_;refine Ag (M (J ⟨b,0,L⟩)) ?_;refine Ag (M (J ⟨w.heap.size,1,L⟩)) ?_;refine Bl (E t) (fun W' hS=>?_) ?_
 ·obtain⟨bA,bM⟩:=hS;obtain⟨z0,z1,z2,z3,z4,z5,-⟩:=Aa bA;clear bA bM;go_simp
 refine Ag (E (⟨#[114,117,108,101,32]⟩++t)) ?_;refine Ag (E ((⟨#[114,117,108,101,32]⟩++t)++⟨#[40]⟩)) ?_;have HP:=Lq7 (Da ((⟨#[114,117,108,101,32]⟩++t)++⟨#[40]⟩) Hd.out.2.2.1 (by rw[ByteArray.size_append,ByteArray.size_append];have:=aA.out;simp only[lnA,lnC,lnN] at this;rw[Ai] at this;show _+(5+t.size+1)<=_;omega) (nlt HB.out Hd.out.2.2.2.size));refine Ad rfl (fun Kx bB=>?_);go_wp2_with fail;refine HP.out.mono ?_;rintro e w1 ⟨rfl,h1,aB⟩;have H1:=Lq7 (aIn (aB.stay Hd.out.1 (by decide) (by omega)) (aIn (aB.stay Hd.out.2.1 (by decide) (by omega)) (aIn h1 (Hd.out.2.2.2.trans aB))));clear h1 aB HP;go_wp2_with fail;refine bB _ _ (fun _=>⟨H1.out.1,H1.out.2.1⟩) ?_;clear bB;refine Ay ?_;(try simp only[gX,Act.put]);obtain⟨q0,q1,q2,q3,q4,q5,-⟩:=Aa H1.out.1;obtain⟨u0,u1,u2,u3,u4,u5,-⟩:=Aa H1.out.2.1;have aM:=Lq7 (bO.out _ _ H1.out.2.2.2 H1.out.2.2.1 (by rw[<-bP.out];have:=aA.out;simp only[lnA,lnC,lnN,Am] at this |-;omega));go_wp2_with fail;refine aM.out.mono ?_;rintro e w2 ⟨rfl,h2,aC⟩;rw[<-bP.out] at h2;have H2:=Lq7 (aIn (aC.stay H1.out.1 (by decide) (by omega)) (aIn (aC.stay H1.out.2.1 (by decide) (by omega)) (aIn h2 (H1.out.2.2.2.trans aC))));clear h2 aC aM;have aV:=Lq7 (Da ⟨#[41,32]⟩ H2.out.2.2.1 (by have:=aA.out;simp only[lnA,lnC,lnN,Am] at this |-;show _+2<=_;omega) (nlt HB.out H2.out.2.2.2.size));go_wp2_with fail;refine aV.out.mono ?_;rintro e w3 ⟨rfl,h3,aF⟩;have H3:=Lq7 (aIn (aF.stay H2.out.1 (by decide) (by omega)) (aIn (aF.stay H2.out.2.1 (by decide) (by omega)) (aIn h3 (H2.out.2.2.2.trans aF))));clear h3 aF aV;clear q0 q1 q2 q3 q4 q5 u0 u1 u2 u3 u4 u5;obtain⟨q0,q1,q2,q3,q4,q5,-⟩:=Aa H3.out.1;obtain⟨u0,u1,u2,u3,u4,u5,-⟩:=Aa H3.out.2.1;have aW:=Lq7 (HY.out _ _ _ H3.out.2.2.2 (Hv.out _ H3.out.2.2.2) H3.out.2.2.1 (by have:=aA.out;simp only[lnA,lnC,lnN,Am] at this |-;omega));go_wp2_with fail;refine aW.out.mono ?_;rintro e w4 ⟨rfl,h4,aG⟩;have H4:=Lq7 (aIn (aG.stay H3.out.1 (by decide) (by omega)) (aIn (aG.stay H3.out.2.1 (by decide) (by omega)) (aIn h4 (H3.out.2.2.2.trans aG))));clear h4 aG aW;go_wp2_with fail
 go_end0
 refine⟨rfl,?_,H4.out.2.2.2⟩;rw[aQ.out];have h9:=H4.out.2.2.1;simp only[List.append_assoc,Am] at h9 |-;exact h9
theorem Nt(d):∀(m:Nat) (n:Nd) (dd:Nat),ndH n<=m->okX dd n->D9 65536 65540 n->Dw 93 d exP n
 | 0,n,_,h,_,_=>by have:=E8 n;omega
 | m+1,.mk k t a0 b0 l,dd,hm,h,ho=>by
  have hh:ndH (.mk k t a0 b0 l)=ndHs l+2:=(by rw[ndH]);rw[hh] at hm;have hkid:∀x∈l,ndH x<=m:=fun x hx=>(by have:=ndH_mem hx;omega);rw[D9] at ho;obtain⟨hz,hlen,-,-,hks⟩:=ho;have hko:=ndOks_iff.1 hks;rw[okX] at h;by_cases h9:k=9
  ·subst h9;exact ex_name d t a0 b0 l
  rw[if_neg h9] at h;by_cases h10:k=10
  ·subst h10;exact ex_num d t a0 b0 l
  rw[if_neg h10] at h;by_cases h11:k=11
  ·subst h11;exact ex_text d t a0 b0 l hz
  rw[if_neg h11] at h;by_cases h12:k=12
  ·subst h12;rw[if_pos rfl] at h;exact ex_list d t a0 b0 l (by omega) fun x hx=>Nt d m x (dd - 1) (hkid x hx) (J3 h.2.2 hx) (hko x hx)
  rw[if_neg h12] at h;by_cases h13:k=13
  ·subst h13;rw[if_pos rfl] at h;exact ex_dict d t a0 b0 l (by omega) fun x hx=>Nt d m x (dd - 1) (hkid x hx) ((Nq h.2.2).2 x hx) (hko x hx)
  rw[if_neg h13] at h;by_cases h14:k=14
  ·subst h14;rw[if_pos rfl] at h;refine ex_call d t a0 b0 l (by omega) fun x hx=>?_;have hox:=L9 h.2.2 hx;have hxo:=hko x hx;have hxm:=hkid x hx;obtain⟨k2,t2,c2,d2,l2⟩:=x;rw[okA] at hox;obtain⟨rfl,-,hl2,hx2⟩:=hox;obtain⟨y,rfl⟩:=Gz hl2;rw[D9,Dn] at hxo;rw[D7] at hx2;rw[ndH,ndHs] at hxm;exact named_put d 15 t2 c2 d2 y (Nt d m y (dd - 1) (by omega) hx2.1 hxo.2.2.2.2.1)
  rw[if_neg h14] at h;by_cases h16:k=16
  ·subst h16;rw[if_pos rfl] at h;by_cases hn:t.data.toList=notW
   ·rw[if_pos hn,if_pos hn] at h;obtain⟨x,rfl⟩:=Gz h.1.2;obtain rfl:t=bs notW:=bytes_ext hn;exact ex_not d a0 b0 x (Nt d m x _ (hkid x (by simp)) (Mj h.2 (by simp)) (hko x (by simp)))
   ·exact ex_op d t hn hz a0 b0 l (by omega) fun x hx=>Nt d m x _ (hkid x hx) (Mj h.2 hx) (hko x hx)
  ·rw[if_neg h16] at h;exact h.elim
theorem Lb{d dd n}(h:okX dd n)(ho:D9 65536 65540 n):Dw 93 d exP n:=Nt d (ndH n) n dd (nlr _) h ho
theorem put_st:∀(m:Nat) (n:Nd) (dd d:Nat),ndH n<=m->d+dd<=60->okS dd n->D9 65536 65540 n->Dw 48 d (stP d) n
 | 0,n,_,_,h,_,_,_=>by have:=E8 n;omega
 | m+1,.mk k t a0 b0 l,dd,d,hm,hd,h,ho=>by
  have hh:ndH (.mk k t a0 b0 l)=ndHs l+2:=(by rw[ndH]);rw[hh] at hm;have hkid:∀x∈l,ndH x<=m:=fun x hx=>(by have:=ndH_mem hx;omega);rw[D9] at ho;obtain⟨hz,hlen,-,-,hks⟩:=ho;have hko:=ndOks_iff.1 hks;have hbl:∀x∈l,okB dd x->Dw 94 d (blP d) x:=fun x hx hox=>by
   have hxo:=hko x hx;have hxm:=hkid x hx;obtain⟨k2,t2,c2,d2,l2⟩:=x;rw[okB] at hox;obtain⟨rfl,ht2,hd1,hs2⟩:=hox;rw[D9] at hxo;rw[ndH] at hxm;have hko2:=ndOks_iff.1 hxo.2.2.2.2;exact Aaf d 8 t2 c2 d2 l2 (by omega) (by omega) fun y hy=>put_st m y (dd - 1) (d+1) (by have:=ndH_mem hy;omega) (by omega) (J4 hs2 hy) (hko2 y hy)
  rw[okS] at h;by_cases h2:k=2
  ·subst h2;rw[if_pos rfl] at h;obtain⟨hn,hl,hx⟩:=h;obtain⟨x,rfl⟩:=Gz hl;rw[D7] at hx;exact Aag d t a0 b0 x (Lb hx.1 (hko x (by simp)))
  rw[if_neg h2] at h;by_cases h3:k=3
  ·subst h3;rw[if_pos rfl] at h;obtain⟨ht,hl,hk,hx⟩:=h;obtain⟨x,rfl⟩:=Gz hl;rw[D7] at hx;exact st_do d t a0 b0 x (Lb hx.1 (hko x (by simp)))
  rw[if_neg h3] at h;by_cases h4:k=4
  ·subst h4;rw[if_pos rfl] at h;obtain⟨hn,hl,hi⟩:=h;obtain⟨x,y,rfl⟩:=Jk hl;rw[D6,D6,if_pos rfl,if_neg (by omega)] at hi;exact st_for d t a0 b0 x y (Lb hi.1 (hko x (by simp))) (hbl y (by simp) hi.2.1)
  rw[if_neg h4] at h;by_cases h5:k=5
  ·subst h5;rw[if_pos rfl] at h;obtain⟨ht,hl,hi⟩:=h;rcases hl with hl|hl
   ·obtain⟨x,y,rfl⟩:=Jk hl;rw[D6,D6,if_pos rfl,if_neg (by omega)] at hi;exact st_if2 d t a0 b0 x y (Lb hi.1 (hko x (by simp))) (hbl y (by simp) hi.2.1)
   ·obtain⟨x,y,z,rfl⟩:=Ty hl;rw[D6,D6,D6,if_pos rfl,if_neg (by omega),if_neg (by omega)] at hi;exact st_if3 d t a0 b0 x y z (Lb hi.1 (hko x (by simp))) (hbl y (by simp) hi.2.1) (hbl z (by simp) hi.2.2.1)
  rw[if_neg h5] at h;by_cases h6:k=6
  ·subst h6;rw[if_pos rfl] at h;obtain⟨hn,hps,hla⟩:=h;have hne:l≠[]:=(by rintro rfl;rw[okLa] at hla;exact hla);obtain⟨ps,b,rfl⟩:=last_eq hne;rw[List.dropLast_concat] at hps;rw[lnA] at hlen;refine st_rule d t a0 b0 ps b (by omega) (fun y hy=>Aae (hps y hy) fun x hx hox=>?_) (hbl b (by simp) (Ks hla));have hyo:=hko y (by simp[hy]);obtain⟨k2,t2,c2,d2,l2⟩:=y;rw[D9] at hyo;exact Lb hox (ndOks_iff.1 hyo.2.2.2.2 x hx)
  ·rw[if_neg h6] at h;exact h.elim
theorem put_stA{n}(h:okS 60 n)(ho:D9 65536 65540 n):Dw 48 0 (stP 0) n:=put_st (ndH n) n 60 0 (nlr _) (by omega) h ho
theorem Xm(p a cap w):Calls Tryz.prog 27 #[p,D a 0 cap] w (fun e w'=>e = .returned (.tuple #[])/\w'=w):=by
 go_enter Tryz.func27,Tryz.ntmps27;go_wp2_with fail
 go_loopw [8] (fun i wr=>i = A C 0/\wr=w) (fun _ _=>0)
 case atStart=>exact⟨rfl,rfl⟩
 case round=>
  obtain⟨rfl,rfl⟩:=hrel;go_wp2_with fail
  go_end0
  exact⟨rfl,rfl⟩
def PPrn(s:List UInt8)(w:World)(e:Ending)(w':World):Prop:=Below w.heap.size w w'/\match readL s with
 | some (.ok _)=>∃o:ByteArray,e = .returned (.tuple #[E o,A C 0])/\o.data.toList=s
 | some (.error x)=>e = .returned (.tuple #[E ⟨#[]⟩,A C x.1])
 | none=>True
theorem Vf(l B b w)(hB:B<=w.heap.size)(h:(l≠[]/\Bw B b 0 (Lib.byteCells l) w)\/(l=[]/\∃p,w.heap[b]? = J (I #[p,D L 0 0,A C 0] 93 (0,0)))):
  Calls Tryz.prog 28 #[M (J ⟨b,0,L⟩)] w fun e w'=>e = .returned (E ⟨l.toArray⟩)/\Below B w w':=by
 rcases h with⟨h0,h⟩|⟨rfl,p,h⟩
 ·exact Zy l h h0
 ·refine(P1 p h).mono ?_;rintro e w' ⟨rfl,hb⟩;exact⟨rfl,hb.mono hB⟩
theorem st_ne{d m}(h:m≠[]):Aq (Dy d m)≠[]:=by
 cases m with
 | nil=>exact absurd rfl h
 | cons x r=>
  intro e;have:(Aq (Dy d (x::r))).length=0:=(by rw[e];rfl);rw[Dy,Ci,Bk,Ci,lnA,lnA,lnA] at this;have h1:nl.raw.length=1:=rfl;omega
theorem prt_any(F kids ln c v w)(hn:A2 F w (.mk 1 ⟨#[]⟩ ln c kids) v)(hF:∀x,F x->x<w.heap.size)(hok:F9 60 kids)(hko:Dn 65536 65540 kids)(hlen:kids.length<=65540)(hP:Ly w)(hsz:(Dj kids).length<=1000000000)(hne:readL (Dj kids)≠L):
  Calls Tryz.prog 10 #[v] w (PPrn (Dj kids) w):=by
 obtain⟨a,cap,rfl,hr⟩:=hn.open;have aE:=Co w 1 ⟨#[]⟩ ln c a kids.length cap;have aF:=ndOks_iff.1 hko;have HA:=Lq7 (G6 _ egS F a cap kids _ (by omega) (hr.below aE) (hP.below aE) fun x hx=>mayS_any (J4 hok hx) (aF x hx));have H0:=Lq7 (aIn (heap_alloc_new w (I #[A C 1,E ⟨#[]⟩,A C ln,A C c,D a kids.length cap] 27)) aE);unfold bxN at HA H0;have HP:=Lq7 hP;have aG:=Lq7 hne;have Hz:Hid ((⟨(Dj kids).toArray⟩:ByteArray).size<=9223372036854775807):=Lq7 (by show(Dj kids).toArray.size<=_;rw[List.size_toArray];omega)
 -- what the page's methods do
 have HS:Hid (∀w1:World,Below w.heap.size w w1->Calls Tryz.prog 27 #[M (J ⟨w1.heap.size,0,L⟩),D a kids.length cap] (w1.alloc (I #[M L,D L 0 0,A C 0] 93)) fun e w2=>e = .returned (.tuple #[])/\Below w1.heap.size w1 w2/\w1.heap.size<w2.heap.size /\
   Calls Tryz.prog 28 #[M (J ⟨w1.heap.size,0,L⟩)] w2 fun e w3=>e = .returned (E ⟨(Dj kids).toArray⟩)/\Below w1.heap.size w2 w3):=Lq7 fun w1 aA=>by
  have hsz1:(w1.alloc (I #[M L,D L 0 0,A C 0] 93)).heap.size=w1.heap.size+1:=(by simp);have aB:Below w1.heap.size w1 (w1.alloc (I #[M L,D L 0 0,A C 0] 93)):=(bRf _ _).alloc (nlr _) _;by_cases hk:kids=[]
  ·have hl0:kids.length=0:=(by rw[hk];rfl);rw[hl0];refine(Xm _ a cap _).mono ?_;rintro e w2 ⟨rfl,rfl⟩;refine⟨rfl,aB,by omega,Vf _ _ _ _ (by omega) (.inr ⟨by rw[hk];rfl,M L,heap_alloc_new w1 _⟩)⟩
  ·refine(Rv 0 kids (by omega) (fun x hx=>put_stA (J4 hok hx) (aF x hx)) F a cap _ w1.heap.size w1.heap.size [] ((hr.below aA).below aB) (fun x hx=>Nat.lt_of_lt_of_le (hF x hx) aA.size) (Bw.fresh w1) (by omega) (by rw[lnN,Nat.zero_add];exact hsz)).mono ?_;rintro e w2 ⟨rfl,h2,aM⟩;rw[List.nil_append] at h2;have hs2:=aM.size;exact⟨rfl,aB.trans aM.1,by omega,Vf _ _ _ _ (by omega) (.inl ⟨st_ne hk,h2⟩)⟩
 generalize hpl:Dj kids=pl at HS aG Hz |-;clear hn hF hok hko hlen hP hsz hr aF aE hne hpl;go_enter Tryz.func10,Tryz.ntmps10;go_wp2_with fail;refine HA.out.mono ?_;rintro e w1 ⟨rfl,aA⟩;have H1:=Lq7 (aIn (stays H0.out.1 aA) (H0.out.2.trans (aA.mono H0.out.2.size)));have hlt:w.heap.size<w1.heap.size:=here H1.out.1;have aB:Below w1.heap.size w1 (w1.alloc (I #[M L,D L 0 0,A C 0] 93)):=(bRf _ _).alloc (nlr _) _;obtain⟨q0,q1,q2,q3,q4,q5,-⟩:=Aa (stays H1.out.1 aB);have HC:=Lq7 (HS.out w1 H1.out.2);clear aA HS aB;go_wp2_with fail;refine HC.out.mono ?_;rintro e w2 ⟨rfl,aH,hl2,aC⟩;have H2:=Lq7 (aIn (stays H1.out.1 aH) (H1.out.2.trans (aH.mono H1.out.2.size)));have aD:=Lq7 aC;clear aC HC q0 q1 q2 q3 q4 q5;go_wp2_with fail;refine aD.out.mono ?_;rintro e w3 ⟨rfl,aN⟩;have H3:=Lq7 (H2.out.2.trans (aN.mono (Nat.le_of_lt hlt)));clear aN aD aH hl2;have HR:=Lq7 (Mr ⟨pl.toArray⟩ w3 Hz.out (HP.out.below H3.out).1 aG.out);go_wp2_with fail;refine HR.out.mono ?_;rintro e w4 ⟨aQ,hq⟩;have H4:=Lq7 (H3.out.trans (aQ.mono H3.out.size));clear HR aQ;cases hrd:readL pl with
 | none=>exact absurd hrd aG.out
 | some r=>
  cases r with
  | error x=>
   rw[show readL (⟨pl.toArray⟩:ByteArray).data.toList=J (.error x) from hrd] at hq;subst hq;have aR:=Yq hrd;have aJ:=Lq7 hrd;clear hrd;unfold zeroNode;obtain⟨x1,x2,x3⟩:=x;have aR:x1≠0:=aR;go_wp2_with fail;refine bodyPost_ret (v:=.tuple #[E ⟨#[]⟩,A C x1]) (by simp[results,Tryz.results10,go_sem]) rfl ?_;refine⟨(H4.out.alloc H4.out.size _).alloc (by have:=H4.out.size;simp;omega) _,?_⟩;rw[aJ.out]
  | ok n=>
   rw[show readL (⟨pl.toArray⟩:ByteArray).data.toList=J (.ok n) from hrd] at hq;obtain⟨v2,rfl,aU⟩:=hq;obtain⟨nk,nt,nl2,nc,nks⟩:=n;obtain⟨a2,cap2,rfl,-⟩:=aU.open;have aJ:=Lq7 hrd;clear aU hrd;go_wp2_with fail;refine bodyPost_ret (v:=.tuple #[E ⟨pl.toArray⟩,A C 0]) (by simp[results,Tryz.results10,go_sem]) rfl ?_;refine⟨(H4.out.alloc H4.out.size _).alloc (by have:=H4.out.size;simp;omega) _,?_⟩;rw[aJ.out];exact⟨_,rfl,rfl⟩
def Lv(l:List Nd)(s:Int):RunR:=N1 (G0 Cf (ndHs l) l s)
theorem Uk{l}(hok:Dn 65536 65540 l){s t}(h:s<=t)(h12:(codeR (Lv l s)).1≠12):Lv l t=Lv l s:=
 run_more Cf _ l h (fun b c e=>h12 (by unfold Lv;rw[e];rfl)) (Vx plain_all hok (nlr _) s)
theorem res_bare{l m}(h:bareNs l=bareNs m)(s):rowsR (Lv l s)=rowsR (Lv m s)/\(codeR (Lv l s)).1=(codeR (Lv m s)).1:=by
 have hh:ndHs l=ndHs m:=(by rw[<-ndHs_bare l,h,ndHs_bare m]);have hr:=be_run plain_ansB (ndHs m) h s;unfold Lv;rw[hh];cases h1:G0 Cf (ndHs m) l s with
 | ok v st=>
  rw[h1] at hr;cases h2:G0 Cf (ndHs m) m s with
  | ok v' st'=>rw[h2] at hr;unfold N1 rowsR codeR;dsimp only;rw[hr.2.1];exact⟨rfl,rfl⟩
  | err a b c=>rw[h2] at hr;exact hr.elim
  | out=>rw[h2] at hr;exact hr.elim
 | err a b c=>
  rw[h1] at hr;cases h2:G0 Cf (ndHs m) m s with
  | ok v' st'=>rw[h2] at hr;exact hr.elim
  | err a' b' c'=>rw[h2] at hr;exact⟨rfl,hr⟩
  | out=>rw[h2] at hr;exact hr.elim
 | out=>
  rw[h1] at hr;cases h2:G0 Cf (ndHs m) m s with
  | ok v' st'=>rw[h2] at hr;exact hr.elim
  | err a' b' c'=>rw[h2] at hr;exact hr.elim
  | out=>exact⟨rfl,rfl⟩
def Lw(l:List (ByteArray×Vl)):Prop:=l.length<=1000000/\∀q∈l,A5 q.2
def RunC(kids:List Nd)(rows:List (ByteArray×Vl))(x y z s:Int):Prop:=∀(G:Nat->Prop) (a:Option Addr) (cap:Nat) (w:World),(∀b,G b->b<w.heap.size)->Af G w a (Au kids)->E3 w->StdB w ->
 Calls Tryz.prog 7 #[D a kids.length cap,D L 0 0,.iface 83 (.agg #[]),A C s] w (fun e w'=>Below w.heap.size w w'/\∃(ra:Option Addr) (rc:Nat),e = .returned (.tuple #[D ra rows.length rc,A C x,.agg #[A C y,A C z]])/\Af (DatF w) w' ra (Bf rows)/\Lw rows)
theorem Mf{kids}(hok:Dn 65536 65540 kids)(hlen:kids.length<=65540){s}(hs:0<=s/\s<=1000000):RunC kids (rowsR (Lv kids s)) (codeR (Lv kids s)).1 (codeR (Lv kids s)).2.1 (codeR (Lv kids s)).2.2 s:=fun G a cap w hG hr hT hB=>
 (X3 kids hok (by omega) s hs G a cap w hG hr hT hB).mono fun e w' ⟨hb,ra,rc,he,hrow,hok⟩=>⟨hb,ra,rc,he,hrow,hok⟩
theorem Ax.row_mk{F w rows a n cap}(hn:n=rows.length)(h:Af F w a rows):Ax F w [.row rows] [D a n cap]:=by
 subst hn;exact .cons (Ei.rowb_mk cap (fun h=>by cases h) h) .nil
theorem Ax.row_at{F w rows a n cap}(h:Ax F w [.row rows] [D a n cap]):Af F w a rows:=by
 obtain⟨v,cs,he,h0,-⟩:=h.cons_inv;obtain⟨rfl,-⟩:v = D a n cap/\_:=⟨(List.cons.inj he).1.symm,trivial⟩;obtain⟨a',cap',he2,hr⟩:=h0.row_inv;obtain⟨rfl,-,-⟩:a=a'/\_/\_:=(by simpa using he2);exact hr
section
variable {F:Nat->Prop} {c0 c:Ctx} {w W W':World} {mp mb:Nat} {hv:D5} {G:Nat->Prop} {lv:Bool} {st:St} {ls:List (Nat×Array Value×TypeId)} {nr:List (Option Addr×List Nd)} {vr:List (List Dat×List Value)} {ow:OwS} {Q:Ending->World->Prop}
theorem EI.laS(h:EI c0 w mp mb hv G lv c st ls nr vr ow W){l0:List (Nat×Array Value×TypeId)}(hs:∀x∈l0,x∈ls):Eb W l0:=Ow _ fun x hx=>h.locs x (hs x hx)
theorem xPlainH(k:∀W',Hid (EI c0 w mp mb hv G lv c st ls nr vr ow W')->Q (.returned (.iface 83 (.agg #[]))) W')(H:EI c0 w mp mb hv G lv c st ls nr vr ow W:=by exact gH):Calls Tryz.prog 8 #[] W Q:=xB H (Yb W) k
theorem xRun{kids:List Nd}{rows:List (ByteArray×Vl)}{x y z s:Int}{a:Option Addr}{cap:Nat}(hc:RunC kids rows x y z s)(hT:E3 w)(hB:StdB w)(hF:∀b,N3 b->F b)
  (k:∀c' W' ra rc,Lw rows->Hid (EI ⟨fun _=>False,F⟩ w mp mb hv G lv c' st ls nr (([.row (Bf rows)],[D ra rows.length rc])::vr) ow W')->Q (.returned (.tuple #[D ra rows.length rc,A C x,.agg #[A C y,A C z]])) W') (H:EI ⟨fun _=>False,F⟩ w mp mb hv G lv c st ls nr vr ow W:=by exact gH)
  (ha:([.row (Au kids)],[D a kids.length cap])∈vr:=by simp):Calls Tryz.prog 7 #[D a kids.length cap,D L 0 0,.iface 83 (.agg #[]),A C s] W Q:=by
 have hr:Af c.F W a (Au kids):=(H.vr _ ha).row_at;refine(hc c.F a cap W H.ok.fl hr (hT.below H.bel) (hB.below H.bel)).mono ?_;rintro e w' ⟨hb,ra,rc,rfl,hrow,hok⟩;exact k _ w' ra rc hok (Lq7 (H.fresh hb (Ax.row_mk (Iy _).symm (hrow.mono fun b hb' hl=>⟨hb'.imp (fun h=>H.f0 b (hF b h)) id,hl,rfl⟩))))
theorem xHB{ops:Array Oper}{Q:Exit->Act->World->Prop}{fin i j:Nat}{o o':Oper}{t u:Tu}{a:Act}{l0:List (Nat×Array Value×TypeId)}(k:∀W',Hid (EI c0 w mp mb hv G lv c st ls nr vr ow W')->∀K:Act->World->Prop,(∀a2 w2,(i≠fin->Eb w2 l0)->A3 Tryz.prog ops (fun W'=>Eb W' l0) Q fin t a2 w2->K a2 w2)->wpList Tryz.prog ops (Exit.then K Q) [o] a W')
  (k':∀W',Hid (EI c0 w mp mb hv G lv c st ls nr vr ow W')->∀K:Act->World->Prop,(∀a2 w2,(j≠fin->Eb w2 l0)->A3 Tryz.prog ops (fun W'=>Eb W' l0) Q fin u a2 w2->K a2 w2)->wpList Tryz.prog ops (Exit.then K Q) [o'] a W') (H:EI c0 w mp mb hv G lv c st ls nr vr ow W:=by exact gH) (ho:ops[i]? = J o:=by rfl) (ho':ops[j]? = J o':=by rfl):A3 Tryz.prog ops (fun W'=>Eb W' l0) Q fin (.b i t j u) a W:=Fg ho ho' (k W (Lq7 H)) (k' W (Lq7 H))
theorem xSame{l:List (ByteArray×Vl)}{a1 a2:Option Addr}{c1 c2:Nat}(hl:Lw l)(k:∀W',Hid (EI c0 w mp mb hv G lv c st ls nr vr ow W')->Q (.returned (.bool true)) W')(H:EI c0 w mp mb hv G lv c st ls nr vr ow W:=by exact gH)(h1:([.row (Bf l)],[D a1 l.length c1])∈vr:=by simp)(h2:([.row (Bf l)],[D a2 l.length c2])∈vr:=by simp):
  Calls Tryz.prog 9 #[D a1 l.length c1,D a2 l.length c2] W Q:=xB H (X5 l hl.1 hl.2 c.F a1 c1 a2 c2 W (H.vr _ h1).row_at (H.vr _ h2).row_at) k
theorem xPrt{kids l':List Nd}{a:Option Addr}{cap:Nat}(hpr:F9 60 kids/\Dn 65536 65540 kids/\kids.length<=65540/\(Dj kids).length<=32500/\readL (Dj kids)=J (.ok (.mk 1 ⟨#[]⟩ 1 1 l')))(hP:Ly w)
  (k:∀W' o,o.data.toList=Dj kids->Hid (EI ⟨fun _=>False,F⟩ w mp mb hv G lv c st ls nr vr ow W')->Q (.returned (.tuple #[E o,A C 0])) W') (H:EI ⟨fun _=>False,F⟩ w mp mb hv G lv c st ls nr vr ow W:=by exact gH) (ha:([.row (Au kids)],[D a kids.length cap])∈vr:=by simp):
  Calls Tryz.prog 10 #[.agg #[A C 1,E ⟨#[]⟩,A C 1,A C 1,D a kids.length cap]] W Q:=by
 obtain⟨h1,h2,h3,h4,h5⟩:=hpr;refine(prt_any c.F kids 1 1 _ W (A2.mk 1 ⟨#[]⟩ 1 1 cap (H.vr _ ha).row_at) H.ok.fl h1 h2 h3 (hP.below H.bel) (by omega) (by rw[h5];exact Option.some_ne_none _)).mono ?_;rintro e w' ⟨hb,hq⟩;rw[h5] at hq;obtain⟨o,rfl,ho⟩:=hq;exact k w' o ho (Lq7 (H.below hb))
theorem xRead{o:ByteArray}{l':List Nd}(hr:readL o.data.toList=J (.ok (.mk 1 ⟨#[]⟩ 1 1 l')))(ho:o.size<=9223372036854775807)(hE:Lg w)
  (k:∀c' W' a cap,Hid (EI ⟨fun _=>False,F⟩ w mp mb hv G lv c' st ls nr (([.row (Au l')],[D a l'.length cap])::vr) ow W')->Q (.returned (.tuple #[.agg #[A C 1,E ⟨#[]⟩,A C 1,A C 1,D a l'.length cap],A C 0,.agg #[A C 0,A C 0]])) W') (H:EI ⟨fun _=>False,F⟩ w mp mb hv G lv c st ls nr vr ow W:=by exact gH):
  Calls Tryz.prog 6 #[E o] W Q:=by
 refine(Mr o W ho (hE.below H.bel) (by rw[hr];exact Option.some_ne_none _)).mono ?_;rintro e w' ⟨hb,hq⟩;rw[hr] at hq;obtain⟨v,rfl,hv⟩:=hq;obtain⟨a0,k0,rfl,hrow⟩:=hv.open;exact k _ w' a0 k0 (Lq7 (H.fresh hb (Ax.row_mk (by rw[Cj,lnM]) (hrow.mono fun b hb hl=>⟨.inr hb,hl,rfl⟩))))
end
theorem ldrv{P:Prop}(h:P:=by
 repeat' first
  | ((with_reducible refine goO ?_);((try simp only[List.cons_append,List.nil_append,List.set_cons_zero,List.set_cons_succ] at H);(have hD:=H.out.fa);(simp only[FaA,PwA,NeB,and_true] at hD);go_wp2_with fail;all_goals (try clear hD)))
  | ((with_reducible show Calls _ 8 _ _ _);refine xPlainH ?_;intro V H;refine goM ?_)
  | ((with_reducible show Calls _ 7 _ _ _);refine xRun HR.out HT.out HB.out (fun _ h=>h) ?_;intro c V ra rc aM H;refine goM ?_)
  | ((with_reducible show A3 _ _ _ _ _ (.s _ _) _ _);refine tS ?_)
  | ((with_reducible show A3 _ _ _ _ _ (.h _ _) _ _);refine xH ?_;intro V H K hK;refine goM ?_)
  | ((with_reducible show A3 _ _ _ _ _ (.b _ _ _ _) _ _);refine xHB ?_ ?_<;>(intro V H K hK;refine goM ?_))
  | ((with_reducible show A3 _ _ _ _ _ .nil _ _);refine Ay ?_;refine goM ?_)
  | (refine hK _ _ (fun _=>EI.laS gH (by simp[cutR])) ?_)
  | (go_meet;(case rel=>first|exact⟨_,_,_,_,rfl,rfl,rfl,Go.Lib.hid (EI.sub gH 9),Go.Lib.hid aM⟩|exact⟨_,_,_,_,rfl,rfl,rfl,Go.Lib.hid (EI.sub gH 2),Go.Lib.hid aM⟩))):P:=h
theorem eqPlace0(a b a' b' w):(binOp .eql 24 (.agg #[A C a,A C b]) (.agg #[A C a',A C b'])).run Tryz.prog w = .ok (.bool (a==a'&&b==b')) w:=by
 have hS:Tryz.prog.underlying 24=J (.struct (Tryz.prog.fieldsOf 24)):=(by kernel_rfl);have hp:Tryz.prog.stoodInHeld 24=false:=(by kernel_rfl);have u3:=Tryz.underlying3;have a3:∀w,(isAgg 3).run Tryz.prog w = .ok false w:=fun w=>(by kernel_rfl);have z3:∀w,(Go.sizeOf 3).run Tryz.prog w = .ok 1 w:=fun w=>(by kernel_rfl);rw[run_eql_struct,show(10000:Nat)=9999+1 from rfl,run_equalIn_agg w 9999 24 _ _ hS hp];simp only[Program.fieldsOf,Tryz.underlying24];go_simp;cases h1:(a==a')<;>cases h2:(b==b')<;>simp_all
theorem neqPlace0(a b w):(binOp .neq 24 (.agg #[A C a,A C b]) (.agg #[A C a,A C b])).run Tryz.prog w = .ok (.bool false) w:=by
 have h:=eqPlace0 a b a b w;rw[run_eql_struct] at h;rw[run_neq_struct];cases hr:(Op.equalIn 10000 24 (.agg #[A C a,A C b]) (.agg #[A C a,A C b])).run Tryz.prog w with
 | ok b w'=>
  rw[hr] at h;simp only[Result.andThen_ok] at h |-;injection h with h1 h2;injection h1 with h1;rw[h1,h2];simp
 | halt x w'=>
  rw[hr] at h;cases h
theorem Ul{s n}(h:readL s=J (.ok n))(hs:s.length<=500){d}(hd:0<=d/\d<=255):∃kids l',n = .mk 1 ⟨#[]⟩ 1 1 kids/\(F9 60 kids/\Dn 65536 65540 kids/\kids.length<=65540/\(Dj kids).length<=32500/\readL (Dj kids)=J (.ok (.mk 1 ⟨#[]⟩ 1 1 l'))) /\
  ∃R1 R2 R3:List (ByteArray×Vl),∃x1 y1 z1 x2 y2 z2 x3 y3 z3 y4 z4:Int,(RunC kids R1 x1 y1 z1 200/\RunC kids R2 x2 y2 z2 (200+d)/\RunC kids R3 x3 y3 z3 d/\RunC l' R1 x1 y4 z4 200)/\(x1=12\/R2=R1/\x2=x1/\y2=y1/\z2=z1)/\(x3=12\/x3=x2):=by
 obtain⟨kids,rfl,hok⟩:=read_okd h;obtain⟨k2,e2,hlen,aA⟩:=(Im s).2 _ h;cases e2;have hl:=print_len h;have hl2:(Dj kids).length<=32500:=(by omega);obtain⟨l',hr,hb⟩:=Y7 hok (by omega);obtain⟨k3,e3,hlen',hnd'⟩:=(Im _).2 _ hr;cases e3;have h4:=Mf hnd' hlen' (s:=200) (by omega);have aN:=res_bare hb 200;rw[aN.1,aN.2] at h4;refine⟨kids,l',rfl,⟨hok,aA,hlen,hl2,hr⟩,_,_,_,_,_,_,_,_,_,_,_,_,_,_,⟨Mf aA hlen (by omega),Mf aA hlen (s:=200+d) (by omega),Mf aA hlen (s:=d) (by omega),h4⟩,?_,?_⟩
 ·by_cases hx:(codeR (Lv kids 200)).1=12
  ·exact .inl hx
  ·rw[Uk aA (s:=200) (t:=200+d) (by omega) hx];exact .inr ⟨rfl,rfl,rfl,rfl⟩
 ·by_cases hx:(codeR (Lv kids d)).1=12
  ·exact .inl hx
  ·rw[Uk aA (s:=d) (t:=200+d) (by omega) hx];exact .inr rfl
theorem Qu(t d)(hd:0<=d/\d<=255)(w)(ht:t.size<=9223372036854775807)(hE:Lg w)(hT:E3 w)(hB:StdB w):
  Calls Tryz.prog 3 #[E t,.int .u8 d] w (Ql w):=by
 have HT:=Lq7 hT;have HB:=Lq7 hB;have HE:=Lq7 hE;have HP:Hid (Ly w):=Lq7 ⟨hE,hT⟩;have Ht:=Lq7 ht;have Hd:=Lq7 hd;have HA:=Lq7 (Y5 w hE hT hB);have HI:=Lq7 (EI.init (G:=fun _=>False) (N3.lt hT hB) fun _ h=>h.elim);clear hE hT hB ht;go_enter Tryz.func3,Tryz.ntmps3;go_wp2_with fail;refine HA.out.mono ?_;rintro e w1 ⟨rfl,aF⟩;have H:=Lq7 (HI.out.below aF);clear HI HA;by_cases h5:t.size<=500;rotate_left
 ·have h5':(500:Int)<t.size:=(by omega);go_wp2_with fail;go_ret;exact⟨rfl,H.out.bel⟩
 have h5':¬(500:Int)<t.size:=(by omega);have aG:=Lq7 (Mr t w1 Ht.out (HE.out.below aF) (Im _).1);clear aF;go_wp2_with fail;refine aG.out.mono ?_;rintro e V ⟨aE,aH⟩;cases hrd:readL t.data.toList with
 | none=>exact absurd hrd (Im _).1
 | some r=>
  rw[hrd] at aH;cases r with
  | error x=>
   have aQ:=Yq hrd;obtain⟨xa,xb,xc⟩:=x;obtain rfl:e = .returned (.tuple #[.agg zeroNode,A C xa,.agg #[A C xb,A C xc]]):=aH;have hxa:(xa != 0)=true:=(by simpa using aQ);have H:=Lq7 ((H.out.below aE).alloc2 (cs:=zeroNode) (T:=27) (cs':=#[A C xb,A C xc]) (T':=24));unfold zeroNode at H |-;clear aE hrd aQ aG;go_wp2_with fail;go_ret;exact⟨rfl,H.out.bel⟩
  | ok n=>
   obtain⟨kids,l',rfl,⟨hok,aA,hlen,aR,aU⟩,R1,R2,R3,x1,y1,z1,x2,y2,z2,x3,y3,z3,y4,z4,⟨aV,aW,aY,aZ⟩,h12,h3⟩:=Ul hrd (by rw[Array.length_toList];exact h5) Hd.out;obtain⟨v,rfl,hv⟩:=aH;obtain⟨a0,k0,rfl,hrow⟩:=hv.open;have H:=Lq7 (H.out.fresh aE (Ax.row_mk (n:=kids.length) (cap:=k0) (by rw[Cj,lnM]) (hrow.mono fun b hb hl=>⟨.inr hb,hl,rfl⟩)));have HC1:=Lq7 aV;have HC2:=Lq7 aW;have HC3:=Lq7 aY;have HC4:=Lq7 aZ;have aJ:=Lq7 (aIn hok (aIn aA (aIn hlen (aIn aR aU))));have H12:=Lq7 h12;have H3:=Lq7 h3;clear aE hrd aG hv hrow hok aA hlen aR aU aV aW aY aZ h12 h3;go_wp2_with fail;have H:=Lq7 (H.out.alloc2 (cs:=#[A C 1,E ⟨#[]⟩,A C 1,A C 1,D a0 kids.length k0]) (T:=27) (cs':=#[A C 0,A C 0]) (T':=24));simp only[List.nil_append,List.cons_append] at H;generalize World.alloc _ _=W0 at H |-
   go_cut [8,9,10] from 38 (fun v8 v9 aB wc=>∃(c1:Ctx) (ra:Option Addr) (rc pb:Nat),v8 = D ra R1.length rc/\v9 = A C x1/\aB = M (J ⟨pb,0,L⟩)/\Hid (EI ⟨fun _=>False,N3⟩ w 0 0 noK (fun _=>False) false c1 ⟨[],0,[]⟩ [(V.heap.size,#[A C 1,E ⟨#[]⟩,A C 1,A C 1,D a0 kids.length k0],27),(V.heap.size+1,#[A C 0,A C 0],24),(pb,#[A C y1,A C z1],24)] [] [([.row (Bf R1)],[D ra R1.length rc]),([.row (Au kids)],[D a0 kids.length k0])] .nil wc)/\Hid (Lw R1))
   case first=>
    have HR:=HC1;refine xRgn (.s 0 (.s 1 (.b 2 (.b 3 (.s 4 (.s 5 (.s 6 (.s 7 (.h 8 (.s 9 (.s 10 (.h 11 .nil)))))))) 8 (.h 3 (.s 4 (.s 5 (.s 6 (.s 7 (.s 9 (.s 10 (.h 11 .nil))))))))) 8 (.h 2 (.h 3 (.s 4 (.s 5 (.s 6 (.s 7 (.s 9 (.s 10 (.h 11 .nil)))))))))))) 99 ?_;intro V H;exact ldrv
   case rest=>
    obtain⟨c1,aC,aD,pb1,rfl,rfl,rfl,H,bA⟩:=hcut
    ((have hD:=H.out.fa);(simp only[FaA,PwA,NeB,and_true] at hD);go_upto_region 9 with fail;clear hD)
    go_cut [11,12,13] from 46 (fun v8 v9 aB wc=>∃(c1:Ctx) (ra:Option Addr) (rc pb:Nat),v8 = D ra R2.length rc/\v9 = A C x2/\aB = M (J ⟨pb,0,L⟩)/\Hid (EI ⟨fun _=>False,N3⟩ w 0 0 noK (fun _=>False) false c1 ⟨[],0,[]⟩ [(V.heap.size,#[A C 1,E ⟨#[]⟩,A C 1,A C 1,D a0 kids.length k0],27),(V.heap.size+1,#[A C 0,A C 0],24),(pb1,#[A C y1,A C z1],24),(pb,#[A C y2,A C z2],24)] [] [([.row (Bf R2)],[D ra R2.length rc]),([.row (Bf R1)],[D aC R1.length aD]),([.row (Au kids)],[D a0 kids.length k0])] .nil wc)/\Hid (Lw R2))
    case first=>
     have HR:=HC2;have hdd:=Hd.out;refine xRgn (.s 0 (.s 1 (.s 3 (.s 4 (.s 5 (.b 2 (.b 6 (.s 7 (.s 8 (.s 9 (.s 10 (.h 11 (.s 12 (.s 13 (.h 14 .nil)))))))) 11 (.h 6 (.s 7 (.s 8 (.s 9 (.s 10 (.s 12 (.s 13 (.h 14 .nil))))))))) 11 (.h 2 (.h 6 (.s 7 (.s 8 (.s 9 (.s 10 (.s 12 (.s 13 (.h 14 .nil))))))))))))))) 99 ?_;intro V H;exact ldrv
    case rest=>
     obtain⟨c1,ra2,rc2,pb2,rfl,rfl,rfl,H,-⟩:=hcut
     ((have hD:=H.out.fa);(simp only[FaA,PwA,NeB,and_true] at hD);go_upto_region 10 with fail;clear hD)
     go_cut [74] from 57 (fun v wc=>∃c1:Ctx,v = .bool false/\Hid (EI ⟨fun _=>False,N3⟩ w 0 0 noK (fun _=>False) false c1 ⟨[],0,[]⟩ [(V.heap.size,#[A C 1,E ⟨#[]⟩,A C 1,A C 1,D a0 kids.length k0],27),(V.heap.size+1,#[A C 0,A C 0],24)] [] [([.row (Bf R1)],[D aC R1.length aD]),([.row (Au kids)],[D a0 kids.length k0])] .nil wc))
     case first=>
      rcases H12.out with rfl|⟨rfl,rfl,rfl,rfl⟩
      ·((try simp only[] at H);(have hD:=H.out.fa);(simp only[FaA,PwA,NeB,and_true] at hD);go_wp2_with fail;all_goals (try clear hD))
       go_meet
       case rel=>exact⟨_,rfl,Lq7 (EI.sub gH 2)⟩
      ·have bB:(x2 != x2)=false:=(by simp);have hpp:=neqPlace0 y2 z2;by_cases hx:x2=12
       ·subst hx
        ((try simp only[] at H);(have hD:=H.out.fa);(simp only[FaA,PwA,NeB,and_true] at hD);go_wp2_with fail;all_goals (try clear hD))
        go_meet
        case rel=>exact⟨_,rfl,Lq7 (EI.sub gH 2)⟩
       ·have hx':(x2 != 12)=true:=(by simpa using hx)
        ((try simp only[] at H);(have hD:=H.out.fa);(simp only[FaA,PwA,NeB,and_true] at hD);go_wp2_with fail;all_goals (try clear hD))
        refine xSame bA.out ?_;intro W H
        ((try simp only[List.cons_append,List.nil_append,lsA,lsB] at H);(have hD:=H.out.fa);(simp only[FaA,PwA,NeB,and_true] at hD);go_wp2_with fail;all_goals (try clear hD))
        go_meet
        case rel=>exact⟨_,rfl,Lq7 (EI.sub gH 2)⟩
     case rest=>
      obtain⟨c1,rfl,H⟩:=hcut
      ((have hD:=H.out.fa);(simp only[FaA,PwA,NeB,and_true] at hD);go_upto_region 12 with fail;clear hD)
      go_cut [14,15,16] from 75 (fun v8 v9 aB wc=>∃(c1:Ctx) (ra:Option Addr) (rc pb:Nat),v8 = D ra R3.length rc/\v9 = A C x3/\aB = M (J ⟨pb,0,L⟩)/\Hid (EI ⟨fun _=>False,N3⟩ w 0 0 noK (fun _=>False) false c1 ⟨[],0,[]⟩ [(V.heap.size,#[A C 1,E ⟨#[]⟩,A C 1,A C 1,D a0 kids.length k0],27),(V.heap.size+1,#[A C 0,A C 0],24)] [] [([.row (Bf R1)],[D aC R1.length aD]),([.row (Au kids)],[D a0 kids.length k0])] .nil wc)/\Hid (Lw R3))
      case first=>
       have HR:=HC3;have hdd:=Hd.out;refine xRgn (.s 0 (.s 1 (.s 3 (.s 4 (.b 2 (.b 5 (.s 6 (.s 7 (.s 8 (.s 9 (.h 10 (.s 11 (.s 12 (.h 13 .nil)))))))) 10 (.h 5 (.s 6 (.s 7 (.s 8 (.s 9 (.s 11 (.s 12 (.h 13 .nil))))))))) 10 (.h 2 (.h 5 (.s 6 (.s 7 (.s 8 (.s 9 (.s 11 (.s 12 (.h 13 .nil)))))))))))))) 99 ?_;intro V H;exact ldrv
      case rest=>
       obtain⟨c1,ra3,rc3,pb3,rfl,rfl,rfl,H,-⟩:=hcut
       ((have hD:=H.out.fa);(simp only[FaA,PwA,NeB,and_true] at hD);go_upto_region 13 with fail;clear hD)
       go_cut [91] from 85 (fun v wc=>∃c1:Ctx,v = .bool false/\Hid (EI ⟨fun _=>False,N3⟩ w 0 0 noK (fun _=>False) false c1 ⟨[],0,[]⟩ [(V.heap.size,#[A C 1,E ⟨#[]⟩,A C 1,A C 1,D a0 kids.length k0],27),(V.heap.size+1,#[A C 0,A C 0],24)] [] [([.row (Bf R1)],[D aC R1.length aD]),([.row (Au kids)],[D a0 kids.length k0])] .nil wc))
       case first=>
        rcases H3.out with rfl|rfl
        ·((try simp only[] at H);(have hD:=H.out.fa);(simp only[FaA,PwA,NeB,and_true] at hD);go_wp2_with fail;all_goals (try clear hD))
         go_meet
         case rel=>exact⟨_,rfl,Lq7 (EI.sub gH 2)⟩
        ·have bB:(x3 != x3)=false:=(by simp);by_cases hx:x3=12
         ·subst hx
          ((try simp only[] at H);(have hD:=H.out.fa);(simp only[FaA,PwA,NeB,and_true] at hD);go_wp2_with fail;all_goals (try clear hD))
          go_meet
          case rel=>exact⟨_,rfl,Lq7 (EI.sub gH 2)⟩
         ·have hx':(x3 != 12)=true:=(by simpa using hx)
          ((try simp only[] at H);(have hD:=H.out.fa);(simp only[FaA,PwA,NeB,and_true] at hD);go_wp2_with fail;all_goals (try clear hD))
          go_meet
          case rel=>exact⟨_,rfl,Lq7 (EI.sub gH 2)⟩
       case rest=>
        obtain⟨c1,rfl,H⟩:=hcut
        ((try simp only[] at H);(have hD:=H.out.fa);(simp only[FaA,PwA,NeB,and_true] at hD);go_wp2_with fail;all_goals (try clear hD))
        refine xPrt aJ.out HP.out ?_;intro W1 o ho H;have Ho:=Lq7 ho;clear ho
        ((try simp only[] at H);(have hD:=H.out.fa);(simp only[FaA,PwA,NeB,and_true] at hD);go_wp2_with fail;all_goals (try clear hD))
        refine xRead (l':=l') (by rw[Ho.out];exact aJ.out.2.2.2.2) (by have h1:=aJ.out.2.2.2.1;rw[<-Ho.out,Array.length_toList] at h1;have h2:o.size=o.data.size:=rfl;omega) HE.out ?_;intro c2 V2 a2 k2 H;go_wp2_with fail;have H:=Lq7 ((H.out.alloc2 (cs:=#[A C 1,E ⟨#[]⟩,A C 1,A C 1,D a2 l'.length k2]) (T:=27) (cs':=#[A C 0,A C 0]) (T':=24)).dr (nr':=[]) (vr':=[([.row (Au l')],[D a2 l'.length k2]),([.row (Bf R1)],[D aC R1.length aD])]) 2);simp only[List.nil_append,List.cons_append,List.drop_succ_cons,List.drop_zero] at H;generalize World.alloc _ _=W0 at H |-
        go_cut [22,23,24] from 105 (fun v8 v9 aB wc=>∃(c1:Ctx) (ra:Option Addr) (rc pb:Nat),v8 = D ra R1.length rc/\v9 = A C x1/\aB = M (J ⟨pb,0,L⟩)/\Hid (EI ⟨fun _=>False,N3⟩ w 0 0 noK (fun _=>False) false c1 ⟨[],0,[]⟩ [(V2.heap.size,#[A C 1,E ⟨#[]⟩,A C 1,A C 1,D a2 l'.length k2],27),(V2.heap.size+1,#[A C 0,A C 0],24)] [] [([.row (Bf R1)],[D ra R1.length rc]),([.row (Bf R1)],[D aC R1.length aD])] .nil wc)/\Hid (Lw R1))
        case first=>
         have HR:=HC4;refine xRgn (.s 0 (.s 1 (.b 2 (.b 3 (.s 4 (.s 5 (.s 6 (.s 7 (.h 8 (.s 9 (.s 10 (.h 11 .nil)))))))) 8 (.h 3 (.s 4 (.s 5 (.s 6 (.s 7 (.s 9 (.s 10 (.h 11 .nil))))))))) 8 (.h 2 (.h 3 (.s 4 (.s 5 (.s 6 (.s 7 (.s 9 (.s 10 (.h 11 .nil)))))))))))) 99 ?_;intro V H;exact ldrv
        case rest=>
         obtain⟨c1,ra4,rc4,pb4,rfl,rfl,rfl,H,-⟩:=hcut;have bB:(x1==x1)=true:=(by simp)
         ((try simp only[] at H);(have hD:=H.out.fa);(simp only[FaA,PwA,NeB,and_true] at hD);go_wp2_with fail;all_goals (try clear hD))
         refine xSame bA.out ?_;intro W H
         ((try simp only[List.cons_append,List.nil_append,lsA,lsB] at H);(have hD:=H.out.fa);(simp only[FaA,PwA,NeB,and_true] at hD);go_wp2_with fail;all_goals (try clear hD))
         go_ret;exact⟨rfl,H.out.bel⟩
end Go.Proofs.YtlbbbapiklendaaGreatDoor
