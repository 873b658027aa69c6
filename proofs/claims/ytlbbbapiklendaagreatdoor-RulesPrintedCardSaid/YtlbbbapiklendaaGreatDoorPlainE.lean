/-
  The walks of the plain host's join,lines,sorted and len at any arguments. (Printed by plainE_gen.py.)
-/
import Derived.Test.YtlbbbapiklendaaGreatDoorMInX
import Derived.Test.YtlbbbapiklendaaGreatDoorLines
import Derived.Test.YtlbbbapiklendaaGreatDoorSortedP
namespace Go.Proofs.YtlbbbapiklendaaGreatDoor
open Go.IntKind renaming i64->C
open Go.Value renaming int->B,string->E,slice->A
open Option renaming none->D
open List renaming getElem?_eq_getElem->lgE,take_of_length_le->ltL
open Nat renaming le_refl->nlr,lt_of_lt_of_le->nll,zero_le->nlz,zero_mul->nzm,add_zero->naz
open Go.Lib renaming hid->Lq7
open Go.RowKit.Below renaming refl->bRf
open Go.World renaming setCell->wsC
set_option maxRecDepth 100000
set_option maxHeartbeats 16000000
open Go Go.RowKit
theorem texts_told{k n s l ks ts}(h:Cc (.mk k n s l ks)=some ts):k=4/\ts.length<=1000/\∀x∈ts,x.size<=65536:=by
 unfold Cc at h;split at h
 ·rename_i hc
  cases h;have hp:=Ng hc.2.1;rw[prV] at hp;refine⟨hc.1,by rw[List.length_map];exact hp.2.2.1,fun x hx=>?_⟩;obtain⟨y,hy,rfl⟩:=List.mem_map.1 hx;have:=prVs_mem hp.2.2.2.2.2.2 hy;obtain⟨yk,yn,ys,yl,yks⟩:=y;rw[prV] at this;exact this.2.1
 ·cases h
theorem Yr(F v a cap w)(hF:∀b,F b->b<w.heap.size)(hr:Ac F w a (Ar [v]))(hs:Ay v)(ht:Cc v=D):
  Calls Tryz.prog 272 #[A a 1 cap] w (Ck (.error 9) w):=by
 obtain⟨k,n,s,l,ks⟩:=v;obtain⟨b,off,a3,c3,a4,c4,rfl,-,hbl,r0,r1,r2,r3,r4,aE,aF⟩:=hr.val (j:=0) rfl;simp only[nzm,naz] at r0 r1 r2 r3 r4;have aA:=QB.start w;have aC:=aA.below;generalize aH:w.alloc (.cells #[B C 0,B C 0,E ⟨#[]⟩,A D 0 0,A D 0 0] 53)=W0 at aA aC;have H0:=Lq7 aA;have aN:=Lq7 aH;have Hc:=Lq7 (Cw k n s l ks hs F a3 c3 a4 c4 W0 (fun b hb=>nll (hF b hb) aC.size) (aE.below aC) (aF.below aC));have Ht:=Lq7 ht;clear aE aF aC ht hr hF hs aH aA;go_enter Tryz.func272,Tryz.ntmps272;go_wp2_with fail;rw[aN.out];refine Hc.out.mono ?_;rintro e w1 ⟨aD,hq⟩;rw[Ht.out] at hq;obtain rfl:e=_:=hq;have H1:=Lq7 (H0.out.later aD);clear aD H0 Hc r0 r1 r2 r3 r4;obtain⟨p0,p1,p2,p3,p4,p5,p6,p7,p8,p9,aG⟩:=Aa H1.out.r;go_wp2_with fail;have aB:=H1.out.err 9;generalize wsC _ _ _=W9 at aB |-;clear p0 p1 p2 p3 p4 p5 p6 p7 p8 p9 aG;obtain⟨p0,p1,p2,p3,p4,p5,p6,p7,p8,p9,aG⟩:=Aa aB.2;refine bodyPost_ret (v:=.tuple #[.agg #[B C 0,B C 0,E ⟨#[]⟩,A D 0 0,A D 0 0],B C 9]) (by simp[results,Tryz.results272,go_sem,p1,p2,p3,p4,p5]) rfl ?_;exact aB.1
theorem Wk(F v a cap w)(hF:∀b,F b->b<w.heap.size)(hr:Ac F w a (Ar [v]))(hs:Ay v)(ht:Cc v=D):
  Calls Tryz.prog 273 #[A a 1 cap] w (Ck (.error 9) w):=by
 obtain⟨k,n,s,l,ks⟩:=v;obtain⟨b,off,a3,c3,a4,c4,rfl,-,hbl,r0,r1,r2,r3,r4,aE,aF⟩:=hr.val (j:=0) rfl;simp only[nzm,naz] at r0 r1 r2 r3 r4;have aA:=QB.start w;have aC:=aA.below;generalize aH:w.alloc (.cells #[B C 0,B C 0,E ⟨#[]⟩,A D 0 0,A D 0 0] 53)=W0 at aA aC;have H0:=Lq7 aA;have aN:=Lq7 aH;have Hc:=Lq7 (Cw k n s l ks hs F a3 c3 a4 c4 W0 (fun b hb=>nll (hF b hb) aC.size) (aE.below aC) (aF.below aC));have Ht:=Lq7 ht;clear aE aF aC ht hr hF hs aH aA;go_enter Tryz.func273,Tryz.ntmps273;go_wp2_with fail;rw[aN.out];refine Hc.out.mono ?_;rintro e w1 ⟨aD,hq⟩;rw[Ht.out] at hq;obtain rfl:e=_:=hq;have H1:=Lq7 (H0.out.later aD);clear aD H0 Hc r0 r1 r2 r3 r4;obtain⟨p0,p1,p2,p3,p4,p5,p6,p7,p8,p9,aG⟩:=Aa H1.out.r;go_wp2_with fail;have aB:=H1.out.err 9;generalize wsC _ _ _=W9 at aB |-;clear p0 p1 p2 p3 p4 p5 p6 p7 p8 p9 aG;obtain⟨p0,p1,p2,p3,p4,p5,p6,p7,p8,p9,aG⟩:=Aa aB.2;refine bodyPost_ret (v:=.tuple #[.agg #[B C 0,B C 0,E ⟨#[]⟩,A D 0 0,A D 0 0],B C 9]) (by simp[results,Tryz.results273,go_sem,p1,p2,p3,p4,p5]) rfl ?_;exact aB.1
theorem Abt(F u v a cap w)(hF:∀b,F b->b<w.heap.size)(hr:Ac F w a (Ar [u,v]))(hs:Ay v)(ht:u.kind=3/\Cc v=D):
  Calls Tryz.prog 271 #[A a 2 cap] w (Ck (.error 9) w):=by
 obtain⟨k,n,s,l,ks⟩:=u;obtain⟨k',n',s',l',ks'⟩:=v;obtain⟨b,off,a1,c1,a2,c2,rfl,-,hbl,q0,q1,q2,q3,q4,-,-⟩:=hr.val (j:=0) rfl;obtain⟨b',off',a3,c3,a4,c4,he,-,-,r0,r1,r2,r3,r4,aE,aF⟩:=hr.val (j:=1) rfl;cases he;simp only[nzm,naz,Nat.one_mul] at q0 q1 q2 q3 q4 r0 r1 r2 r3 r4;have aA:=QB.start w;have aC:=aA.below;generalize aH:w.alloc (.cells #[B C 0,B C 0,E ⟨#[]⟩,A D 0 0,A D 0 0] 53)=W0 at aA aC;have H0:=Lq7 aA;have aN:=Lq7 aH;have Hc:=Lq7 (Cw k' n' s' l' ks' hs F a3 c3 a4 c4 W0 (fun b hb=>nll (hF b hb) aC.size) (aE.below aC) (aF.below aC));have Hq:=Lq7 (V5.mk hbl q0 q1 q2 q3 q4);obtain⟨hk,ht⟩:=ht;obtain rfl:k=3:=hk;have Ht:=Lq7 ht;clear aE aF aC ht hr hF hs aH aA;go_enter Tryz.func271,Tryz.ntmps271;go_wp2_with fail;rw[aN.out];refine Hc.out.mono ?_;rintro e w1 ⟨aD,hq⟩;rw[Ht.out] at hq;obtain rfl:e=_:=hq;have H1:=Lq7 (And.intro (H0.out.later aD) (Hq.out.below (H0.out.below.trans (aD.mono H0.out.below.size))));clear aD H0 Hc q0 q1 q2 q3 q4 r0 r1 r2 r3 r4;obtain⟨-,q0,q1,q2,q3,q4⟩:=H1.out.2;have H2:=Lq7 H1.out.1;obtain⟨p0,p1,p2,p3,p4,p5,p6,p7,p8,p9,aG⟩:=Aa H2.out.r;go_wp2_with fail;have aB:=H2.out.err 9;generalize wsC _ _ _=W9 at aB |-;clear p0 p1 p2 p3 p4 p5 p6 p7 p8 p9 aG;obtain⟨p0,p1,p2,p3,p4,p5,p6,p7,p8,p9,aG⟩:=Aa aB.2;refine bodyPost_ret (v:=.tuple #[.agg #[B C 0,B C 0,E ⟨#[]⟩,A D 0 0,A D 0 0],B C 9]) (by simp[results,Tryz.results271,go_sem,p1,p2,p3,p4,p5]) rfl ?_;exact aB.1
theorem Ys(F u v a cap w)(hF:∀b,F b->b<w.heap.size)(hr:Ac F w a (Ar [u,v]))(hs:Ay v)(ht:u.kind≠3):
  Calls Tryz.prog 271 #[A a 2 cap] w (Ck (.error 9) w):=by
 obtain⟨k,n,s,l,ks⟩:=u;obtain⟨k',n',s',l',ks'⟩:=v;obtain⟨b,off,a1,c1,a2,c2,rfl,-,hbl,q0,q1,q2,q3,q4,-,-⟩:=hr.val (j:=0) rfl;obtain⟨b',off',a3,c3,a4,c4,he,-,-,r0,r1,r2,r3,r4,aE,aF⟩:=hr.val (j:=1) rfl;cases he;simp only[nzm,naz,Nat.one_mul] at q0 q1 q2 q3 q4 r0 r1 r2 r3 r4;have aA:=QB.start w;have aC:=aA.below;generalize aH:w.alloc (.cells #[B C 0,B C 0,E ⟨#[]⟩,A D 0 0,A D 0 0] 53)=W0 at aA aC;have H0:=Lq7 aA;have aN:=Lq7 aH;have Hc:=Lq7 (Cw k' n' s' l' ks' hs F a3 c3 a4 c4 W0 (fun b hb=>nll (hF b hb) aC.size) (aE.below aC) (aF.below aC));have Hq:=Lq7 (V5.mk hbl q0 q1 q2 q3 q4);have hk:¬k=3:=ht;have hk3:(k != 3)=true:=(by simpa using hk);have hk2:decide (k=3)=false:=decide_eq_false hk;clear aE aF aC ht hr hF hs aH aA;go_enter Tryz.func271,Tryz.ntmps271;go_wp2_with fail;rw[aN.out];refine Hc.out.mono ?_;rintro e w1 ⟨aD,hq⟩;have hq2:∃x ok,e = .returned (.tuple #[x,.bool ok])/\((∃a1 n1 c1,x = A a1 n1 c1)):=by
  split at hq
  ·obtain⟨x,rfl,hown⟩:=hq;obtain⟨aT,cT,rfl,-,-⟩:=hown.strsAt;exact⟨_,_,rfl,_,_,_,rfl⟩
  ·exact⟨_,_,hq,_,_,_,rfl⟩
 obtain⟨x,ok,rfl,a8,n8,c8,rfl⟩:=hq2;clear hq;have H1:=Lq7 (And.intro (H0.out.later aD) (Hq.out.below (H0.out.below.trans (aD.mono H0.out.below.size))));clear aD H0 Hc q0 q1 q2 q3 q4 r0 r1 r2 r3 r4;obtain⟨-,q0,q1,q2,q3,q4⟩:=H1.out.2;have H2:=Lq7 H1.out.1;obtain⟨p0,p1,p2,p3,p4,p5,p6,p7,p8,p9,aG⟩:=Aa H2.out.r;go_wp2_with fail;have aB:=H2.out.err 9;generalize wsC _ _ _=W9 at aB |-;clear p0 p1 p2 p3 p4 p5 p6 p7 p8 p9 aG;obtain⟨p0,p1,p2,p3,p4,p5,p6,p7,p8,p9,aG⟩:=Aa aB.2;refine bodyPost_ret (v:=.tuple #[.agg #[B C 0,B C 0,E ⟨#[]⟩,A D 0 0,A D 0 0],B C 9]) (by simp[results,Tryz.results271,go_sem,p1,p2,p3,p4,p5]) rfl ?_;exact aB.1
theorem Abu(F n n' s s' l0 ks0 l ks ts a cap w)(hF:∀b,F b->b<w.heap.size)(hr:Ac F w a (Ar [.mk 3 n s l0 ks0,.mk 4 n' s' l ks]))(hs:Ay (.mk 4 n' s' l ks))(ht:Cc (.mk 4 n' s' l ks)=some ts)(hlen:ts.length<=1000)(hs0:s.size<=65536)(hts:sumS ts<=65536*1000)(hover:65536<(ts.length - 1)*s.size+sumS ts):
  Calls Tryz.prog 271 #[A a 2 cap] w (Ck (.error 6) w):=by
 obtain⟨b,off,a1,c1,a2,c2,rfl,-,hbl,q0,q1,q2,q3,q4,-,-⟩:=hr.val (j:=0) rfl;obtain⟨b',off',a3,c3,a4,c4,he,-,-,r0,r1,r2,r3,r4,aE,aF⟩:=hr.val (j:=1) rfl;cases he;simp only[nzm,naz,Nat.one_mul] at q0 q1 q2 q3 q4 r0 r1 r2 r3 r4;have aC:Below w.heap.size w (w.alloc (.cells #[B C 0,B C 0,E ⟨#[]⟩,A D 0 0,A D 0 0] 53)):=(bRf _ w).alloc (nlr _) _;have Hc:=Lq7 (Cw 4 n' s' l ks hs F a3 c3 a4 c4 _ (fun b hb=>nll (hF b hb) aC.size) (aE.below aC) (aF.below aC));have aM:=Lq7 (And.intro (heap_alloc_new w (.cells #[B C 0,B C 0,E ⟨#[]⟩,A D 0 0,A D 0 0] 53)) aC);have Ht:=Lq7 ht;have Hr:=Lq7 hr;go_enter Tryz.func271,Tryz.ntmps271;go_wp2_with fail;refine Hc.out.mono ?_;rintro e w1 ⟨aD,hq⟩;rw[Ht.out] at hq;obtain⟨x,rfl,hown⟩:=hq;obtain⟨aT,cT,rfl,aW,hcap⟩:=hown.strsAt;have aY:=Lq7 aW;have aQ:Below w.heap.size w w1:=aM.out.2.trans (aD.mono aM.out.2.size);have aZ:=stays aM.out.1 aD;have bA:=Lq7 aZ;have q0:=(aQ.cell (p:=⟨b,off,D⟩) hbl).trans q0;have q2:=(aQ.cell (p:=⟨b,off+2,D⟩) hbl).trans q2;have aJ:=Lq7 aQ;go_wp2_with fail;have hm:max (0:Int) ((ts.length:Int) - 1)=((ts.length - 1:Nat):Int):=(by omega);have hm0:(ts.length - 1)*s.size<=1000*65536:=Nat.mul_le_mul (by omega) hs0;have hw:wrap64 ((s.size:Int)*max 0 ((ts.length:Int) - 1))=(((ts.length - 1)*s.size:Nat):Int):=by
  rw[hm,Int.mul_comm,<-Int.natCast_mul];exact IntWalk.wrap64_in _ ⟨by omega,by omega⟩
 rw[hw];generalize hn0:(ts.length - 1)*s.size=n0 at hover hm0 |-
 go_loop [6,38] (fun m i=>∃j:Nat,i = B C j/\j<=ts.length/\m = B C ((n0+sumS (ts.take j):Nat):Int)) (fun _ i=>ts.length-(intOf i).toNat)
 case atStart=>exact⟨0,rfl,nlz _,rfl⟩
 case round=>
  obtain⟨j,rfl,hj,rfl⟩:=hrel;by_cases hlt:j<ts.length
  ·obtain⟨bK,oK,bB,bC⟩:=aY.out j _ (lgE hlt);subst bB;have bD:=Nv ts j hlt;have hs2:=Ti ts (j+1);generalize ts[j]=x at bC bD;go_wp2_with fail;go_round
   case rel=>exact⟨j+1,by go_num,by omega,by go_num⟩
   case measure=>simp only[intOf];omega
  ·have bE:ts.take j=ts:=ltL (by omega);rw[bE];have hng:(65536:Int)<((n0+sumS ts:Nat):Int):=(by omega);have H9:Hid (QB w w1 w.heap.size):=Lq7 ⟨aJ.out,bA.out,nlr _⟩;obtain⟨p0,p1,p2,p3,p4,p5,p6,p7,p8,p9,aG⟩:=Aa H9.out.r;go_wp2_with fail;have aB:=H9.out.err 6;generalize wsC _ _ _=W9 at aB |-;obtain⟨p0,p1,p2,p3,p4,p5,p6,p7,p8,p9,aG⟩:=Aa aB.2;refine bodyPost_ret (v:=.tuple #[.agg #[B C 0,B C 0,E ⟨#[]⟩,A D 0 0,A D 0 0],B C 6]) (by simp[results,Tryz.results271,go_sem,p1,p2,p3,p4,p5]) rfl ?_;exact aB.1
theorem Yt(F n' s' l ks ts a cap w)(hF:∀b,F b->b<w.heap.size)(hr:Ac F w a (Ar [.mk 4 n' s' l ks]))(hs:Ay (.mk 4 n' s' l ks))(ht:Cc (.mk 4 n' s' l ks)=some ts)(hlen:ts.length<=1000)(hts:∀x∈ts,x.size<=65536)(hover:65536<totL ts):
  Calls Tryz.prog 272 #[A a 1 cap] w (Ck (.error 6) w):=by
 obtain⟨b,off,a3,c3,a4,c4,rfl,-,hbl,r0,r1,r2,r3,r4,aE,aF⟩:=hr.val (j:=0) rfl;simp only[nzm,naz] at r0 r1 r2 r3 r4;have aC:Below w.heap.size w (w.alloc (.cells #[B C 0,B C 0,E ⟨#[]⟩,A D 0 0,A D 0 0] 53)):=(bRf _ w).alloc (nlr _) _;have Hc:=Lq7 (Cw 4 n' s' l ks hs F a3 c3 a4 c4 _ (fun b hb=>nll (hF b hb) aC.size) (aE.below aC) (aF.below aC));have aM:=Lq7 (And.intro (heap_alloc_new w (.cells #[B C 0,B C 0,E ⟨#[]⟩,A D 0 0,A D 0 0] 53)) aC);have Ht:=Lq7 ht;go_enter Tryz.func272,Tryz.ntmps272;go_wp2_with fail;refine Hc.out.mono ?_;rintro e w1 ⟨aD,hq⟩;rw[Ht.out] at hq;obtain⟨x,rfl,hown⟩:=hq;obtain⟨aT,cT,rfl,aW,hcap⟩:=hown.strsAt;have hbn:Below w1.heap.size w1 (w1.alloc (.cells #[.pointer D,A D 0 0] 91)):=(bRf _ w1).alloc (nlr _) _;have aY:=Lq7 aW;have aV:=Lq7 hbn;have aJ:=Lq7 (And.intro (stays aM.out.1 aD) (aM.out.2.trans (aD.mono aM.out.2.size)));have bP:=Lq7 (Lib.fresh_isBuilder 91 5 w1);have hw1:w.heap.size<w1.heap.size:=here (stays aM.out.1 aD);go_wp2_with fail;generalize World.alloc _ _=W at bP aV |-
 go_loopw [21] (fun i wr=>∃j:Nat,i = B C j/\j<=ts.length/\totL (ts.take j)<=65536/\Hid (Lib.IsBuilder 91 5 w1.heap.size w1.heap.size (Lib.byteCells (Fj (ts.take j))) wr)/\Hid (Below w1.heap.size w1 wr)) (fun i _=>ts.length-(intOf i).toNat)
 case atStart=>exact⟨0,rfl,nlz _,nlz _,bP,aV⟩
 case round=>
  obtain⟨j,rfl,hj,hle,hbd,bG⟩:=hrel;by_cases hlt:j<ts.length
  ·obtain⟨bK,oK,bB,bC⟩:=(aY.out.below bG.out) j _ (lgE hlt);subst bB;have bD:=Rz ts j hlt;have hs2:=Zo ts (j+1);have bQ:=Oq ts j hlt;have hs4:=Gm (ts.take j);have bH:(Lib.byteCells (Fj (ts.take j))).length=totL (ts.take j):=(by rw[<-hs4];simp[Lib.byteCells]);have hxz:=hts _ (List.getElem_mem hlt);generalize ts[j]=x at bC bD bQ hxz;have hxs:(x++(⟨#[10]⟩:ByteArray)).size=x.size+1:=(by rw[ByteArray.size_append];rfl);have Hc:=Lq7 (Rm w1.heap.size w1.heap.size (Lib.byteCells (Fj (ts.take j))) (x++(⟨#[10]⟩:ByteArray)) wr hbd.out (by rw[bH,hxs];omega) bG.out.size);have Hs3:=Lq7 bQ;have aV:=Lq7 bG.out;go_wp2_with fail;refine Hc.out.mono ?_;rintro e w2 ⟨rfl,bI,bJ⟩;have aU:Lib.IsBuilder 91 5 w1.heap.size w1.heap.size (Lib.byteCells (Fj (ts.take (j+1)))) w2:=by
    rw[Hs3.out,Lib.byteCells_append];exact .inr bI
   have bL:=Lq7 aU;have aR:=Lq7 (aV.out.trans bJ);have bM:=Lq7 (Tryz.Builder_Len w1.heap.size w1.heap.size _ w2 aU);have bN:(Lib.byteCells (Fj (ts.take (j+1)))).length=totL (ts.take (j+1)):=(by rw[<-Gm];simp[Lib.byteCells]);rw[bN] at bM;have hTT:∃T:Nat,totL (ts.take (j+1))=T:=⟨_,rfl⟩;obtain⟨T,hT⟩:=hTT;rw[hT] at bM;have HT:=Lq7 hT;go_wp2_with fail;refine bM.out.mono ?_;rintro e w3 ⟨rfl,bO⟩;have bO:=bO.symm;subst bO;by_cases hng:(65536:Int)<(T:Int)
   ·have H9:Hid (QB w w2 w.heap.size):=Lq7 ⟨aJ.out.2.trans (aR.out.mono (by omega)),(aR.out.block _ hw1).trans aJ.out.1,nlr _⟩;obtain⟨p0,p1,p2,p3,p4,p5,p6,p7,p8,p9,aG⟩:=Aa H9.out.r;go_wp2_with fail;have aB:=H9.out.err 6;generalize wsC _ _ _=W9 at aB |-;obtain⟨p0,p1,p2,p3,p4,p5,p6,p7,p8,p9,aG⟩:=Aa aB.2;refine bodyPost_ret (v:=.tuple #[.agg #[B C 0,B C 0,E ⟨#[]⟩,A D 0 0,A D 0 0],B C 6]) (by simp[results,Tryz.results272,go_sem,p1,p2,p3,p4,p5]) rfl ?_;exact aB.1
   ·go_wp2_with fail;go_roundw
    case rel=>exact⟨j+1,by go_num,by omega,by rw[HT.out];omega,bL,aR⟩
    case measure=>simp only[intOf];omega
  ·exfalso;have bE:ts.take j=ts:=ltL (by omega);rw[bE] at hle;omega
def joinL(u v:Vl):Except Int Vl:=if ¬u.kind=3 then .error 9 else match Cc v with
 | none=> .error 9
 | some ts=>if 65536<(ts.length - 1)*u.str.size+sumS ts then .error 6 else .ok (Fx (joinB ts u.str))
def linesL(v:Vl):Except Int Vl:=match Cc v with
 | none=> .error 9
 | some ts=>if 65536<totL ts then .error 6 else .ok (Fx (linesB ts))
def sortedL(v:Vl):Except Int Vl:=match Cc v with
 | none=> .error 9
 | some ts=> .ok (.mk 4 0 ⟨#[]⟩ (strsV (sortL ts)) [])
theorem Abv(F u v a cap w)(hF:∀b,F b->b<w.heap.size)(hr:Ac F w a (Ar [u,v]))(hs:Ay v)(hu:u.str.size<=65536):
  Calls Tryz.prog 271 #[A a 2 cap] w (Ck (joinL u v) w):=by
 unfold joinL;by_cases hk:u.kind=3
 ·rw[if_neg (by simpa using hk)];cases ht:Cc v with
  | none=>exact Abt F u v a cap w hF hr hs ⟨hk,ht⟩
  | some ts=>
   obtain⟨k,n,s,l,ks⟩:=u;obtain⟨k',n',s',l',ks'⟩:=v;obtain⟨h4,hlen,hx⟩:=texts_told ht;obtain rfl:k=3:=hk;subst h4;have hb:=sumS_bound ts hx;have hb2:65536*ts.length<=65536*1000:=Nat.mul_le_mul_left _ hlen
   dsimp only
   split
   ·rename_i hov
    exact Abu F n n' s s' l ks l' ks' ts a cap w hF hr hs ht hlen hu (by omega) hov
   ·rename_i hov
    exact Aao F n n' s s' l ks l' ks' ts a cap w hF hr hs ht hlen (by show(ts.length - 1)*s.size+sumS ts<=65536;exact Nat.le_of_not_lt hov)
 ·rw[if_pos hk];exact Ys F u v a cap w hF hr hs hk
theorem Yu(F v a cap w)(hF:∀b,F b->b<w.heap.size)(hr:Ac F w a (Ar [v]))(hs:Ay v):
  Calls Tryz.prog 272 #[A a 1 cap] w (Ck (linesL v) w):=by
 unfold linesL;cases ht:Cc v with
 | none=>exact Yr F v a cap w hF hr hs ht
 | some ts=>
  obtain⟨k',n',s',l',ks'⟩:=v;obtain⟨h4,hlen,hx⟩:=texts_told ht;subst h4
  dsimp only
  split
  ·rename_i hov
   exact Yt F n' s' l' ks' ts a cap w hF hr hs ht hlen hx hov
  ·rename_i hov
   exact X5 F n' s' l' ks' ts a cap w hF hr hs ht hlen (Nat.le_of_not_lt hov)
theorem Wl(F v a cap w)(hF:∀b,F b->b<w.heap.size)(hr:Ac F w a (Ar [v]))(hs:Ay v):
  Calls Tryz.prog 273 #[A a 1 cap] w (Ck (sortedL v) w):=by
 unfold sortedL;cases ht:Cc v with
 | none=>exact Wk F v a cap w hF hr hs ht
 | some ts=>
  obtain⟨k',n',s',l',ks'⟩:=v;obtain⟨h4,hlen,hx⟩:=texts_told ht;subst h4;exact Ua F n' s' l' ks' ts a cap w hF hr hs ht hlen
theorem Wm(F v a cap w)(hr:Ac F w a (Ar [v]))(hs:Ay v)(hv:v.str.size<=65536):
  Calls Tryz.prog 270 #[A a 1 cap] w (Ck (Gt v) w):=by
 obtain⟨k,n,s,l,ks⟩:=v;replace hv:s.size<=65536:=hv;have hl:l.length<=140737488355328:=(by rw[Ay] at hs;exact hs.2.1);obtain⟨b,off,a1,c1,a2,c2,rfl,-,hbl,q0,q1,q2,q3,q4,-,-⟩:=hr.val (j:=0) rfl;simp only[nzm,naz] at q0 q1 q2 q3 q4;by_cases h3:k=3
 ·subst h3;go_enter Tryz.func270,Tryz.ntmps270;go_wp2_with fail;refine bodyPost_ret (v:=.tuple #[.agg #[B C 2,B C s.size,E ⟨#[]⟩,A D 0 0,A D 0 0],B C 0]) (by simp[results,Tryz.results270,go_sem]) rfl ?_;rw[show Gt (.mk 3 n s l ks) = .ok (.mk 2 s.size ⟨#[]⟩ [] []) from rfl];exact⟨((bRf _ w).alloc (nlr _) _).alloc (by simp) _,_,rfl,Ai.int _ _ _⟩
 ·by_cases h4:k=4
  ·subst h4;exact Vf F n s l ks (some ⟨b,off,D⟩) cap w hr hl
  ·by_cases h5:k=5
   ·subst h5;go_enter Tryz.func270,Tryz.ntmps270;go_wp2_with fail;refine bodyPost_ret (v:=.tuple #[.agg #[B C 2,B C l.length,E ⟨#[]⟩,A D 0 0,A D 0 0],B C 0]) (by simp[results,Tryz.results270,go_sem]) rfl ?_;rw[show Gt (.mk 5 n s l ks) = .ok (.mk 2 l.length ⟨#[]⟩ [] []) from rfl];exact⟨((bRf _ w).alloc (nlr _) _).alloc (by simp) _,_,rfl,Ai.int _ _ _⟩
   ·have e3:(k==3)=false:=(by simpa using h3);have e4:(k==4)=false:=(by simpa using h4);have e5:(k==5)=false:=(by simpa using h5);have Hr:Hid (Gt (.mk k n s l ks) = .error 9):=Lq7 ((if_neg h3).trans (if_neg (fun h=>h.elim h4 h5)));go_enter Tryz.func270,Tryz.ntmps270;go_wp2_with fail;refine bodyPost_ret (v:=.tuple #[zeroV,B C 9]) (by simp[zeroV,results,Tryz.results270,go_sem]) rfl ?_;rw[Hr.out];exact⟨((bRf _ w).alloc (nlr _) _).alloc (by simp) _,rfl⟩
end Go.Proofs.YtlbbbapiklendaaGreatDoor