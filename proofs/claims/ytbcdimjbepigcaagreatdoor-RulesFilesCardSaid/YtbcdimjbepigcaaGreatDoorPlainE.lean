/-
  The walks of the plain host's join,lines,sorted and len at any arguments. (Printed by plainE_gen.py.)
-/
import Derived.Test.YtbcdimjbepigcaaGreatDoorMInX
import Derived.Test.YtbcdimjbepigcaaGreatDoorLines
import Derived.Test.YtbcdimjbepigcaaGreatDoorSortedP
namespace Go.Proofs.YtbcdimjbepigcaaGreatDoor
open List renaming getElem?_eq_getElem->lgE,take_of_length_le->ltL
open Nat renaming le_refl->nlr,lt_of_lt_of_le->nll,zero_le->nlz,zero_mul->nzm,add_zero->naz
open Go.Lib renaming hid->Lq7
open Go.RowKit.Below renaming refl->bRf
open Go.World renaming setCell->wsC
set_option maxRecDepth 100000
set_option maxHeartbeats 16000000
open Go Go.RowKit
theorem texts_told{k n s l ks ts}(h:B9 (.mk k n s l ks)=some ts):k=4/\ts.length<=1000/\∀x∈ts,x.size<=65536:=by
 unfold B9 at h;split at h
 ·rename_i hc
  cases h;have hp:=Lf hc.2.1;rw[prV] at hp;refine⟨hc.1,by rw[List.length_map];exact hp.2.2.1,fun x hx=>?_⟩;obtain⟨y,hy,rfl⟩:=List.mem_map.1 hx;have:=prVs_mem hp.2.2.2.2.2.2 hy;obtain⟨yk,yn,ys,yl,yks⟩:=y;rw[prV] at this;exact this.2.1
 ·cases h
theorem Tx(F v a cap w)(hF:∀b,F b->b<w.heap.size)(hr:Af F w a (Ar [v]))(hs:A6 v)(ht:B9 v=none):
  Calls Tryz.prog 292 #[.slice a 1 cap] w (Cm (.error 9) w):=by
 obtain⟨k,n,s,l,ks⟩:=v;obtain⟨b,off,a3,c3,a4,c4,rfl,-,hbl,r0,r1,r2,r3,r4,aF,aG⟩:=hr.val (j:=0) rfl;simp only[nzm,naz] at r0 r1 r2 r3 r4;have aB:=QB.start w;have aD:=aB.below;generalize aJ:w.alloc (.cells #[.int .i64 0,.int .i64 0,.string ⟨#[]⟩,.slice none 0 0,.slice none 0 0] 42)=W0 at aB aD;have H0:=Lq7 aB;have aQ:=Lq7 aJ;have Hc:=Lq7 (Cq k n s l ks hs F a3 c3 a4 c4 W0 (fun b hb=>nll (hF b hb) aD.size) (aF.below aD) (aG.below aD));have Ht:=Lq7 ht;clear aF aG aD ht hr hF hs aJ aB;go_enter Tryz.func292,Tryz.ntmps292;go_wp2_with fail;rw[aQ.out];refine Hc.out.mono ?_;rintro e w1 ⟨aE,hq⟩;rw[Ht.out] at hq;obtain rfl:e=_:=hq;have H1:=Lq7 (H0.out.later aE);clear aE H0 Hc r0 r1 r2 r3 r4;obtain⟨p0,p1,p2,p3,p4,p5,p6,p7,p8,p9,aH⟩:=Aa H1.out.r;go_wp2_with fail;have aC:=H1.out.err 9;generalize wsC _ _ _=W9 at aC |-;clear p0 p1 p2 p3 p4 p5 p6 p7 p8 p9 aH;obtain⟨p0,p1,p2,p3,p4,p5,p6,p7,p8,p9,aH⟩:=Aa aC.2;refine bodyPost_ret (v:=.tuple #[.agg #[.int .i64 0,.int .i64 0,.string ⟨#[]⟩,.slice none 0 0,.slice none 0 0],.int .i64 9]) (by simp[results,Tryz.results292,go_sem,p1,p2,p3,p4,p5]) rfl ?_;exact aC.1
theorem Se(F v a cap w)(hF:∀b,F b->b<w.heap.size)(hr:Af F w a (Ar [v]))(hs:A6 v)(ht:B9 v=none):
  Calls Tryz.prog 293 #[.slice a 1 cap] w (Cm (.error 9) w):=by
 obtain⟨k,n,s,l,ks⟩:=v;obtain⟨b,off,a3,c3,a4,c4,rfl,-,hbl,r0,r1,r2,r3,r4,aF,aG⟩:=hr.val (j:=0) rfl;simp only[nzm,naz] at r0 r1 r2 r3 r4;have aB:=QB.start w;have aD:=aB.below;generalize aJ:w.alloc (.cells #[.int .i64 0,.int .i64 0,.string ⟨#[]⟩,.slice none 0 0,.slice none 0 0] 42)=W0 at aB aD;have H0:=Lq7 aB;have aQ:=Lq7 aJ;have Hc:=Lq7 (Cq k n s l ks hs F a3 c3 a4 c4 W0 (fun b hb=>nll (hF b hb) aD.size) (aF.below aD) (aG.below aD));have Ht:=Lq7 ht;clear aF aG aD ht hr hF hs aJ aB;go_enter Tryz.func293,Tryz.ntmps293;go_wp2_with fail;rw[aQ.out];refine Hc.out.mono ?_;rintro e w1 ⟨aE,hq⟩;rw[Ht.out] at hq;obtain rfl:e=_:=hq;have H1:=Lq7 (H0.out.later aE);clear aE H0 Hc r0 r1 r2 r3 r4;obtain⟨p0,p1,p2,p3,p4,p5,p6,p7,p8,p9,aH⟩:=Aa H1.out.r;go_wp2_with fail;have aC:=H1.out.err 9;generalize wsC _ _ _=W9 at aC |-;clear p0 p1 p2 p3 p4 p5 p6 p7 p8 p9 aH;obtain⟨p0,p1,p2,p3,p4,p5,p6,p7,p8,p9,aH⟩:=Aa aC.2;refine bodyPost_ret (v:=.tuple #[.agg #[.int .i64 0,.int .i64 0,.string ⟨#[]⟩,.slice none 0 0,.slice none 0 0],.int .i64 9]) (by simp[results,Tryz.results293,go_sem,p1,p2,p3,p4,p5]) rfl ?_;exact aC.1
theorem Wq(F u v a cap w)(hF:∀b,F b->b<w.heap.size)(hr:Af F w a (Ar [u,v]))(hs:A6 v)(ht:u.kind=3/\B9 v=none):
  Calls Tryz.prog 291 #[.slice a 2 cap] w (Cm (.error 9) w):=by
 obtain⟨k,n,s,l,ks⟩:=u;obtain⟨k',n',s',l',ks'⟩:=v;obtain⟨b,off,a1,c1,a2,c2,rfl,-,hbl,q0,q1,q2,q3,q4,-,-⟩:=hr.val (j:=0) rfl;obtain⟨b',off',a3,c3,a4,c4,he,-,-,r0,r1,r2,r3,r4,aF,aG⟩:=hr.val (j:=1) rfl;cases he;simp only[nzm,naz,Nat.one_mul] at q0 q1 q2 q3 q4 r0 r1 r2 r3 r4;have aB:=QB.start w;have aD:=aB.below;generalize aJ:w.alloc (.cells #[.int .i64 0,.int .i64 0,.string ⟨#[]⟩,.slice none 0 0,.slice none 0 0] 42)=W0 at aB aD;have H0:=Lq7 aB;have aQ:=Lq7 aJ;have Hc:=Lq7 (Cq k' n' s' l' ks' hs F a3 c3 a4 c4 W0 (fun b hb=>nll (hF b hb) aD.size) (aF.below aD) (aG.below aD));have Hq:=Lq7 (V5.mk hbl q0 q1 q2 q3 q4);obtain⟨hk,ht⟩:=ht;obtain rfl:k=3:=hk;have Ht:=Lq7 ht;clear aF aG aD ht hr hF hs aJ aB;go_enter Tryz.func291,Tryz.ntmps291;go_wp2_with fail;rw[aQ.out];refine Hc.out.mono ?_;rintro e w1 ⟨aE,hq⟩;rw[Ht.out] at hq;obtain rfl:e=_:=hq;have H1:=Lq7 (And.intro (H0.out.later aE) (Hq.out.below (H0.out.below.trans (aE.mono H0.out.below.size))));clear aE H0 Hc q0 q1 q2 q3 q4 r0 r1 r2 r3 r4;obtain⟨-,q0,q1,q2,q3,q4⟩:=H1.out.2;have H2:=Lq7 H1.out.1;obtain⟨p0,p1,p2,p3,p4,p5,p6,p7,p8,p9,aH⟩:=Aa H2.out.r;go_wp2_with fail;have aC:=H2.out.err 9;generalize wsC _ _ _=W9 at aC |-;clear p0 p1 p2 p3 p4 p5 p6 p7 p8 p9 aH;obtain⟨p0,p1,p2,p3,p4,p5,p6,p7,p8,p9,aH⟩:=Aa aC.2;refine bodyPost_ret (v:=.tuple #[.agg #[.int .i64 0,.int .i64 0,.string ⟨#[]⟩,.slice none 0 0,.slice none 0 0],.int .i64 9]) (by simp[results,Tryz.results291,go_sem,p1,p2,p3,p4,p5]) rfl ?_;exact aC.1
theorem Ty(F u v a cap w)(hF:∀b,F b->b<w.heap.size)(hr:Af F w a (Ar [u,v]))(hs:A6 v)(ht:u.kind≠3):
  Calls Tryz.prog 291 #[.slice a 2 cap] w (Cm (.error 9) w):=by
 obtain⟨k,n,s,l,ks⟩:=u;obtain⟨k',n',s',l',ks'⟩:=v;obtain⟨b,off,a1,c1,a2,c2,rfl,-,hbl,q0,q1,q2,q3,q4,-,-⟩:=hr.val (j:=0) rfl;obtain⟨b',off',a3,c3,a4,c4,he,-,-,r0,r1,r2,r3,r4,aF,aG⟩:=hr.val (j:=1) rfl;cases he;simp only[nzm,naz,Nat.one_mul] at q0 q1 q2 q3 q4 r0 r1 r2 r3 r4;have aB:=QB.start w;have aD:=aB.below;generalize aJ:w.alloc (.cells #[.int .i64 0,.int .i64 0,.string ⟨#[]⟩,.slice none 0 0,.slice none 0 0] 42)=W0 at aB aD;have H0:=Lq7 aB;have aQ:=Lq7 aJ;have Hc:=Lq7 (Cq k' n' s' l' ks' hs F a3 c3 a4 c4 W0 (fun b hb=>nll (hF b hb) aD.size) (aF.below aD) (aG.below aD));have Hq:=Lq7 (V5.mk hbl q0 q1 q2 q3 q4);have hk:¬k=3:=ht;have hk3:(k != 3)=true:=(by simpa using hk);have hk2:decide (k=3)=false:=decide_eq_false hk;clear aF aG aD ht hr hF hs aJ aB;go_enter Tryz.func291,Tryz.ntmps291;go_wp2_with fail;rw[aQ.out];refine Hc.out.mono ?_;rintro e w1 ⟨aE,hq⟩;have hq2:∃x ok,e = .returned (.tuple #[x,.bool ok])/\((∃a1 n1 c1,x = .slice a1 n1 c1)):=by
  split at hq
  ·obtain⟨x,rfl,hown⟩:=hq;obtain⟨aT,cT,rfl,-,-⟩:=hown.strsAt;exact⟨_,_,rfl,_,_,_,rfl⟩
  ·exact⟨_,_,hq,_,_,_,rfl⟩
 obtain⟨x,ok,rfl,a8,n8,c8,rfl⟩:=hq2;clear hq;have H1:=Lq7 (And.intro (H0.out.later aE) (Hq.out.below (H0.out.below.trans (aE.mono H0.out.below.size))));clear aE H0 Hc q0 q1 q2 q3 q4 r0 r1 r2 r3 r4;obtain⟨-,q0,q1,q2,q3,q4⟩:=H1.out.2;have H2:=Lq7 H1.out.1;obtain⟨p0,p1,p2,p3,p4,p5,p6,p7,p8,p9,aH⟩:=Aa H2.out.r;go_wp2_with fail;have aC:=H2.out.err 9;generalize wsC _ _ _=W9 at aC |-;clear p0 p1 p2 p3 p4 p5 p6 p7 p8 p9 aH;obtain⟨p0,p1,p2,p3,p4,p5,p6,p7,p8,p9,aH⟩:=Aa aC.2;refine bodyPost_ret (v:=.tuple #[.agg #[.int .i64 0,.int .i64 0,.string ⟨#[]⟩,.slice none 0 0,.slice none 0 0],.int .i64 9]) (by simp[results,Tryz.results291,go_sem,p1,p2,p3,p4,p5]) rfl ?_;exact aC.1
theorem Wr(F n n' s s' l0 ks0 l ks ts a cap w)(hF:∀b,F b->b<w.heap.size)(hr:Af F w a (Ar [.mk 3 n s l0 ks0,.mk 4 n' s' l ks]))(hs:A6 (.mk 4 n' s' l ks))(ht:B9 (.mk 4 n' s' l ks)=some ts)(hlen:ts.length<=1000)(hs0:s.size<=65536)(hts:sumS ts<=65536*1000)(hover:65536<(ts.length - 1)*s.size+sumS ts):
  Calls Tryz.prog 291 #[.slice a 2 cap] w (Cm (.error 6) w):=by
 obtain⟨b,off,a1,c1,a2,c2,rfl,-,hbl,q0,q1,q2,q3,q4,-,-⟩:=hr.val (j:=0) rfl;obtain⟨b',off',a3,c3,a4,c4,he,-,-,r0,r1,r2,r3,r4,aF,aG⟩:=hr.val (j:=1) rfl;cases he;simp only[nzm,naz,Nat.one_mul] at q0 q1 q2 q3 q4 r0 r1 r2 r3 r4;have aD:Below w.heap.size w (w.alloc (.cells #[.int .i64 0,.int .i64 0,.string ⟨#[]⟩,.slice none 0 0,.slice none 0 0] 42)):=(bRf _ w).alloc (nlr _) _;have Hc:=Lq7 (Cq 4 n' s' l ks hs F a3 c3 a4 c4 _ (fun b hb=>nll (hF b hb) aD.size) (aF.below aD) (aG.below aD));have aN:=Lq7 (And.intro (heap_alloc_new w (.cells #[.int .i64 0,.int .i64 0,.string ⟨#[]⟩,.slice none 0 0,.slice none 0 0] 42)) aD);have Ht:=Lq7 ht;have Hr:=Lq7 hr;go_enter Tryz.func291,Tryz.ntmps291;go_wp2_with fail;refine Hc.out.mono ?_;rintro e w1 ⟨aE,hq⟩;rw[Ht.out] at hq;obtain⟨x,rfl,hown⟩:=hq;obtain⟨aT,cT,rfl,aZ,hcap⟩:=hown.strsAt;have bA:=Lq7 aZ;have aR:Below w.heap.size w w1:=aN.out.2.trans (aE.mono aN.out.2.size);have bB:=stays aN.out.1 aE;have bC:=Lq7 bB;have q0:=(aR.cell (p:=⟨b,off,none⟩) hbl).trans q0;have q2:=(aR.cell (p:=⟨b,off+2,none⟩) hbl).trans q2;have aM:=Lq7 aR;go_wp2_with fail;have hm:max (0:Int) ((ts.length:Int) - 1)=((ts.length - 1:Nat):Int):=(by omega);have hm0:(ts.length - 1)*s.size<=1000*65536:=Nat.mul_le_mul (by omega) hs0;have hw:wrap64 ((s.size:Int)*max 0 ((ts.length:Int) - 1))=(((ts.length - 1)*s.size:Nat):Int):=by
  rw[hm,Int.mul_comm,<-Int.natCast_mul];exact IntWalk.wrap64_in _ ⟨by omega,by omega⟩
 rw[hw];generalize hn0:(ts.length - 1)*s.size=n0 at hover hm0 |-
 go_loop [6,38] (fun m i=>∃j:Nat,i = .int .i64 j/\j<=ts.length/\m = .int .i64 ((n0+sumS (ts.take j):Nat):Int)) (fun _ i=>ts.length-(intOf i).toNat)
 case atStart=>exact⟨0,rfl,nlz _,rfl⟩
 case round=>
  obtain⟨j,rfl,hj,rfl⟩:=hrel;by_cases hlt:j<ts.length
  ·obtain⟨bK,oK,bD,bE⟩:=bA.out j _ (lgE hlt);subst bD;have bF:=Ln ts j hlt;have hs2:=Qd ts (j+1);generalize ts[j]=x at bE bF;go_wp2_with fail;go_round
   case rel=>exact⟨j+1,by go_num,by omega,by go_num⟩
   case measure=>simp only[intOf];omega
  ·have bG:ts.take j=ts:=ltL (by omega);rw[bG];have hng:(65536:Int)<((n0+sumS ts:Nat):Int):=(by omega);have H9:Hid (QB w w1 w.heap.size):=Lq7 ⟨aM.out,bC.out,nlr _⟩;obtain⟨p0,p1,p2,p3,p4,p5,p6,p7,p8,p9,aH⟩:=Aa H9.out.r;go_wp2_with fail;have aC:=H9.out.err 6;generalize wsC _ _ _=W9 at aC |-;obtain⟨p0,p1,p2,p3,p4,p5,p6,p7,p8,p9,aH⟩:=Aa aC.2;refine bodyPost_ret (v:=.tuple #[.agg #[.int .i64 0,.int .i64 0,.string ⟨#[]⟩,.slice none 0 0,.slice none 0 0],.int .i64 6]) (by simp[results,Tryz.results291,go_sem,p1,p2,p3,p4,p5]) rfl ?_;exact aC.1
theorem Tz(F n' s' l ks ts a cap w)(hF:∀b,F b->b<w.heap.size)(hr:Af F w a (Ar [.mk 4 n' s' l ks]))(hs:A6 (.mk 4 n' s' l ks))(ht:B9 (.mk 4 n' s' l ks)=some ts)(hlen:ts.length<=1000)(hts:∀x∈ts,x.size<=65536)(hover:65536<totL ts):
  Calls Tryz.prog 292 #[.slice a 1 cap] w (Cm (.error 6) w):=by
 obtain⟨b,off,a3,c3,a4,c4,rfl,-,hbl,r0,r1,r2,r3,r4,aF,aG⟩:=hr.val (j:=0) rfl;simp only[nzm,naz] at r0 r1 r2 r3 r4;have aD:Below w.heap.size w (w.alloc (.cells #[.int .i64 0,.int .i64 0,.string ⟨#[]⟩,.slice none 0 0,.slice none 0 0] 42)):=(bRf _ w).alloc (nlr _) _;have Hc:=Lq7 (Cq 4 n' s' l ks hs F a3 c3 a4 c4 _ (fun b hb=>nll (hF b hb) aD.size) (aF.below aD) (aG.below aD));have aN:=Lq7 (And.intro (heap_alloc_new w (.cells #[.int .i64 0,.int .i64 0,.string ⟨#[]⟩,.slice none 0 0,.slice none 0 0] 42)) aD);have Ht:=Lq7 ht;go_enter Tryz.func292,Tryz.ntmps292;go_wp2_with fail;refine Hc.out.mono ?_;rintro e w1 ⟨aE,hq⟩;rw[Ht.out] at hq;obtain⟨x,rfl,hown⟩:=hq;obtain⟨aT,cT,rfl,aZ,hcap⟩:=hown.strsAt;have hbn:Below w1.heap.size w1 (w1.alloc (.cells #[.pointer none,.slice none 0 0] 110)):=(bRf _ w1).alloc (nlr _) _;have bA:=Lq7 aZ;have aY:=Lq7 hbn;have aM:=Lq7 (And.intro (stays aN.out.1 aE) (aN.out.2.trans (aE.mono aN.out.2.size)));have bQ:=Lq7 (Lib.fresh_isBuilder 110 5 w1);have hw1:w.heap.size<w1.heap.size:=here (stays aN.out.1 aE);go_wp2_with fail;generalize World.alloc _ _=W at bQ aY |-
 go_loopw [21] (fun i wr=>∃j:Nat,i = .int .i64 j/\j<=ts.length/\totL (ts.take j)<=65536/\Hid (Lib.IsBuilder 110 5 w1.heap.size w1.heap.size (Lib.byteCells (Fa (ts.take j))) wr)/\Hid (Below w1.heap.size w1 wr)) (fun i _=>ts.length-(intOf i).toNat)
 case atStart=>exact⟨0,rfl,nlz _,nlz _,bQ,aY⟩
 case round=>
  obtain⟨j,rfl,hj,hle,hbd,bH⟩:=hrel;by_cases hlt:j<ts.length
  ·obtain⟨bK,oK,bD,bE⟩:=(bA.out.below bH.out) j _ (lgE hlt);subst bD;have bF:=Pf ts j hlt;have hs2:=Uj ts (j+1);have bR:=Md ts j hlt;have hs4:=F1 (ts.take j);have bI:(Lib.byteCells (Fa (ts.take j))).length=totL (ts.take j):=(by rw[<-hs4];simp[Lib.byteCells]);have hxz:=hts _ (List.getElem_mem hlt);generalize ts[j]=x at bE bF bR hxz;have hxs:(x++(⟨#[10]⟩:ByteArray)).size=x.size+1:=(by rw[ByteArray.size_append];rfl);have Hc:=Lq7 (O3 w1.heap.size w1.heap.size (Lib.byteCells (Fa (ts.take j))) (x++(⟨#[10]⟩:ByteArray)) wr hbd.out (by rw[bI,hxs];omega) bH.out.size);have Hs3:=Lq7 bR;have aY:=Lq7 bH.out;go_wp2_with fail;refine Hc.out.mono ?_;rintro e w2 ⟨rfl,bJ,bL⟩;have aW:Lib.IsBuilder 110 5 w1.heap.size w1.heap.size (Lib.byteCells (Fa (ts.take (j+1)))) w2:=by
    rw[Hs3.out,Lib.byteCells_append];exact .inr bJ
   have bM:=Lq7 aW;have aU:=Lq7 (aY.out.trans bL);have bN:=Lq7 (Tryz.Builder_Len w1.heap.size w1.heap.size _ w2 aW);have bO:(Lib.byteCells (Fa (ts.take (j+1)))).length=totL (ts.take (j+1)):=(by rw[<-F1];simp[Lib.byteCells]);rw[bO] at bN;have hTT:∃T:Nat,totL (ts.take (j+1))=T:=⟨_,rfl⟩;obtain⟨T,hT⟩:=hTT;rw[hT] at bN;have HT:=Lq7 hT;go_wp2_with fail;refine bN.out.mono ?_;rintro e w3 ⟨rfl,bP⟩;have bP:=bP.symm;subst bP;by_cases hng:(65536:Int)<(T:Int)
   ·have H9:Hid (QB w w2 w.heap.size):=Lq7 ⟨aM.out.2.trans (aU.out.mono (by omega)),(aU.out.block _ hw1).trans aM.out.1,nlr _⟩;obtain⟨p0,p1,p2,p3,p4,p5,p6,p7,p8,p9,aH⟩:=Aa H9.out.r;go_wp2_with fail;have aC:=H9.out.err 6;generalize wsC _ _ _=W9 at aC |-;obtain⟨p0,p1,p2,p3,p4,p5,p6,p7,p8,p9,aH⟩:=Aa aC.2;refine bodyPost_ret (v:=.tuple #[.agg #[.int .i64 0,.int .i64 0,.string ⟨#[]⟩,.slice none 0 0,.slice none 0 0],.int .i64 6]) (by simp[results,Tryz.results292,go_sem,p1,p2,p3,p4,p5]) rfl ?_;exact aC.1
   ·go_wp2_with fail;go_roundw
    case rel=>exact⟨j+1,by go_num,by omega,by rw[HT.out];omega,bM,aU⟩
    case measure=>simp only[intOf];omega
  ·exfalso;have bG:ts.take j=ts:=ltL (by omega);rw[bG] at hle;omega
def joinL(u v:Vl):Except Int Vl:=if ¬u.kind=3 then .error 9 else match B9 v with
 | none=> .error 9
 | some ts=>if 65536<(ts.length - 1)*u.str.size+sumS ts then .error 6 else .ok (Fk (joinB ts u.str))
def linesL(v:Vl):Except Int Vl:=match B9 v with
 | none=> .error 9
 | some ts=>if 65536<totL ts then .error 6 else .ok (Fk (linesB ts))
def sortedL(v:Vl):Except Int Vl:=match B9 v with
 | none=> .error 9
 | some ts=> .ok (.mk 4 0 ⟨#[]⟩ (strsV (sortL ts)) [])
theorem Ws(F u v a cap w)(hF:∀b,F b->b<w.heap.size)(hr:Af F w a (Ar [u,v]))(hs:A6 v)(hu:u.str.size<=65536):
  Calls Tryz.prog 291 #[.slice a 2 cap] w (Cm (joinL u v) w):=by
 unfold joinL;by_cases hk:u.kind=3
 ·rw[if_neg (by simpa using hk)];cases ht:B9 v with
  | none=>exact Wq F u v a cap w hF hr hs ⟨hk,ht⟩
  | some ts=>
   obtain⟨k,n,s,l,ks⟩:=u;obtain⟨k',n',s',l',ks'⟩:=v;obtain⟨h4,hlen,hx⟩:=texts_told ht;obtain rfl:k=3:=hk;subst h4;have hb:=sumS_bound ts hx;have hb2:65536*ts.length<=65536*1000:=Nat.mul_le_mul_left _ hlen
   dsimp only
   split
   ·rename_i hov
    exact Wr F n n' s s' l ks l' ks' ts a cap w hF hr hs ht hlen hu (by omega) hov
   ·rename_i hov
    exact Vo F n n' s s' l ks l' ks' ts a cap w hF hr hs ht hlen (by show(ts.length - 1)*s.size+sumS ts<=65536;exact Nat.le_of_not_lt hov)
 ·rw[if_pos hk];exact Ty F u v a cap w hF hr hs hk
theorem T0(F v a cap w)(hF:∀b,F b->b<w.heap.size)(hr:Af F w a (Ar [v]))(hs:A6 v):
  Calls Tryz.prog 292 #[.slice a 1 cap] w (Cm (linesL v) w):=by
 unfold linesL;cases ht:B9 v with
 | none=>exact Tx F v a cap w hF hr hs ht
 | some ts=>
  obtain⟨k',n',s',l',ks'⟩:=v;obtain⟨h4,hlen,hx⟩:=texts_told ht;subst h4
  dsimp only
  split
  ·rename_i hov
   exact Tz F n' s' l' ks' ts a cap w hF hr hs ht hlen hx hov
  ·rename_i hov
   exact Tg F n' s' l' ks' ts a cap w hF hr hs ht hlen (Nat.le_of_not_lt hov)
theorem Sf(F v a cap w)(hF:∀b,F b->b<w.heap.size)(hr:Af F w a (Ar [v]))(hs:A6 v):
  Calls Tryz.prog 293 #[.slice a 1 cap] w (Cm (sortedL v) w):=by
 unfold sortedL;cases ht:B9 v with
 | none=>exact Se F v a cap w hF hr hs ht
 | some ts=>
  obtain⟨k',n',s',l',ks'⟩:=v;obtain⟨h4,hlen,hx⟩:=texts_told ht;subst h4;exact Qz F n' s' l' ks' ts a cap w hF hr hs ht hlen
theorem Sg(F v a cap w)(hr:Af F w a (Ar [v]))(hs:A6 v)(hv:v.str.size<=65536):
  Calls Tryz.prog 290 #[.slice a 1 cap] w (Cm (F6 v) w):=by
 obtain⟨k,n,s,l,ks⟩:=v;replace hv:s.size<=65536:=hv;have hl:l.length<=140737488355328:=(by rw[A6] at hs;exact hs.2.1);obtain⟨b,off,a1,c1,a2,c2,rfl,-,hbl,q0,q1,q2,q3,q4,-,-⟩:=hr.val (j:=0) rfl;simp only[nzm,naz] at q0 q1 q2 q3 q4;by_cases h3:k=3
 ·subst h3;go_enter Tryz.func290,Tryz.ntmps290;go_wp2_with fail;refine bodyPost_ret (v:=.tuple #[.agg #[.int .i64 2,.int .i64 s.size,.string ⟨#[]⟩,.slice none 0 0,.slice none 0 0],.int .i64 0]) (by simp[results,Tryz.results290,go_sem]) rfl ?_;rw[show F6 (.mk 3 n s l ks) = .ok (.mk 2 s.size ⟨#[]⟩ [] []) from rfl];exact⟨((bRf _ w).alloc (nlr _) _).alloc (by simp) _,_,rfl,Am.int _ _ _⟩
 ·by_cases h4:k=4
  ·subst h4;exact Rp F n s l ks (some ⟨b,off,none⟩) cap w hr hl
  ·by_cases h5:k=5
   ·subst h5;go_enter Tryz.func290,Tryz.ntmps290;go_wp2_with fail;refine bodyPost_ret (v:=.tuple #[.agg #[.int .i64 2,.int .i64 l.length,.string ⟨#[]⟩,.slice none 0 0,.slice none 0 0],.int .i64 0]) (by simp[results,Tryz.results290,go_sem]) rfl ?_;rw[show F6 (.mk 5 n s l ks) = .ok (.mk 2 l.length ⟨#[]⟩ [] []) from rfl];exact⟨((bRf _ w).alloc (nlr _) _).alloc (by simp) _,_,rfl,Am.int _ _ _⟩
   ·have e3:(k==3)=false:=(by simpa using h3);have e4:(k==4)=false:=(by simpa using h4);have e5:(k==5)=false:=(by simpa using h5);have Hr:Hid (F6 (.mk k n s l ks) = .error 9):=Lq7 ((if_neg h3).trans (if_neg (fun h=>h.elim h4 h5)));go_enter Tryz.func290,Tryz.ntmps290;go_wp2_with fail;refine bodyPost_ret (v:=.tuple #[zeroV,.int .i64 9]) (by simp[zeroV,results,Tryz.results290,go_sem]) rfl ?_;rw[Hr.out];exact⟨((bRf _ w).alloc (nlr _) _).alloc (by simp) _,rfl⟩
end Go.Proofs.YtbcdimjbepigcaaGreatDoor