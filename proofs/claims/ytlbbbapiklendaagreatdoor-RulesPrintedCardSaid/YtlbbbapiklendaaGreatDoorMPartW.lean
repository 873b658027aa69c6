/-
  The walk of the plain host's calls that give a part of a path. (Printed by part_gen.py.) (And what it stands on.)
-/
import Derived.Test.YtlbbbapiklendaaGreatDoorMPathCut
import Derived.Test.YtlbbbapiklendaaGreatDoorMInX
import Derived.Test.YtlbbbapiklendaaGreatDoorCalls
namespace Go.Proofs.YtlbbbapiklendaaGreatDoor
open Go Go.RowKit
open Go.Lib renaming hid->Lq7
open And renaming intro->aIn
set_option maxRecDepth 100000
set_option maxHeartbeats 16000000
theorem baseOf_le(s:ByteArray):(Fm s.data.toList).length<=s.size:=by
 have hl:s.data.toList.length=s.size:=rfl;cases hok:Ee s.data.toList with
 | false=>rw[(Zu hok).2];exact Nat.zero_le _
 | true=>
  rcases last_cutP s with⟨e,hc⟩|⟨i,hi,e,hc⟩
  ·rw[(Vz hok hc).2];omega
  ·rw[(Zv hok hc).2,List.length_drop];omega
def extB(b:List UInt8):List UInt8:=if 0<Lib.lastIndexByte (toBs b) 46 then b.drop (Lib.lastIndexByte (toBs b) 46).toNat else []
def Ow(s:List UInt8):List UInt8:=extB (Fm s)
def Qp(s:List UInt8):List UInt8:=Lib.trimSuffix (Fm s) (Ow s)
theorem Zt(s w)(hs:s.size<4294967281):
  Calls Tryz.prog 280 #[.string s] w (Le (Ow s.data.toList) w):=by
 have HC:=Lq7 (Qr s w hs);have aC:=baseOf_le s;have Hx:Hid (Ow s.data.toList=extB (Fm s.data.toList)):=Lq7 rfl;go_enter Tryz.func280,Tryz.ntmps280;go_wp2_with fail;refine HC.out.mono ?_;rintro e w1 ⟨b,rfl,hb,aB⟩;have hbs:b.size<=s.size:=(by have:b.data.toList.length=b.size:=rfl;rw[hb] at this;omega);rw[<-hb] at Hx;have aD:=Lq7 aB;have aE:=Lib.lastIndexByte_spec b 46;go_wp2_with fail;refine(Tryz.strings_LastIndexByte b 46 (by omega) _).mono ?_;rintro e' w2 ⟨rfl,hw⟩;have hw:=hw.symm;subst hw;have aA:Hid (Ow s.data.toList=if 0<Lib.lastIndexByte b 46 then b.data.toList.drop (Lib.lastIndexByte b 46).toNat else []):=Lq7 Hx.out;generalize Lib.lastIndexByte b 46=k at aE aA;have hk2:k<=b.size:=by rcases aE with⟨e,-⟩|⟨i,hi,e,-⟩<;>omega
 by_cases hk:0<k
 ·obtain⟨i,rfl⟩:∃i:Nat,k=i:=⟨k.toNat,by omega⟩;rw[if_pos hk] at aA;go_wp2_with fail;go_ret;exact⟨_,rfl,by rw[aA.out,Ja];simp,aD.out⟩
 ·rw[if_neg hk] at aA;go_wp2_with fail;go_ret;exact⟨_,rfl,aA.out.symm,aD.out⟩
theorem stem_any(s w)(hs:s.size<4294967281):
  Calls Tryz.prog 277 #[.string s] w (Le (Qp s.data.toList) w):=by
 have HC:=Lq7 (Qr s w hs);have HE:=Lq7 (fun W=>Zt s W hs);have aC:=baseOf_le s;go_enter Tryz.func277,Tryz.ntmps277;go_wp2_with fail;refine HC.out.mono ?_;rintro e w1 ⟨b,rfl,hb,aB⟩;have hbs:b.size<=s.size:=(by have:b.data.toList.length=b.size:=rfl;rw[hb] at this;omega);have H1:=Lq7 (aIn hb aB);clear aB HC hb aC;go_wp2_with fail;refine(HE.out _).mono ?_;rintro e w2 ⟨x,rfl,hx,aF⟩;have H2:=Lq7 (aIn hx (H1.out.2.trans (aF.mono H1.out.2.size)));clear aF hx HE;go_wp2_with fail;refine(Tryz.strings_TrimSuffix b x _ (by omega)).mono ?_;rintro e' w3 ⟨rfl,hw⟩;have hw:=hw.symm;subst hw;go_wp2_with fail;go_ret;exact⟨_,rfl,by show Lib.trimSuffix b.data.toList x.data.toList=_;rw[H1.out.1,H2.out.1];rfl,H2.out.2⟩
def Kt(of:List UInt8->List UInt8)(v:Vl):Except Int Vl:=if ¬v.kind=3 then .error 9 else if Ee v.str.data.toList=false then .error 1 else Cb (toBs (of v.str.data.toList))
structure R2(W:World)(b off bx g:Nat)(s:ByteArray):Prop where
 q2:W.cell? ⟨b,off+2,none⟩=some (.string s)
 qf:W.cell? ⟨bx,0,none⟩=some (.func (.func g) #[] #[])
theorem R2.below{W W' b off bx g s}(h:R2 W b off bx g s)(hb:Below W.heap.size W W'):R2 W' b off bx g s:=
 ⟨(hb.cell (p:=⟨b,off+2,none⟩) (Ax h.q2)).trans h.q2,(hb.cell (p:=⟨bx,0,none⟩) (Ax h.qf)).trans h.qf⟩
theorem R2.set{W b off bx g s}(h:R2 W b off bx g s){b0}(hne:b0≠b/\b0≠bx)(i v):R2 (W.setCell ⟨b0,i,none⟩ v) b off bx g s:=
 ⟨(World.cell?_of_block (w:=W) (Ad (Ne.symm hne.1) i v)).trans h.q2,(World.cell?_of_block (w:=W) (Ad (Ne.symm hne.2) i v)).trans h.qf⟩
theorem Tt(g of)(hg:∀(s:ByteArray) w,s.size<4294967281->Calls Tryz.prog g #[.string s] w (Le (of s.data.toList) w))(hof:∀(s:ByteArray),s.size<=65536->(of s.data.toList).length<=65536)(hen:∀args w,(callFunc g args).run Tryz.prog w = .ok (.enter g args) w)(F v a cap bx w)(hbx:w.cell? ⟨bx,0,none⟩=some (.func (.func g) #[] #[]))(hr:Ac F w a (Ar [v]))(hs:v.str.size<=65536):
  Calls Tryz.prog 287 #[.slice a 1 cap,.pointer (some ⟨bx,0,none⟩)] w (Ck (Kt of v) w):=by
 obtain⟨k,n,s,l,ks⟩:=v;replace hs:s.size<=65536:=hs;obtain⟨b,off,a1,c1,a2,c2,rfl,-,hbl,q0,q1,q2,q3,q4,-,-⟩:=hr.val (j:=0) rfl;simp only[Nat.zero_mul,Nat.add_zero] at q0 q1 q2 q3 q4;have aA:=QB.start w;have hne:w.heap.size≠b/\w.heap.size≠bx:=⟨by omega,by have:=Ax hbx;omega⟩;have aD:=Lq7 hne;have hR:R2 w b off bx g s:=⟨q2,hbx⟩;have aJ:=Lq7 hR;generalize aM:w.alloc (.cells #[.int .i64 0,.int .i64 0,.string ⟨#[]⟩,.slice none 0 0,.slice none 0 0] 53)=W0 at aA;have H0:=Lq7 aA;have aG:=Lq7 aM;have Hg:=Lq7 hg;have aN:=Lq7 hof;clear hr aA aM hne hR hg hof q1 q3 q4 hbx;by_cases hk:k=3
 ·subst hk;cases hok:Ee s.data.toList with
  | false=>
   have Ht:Hid (Kt of (.mk 3 n s l ks) = .error 1):=Lq7 ((if_neg (by simp[Vl.kind])).trans (if_pos hok));have HM:=Lq7 (Kw s W0 (by omega));rw[hok] at HM;clear hok;go_enter Tryz.func287,Tryz.ntmps287;go_wp2_with fail;rw[aG.out];refine HM.out.mono ?_;rintro e w1 ⟨rfl,aC⟩;have H1:=Lq7 (H0.out.later aC);clear aC HM q0 q2;obtain⟨p0,p1,p2,p3,p4,p5,p6,p7,p8,p9,aE⟩:=Aa H1.out.r;go_wp2_with fail;have aB:=H1.out.err 1;generalize World.setCell _ _ _=W9 at aB |-;clear p0 p1 p2 p3 p4 p5 p6 p7 p8 p9 aE;obtain⟨p0,p1,p2,p3,p4,p5,p6,p7,p8,p9,aE⟩:=Aa aB.2;refine bodyPost_ret (v:=.tuple #[.agg #[.int .i64 0,.int .i64 0,.string ⟨#[]⟩,.slice none 0 0,.slice none 0 0],.int .i64 1]) (by simp[results,Tryz.results287,go_sem,p1,p2,p3,p4,p5]) rfl ?_;rw[Ht.out];exact aB.1
  | true=>
   have Ht:Hid (Kt of (.mk 3 n s l ks)=Cb (toBs (of s.data.toList))):=Lq7 ((if_neg (by simp[Vl.kind])).trans (if_neg (by show ¬Ee s.data.toList=false;rw[hok];decide)));have HM:=Lq7 (Kw s W0 (by omega));rw[hok] at HM;clear hok;go_enter Tryz.func287,Tryz.ntmps287;go_wp2_with fail;rw[aG.out];refine HM.out.mono ?_;rintro e w1 ⟨rfl,aC⟩;have H1:=Lq7 (aIn (H0.out.later aC) (aJ.out.below (H0.out.below.trans (aC.mono H0.out.below.size))));clear aC HM q0 q2 H0;go_wp2_with fail;have H2:Hid (QB w w1.drew w.heap.size/\R2 w1.drew b off bx g s):=Lq7 ⟨H1.out.1.later (Below.refl _ _).drew,H1.out.2.below (Below.refl _ _).drew⟩;clear H1;refine Bm (.s 0 (.s 1 (.s 2 (.s 3 (.s 4 (.h 5 (.h 6 (.s 7 (.s 8 (.h 9 (.s 10 .nil))))))))))) 99 (fun W'=>R2 W' b off bx g s) H2.out.2 ?_;generalize w1.drew=Wd at H2 |-;refine Bp (.func (.func g) #[] #[]) (fun W' hS=>?_) ?_
   ·obtain⟨z0,z1⟩:=hS;go_simp
   refine Aw (.slice (some ⟨b,off,none⟩) 1 cap) ?_;refine Aw (.pointer (some ⟨b,off,none⟩)) ?_;refine Aw (.pointer (some ⟨b,off+2,none⟩)) ?_;refine Bp (.string s) (fun W' hS=>?_) ?_
   ·obtain⟨z0,z1⟩:=hS;go_simp
   refine Ae rfl (fun K5 hK5=>?_);go_wp2_with fail;refine(Hg.out s _ (by omega)).mono ?_;rintro e w2 ⟨o,rfl,ho,aH⟩;have H3:=Lq7 (aIn (H2.out.1.later aH) (H2.out.2.below aH));have hos:o.size<=9223372036854775807:=by
    have h1:o.data.toList.length=o.size:=rfl;rw[ho] at h1;have:=aN.out s hs;omega
   have aQ:o=toBs (of s.data.toList):=(by rw[<-ho];rfl);rw[<-aQ] at Ht;clear aH H2 ho aQ;go_wp2_with fail;refine hK5 _ _ (fun _=>H3.out.2) ?_;(try simp only[gX,Act.put]);refine Ae rfl (fun K6 hK6=>?_);go_wp2_with fail;refine(E3 o _ hos).mono ?_;rintro e w9 h9;rw[<-Ht.out] at h9;have H6:=Lq7 (H3.out.2.below h9.1);obtain⟨k9,n9,s9,aR,aU,aV,a29,aW,aY,m9,rfl,aZ,bA,bB⟩:=H3.out.1.fin h9;have aF:=Lq7 (aIn aZ (aIn bA bB));clear h9 bA bB aZ H3;go_wp2_with fail;refine hK6 _ _ (fun _=>H6.out) ?_;(try simp only[gX,Act.put]);refine Aw (.agg #[.int .i64 k9,.int .i64 n9,.string s9,.slice aR aU aV,.slice a29 aW aY]) ?_;refine Aw (.int .i64 m9) ?_;obtain⟨p0,p1,p2,p3,p4,p5,p6,p7,p8,p9,aE⟩:=Aa aF.out.1;refine Ae rfl (fun KS hKS=>?_);go_wp2_with fail;refine hKS _ _ (fun _=>((((H6.out.set aD.out 0 _).set aD.out 1 _).set aD.out 2 _).set aD.out 3 _).set aD.out 4 _) ?_;generalize World.setCell _ _ _=W9 at aF |-;clear p0 p1 p2 p3 p4 p5 p6 p7 p8 p9 aE;(try simp only[gX,Act.put]);refine Aw (.int .i64 m9) ?_;refine A2 ?_;(try simp only[gX,Act.put]);go_wp2_with fail;obtain⟨p0,p1,p2,p3,p4,p5,p6,p7,p8,p9,aE⟩:=Aa aF.out.2.2;exact bodyPost_ret (v:=.tuple #[.agg #[.int .i64 k9,.int .i64 n9,.string s9,.slice aR aU aV,.slice a29 aW aY],.int .i64 m9]) (by simp[results,Tryz.results287,go_sem,p1,p2,p3,p4,p5]) rfl aF.out.2.1
 ·have hk2:decide (k=3)=false:=decide_eq_false hk;have hk3:(k != 3)=true:=(by simpa using hk);have Ht:Hid (Kt of (.mk k n s l ks) = .error 9):=Lq7 (if_pos hk);clear aG aJ Hg aN q2;go_enter Tryz.func287,Tryz.ntmps287;go_wp2_with fail;refine bodyPost_ret (v:=.tuple #[zeroV,.int .i64 9]) (by simp[zeroV,results,Tryz.results287,go_sem]) rfl ?_;rw[Ht.out];exact⟨(Below.refl _ w).alloc (Nat.le_refl _) _,rfl⟩
end Go.Proofs.YtlbbbapiklendaaGreatDoor
