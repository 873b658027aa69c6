/-
  The walk of the plain host's join,where what is joined isn't too long.
-/
import Derived.Test.YtlbbbapiklendaaGreatDoorMPlusA
import Derived.Test.YtlbbbapiklendaaGreatDoorListsPlain
namespace Go.Proofs.YtlbbbapiklendaaGreatDoor
open Go.Lib renaming hid->Lq7
set_option maxRecDepth 100000
set_option maxHeartbeats 16000000
open Go Go.RowKit
def sumS(l:List ByteArray):Nat:=(l.map ByteArray.size).sum
theorem Nv(l:List ByteArray)(j:Nat)(h:j<l.length):sumS (l.take (j+1))=sumS (l.take j)+l[j].size:=by
 unfold sumS;rw[List.take_add_one,List.getElem?_eq_getElem h,Option.toList_some,List.map_append,List.sum_append];simp
theorem Ti(l j):sumS (l.take j)<=sumS l:=by
 unfold sumS
 conv=>rhs;rw[<-List.take_append_drop j l,List.map_append,List.sum_append]
 omega
def joinB(l:List ByteArray)(sep:ByteArray):ByteArray:=⟨(Lib.join (l.map (·.data.toList)) sep.data.toList).toArray⟩
theorem P7(l sep):(joinB l sep).size=(l.length - 1)*sep.size+sumS l:=by
 have h:=Mr sep.data.toList (l.map (·.data.toList));rw[List.length_map,List.map_map,Al] at h;show(Lib.join (l.map (·.data.toList)) sep.data.toList).toArray.size=_;rw[List.size_toArray,h];unfold sumS
 congr 2
theorem Nw(a cap ts sep w)(hst:Dx w a ts)(hcap:ts.length<=cap)(hlen:ts.length<=1000)(hsz:(joinB ts sep).size<=140737488355328):
  Calls Tryz.prog 282 #[.slice a ts.length cap,.string sep] w (fun e w'=>e = .returned (.string (joinB ts sep))/\Below w.heap.size w w'):=by
 cases ts with
 | nil=>
  refine(Tryz.strings_Join_none a cap sep w).mono ?_;rintro e w' ⟨rfl,hw⟩;rw[hw];exact⟨rfl,Below.refl _ _⟩
 | cons x r=>
  obtain⟨b,off,rfl,hc⟩:=hst 0 x rfl;refine Tryz.strings_Join b off cap (x::r) sep w (fun j y hj=>?_) ?_ (by omega) hcap hsz
  ·obtain⟨b',off',he,h⟩:=hst j y hj;cases he;exact h
  ·exact Ax hc
theorem Aao(F n n' s s' l0 ks0 l ks ts a cap w)(hF:∀b,F b->b<w.heap.size)(hr:Ac F w a (Ar [.mk 3 n s l0 ks0,.mk 4 n' s' l ks]))(hs:Ay (.mk 4 n' s' l ks))(ht:Cc (.mk 4 n' s' l ks)=some ts)(hlen:ts.length<=1000)(hfit:(ts.length - 1)*s.size+sumS ts<=65536):
  Calls Tryz.prog 271 #[.slice a 2 cap] w (Ck (.ok (Fx (joinB ts s))) w):=by
 obtain⟨b,off,a1,c1,a2,c2,rfl,-,hbl,q0,q1,q2,q3,q4,-,-⟩:=hr.val (j:=0) rfl;obtain⟨b',off',a3,c3,a4,c4,he,-,-,r0,r1,r2,r3,r4,hv1,hv2⟩:=hr.val (j:=1) rfl;cases he;simp only[Nat.zero_mul,Nat.add_zero,Nat.one_mul] at q0 q1 q2 q3 q4 r0 r1 r2 r3 r4;have aG:Below w.heap.size w (w.alloc (.cells #[.int .i64 0,.int .i64 0,.string ⟨#[]⟩,.slice none 0 0,.slice none 0 0] 53)):=(Below.refl _ w).alloc (Nat.le_refl _) _;have Hc:=Lq7 (Cw 4 n' s' l ks hs F a3 c3 a4 c4 _ (fun b hb=>Nat.lt_of_lt_of_le (hF b hb) aG.size) (hv1.below aG) (hv2.below aG));have aH:=Lq7 (And.intro (heap_alloc_new w (.cells #[.int .i64 0,.int .i64 0,.string ⟨#[]⟩,.slice none 0 0,.slice none 0 0] 53)) aG);have Ht:=Lq7 ht;have Hr:=Lq7 hr;go_enter Tryz.func271,Tryz.ntmps271;go_wp2_with fail;refine Hc.out.mono ?_;rintro e w1 ⟨aQ,hq⟩;rw[Ht.out] at hq;obtain⟨x,rfl,hown⟩:=hq;obtain⟨aT,cT,rfl,hst,hcap⟩:=hown.strsAt;have aR:=Lq7 hst;have aB:Below w.heap.size w w1:=aH.out.2.trans (aQ.mono aH.out.2.size);have aJ:=stays aH.out.1 aQ;have aM:=Lq7 aJ;have q0:=(aB.cell (p:=⟨b,off,none⟩) hbl).trans q0;have q2:=(aB.cell (p:=⟨b,off+2,none⟩) hbl).trans q2;have aD:=Lq7 aB;go_wp2_with fail;have hm:max (0:Int) ((ts.length:Int) - 1)=((ts.length - 1:Nat):Int):=(by omega);have hw:wrap64 ((s.size:Int)*max 0 ((ts.length:Int) - 1))=(((ts.length - 1)*s.size:Nat):Int):=by
  rw[hm,Int.mul_comm,<-Int.natCast_mul];exact IntWalk.wrap64_in _ ⟨by omega,by omega⟩
 rw[hw];generalize hn0:(ts.length - 1)*s.size=n0 at hfit |-
 go_loop [6,38] (fun m i=>∃j:Nat,i = .int .i64 j/\j<=ts.length/\m = .int .i64 ((n0+sumS (ts.take j):Nat):Int)) (fun _ i=>ts.length-(intOf i).toNat)
 case atStart=>exact⟨0,rfl,Nat.zero_le _,rfl⟩
 case round=>
  obtain⟨j,rfl,hj,rfl⟩:=hrel;by_cases hlt:j<ts.length
  ·obtain⟨bK,oK,hak,hck⟩:=aR.out j _ (List.getElem?_eq_getElem hlt);subst hak;have hs1:=Nv ts j hlt;have hs2:=Ti ts (j+1);generalize ts[j]=x at hck hs1;go_wp2_with fail;go_round
   case rel=>exact⟨j+1,by go_num,by omega,by go_num⟩
   case measure=>simp only[intOf];omega
  ·have hjl:ts.take j=ts:=List.take_of_length_le (by omega);rw[hjl];have hng:¬(65536:Int)<((n0+sumS ts:Nat):Int):=(by omega);go_wp2_with fail;have hjs:(joinB ts s).size<=65536:=(by rw[P7,hn0];exact hfit);refine(Nw aT cT ts s _ aR.out hcap hlen (by omega)).mono ?_;rintro e w2 ⟨rfl,aU⟩;have aE:=Lq7 (stays aM.out aU);have aF:=Lq7 (aD.out.trans (aU.mono aD.out.size));have hll:Cb (joinB ts s) = .ok (Fx (joinB ts s)):=(by unfold Cb;rw[if_neg (by omega)]);go_wp2_with fail;refine(E3 (joinB ts s) _ (by omega)).mono ?_;rw[hll];rintro e w3 ⟨aV,cs,rfl,hag⟩;obtain⟨z1,f1,z2,f2,rfl,-,-⟩:=hag.val;have aA:=Lq7 (stays aE.out aV);have aN:=Lq7 (aF.out.trans (aV.mono aF.out.size));obtain⟨p0,p1,p2,p3,p4,p5,p6,p7,p8,p9,p10⟩:=Aa aA.out;go_wp2_with fail;have aC:=res_set (Nat.le_refl _) aN.out aA.out (.int .i64 3) (.int .i64 0) (.string (joinB ts s)) (.slice z1 0 f1) (.slice z2 0 f2);generalize World.setCell _ _ _=W9 at aC |-;obtain⟨p0,p1,p2,p3,p4,p5,p6,p7,p8,p9,p10⟩:=Aa aC.1;refine bodyPost_ret (v:=.tuple #[.agg #[.int .i64 3,.int .i64 0,.string (joinB ts s),.slice z1 0 f1,.slice z2 0 f2],.int .i64 0]) (by simp[results,Tryz.results271,go_sem,p1,p2,p3,p4,p5]) rfl ?_;exact⟨aC.2,_,rfl,Ai.val_mk (l:=[]) (ks:=[]) _ _ _ _ _ (Ac.nil _) (Ac.nil _)⟩
end Go.Proofs.YtlbbbapiklendaaGreatDoor