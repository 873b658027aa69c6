/-
  The walk of the plain host's join,where what is joined isn't too long.
-/
import Derived.Test.YtbcdimjbepigcaaGreatDoorMSameG
import Derived.Test.YtbcdimjbepigcaaGreatDoorMPlusA
import Derived.Test.YtbcdimjbepigcaaGreatDoorListsPlain
import Derived.Test.YtbcdimjbepigcaaGreatDoorShelf
namespace Go.Proofs.YtbcdimjbepigcaaGreatDoor
open Go.Lib renaming hid->Lq7
set_option maxRecDepth 100000
set_option maxHeartbeats 16000000
open Go Go.RowKit
def sumS(l:List ByteArray):Nat:=(l.map ByteArray.size).sum
theorem Ln(l:List ByteArray)(j:Nat)(h:j<l.length):sumS (l.take (j+1))=sumS (l.take j)+l[j].size:=by
 unfold sumS;rw[List.take_add_one,List.getElem?_eq_getElem h,Option.toList_some,List.map_append,List.sum_append];simp
theorem Qd(l j):sumS (l.take j)<=sumS l:=by
 unfold sumS
 conv=>rhs;rw[<-List.take_append_drop j l,List.map_append,List.sum_append]
 omega
def joinB(l:List ByteArray)(sep:ByteArray):ByteArray:=⟨(Lib.join (l.map (·.data.toList)) sep.data.toList).toArray⟩
theorem Nn(l sep):(joinB l sep).size=(l.length - 1)*sep.size+sumS l:=by
 have h:=Kn sep.data.toList (l.map (·.data.toList));rw[List.length_map,List.map_map,Ax] at h;show(Lib.join (l.map (·.data.toList)) sep.data.toList).toArray.size=_;rw[List.size_toArray,h];unfold sumS
 congr 2
theorem Lo(a cap ts sep w)(hst:Dj w a ts)(hcap:ts.length<=cap)(hlen:ts.length<=1000)(hsz:(joinB ts sep).size<=140737488355328):
  Calls Tryz.prog 59 #[.slice a ts.length cap,.string sep] w (fun e w'=>e = .returned (.string (joinB ts sep))/\Below w.heap.size w w'):=by
 cases ts with
 | nil=>
  refine(Tryz.strings_Join_none a cap sep w).mono ?_;rintro e w' ⟨rfl,hw⟩;rw[hw];exact⟨rfl,Below.refl _ _⟩
 | cons x r=>
  obtain⟨b,off,rfl,hc⟩:=hst 0 x rfl;refine Tryz.strings_Join b off cap (x::r) sep w (fun j y hj=>?_) ?_ (by omega) hcap hsz
  ·obtain⟨b',off',he,h⟩:=hst j y hj;cases he;exact h
  ·exact Au hc
theorem Vo(F n n' s s' l0 ks0 l ks ts a cap w)(hF:∀b,F b->b<w.heap.size)(hr:Af F w a (Ar [.mk 3 n s l0 ks0,.mk 4 n' s' l ks]))(hs:A6 (.mk 4 n' s' l ks))(ht:B9 (.mk 4 n' s' l ks)=some ts)(hlen:ts.length<=1000)(hfit:(ts.length - 1)*s.size+sumS ts<=65536):
  Calls Tryz.prog 291 #[.slice a 2 cap] w (Cm (.ok (Fk (joinB ts s))) w):=by
 obtain⟨b,off,a1,c1,a2,c2,rfl,-,hbl,q0,q1,q2,q3,q4,-,-⟩:=hr.val (j:=0) rfl;obtain⟨b',off',a3,c3,a4,c4,he,-,-,r0,r1,r2,r3,r4,hv1,hv2⟩:=hr.val (j:=1) rfl;cases he;simp only[Nat.zero_mul,Nat.add_zero,Nat.one_mul] at q0 q1 q2 q3 q4 r0 r1 r2 r3 r4;have aH:Below w.heap.size w (w.alloc (.cells #[.int .i64 0,.int .i64 0,.string ⟨#[]⟩,.slice none 0 0,.slice none 0 0] 42)):=(Below.refl _ w).alloc (Nat.le_refl _) _;have Hc:=Lq7 (Cq 4 n' s' l ks hs F a3 c3 a4 c4 _ (fun b hb=>Nat.lt_of_lt_of_le (hF b hb) aH.size) (hv1.below aH) (hv2.below aH));have aJ:=Lq7 (And.intro (heap_alloc_new w (.cells #[.int .i64 0,.int .i64 0,.string ⟨#[]⟩,.slice none 0 0,.slice none 0 0] 42)) aH);have Ht:=Lq7 ht;have Hr:=Lq7 hr;go_enter Tryz.func291,Tryz.ntmps291;go_wp2_with fail;refine Hc.out.mono ?_;rintro e w1 ⟨aR,hq⟩;rw[Ht.out] at hq;obtain⟨x,rfl,hown⟩:=hq;obtain⟨aT,cT,rfl,hst,hcap⟩:=hown.strsAt;have aU:=Lq7 hst;have aC:Below w.heap.size w w1:=aJ.out.2.trans (aR.mono aJ.out.2.size);have aM:=stays aJ.out.1 aR;have aN:=Lq7 aM;have q0:=(aC.cell (p:=⟨b,off,none⟩) hbl).trans q0;have q2:=(aC.cell (p:=⟨b,off+2,none⟩) hbl).trans q2;have aE:=Lq7 aC;go_wp2_with fail;have hm:max (0:Int) ((ts.length:Int) - 1)=((ts.length - 1:Nat):Int):=(by omega);have hw:wrap64 ((s.size:Int)*max 0 ((ts.length:Int) - 1))=(((ts.length - 1)*s.size:Nat):Int):=by
  rw[hm,Int.mul_comm,<-Int.natCast_mul];exact IntWalk.wrap64_in _ ⟨by omega,by omega⟩
 rw[hw];generalize hn0:(ts.length - 1)*s.size=n0 at hfit |-
 go_loop [6,38] (fun m i=>∃j:Nat,i = .int .i64 j/\j<=ts.length/\m = .int .i64 ((n0+sumS (ts.take j):Nat):Int)) (fun _ i=>ts.length-(intOf i).toNat)
 case atStart=>exact⟨0,rfl,Nat.zero_le _,rfl⟩
 case round=>
  obtain⟨j,rfl,hj,rfl⟩:=hrel;by_cases hlt:j<ts.length
  ·obtain⟨bK,oK,hak,hck⟩:=aU.out j _ (List.getElem?_eq_getElem hlt);subst hak;have hs1:=Ln ts j hlt;have hs2:=Qd ts (j+1);generalize ts[j]=x at hck hs1;go_wp2_with fail;go_round
   case rel=>exact⟨j+1,by go_num,by omega,by go_num⟩
   case measure=>simp only[intOf];omega
  ·have hjl:ts.take j=ts:=List.take_of_length_le (by omega);rw[hjl];have hng:¬(65536:Int)<((n0+sumS ts:Nat):Int):=(by omega);go_wp2_with fail;have hjs:(joinB ts s).size<=65536:=(by rw[Nn,hn0];exact hfit);refine(Lo aT cT ts s _ aU.out hcap hlen (by omega)).mono ?_;rintro e w2 ⟨rfl,aW⟩;have aF:=Lq7 (stays aN.out aW);have aG:=Lq7 (aE.out.trans (aW.mono aE.out.size));have hll:B8 (joinB ts s) = .ok (Fk (joinB ts s)):=(by unfold B8;rw[if_neg (by omega)]);go_wp2_with fail;refine(Ep (joinB ts s) _ (by omega)).mono ?_;rw[hll];rintro e w3 ⟨aY,cs,rfl,hag⟩;obtain⟨z1,f1,z2,f2,rfl,-,-⟩:=hag.val;have aB:=Lq7 (stays aF.out aY);have aQ:=Lq7 (aG.out.trans (aY.mono aG.out.size));obtain⟨p0,p1,p2,p3,p4,p5,p6,p7,p8,p9,p10⟩:=Aa aB.out;go_wp2_with fail;have aD:=res_set (Nat.le_refl _) aQ.out aB.out (.int .i64 3) (.int .i64 0) (.string (joinB ts s)) (.slice z1 0 f1) (.slice z2 0 f2);generalize World.setCell _ _ _=W9 at aD |-;obtain⟨p0,p1,p2,p3,p4,p5,p6,p7,p8,p9,p10⟩:=Aa aD.1;refine bodyPost_ret (v:=.tuple #[.agg #[.int .i64 3,.int .i64 0,.string (joinB ts s),.slice z1 0 f1,.slice z2 0 f2],.int .i64 0]) (by simp[results,Tryz.results291,go_sem,p1,p2,p3,p4,p5]) rfl ?_;exact⟨aD.2,_,rfl,Am.val_mk (l:=[]) (ks:=[]) _ _ _ _ _ (Af.nil _) (Af.nil _)⟩
end Go.Proofs.YtbcdimjbepigcaaGreatDoor