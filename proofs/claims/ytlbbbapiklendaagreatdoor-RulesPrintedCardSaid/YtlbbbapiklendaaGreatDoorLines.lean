/-
  The walk of the plain host's lines,where the texts aren't too long together.
-/
import Derived.Test.YtlbbbapiklendaaGreatDoorJoin
import Derived.Test.YtlbbbapiklendaaGreatDoorMPage
namespace Go.Proofs.YtlbbbapiklendaaGreatDoor
open Go.Lib renaming hid->Lq7
set_option maxRecDepth 100000
set_option maxHeartbeats 16000000
open Go Go.RowKit
def linesB(l:List ByteArray):ByteArray:=⟨((l.map (fun s=>s.data.toList++[10])).flatten).toArray⟩
def Fj(l:List ByteArray):List UInt8:=(l.map (fun s=>s.data.toList++[10])).flatten
theorem Oq(l:List ByteArray)(j:Nat)(h:j<l.length):Fj (l.take (j+1))=Fj (l.take j)++(l[j]++(⟨#[10]⟩:ByteArray)).data.toList:=by
 unfold Fj;rw[List.take_add_one,List.getElem?_eq_getElem h,Option.toList_some,List.map_append,List.flatten_append];simp
theorem Gm(l):(Fj l).length=totL l:=Aar l
theorem Zo(l j):totL (l.take j)<=totL l:=by
 unfold totL
 conv=>rhs;rw[<-List.take_append_drop j l,List.map_append,List.sum_append]
 omega
theorem X5(F n' s' l ks ts a cap w)(hF:∀b,F b->b<w.heap.size)(hr:Ac F w a (Ar [.mk 4 n' s' l ks]))(hs:Ay (.mk 4 n' s' l ks))(ht:Cc (.mk 4 n' s' l ks)=some ts)(hlen:ts.length<=1000)(hfit:totL ts<=65536):
  Calls Tryz.prog 272 #[.slice a 1 cap] w (Ck (.ok (Fx (linesB ts))) w):=by
 obtain⟨b,off,a3,c3,a4,c4,rfl,-,hbl,r0,r1,r2,r3,r4,hv1,hv2⟩:=hr.val (j:=0) rfl;simp only[Nat.zero_mul,Nat.add_zero] at r0 r1 r2 r3 r4;have aH:Below w.heap.size w (w.alloc (.cells #[.int .i64 0,.int .i64 0,.string ⟨#[]⟩,.slice none 0 0,.slice none 0 0] 53)):=(Below.refl _ w).alloc (Nat.le_refl _) _;have Hc:=Lq7 (Cw 4 n' s' l ks hs F a3 c3 a4 c4 _ (fun b hb=>Nat.lt_of_lt_of_le (hF b hb) aH.size) (hv1.below aH) (hv2.below aH));have aJ:=Lq7 (And.intro (heap_alloc_new w (.cells #[.int .i64 0,.int .i64 0,.string ⟨#[]⟩,.slice none 0 0,.slice none 0 0] 53)) aH);have Ht:=Lq7 ht;go_enter Tryz.func272,Tryz.ntmps272;go_wp2_with fail;refine Hc.out.mono ?_;rintro e w1 ⟨aN,hq⟩;rw[Ht.out] at hq;obtain⟨x,rfl,hown⟩:=hq;obtain⟨aT,cT,rfl,hst,hcap⟩:=hown.strsAt;have hbn:Below w1.heap.size w1 (w1.alloc (.cells #[.pointer none,.slice none 0 0] 91)):=(Below.refl _ w1).alloc (Nat.le_refl _) _;have Hst:=Lq7 hst;have aM:=Lq7 hbn;have aB:=Lq7 (And.intro (stays aJ.out.1 aN) (aJ.out.2.trans (aN.mono aJ.out.2.size)));have bE:=Lq7 (Lib.fresh_isBuilder 91 5 w1);have hw1:w.heap.size<w1.heap.size:=here (stays aJ.out.1 aN);go_wp2_with fail;generalize World.alloc _ _=W at bE aM |-
 go_loopw [21] (fun i wr=>∃j:Nat,i = .int .i64 j/\j<=ts.length/\Hid (Lib.IsBuilder 91 5 w1.heap.size w1.heap.size (Lib.byteCells (Fj (ts.take j))) wr)/\Hid (Below w1.heap.size w1 wr)) (fun i _=>ts.length-(intOf i).toNat)
 case atStart=>exact⟨0,rfl,Nat.zero_le _,bE,aM⟩
 case round=>
  obtain⟨j,rfl,hj,aQ,aC⟩:=hrel;by_cases hlt:j<ts.length
  ·obtain⟨bK,oK,hak,hck⟩:=(Hst.out.below aC.out) j _ (List.getElem?_eq_getElem hlt);subst hak;have hs1:=Rz ts j hlt;have hs2:=Zo ts (j+1);have bG:=Oq ts j hlt;have hs4:=Gm (ts.take j);have aR:(Lib.byteCells (Fj (ts.take j))).length=totL (ts.take j):=(by rw[<-hs4];simp[Lib.byteCells]);generalize ts[j]=x at hck hs1 bG;have hxs:(x++(⟨#[10]⟩:ByteArray)).size=x.size+1:=(by rw[ByteArray.size_append];rfl);have Hc:=Lq7 (Rm w1.heap.size w1.heap.size (Lib.byteCells (Fj (ts.take j))) (x++(⟨#[10]⟩:ByteArray)) wr aQ.out (by rw[aR,hxs];omega) aC.out.size);have Hs3:=Lq7 bG;have aM:=Lq7 aC.out;go_wp2_with fail;refine Hc.out.mono ?_;rintro e w2 ⟨rfl,aU,aV⟩;have aE:Lib.IsBuilder 91 5 w1.heap.size w1.heap.size (Lib.byteCells (Fj (ts.take (j+1)))) w2:=by
    rw[Hs3.out,Lib.byteCells_append];exact .inr aU
   have aW:=Lq7 aE;have aY:=Lq7 (aM.out.trans aV);have aZ:=Lq7 (Tryz.Builder_Len w1.heap.size w1.heap.size _ w2 aE);have bA:(Lib.byteCells (Fj (ts.take (j+1)))).length=totL (ts.take (j+1)):=(by rw[<-Gm];simp[Lib.byteCells]);rw[bA] at aZ;have hT:totL (ts.take (j+1))<=65536:=(by omega);generalize totL (ts.take (j+1))=T at aZ hT;go_wp2_with fail;refine aZ.out.mono ?_;rintro e w3 ⟨rfl,bB⟩;have bB:=bB.symm;subst bB;have hng:¬(65536:Int)<(T:Int):=(by omega);go_wp2_with fail;go_roundw
   case rel=>exact⟨j+1,by go_num,by omega,aW,aY⟩
   case measure=>simp only[intOf];omega
  ·have hjl:ts.take j=ts:=List.take_of_length_le (by omega);rw[hjl] at aQ;have bC:=Lq7 (Tryz.Builder_String_any w1.heap.size w1.heap.size _ wr aQ.out aC.out.size);have bH:=Lq7 (And.intro (stays aB.out.1 aC.out) (aB.out.2.trans (aC.out.mono aB.out.2.size)));have hsz:=aC.out.size;go_wp2_with fail;refine bC.out.mono ?_;rintro e w2 ⟨rfl,hb2⟩;have hb2':Below w1.heap.size wr w2:=hb2;have hlb:(⟨(Fj ts).toArray⟩:ByteArray)=linesB ts:=rfl;rw[hlb];have hls:(linesB ts).size<=65536:=by
    have:=Gm ts;show(Fj ts).toArray.size<=_;rw[List.size_toArray,this];exact hfit
   have hll:Cb (linesB ts) = .ok (Fx (linesB ts)):=(by unfold Cb;rw[if_neg (by omega)]);have aF:Hid (w2.heap[w.heap.size]? = some (.cells #[.int .i64 0,.int .i64 0,.string ⟨#[]⟩,.slice none 0 0,.slice none 0 0] 53 (0,0))):=Lq7 ((hb2'.block _ hw1).trans bH.out.1);have aG:Hid (Below w.heap.size w w2):=Lq7 (bH.out.2.trans (hb2'.mono (by omega)));go_wp2_with fail;refine(E3 (linesB ts) _ (by omega)).mono ?_;rw[hll];rintro e w3 ⟨bI,cs,rfl,hag⟩;obtain⟨z1,f1,z2,f2,rfl,-,-⟩:=hag.val;have aA:=Lq7 (stays aF.out bI);have bD:=Lq7 (aG.out.trans (bI.mono aG.out.size));obtain⟨p0,p1,p2,p3,p4,p5,p6,p7,p8,p9,p10⟩:=Aa aA.out;go_wp2_with fail;have aD:=res_set (Nat.le_refl _) bD.out aA.out (.int .i64 3) (.int .i64 0) (.string (linesB ts)) (.slice z1 0 f1) (.slice z2 0 f2);generalize World.setCell _ _ _=W9 at aD |-;obtain⟨p0,p1,p2,p3,p4,p5,p6,p7,p8,p9,p10⟩:=Aa aD.1;refine bodyPost_ret (v:=.tuple #[.agg #[.int .i64 3,.int .i64 0,.string (linesB ts),.slice z1 0 f1,.slice z2 0 f2],.int .i64 0]) (by simp[results,Tryz.results272,go_sem,p1,p2,p3,p4,p5]) rfl ?_;exact⟨aD.2,_,rfl,Ai.val_mk (l:=[]) (ks:=[]) _ _ _ _ _ (Ac.nil _) (Ac.nil _)⟩
end Go.Proofs.YtlbbbapiklendaaGreatDoor