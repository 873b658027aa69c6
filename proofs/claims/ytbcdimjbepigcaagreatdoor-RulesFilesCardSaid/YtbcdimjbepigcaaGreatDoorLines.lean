/-
  The walk of the plain host's lines,where the texts aren't too long together.
-/
import Derived.Test.YtbcdimjbepigcaaGreatDoorJoin
import Derived.Test.YtbcdimjbepigcaaGreatDoorBuilder
namespace Go.Proofs.YtbcdimjbepigcaaGreatDoor
open Go.Lib renaming hid->Lq7
set_option maxRecDepth 100000
set_option maxHeartbeats 16000000
open Go Go.RowKit
def linesB(l:List ByteArray):ByteArray:=⟨((l.map (fun s=>s.data.toList++[10])).flatten).toArray⟩
def Fa(l:List ByteArray):List UInt8:=(l.map (fun s=>s.data.toList++[10])).flatten
theorem Md(l:List ByteArray)(j:Nat)(h:j<l.length):Fa (l.take (j+1))=Fa (l.take j)++(l[j]++(⟨#[10]⟩:ByteArray)).data.toList:=by
 unfold Fa;rw[List.take_add_one,List.getElem?_eq_getElem h,Option.toList_some,List.map_append,List.flatten_append];simp
theorem F1(l):(Fa l).length=totL l:=Vs l
theorem Uj(l j):totL (l.take j)<=totL l:=by
 unfold totL
 conv=>rhs;rw[<-List.take_append_drop j l,List.map_append,List.sum_append]
 omega
theorem Tg(F n' s' l ks ts a cap w)(hF:∀b,F b->b<w.heap.size)(hr:Af F w a (Ar [.mk 4 n' s' l ks]))(hs:A6 (.mk 4 n' s' l ks))(ht:B9 (.mk 4 n' s' l ks)=some ts)(hlen:ts.length<=1000)(hfit:totL ts<=65536):
  Calls Tryz.prog 292 #[.slice a 1 cap] w (Cm (.ok (Fk (linesB ts))) w):=by
 obtain⟨b,off,a3,c3,a4,c4,rfl,-,hbl,r0,r1,r2,r3,r4,hv1,hv2⟩:=hr.val (j:=0) rfl;simp only[Nat.zero_mul,Nat.add_zero] at r0 r1 r2 r3 r4;have aJ:Below w.heap.size w (w.alloc (.cells #[.int .i64 0,.int .i64 0,.string ⟨#[]⟩,.slice none 0 0,.slice none 0 0] 42)):=(Below.refl _ w).alloc (Nat.le_refl _) _;have Hc:=Lq7 (Cq 4 n' s' l ks hs F a3 c3 a4 c4 _ (fun b hb=>Nat.lt_of_lt_of_le (hF b hb) aJ.size) (hv1.below aJ) (hv2.below aJ));have aM:=Lq7 (And.intro (heap_alloc_new w (.cells #[.int .i64 0,.int .i64 0,.string ⟨#[]⟩,.slice none 0 0,.slice none 0 0] 42)) aJ);have Ht:=Lq7 ht;go_enter Tryz.func292,Tryz.ntmps292;go_wp2_with fail;refine Hc.out.mono ?_;rintro e w1 ⟨aQ,hq⟩;rw[Ht.out] at hq;obtain⟨x,rfl,hown⟩:=hq;obtain⟨aT,cT,rfl,hst,hcap⟩:=hown.strsAt;have hbn:Below w1.heap.size w1 (w1.alloc (.cells #[.pointer none,.slice none 0 0] 110)):=(Below.refl _ w1).alloc (Nat.le_refl _) _;have Hst:=Lq7 hst;have aN:=Lq7 hbn;have aC:=Lq7 (And.intro (stays aM.out.1 aQ) (aM.out.2.trans (aQ.mono aM.out.2.size)));have bG:=Lq7 (Lib.fresh_isBuilder 110 5 w1);have hw1:w.heap.size<w1.heap.size:=here (stays aM.out.1 aQ);go_wp2_with fail;generalize World.alloc _ _=W at bG aN |-
 go_loopw [21] (fun i wr=>∃j:Nat,i = .int .i64 j/\j<=ts.length/\Hid (Lib.IsBuilder 110 5 w1.heap.size w1.heap.size (Lib.byteCells (Fa (ts.take j))) wr)/\Hid (Below w1.heap.size w1 wr)) (fun i _=>ts.length-(intOf i).toNat)
 case atStart=>exact⟨0,rfl,Nat.zero_le _,bG,aN⟩
 case round=>
  obtain⟨j,rfl,hj,aR,aD⟩:=hrel;by_cases hlt:j<ts.length
  ·obtain⟨bK,oK,hak,hck⟩:=(Hst.out.below aD.out) j _ (List.getElem?_eq_getElem hlt);subst hak;have hs1:=Pf ts j hlt;have hs2:=Uj ts (j+1);have bH:=Md ts j hlt;have hs4:=F1 (ts.take j);have aU:(Lib.byteCells (Fa (ts.take j))).length=totL (ts.take j):=(by rw[<-hs4];simp[Lib.byteCells]);generalize ts[j]=x at hck hs1 bH;have hxs:(x++(⟨#[10]⟩:ByteArray)).size=x.size+1:=(by rw[ByteArray.size_append];rfl);have Hc:=Lq7 (O3 w1.heap.size w1.heap.size (Lib.byteCells (Fa (ts.take j))) (x++(⟨#[10]⟩:ByteArray)) wr aR.out (by rw[aU,hxs];omega) aD.out.size);have Hs3:=Lq7 bH;have aN:=Lq7 aD.out;go_wp2_with fail;refine Hc.out.mono ?_;rintro e w2 ⟨rfl,aW,aY⟩;have aF:Lib.IsBuilder 110 5 w1.heap.size w1.heap.size (Lib.byteCells (Fa (ts.take (j+1)))) w2:=by
    rw[Hs3.out,Lib.byteCells_append];exact .inr aW
   have aZ:=Lq7 aF;have bA:=Lq7 (aN.out.trans aY);have bB:=Lq7 (Tryz.Builder_Len w1.heap.size w1.heap.size _ w2 aF);have bC:(Lib.byteCells (Fa (ts.take (j+1)))).length=totL (ts.take (j+1)):=(by rw[<-F1];simp[Lib.byteCells]);rw[bC] at bB;have hT:totL (ts.take (j+1))<=65536:=(by omega);generalize totL (ts.take (j+1))=T at bB hT;go_wp2_with fail;refine bB.out.mono ?_;rintro e w3 ⟨rfl,bD⟩;have bD:=bD.symm;subst bD;have hng:¬(65536:Int)<(T:Int):=(by omega);go_wp2_with fail;go_roundw
   case rel=>exact⟨j+1,by go_num,by omega,aZ,bA⟩
   case measure=>simp only[intOf];omega
  ·have hjl:ts.take j=ts:=List.take_of_length_le (by omega);rw[hjl] at aR;have bE:=Lq7 (Tryz.Builder_String_any w1.heap.size w1.heap.size _ wr aR.out aD.out.size);have bI:=Lq7 (And.intro (stays aC.out.1 aD.out) (aC.out.2.trans (aD.out.mono aC.out.2.size)));have hsz:=aD.out.size;go_wp2_with fail;refine bE.out.mono ?_;rintro e w2 ⟨rfl,hb2⟩;have hb2':Below w1.heap.size wr w2:=hb2;have hlb:(⟨(Fa ts).toArray⟩:ByteArray)=linesB ts:=rfl;rw[hlb];have hls:(linesB ts).size<=65536:=by
    have:=F1 ts;show(Fa ts).toArray.size<=_;rw[List.size_toArray,this];exact hfit
   have hll:B8 (linesB ts) = .ok (Fk (linesB ts)):=(by unfold B8;rw[if_neg (by omega)]);have aG:Hid (w2.heap[w.heap.size]? = some (.cells #[.int .i64 0,.int .i64 0,.string ⟨#[]⟩,.slice none 0 0,.slice none 0 0] 42 (0,0))):=Lq7 ((hb2'.block _ hw1).trans bI.out.1);have aH:Hid (Below w.heap.size w w2):=Lq7 (bI.out.2.trans (hb2'.mono (by omega)));go_wp2_with fail;refine(Ep (linesB ts) _ (by omega)).mono ?_;rw[hll];rintro e w3 ⟨bJ,cs,rfl,hag⟩;obtain⟨z1,f1,z2,f2,rfl,-,-⟩:=hag.val;have aB:=Lq7 (stays aG.out bJ);have bF:=Lq7 (aH.out.trans (bJ.mono aH.out.size));obtain⟨p0,p1,p2,p3,p4,p5,p6,p7,p8,p9,p10⟩:=Aa aB.out;go_wp2_with fail;have aE:=res_set (Nat.le_refl _) bF.out aB.out (.int .i64 3) (.int .i64 0) (.string (linesB ts)) (.slice z1 0 f1) (.slice z2 0 f2);generalize World.setCell _ _ _=W9 at aE |-;obtain⟨p0,p1,p2,p3,p4,p5,p6,p7,p8,p9,p10⟩:=Aa aE.1;refine bodyPost_ret (v:=.tuple #[.agg #[.int .i64 3,.int .i64 0,.string (linesB ts),.slice z1 0 f1,.slice z2 0 f2],.int .i64 0]) (by simp[results,Tryz.results292,go_sem,p1,p2,p3,p4,p5]) rfl ?_;exact⟨aE.2,_,rfl,Am.val_mk (l:=[]) (ks:=[]) _ _ _ _ _ (Af.nil _) (Af.nil _)⟩
end Go.Proofs.YtbcdimjbepigcaaGreatDoor