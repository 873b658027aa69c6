/-
  The walk of (*strings.byteStringReplacer).Replace at the table that lex.Quote's Replacer makes.
-/
import Derived.Test.YtlbbbapiklendaaGreatDoorMParseNz
import Derived.Test.YtlbbbapiklendaaGreatDoorShelf
import Derived.Test.YtlbbbapiklendaaGreatDoorMRegionHeldD
namespace Go.Proofs.YtlbbbapiklendaaGreatDoor
open Option renaming some->B,none->A
open List renaming getElem_cons_succ->lgB,getElem_cons_zero->lgC,getElem?_eq_getElem->lgE,length_append->lnA,take_add_one->ltA,take_of_length_le->ltL,length_map->lnM
open Nat renaming le_refl->nlr,zero_le->nlz,add_zero->naz
open Go.Lib renaming hid->Lq7
set_option maxRecDepth 100000
set_option maxHeartbeats 16000000
open Go Go.RowKit
def esc1(c:UInt8):List UInt8:=if Mh c.toNat then [92,if c=10 then 110 else c] else [c]
def escL(l:List UInt8):List UInt8:=l.flatMap esc1
def Da(l:List UInt8):Nat:=l.countP fun c=>Mh c.toNat
theorem escL_len(l):(escL l).length=l.length+Da l:=by
 induction l with
 | nil=>rfl
 | cons c t ih=>
  unfold escL Da at *;rw[List.flatMap_cons,lnA,ih,List.length_cons,List.countP_cons];unfold esc1;by_cases h:Mh c.toNat=true
  ·rw[if_pos h,if_pos h];simp;omega
  ·rw[if_neg h,if_neg h];simp;omega
theorem Aca{l}(h:Da l=0):escL l=l:=by
 induction l with
 | nil=>rfl
 | cons c t ih=>
  unfold Da at h;rw[List.countP_cons] at h;have h1:¬Mh c.toNat=true:=fun e=>(by rw[if_pos e] at h;omega);rw[if_neg h1] at h;unfold escL at *;rw[List.flatMap_cons,ih h];unfold esc1;rw[if_neg h1];rfl
theorem Y7(l):Da l=l.count 10+l.count 92+l.count 34:=by
 induction l with
 | nil=>rfl
 | cons c t ih=>
  unfold Da at *;rw[List.countP_cons,List.count_cons,List.count_cons,List.count_cons,ih];have key:(if Mh c.toNat=true then 1 else 0)=(if(c==10)=true then 1 else 0)+(if(c==92)=true then 1 else 0)+(if(c==34)=true then 1 else 0):=by
   revert c;intro c;have:∀n:Fin 256,(if Mh (UInt8.ofNat n).toNat=true then 1 else 0)=(if(UInt8.ofNat n==10)=true then 1 else 0)+(if(UInt8.ofNat n==92)=true then 1 else 0)+(if(UInt8.ofNat n==34)=true then 1 else 0):=(by decide);have h:=this ⟨c.toNat,c.toNat_lt⟩
   simpa using h
  omega
def u8c(c:UInt8):Value:=.int .u8 (c.toNat:Int)
def J2(n:Nat)(L:List UInt8):List Value:=L.map u8c++List.replicate (n-L.length) (.int .u8 0)
def O0(w:World)(g n:Nat)(L:List UInt8):Prop:=w.heap[g]? = B (.cells (J2 n L).toArray 5 (0,0))/\L.length<=n
theorem Ww{n L}(h:L.length<=n):(J2 n L).length=n:=by simp[J2];omega
theorem bufC_one{n L c}(h:L.length+1<=n):(J2 n L).set L.length (u8c c)=J2 n (L++[c]):=by
 unfold J2;rw[List.set_append_right _ _ (by simp),lnM,Nat.sub_self,show n-L.length=(n-(L++[c]).length)+1 by simp;omega,List.replicate_succ,List.set_cons_zero,List.map_append,List.append_assoc];rfl
theorem bufC_two{n L c d}(_h:L.length+2<=n):(J2 n L).take L.length++[u8c c,u8c d]++(J2 n L).drop (L.length+2)=J2 n (L++[c,d]):=by
 unfold J2;rw[List.take_append_of_le_length (by simp),ltL (by simp),List.drop_append,lnM,List.drop_of_length_le (by simp),List.nil_append,List.drop_replicate,List.map_append,show n-(L++[c,d]).length=n-L.length-(L.length+2-L.length) by simp;omega];rfl
theorem O0.one{w g n L}(h:O0 w g n L)(hl:L.length+1<=n)(c):O0 (w.setCell ⟨g,L.length,A⟩ (.int .u8 c.toNat)) g n (L++[c]):=by
 refine⟨?_,by simp;omega⟩;rw[Af h.1 L.length];rw[List.setIfInBounds_toArray];rw[show(Value.int .u8 (c.toNat:Int))=u8c c from rfl,bufC_one hl]
theorem Acb(l:List UInt8)(k:Nat)(h:k<l.length):escL (l.take (k+1))=escL (l.take k)++esc1 l[k]:=by
 unfold escL;rw[ltA,lgE h,Option.toList_some,List.flatMap_append];simp
theorem Rh(l k):(escL (l.take k)).length<=(escL l).length:=by
 unfold escL
 conv=>rhs;rw[<-List.take_append_drop k l,List.flatMap_append,lnA]
 omega
theorem Acc(l:List UInt8)(k:Nat)(h:k<l.length):Da (l.take (k+1))=Da (l.take k)+if Mh l[k].toNat=true then 1 else 0:=by
 unfold Da;rw[ltA,lgE h,Option.toList_some,List.countP_append];simp[List.countP_cons]
theorem Pe(l):Da l<=l.length:=List.countP_le_length
theorem Na{w:World}{g b:Nat}(cs)(h:b≠g):(w.setRow g cs).heap[b]? = w.heap[b]?:=by
 unfold World.setRow;show(Array.modify _ _ _)[b]? = _;rw[Array.getElem?_modify,if_neg (fun e=>h e.symm)]
theorem T6{n w w'}(h:Below n w w'){g}(hg:n<=g)(cs):Below n w (w'.setRow g cs):=
 ⟨h.os,h.tape,h.output,by unfold World.setRow;simpa using h.size,fun k hk=>(Na cs (by omega)).trans (h.block k hk)⟩
def PRepl(s:List UInt8)(w:World)(e:Ending)(w':World):Prop:=∃o:ByteArray,e = .returned (.string o)/\o.data.toList=escL s/\Below w.heap.size w w'
def Gr(l:List UInt8)(k:Nat):Nat:=(if 1<=k then l.count 10 else 0)+(if 2<=k then l.count 92 else 0)+(if 3<=k then l.count 34 else 0)
theorem infoU8:(Tryz.prog.info? 5).map (fun i=>(i.zero,i.size,i.bytes))=B (B (.int .u8 0),1,1):=by kernel_rfl
theorem Wx(s rb base w)(hr:F3 base w rb)(hs:s.size<=65536):
  Calls Tryz.prog 318 #[.pointer (B ⟨rb,0,A⟩),.string s] w (PRepl s.data.toList w):=by
 obtain⟨ta,tc,z256,bG⟩:=hr.row;obtain⟨iu,hiu,hu0,hu1,hu2⟩:=info_parts infoU8;have Hr:=Lq7 hr;have aZ:=Lq7 bG;have hnn:∀(p cp:Nat) (W:World),(binOp .neq 89 (.slice (B ⟨p,0,A⟩) 2 cp) (.slice A 0 0)).run Tryz.prog W = .ok (.bool true) W:=fun p cp W=>(by kernel_rfl);have hnz:∀(W:World),(binOp .neq 89 (.slice A 0 0) (.slice A 0 0)).run Tryz.prog W = .ok (.bool false) W:=fun W=>(by kernel_rfl);have hen:Da s.data.toList<=s.size:=(by rw[<-Al];exact Pe _);clear hr bG;go_enter Tryz.func318,Tryz.ntmps318
 go_upto_if 26 with fail
 go_cut [5,6] from 7 (fun v u wc=>v = .int .i64 ((s.size:Int)+(Da s.data.toList:Nat))/\u = .bool (!decide (Da s.data.toList=0))/\Hid (Below w.heap.size w wc)/\Hid (F3 base wc rb))
 case first=>
  by_cases h24:(24:Int)<=s.size
  ·simp only[h24,decide_true];go_wp2_with fail
   go_loopw [5,6,32] (fun v u i wr=>(i = .int .i64 0/\v = .int .i64 ((s.size:Int)+(Gr s.data.toList 0:Nat))/\u = .bool (!decide (Gr s.data.toList 0=0))/\Hid (Below w.heap.size w wr)/\Hid (F3 base wr rb))\/(i = .int .i64 1/\v = .int .i64 ((s.size:Int)+(Gr s.data.toList 1:Nat))/\u = .bool (!decide (Gr s.data.toList 1=0))/\Hid (Below w.heap.size w wr)/\Hid (F3 base wr rb))\/(i = .int .i64 2/\v = .int .i64 ((s.size:Int)+(Gr s.data.toList 2:Nat))/\u = .bool (!decide (Gr s.data.toList 2=0))/\Hid (Below w.heap.size w wr)/\Hid (F3 base wr rb))\/(i = .int .i64 3/\v = .int .i64 ((s.size:Int)+(Gr s.data.toList 3:Nat))/\u = .bool (!decide (Gr s.data.toList 3=0))/\Hid (Below w.heap.size w wr)/\Hid (F3 base wr rb))) (fun _ _ i _=>3-(intOf i).toNat)
   case atStart=>exact .inl ⟨rfl,by simp[Gr],by simp[Gr],Lq7 (Below.refl _ _),Hr⟩
   case round=>
    have hlen:=Al s;have hc1:=List.count_le_length (a:=(10:UInt8)) (l:=s.data.toList);have hc2:=List.count_le_length (a:=(92:UInt8)) (l:=s.data.toList);have hc3:=List.count_le_length (a:=(34:UInt8)) (l:=s.data.toList);rw[hlen] at hc1 hc2 hc3;clear hlen;rcases hrel with⟨rfl,rfl,rfl,aC,aE⟩|⟨rfl,rfl,rfl,aC,aE⟩|⟨rfl,rfl,rfl,aC,aE⟩|⟨rfl,rfl,rfl,aC,aE⟩
    ·obtain⟨tb,toff,aR,aU⟩:=(aZ.out.below aC.out).at (k:=0) (by decide);subst aR;simp only[toRep,lgC,naz] at aU;have HC:=Lq7 (fun W=>Tryz.strings_Count_one s 10 W);have e1:((⟨#[10]⟩:ByteArray)[0]'(by decide)).toNat=10:=rfl;obtain⟨p,cp,r1,-,-⟩:=aE.out.esc (c:=10) (by decide) (by decide);have aG:Lib.countByte s.data.toList 10=s.data.toList.count 10:=rfl;have aA:Hid (Gr s.data.toList 1=Gr s.data.toList 0+s.data.toList.count 10):=Lq7 (by simp[Gr]);have aV:Gr s.data.toList 0<=3*s.size:=by unfold Gr;(repeat' split)<;>omega
     go_wp2_with fail;refine(HC.out _).mono ?_;rintro e w1 ⟨rfl,rfl⟩;rw[aG];by_cases h0:s.data.toList.count 10=0
     ·rw[h0,naz] at aA;rw[h0];clear aG HC;go_wp2_with fail;go_roundw
      case rel=>exact .inr (.inl ⟨by go_num,by rw[aA.out],by rw[aA.out],aC,aE⟩)
      case measure=>simp[intOf]
     ·have bH:(((s.data.toList.count 10:Nat):Int) != 0)=true:=(by simp only[bne_iff_ne,ne_eq];omega);generalize s.data.toList.count 10=n at *;clear aG HC;go_wp2_with fail
      go_quiet (fail)
      go_wp2_with fail;go_roundw
      case rel=>exact .inr (.inl ⟨by go_num,by rw[aA.out];go_num,by rw[aA.out];simp;first|done|omega,Lq7 (Cy aC.out nq),Lq7 (aE.out.keep fun _ _ _=>rfl)⟩)
      case measure=>simp[intOf]
    ·obtain⟨tb,toff,aR,aU⟩:=(aZ.out.below aC.out).at (k:=1) (by decide);subst aR;simp only[toRep,lgB,lgC] at aU;have HC:=Lq7 (fun W=>Tryz.strings_Count_one s 92 W);have e1:((⟨#[92]⟩:ByteArray)[0]'(by decide)).toNat=92:=rfl;obtain⟨p,cp,r1,-,-⟩:=aE.out.esc (c:=92) (by decide) (by decide);have aG:Lib.countByte s.data.toList 92=s.data.toList.count 92:=rfl;have aA:Hid (Gr s.data.toList 2=Gr s.data.toList 1+s.data.toList.count 92):=Lq7 (by simp[Gr]);have aV:Gr s.data.toList 1<=3*s.size:=by unfold Gr;(repeat' split)<;>omega
     go_wp2_with fail;refine(HC.out _).mono ?_;rintro e w1 ⟨rfl,rfl⟩;rw[aG];by_cases h0:s.data.toList.count 92=0
     ·rw[h0,naz] at aA;rw[h0];clear aG HC;go_wp2_with fail;go_roundw
      case rel=>exact .inr (.inr (.inl ⟨by go_num,by rw[aA.out],by rw[aA.out],aC,aE⟩))
      case measure=>simp[intOf]
     ·have bH:(((s.data.toList.count 92:Nat):Int) != 0)=true:=(by simp only[bne_iff_ne,ne_eq];omega);generalize s.data.toList.count 92=n at *;clear aG HC;go_wp2_with fail
      go_quiet (fail)
      go_wp2_with fail;go_roundw
      case rel=>exact .inr (.inr (.inl ⟨by go_num,by rw[aA.out];go_num,by rw[aA.out];simp;first|done|omega,Lq7 (Cy aC.out nq),Lq7 (aE.out.keep fun _ _ _=>rfl)⟩))
      case measure=>simp[intOf]
    ·obtain⟨tb,toff,aR,aU⟩:=(aZ.out.below aC.out).at (k:=2) (by decide);subst aR;simp only[toRep,lgB,lgC] at aU;have HC:=Lq7 (fun W=>Tryz.strings_Count_one s 34 W);have e1:((⟨#[34]⟩:ByteArray)[0]'(by decide)).toNat=34:=rfl;obtain⟨p,cp,r1,-,-⟩:=aE.out.esc (c:=34) (by decide) (by decide);have aG:Lib.countByte s.data.toList 34=s.data.toList.count 34:=rfl;have aA:Hid (Gr s.data.toList 3=Gr s.data.toList 2+s.data.toList.count 34):=Lq7 (by simp[Gr]);have aV:Gr s.data.toList 2<=3*s.size:=by unfold Gr;(repeat' split)<;>omega
     go_wp2_with fail;refine(HC.out _).mono ?_;rintro e w1 ⟨rfl,rfl⟩;rw[aG];by_cases h0:s.data.toList.count 34=0
     ·rw[h0,naz] at aA;rw[h0];clear aG HC;go_wp2_with fail;go_roundw
      case rel=>exact .inr (.inr (.inr ⟨by go_num,by rw[aA.out],by rw[aA.out],aC,aE⟩))
      case measure=>simp[intOf]
     ·have bH:(((s.data.toList.count 34:Nat):Int) != 0)=true:=(by simp only[bne_iff_ne,ne_eq];omega);generalize s.data.toList.count 34=n at *;clear aG HC;go_wp2_with fail
      go_quiet (fail)
      go_wp2_with fail;go_roundw
      case rel=>exact .inr (.inr (.inr ⟨by go_num,by rw[aA.out];go_num,by rw[aA.out];simp;first|done|omega,Lq7 (Cy aC.out nq),Lq7 (aE.out.keep fun _ _ _=>rfl)⟩))
      case measure=>simp[intOf]
    ·have aA:Hid (Gr s.data.toList 3=Da s.data.toList):=Lq7 (by rw[Y7];simp[Gr]);rw[aA.out];go_wp2_with fail;go_meet
     case rel=>exact⟨rfl,rfl,aC,aE⟩
  ·go_wp2_with fail
   go_loopw [5,6,10] (fun v u i wr=>∃k:Nat,v = .int .i64 ((s.size:Int)+(Da (s.data.toList.take k):Nat))/\u = .bool (!decide (Da (s.data.toList.take k)=0))/\i = .int .i64 k/\k<=s.size/\wr=w) (fun _ _ i _=>s.size-(intOf i).toNat)
   case atStart=>exact⟨0,by simp[Da],by simp[Da],rfl,nlz _,rfl⟩
   case round=>
    obtain⟨k,rfl,rfl,rfl,hk,rfl⟩:=hrel;by_cases hlt:k<s.size
    ·have aH:s.data.toList[k]'(by rw[Al];exact hlt)=s[k]:=rfl;have aD:=Acc s.data.toList k (by rw[Al];exact hlt);rw[aH] at aD;have aB:s[k].toNat<256:=s[k].toNat_lt;have aN:Da (s.data.toList.take k)<=k:=Nat.le_trans (Pe _) (by rw[List.length_take];omega);cases he:Mh s[k].toNat with
     | true=>
      obtain⟨p,cp,r1,r2,r3⟩:=Hr.out.esc aB he;rw[he,if_pos rfl] at aD;have aM:=Lq7 aD;clear aD aH he r2 r3;go_wp2_with fail;go_roundw
      case rel=>exact⟨k+1,by rw[aM.out];go_num,by rw[aM.out];simp,by go_num,by omega,trivial⟩
      case measure=>simp only[intOf];omega
     | false=>
      have r1:=Hr.out.plain aB he;rw[he,if_neg (by decide),naz] at aD;have aM:=Lq7 aD;clear aD aH he;go_wp2_with fail;go_roundw
      case rel=>exact⟨k+1,by rw[aM.out];rfl,by rw[aM.out];rfl,by go_num,by omega,trivial⟩
      case measure=>simp only[intOf];omega
    ·have aM:Hid (Da (s.data.toList.take k)=Da s.data.toList):=Lq7 (by rw[ltL (by rw[Al];omega)]);rw[aM.out];go_wp2_with fail;go_meet
     case rel=>exact⟨rfl,rfl,Lq7 (Below.refl _ _),Hr⟩
 case rest=>
  obtain⟨rfl,rfl,aC,aE⟩:=hcut;have aW:Hid ((escL s.data.toList).length=s.size+Da s.data.toList):=Lq7 (by rw[escL_len,Al]);by_cases h0:Da s.data.toList=0
  ·have Hs:Hid (s.data.toList=escL s.data.toList):=Lq7 (Aca h0).symm;rw[h0];go_wp2_with fail;go_ret;exact⟨_,rfl,Hs.out,aC.out⟩
  ·simp only[decide_eq_false h0,Bool.not_false];have hmk:(Instr.makeSlice 89 (.int .i64 ((s.size:Int)+(Da s.data.toList:Nat))) (.int .i64 ((s.size:Int)+(Da s.data.toList:Nat)))).run Tryz.prog wc = .ok (.slice (B ⟨wc.heap.size,0,A⟩) (s.size+Da s.data.toList) (s.size+Da s.data.toList)) (wc.alloc (.cells (madeCells #[.int .u8 0] (s.size+Da s.data.toList)) 5)):=by
    have h:=run_make (P:=Tryz.prog) wc 89 5 iu (.int .u8 0) Tryz.underlying89 hiu hu0 .i64 .i64 ((s.size+Da s.data.toList:Nat):Int) ((s.size+Da s.data.toList:Nat):Int) (by omega) (Int.le_refl _) (by rw[hu2];omega) (by omega);rw[hu1,Nat.mul_one,Int.toNat_natCast] at h;rw[<-Int.natCast_add];exact h
   go_wp2_with fail;have bI:Below wc.heap.size wc (wc.alloc (.cells (madeCells #[.int .u8 0] (s.size+Da s.data.toList)) 5)):=(Below.refl _ wc).alloc (nlr _) _;have bJ:Hid (O0 (wc.alloc (.cells (madeCells #[.int .u8 0] (s.size+Da s.data.toList)) 5)) wc.heap.size (s.size+Da s.data.toList) []):=Lq7 ⟨by
    rw[heap_alloc_new]
    congr 2
    rw[<-Array.toArray_toList (xs:=madeCells _ _),toList_madeCells_one];simp[J2],nlz _⟩
   have bL:=Lq7 bI;clear bI hmk;generalize World.alloc _ _=W0 at bJ bL |-
   go_loopw [13,14] (fun j i wr=>∃k:Nat,j = .int .i64 ((escL (s.data.toList.take k)).length:Nat)/\i = .int .i64 k/\k<=s.size/\Hid (Below wc.heap.size wc wr)/\Hid (O0 wr wc.heap.size (s.size+Da s.data.toList) (escL (s.data.toList.take k)))) (fun _ i _=>s.size-(intOf i).toNat)
   case atStart=>exact⟨0,by simp[escL],rfl,nlz _,bL,bJ⟩
   case round=>
    obtain⟨k,rfl,rfl,hk,hbk,aF⟩:=hrel;by_cases hlt:k<s.size
    ·have bM:k<s.data.toList.length:=(by rw[Al];exact hlt);have aH:s.data.toList[k]'bM=s[k]:=rfl;have aD:=Acb s.data.toList k bM;rw[aH] at aD;have aB:s[k].toNat<256:=s[k].toNat_lt;have aN:=Rh s.data.toList (k+1);rw[aD,lnA,aW.out] at aN;generalize escL (s.data.toList.take k)=L at *;cases he:Mh s[k].toNat with
     | true=>
      obtain⟨p,cp,r1,r2,r3⟩:=aE.out.esc aB he;have x1:=(World.cell?_of_block (a:=⟨rb,s[k].toNat,A⟩) (hbk.out.block _ (Ax r1))).trans r1;have x2:=(World.cell?_of_block (a:=⟨p,0,A⟩) (hbk.out.block _ (Ax r2))).trans r2;have x3:=(World.cell?_of_block (a:=⟨p,1,A⟩) (hbk.out.block _ (Ax r3))).trans r3;have aQ:(esc1 s[k]).length=2:=(by unfold esc1;rw[if_pos he];rfl);rw[aQ] at aN;go_wp2_with fail;have Hbk:=Lq7 hbk.out;have hsz:s[k].toNat<256:=aB;refine Bm (.s 0 (.s 1 (.s 2 (.s 3 (.s 4 (.s 5 (.s 6 (.s 7 (.s 8 (.s 9 (.h 10 (.s 11 (.s 12 .nil))))))))))))) 99 (fun W'=>W'.cell? ⟨rb,s[k].toNat,A⟩=B (.slice (B ⟨p,0,A⟩) 2 cp)) x1 ?_;have y2:wr.drew.cell? ⟨p,0,A⟩=B (.int .u8 92):=(by rw[World.cell?_drew];exact x2);have y3:wr.drew.cell? ⟨p,1,A⟩=B (.int .u8 (secOf s[k].toNat)):=(by rw[World.cell?_drew];exact x3);have aJ:Hid (O0 wr.drew wc.heap.size (s.size+Da s.data.toList) L):=Lq7 aF.out;have bA:Hid (Below wc.heap.size wc wr.drew):=Lq7 hbk.out.drew;generalize World.drew _=Wd at y2 y3 aJ bA |-;refine Aw (.int .i64 (L.length:Nat)) ?_;refine Aw (.slice (B ⟨wc.heap.size,0,A⟩) (s.size+Da s.data.toList) (s.size+Da s.data.toList)) ?_;refine Aw (.int .i64 (L.length:Nat)) ?_;refine Bp (.slice (B ⟨wc.heap.size,L.length,A⟩) (s.size+Da s.data.toList-L.length) (s.size+Da s.data.toList-L.length)) (fun W' hS=>?_) ?_
      ·go_simp;rw[if_pos (by omega),if_neg (by omega)]
      refine Aw (.pointer (B ⟨rb,0,A⟩)) ?_;refine Aw (.int .u8 s[k].toNat) ?_;refine Aw (.pointer (B ⟨rb,0,A⟩)) ?_;refine Aw (.pointer (B ⟨rb,0,A⟩)) ?_;refine Bp (.pointer (B ⟨rb,s[k].toNat,A⟩)) (fun W' hS=>?_) ?_
      ·go_simp;intro h;omega
      refine Aw (.slice (B ⟨p,0,A⟩) 2 cp) ?_;refine Ae rfl (fun K hK=>?_);have hes:esc1 s[k]=[92,if s[k]=10 then 110 else s[k]]:=(by unfold esc1;rw[if_pos he]);have bB:secOf s[k].toNat=((if s[k]=10 then(110:UInt8) else s[k]).toNat:Int):=by
       unfold secOf;by_cases h10:s[k]=10
       ·rw[h10];rfl
       ·rw[if_neg h10,if_neg (show ¬s[k].toNat=10 from fun h=>h10 (UInt8.toNat_inj.1 h))]
      have hcp:=run_copy_row (P:=Tryz.prog) Wd 89 89 3 5 wc.heap.size L.length (s.size+Da s.data.toList-L.length) (s.size+Da s.data.toList-L.length) ⟨p,0,A⟩ 2 cp (J2 (s.size+Da s.data.toList) L).toArray 5 [u8c 92,u8c (if s[k]=10 then 110 else s[k])] Tryz.underlying89 (by kernel_rfl) aJ.out.1 (show 2=Nat.min 2 (s.size+Da s.data.toList-L.length) from(Nat.min_eq_left (by omega)).symm) (by
       intro j v hj;have bC:((⟨p,0,A⟩:Addr).add j)=⟨p,j,A⟩:=by unfold Addr.add;split<;>simp_all
       rw[bC]
       match j,hj with
       | 0,hj=>simp at hj;subst hj;exact y2
       | 1,hj=>simp at hj;subst hj;rw[bB] at y3;exact y3
       | j+2,hj=>simp at hj) (by rw[List.size_toArray,Ww aJ.out.2];show L.length+2<=_;omega) (by
       intro v hv;simp at hv;rcases hv with rfl|rfl<;>rfl)
      have HW:Hid (Below wc.heap.size wc (Wd.setRow wc.heap.size ((J2 (s.size+Da s.data.toList) L).toArray.toList.take L.length++[u8c 92,u8c (if s[k]=10 then 110 else s[k])]++(J2 (s.size+Da s.data.toList) L).toArray.toList.drop (L.length+[u8c 92,u8c (if s[k]=10 then 110 else s[k])].length)).toArray)/\O0 (Wd.setRow wc.heap.size ((J2 (s.size+Da s.data.toList) L).toArray.toList.take L.length++[u8c 92,u8c (if s[k]=10 then 110 else s[k])]++(J2 (s.size+Da s.data.toList) L).toArray.toList.drop (L.length+[u8c 92,u8c (if s[k]=10 then 110 else s[k])].length)).toArray) wc.heap.size (s.size+Da s.data.toList) (escL (s.data.toList.take (k+1)))/\(Wd.setRow wc.heap.size ((J2 (s.size+Da s.data.toList) L).toArray.toList.take L.length++[u8c 92,u8c (if s[k]=10 then 110 else s[k])]++(J2 (s.size+Da s.data.toList) L).toArray.toList.drop (L.length+[u8c 92,u8c (if s[k]=10 then 110 else s[k])].length)).toArray).cell? ⟨rb,s[k].toNat,A⟩=B (.slice (B ⟨p,0,A⟩) 2 cp)):=Lq7 (by
       have bD:rb≠wc.heap.size:=(by have:=Ax r1;omega);refine⟨T6 bA.out (nlr _) _,⟨?_,?_⟩,?_⟩
       ·rw[setRow_heap _ _ _ _ _ _ aJ.out.1,aD,hes]
        congr 2
        rw[<-bufC_two (by omega)];rfl
       ·rw[aD,lnA,aQ];omega
       ·refine(World.cell?_of_block (a:=⟨rb,s[k].toNat,A⟩) (Na _ bD)).trans ?_;exact(World.cell?_of_block (a:=⟨rb,s[k].toNat,A⟩) (bA.out.block _ (Ax r1))).trans r1)
      generalize World.setRow _ _ _=W9 at hcp HW;have HL:Hid ((escL (s.data.toList.take (k+1))).length=L.length+2):=Lq7 (by rw[aD,lnA,aQ]);clear r1 r2 r3 x2 x3 y2 y3;go_wp2_with fail;refine hK _ _ (fun _=>HW.out.2.2) ?_;(try simp only[gX,Act.put]);refine Bp (.int .i64 ((L.length:Int)+2)) (fun W' hS=>?_) ?_
      ·go_simp
       first|done|(rw[IntKind.wrap_i64];omega)
      refine Aw (.int .i64 ((L.length:Int)+2)) ?_;refine A2 ?_;(try simp only[gX,Act.put]);go_wp2_with fail;go_roundw
      case rel=>exact⟨k+1,by rw[HL.out];rfl,by go_num,by omega,Lq7 HW.out.1,Lq7 HW.out.2.1⟩
      case measure=>simp only[intOf];omega
     | false=>
      have r1:=aE.out.plain aB he;have x1:=(World.cell?_of_block (a:=⟨rb,s[k].toNat,A⟩) (hbk.out.block _ (Ax r1))).trans r1;have aQ:esc1 s[k]=[s[k]]:=(by unfold esc1;rw[if_neg (by rw[he];decide)]);rw[aQ] at aN aD;simp only[List.length_singleton] at aN;have HN:Hid (O0 (wr.setCell ⟨wc.heap.size,L.length,A⟩ (.int .u8 s[k].toNat)) wc.heap.size (s.size+Da s.data.toList) (escL (s.data.toList.take (k+1)))):=Lq7 (by rw[aD];exact aF.out.one aN _);have HL:Hid ((escL (s.data.toList.take (k+1))).length=L.length+1):=Lq7 (by rw[aD];simp);have HB:Hid (Below wc.heap.size wc (wr.setCell ⟨wc.heap.size,L.length,A⟩ (.int .u8 s[k].toNat))):=Lq7 (hbk.out.setCell (p:=⟨wc.heap.size,L.length,A⟩) (nlr _) _);obtain⟨-,bN,bO⟩:=Ao aF.out.1;obtain⟨uu,huu⟩:∃uu,wr.cell? ⟨wc.heap.size,L.length,A⟩=B uu:=by
       rw[bN];exact⟨_,Array.getElem?_eq_getElem (by rw[List.size_toArray,Ww aF.out.2];omega)⟩
      have ff:=bO L.length;clear bN bO aQ aD r1;go_wp2_with fail;go_roundw
      case rel=>exact⟨k+1,by rw[HL.out];go_num,by go_num,by omega,HB,HN⟩
      case measure=>simp only[intOf];omega
    ·have aY:Hid (escL (s.data.toList.take k)=escL s.data.toList):=Lq7 (by rw[ltL (by rw[Al];omega)]);rw[aY.out] at aF;have hcv:(convert 89 9 (.slice (B ⟨wc.heap.size,0,A⟩) (s.size+Da s.data.toList) (s.size+Da s.data.toList))).run Tryz.prog wr = .ok (.string ⟨(escL s.data.toList).toArray⟩) wr:=by
      rw[<-aW.out];refine run_convert_bytes_back wr _ _ 5 ⟨wc.heap.size,0,A⟩ (escL s.data.toList).length (escL s.data.toList) Tryz.underlying89 Tryz.underlying5 Tryz.underlying9 (fun j hj=>?_);have:((⟨wc.heap.size,0,A⟩:Addr).add j)=⟨wc.heap.size,j,A⟩:=by unfold Addr.add;split<;>simp_all
      rw[this,(Ao aF.out.1).2.1];unfold J2;rw[List.getElem?_toArray,List.getElem?_append_left (by simpa using hj),List.getElem?_map,lgE hj];rfl
     have bE:=Lq7 (aC.out.trans (hbk.out.mono aC.out.size));go_wp2_with fail;go_ret;exact⟨_,rfl,rfl,bE.out⟩
end Go.Proofs.YtlbbbapiklendaaGreatDoor