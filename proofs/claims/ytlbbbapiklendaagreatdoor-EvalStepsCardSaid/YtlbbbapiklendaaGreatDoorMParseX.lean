/-
  The walk of the parser's Read,where the lexer doesn't break off. (And what it stands on.)
-/
import Derived.Deep.Cut
import Derived.Laws.MakeOwn
import Derived.Laws.CopyRow
import Derived.Test.YtlbbbapiklendaaGreatDoorMParseNz
import Derived.Test.YtlbbbapiklendaaGreatDoorShelf
import Derived.Test.YtlbbbapiklendaaGreatDoorMRegionHeldD
import Derived.Test.YtlbbbapiklendaaGreatDoorMParseW
namespace Go.Proofs.YtlbbbapiklendaaGreatDoor
open Go.IntKind renaming i64->B
open Go.Value renaming int->A,string->D,slice->F,pointer->G
open Option renaming some->E,none->C
open Go Go.RowKit
open List renaming getElem_cons_succ->lgB,getElem_cons_zero->lgC,getElem?_eq_getElem->lgE,length_append->lnA,take_add_one->ltA,take_of_length_le->ltL,length_map->lnM
open Nat renaming le_refl->nlr,zero_le->nlz,le_trans->nlt,add_zero->naz
open Go.Lib renaming hid->Lq7
open Go.Act renaming put->aP
open Go.RowKit.Below renaming refl->bRf
open _root_.Array renaming getElem?_eq_some_iff->agS
open Go.World renaming setCell->wsC
set_option maxRecDepth 100000
set_option maxHeartbeats 16000000
def esc1(c:UInt8):List UInt8:=if L5 c.toNat then [92,if c=10 then 110 else c] else [c]
def escL(l:List UInt8):List UInt8:=l.flatMap esc1
def Db(l:List UInt8):Nat:=l.countP fun c=>L5 c.toNat
theorem escL_len(l):(escL l).length=l.length+Db l:=by
 induction l with
 | nil=>rfl
 | cons c t ih=>
  unfold escL Db at *;rw[List.flatMap_cons,lnA,ih,List.length_cons,List.countP_cons];unfold esc1;by_cases h:L5 c.toNat=true
  ·rw[if_pos h,if_pos h];simp;omega
  ·rw[if_neg h,if_neg h];simp;omega
theorem Aa2{l}(h:Db l=0):escL l=l:=by
 induction l with
 | nil=>rfl
 | cons c t ih=>
  unfold Db at h;rw[List.countP_cons] at h;have h1:¬L5 c.toNat=true:=fun e=>(by rw[if_pos e] at h;omega);rw[if_neg h1] at h;unfold escL at *;rw[List.flatMap_cons,ih h];unfold esc1;rw[if_neg h1];rfl
theorem X2(l):Db l=l.count 10+l.count 92+l.count 34:=by
 induction l with
 | nil=>rfl
 | cons c t ih=>
  unfold Db at *;rw[List.countP_cons,List.count_cons,List.count_cons,List.count_cons,ih];have key:(if L5 c.toNat=true then 1 else 0)=(if(c==10)=true then 1 else 0)+(if(c==92)=true then 1 else 0)+(if(c==34)=true then 1 else 0):=by
   revert c;intro c;have:∀n:Fin 256,(if L5 (UInt8.ofNat n).toNat=true then 1 else 0)=(if(UInt8.ofNat n==10)=true then 1 else 0)+(if(UInt8.ofNat n==92)=true then 1 else 0)+(if(UInt8.ofNat n==34)=true then 1 else 0):=(by decide);have h:=this ⟨c.toNat,c.toNat_lt⟩
   simpa using h
  omega
def u8c(c:UInt8):Value:=.int .u8 (c.toNat:Int)
def Ju(n:Nat)(L:List UInt8):List Value:=L.map u8c++List.replicate (n-L.length) (.int .u8 0)
def Oi(w:World)(g n:Nat)(L:List UInt8):Prop:=w.heap[g]? = E (.cells (Ju n L).toArray 5 (0,0))/\L.length<=n
theorem Vt{n L}(h:L.length<=n):(Ju n L).length=n:=by simp[Ju];omega
theorem bufC_one{n L c}(h:L.length+1<=n):(Ju n L).set L.length (u8c c)=Ju n (L++[c]):=by
 unfold Ju;rw[List.set_append_right _ _ (by simp),lnM,Nat.sub_self,show n-L.length=(n-(L++[c]).length)+1 by simp;omega,List.replicate_succ,List.set_cons_zero,List.map_append,List.append_assoc];rfl
theorem bufC_two{n L c d}(_h:L.length+2<=n):(Ju n L).take L.length++[u8c c,u8c d]++(Ju n L).drop (L.length+2)=Ju n (L++[c,d]):=by
 unfold Ju;rw[List.take_append_of_le_length (by simp),ltL (by simp),List.drop_append,lnM,List.drop_of_length_le (by simp),List.nil_append,List.drop_replicate,List.map_append,show n-(L++[c,d]).length=n-L.length-(L.length+2-L.length) by simp;omega];rfl
theorem Oi.one{w g n L}(h:Oi w g n L)(hl:L.length+1<=n)(c):Oi (w.setCell ⟨g,L.length,C⟩ (.int .u8 c.toNat)) g n (L++[c]):=by
 refine⟨?_,by simp;omega⟩;rw[Al h.1 L.length];rw[List.setIfInBounds_toArray];rw[show(Value.int .u8 (c.toNat:Int))=u8c c from rfl,bufC_one hl]
theorem Aa3(l:List UInt8)(k:Nat)(h:k<l.length):escL (l.take (k+1))=escL (l.take k)++esc1 l[k]:=by
 unfold escL;rw[ltA,lgE h,Option.toList_some,List.flatMap_append];simp
theorem Q1(l k):(escL (l.take k)).length<=(escL l).length:=by
 unfold escL
 conv=>rhs;rw[<-List.take_append_drop k l,List.flatMap_append,lnA]
 omega
theorem Aa4(l:List UInt8)(k:Nat)(h:k<l.length):Db (l.take (k+1))=Db (l.take k)+if L5 l[k].toNat=true then 1 else 0:=by
 unfold Db;rw[ltA,lgE h,Option.toList_some,List.countP_append];simp[List.countP_cons]
theorem Oy(l):Db l<=l.length:=List.countP_le_length
theorem My{w:World}{g b:Nat}(cs)(h:b≠g):(w.setRow g cs).heap[b]? = w.heap[b]?:=by
 unfold World.setRow;show(Array.modify _ _ _)[b]? = _;rw[Array.getElem?_modify,if_neg (fun e=>h e.symm)]
theorem Te{n w w'}(h:Below n w w'){g}(hg:n<=g)(cs):Below n w (w'.setRow g cs):=
 ⟨h.os,h.tape,h.output,by unfold World.setRow;simpa using h.size,fun k hk=>(My cs (by omega)).trans (h.block k hk)⟩
def PRepl(s:List UInt8)(w:World)(e:Ending)(w':World):Prop:=∃o:ByteArray,e = .returned (D o)/\o.data.toList=escL s/\Below w.heap.size w w'
def Gk(l:List UInt8)(k:Nat):Nat:=(if 1<=k then l.count 10 else 0)+(if 2<=k then l.count 92 else 0)+(if 3<=k then l.count 34 else 0)
theorem infoU8:(Tryz.prog.info? 5).map (fun i=>(i.zero,i.size,i.bytes))=E (E (.int .u8 0),1,1):=by kernel_rfl
theorem Vu(s rb base w)(hr:F1 base w rb)(hs:s.size<=65536):
  Calls Tryz.prog 318 #[G (E ⟨rb,0,C⟩),D s] w (PRepl s.data.toList w):=by
 obtain⟨ta,tc,z256,bG⟩:=hr.row;obtain⟨iu,hiu,hu0,hu1,hu2⟩:=info_parts infoU8;have Hr:=Lq7 hr;have aZ:=Lq7 bG;have hnn:∀(p cp:Nat) (W:World),(binOp .neq 89 (F (E ⟨p,0,C⟩) 2 cp) (F C 0 0)).run Tryz.prog W = .ok (.bool true) W:=fun p cp W=>(by kernel_rfl);have hnz:∀(W:World),(binOp .neq 89 (F C 0 0) (F C 0 0)).run Tryz.prog W = .ok (.bool false) W:=fun W=>(by kernel_rfl);have hen:Db s.data.toList<=s.size:=(by rw[<-Ai];exact Oy _);clear hr bG;go_enter Tryz.func318,Tryz.ntmps318
 go_upto_if 26 with fail
 go_cut [5,6] from 7 (fun v u wc=>v = A B ((s.size:Int)+(Db s.data.toList:Nat))/\u = .bool (!decide (Db s.data.toList=0))/\Hid (Below w.heap.size w wc)/\Hid (F1 base wc rb))
 case first=>
  by_cases h24:(24:Int)<=s.size
  ·simp only[h24,decide_true];go_wp2_with fail
   go_loopw [5,6,32] (fun v u i wr=>(i = A B 0/\v = A B ((s.size:Int)+(Gk s.data.toList 0:Nat))/\u = .bool (!decide (Gk s.data.toList 0=0))/\Hid (Below w.heap.size w wr)/\Hid (F1 base wr rb))\/(i = A B 1/\v = A B ((s.size:Int)+(Gk s.data.toList 1:Nat))/\u = .bool (!decide (Gk s.data.toList 1=0))/\Hid (Below w.heap.size w wr)/\Hid (F1 base wr rb))\/(i = A B 2/\v = A B ((s.size:Int)+(Gk s.data.toList 2:Nat))/\u = .bool (!decide (Gk s.data.toList 2=0))/\Hid (Below w.heap.size w wr)/\Hid (F1 base wr rb))\/(i = A B 3/\v = A B ((s.size:Int)+(Gk s.data.toList 3:Nat))/\u = .bool (!decide (Gk s.data.toList 3=0))/\Hid (Below w.heap.size w wr)/\Hid (F1 base wr rb))) (fun _ _ i _=>3-(intOf i).toNat)
   case atStart=>exact .inl ⟨rfl,by simp[Gk],by simp[Gk],Lq7 (bRf _ _),Hr⟩
   case round=>
    have hlen:=Ai s;have hc1:=List.count_le_length (a:=(10:UInt8)) (l:=s.data.toList);have hc2:=List.count_le_length (a:=(92:UInt8)) (l:=s.data.toList);have hc3:=List.count_le_length (a:=(34:UInt8)) (l:=s.data.toList);rw[hlen] at hc1 hc2 hc3;clear hlen;rcases hrel with⟨rfl,rfl,rfl,aC,aE⟩|⟨rfl,rfl,rfl,aC,aE⟩|⟨rfl,rfl,rfl,aC,aE⟩|⟨rfl,rfl,rfl,aC,aE⟩
    ·obtain⟨tb,toff,aR,aU⟩:=(aZ.out.below aC.out).at (k:=0) (by decide);subst aR;simp only[toRep,lgC,naz] at aU;have HC:=Lq7 (fun W=>Tryz.strings_Count_one s 10 W);have e1:((⟨#[10]⟩:ByteArray)[0]'(by decide)).toNat=10:=rfl;obtain⟨p,cp,r1,-,-⟩:=aE.out.esc (c:=10) (by decide) (by decide);have aG:Lib.countByte s.data.toList 10=s.data.toList.count 10:=rfl;have aA:Hid (Gk s.data.toList 1=Gk s.data.toList 0+s.data.toList.count 10):=Lq7 (by simp[Gk]);have aV:Gk s.data.toList 0<=3*s.size:=by unfold Gk;(repeat' split)<;>omega
     go_wp2_with fail;refine(HC.out _).mono ?_;rintro e w1 ⟨rfl,rfl⟩;rw[aG];by_cases h0:s.data.toList.count 10=0
     ·rw[h0,naz] at aA;rw[h0];clear aG HC;go_wp2_with fail;go_roundw
      case rel=>exact .inr (.inl ⟨by go_num,by rw[aA.out],by rw[aA.out],aC,aE⟩)
      case measure=>simp[intOf]
     ·have bH:(((s.data.toList.count 10:Nat):Int) != 0)=true:=(by simp only[bne_iff_ne,ne_eq];omega);generalize s.data.toList.count 10=n at *;clear aG HC;go_wp2_with fail
      go_quiet (fail)
      go_wp2_with fail;go_roundw
      case rel=>exact .inr (.inl ⟨by go_num,by rw[aA.out];go_num,by rw[aA.out];simp;first|done|omega,Lq7 (C0 aC.out nq),Lq7 (aE.out.keep fun _ _ _=>rfl)⟩)
      case measure=>simp[intOf]
    ·obtain⟨tb,toff,aR,aU⟩:=(aZ.out.below aC.out).at (k:=1) (by decide);subst aR;simp only[toRep,lgB,lgC] at aU;have HC:=Lq7 (fun W=>Tryz.strings_Count_one s 92 W);have e1:((⟨#[92]⟩:ByteArray)[0]'(by decide)).toNat=92:=rfl;obtain⟨p,cp,r1,-,-⟩:=aE.out.esc (c:=92) (by decide) (by decide);have aG:Lib.countByte s.data.toList 92=s.data.toList.count 92:=rfl;have aA:Hid (Gk s.data.toList 2=Gk s.data.toList 1+s.data.toList.count 92):=Lq7 (by simp[Gk]);have aV:Gk s.data.toList 1<=3*s.size:=by unfold Gk;(repeat' split)<;>omega
     go_wp2_with fail;refine(HC.out _).mono ?_;rintro e w1 ⟨rfl,rfl⟩;rw[aG];by_cases h0:s.data.toList.count 92=0
     ·rw[h0,naz] at aA;rw[h0];clear aG HC;go_wp2_with fail;go_roundw
      case rel=>exact .inr (.inr (.inl ⟨by go_num,by rw[aA.out],by rw[aA.out],aC,aE⟩))
      case measure=>simp[intOf]
     ·have bH:(((s.data.toList.count 92:Nat):Int) != 0)=true:=(by simp only[bne_iff_ne,ne_eq];omega);generalize s.data.toList.count 92=n at *;clear aG HC;go_wp2_with fail
      go_quiet (fail)
      go_wp2_with fail;go_roundw
      case rel=>exact .inr (.inr (.inl ⟨by go_num,by rw[aA.out];go_num,by rw[aA.out];simp;first|done|omega,Lq7 (C0 aC.out nq),Lq7 (aE.out.keep fun _ _ _=>rfl)⟩))
      case measure=>simp[intOf]
    ·obtain⟨tb,toff,aR,aU⟩:=(aZ.out.below aC.out).at (k:=2) (by decide);subst aR;simp only[toRep,lgB,lgC] at aU;have HC:=Lq7 (fun W=>Tryz.strings_Count_one s 34 W);have e1:((⟨#[34]⟩:ByteArray)[0]'(by decide)).toNat=34:=rfl;obtain⟨p,cp,r1,-,-⟩:=aE.out.esc (c:=34) (by decide) (by decide);have aG:Lib.countByte s.data.toList 34=s.data.toList.count 34:=rfl;have aA:Hid (Gk s.data.toList 3=Gk s.data.toList 2+s.data.toList.count 34):=Lq7 (by simp[Gk]);have aV:Gk s.data.toList 2<=3*s.size:=by unfold Gk;(repeat' split)<;>omega
     go_wp2_with fail;refine(HC.out _).mono ?_;rintro e w1 ⟨rfl,rfl⟩;rw[aG];by_cases h0:s.data.toList.count 34=0
     ·rw[h0,naz] at aA;rw[h0];clear aG HC;go_wp2_with fail;go_roundw
      case rel=>exact .inr (.inr (.inr ⟨by go_num,by rw[aA.out],by rw[aA.out],aC,aE⟩))
      case measure=>simp[intOf]
     ·have bH:(((s.data.toList.count 34:Nat):Int) != 0)=true:=(by simp only[bne_iff_ne,ne_eq];omega);generalize s.data.toList.count 34=n at *;clear aG HC;go_wp2_with fail
      go_quiet (fail)
      go_wp2_with fail;go_roundw
      case rel=>exact .inr (.inr (.inr ⟨by go_num,by rw[aA.out];go_num,by rw[aA.out];simp;first|done|omega,Lq7 (C0 aC.out nq),Lq7 (aE.out.keep fun _ _ _=>rfl)⟩))
      case measure=>simp[intOf]
    ·have aA:Hid (Gk s.data.toList 3=Db s.data.toList):=Lq7 (by rw[X2];simp[Gk]);rw[aA.out];go_wp2_with fail;go_meet
     case rel=>exact⟨rfl,rfl,aC,aE⟩
  ·go_wp2_with fail
   go_loopw [5,6,10] (fun v u i wr=>∃k:Nat,v = A B ((s.size:Int)+(Db (s.data.toList.take k):Nat))/\u = .bool (!decide (Db (s.data.toList.take k)=0))/\i = A B k/\k<=s.size/\wr=w) (fun _ _ i _=>s.size-(intOf i).toNat)
   case atStart=>exact⟨0,by simp[Db],by simp[Db],rfl,nlz _,rfl⟩
   case round=>
    obtain⟨k,rfl,rfl,rfl,hk,rfl⟩:=hrel;by_cases hlt:k<s.size
    ·have aH:s.data.toList[k]'(by rw[Ai];exact hlt)=s[k]:=rfl;have aD:=Aa4 s.data.toList k (by rw[Ai];exact hlt);rw[aH] at aD;have aB:s[k].toNat<256:=s[k].toNat_lt;have aN:Db (s.data.toList.take k)<=k:=nlt (Oy _) (by rw[List.length_take];omega);cases he:L5 s[k].toNat with
     | true=>
      obtain⟨p,cp,r1,r2,r3⟩:=Hr.out.esc aB he;rw[he,if_pos rfl] at aD;have aM:=Lq7 aD;clear aD aH he r2 r3;go_wp2_with fail;go_roundw
      case rel=>exact⟨k+1,by rw[aM.out];go_num,by rw[aM.out];simp,by go_num,by omega,trivial⟩
      case measure=>simp only[intOf];omega
     | false=>
      have r1:=Hr.out.plain aB he;rw[he,if_neg (by decide),naz] at aD;have aM:=Lq7 aD;clear aD aH he;go_wp2_with fail;go_roundw
      case rel=>exact⟨k+1,by rw[aM.out];rfl,by rw[aM.out];rfl,by go_num,by omega,trivial⟩
      case measure=>simp only[intOf];omega
    ·have aM:Hid (Db (s.data.toList.take k)=Db s.data.toList):=Lq7 (by rw[ltL (by rw[Ai];omega)]);rw[aM.out];go_wp2_with fail;go_meet
     case rel=>exact⟨rfl,rfl,Lq7 (bRf _ _),Hr⟩
 case rest=>
  obtain⟨rfl,rfl,aC,aE⟩:=hcut;have aW:Hid ((escL s.data.toList).length=s.size+Db s.data.toList):=Lq7 (by rw[escL_len,Ai]);by_cases h0:Db s.data.toList=0
  ·have Hs:Hid (s.data.toList=escL s.data.toList):=Lq7 (Aa2 h0).symm;rw[h0];go_wp2_with fail;go_ret;exact⟨_,rfl,Hs.out,aC.out⟩
  ·simp only[decide_eq_false h0,Bool.not_false];have hmk:(Instr.makeSlice 89 (A B ((s.size:Int)+(Db s.data.toList:Nat))) (A B ((s.size:Int)+(Db s.data.toList:Nat)))).run Tryz.prog wc = .ok (F (E ⟨wc.heap.size,0,C⟩) (s.size+Db s.data.toList) (s.size+Db s.data.toList)) (wc.alloc (.cells (madeCells #[.int .u8 0] (s.size+Db s.data.toList)) 5)):=by
    have h:=run_make (P:=Tryz.prog) wc 89 5 iu (.int .u8 0) Tryz.underlying89 hiu hu0 .i64 .i64 ((s.size+Db s.data.toList:Nat):Int) ((s.size+Db s.data.toList:Nat):Int) (by omega) (Int.le_refl _) (by rw[hu2];omega) (by omega);rw[hu1,Nat.mul_one,Int.toNat_natCast] at h;rw[<-Int.natCast_add];exact h
   go_wp2_with fail;have bI:Below wc.heap.size wc (wc.alloc (.cells (madeCells #[.int .u8 0] (s.size+Db s.data.toList)) 5)):=(bRf _ wc).alloc (nlr _) _;have bJ:Hid (Oi (wc.alloc (.cells (madeCells #[.int .u8 0] (s.size+Db s.data.toList)) 5)) wc.heap.size (s.size+Db s.data.toList) []):=Lq7 ⟨by
    rw[heap_alloc_new]
    congr 2
    rw[<-Array.toArray_toList (xs:=madeCells _ _),toList_madeCells_one];simp[Ju],nlz _⟩
   have bL:=Lq7 bI;clear bI hmk;generalize World.alloc _ _=W0 at bJ bL |-
   go_loopw [13,14] (fun j i wr=>∃k:Nat,j = A B ((escL (s.data.toList.take k)).length:Nat)/\i = A B k/\k<=s.size/\Hid (Below wc.heap.size wc wr)/\Hid (Oi wr wc.heap.size (s.size+Db s.data.toList) (escL (s.data.toList.take k)))) (fun _ i _=>s.size-(intOf i).toNat)
   case atStart=>exact⟨0,by simp[escL],rfl,nlz _,bL,bJ⟩
   case round=>
    obtain⟨k,rfl,rfl,hk,hbk,aF⟩:=hrel;by_cases hlt:k<s.size
    ·have bM:k<s.data.toList.length:=(by rw[Ai];exact hlt);have aH:s.data.toList[k]'bM=s[k]:=rfl;have aD:=Aa3 s.data.toList k bM;rw[aH] at aD;have aB:s[k].toNat<256:=s[k].toNat_lt;have aN:=Q1 s.data.toList (k+1);rw[aD,lnA,aW.out] at aN;generalize escL (s.data.toList.take k)=L at *;cases he:L5 s[k].toNat with
     | true=>
      obtain⟨p,cp,r1,r2,r3⟩:=aE.out.esc aB he;have x1:=(World.cell?_of_block (a:=⟨rb,s[k].toNat,C⟩) (hbk.out.block _ (Ar r1))).trans r1;have x2:=(World.cell?_of_block (a:=⟨p,0,C⟩) (hbk.out.block _ (Ar r2))).trans r2;have x3:=(World.cell?_of_block (a:=⟨p,1,C⟩) (hbk.out.block _ (Ar r3))).trans r3;have aQ:(esc1 s[k]).length=2:=(by unfold esc1;rw[if_pos he];rfl);rw[aQ] at aN;go_wp2_with fail;have Hbk:=Lq7 hbk.out;have hsz:s[k].toNat<256:=aB;refine Ba (.s 0 (.s 1 (.s 2 (.s 3 (.s 4 (.s 5 (.s 6 (.s 7 (.s 8 (.s 9 (.h 10 (.s 11 (.s 12 .nil))))))))))))) 99 (fun W'=>W'.cell? ⟨rb,s[k].toNat,C⟩=E (F (E ⟨p,0,C⟩) 2 cp)) x1 ?_;have y2:wr.drew.cell? ⟨p,0,C⟩=E (.int .u8 92):=(by rw[World.cell?_drew];exact x2);have y3:wr.drew.cell? ⟨p,1,C⟩=E (.int .u8 (secOf s[k].toNat)):=(by rw[World.cell?_drew];exact x3);have aJ:Hid (Oi wr.drew wc.heap.size (s.size+Db s.data.toList) L):=Lq7 aF.out;have bA:Hid (Below wc.heap.size wc wr.drew):=Lq7 hbk.out.drew;generalize World.drew _=Wd at y2 y3 aJ bA |-;refine Ag (A B (L.length:Nat)) ?_;refine Ag (F (E ⟨wc.heap.size,0,C⟩) (s.size+Db s.data.toList) (s.size+Db s.data.toList)) ?_;refine Ag (A B (L.length:Nat)) ?_;refine Bl (F (E ⟨wc.heap.size,L.length,C⟩) (s.size+Db s.data.toList-L.length) (s.size+Db s.data.toList-L.length)) (fun W' hS=>?_) ?_
      ·go_simp;rw[if_pos (by omega),if_neg (by omega)]
      refine Ag (G (E ⟨rb,0,C⟩)) ?_;refine Ag (.int .u8 s[k].toNat) ?_;refine Ag (G (E ⟨rb,0,C⟩)) ?_;refine Ag (G (E ⟨rb,0,C⟩)) ?_;refine Bl (G (E ⟨rb,s[k].toNat,C⟩)) (fun W' hS=>?_) ?_
      ·go_simp;intro h;omega
      refine Ag (F (E ⟨p,0,C⟩) 2 cp) ?_;refine Ad rfl (fun K hK=>?_);have hes:esc1 s[k]=[92,if s[k]=10 then 110 else s[k]]:=(by unfold esc1;rw[if_pos he]);have bB:secOf s[k].toNat=((if s[k]=10 then(110:UInt8) else s[k]).toNat:Int):=by
       unfold secOf;by_cases h10:s[k]=10
       ·rw[h10];rfl
       ·rw[if_neg h10,if_neg (show ¬s[k].toNat=10 from fun h=>h10 (UInt8.toNat_inj.1 h))]
      have hcp:=run_copy_row (P:=Tryz.prog) Wd 89 89 3 5 wc.heap.size L.length (s.size+Db s.data.toList-L.length) (s.size+Db s.data.toList-L.length) ⟨p,0,C⟩ 2 cp (Ju (s.size+Db s.data.toList) L).toArray 5 [u8c 92,u8c (if s[k]=10 then 110 else s[k])] Tryz.underlying89 (by kernel_rfl) aJ.out.1 (show 2=Nat.min 2 (s.size+Db s.data.toList-L.length) from(Nat.min_eq_left (by omega)).symm) (by
       intro j v hj;have bC:((⟨p,0,C⟩:Addr).add j)=⟨p,j,C⟩:=by unfold Addr.add;split<;>simp_all
       rw[bC]
       match j,hj with
       | 0,hj=>simp at hj;subst hj;exact y2
       | 1,hj=>simp at hj;subst hj;rw[bB] at y3;exact y3
       | j+2,hj=>simp at hj) (by rw[List.size_toArray,Vt aJ.out.2];show L.length+2<=_;omega) (by
       intro v hv;simp at hv;rcases hv with rfl|rfl<;>rfl)
      have HW:Hid (Below wc.heap.size wc (Wd.setRow wc.heap.size ((Ju (s.size+Db s.data.toList) L).toArray.toList.take L.length++[u8c 92,u8c (if s[k]=10 then 110 else s[k])]++(Ju (s.size+Db s.data.toList) L).toArray.toList.drop (L.length+[u8c 92,u8c (if s[k]=10 then 110 else s[k])].length)).toArray)/\Oi (Wd.setRow wc.heap.size ((Ju (s.size+Db s.data.toList) L).toArray.toList.take L.length++[u8c 92,u8c (if s[k]=10 then 110 else s[k])]++(Ju (s.size+Db s.data.toList) L).toArray.toList.drop (L.length+[u8c 92,u8c (if s[k]=10 then 110 else s[k])].length)).toArray) wc.heap.size (s.size+Db s.data.toList) (escL (s.data.toList.take (k+1)))/\(Wd.setRow wc.heap.size ((Ju (s.size+Db s.data.toList) L).toArray.toList.take L.length++[u8c 92,u8c (if s[k]=10 then 110 else s[k])]++(Ju (s.size+Db s.data.toList) L).toArray.toList.drop (L.length+[u8c 92,u8c (if s[k]=10 then 110 else s[k])].length)).toArray).cell? ⟨rb,s[k].toNat,C⟩=E (F (E ⟨p,0,C⟩) 2 cp)):=Lq7 (by
       have bD:rb≠wc.heap.size:=(by have:=Ar r1;omega);refine⟨Te bA.out (nlr _) _,⟨?_,?_⟩,?_⟩
       ·rw[setRow_heap _ _ _ _ _ _ aJ.out.1,aD,hes]
        congr 2
        rw[<-bufC_two (by omega)];rfl
       ·rw[aD,lnA,aQ];omega
       ·refine(World.cell?_of_block (a:=⟨rb,s[k].toNat,C⟩) (My _ bD)).trans ?_;exact(World.cell?_of_block (a:=⟨rb,s[k].toNat,C⟩) (bA.out.block _ (Ar r1))).trans r1)
      generalize World.setRow _ _ _=W9 at hcp HW;have HL:Hid ((escL (s.data.toList.take (k+1))).length=L.length+2):=Lq7 (by rw[aD,lnA,aQ]);clear r1 r2 r3 x2 x3 y2 y3;go_wp2_with fail;refine hK _ _ (fun _=>HW.out.2.2) ?_;(try simp only[gX,aP]);refine Bl (A B ((L.length:Int)+2)) (fun W' hS=>?_) ?_
      ·go_simp
       first|done|(rw[IntKind.wrap_i64];omega)
      refine Ag (A B ((L.length:Int)+2)) ?_;refine Ay ?_;(try simp only[gX,aP]);go_wp2_with fail;go_roundw
      case rel=>exact⟨k+1,by rw[HL.out];rfl,by go_num,by omega,Lq7 HW.out.1,Lq7 HW.out.2.1⟩
      case measure=>simp only[intOf];omega
     | false=>
      have r1:=aE.out.plain aB he;have x1:=(World.cell?_of_block (a:=⟨rb,s[k].toNat,C⟩) (hbk.out.block _ (Ar r1))).trans r1;have aQ:esc1 s[k]=[s[k]]:=(by unfold esc1;rw[if_neg (by rw[he];decide)]);rw[aQ] at aN aD;simp only[List.length_singleton] at aN;have HN:Hid (Oi (wr.setCell ⟨wc.heap.size,L.length,C⟩ (.int .u8 s[k].toNat)) wc.heap.size (s.size+Db s.data.toList) (escL (s.data.toList.take (k+1)))):=Lq7 (by rw[aD];exact aF.out.one aN _);have HL:Hid ((escL (s.data.toList.take (k+1))).length=L.length+1):=Lq7 (by rw[aD];simp);have HB:Hid (Below wc.heap.size wc (wr.setCell ⟨wc.heap.size,L.length,C⟩ (.int .u8 s[k].toNat))):=Lq7 (hbk.out.setCell (p:=⟨wc.heap.size,L.length,C⟩) (nlr _) _);obtain⟨-,bN,bO⟩:=Ac aF.out.1;obtain⟨uu,huu⟩:∃uu,wr.cell? ⟨wc.heap.size,L.length,C⟩=E uu:=by
       rw[bN];exact⟨_,Array.getElem?_eq_getElem (by rw[List.size_toArray,Vt aF.out.2];omega)⟩
      have ff:=bO L.length;clear bN bO aQ aD r1;go_wp2_with fail;go_roundw
      case rel=>exact⟨k+1,by rw[HL.out];go_num,by go_num,by omega,HB,HN⟩
      case measure=>simp only[intOf];omega
    ·have aY:Hid (escL (s.data.toList.take k)=escL s.data.toList):=Lq7 (by rw[ltL (by rw[Ai];omega)]);rw[aY.out] at aF;have hcv:(convert 89 9 (F (E ⟨wc.heap.size,0,C⟩) (s.size+Db s.data.toList) (s.size+Db s.data.toList))).run Tryz.prog wr = .ok (D ⟨(escL s.data.toList).toArray⟩) wr:=by
      rw[<-aW.out];refine run_convert_bytes_back wr _ _ 5 ⟨wc.heap.size,0,C⟩ (escL s.data.toList).length (escL s.data.toList) Tryz.underlying89 Tryz.underlying5 Tryz.underlying9 (fun j hj=>?_);have:((⟨wc.heap.size,0,C⟩:Addr).add j)=⟨wc.heap.size,j,C⟩:=by unfold Addr.add;split<;>simp_all
      rw[this,(Ac aF.out.1).2.1];unfold Ju;rw[List.getElem?_toArray,List.getElem?_append_left (by simpa using hj),List.getElem?_map,lgE hj];rfl
     have bE:=Lq7 (aC.out.trans (hbk.out.mono aC.out.size));go_wp2_with fail;go_ret;exact⟨_,rfl,rfl,bE.out⟩
theorem RdB.call{w W W' n e l c bp}(h:RdB w W n e l c)(hg:W.grownBy W' (E bp))(hb:w.heap.size+3<=bp):RdB w W' n e l c:=by
 have hs:=(agS.1 h.c).1;have hk:∀k,k<w.heap.size+3->W'.heap[k]? = W.heap[k]?:=fun k hk=>hg.block k (by omega) (fun e=>by cases e;omega);exact⟨⟨hg.os.trans h.below.os,hg.tape.trans h.below.tape,hg.output.trans h.below.output,nlt h.below.size hg.size,fun k hl=>(hk k (by omega)).trans (h.below.block k hl)⟩,(hk _ (by omega)).trans h.a,(hk _ (by omega)).trans h.b,(hk _ (by omega)).trans h.c⟩
theorem read_ok(s w)(hs:s.size<=9223372036854775807)(hw:Lg w)(ts)(hl:G1 s.data.toList = .ok ts)(hne:readL s.data.toList≠C):
  Calls Tryz.prog 6 #[D s] w (PRead s w):=by
 have hmf:∀(fn:Fn) (first cap:Array Value) (w:World),(Instr.makeFunc fn first cap).run Tryz.prog w = .ok (.func fn first cap) w:=fun _ _ _ _=>rfl;have bL:=Rs w;have bD:=Lq7 (Sx s _ hs (hw.below bL.below));have H0:=Lq7 bL;have aA:=Xd hl;have hfew:=lexL_few hl;rw[Ai] at aA;have Hl:=Lq7 hl;have bE:Hid (Cs (G8 s.data.toList) (lvl (G8 s.data.toList) (ts.length+2)) [] ts 0 ≠ .out):=Lq7 (fun h=>hne (by unfold readL;rw[hl];simp only[h]))
 go_enter_defers Tryz.func6,Tryz.ntmps6
 go_wp2_with fail;refine bD.out.mono ?_;rintro e w1 ⟨hb1,hq⟩;rw[Hl.out] at hq;obtain⟨a,cap,rfl,hcap,aG⟩:=hq;have H1:=Lq7 (H0.out.later hb1);have aR:=Lq7 hcap;have bG:=Lq7 aG;obtain⟨b0,b1⟩:=Du H1.out.b;obtain⟨c0,c1,c2,c3,c4⟩:=Bc H1.out.c;have hbl:w.heap.size+1<w1.heap.size:=(agS.1 H1.out.b).1
 go_upto_region 2 with fail
 have H2:=Lq7 ((H1.out.setB 0).setC 0 0);have aC:Hid (Af (fun b=>w.heap.size+3<=b) (((w1.setCell ⟨w.heap.size+1,0,C⟩ (A B 0)).setCell ⟨w.heap.size+1+1,0,C⟩ (A B 0)).setCell ⟨w.heap.size+1+1,1,C⟩ (A B 0)) a (ts.map Nm)):=Lq7 (bG.out.mono fun b hb hl=>by
  have hb':w.heap.size+3<=b:=(by simpa using hb);exact⟨hb',by simpa using hl,by rw[Ae (by omega),Ae (by omega),Ae (by omega)]⟩)
 generalize wsC _ _ _=W2 at H2 aC |-;obtain⟨b0,b1⟩:=Du H2.out.b;have bH:=Lq7 (end_any s W2 aA);go_wp2_with fail;refine bH.out.mono ?_;rintro e W3 ⟨rfl,bM⟩;have H3:=Lq7 (H2.out.later bM);have aU:=Lq7 (aC.out.below bM);generalize hen:G8 s.data.toList=en at bE |-;have bN:=Lq7 hen;have aV:w.heap.size+3<=W3.heap.size:=by
  have:=(agS.1 H3.out.c).1;omega
 go_upto_region 7 with fail
 have bO:Below W3.heap.size W3 ((W3.alloc (.cells #[F a ts.length cap,A B en.1,A B en.2,A B 0] 65)).alloc (.cells #[A B 0,D ⟨#[]⟩,A B 1,A B 1] 67)):=((bRf _ W3).alloc (nlr _) _).alloc (by simp) _;have H4:=Lq7 (H3.out.later bO);have bI:Hid (PS ((W3.alloc (.cells #[F a ts.length cap,A B en.1,A B en.2,A B 0] 65)).alloc (.cells #[A B 0,D ⟨#[]⟩,A B 1,A B 1] 67)) W3.heap.size en ts 0):=Lq7
  ⟨a,cap,by rw[Below.heap_alloc _ _ _ (by simp)];exact heap_alloc_new W3 _,⟨aR.out.1,by omega⟩,aR.out.2,(aU.out.here.below bO).wider (fun b hb _=>hb.2)⟩
 have bC:Hid (((W3.alloc (.cells #[F a ts.length cap,A B en.1,A B en.2,A B 0] 65)).alloc (.cells #[A B 0,D ⟨#[]⟩,A B 1,A B 1] 67)).heap[W3.heap.size+1]? = E (.cells #[A B 0,D ⟨#[]⟩,A B 1,A B 1] 67 (0,0))):=Lq7 (by
  have:=heap_alloc_new (W3.alloc (.cells #[F a ts.length cap,A B en.1,A B en.2,A B 0] 65)) (.cells #[A B 0,D ⟨#[]⟩,A B 1,A B 1] 67)
  simpa using this)
 generalize hbp:W3.heap.size=bp at aV bI bC |-;generalize World.alloc _ _=W4 at H4 bI bC |-;refine Jg (.s 0 (.s 1 (.s 4 (.h 2 (.h 3 (.h 5 (.h 6 (.h 7 .nil)))))))) 99 (fun W'=>W'.heap[bp+1]? = E (.cells #[A B 0,D ⟨#[]⟩,A B 1,A B 1] 67 (0,0))) (by kernel_rfl) (by kernel_rfl) (readQ (fun _ _ _=>rfl) (by kernel_rfl)) bC.out ?_;have H5:=Lq7 (H4.out.later ((bRf _ W4).drew));have aH:=Lq7 (bI.out.grown ((bRf _ W4).drew));have aJ:Hid (W4.drew.heap[bp+1]? = E (.cells #[A B 0,D ⟨#[]⟩,A B 1,A B 1] 67 (0,0))):=Lq7 bC.out;generalize W4.drew=W5 at H5 aH aJ |-;refine A8 (.agg #[A B 0,D ⟨#[]⟩,A B 1,A B 1]) ?_;refine Ag (G (E ⟨bp,0,C⟩)) ?_;refine Ag (.agg #[A B 0,A B 0]) ?_;have bP:=Lq7 (Rr bp ⟨#[]⟩ en (lvl en (ts.length+2)) (Ir.lvl en _) (U3 bp en (ts.length+2)).2.2 W5 ts 0 aH.out (by omega) (by omega) bE.out);unfold ptr at bP;refine Ad rfl (fun Kx hKx=>?_);go_wp2_with fail;refine bP.out.mono ?_;rintro e W6 ⟨aW,hq⟩;have H6:=Lq7 (H5.out.call aW aV);have aM:=Lq7 ((aW.block (bp+1) (agS.1 aJ.out).1 (fun e=>by cases e)).trans aJ.out);have hbl6:bp<W5.heap.size:=aH.out.lt;have hs6:=aW.size;cases hm:Cs en (lvl en (ts.length+2)) [] ts 0 with
 | out=>exact absurd hm bE.out
 | err x l c=>
  have hq':PP bp en (VRow W5.heap.size) (.err x l c) W5 e W6:=(by rw[<-hm];exact⟨aW,hq⟩);obtain rfl:=hq'.2;have Hr:Hid (readL s.data.toList=E (.error (x,l,c))):=Lq7 (by unfold readL;rw[Hl.out];simp only[bN.out,hm]);refine leaves_cons (f:=16) (args:=#[G (E ⟨w.heap.size,0,C⟩),G (E ⟨w.heap.size+1,0,C⟩),G (E ⟨w.heap.size+1+1,0,C⟩)]) (by simp) (by simp[go_sem]) ?_;refine(S3 w W6 _ _ _ _ _ _ _ _ x l c H6.out).mono ?_;rintro e u w2 ⟨rfl,rfl,h2⟩;obtain⟨r0,r1,r2,r3,r4,r5,r6,r7,r8,r9,bQ⟩:=Aa h2.a;obtain⟨b0,b1⟩:=Du h2.b;obtain⟨c0,c1,c2,c3,c4⟩:=Bc h2.c;refine⟨.tuple #[.agg zeroNode,A B x,.agg #[A B l,A B c]],by simp[zeroNode,results,Tryz.results6,go_sem,r1,r2,r3,r4,r5,b0,c1,c2],?_⟩;refine⟨h2.below,?_⟩;rw[Hr.out]
 | ok x ts' dp'=>
  have hq':PP bp en (VRow W5.heap.size) (.ok x ts' dp') W5 e W6:=(by rw[<-hm];exact⟨aW,hq⟩);obtain⟨-,-,v,rfl,a2,aB,rfl,aG⟩:=hq';have Hr:Hid (readL s.data.toList=E (.ok (.mk 1 ⟨#[]⟩ 1 1 x))):=Lq7 (by unfold readL;rw[Hl.out];simp only[bN.out,hm]);have aY:=Lq7 aG;go_wp2_with fail;refine hKx _ _ (fun _=>aM.out) ?_;(try simp only[gX,aP]);have bR:=Lq7 (Fp 1 ⟨0,⟨#[]⟩,1,1⟩ ⟨#[]⟩ a2 x.length aB W6);unfold tokV Jb at bR;refine Ad rfl (fun Ky hKy=>?_);go_wp2_with fail;refine bR.out.mono ?_;rintro e W7 ⟨rfl,bJ⟩;have H7:=Lq7 (H6.out.later bJ);have aZ:=Lq7 ((bJ.block _ (agS.1 aM.out).1).trans aM.out);have bA:=Lq7 (aY.out.below bJ);go_wp2_with fail;refine hKy _ _ (fun _=>aZ.out) ?_;(try simp only[gX,aP]);obtain⟨r0,r1,r2,r3,r4,r5,r6,r7,r8,r9,bQ⟩:=Aa H7.out.a;refine Ad rfl (fun Kz hKz=>?_);go_wp2_with fail;have H8:=Lq7 (H7.out.setA (A B 1) (D ⟨#[]⟩) (A B 1) (A B 1) (F a2 x.length aB));have aN:=Lq7 ((Dv (W:=W7) (b:=w.heap.size) (k:=bp+1) (by omega) (A B 1) (D ⟨#[]⟩) (A B 1) (A B 1) (F a2 x.length aB)).trans aZ.out);have aD:Hid (Af (fun b=>w.heap.size+3<=b) (((((W7.setCell ⟨w.heap.size,0,C⟩ (A B 1)).setCell ⟨w.heap.size,1,C⟩ (D ⟨#[]⟩)).setCell ⟨w.heap.size,2,C⟩ (A B 1)).setCell ⟨w.heap.size,3,C⟩ (A B 1)).setCell ⟨w.heap.size,4,C⟩ (F a2 x.length aB)) a2 (Au x)):=Lq7 (bA.out.mono fun b hb hl=>⟨by omega,by simpa using hl,Dv (by omega) _ _ _ _ _⟩);refine hKz _ _ (fun _=>aN.out) ?_;generalize wsC _ _ _=W8 at H8 aN aD |-;(try simp only[gX,aP]);obtain⟨b0,b1⟩:=Du H8.out.b;refine Ad rfl (fun Ku hKu=>?_);go_wp2_with fail;have H9:=Lq7 (H8.out.setB 0);have aQ:=Lq7 ((Ae (w:=W8) (b:=w.heap.size+1) (k:=bp+1) (by omega) 0 (A B 0)).trans aN.out);have aE:Hid (Af (fun b=>w.heap.size+3<=b) (W8.setCell ⟨w.heap.size+1,0,C⟩ (A B 0)) a2 (Au x)):=Lq7 (aD.out.mono fun b hb hl=>⟨hb,by simpa using hl,Ae (by omega) _ _⟩);refine hKu _ _ (fun _=>aQ.out) ?_;generalize wsC _ _ _=W9 at H9 aQ aE |-;(try simp only[gX,aP]);obtain⟨c0,c1,c2,c3,c4⟩:=Bc H9.out.c;refine Ad rfl (fun Kv hKv=>?_);go_wp2_with fail;have Ha:=Lq7 (H9.out.setC 0 0);have bB:=Lq7 (((Ae (w:=W9.setCell ⟨w.heap.size+1+1,0,C⟩ (A B 0)) (b:=w.heap.size+1+1) (k:=bp+1) (by omega) 1 (A B 0)).trans (Ae (by omega) 0 (A B 0))).trans aQ.out);have aF:Hid (Af (fun b=>w.heap.size+3<=b) ((W9.setCell ⟨w.heap.size+1+1,0,C⟩ (A B 0)).setCell ⟨w.heap.size+1+1,1,C⟩ (A B 0)) a2 (Au x)):=Lq7 (aE.out.mono fun b hb hl=>⟨hb,by simpa using hl,by rw[Ae (by omega),Ae (by omega)]⟩);refine hKv _ _ (fun _=>bB.out) ?_;generalize wsC _ _ _=Wa at Ha bB aF |-;refine Ay ?_;(try simp only[gX,aP]);go_wp2_with fail;refine leaves_cons (f:=16) (args:=#[G (E ⟨w.heap.size,0,C⟩),G (E ⟨w.heap.size+1,0,C⟩),G (E ⟨w.heap.size+1+1,0,C⟩)]) (by simp) (by simp[go_sem]) ?_;refine(U4 w Wa _ _ _ _ Ha.out).mono ?_;rintro e u w2 ⟨rfl,rfl,h2,hb2⟩;obtain⟨r0,r1,r2,r3,r4,r5,r6,r7,r8,r9,bQ⟩:=Aa h2.a;obtain⟨b0,b1⟩:=Du h2.b;obtain⟨c0,c1,c2,c3,c4⟩:=Bc h2.c;refine⟨.tuple #[.agg #[A B 1,D ⟨#[]⟩,A B 1,A B 1,F a2 x.length aB],A B 0,.agg #[A B 0,A B 0]],by simp[results,Tryz.results6,go_sem,r1,r2,r3,r4,r5,b0,c1,c2],?_⟩;refine⟨h2.below,?_⟩;rw[Hr.out];exact⟨_,rfl,A2.mk _ _ _ _ _ ((aF.out.below hb2).wider (fun b hb _=>by omega))⟩
theorem Mr(s w)(hs:s.size<=9223372036854775807)(hw:Lg w)(hne:readL s.data.toList≠C):
  Calls Tryz.prog 6 #[D s] w (PRead s w):=by
 cases hl:G1 s.data.toList with
 | error x=>exact read_lex s w hs hw x hl
 | ok ts=>exact read_ok s w hs hw ts hl hne
end Go.Proofs.YtlbbbapiklendaaGreatDoor
