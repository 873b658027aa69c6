/-
  The chapter's example "rule copy(src: files) {}",in plain words:its tree;neither name is taken. (And what it stands on.)
-/
import Derived.Test.YtlbbbapiklendaaGreatDoorMSameG
import Derived.Test.YtlbbbapiklendaaGreatDoorMPathCut
import Derived.Test.YtlbbbapiklendaaGreatDoorMEvalPlain
namespace Go.Proofs.YtlbbbapiklendaaGreatDoor
open Go.IntKind renaming i64->E
open Go.Value renaming int->D,string->A,slice->C
open Option renaming some->B
open Go Go.RowKit
open List renaming getElem?_map->lgP,getElem?_eq_getElem->lgE,getElem?_eq_some_iff->lgS
open Go.Lib renaming hid->Lq7,toList_data->Lq8
open Go.RowKit.Below renaming refl->bRf
open Nat renaming le_refl->nlr,lt_of_lt_of_le->nll,zero_le->nlz
set_option maxRecDepth 100000
set_option maxHeartbeats 16000000
structure AttrP where
 name:ByteArray
 type:Int
 must:Bool
 dflt:Vl
def Eb(a b:ByteArray):Bool:=a.data.toList==b.data.toList
def idxA(l:List AttrP)(s:ByteArray):Option Nat:=l.findIdx? fun a=>Eb a.name s
def Po(t:Int)(v:Vl):Bool:=Am v&&(if t=1 then v.kind==3 else if t=2 then v.kind==1 else if t=3 then v.kind==2 else if t=4\/t=5\/t=6 then(Cc v).isSome else false)
structure TargetP where
 label:LabelP
 rule:ByteArray
 vals:List (ByteArray×Vl)
 deps:List LabelP
 seen:List ByteArray
def J4(a:AttrP):List Dat:=.one (A a.name) :: .one (D E a.type) :: .one (.bool a.must)::valD a.dflt
def C0(l:List AttrP):List (List Dat):=l.map J4
theorem Z1(a):(J4 a).length=8:=by simp[J4,valD_len]
theorem Jp(l):(C0 l).length=l.length:=by simp[C0]
section
variable {F:Nat->Prop} {w:World}
theorem Ai.attr{nm:ByteArray}{ty:Int}{mu:Bool}{k n:Int}{s:ByteArray}{l:List Vl}{ks:List ByteArray}{cs:List Value}(h:Ai F w (J4 ⟨nm,ty,mu,.mk k n s l ks⟩) cs):
  ∃a c a' c',cs=[A nm,D E ty,.bool mu,D E k,D E n,A s,C a l.length c,C a' ks.length c']/\Ac F w a (Ar l)/\Ac F w a' (Bn ks):=by
 obtain⟨c0,cs0,rfl,h0,g1⟩:=Ai.cons_inv (d:=.one (A nm)) (ds:=.one (D E ty) :: .one (.bool mu)::valD (.mk k n s l ks)) h;obtain⟨c1,cs1,rfl,h1,g2⟩:=g1.cons_inv;obtain⟨c2,cs2,rfl,h2,g3⟩:=g2.cons_inv;obtain rfl:=h0.one_inv;obtain rfl:=h1.one_inv;obtain rfl:=h2.one_inv;obtain⟨a,c,a',c',rfl,h1,h2⟩:=Ai.val g3;exact⟨a,c,a',c',rfl,h1,h2⟩
theorem Ai.attr_mk(nm:ByteArray)(ty:Int)(mu:Bool)(k n:Int)(s:ByteArray){l:List Vl}{ks:List ByteArray}{a a':Option Addr}(c c':Nat)(h:Ac F w a (Ar l))(h':Ac F w a' (Bn ks)):
  Ai F w (J4 ⟨nm,ty,mu,.mk k n s l ks⟩) [A nm,D E ty,.bool mu,D E k,D E n,A s,C a l.length c,C a' ks.length c']:=
 .cons (.one _) (.cons (.one _) (.cons (.one _) (Ai.val_mk k n s c c' h h')))
theorem Ac.attr{a:Option Addr}{l:List AttrP}(h:Ac F w a (C0 l)){j:Nat}{nm:ByteArray}{ty:Int}{mu:Bool}{k n:Int}{s:ByteArray}{m:List Vl}{ks:List ByteArray}(hj:l[j]? = B ⟨nm,ty,mu,.mk k n s m ks⟩):
  ∃b off a1 c1 a2 c2,a=B ⟨b,off,none⟩/\F b/\b<w.heap.size/\w.cell? ⟨b,off+j*8,none⟩=B (A nm)/\w.cell? ⟨b,off+j*8+1,none⟩=B (D E ty)/\w.cell? ⟨b,off+j*8+2,none⟩=B (.bool mu) /\
   w.cell? ⟨b,off+j*8+3,none⟩=B (D E k)/\w.cell? ⟨b,off+j*8+4,none⟩=B (D E n)/\w.cell? ⟨b,off+j*8+5,none⟩=B (A s) /\
   w.cell? ⟨b,off+j*8+6,none⟩=B (C a1 m.length c1)/\w.cell? ⟨b,off+j*8+7,none⟩=B (C a2 ks.length c2)/\Ac F w a1 (Ar m)/\Ac F w a2 (Bn ks):=by
 obtain⟨b,off,cs,ha,hF,hb,hd,hc⟩:=h j (J4 ⟨nm,ty,mu,.mk k n s m ks⟩) (by rw[C0,lgP,hj];rfl);obtain⟨a1,c1,a2,c2,rfl,hr,hr'⟩:=Ai.attr hd;rw[Z1] at hc;exact⟨b,off,a1,c1,a2,c2,ha,hF,hb,hc 0 _ rfl,hc 1 _ rfl,hc 2 _ rfl,hc 3 _ rfl,hc 4 _ rfl,hc 5 _ rfl,hc 6 _ rfl,hc 7 _ rfl,hr,hr'⟩
end
theorem Xd(s w)(hw:StdB w)(hs:s.size<4294967000):
  Calls Tryz.prog 100 #[A s] w (Tw (E0 s.data.toList) w):=by
 obtain⟨m,hm⟩:=hw;have hz:(⟨takenT.toArray⟩:ByteArray).size<4294967281:=by
  show takenT.toArray.size<_;rw[List.size_toArray];have:takenT.length=113:=(by kernel_rfl);omega
 have HC:=Lq7 (Tryz.strings_Contains ⟨takenT.toArray⟩ (⟨#[32]⟩++s++⟨#[32]⟩) m w hz hm);clear hz;have H:Hid (Lib.contains (⟨takenT.toArray⟩:ByteArray).data.toList (⟨#[32]⟩++s++⟨#[32]⟩:ByteArray).data.toList=E0 s.data.toList):=Lq7 (by
  rw[Tj];unfold E0;rw[ByteArray.data_append,ByteArray.data_append,Array.toList_append,Array.toList_append];rfl)
 clear hm;go_enter Tryz.func100,Tryz.ntmps100;go_wp2_with fail;refine HC.out.mono ?_;rintro e w2 ⟨rfl,rfl⟩;go_wp2_with fail;go_ret;exact⟨A0 H.out,bRf _ _⟩
theorem fits_any(t k n s l ks)(hs:Ay (.mk k n s l ks))(F a1 c1 a2 c2 w)(hF:∀b,F b->b<w.heap.size)(hr1:Ac F w a1 (Ar l))(hr2:Ac F w a2 (Bn ks)):
  Calls Tryz.prog 155 #[D E t,.agg #[D E k,D E n,A s,C a1 l.length c1,C a2 ks.length c2]] w (Tw (Po t (.mk k n s l ks)) w):=by
 have aJ:Below w.heap.size w (w.alloc (.cells #[D E k,D E n,A s,C a1 l.length c1,C a2 ks.length c2] 53)):=(bRf _ w).alloc (nlr _) _;have H0:=Lq7 (heap_alloc_new w (.cells #[D E k,D E n,A s,C a1 l.length c1,C a2 ks.length c2] 53));have aE:=Lq7 (Ep (.mk k n s l ks) hs F a1 c1 a2 c2 _ (fun b hb=>nll (hF b hb) aJ.size) (hr1.below aJ) (hr2.below aJ));have aD:=Lq7 aJ;have HF:=Lq7 hF;have aG:=Lq7 (hr1.below aJ);have aH:=Lq7 (hr2.below aJ);have Hs:=Lq7 hs;unfold A4 at aE;have aC:Po t (.mk k n s l ks)=(Am (.mk k n s l ks)&&(if t=1 then k==3 else if t=2 then k==1 else if t=3 then k==2 else if t=4\/t=5\/t=6 then(Cc (.mk k n s l ks)).isSome else false)):=rfl;cases hck:Am (.mk k n s l ks) with
 | false=>
  rw[hck,Bool.false_and] at aC;have Hf:=Lq7 aC;rw[hck] at aE;go_enter Tryz.func155,Tryz.ntmps155;go_wp2_with fail;refine aE.out.mono ?_;rintro e w1 ⟨rfl,aA⟩;have aB:=Lq7 (aD.out.trans (aA.mono aD.out.size));go_wp2_with fail;go_ret;exact⟨A0 Hf.out.symm,aB.out⟩
 | true=>
  rw[hck,Bool.true_and] at aC;rw[hck] at aE;by_cases h1:t=1
  ·subst h1;rw[if_pos rfl] at aC;have Hf:=Lq7 aC;go_enter Tryz.func155,Tryz.ntmps155;go_wp2_with fail;refine aE.out.mono ?_;rintro e w1 ⟨rfl,aA⟩;have aB:=Lq7 (aD.out.trans (aA.mono aD.out.size));have H1:=Lq7 (stays H0.out aA);have Ht:=Lq7 (Cw k n s l ks Hs.out F a1 c1 a2 c2 w1 (fun b hb=>nll (HF.out b hb) aB.out.size) (aG.out.below aA) (aH.out.below aA));obtain⟨q0,q1,q2,q3,q4,q5,q6,q7,q8,q9,aM⟩:=Aa H1.out;go_wp2_with fail;go_ret;exact⟨A0 Hf.out.symm,aB.out⟩
  by_cases h2:t=2
  ·subst h2;rw[if_neg (by decide),if_pos rfl] at aC;have Hf:=Lq7 aC;go_enter Tryz.func155,Tryz.ntmps155;go_wp2_with fail;refine aE.out.mono ?_;rintro e w1 ⟨rfl,aA⟩;have aB:=Lq7 (aD.out.trans (aA.mono aD.out.size));have H1:=Lq7 (stays H0.out aA);have Ht:=Lq7 (Cw k n s l ks Hs.out F a1 c1 a2 c2 w1 (fun b hb=>nll (HF.out b hb) aB.out.size) (aG.out.below aA) (aH.out.below aA));obtain⟨q0,q1,q2,q3,q4,q5,q6,q7,q8,q9,aM⟩:=Aa H1.out;go_wp2_with fail;go_ret;exact⟨A0 Hf.out.symm,aB.out⟩
  by_cases h3:t=3
  ·subst h3;rw[if_neg (by decide),if_neg (by decide),if_pos rfl] at aC;have Hf:=Lq7 aC;go_enter Tryz.func155,Tryz.ntmps155;go_wp2_with fail;refine aE.out.mono ?_;rintro e w1 ⟨rfl,aA⟩;have aB:=Lq7 (aD.out.trans (aA.mono aD.out.size));have H1:=Lq7 (stays H0.out aA);have Ht:=Lq7 (Cw k n s l ks Hs.out F a1 c1 a2 c2 w1 (fun b hb=>nll (HF.out b hb) aB.out.size) (aG.out.below aA) (aH.out.below aA));obtain⟨q0,q1,q2,q3,q4,q5,q6,q7,q8,q9,aM⟩:=Aa H1.out;go_wp2_with fail;go_ret;exact⟨A0 Hf.out.symm,aB.out⟩
  rw[if_neg h1,if_neg h2,if_neg h3] at aC;by_cases h4:t=4
  ·subst h4;rw[if_pos (by decide)] at aC;have Hf:=Lq7 aC;go_enter Tryz.func155,Tryz.ntmps155;go_wp2_with fail;refine aE.out.mono ?_;rintro e w1 ⟨rfl,aA⟩;have aB:=Lq7 (aD.out.trans (aA.mono aD.out.size));have H1:=Lq7 (stays H0.out aA);have Ht:=Lq7 (Cw k n s l ks Hs.out F a1 c1 a2 c2 w1 (fun b hb=>nll (HF.out b hb) aB.out.size) (aG.out.below aA) (aH.out.below aA));obtain⟨q0,q1,q2,q3,q4,q5,q6,q7,q8,q9,aM⟩:=Aa H1.out;go_wp2_with fail;refine Ht.out.mono ?_;rintro e w2 ⟨aN,hq⟩;have aF:=Lq7 (aB.out.trans (aN.mono aB.out.size));cases hx:Cc (.mk k n s l ks) with
   | none=>
    rw[hx] at hq Hf;obtain rfl:=hq;go_wp2_with fail;go_ret;exact⟨A0 Hf.out.symm,aF.out⟩
   | some l2=>
    rw[hx] at hq Hf;obtain⟨x,rfl,-⟩:=hq;go_wp2_with fail;go_ret;exact⟨A0 Hf.out.symm,aF.out⟩
  by_cases h5:t=5
  ·subst h5;rw[if_pos (by decide)] at aC;have Hf:=Lq7 aC;go_enter Tryz.func155,Tryz.ntmps155;go_wp2_with fail;refine aE.out.mono ?_;rintro e w1 ⟨rfl,aA⟩;have aB:=Lq7 (aD.out.trans (aA.mono aD.out.size));have H1:=Lq7 (stays H0.out aA);have Ht:=Lq7 (Cw k n s l ks Hs.out F a1 c1 a2 c2 w1 (fun b hb=>nll (HF.out b hb) aB.out.size) (aG.out.below aA) (aH.out.below aA));obtain⟨q0,q1,q2,q3,q4,q5,q6,q7,q8,q9,aM⟩:=Aa H1.out;go_wp2_with fail;refine Ht.out.mono ?_;rintro e w2 ⟨aN,hq⟩;have aF:=Lq7 (aB.out.trans (aN.mono aB.out.size));cases hx:Cc (.mk k n s l ks) with
   | none=>
    rw[hx] at hq Hf;obtain rfl:=hq;go_wp2_with fail;go_ret;exact⟨A0 Hf.out.symm,aF.out⟩
   | some l2=>
    rw[hx] at hq Hf;obtain⟨x,rfl,-⟩:=hq;go_wp2_with fail;go_ret;exact⟨A0 Hf.out.symm,aF.out⟩
  by_cases h6:t=6
  ·subst h6;rw[if_pos (by decide)] at aC;have Hf:=Lq7 aC;go_enter Tryz.func155,Tryz.ntmps155;go_wp2_with fail;refine aE.out.mono ?_;rintro e w1 ⟨rfl,aA⟩;have aB:=Lq7 (aD.out.trans (aA.mono aD.out.size));have H1:=Lq7 (stays H0.out aA);have Ht:=Lq7 (Cw k n s l ks Hs.out F a1 c1 a2 c2 w1 (fun b hb=>nll (HF.out b hb) aB.out.size) (aG.out.below aA) (aH.out.below aA));obtain⟨q0,q1,q2,q3,q4,q5,q6,q7,q8,q9,aM⟩:=Aa H1.out;go_wp2_with fail;refine Ht.out.mono ?_;rintro e w2 ⟨aN,hq⟩;have aF:=Lq7 (aB.out.trans (aN.mono aB.out.size));cases hx:Cc (.mk k n s l ks) with
   | none=>
    rw[hx] at hq Hf;obtain rfl:=hq;go_wp2_with fail;go_ret;exact⟨A0 Hf.out.symm,aF.out⟩
   | some l2=>
    rw[hx] at hq Hf;obtain⟨x,rfl,-⟩:=hq;go_wp2_with fail;go_ret;exact⟨A0 Hf.out.symm,aF.out⟩
  ·rw[if_neg (by rintro(h|h|h);exact h4 h;exact h5 h;exact h6 h)] at aC;have Hf:=Lq7 aC;have e1:(t==1)=false:=(by simpa using h1);have e2:(t==2)=false:=(by simpa using h2);have e3:(t==3)=false:=(by simpa using h3);have e4:(t==4)=false:=(by simpa using h4);have e5:(t==5)=false:=(by simpa using h5);have e6:(t==6)=false:=(by simpa using h6);go_enter Tryz.func155,Tryz.ntmps155;go_wp2_with fail;refine aE.out.mono ?_;rintro e w1 ⟨rfl,aA⟩;have aB:=Lq7 (aD.out.trans (aA.mono aD.out.size));have H1:=Lq7 (stays H0.out aA);have Ht:=Lq7 (Cw k n s l ks Hs.out F a1 c1 a2 c2 w1 (fun b hb=>nll (HF.out b hb) aB.out.size) (aG.out.below aA) (aH.out.below aA));obtain⟨q0,q1,q2,q3,q4,q5,q6,q7,q8,q9,aM⟩:=Aa H1.out;go_wp2_with fail;go_ret;exact⟨A0 Hf.out.symm,aB.out⟩
def Qf(l:List AttrP)(s:ByteArray):Int:=match idxA l s with|some i=>(i:Int)|none=> -1
theorem Aa1{l s}(h:∀(j:Nat) (a:AttrP),l[j]? = B a->Eb a.name s=false):Qf l s = -1:=by
 have:idxA l s=none:=by
  unfold idxA;rw[List.findIdx?_eq_none_iff];intro x hx;obtain⟨j,hj⟩:=List.getElem?_of_mem hx;exact h j x hj
 unfold Qf;rw[this]
theorem Aa2{l s k a}(hk:l[k]? = B a)(ha:Eb a.name s=true)(h:∀(j:Nat) (a:AttrP),j<k->l[j]? = B a->Eb a.name s=false):Qf l s=k:=by
 have:idxA l s=B k:=by
  unfold idxA;rw[List.findIdx?_eq_some_iff_getElem];obtain⟨h1,h2⟩:=lgS.1 hk;refine⟨h1,by rw[h2];exact ha,fun j hj=>?_⟩;have:=h j _ hj (lgE (Nat.lt_trans hj h1))
  simpa using this
 unfold Qf;rw[this]
theorem Yb(nm ty mu k n s a1 l1 c1 a2 l2 c2 name bn w)(hn:w.heap[bn]? = B (.cells #[A name] 9 (0,0))):
  Calls Tryz.prog 179 #[.agg #[A nm,D E ty,.bool mu,D E k,D E n,A s,C a1 l1 c1,C a2 l2 c2],.pointer (B ⟨bn,0,none⟩)] w (fun e w'=>e = .returned (.bool (Eb nm name))/\Below w.heap.size w w'):=by
 have H:Hid (Eb nm name=(nm.toList==name.toList)):=Lq7 (by unfold Eb;rw[Lq8,Lq8]);obtain⟨s0,s1⟩:=Bj hn;go_enter Tryz.func179,Tryz.ntmps179;go_wp2_with fail;go_ret;exact⟨A0 H.out.symm,(bRf _ w).alloc (nlr _) _⟩
theorem Qg(F a cap l name bn w)(hl:l.length<=140737488355328)(hr:Ac F w a (C0 l))(hn:w.heap[bn]? = B (.cells #[A name] 9 (0,0))):
  Calls Tryz.prog 178 #[C a l.length cap,.func (.func 179) #[] #[.pointer (B ⟨bn,0,none⟩)]] w (fun e w'=>e = .returned (D E (Qf l name))/\Below w.heap.size w w'):=by
 have eg:∀args w,(callFunc 179 args).run Tryz.prog w = .ok (.enter 179 args) w:=enters_of Tryz.func179 (by kernel_rfl) rfl;have Hr:=Lq7 hr;have Hn:=Lq7 hn;go_enter Tryz.func178,Tryz.ntmps178;go_wp2
 go_loopw [8] (fun i wr=>∃k:Nat,i = D E k/\k<=l.length/\Hid (Below w.heap.size w wr)/\Hid (∀(j:Nat) (a:AttrP),j<k->l[j]? = B a->Eb a.name name=false)) (fun i _=>l.length-(intOf i).toNat)
 case atStart=>exact⟨0,rfl,nlz _,Lq7 (bRf _ _),Lq7 fun j a h=>absurd h (Nat.not_lt_zero _)⟩
 case round=>
  obtain⟨k,rfl,hk,hb,hq⟩:=hrel;by_cases hlt:k<l.length
  ·have aA:l[k]? = B l[k]:=lgE hlt;generalize l[k]=x at aA;obtain⟨nm,ty,mu,⟨vk,vn,vs,vl,vks⟩⟩:=x;obtain⟨b,off,a1,c1,a2,c2,rfl,hF,hbl,r0,r1,r2,r3,r4,r5,r6,r7,-,-⟩:=(Hr.out.below hb.out).attr aA;have HC:=Lq7 (Yb nm ty mu vk vn vs a1 vl.length c1 a2 vks.length c2 name bn wr (stays Hn.out hb.out));have Hj:=Lq7 aA;cases hs:Eb nm name
   ·have Hs:=Lq7 hs;rw[hs] at HC;go_wp2_with fail;refine HC.out.mono ?_;rintro e w2 ⟨rfl,aB⟩;have aC:=Lq7 (hb.out.trans (aB.mono hb.out.size));have Hq2:Hid (∀(j:Nat) (a:AttrP),j<k+1->l[j]? = B a->Eb a.name name=false):=Lq7 (by
     intro j a hj aD;by_cases h:j=k
     ·subst h;rw[Hj.out] at aD;cases aD;exact Hs.out
     ·exact hq.out j a (by omega) aD)
    go_wp2;go_roundw
    case rel=>exact⟨k+1,by go_num,by omega,aC,Hq2⟩
    case measure=>simp only[intOf];omega
   ·have Hs:=Lq7 hs;rw[hs] at HC;go_wp2_with fail;refine HC.out.mono ?_;rintro e w2 ⟨rfl,aB⟩;have aC:=Lq7 (hb.out.trans (aB.mono hb.out.size));go_wp2;go_ret;exact⟨O8 (Aa2 Hj.out Hs.out hq.out).symm,aC.out⟩
  ·obtain rfl:k=l.length:=(by omega);go_wp2;go_ret;exact⟨O8 (Aa1 fun j a hj=>hq.out j a (lgS.1 hj).1 hj).symm,hb.out⟩
theorem Aa3(F a cap l name w)(hl:l.length<=140737488355328)(hr:Ac F w a (C0 l)):
  Calls Tryz.prog 153 #[C a l.length cap,A name] w (fun e w'=>e = .returned (D E (Qf l name))/\Below w.heap.size w w'):=by
 have aE:Below w.heap.size w (w.alloc (.cells #[A name] 9)):=(bRf _ w).alloc (nlr _) _;have HC:=Lq7 (Qg F a cap l name w.heap.size _ hl (hr.below aE) (heap_alloc_new w (.cells #[A name] 9)));have aF:=Lq7 aE;go_enter Tryz.func153,Tryz.ntmps153;go_wp2_with fail;refine HC.out.mono ?_;rintro e w1 ⟨rfl,hb1⟩;have Hb1:=Lq7 (aF.out.trans (hb1.mono aF.out.size));go_wp2_with fail;go_ret;exact⟨rfl,Hb1.out⟩
def fileD(f:ByteArray×ByteArray):List Dat:=[.one (A f.1),.one (A f.2)]
def Of(l:List (ByteArray×ByteArray)):List (List Dat):=l.map fileD
theorem Ac.file{F w a l}(h:Ac F w a (Of l)){j p d}(hj:l[j]? = B (p,d)):
  ∃b off,a=B ⟨b,off,none⟩/\F b/\b<w.heap.size/\w.cell? ⟨b,off+j*2,none⟩=B (A p)/\w.cell? ⟨b,off+j*2+1,none⟩=B (A d):=by
 obtain⟨b,off,cs,ha,hF,hb,hd,hc⟩:=h j (fileD (p,d)) (by rw[Of,lgP,hj];rfl);obtain⟨c0,cs',rfl,h0,h'⟩:=Ai.cons_inv (d:=.one (A p)) (ds:=[.one (A d)]) hd;obtain⟨c1,cs'',rfl,h1,-⟩:=Ai.cons_inv (d:=.one (A d)) (ds:=[]) h';obtain rfl:=h0.one_inv;obtain rfl:=h1.one_inv;exact⟨b,off,ha,hF,hb,hc 0 _ rfl,hc 1 _ rfl⟩
def getL:List (ByteArray×ByteArray)->ByteArray->Option ByteArray
 | [],_=>none
 | f::t,p=>if f.1.data.toList==p.data.toList then B f.2 else getL t p
theorem Og{p}:∀{l:List (ByteArray×ByteArray)} {j:Nat},(∀k q,k<j->l[k]? = B q->(q.1.data.toList==p.data.toList)=false)->getL l p=getL (l.drop j) p
 | [],j,_=>by simp
 | f::t,0,_=>rfl
 | f::t,j+1,h=>by
  rw[getL,if_neg (by rw[h 0 f (by omega) rfl];decide),List.drop_succ_cons];exact Og fun k q hk hq=>h (k+1) q (by omega) (by simpa using hq)
theorem getF_any(q d p bn w)(hn:w.heap[bn]? = B (.cells #[A p] 9 (0,0))):
  Calls Tryz.prog 99 #[.agg #[A q,A d],.pointer (B ⟨bn,0,none⟩)] w (fun e w'=>e = .returned (.bool (q.data.toList==p.data.toList))/\Below w.heap.size w w'):=by
 obtain⟨s0,s1⟩:=Bj hn;have Hq:Hid ((q.toList==p.toList)=(q.data.toList==p.data.toList)):=Lq7 (by rw[Lq8,Lq8]);go_enter Tryz.func99,Tryz.ntmps99;go_wp2_with fail;go_ret;exact⟨by rw[<-Hq.out];rfl,(bRf _ w).alloc (nlr _) _⟩
theorem Ud(F l a cap p bn w)(hr:Ac F w a (Of l))(hn:w.heap[bn]? = B (.cells #[A p] 9 (0,0)))(hlen:l.length<=140737488355328):
  Calls Tryz.prog 98 #[C a l.length cap,.func (.func 99) #[] #[.pointer (B ⟨bn,0,none⟩)]] w (fun e w'=>Below w.heap.size w w' /\
   ((e = .returned (D E (-1))/\getL l p=none)\/∃(j:Nat) (d:ByteArray) (q:ByteArray),e = .returned (D E j)/\l[j]? = B (q,d)/\getL l p=B d)):=by
 have eg:∀args w,(callFunc 99 args).run Tryz.prog w = .ok (.enter 99 args) w:=enters_of Tryz.func99 (by kernel_rfl) rfl;have Hr:=Lq7 hr;have Hn:=Lq7 hn;clear hr hn;go_enter Tryz.func98,Tryz.ntmps98;go_wp2_with fail
 go_loopw [8] (fun i wr=>∃j:Nat,i = D E j/\j<=l.length/\Hid (Below w.heap.size w wr)/\Hid (∀k q,k<j->l[k]? = B q->(q.1.data.toList==p.data.toList)=false)) (fun i _=>l.length-(intOf i).toNat)
 case atStart=>exact⟨0,rfl,nlz _,Lq7 (bRf _ w),Lq7 (fun k q hk _=>absurd hk (Nat.not_lt_zero k))⟩
 case round=>
  obtain⟨j,rfl,hj,aC,aB⟩:=hrel;by_cases aH:j<l.length
  ·cases hx:l[j] with
   | mk q d=>
    have aE:l[j]? = B (q,d):=(by rw[lgE aH,hx]);obtain⟨b,off,aF,hF,hbl,r0,r1⟩:=(Hr.out.below aC.out).file aE;have HG:=Lq7 (getF_any q d p bn wr (stays Hn.out aC.out));have aD:=Lq7 aE;clear aE hx hF;subst aF;go_wp2_with fail;refine HG.out.mono ?_;rintro e w2 ⟨rfl,aJ⟩;have aM:=Lq7 (aC.out.trans (aJ.mono aC.out.size));clear aJ HG r0 r1;cases hq:q.data.toList==p.data.toList
    ·have Hne:Hid (∀k x,k<j+1->l[k]? = B x->(x.1.data.toList==p.data.toList)=false):=Lq7 (fun k x hk hx=>by
      rcases Nat.lt_succ_iff_lt_or_eq.1 hk with h|h
      ·exact aB.out k x h hx
      ·subst h;rw[aD.out] at hx;cases hx;exact hq)
     clear hq aB aD;go_wp2_with fail;go_roundw
     case rel=>exact⟨j+1,by go_num,by omega,aM,Hne⟩
     case measure=>simp only[intOf];omega
    ·have aA:Hid (getL l p=B d):=Lq7 (by
      rw[Og aB.out,List.drop_eq_getElem_cons (lgS.1 aD.out).1,(lgS.1 aD.out).2,getL,if_pos hq])
     clear hq aB;go_wp2_with fail;go_ret;exact⟨aM.out,.inr ⟨j,d,q,rfl,aD.out,aA.out⟩⟩
  ·have aA:Hid (getL l p=none):=Lq7 (by rw[Og aB.out,List.drop_eq_nil_of_le (by omega)];rfl);clear aB;go_wp2_with fail;go_ret;exact⟨aC.out,.inl ⟨rfl,aA.out⟩⟩
theorem Ue(F l a cap p w)(hr:Ac F w a (Of l))(hlen:l.length<=140737488355328):
  Calls Tryz.prog 50 #[C a l.length cap,A p] w (fun e w'=>e = .returned (.tuple #[A ((getL l p).getD ⟨#[]⟩),.bool (getL l p).isSome])/\Below w.heap.size w w'):=by
 have aG:Below w.heap.size w (w.alloc (.cells #[A p] 9)):=(bRf _ w).alloc (nlr _) _;have HI:=Lq7 (Ud F l a cap p w.heap.size _ (hr.below aG) (heap_alloc_new w (.cells #[A p] 9)) hlen);have Hr:=Lq7 (hr.below aG);have aN:=Lq7 aG;go_enter Tryz.func50,Tryz.ntmps50;go_wp2_with fail;refine HI.out.mono ?_;rintro e w1 ⟨aQ,hq⟩;have aR:=Lq7 (aN.out.trans (aQ.mono aN.out.size));have Hr1:=Lq7 (Hr.out.below aQ);rcases hq with⟨rfl,hg⟩|⟨j,d,q,rfl,hj,hg⟩
 ·have Hg:=Lq7 hg;go_wp2_with fail;refine bodyPost_ret (v:=.tuple #[A ⟨#[]⟩,.bool false]) (by simp[results,Tryz.results50,go_sem]) rfl ?_;rw[Hg.out];exact⟨rfl,aR.out⟩
 ·have aH:=(lgS.1 hj).1;obtain⟨b,off,aF,hF,hbl,r0,r1⟩:=Hr1.out.file hj;have Hg:=Lq7 hg;subst aF;go_wp2_with fail;refine bodyPost_ret (v:=.tuple #[A d,.bool true]) (by simp[results,Tryz.results50,go_sem]) rfl ?_;rw[Hg.out];exact⟨rfl,aR.out⟩
def copyText:ByteArray:=⟨#[114,117,108,101,32,99,111,112,121,40,115,114,99,58,32,102,105,108,101,115,41,32,123,125]⟩
def copyKids:List Nd:=
 [.mk 6 ⟨#[99,111,112,121]⟩ 1 1 [.mk 7 ⟨#[115,114,99]⟩ 1 11 [.mk 9 ⟨#[102,105,108,101,115]⟩ 1 16 []],.mk 8 ⟨#[]⟩ 1 23 []]]
theorem copy_read:readL copyText.data.toList=B (.ok (.mk 1 ⟨#[]⟩ 1 1 copyKids)):=by kernel_rfl
end Go.Proofs.YtlbbbapiklendaaGreatDoor
