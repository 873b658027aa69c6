/-
  What the rules of a text are like:defaults that may be,bodies as the parser reads them. No program in sight. (And what it stands on.)
-/
import Derived.Test.YtkehdallfohjfaaGreatDoorMGreatX
import Derived.Test.YtkehdallfohjfaaGreatDoorMKeysB
import Derived.Test.YtkehdallfohjfaaGreatDoorMHostK
import Derived.Test.YtkehdallfohjfaaGreatDoorMEvalPlain
import Derived.Test.YtkehdallfohjfaaGreatDoorShelf
import Derived.Test.YtkehdallfohjfaaGreatDoorMOwnLow
import Derived.Test.YtkehdallfohjfaaGreatDoorEvC
import Derived.Test.YtkehdallfohjfaaGreatDoorMOpPlain
namespace Go.Proofs.YtkehdallfohjfaaGreatDoor
open Go Go.RowKit
open List renaming getElem?_map->lgP,getElem?_eq_getElem->lgE,getElem?_eq_some_iff->lgS
open Go.Lib renaming hid->Lq7,toList_data->Lq8
open Go.RowKit.Below renaming refl->bRf
open Nat renaming le_refl->nlr,lt_of_lt_of_le->nll,zero_le->nlz
set_option maxRecDepth 100000
set_option maxHeartbeats 16000000
structure AttrP where
 name:ByteArray
 type:Int
 must:Bool
 dflt:Vl
def Dp(a b:ByteArray):Bool:=a.data.toList==b.data.toList
def idxA(l:List AttrP)(s:ByteArray):Option Nat:=l.findIdx? fun a=>Dp a.name s
def Km(t:Int)(v:Vl):Bool:=A7 v&&(if t=1 then v.kind==3 else if t=2 then v.kind==1 else if t=3 then v.kind==2 else if t=4\/t=5\/t=6 then(B2 v).isSome else false)
structure TargetP where
 label:LabelP
 rule:ByteArray
 vals:List (ByteArray×Vl)
 deps:List LabelP
 seen:List ByteArray
def Cg:Ans:=fun _ _=>none
abbrev Flt:=Int×Int×Int
structure RuleP where
 name:ByteArray
 attrs:List AttrP
 body:List Nd
 ln:Int
 cl:Int
def typeL(s:List UInt8):Int:=
 if s=[116,101,120,116] then 1 else if s=[98,111,111,108] then 2 else if s=[105,110,116] then 3 else if s=[116,101,120,116,115] then 4
 else if s=[102,105,108,101,115] then 5 else if s=[108,97,98,101,108,115] then 6 else 0
def Lf(n:Nd)(ty:Int):Except Flt AttrP:=
 match workL Cg (Ff n 1) with
 | .error f=> .error f
 | .ok v=>if Km ty v=true then .ok ⟨n.text,ty,false,v⟩ else .error (9,n.ln,n.cl)
def J0(n:Nd)(ahead:List AttrP):Except Flt AttrP:=
 if Dr n.text.data.toList=true/\¬n.text.data.toList=[110,97,109,101] then .error (7,n.ln,n.cl)
 else if(idxA ahead n.text).isSome=true then .error (8,n.ln,n.cl)
 else if typeL (Ff n 0).text.data.toList=0 then .error (9,(Ff n 0).ln,(Ff n 0).cl)
 else if n.kids.length=1 then .ok ⟨n.text,typeL (Ff n 0).text.data.toList,true,vZero⟩
 else Lf n (typeL (Ff n 0).text.data.toList)
def ownL:List AttrP:=[⟨⟨#[110,97,109,101]⟩,1,true,vZero⟩,⟨⟨#[115,101,101,110]⟩,4,false,.mk 4 0 ⟨#[]⟩ [.mk 3 0 ⟨#[58,104,101,114,101]⟩ [] []] []⟩]
def attrsGo:List Nd->List AttrP->Except Flt (List AttrP)
 | [],acc=> .ok acc
 | p::t,acc=>match J0 p acc with | .error f=> .error f | .ok a=>attrsGo t (acc++[a])
def G7(n:Nd)(ahead:List RuleP):Except Flt RuleP:=
 if ¬n.kind=6 then .error (3,n.ln,n.cl)
 else if Dr n.text.data.toList=true then .error (7,n.ln,n.cl)
 else if(ahead.any fun r=>Dp r.name n.text)=true then .error (8,n.ln,n.cl)
 else match attrsGo n.kids.dropLast ownL with
  | .error f=> .error f
  | .ok l=> .ok ⟨n.text,l,(Ff n (n.kids.length - 1)).kids,n.ln,n.cl⟩
def rulesGo:List Nd->List RuleP->Except Flt (List RuleP)
 | [],acc=> .ok acc
 | n::t,acc=>match G7 n acc with | .error f=> .error f | .ok r=>rulesGo t (acc++[r])
def Gy(s:List UInt8):Except Flt (List RuleP):=
 match readL s with
 | some (.ok n)=>rulesGo n.kids []
 | some (.error f)=> .error f
 | none=> .ok []
def Ig(a:AttrP):List Dat:=.one (.string a.name) :: .one (.int .i64 a.type) :: .one (.bool a.must)::valD a.dflt
def Cz(l:List AttrP):List (List Dat):=l.map Ig
theorem L5(a):(Ig a).length=8:=by simp[Ig,valD_len]
theorem Ev(l):(Cz l).length=l.length:=by simp[Cz]
section
variable {F:Nat->Prop} {w:World}
theorem Ay.attr{nm:ByteArray}{ty:Int}{mu:Bool}{k n:Int}{s:ByteArray}{l:List Vl}{ks:List ByteArray}{cs:List Value}(h:Ay F w (Ig ⟨nm,ty,mu,.mk k n s l ks⟩) cs):
  ∃a c a' c',cs=[.string nm,.int .i64 ty,.bool mu,.int .i64 k,.int .i64 n,.string s,.slice a l.length c,.slice a' ks.length c']/\Ag F w a (A5 l)/\Ag F w a' (Bc ks):=by
 obtain⟨c0,cs0,rfl,h0,g1⟩:=Ay.cons_inv (d:=.one (.string nm)) (ds:=.one (.int .i64 ty) :: .one (.bool mu)::valD (.mk k n s l ks)) h;obtain⟨c1,cs1,rfl,h1,g2⟩:=g1.cons_inv;obtain⟨c2,cs2,rfl,h2,g3⟩:=g2.cons_inv;obtain rfl:=h0.one_inv;obtain rfl:=h1.one_inv;obtain rfl:=h2.one_inv;obtain⟨a,c,a',c',rfl,h1,h2⟩:=Ay.val g3;exact⟨a,c,a',c',rfl,h1,h2⟩
theorem Ay.attr_mk(nm:ByteArray)(ty:Int)(mu:Bool)(k n:Int)(s:ByteArray){l:List Vl}{ks:List ByteArray}{a a':Option Addr}(c c':Nat)(h:Ag F w a (A5 l))(h':Ag F w a' (Bc ks)):
  Ay F w (Ig ⟨nm,ty,mu,.mk k n s l ks⟩) [.string nm,.int .i64 ty,.bool mu,.int .i64 k,.int .i64 n,.string s,.slice a l.length c,.slice a' ks.length c']:=
 .cons (.one _) (.cons (.one _) (.cons (.one _) (Ay.val_mk k n s c c' h h')))
theorem Ag.attr{a:Option Addr}{l:List AttrP}(h:Ag F w a (Cz l)){j:Nat}{nm:ByteArray}{ty:Int}{mu:Bool}{k n:Int}{s:ByteArray}{m:List Vl}{ks:List ByteArray}(hj:l[j]? = some ⟨nm,ty,mu,.mk k n s m ks⟩):
  ∃b off a1 c1 a2 c2,a=some ⟨b,off,none⟩/\F b/\b<w.heap.size/\w.cell? ⟨b,off+j*8,none⟩=some (.string nm)/\w.cell? ⟨b,off+j*8+1,none⟩=some (.int .i64 ty)/\w.cell? ⟨b,off+j*8+2,none⟩=some (.bool mu) /\
   w.cell? ⟨b,off+j*8+3,none⟩=some (.int .i64 k)/\w.cell? ⟨b,off+j*8+4,none⟩=some (.int .i64 n)/\w.cell? ⟨b,off+j*8+5,none⟩=some (.string s) /\
   w.cell? ⟨b,off+j*8+6,none⟩=some (.slice a1 m.length c1)/\w.cell? ⟨b,off+j*8+7,none⟩=some (.slice a2 ks.length c2)/\Ag F w a1 (A5 m)/\Ag F w a2 (Bc ks):=by
 obtain⟨b,off,cs,ha,hF,hb,hd,hc⟩:=h j (Ig ⟨nm,ty,mu,.mk k n s m ks⟩) (by rw[Cz,lgP,hj];rfl);obtain⟨a1,c1,a2,c2,rfl,hr,hr'⟩:=Ay.attr hd;rw[L5] at hc;exact⟨b,off,a1,c1,a2,c2,ha,hF,hb,hc 0 _ rfl,hc 1 _ rfl,hc 2 _ rfl,hc 3 _ rfl,hc 4 _ rfl,hc 5 _ rfl,hc 6 _ rfl,hc 7 _ rfl,hr,hr'⟩
end
theorem Kb(s w)(hw:Gj w)(hs:s.size<4294967000):
  Calls Tryz.prog 59 #[.string s] w (PBelow (Dr s.data.toList) w):=by
 obtain⟨m,hm⟩:=hw;have hz:(⟨takenT.toArray⟩:ByteArray).size<4294967281:=by
  show takenT.toArray.size<_;rw[List.size_toArray];have:takenT.length=113:=(by kernel_rfl);omega
 have HC:=Lq7 (Tryz.strings_Contains ⟨takenT.toArray⟩ (⟨#[32]⟩++s++⟨#[32]⟩) m w hz hm);clear hz;have H:Hid (Lib.contains (⟨takenT.toArray⟩:ByteArray).data.toList (⟨#[32]⟩++s++⟨#[32]⟩:ByteArray).data.toList=Dr s.data.toList):=Lq7 (by
  rw[Nk];unfold Dr;rw[ByteArray.data_append,ByteArray.data_append,Array.toList_append,Array.toList_append];rfl)
 clear hm;go_enter Tryz.func59,Tryz.ntmps59;go_wp2_with fail;refine HC.out.mono ?_;rintro e w2 ⟨rfl,rfl⟩;go_wp2_with fail;go_ret;exact⟨Bs H.out,bRf _ _⟩
theorem fits_any(t k n s l ks)(hs:A4 (.mk k n s l ks))(F a1 c1 a2 c2 w)(hF:∀b,F b->b<w.heap.size)(hr1:Ag F w a1 (A5 l))(hr2:Ag F w a2 (Bc ks)):
  Calls Tryz.prog 111 #[.int .i64 t,.agg #[.int .i64 k,.int .i64 n,.string s,.slice a1 l.length c1,.slice a2 ks.length c2]] w (PBelow (Km t (.mk k n s l ks)) w):=by
 have aI:Below w.heap.size w (w.alloc (.cells #[.int .i64 k,.int .i64 n,.string s,.slice a1 l.length c1,.slice a2 ks.length c2] 25)):=(bRf _ w).alloc (nlr _) _;have H0:=Lq7 (heap_alloc_new w (.cells #[.int .i64 k,.int .i64 n,.string s,.slice a1 l.length c1,.slice a2 ks.length c2] 25));have aE:=Lq7 (Id (.mk k n s l ks) hs F a1 c1 a2 c2 _ (fun b hb=>nll (hF b hb) aI.size) (hr1.below aI) (hr2.below aI));have aD:=Lq7 aI;have HF:=Lq7 hF;have aG:=Lq7 (hr1.below aI);have aH:=Lq7 (hr2.below aI);have Hs:=Lq7 hs;unfold B7 at aE;have aC:Km t (.mk k n s l ks)=(A7 (.mk k n s l ks)&&(if t=1 then k==3 else if t=2 then k==1 else if t=3 then k==2 else if t=4\/t=5\/t=6 then(B2 (.mk k n s l ks)).isSome else false)):=rfl;cases hck:A7 (.mk k n s l ks) with
 | false=>
  rw[hck,Bool.false_and] at aC;have Hf:=Lq7 aC;rw[hck] at aE;go_enter Tryz.func111,Tryz.ntmps111;go_wp2_with fail;refine aE.out.mono ?_;rintro e w1 ⟨rfl,aA⟩;have aB:=Lq7 (aD.out.trans (aA.mono aD.out.size));go_wp2_with fail;go_ret;exact⟨Bs Hf.out.symm,aB.out⟩
 | true=>
  rw[hck,Bool.true_and] at aC;rw[hck] at aE;by_cases h1:t=1
  ·subst h1;rw[if_pos rfl] at aC;have Hf:=Lq7 aC;go_enter Tryz.func111,Tryz.ntmps111;go_wp2_with fail;refine aE.out.mono ?_;rintro e w1 ⟨rfl,aA⟩;have aB:=Lq7 (aD.out.trans (aA.mono aD.out.size));have H1:=Lq7 (stays H0.out aA);have Ht:=Lq7 (E0 k n s l ks Hs.out F a1 c1 a2 c2 w1 (fun b hb=>nll (HF.out b hb) aB.out.size) (aG.out.below aA) (aH.out.below aA));obtain⟨q0,q1,q2,q3,q4,q5,q6,q7,q8,q9,aJ⟩:=Aa H1.out;go_wp2_with fail;go_ret;exact⟨Bs Hf.out.symm,aB.out⟩
  by_cases h2:t=2
  ·subst h2;rw[if_neg (by decide),if_pos rfl] at aC;have Hf:=Lq7 aC;go_enter Tryz.func111,Tryz.ntmps111;go_wp2_with fail;refine aE.out.mono ?_;rintro e w1 ⟨rfl,aA⟩;have aB:=Lq7 (aD.out.trans (aA.mono aD.out.size));have H1:=Lq7 (stays H0.out aA);have Ht:=Lq7 (E0 k n s l ks Hs.out F a1 c1 a2 c2 w1 (fun b hb=>nll (HF.out b hb) aB.out.size) (aG.out.below aA) (aH.out.below aA));obtain⟨q0,q1,q2,q3,q4,q5,q6,q7,q8,q9,aJ⟩:=Aa H1.out;go_wp2_with fail;go_ret;exact⟨Bs Hf.out.symm,aB.out⟩
  by_cases h3:t=3
  ·subst h3;rw[if_neg (by decide),if_neg (by decide),if_pos rfl] at aC;have Hf:=Lq7 aC;go_enter Tryz.func111,Tryz.ntmps111;go_wp2_with fail;refine aE.out.mono ?_;rintro e w1 ⟨rfl,aA⟩;have aB:=Lq7 (aD.out.trans (aA.mono aD.out.size));have H1:=Lq7 (stays H0.out aA);have Ht:=Lq7 (E0 k n s l ks Hs.out F a1 c1 a2 c2 w1 (fun b hb=>nll (HF.out b hb) aB.out.size) (aG.out.below aA) (aH.out.below aA));obtain⟨q0,q1,q2,q3,q4,q5,q6,q7,q8,q9,aJ⟩:=Aa H1.out;go_wp2_with fail;go_ret;exact⟨Bs Hf.out.symm,aB.out⟩
  rw[if_neg h1,if_neg h2,if_neg h3] at aC;by_cases h4:t=4
  ·subst h4;rw[if_pos (by decide)] at aC;have Hf:=Lq7 aC;go_enter Tryz.func111,Tryz.ntmps111;go_wp2_with fail;refine aE.out.mono ?_;rintro e w1 ⟨rfl,aA⟩;have aB:=Lq7 (aD.out.trans (aA.mono aD.out.size));have H1:=Lq7 (stays H0.out aA);have Ht:=Lq7 (E0 k n s l ks Hs.out F a1 c1 a2 c2 w1 (fun b hb=>nll (HF.out b hb) aB.out.size) (aG.out.below aA) (aH.out.below aA));obtain⟨q0,q1,q2,q3,q4,q5,q6,q7,q8,q9,aJ⟩:=Aa H1.out;go_wp2_with fail;refine Ht.out.mono ?_;rintro e w2 ⟨aM,hq⟩;have aF:=Lq7 (aB.out.trans (aM.mono aB.out.size));cases hx:B2 (.mk k n s l ks) with
   | none=>
    rw[hx] at hq Hf;obtain rfl:=hq;go_wp2_with fail;go_ret;exact⟨Bs Hf.out.symm,aF.out⟩
   | some l2=>
    rw[hx] at hq Hf;obtain⟨x,rfl,-⟩:=hq;go_wp2_with fail;go_ret;exact⟨Bs Hf.out.symm,aF.out⟩
  by_cases h5:t=5
  ·subst h5;rw[if_pos (by decide)] at aC;have Hf:=Lq7 aC;go_enter Tryz.func111,Tryz.ntmps111;go_wp2_with fail;refine aE.out.mono ?_;rintro e w1 ⟨rfl,aA⟩;have aB:=Lq7 (aD.out.trans (aA.mono aD.out.size));have H1:=Lq7 (stays H0.out aA);have Ht:=Lq7 (E0 k n s l ks Hs.out F a1 c1 a2 c2 w1 (fun b hb=>nll (HF.out b hb) aB.out.size) (aG.out.below aA) (aH.out.below aA));obtain⟨q0,q1,q2,q3,q4,q5,q6,q7,q8,q9,aJ⟩:=Aa H1.out;go_wp2_with fail;refine Ht.out.mono ?_;rintro e w2 ⟨aM,hq⟩;have aF:=Lq7 (aB.out.trans (aM.mono aB.out.size));cases hx:B2 (.mk k n s l ks) with
   | none=>
    rw[hx] at hq Hf;obtain rfl:=hq;go_wp2_with fail;go_ret;exact⟨Bs Hf.out.symm,aF.out⟩
   | some l2=>
    rw[hx] at hq Hf;obtain⟨x,rfl,-⟩:=hq;go_wp2_with fail;go_ret;exact⟨Bs Hf.out.symm,aF.out⟩
  by_cases h6:t=6
  ·subst h6;rw[if_pos (by decide)] at aC;have Hf:=Lq7 aC;go_enter Tryz.func111,Tryz.ntmps111;go_wp2_with fail;refine aE.out.mono ?_;rintro e w1 ⟨rfl,aA⟩;have aB:=Lq7 (aD.out.trans (aA.mono aD.out.size));have H1:=Lq7 (stays H0.out aA);have Ht:=Lq7 (E0 k n s l ks Hs.out F a1 c1 a2 c2 w1 (fun b hb=>nll (HF.out b hb) aB.out.size) (aG.out.below aA) (aH.out.below aA));obtain⟨q0,q1,q2,q3,q4,q5,q6,q7,q8,q9,aJ⟩:=Aa H1.out;go_wp2_with fail;refine Ht.out.mono ?_;rintro e w2 ⟨aM,hq⟩;have aF:=Lq7 (aB.out.trans (aM.mono aB.out.size));cases hx:B2 (.mk k n s l ks) with
   | none=>
    rw[hx] at hq Hf;obtain rfl:=hq;go_wp2_with fail;go_ret;exact⟨Bs Hf.out.symm,aF.out⟩
   | some l2=>
    rw[hx] at hq Hf;obtain⟨x,rfl,-⟩:=hq;go_wp2_with fail;go_ret;exact⟨Bs Hf.out.symm,aF.out⟩
  ·rw[if_neg (by rintro(h|h|h);exact h4 h;exact h5 h;exact h6 h)] at aC;have Hf:=Lq7 aC;have e1:(t==1)=false:=(by simpa using h1);have e2:(t==2)=false:=(by simpa using h2);have e3:(t==3)=false:=(by simpa using h3);have e4:(t==4)=false:=(by simpa using h4);have e5:(t==5)=false:=(by simpa using h5);have e6:(t==6)=false:=(by simpa using h6);go_enter Tryz.func111,Tryz.ntmps111;go_wp2_with fail;refine aE.out.mono ?_;rintro e w1 ⟨rfl,aA⟩;have aB:=Lq7 (aD.out.trans (aA.mono aD.out.size));have H1:=Lq7 (stays H0.out aA);have Ht:=Lq7 (E0 k n s l ks Hs.out F a1 c1 a2 c2 w1 (fun b hb=>nll (HF.out b hb) aB.out.size) (aG.out.below aA) (aH.out.below aA));obtain⟨q0,q1,q2,q3,q4,q5,q6,q7,q8,q9,aJ⟩:=Aa H1.out;go_wp2_with fail;go_ret;exact⟨Bs Hf.out.symm,aB.out⟩
def idxI(l:List AttrP)(s:ByteArray):Int:=match idxA l s with|some i=>(i:Int)|none=> -1
theorem Se{l s}(h:∀(j:Nat) (a:AttrP),l[j]? = some a->Dp a.name s=false):idxI l s = -1:=by
 have:idxA l s=none:=by
  unfold idxA;rw[List.findIdx?_eq_none_iff];intro x hx;obtain⟨j,hj⟩:=List.getElem?_of_mem hx;exact h j x hj
 unfold idxI;rw[this]
theorem Sf{l s k a}(hk:l[k]? = some a)(ha:Dp a.name s=true)(h:∀(j:Nat) (a:AttrP),j<k->l[j]? = some a->Dp a.name s=false):idxI l s=k:=by
 have:idxA l s=some k:=by
  unfold idxA;rw[List.findIdx?_eq_some_iff_getElem];obtain⟨h1,h2⟩:=lgS.1 hk;refine⟨h1,by rw[h2];exact ha,fun j hj=>?_⟩;have:=h j _ hj (lgE (Nat.lt_trans hj h1))
  simpa using this
 unfold idxI;rw[this]
theorem Qm(nm ty mu k n s a1 l1 c1 a2 l2 c2 name bn w)(hn:w.heap[bn]? = some (.cells #[.string name] 9 (0,0))):
  Calls Tryz.prog 141 #[.agg #[.string nm,.int .i64 ty,.bool mu,.int .i64 k,.int .i64 n,.string s,.slice a1 l1 c1,.slice a2 l2 c2],.pointer (some ⟨bn,0,none⟩)] w (fun e w'=>e = .returned (.bool (Dp nm name))/\Below w.heap.size w w'):=by
 have H:Hid (Dp nm name=(nm.toList==name.toList)):=Lq7 (by unfold Dp;rw[Lq8,Lq8]);obtain⟨s0,s1⟩:=Ap hn;go_enter Tryz.func141,Tryz.ntmps141;go_wp2_with fail;go_ret;exact⟨Bs H.out.symm,(bRf _ w).alloc (nlr _) _⟩
theorem Li(F a cap l name bn w)(hl:l.length<=140737488355328)(hr:Ag F w a (Cz l))(hn:w.heap[bn]? = some (.cells #[.string name] 9 (0,0))):
  Calls Tryz.prog 140 #[.slice a l.length cap,.func (.func 141) #[] #[.pointer (some ⟨bn,0,none⟩)]] w (fun e w'=>e = .returned (.int .i64 (idxI l name))/\Below w.heap.size w w'):=by
 have eg:∀args w,(callFunc 141 args).run Tryz.prog w = .ok (.enter 141 args) w:=enters_of Tryz.func141 (by kernel_rfl) rfl;have Hr:=Lq7 hr;have Hn:=Lq7 hn;go_enter Tryz.func140,Tryz.ntmps140;go_wp2
 go_loopw [8] (fun i wr=>∃k:Nat,i = .int .i64 k/\k<=l.length/\Hid (Below w.heap.size w wr)/\Hid (∀(j:Nat) (a:AttrP),j<k->l[j]? = some a->Dp a.name name=false)) (fun i _=>l.length-(intOf i).toNat)
 case atStart=>exact⟨0,rfl,nlz _,Lq7 (bRf _ _),Lq7 fun j a h=>absurd h (Nat.not_lt_zero _)⟩
 case round=>
  obtain⟨k,rfl,hk,hb,hq⟩:=hrel;by_cases hlt:k<l.length
  ·have aA:l[k]? = some l[k]:=lgE hlt;generalize l[k]=x at aA;obtain⟨nm,ty,mu,⟨vk,vn,vs,vl,vks⟩⟩:=x;obtain⟨b,off,a1,c1,a2,c2,rfl,hF,hbl,r0,r1,r2,r3,r4,r5,r6,r7,-,-⟩:=(Hr.out.below hb.out).attr aA;have HC:=Lq7 (Qm nm ty mu vk vn vs a1 vl.length c1 a2 vks.length c2 name bn wr (stays Hn.out hb.out));have Hj:=Lq7 aA;cases hs:Dp nm name
   ·have Hs:=Lq7 hs;rw[hs] at HC;go_wp2_with fail;refine HC.out.mono ?_;rintro e w2 ⟨rfl,aB⟩;have aC:=Lq7 (hb.out.trans (aB.mono hb.out.size));have Hq2:Hid (∀(j:Nat) (a:AttrP),j<k+1->l[j]? = some a->Dp a.name name=false):=Lq7 (by
     intro j a hj aD;by_cases h:j=k
     ·subst h;rw[Hj.out] at aD;cases aD;exact Hs.out
     ·exact hq.out j a (by omega) aD)
    go_wp2;go_roundw
    case rel=>exact⟨k+1,by go_num,by omega,aC,Hq2⟩
    case measure=>simp only[intOf];omega
   ·have Hs:=Lq7 hs;rw[hs] at HC;go_wp2_with fail;refine HC.out.mono ?_;rintro e w2 ⟨rfl,aB⟩;have aC:=Lq7 (hb.out.trans (aB.mono hb.out.size));go_wp2;go_ret;exact⟨Kh (Sf Hj.out Hs.out hq.out).symm,aC.out⟩
  ·obtain rfl:k=l.length:=(by omega);go_wp2;go_ret;exact⟨Kh (Se fun j a hj=>hq.out j a (lgS.1 hj).1 hj).symm,hb.out⟩
theorem Sg(F a cap l name w)(hl:l.length<=140737488355328)(hr:Ag F w a (Cz l)):
  Calls Tryz.prog 109 #[.slice a l.length cap,.string name] w (fun e w'=>e = .returned (.int .i64 (idxI l name))/\Below w.heap.size w w'):=by
 have aE:Below w.heap.size w (w.alloc (.cells #[.string name] 9)):=(bRf _ w).alloc (nlr _) _;have HC:=Lq7 (Li F a cap l name w.heap.size _ hl (hr.below aE) (heap_alloc_new w (.cells #[.string name] 9)));have aF:=Lq7 aE;go_enter Tryz.func109,Tryz.ntmps109;go_wp2_with fail;refine HC.out.mono ?_;rintro e w1 ⟨rfl,hb1⟩;have Hb1:=Lq7 (aF.out.trans (hb1.mono aF.out.size));go_wp2_with fail;go_ret;exact⟨rfl,Hb1.out⟩
def fileD(f:ByteArray×ByteArray):List Dat:=[.one (.string f.1),.one (.string f.2)]
def Js(l:List (ByteArray×ByteArray)):List (List Dat):=l.map fileD
theorem Ag.file{F w a l}(h:Ag F w a (Js l)){j p d}(hj:l[j]? = some (p,d)):
  ∃b off,a=some ⟨b,off,none⟩/\F b/\b<w.heap.size/\w.cell? ⟨b,off+j*2,none⟩=some (.string p)/\w.cell? ⟨b,off+j*2+1,none⟩=some (.string d):=by
 obtain⟨b,off,cs,ha,hF,hb,hd,hc⟩:=h j (fileD (p,d)) (by rw[Js,lgP,hj];rfl);obtain⟨c0,cs',rfl,h0,h'⟩:=Ay.cons_inv (d:=.one (.string p)) (ds:=[.one (.string d)]) hd;obtain⟨c1,cs'',rfl,h1,-⟩:=Ay.cons_inv (d:=.one (.string d)) (ds:=[]) h';obtain rfl:=h0.one_inv;obtain rfl:=h1.one_inv;exact⟨b,off,ha,hF,hb,hc 0 _ rfl,hc 1 _ rfl⟩
def getL:List (ByteArray×ByteArray)->ByteArray->Option ByteArray
 | [],_=>none
 | f::t,p=>if f.1.data.toList==p.data.toList then some f.2 else getL t p
theorem Jt{p}:∀{l:List (ByteArray×ByteArray)} {j:Nat},(∀k q,k<j->l[k]? = some q->(q.1.data.toList==p.data.toList)=false)->getL l p=getL (l.drop j) p
 | [],j,_=>by simp
 | f::t,0,_=>rfl
 | f::t,j+1,h=>by
  rw[getL,if_neg (by rw[h 0 f (by omega) rfl];decide),List.drop_succ_cons];exact Jt fun k q hk hq=>h (k+1) q (by omega) (by simpa using hq)
theorem getF_any(q d p bn w)(hn:w.heap[bn]? = some (.cells #[.string p] 9 (0,0))):
  Calls Tryz.prog 58 #[.agg #[.string q,.string d],.pointer (some ⟨bn,0,none⟩)] w (fun e w'=>e = .returned (.bool (q.data.toList==p.data.toList))/\Below w.heap.size w w'):=by
 obtain⟨s0,s1⟩:=Ap hn;have Hq:Hid ((q.toList==p.toList)=(q.data.toList==p.data.toList)):=Lq7 (by rw[Lq8,Lq8]);go_enter Tryz.func58,Tryz.ntmps58;go_wp2_with fail;go_ret;exact⟨by rw[<-Hq.out];rfl,(bRf _ w).alloc (nlr _) _⟩
theorem N7(F l a cap p bn w)(hr:Ag F w a (Js l))(hn:w.heap[bn]? = some (.cells #[.string p] 9 (0,0)))(hlen:l.length<=140737488355328):
  Calls Tryz.prog 57 #[.slice a l.length cap,.func (.func 58) #[] #[.pointer (some ⟨bn,0,none⟩)]] w (fun e w'=>Below w.heap.size w w' /\
   ((e = .returned (.int .i64 (-1))/\getL l p=none)\/∃(j:Nat) (d:ByteArray) (q:ByteArray),e = .returned (.int .i64 j)/\l[j]? = some (q,d)/\getL l p=some d)):=by
 have eg:∀args w,(callFunc 58 args).run Tryz.prog w = .ok (.enter 58 args) w:=enters_of Tryz.func58 (by kernel_rfl) rfl;have Hr:=Lq7 hr;have Hn:=Lq7 hn;clear hr hn;go_enter Tryz.func57,Tryz.ntmps57;go_wp2_with fail
 go_loopw [8] (fun i wr=>∃j:Nat,i = .int .i64 j/\j<=l.length/\Hid (Below w.heap.size w wr)/\Hid (∀k q,k<j->l[k]? = some q->(q.1.data.toList==p.data.toList)=false)) (fun i _=>l.length-(intOf i).toNat)
 case atStart=>exact⟨0,rfl,nlz _,Lq7 (bRf _ w),Lq7 (fun k q hk _=>absurd hk (Nat.not_lt_zero k))⟩
 case round=>
  obtain⟨j,rfl,hj,aC,aB⟩:=hrel;by_cases aH:j<l.length
  ·cases hx:l[j] with
   | mk q d=>
    have aE:l[j]? = some (q,d):=(by rw[lgE aH,hx]);obtain⟨b,off,aF,hF,hbl,r0,r1⟩:=(Hr.out.below aC.out).file aE;have HG:=Lq7 (getF_any q d p bn wr (stays Hn.out aC.out));have aD:=Lq7 aE;clear aE hx hF;subst aF;go_wp2_with fail;refine HG.out.mono ?_;rintro e w2 ⟨rfl,aI⟩;have aJ:=Lq7 (aC.out.trans (aI.mono aC.out.size));clear aI HG r0 r1;cases hq:q.data.toList==p.data.toList
    ·have Hne:Hid (∀k x,k<j+1->l[k]? = some x->(x.1.data.toList==p.data.toList)=false):=Lq7 (fun k x hk hx=>by
      rcases Nat.lt_succ_iff_lt_or_eq.1 hk with h|h
      ·exact aB.out k x h hx
      ·subst h;rw[aD.out] at hx;cases hx;exact hq)
     clear hq aB aD;go_wp2_with fail;go_roundw
     case rel=>exact⟨j+1,by go_num,by omega,aJ,Hne⟩
     case measure=>simp only[intOf];omega
    ·have aA:Hid (getL l p=some d):=Lq7 (by
      rw[Jt aB.out,List.drop_eq_getElem_cons (lgS.1 aD.out).1,(lgS.1 aD.out).2,getL,if_pos hq])
     clear hq aB;go_wp2_with fail;go_ret;exact⟨aJ.out,.inr ⟨j,d,q,rfl,aD.out,aA.out⟩⟩
  ·have aA:Hid (getL l p=none):=Lq7 (by rw[Jt aB.out,List.drop_eq_nil_of_le (by omega)];rfl);clear aB;go_wp2_with fail;go_ret;exact⟨aC.out,.inl ⟨rfl,aA.out⟩⟩
theorem N8(F l a cap p w)(hr:Ag F w a (Js l))(hlen:l.length<=140737488355328):
  Calls Tryz.prog 36 #[.slice a l.length cap,.string p] w (fun e w'=>e = .returned (.tuple #[.string ((getL l p).getD ⟨#[]⟩),.bool (getL l p).isSome])/\Below w.heap.size w w'):=by
 have aG:Below w.heap.size w (w.alloc (.cells #[.string p] 9)):=(bRf _ w).alloc (nlr _) _;have HI:=Lq7 (N7 F l a cap p w.heap.size _ (hr.below aG) (heap_alloc_new w (.cells #[.string p] 9)) hlen);have Hr:=Lq7 (hr.below aG);have aM:=Lq7 aG;go_enter Tryz.func36,Tryz.ntmps36;go_wp2_with fail;refine HI.out.mono ?_;rintro e w1 ⟨aN,hq⟩;have aQ:=Lq7 (aM.out.trans (aN.mono aM.out.size));have Hr1:=Lq7 (Hr.out.below aN);rcases hq with⟨rfl,hg⟩|⟨j,d,q,rfl,hj,hg⟩
 ·have Hg:=Lq7 hg;go_wp2_with fail;refine bodyPost_ret (v:=.tuple #[.string ⟨#[]⟩,.bool false]) (by simp[results,Tryz.results36,go_sem]) rfl ?_;rw[Hg.out];exact⟨rfl,aQ.out⟩
 ·have aH:=(lgS.1 hj).1;obtain⟨b,off,aF,hF,hbl,r0,r1⟩:=Hr1.out.file hj;have Hg:=Lq7 hg;subst aF;go_wp2_with fail;refine bodyPost_ret (v:=.tuple #[.string d,.bool true]) (by simp[results,Tryz.results36,go_sem]) rfl ?_;rw[Hg.out];exact⟨rfl,aQ.out⟩
def copyText:ByteArray:=⟨#[114,117,108,101,32,99,111,112,121,40,115,114,99,58,32,102,105,108,101,115,41,32,123,125]⟩
def copyKids:List Nd:=
 [.mk 6 ⟨#[99,111,112,121]⟩ 1 1 [.mk 7 ⟨#[115,114,99]⟩ 1 11 [.mk 9 ⟨#[102,105,108,101,115]⟩ 1 16 []],.mk 8 ⟨#[]⟩ 1 23 []]]
theorem copy_read:readL copyText.data.toList=some (.ok (.mk 1 ⟨#[]⟩ 1 1 copyKids)):=by kernel_rfl


end Go.Proofs.YtkehdallfohjfaaGreatDoor
