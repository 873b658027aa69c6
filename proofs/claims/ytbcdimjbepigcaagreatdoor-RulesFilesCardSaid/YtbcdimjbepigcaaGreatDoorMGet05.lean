/-
  The walks of the document's Great and Get,at any files. (And what it stands on.)
-/
import Derived.WideShapes
import Derived.Test.YtbcdimjbepigcaaGreatDoorMSameG
import Derived.Test.YtbcdimjbepigcaaGreatDoorMPathCut
import Derived.Test.YtbcdimjbepigcaaGreatDoorMParseNz
import Derived.Test.YtbcdimjbepigcaaGreatDoorMEvalPlain
import Derived.Test.YtbcdimjbepigcaaGreatDoorShelf
namespace Go.Proofs.YtbcdimjbepigcaaGreatDoor
open Go Go.RowKit
open List renaming getElem?_map->lgP,getElem?_eq_getElem->lgE,getElem?_eq_some_iff->lgS
open Nat renaming le_refl->nlr,zero_le->nlz,lt_of_lt_of_le->nll
open Go.Lib renaming hid->Lq7,toList_data->Lq8
open Go.RowKit.Below renaming refl->bRf
set_option maxRecDepth 100000
set_option maxHeartbeats 16000000
structure AttrP where
 name:ByteArray
 type:Int
 must:Bool
 dflt:Vl
def Eb(a b:ByteArray):Bool:=a.data.toList==b.data.toList
def idxA(l:List AttrP)(s:ByteArray):Option Nat:=l.findIdx? fun a=>Eb a.name s
def M3(t:Int)(v:Vl):Bool:=A0 v&&(if t=1 then v.kind==3 else if t=2 then v.kind==1 else if t=3 then v.kind==2 else if t=4\/t=5\/t=6 then(B9 v).isSome else false)
structure TargetP where
 label:LabelP
 rule:ByteArray
 vals:List (ByteArray×Vl)
 deps:List LabelP
 seen:List ByteArray
def Jt(a:AttrP):List Dat:=.one (.string a.name) :: .one (.int .i64 a.type) :: .one (.bool a.must)::valD a.dflt
def Cz(l:List AttrP):List (List Dat):=l.map Jt
theorem O2(a):(Jt a).length=8:=by simp[Jt,valD_len]
theorem Fz(l):(Cz l).length=l.length:=by simp[Cz]
section
variable {F:Nat->Prop} {w:World}
theorem Am.attr{nm:ByteArray}{ty:Int}{mu:Bool}{k n:Int}{s:ByteArray}{l:List Vl}{ks:List ByteArray}{cs:List Value}(h:Am F w (Jt ⟨nm,ty,mu,.mk k n s l ks⟩) cs):
  ∃a c a' c',cs=[.string nm,.int .i64 ty,.bool mu,.int .i64 k,.int .i64 n,.string s,.slice a l.length c,.slice a' ks.length c']/\Af F w a (Ar l)/\Af F w a' (Bl ks):=by
 obtain⟨c0,cs0,rfl,h0,g1⟩:=Am.cons_inv (d:=.one (.string nm)) (ds:=.one (.int .i64 ty) :: .one (.bool mu)::valD (.mk k n s l ks)) h;obtain⟨c1,cs1,rfl,h1,g2⟩:=g1.cons_inv;obtain⟨c2,cs2,rfl,h2,g3⟩:=g2.cons_inv;obtain rfl:=h0.one_inv;obtain rfl:=h1.one_inv;obtain rfl:=h2.one_inv;obtain⟨a,c,a',c',rfl,h1,h2⟩:=Am.val g3;exact⟨a,c,a',c',rfl,h1,h2⟩
theorem Am.attr_mk(nm:ByteArray)(ty:Int)(mu:Bool)(k n:Int)(s:ByteArray){l:List Vl}{ks:List ByteArray}{a a':Option Addr}(c c':Nat)(h:Af F w a (Ar l))(h':Af F w a' (Bl ks)):
  Am F w (Jt ⟨nm,ty,mu,.mk k n s l ks⟩) [.string nm,.int .i64 ty,.bool mu,.int .i64 k,.int .i64 n,.string s,.slice a l.length c,.slice a' ks.length c']:=
 .cons (.one _) (.cons (.one _) (.cons (.one _) (Am.val_mk k n s c c' h h')))
theorem Af.attr{a:Option Addr}{l:List AttrP}(h:Af F w a (Cz l)){j:Nat}{nm:ByteArray}{ty:Int}{mu:Bool}{k n:Int}{s:ByteArray}{m:List Vl}{ks:List ByteArray}(hj:l[j]? = some ⟨nm,ty,mu,.mk k n s m ks⟩):
  ∃b off a1 c1 a2 c2,a=some ⟨b,off,none⟩/\F b/\b<w.heap.size/\w.cell? ⟨b,off+j*8,none⟩=some (.string nm)/\w.cell? ⟨b,off+j*8+1,none⟩=some (.int .i64 ty)/\w.cell? ⟨b,off+j*8+2,none⟩=some (.bool mu) /\
   w.cell? ⟨b,off+j*8+3,none⟩=some (.int .i64 k)/\w.cell? ⟨b,off+j*8+4,none⟩=some (.int .i64 n)/\w.cell? ⟨b,off+j*8+5,none⟩=some (.string s) /\
   w.cell? ⟨b,off+j*8+6,none⟩=some (.slice a1 m.length c1)/\w.cell? ⟨b,off+j*8+7,none⟩=some (.slice a2 ks.length c2)/\Af F w a1 (Ar m)/\Af F w a2 (Bl ks):=by
 obtain⟨b,off,cs,ha,hF,hb,hd,hc⟩:=h j (Jt ⟨nm,ty,mu,.mk k n s m ks⟩) (by rw[Cz,lgP,hj];rfl);obtain⟨a1,c1,a2,c2,rfl,hr,hr'⟩:=Am.attr hd;rw[O2] at hc;exact⟨b,off,a1,c1,a2,c2,ha,hF,hb,hc 0 _ rfl,hc 1 _ rfl,hc 2 _ rfl,hc 3 _ rfl,hc 4 _ rfl,hc 5 _ rfl,hc 6 _ rfl,hc 7 _ rfl,hr,hr'⟩
end
def idxI(l:List AttrP)(s:ByteArray):Int:=match idxA l s with|some i=>(i:Int)|none=> -1
theorem Vv{l s}(h:∀(j:Nat) (a:AttrP),l[j]? = some a->Eb a.name s=false):idxI l s = -1:=by
 have:idxA l s=none:=by
  unfold idxA;rw[List.findIdx?_eq_none_iff];intro x hx;obtain⟨j,hj⟩:=List.getElem?_of_mem hx;exact h j x hj
 unfold idxI;rw[this]
theorem Vw{l s k a}(hk:l[k]? = some a)(ha:Eb a.name s=true)(h:∀(j:Nat) (a:AttrP),j<k->l[j]? = some a->Eb a.name s=false):idxI l s=k:=by
 have:idxA l s=some k:=by
  unfold idxA;rw[List.findIdx?_eq_some_iff_getElem];obtain⟨h1,h2⟩:=lgS.1 hk;refine⟨h1,by rw[h2];exact ha,fun j hj=>?_⟩;have:=h j _ hj (lgE (Nat.lt_trans hj h1))
  simpa using this
 unfold idxI;rw[this]
theorem Tk(nm ty mu k n s a1 l1 c1 a2 l2 c2 name bn w)(hn:w.heap[bn]? = some (.cells #[.string name] 9 (0,0))):
  Calls Tryz.prog 140 #[.agg #[.string nm,.int .i64 ty,.bool mu,.int .i64 k,.int .i64 n,.string s,.slice a1 l1 c1,.slice a2 l2 c2],.pointer (some ⟨bn,0,none⟩)] w (fun e w'=>e = .returned (.bool (Eb nm name))/\Below w.heap.size w w'):=by
 have H:Hid (Eb nm name=(nm.toList==name.toList)):=Lq7 (by unfold Eb;rw[Lq8,Lq8]);obtain⟨s0,s1⟩:=Aq hn;go_enter Tryz.func140,Tryz.ntmps140;go_wp2_with fail;go_ret;exact⟨A7 H.out.symm,(bRf _ w).alloc (nlr _) _⟩
theorem Ny(F a cap l name bn w)(hl:l.length<=140737488355328)(hr:Af F w a (Cz l))(hn:w.heap[bn]? = some (.cells #[.string name] 9 (0,0))):
  Calls Tryz.prog 139 #[.slice a l.length cap,.func (.func 140) #[] #[.pointer (some ⟨bn,0,none⟩)]] w (fun e w'=>e = .returned (.int .i64 (idxI l name))/\Below w.heap.size w w'):=by
 have eg:∀args w,(callFunc 140 args).run Tryz.prog w = .ok (.enter 140 args) w:=enters_of Tryz.func140 (by kernel_rfl) rfl;have Hr:=Lq7 hr;have Hn:=Lq7 hn;go_enter Tryz.func139,Tryz.ntmps139;go_wp2
 go_loopw [8] (fun i wr=>∃k:Nat,i = .int .i64 k/\k<=l.length/\Hid (Below w.heap.size w wr)/\Hid (∀(j:Nat) (a:AttrP),j<k->l[j]? = some a->Eb a.name name=false)) (fun i _=>l.length-(intOf i).toNat)
 case atStart=>exact⟨0,rfl,nlz _,Lq7 (bRf _ _),Lq7 fun j a h=>absurd h (Nat.not_lt_zero _)⟩
 case round=>
  obtain⟨k,rfl,hk,hb,hq⟩:=hrel;by_cases hlt:k<l.length
  ·have aB:l[k]? = some l[k]:=lgE hlt;generalize l[k]=x at aB;obtain⟨nm,ty,mu,⟨vk,vn,vs,vl,vks⟩⟩:=x;obtain⟨b,off,a1,c1,a2,c2,rfl,hF,hbl,r0,r1,r2,r3,r4,r5,r6,r7,-,-⟩:=(Hr.out.below hb.out).attr aB;have HC:=Lq7 (Tk nm ty mu vk vn vs a1 vl.length c1 a2 vks.length c2 name bn wr (stays Hn.out hb.out));have Hj:=Lq7 aB;cases hs:Eb nm name
   ·have Hs:=Lq7 hs;rw[hs] at HC;go_wp2_with fail;refine HC.out.mono ?_;rintro e w2 ⟨rfl,aC⟩;have aD:=Lq7 (hb.out.trans (aC.mono hb.out.size));have Hq2:Hid (∀(j:Nat) (a:AttrP),j<k+1->l[j]? = some a->Eb a.name name=false):=Lq7 (by
     intro j a hj aE;by_cases h:j=k
     ·subst h;rw[Hj.out] at aE;cases aE;exact Hs.out
     ·exact hq.out j a (by omega) aE)
    go_wp2;go_roundw
    case rel=>exact⟨k+1,by go_num,by omega,aD,Hq2⟩
    case measure=>simp only[intOf];omega
   ·have Hs:=Lq7 hs;rw[hs] at HC;go_wp2_with fail;refine HC.out.mono ?_;rintro e w2 ⟨rfl,aC⟩;have aD:=Lq7 (hb.out.trans (aC.mono hb.out.size));go_wp2;go_ret;exact⟨My (Vw Hj.out Hs.out hq.out).symm,aD.out⟩
  ·obtain rfl:k=l.length:=(by omega);go_wp2;go_ret;exact⟨My (Vv fun j a hj=>hq.out j a (lgS.1 hj).1 hj).symm,hb.out⟩
theorem Vx(F a cap l name w)(hl:l.length<=140737488355328)(hr:Af F w a (Cz l)):
  Calls Tryz.prog 82 #[.slice a l.length cap,.string name] w (fun e w'=>e = .returned (.int .i64 (idxI l name))/\Below w.heap.size w w'):=by
 have aF:Below w.heap.size w (w.alloc (.cells #[.string name] 9)):=(bRf _ w).alloc (nlr _) _;have HC:=Lq7 (Ny F a cap l name w.heap.size _ hl (hr.below aF) (heap_alloc_new w (.cells #[.string name] 9)));have aG:=Lq7 aF;go_enter Tryz.func82,Tryz.ntmps82;go_wp2_with fail;refine HC.out.mono ?_;rintro e w1 ⟨rfl,hb1⟩;have Hb1:=Lq7 (aG.out.trans (hb1.mono aG.out.size));go_wp2_with fail;go_ret;exact⟨rfl,Hb1.out⟩
def fileD(f:ByteArray×ByteArray):List Dat:=[.one (.string f.1),.one (.string f.2)]
def G9(l:List (ByteArray×ByteArray)):List (List Dat):=l.map fileD
theorem Af.file{F w a l}(h:Af F w a (G9 l)){j p d}(hj:l[j]? = some (p,d)):
  ∃b off,a=some ⟨b,off,none⟩/\F b/\b<w.heap.size/\w.cell? ⟨b,off+j*2,none⟩=some (.string p)/\w.cell? ⟨b,off+j*2+1,none⟩=some (.string d):=by
 obtain⟨b,off,cs,ha,hF,hb,hd,hc⟩:=h j (fileD (p,d)) (by rw[G9,lgP,hj];rfl);obtain⟨c0,cs',rfl,h0,h'⟩:=Am.cons_inv (d:=.one (.string p)) (ds:=[.one (.string d)]) hd;obtain⟨c1,cs'',rfl,h1,-⟩:=Am.cons_inv (d:=.one (.string d)) (ds:=[]) h';obtain rfl:=h0.one_inv;obtain rfl:=h1.one_inv;exact⟨b,off,ha,hF,hb,hc 0 _ rfl,hc 1 _ rfl⟩
def getL:List (ByteArray×ByteArray)->ByteArray->Option ByteArray
 | [],_=>none
 | f::t,p=>if f.1.data.toList==p.data.toList then some f.2 else getL t p
theorem L7{p}:∀{l:List (ByteArray×ByteArray)} {j:Nat},(∀k q,k<j->l[k]? = some q->(q.1.data.toList==p.data.toList)=false)->getL l p=getL (l.drop j) p
 | [],j,_=>by simp
 | f::t,0,_=>rfl
 | f::t,j+1,h=>by
  rw[getL,if_neg (by rw[h 0 f (by omega) rfl];decide),List.drop_succ_cons];exact L7 fun k q hk hq=>h (k+1) q (by omega) (by simpa using hq)
theorem getF_any(q d p bn w)(hn:w.heap[bn]? = some (.cells #[.string p] 9 (0,0))):
  Calls Tryz.prog 48 #[.agg #[.string q,.string d],.pointer (some ⟨bn,0,none⟩)] w (fun e w'=>e = .returned (.bool (q.data.toList==p.data.toList))/\Below w.heap.size w w'):=by
 obtain⟨s0,s1⟩:=Aq hn;have Hq:Hid ((q.toList==p.toList)=(q.data.toList==p.data.toList)):=Lq7 (by rw[Lq8,Lq8]);go_enter Tryz.func48,Tryz.ntmps48;go_wp2_with fail;go_ret;exact⟨by rw[<-Hq.out];rfl,(bRf _ w).alloc (nlr _) _⟩
theorem Q2(F l a cap p bn w)(hr:Af F w a (G9 l))(hn:w.heap[bn]? = some (.cells #[.string p] 9 (0,0)))(hlen:l.length<=140737488355328):
  Calls Tryz.prog 47 #[.slice a l.length cap,.func (.func 48) #[] #[.pointer (some ⟨bn,0,none⟩)]] w (fun e w'=>Below w.heap.size w w' /\
   ((e = .returned (.int .i64 (-1))/\getL l p=none)\/∃(j:Nat) (d:ByteArray) (q:ByteArray),e = .returned (.int .i64 j)/\l[j]? = some (q,d)/\getL l p=some d)):=by
 have eg:∀args w,(callFunc 48 args).run Tryz.prog w = .ok (.enter 48 args) w:=enters_of Tryz.func48 (by kernel_rfl) rfl;have Hr:=Lq7 hr;have Hn:=Lq7 hn;clear hr hn;go_enter Tryz.func47,Tryz.ntmps47;go_wp2_with fail
 go_loopw [8] (fun i wr=>∃j:Nat,i = .int .i64 j/\j<=l.length/\Hid (Below w.heap.size w wr)/\Hid (∀k q,k<j->l[k]? = some q->(q.1.data.toList==p.data.toList)=false)) (fun i _=>l.length-(intOf i).toNat)
 case atStart=>exact⟨0,rfl,nlz _,Lq7 (bRf _ w),Lq7 (fun k q hk _=>absurd hk (Nat.not_lt_zero k))⟩
 case round=>
  obtain⟨j,rfl,hj,aD,aC⟩:=hrel;by_cases aJ:j<l.length
  ·cases hx:l[j] with
   | mk q d=>
    have aF:l[j]? = some (q,d):=(by rw[lgE aJ,hx]);obtain⟨b,off,aG,hF,hbl,r0,r1⟩:=(Hr.out.below aD.out).file aF;have HG:=Lq7 (getF_any q d p bn wr (stays Hn.out aD.out));have aE:=Lq7 aF;clear aF hx hF;subst aG;go_wp2_with fail;refine HG.out.mono ?_;rintro e w2 ⟨rfl,aM⟩;have aN:=Lq7 (aD.out.trans (aM.mono aD.out.size));clear aM HG r0 r1;cases hq:q.data.toList==p.data.toList
    ·have Hne:Hid (∀k x,k<j+1->l[k]? = some x->(x.1.data.toList==p.data.toList)=false):=Lq7 (fun k x hk hx=>by
      rcases Nat.lt_succ_iff_lt_or_eq.1 hk with h|h
      ·exact aC.out k x h hx
      ·subst h;rw[aE.out] at hx;cases hx;exact hq)
     clear hq aC aE;go_wp2_with fail;go_roundw
     case rel=>exact⟨j+1,by go_num,by omega,aN,Hne⟩
     case measure=>simp only[intOf];omega
    ·have aB:Hid (getL l p=some d):=Lq7 (by
      rw[L7 aC.out,List.drop_eq_getElem_cons (lgS.1 aE.out).1,(lgS.1 aE.out).2,getL,if_pos hq])
     clear hq aC;go_wp2_with fail;go_ret;exact⟨aN.out,.inr ⟨j,d,q,rfl,aE.out,aB.out⟩⟩
  ·have aB:Hid (getL l p=none):=Lq7 (by rw[L7 aC.out,List.drop_eq_nil_of_le (by omega)];rfl);clear aC;go_wp2_with fail;go_ret;exact⟨aD.out,.inl ⟨rfl,aB.out⟩⟩
theorem Q3(F l a cap p w)(hr:Af F w a (G9 l))(hlen:l.length<=140737488355328):
  Calls Tryz.prog 24 #[.slice a l.length cap,.string p] w (fun e w'=>e = .returned (.tuple #[.string ((getL l p).getD ⟨#[]⟩),.bool (getL l p).isSome])/\Below w.heap.size w w'):=by
 have aH:Below w.heap.size w (w.alloc (.cells #[.string p] 9)):=(bRf _ w).alloc (nlr _) _;have HI:=Lq7 (Q2 F l a cap p w.heap.size _ (hr.below aH) (heap_alloc_new w (.cells #[.string p] 9)) hlen);have Hr:=Lq7 (hr.below aH);have aQ:=Lq7 aH;go_enter Tryz.func24,Tryz.ntmps24;go_wp2_with fail;refine HI.out.mono ?_;rintro e w1 ⟨aR,hq⟩;have aU:=Lq7 (aQ.out.trans (aR.mono aQ.out.size));have Hr1:=Lq7 (Hr.out.below aR);rcases hq with⟨rfl,hg⟩|⟨j,d,q,rfl,hj,hg⟩
 ·have Hg:=Lq7 hg;go_wp2_with fail;refine bodyPost_ret (v:=.tuple #[.string ⟨#[]⟩,.bool false]) (by simp[results,Tryz.results24,go_sem]) rfl ?_;rw[Hg.out];exact⟨rfl,aU.out⟩
 ·have aJ:=(lgS.1 hj).1;obtain⟨b,off,aG,hF,hbl,r0,r1⟩:=Hr1.out.file hj;have Hg:=Lq7 hg;subst aG;go_wp2_with fail;refine bodyPost_ret (v:=.tuple #[.string d,.bool true]) (by simp[results,Tryz.results24,go_sem]) rfl ?_;rw[Hg.out];exact⟨rfl,aU.out⟩
def fileTs:List TypeId:=[22,65,9]
theorem fileTs_ok:fileTs.all (okT Tryz.prog fileTs)=true:=by kernel_rfl
theorem bytesFile:Tryz.prog.bytesOf 65=32:=by kernel_rfl
theorem Qk{H}{enc:TypeId×Value->H}{W}(fuel cs)(d:DataW H)(ps)(h:DataW.trod enc Tryz.prog W 0 (fun _=>true) true fuel 65 cs=some (d,ps))(hw:∀k∈d.weights Tryz.prog 65,k<=reachBytes):
  ∃q:ByteArray×ByteArray,toDat d=fileD q/\True:=by
 obtain⟨xs,n,rfl,hx,-,hxl,hf⟩:=DataW.trod_struct Tryz.underlying65 h;cases hx
 match xs,hxl with
 | [y0,y3],_=>
  have e0:=hf 0 _ rfl;have e3:=hf 1 _ rfl;have hwe:∀k∈DataW.weightsEach Tryz.prog [9,9] [y0.1,y3.1],k<=reachBytes:=by
   intro k hk;refine hw k ?_;rw[DataW.weights,Tryz.underlying65];exact hk
  have aB:=fun(j:Nat) (t:TypeId) (y:DataW H) (h1:([9,9]:List TypeId)[j]? = some t) (h2:([y0.1,y3.1]:List (DataW H))[j]? = some y) (k:Nat) (hk:k∈y.weights Tryz.prog t)=>hwe k (DataW.weights_mem_each h1 h2 k hk);obtain⟨s,h0,-⟩:=Mh Tryz.underlying9 (show DataW.trod enc Tryz.prog W 0 (fun _=>true) true n 9 _=some (y0.1,y0.2) from e0) (aB 0 _ _ rfl rfl);obtain⟨v,h3,-⟩:=Mh Tryz.underlying9 (show DataW.trod enc Tryz.prog W 0 (fun _=>true) true n 9 _=some (y3.1,y3.2) from e3) (aB 1 _ _ rfl rfl);exact⟨(s,v),by rw[toDat];simp only[List.map_cons,List.map_nil,Ly,h0,h3,List.append_nil,List.cons_append,List.nil_append];rfl,trivial⟩
theorem Tm{H}{enc:TypeId×Value->H}{W base v}{d:DataW H}{p}(hv:Value.okWide Tryz.prog W .any base 22 v)(h:DataW.Trod enc Tryz.prog W 0 (fun _=>true) true 22 v d p)(hw:∀k∈d.weights Tryz.prog 22,k<=reachBytes):
  ∃(fs:List (ByteArray×ByteArray)) (a:Option Addr) (c:Nat),v = .slice a fs.length c/\Af (fun b=>b<W.heap.size) W a (G9 fs)/\fs.length<=140737488355328:=by
 obtain⟨aV,nV,cV,rfl⟩:=Go.WideShapes.okWide_slice Tryz.underlying22 hv;obtain⟨fuel,hf⟩:=h;have hd:=Rw fileTs_ok fuel 22 _ d p (by decide) hf;obtain⟨l,h1,-,aC⟩:=Ow fileD (fun _=>True) Tryz.underlying22 (fun n' us y hn' hy hky=>Qk n' us y.1 y.2 hy hky) hf hw;rw[h1] at hd;obtain⟨c0,cs0,q0,g0,hd⟩:=hd.cons_inv;obtain rfl:=hd.nil_inv;obtain⟨aA,cA,rfl,hrA⟩:=g0.row_inv;rw[List.length_map] at q0;rw[bytesFile] at aC;unfold reachBytes at aC;have hq: [Value.slice aV nV cV]=[Value.slice aA l.length cA]:=q0;obtain⟨rfl,rfl,rfl⟩:aV=aA/\nV=l.length/\cV=cA:=(by simpa using hq);exact⟨l,aV,cV,rfl,hrA,by omega⟩
theorem Mo(s w)(hw:StdB w)(hs:s.size<4294967000):
  Calls Tryz.prog 49 #[.string s] w (Qq (Fd s.data.toList) w):=by
 obtain⟨m,hm⟩:=hw;have hz:(⟨takenT.toArray⟩:ByteArray).size<4294967281:=by
  show takenT.toArray.size<_;rw[List.size_toArray];have:takenT.length=113:=(by kernel_rfl);omega
 have HC:=Lq7 (Tryz.strings_Contains ⟨takenT.toArray⟩ (⟨#[32]⟩++s++⟨#[32]⟩) m w hz hm);clear hz;have H:Hid (Lib.contains (⟨takenT.toArray⟩:ByteArray).data.toList (⟨#[32]⟩++s++⟨#[32]⟩:ByteArray).data.toList=Fd s.data.toList):=Lq7 (by
  rw[Qe];unfold Fd;rw[ByteArray.data_append,ByteArray.data_append,Array.toList_append,Array.toList_append];rfl)
 clear hm;go_enter Tryz.func49,Tryz.ntmps49;go_wp2_with fail;refine HC.out.mono ?_;rintro e w2 ⟨rfl,rfl⟩;go_wp2_with fail;go_ret;exact⟨A7 H.out,bRf _ _⟩
theorem fits_any(t k n s l ks)(hs:A6 (.mk k n s l ks))(F a1 c1 a2 c2 w)(hF:∀b,F b->b<w.heap.size)(hr1:Af F w a1 (Ar l))(hr2:Af F w a2 (Bl ks)):
  Calls Tryz.prog 84 #[.int .i64 t,.agg #[.int .i64 k,.int .i64 n,.string s,.slice a1 l.length c1,.slice a2 ks.length c2]] w (Qq (M3 t (.mk k n s l ks)) w):=by
 have aM:Below w.heap.size w (w.alloc (.cells #[.int .i64 k,.int .i64 n,.string s,.slice a1 l.length c1,.slice a2 ks.length c2] 42)):=(bRf _ w).alloc (nlr _) _;have H0:=Lq7 (heap_alloc_new w (.cells #[.int .i64 k,.int .i64 n,.string s,.slice a1 l.length c1,.slice a2 ks.length c2] 42));have aF:=Lq7 (Dx (.mk k n s l ks) hs F a1 c1 a2 c2 _ (fun b hb=>nll (hF b hb) aM.size) (hr1.below aM) (hr2.below aM));have aE:=Lq7 aM;have HF:=Lq7 hF;have aH:=Lq7 (hr1.below aM);have aJ:=Lq7 (hr2.below aM);have Hs:=Lq7 hs;unfold A8 at aF;have aD:M3 t (.mk k n s l ks)=(A0 (.mk k n s l ks)&&(if t=1 then k==3 else if t=2 then k==1 else if t=3 then k==2 else if t=4\/t=5\/t=6 then(B9 (.mk k n s l ks)).isSome else false)):=rfl;cases hck:A0 (.mk k n s l ks) with
 | false=>
  rw[hck,Bool.false_and] at aD;have Hf:=Lq7 aD;rw[hck] at aF;go_enter Tryz.func84,Tryz.ntmps84;go_wp2_with fail;refine aF.out.mono ?_;rintro e w1 ⟨rfl,aB⟩;have aC:=Lq7 (aE.out.trans (aB.mono aE.out.size));go_wp2_with fail;go_ret;exact⟨A7 Hf.out.symm,aC.out⟩
 | true=>
  rw[hck,Bool.true_and] at aD;rw[hck] at aF;by_cases h1:t=1
  ·subst h1;rw[if_pos rfl] at aD;have Hf:=Lq7 aD;go_enter Tryz.func84,Tryz.ntmps84;go_wp2_with fail;refine aF.out.mono ?_;rintro e w1 ⟨rfl,aB⟩;have aC:=Lq7 (aE.out.trans (aB.mono aE.out.size));have H1:=Lq7 (stays H0.out aB);have Ht:=Lq7 (Cq k n s l ks Hs.out F a1 c1 a2 c2 w1 (fun b hb=>nll (HF.out b hb) aC.out.size) (aH.out.below aB) (aJ.out.below aB));obtain⟨q0,q1,q2,q3,q4,q5,q6,q7,q8,q9,aN⟩:=Aa H1.out;go_wp2_with fail;go_ret;exact⟨A7 Hf.out.symm,aC.out⟩
  by_cases h2:t=2
  ·subst h2;rw[if_neg (by decide),if_pos rfl] at aD;have Hf:=Lq7 aD;go_enter Tryz.func84,Tryz.ntmps84;go_wp2_with fail;refine aF.out.mono ?_;rintro e w1 ⟨rfl,aB⟩;have aC:=Lq7 (aE.out.trans (aB.mono aE.out.size));have H1:=Lq7 (stays H0.out aB);have Ht:=Lq7 (Cq k n s l ks Hs.out F a1 c1 a2 c2 w1 (fun b hb=>nll (HF.out b hb) aC.out.size) (aH.out.below aB) (aJ.out.below aB));obtain⟨q0,q1,q2,q3,q4,q5,q6,q7,q8,q9,aN⟩:=Aa H1.out;go_wp2_with fail;go_ret;exact⟨A7 Hf.out.symm,aC.out⟩
  by_cases h3:t=3
  ·subst h3;rw[if_neg (by decide),if_neg (by decide),if_pos rfl] at aD;have Hf:=Lq7 aD;go_enter Tryz.func84,Tryz.ntmps84;go_wp2_with fail;refine aF.out.mono ?_;rintro e w1 ⟨rfl,aB⟩;have aC:=Lq7 (aE.out.trans (aB.mono aE.out.size));have H1:=Lq7 (stays H0.out aB);have Ht:=Lq7 (Cq k n s l ks Hs.out F a1 c1 a2 c2 w1 (fun b hb=>nll (HF.out b hb) aC.out.size) (aH.out.below aB) (aJ.out.below aB));obtain⟨q0,q1,q2,q3,q4,q5,q6,q7,q8,q9,aN⟩:=Aa H1.out;go_wp2_with fail;go_ret;exact⟨A7 Hf.out.symm,aC.out⟩
  rw[if_neg h1,if_neg h2,if_neg h3] at aD;by_cases h4:t=4
  ·subst h4;rw[if_pos (by decide)] at aD;have Hf:=Lq7 aD;go_enter Tryz.func84,Tryz.ntmps84;go_wp2_with fail;refine aF.out.mono ?_;rintro e w1 ⟨rfl,aB⟩;have aC:=Lq7 (aE.out.trans (aB.mono aE.out.size));have H1:=Lq7 (stays H0.out aB);have Ht:=Lq7 (Cq k n s l ks Hs.out F a1 c1 a2 c2 w1 (fun b hb=>nll (HF.out b hb) aC.out.size) (aH.out.below aB) (aJ.out.below aB));obtain⟨q0,q1,q2,q3,q4,q5,q6,q7,q8,q9,aN⟩:=Aa H1.out;go_wp2_with fail;refine Ht.out.mono ?_;rintro e w2 ⟨aQ,hq⟩;have aG:=Lq7 (aC.out.trans (aQ.mono aC.out.size));cases hx:B9 (.mk k n s l ks) with
   | none=>
    rw[hx] at hq Hf;obtain rfl:=hq;go_wp2_with fail;go_ret;exact⟨A7 Hf.out.symm,aG.out⟩
   | some l2=>
    rw[hx] at hq Hf;obtain⟨x,rfl,-⟩:=hq;go_wp2_with fail;go_ret;exact⟨A7 Hf.out.symm,aG.out⟩
  by_cases h5:t=5
  ·subst h5;rw[if_pos (by decide)] at aD;have Hf:=Lq7 aD;go_enter Tryz.func84,Tryz.ntmps84;go_wp2_with fail;refine aF.out.mono ?_;rintro e w1 ⟨rfl,aB⟩;have aC:=Lq7 (aE.out.trans (aB.mono aE.out.size));have H1:=Lq7 (stays H0.out aB);have Ht:=Lq7 (Cq k n s l ks Hs.out F a1 c1 a2 c2 w1 (fun b hb=>nll (HF.out b hb) aC.out.size) (aH.out.below aB) (aJ.out.below aB));obtain⟨q0,q1,q2,q3,q4,q5,q6,q7,q8,q9,aN⟩:=Aa H1.out;go_wp2_with fail;refine Ht.out.mono ?_;rintro e w2 ⟨aQ,hq⟩;have aG:=Lq7 (aC.out.trans (aQ.mono aC.out.size));cases hx:B9 (.mk k n s l ks) with
   | none=>
    rw[hx] at hq Hf;obtain rfl:=hq;go_wp2_with fail;go_ret;exact⟨A7 Hf.out.symm,aG.out⟩
   | some l2=>
    rw[hx] at hq Hf;obtain⟨x,rfl,-⟩:=hq;go_wp2_with fail;go_ret;exact⟨A7 Hf.out.symm,aG.out⟩
  by_cases h6:t=6
  ·subst h6;rw[if_pos (by decide)] at aD;have Hf:=Lq7 aD;go_enter Tryz.func84,Tryz.ntmps84;go_wp2_with fail;refine aF.out.mono ?_;rintro e w1 ⟨rfl,aB⟩;have aC:=Lq7 (aE.out.trans (aB.mono aE.out.size));have H1:=Lq7 (stays H0.out aB);have Ht:=Lq7 (Cq k n s l ks Hs.out F a1 c1 a2 c2 w1 (fun b hb=>nll (HF.out b hb) aC.out.size) (aH.out.below aB) (aJ.out.below aB));obtain⟨q0,q1,q2,q3,q4,q5,q6,q7,q8,q9,aN⟩:=Aa H1.out;go_wp2_with fail;refine Ht.out.mono ?_;rintro e w2 ⟨aQ,hq⟩;have aG:=Lq7 (aC.out.trans (aQ.mono aC.out.size));cases hx:B9 (.mk k n s l ks) with
   | none=>
    rw[hx] at hq Hf;obtain rfl:=hq;go_wp2_with fail;go_ret;exact⟨A7 Hf.out.symm,aG.out⟩
   | some l2=>
    rw[hx] at hq Hf;obtain⟨x,rfl,-⟩:=hq;go_wp2_with fail;go_ret;exact⟨A7 Hf.out.symm,aG.out⟩
  ·rw[if_neg (by rintro(h|h|h);exact h4 h;exact h5 h;exact h6 h)] at aD;have Hf:=Lq7 aD;have e1:(t==1)=false:=(by simpa using h1);have e2:(t==2)=false:=(by simpa using h2);have e3:(t==3)=false:=(by simpa using h3);have e4:(t==4)=false:=(by simpa using h4);have e5:(t==5)=false:=(by simpa using h5);have e6:(t==6)=false:=(by simpa using h6);go_enter Tryz.func84,Tryz.ntmps84;go_wp2_with fail;refine aF.out.mono ?_;rintro e w1 ⟨rfl,aB⟩;have aC:=Lq7 (aE.out.trans (aB.mono aE.out.size));have H1:=Lq7 (stays H0.out aB);have Ht:=Lq7 (Cq k n s l ks Hs.out F a1 c1 a2 c2 w1 (fun b hb=>nll (HF.out b hb) aC.out.size) (aH.out.below aB) (aJ.out.below aB));obtain⟨q0,q1,q2,q3,q4,q5,q6,q7,q8,q9,aN⟩:=Aa H1.out;go_wp2_with fail;go_ret;exact⟨A7 Hf.out.symm,aC.out⟩
def copyText:ByteArray:=⟨#[114,117,108,101,32,99,111,112,121,40,115,114,99,58,32,102,105,108,101,115,41,32,123,125]⟩
def copyKids:List Nd:=
 [.mk 6 ⟨#[99,111,112,121]⟩ 1 1 [.mk 7 ⟨#[115,114,99]⟩ 1 11 [.mk 9 ⟨#[102,105,108,101,115]⟩ 1 16 []],.mk 8 ⟨#[]⟩ 1 23 []]]
theorem copy_read:readL copyText.data.toList=some (.ok (.mk 1 ⟨#[]⟩ 1 1 copyKids)):=by kernel_rfl
def fewF(fs:List (ByteArray×ByteArray)):Prop:=fs.length<=60/\∀f∈fs,f.1.size<=300/\f.2.size<=300
def PGreatF(fs:List (ByteArray×ByteArray))(w:World)(e:Ending)(w':World):Prop:=w'=w/\∃b:Bool,e = .returned (.bool b)/\(b=false->fewF fs)
def PGetF(r:Option ByteArray)(w:World)(e:Ending)(w':World):Prop:=w'=w/\e = .returned (.tuple #[.string (r.getD ⟨#[]⟩),.bool r.isSome])
theorem Rl(F fs a cap w)(hl:fs.length<=140737488355328)(hr:Af F w a (G9 fs)):
  Calls Tryz.prog 7 #[.slice a fs.length cap] w (PGreatF fs w):=by
 by_cases h60:(60:Int)<fs.length
 ·go_enter Tryz.func7,Tryz.ntmps7;go_wp2;go_ret;exact⟨rfl,true,rfl,fun h=>by cases h⟩
 ·have Hr:=Lq7 hr;have h60':¬(60:Int)<fs.length:=h60;go_enter Tryz.func7,Tryz.ntmps7;go_wp2
  go_loop [9] (fun i=>∃j:Nat,i = .int .i64 j/\j<=fs.length/\Hid (∀f∈fs.take j,f.1.size<=300/\f.2.size<=300)) (fun i=>fs.length-(intOf i).toNat)
  case atStart=>exact⟨0,rfl,nlz _,Lq7 (fun f hf=>by simp at hf)⟩
  case round=>
   obtain⟨j,rfl,hj,aD⟩:=hrel;by_cases hlt:j<fs.length
   ·have aC:fs[j]? = some fs[j]:=lgE hlt;generalize fs[j]=f at aC;obtain⟨p,d⟩:=f;obtain⟨b,off,rfl,-,hbl,r0,r1⟩:=Hr.out.file aC;have Htk:=Lq7 (show fs.take (j+1)=fs.take j++[(p,d)] by rw[List.take_add_one,aC];rfl);by_cases hp:(300:Int)<p.size
    ·go_wp2;go_ret;exact⟨rfl,true,rfl,fun h=>by cases h⟩
    ·by_cases hd:(300:Int)<d.size
     ·go_wp2;go_ret;exact⟨rfl,true,rfl,fun h=>by cases h⟩
     ·have HN:Hid (∀f∈fs.take (j+1),f.1.size<=300/\f.2.size<=300):=Lq7 (fun f hf=>by
       rw[Htk.out] at hf;rcases List.mem_append.1 hf with h|h
       ·exact aD.out f h
       ·rw[List.mem_singleton.1 h];exact⟨by show p.size<=300;omega,by show d.size<=300;omega⟩)
      go_wp2;go_round
      case rel=>exact⟨j+1,by go_num,by omega,HN⟩
      case measure=>simp only[intOf];omega
   ·have aE:fewF fs:=⟨by omega,by
     have:=aD.out;rw[List.take_of_length_le (by omega)] at this;exact this⟩
    have aF:=Lq7 aE;go_wp2;go_ret;exact⟨rfl,false,rfl,fun _=>aF.out⟩
theorem Vk(F fs a cap p w)(hl:fs.length<=140737488355328)(hr:Af F w a (G9 fs)):
  Calls Tryz.prog 10 #[.slice a fs.length cap,.string p] w (PGetF (getL fs p) w):=by
 have Hr:=Lq7 hr;go_enter Tryz.func10,Tryz.ntmps10;go_wp2
 go_loop [9] (fun i=>∃j:Nat,i = .int .i64 j/\j<=fs.length/\Hid (getL fs p=getL (fs.drop j) p)) (fun i=>fs.length-(intOf i).toNat)
 case atStart=>exact⟨0,rfl,nlz _,Lq7 rfl⟩
 case round=>
  obtain⟨j,rfl,hj,hg⟩:=hrel;by_cases hlt:j<fs.length
  ·have aC:fs[j]? = some fs[j]:=lgE hlt;have aB:fs.drop j=fs[j]::fs.drop (j+1):=List.drop_eq_getElem_cons hlt;generalize fs[j]=f at aC aB;obtain⟨q,d⟩:=f;obtain⟨b,off,rfl,-,hbl,r0,r1⟩:=Hr.out.file aC;have aG:=Lq7 (hg.out.trans (by rw[aB,getL]));cases hs:(q.toList==p.toList)
   ·have Hn:Hid (getL fs p=getL (fs.drop (j+1)) p):=Lq7 (by rw[aG.out,if_neg (by rw[<-Lq8,<-Lq8,hs];decide)]);go_wp2;go_round
    case rel=>exact⟨j+1,by go_num,by omega,Hn⟩
    case measure=>simp only[intOf];omega
   ·have Hn:Hid (getL fs p=some d):=Lq7 (by rw[aG.out,if_pos (by rw[<-Lq8,<-Lq8,hs])]);go_wp2;exact bodyPost_ret (v:=.tuple #[.string d,.bool true]) (by simp[results,Tryz.results10,go_sem]) rfl ⟨rfl,by rw[Hn.out];rfl⟩
  ·have Hn:Hid (getL fs p=none):=Lq7 (by rw[hg.out,List.drop_eq_nil_of_le (by omega)];rfl);go_wp2;exact bodyPost_ret (v:=.tuple #[.string ⟨#[]⟩,.bool false]) (by simp[results,Tryz.results10,go_sem]) rfl ⟨rfl,by rw[Hn.out];rfl⟩
end Go.Proofs.YtbcdimjbepigcaaGreatDoor
