/-
  How long a value's text is at most;the walk of value.Print. (And what it stands on.)
-/
import Derived.Lib.LaidTab
import Derived.Lib.ItoaNum
import Derived.Laws.OwnMore
import Derived.Lib.ItoaLen
import Derived.Test.YtkehdallfohjfaaGreatDoorMReads
import Derived.Test.YtkehdallfohjfaaGreatDoorMSame11
import Derived.Test.YtkehdallfohjfaaGreatDoorJoin
import Derived.Test.YtkehdallfohjfaaGreatDoorMEvalPlain
import Derived.Test.YtkehdallfohjfaaGreatDoorMLoadGood
import Derived.Test.YtkehdallfohjfaaGreatDoorMTexts11
import Derived.Test.YtkehdallfohjfaaGreatDoorMRefNumB
import Derived.Test.YtkehdallfohjfaaGreatDoorMOpPlain
namespace Go.Proofs.YtkehdallfohjfaaGreatDoor
open Go Go.RowKit
open List renaming getElem?_eq_getElem->lgE,mem_of_getElem? -> lgM,length_append->lnA,take_add_one->ltA,take_of_length_le->ltL,length_map->lnM,length_take->lnT,length_cons->lnC,mem_cons_self->lmS,mem_cons_of_mem->lmO,length_nil->lnN,getElem?_map->lgP,getElem?_eq_some_iff->lgS
open Nat renaming le_refl->nlr,zero_le->nlz
open Go.Lib renaming hid->Lq7,toList_data->Lq8
open And renaming intro->aIn
open Go.RowKit.Below renaming refl->bRf
open Bool renaming and_eq_true->bAt
set_option maxRecDepth 100000
set_option maxHeartbeats 16000000
def toBs(l:List UInt8):ByteArray:=⟨l.toArray⟩
theorem Jr(l):(toBs l).data.toList=l:=rfl
def Bw(ks:List ByteArray)(ts:List (List UInt8)):List (List UInt8):=List.zipWith (fun k t=>quoteL k.data.toList++[58,32]++t) ks ts
mutual
def Bl:Vl->List UInt8
 | .mk k n s l ks=>if k=1 then(if n=1 then [116,114,117,101] else [102,97,108,115,101]) else if k=2 then Lib.itoa n else if k=3 then quoteL s.data.toList
  else if k=4 then [91]++Lib.join (Bx l) [44,32]++[93] else if k=5 then [123]++Lib.join (Bw ks (Bx l)) [44,32]++[125] else [110,111,110,101]
def Bx:List Vl->List (List UInt8)
 | []=>[]
 | v::t=>Bl v::Bx t
end
theorem textVs_map:∀l:List Vl,Bx l=l.map Bl
 | []=>rfl
 | v::t=>by rw[Bx,textVs_map t,List.map_cons]
def I0(v:Vl):List UInt8:=if A7 v then Bl v else []
mutual
def prV:Vl->Prop
 | .mk k n s l ks=>inR n=true/\s.size<=65536/\l.length<=1000/\ks.length<=1000/\(∀x∈ks,x.size<=65536)/\(k=5->l.length=ks.length)/\prVs l
def prVs:List Vl->Prop
 | []=>True
 | v::t=>prV v/\prVs t
end
theorem prVs_mem:∀{l:List Vl} {x:Vl},prVs l->x∈l->prV x
 | _::_,_,h,.head _=>h.1
 | _::_,_,h,.tail _ hm=>prVs_mem h.2 hm
theorem Pm{n s l ks}(h:Bf 5 n s l ks=true):l.length=ks.length:=by
 unfold Bf at h;rw[if_neg (by decide),if_neg (by decide),if_neg (by decide),if_neg (by decide),if_neg (by decide),if_pos rfl] at h;simp only[bAt,beq_iff_eq] at h;exact h.1.2
theorem may_pr(v):∀d m,(mayV v d m).1=true->prV v:=
 Vl.rec (motive_1:=fun v=>∀d m,(mayV v d m).1=true->prV v) (motive_2:=fun l=>∀d m,(B4 l d m).1=true->prVs l)
  (fun k n s l ks ih d m h=>by
   rw[mayV] at h;split at h
   ·cases h
   ·split at h
    ·rename_i hk
     obtain⟨h1,h2,h3,h4⟩:=Gw hk;rw[prV];exact⟨M5 hk,h1,h2,h3,h4,fun e=>by subst e;exact Pm hk,ih _ _ h⟩
    ·cases h)
  (fun _ _ _=>by rw[prVs];trivial)
  (fun v t hv ht d m h=>by
   rw[B4] at h;split at h
   ·rename_i h1
    rw[prVs];exact⟨hv _ _ h1,ht _ _ h⟩
   ·cases h) v
theorem Pn{v}(h:A7 v=true):prV v:=may_pr v _ _ h
def textMax:Nat:=140737488355328
def Jd(x:Vl):Prop:=prV x->(Bl x).length<=textMax->∀(F:Nat->Prop) (a1:Option Addr) (c1:Nat) (a2:Option Addr) (c2:Nat) (w:World),(∀b,F b->b<w.heap.size)->Ea w->Ag F w a1 (A5 x.items)->Ag F w a2 (Bc x.keys) ->
 Calls Tryz.prog 22 #[B7 x.kind x.num x.str a1 x.items.length c1 a2 x.keys.length c2] w (Jq (Bl x) w)
def PAll(l:List Vl)(w:World)(e:Ending)(w':World):Prop:=∃v,e = .returned v/\OwnS w' w.heap.size v (l.map fun x=>toBs (Bl x))/\Below w.heap.size w w'
theorem Lw(l)(hl:l.length<=1000)(hc:∀x∈l,Jd x/\prV x/\(Bl x).length<=textMax)(F a cap w)(hF:∀b,F b->b<w.heap.size)(hT:Ea w)(hr:Ag F w a (A5 l)):
  Calls Tryz.prog 42 #[.slice a l.length cap,.func (.func 22) #[] #[]] w (PAll l w):=by
 obtain⟨i0,hi,hz0,hz1,hz2⟩:=info_parts infoStr;have hen:∀args w,(callFunc 22 args).run Tryz.prog w = .ok (.enter 22 args) w:=enters_of Tryz.func22 (by kernel_rfl) rfl;have Hc:=Lq7 hc;have HF:=Lq7 hF;have HT:=Lq7 hT;have Hr:=Lq7 hr;go_enter Tryz.func42,Tryz.ntmps42;go_wp2_with fail
 go_loopw [5,10] (fun v i wr=>∃(k:Nat) (v':Value),v=v'/\i = .int .i64 k/\k<=l.length/\Hid (OwnS wr w.heap.size v' ((l.take k).map fun x=>toBs (Bl x)))/\Hid (Below w.heap.size w wr)) (fun _ i _=>l.length-(intOf i).toNat)
 case atStart=>exact⟨0,_,rfl,rfl,nlz _,Lq7 (OwnS.nil _ _),Lq7 (bRf _ _)⟩
 case round=>
  obtain⟨k,v,hv,rfl,hk,hown,aC⟩:=hrel;have hv:=hv.symm;subst hv;by_cases hlt:k<l.length
  ·cases hx:l[k] with
   | mk xk xn xs xl xks=>
    have aI:l[k]? = some (.mk xk xn xs xl xks):=(by rw[lgE hlt,hx]);have htk:(l.take (k+1)).map (fun x=>toBs (Bl x))=(l.take k).map (fun x=>toBs (Bl x))++[toBs (Bl (.mk xk xn xs xl xks))]:=(by rw[ltA,aI];simp);obtain⟨b,off,a1,c1,a2,c2,hae,-,hbl,r0,r1,r2,r3,r4,hv1,hv2⟩:=(Hr.out.below aC.out).val aI;obtain⟨hxc,hxp,hxl⟩:=Hc.out _ (lgM aI);have aD:Below wr.heap.size wr (wr.alloc (.cells #[.int .i64 xk,.int .i64 xn,.string xs,.slice a1 xl.length c1,.slice a2 xks.length c2] 25)):=(bRf _ wr).alloc (nlr _) _;have HX:=Lq7 (hxc hxp hxl F a1 c1 a2 c2 _ (fun b hb=>by have:=HF.out b hb;have:=aC.out.size;have:=aD.size;omega) ((HT.out.below aC.out).below aD) (hv1.below aD) (hv2.below aD));unfold B7 at HX;have aE:=Lq7 (hown.out.below aD);have aN:=Lq7 (aC.out.trans (aD.mono aC.out.size));have Htk:=Lq7 htk;subst hae;go_wp2_with fail;refine HX.out.mono ?_;rintro e w1 ⟨o,rfl,ho,aQ⟩;obtain rfl:o=toBs (Bl (.mk xk xn xs xl xks)):=bytes_ext ho;have aA:=Lq7 (aE.out.below aQ);have aH:=Lq7 (aN.out.trans (aQ.mono aN.out.size));generalize toBs (Bl (.mk xk xn xs xl xks))=o at *;have aR:Below w1.heap.size w1 (w1.alloc (.cells #[.string o] 9)):=(bRf _ w1).alloc (nlr _) _;have Hn:=Lq7 (aIn (lit_one w1 (.string o) 9) (aA.out.below aR));have aJ:((l.take k).map fun x=>toBs (Bl x)).length=k:=(by rw[lnM,lnT];omega)
    go_wp2_with (at_builtin;refine Ca rfl _ _ 23 rfl w.heap.size 9 i0 (.string ByteArray.empty) 1 16 Tryz.underlying23 hi hz0 hz1 hz2 rfl (by decide) v _ _ rfl Hn.out.2 ⟨w1.heap.size,0,none⟩ 1 1 [.string o] rfl rfl Hn.out.1 ?_ ?_ ?_ ?_ ?_)
    ·simp[Value.oneCell']
    ·rw[aJ];unfold maxLen;omega
    ·rw[aJ];omega
    ·have:=aH.out.size;simp;omega
    intro v2 w2 aB hg2 _;have aF:OwnS w2 w.heap.size v2 ((l.take (k+1)).map fun x=>toBs (Bl x)):=by
     rw[Htk.out];unfold OwnS;rw[lnA,List.map_append,List.map_map,aJ]
     first|exact aB|(rw[List.map_take];exact aB)
    have aG:=Lq7 aF;have Hb3:=Lq7 ((aH.out.trans (aR.mono aH.out.size)).trans (Cw hg2 (fun g e=>(aA.out.block e).1) (by have:=aH.out.size;simp;omega)));go_wp2_with fail;go_roundw
    case rel=>exact⟨k+1,_,rfl,by go_num,by omega,aG,Hb3⟩
    case measure=>simp only[intOf];omega
  ·have aM:Hid (OwnS wr w.heap.size v (l.map fun x=>toBs (Bl x))):=Lq7 (by have:=hown.out;rwa [ltL (by omega)] at this);go_wp2_with fail;go_ret;exact⟨_,rfl,aM.out,aC.out⟩
theorem kt_inv{t:Tok}{k s}(h:t.kt=(k,s)):∃a b,t=⟨k,bs s,a,b⟩:=by
 obtain⟨k',tx,a,b⟩:=t;simp only[Tok.kt,Prod.mk.injEq] at h;obtain⟨rfl,h2⟩:=h;exact⟨a,b,by rw[show tx=bs s from bytes_ext h2]⟩
theorem kts_cons{ts k s ks}(h:ts.map Tok.kt=(k,s)::ks):∃a b r,ts=⟨k,bs s,a,b⟩::r/\r.map Tok.kt=ks:=by
 cases ts with
 | nil=>cases h
 | cons t r=>
  rw[List.map_cons,List.cons.injEq] at h;obtain⟨a,b,rfl⟩:=kt_inv h.1;exact⟨a,b,r,rfl,h.2⟩
theorem kts_nil{ts}(h:ts.map Tok.kt=[]):ts=[]:=List.map_eq_nil_iff.1 h
variable {en:Int×Int}
def Ih(l:List ByteArray):List KT:=l.flatMap fun s=>[(4,[44]),(3,s.data.toList)]
def listK:List ByteArray->List KT
 | []=>[]
 | s::t=>(3,s.data.toList)::Ih t
def IsText(n:Nd)(s:ByteArray):Prop:=n.kind=11/\n.text=s/\n.kids=[]
inductive AreTexts:List Nd->List ByteArray->Prop
 | nil:AreTexts [] []
 | cons {n:Nd} {s:ByteArray} {ns:List Nd} {l:List ByteArray}:IsText n s->AreTexts ns l->AreTexts (n::ns) (s::l)
theorem AreTexts.ks:∀{ns:List Nd} {l:List ByteArray},AreTexts ns l->ndKss ns
 | _,_,.nil=>by rw[ndKss];trivial
 | n::ns,_,.cons h ht=>by
  rw[ndKss];refine⟨?_,ht.ks⟩;obtain⟨k,t,a,b,kids⟩:=n;obtain⟨rfl,-,rfl⟩:=h;simp[ndKs,ndKss]
theorem Rn(L:Lvl)(s:ByteArray)(a b:Int)(r:List Tok)(d:Int):pPrim en L (⟨3,s,a,b⟩::r) d = .ok (.mk 11 s a b []) r d:=rfl
def Ends(r:List Tok):Prop:=∃c a b t,r=⟨4,bs [c],a,b⟩::t/\(c=41\/c=93\/c=44)
theorem Ma{L:Lvl}{ts r:List Tok}{d:Int}{n:Nd}(h:pPrim en L ts d = .ok n r d)(hr:Ends r):Co en L ts d = .ok n r d:=by
 obtain⟨c,a,b,t,rfl,hc⟩:=hr;have h1:pSum en L ts d = .ok n (⟨4,bs [c],a,b⟩::t) d:=by
  refine(B8 h).trans ?_;rcases hc with rfl|rfl|rfl<;>rfl
 refine(B8 h1).trans ?_;rcases hc with rfl|rfl|rfl<;>rfl
theorem Oi{f:Nat}{s:ByteArray}{a b:Int}{r:List Tok}{d:Int}(hr:Ends r):PM.bind (lvl en (f+1)).expr (fun x=>PM.pure [x]) (⟨3,s,a,b⟩::r) d = .ok [.mk 11 s a b []] r d:=by
 exact B8 (show(lvl en (f+1)).expr (⟨3,s,a,b⟩::r) d=_ from Ma (Rn _ s a b r d) hr)
theorem Mb(f:Nat){K:List KT}(d:Int):∀(l:List ByteArray) (g:Nat) (acc:List Nd) (ts:List Tok),acc≠[]->l.length<g->ts.map Tok.kt=Ih l++(4,[93])::K ->
  ∃ns a b r,Cd en [93] (PM.bind (lvl en (f+1)).expr fun x=>PM.pure [x]) g acc ts d = .ok (acc++ns) (⟨4,bs [93],a,b⟩::r) d/\r.map Tok.kt=K/\AreTexts ns l
 | [],g+1,acc,ts,_,_,h=>by
  obtain⟨a,b,r,rfl,hr⟩:=kts_cons h;exact⟨[],a,b,r,by rw[List.append_nil];rfl,hr,.nil⟩
 | s::t,g+1,acc,ts,ha,hg,h=>by
  obtain⟨a,b,r,rfl,hr⟩:=kts_cons (ks:=(3,s.data.toList)::(Ih t++(4,[93])::K)) h;obtain⟨a2,b2,r2,rfl,hr2⟩:=kts_cons hr;have he:Ends r2:=by
   cases t with
   | nil=>obtain⟨x,y,z,rfl,-⟩:=kts_cons hr2;exact⟨93,x,y,z,rfl,.inr (.inl rfl)⟩
   | cons s2 t2=>
    obtain⟨x,y,z,rfl,-⟩:=kts_cons (ks:=(3,s2.data.toList)::(Ih t2++(4,[93])::K)) hr2;exact⟨44,x,y,z,rfl,.inr (.inr rfl)⟩
  rw[lnC] at hg;obtain⟨ns,x,y,z,h1,h2,h3⟩:=Mb f d t g (acc++[.mk 11 (bs s.data.toList) a2 b2 []]) r2 (by simp) (by omega) hr2;refine⟨.mk 11 (bs s.data.toList) a2 b2 []::ns,x,y,z,?_,h2,.cons ⟨rfl,bytes_ext rfl,rfl⟩ h3⟩;have hc:(if acc=[] then(PM.pure ():PM Unit) else Cs en [44]) (⟨4,bs [44],a,b⟩::⟨3,bs s.data.toList,a2,b2⟩::r2) d = .ok () (⟨3,bs s.data.toList,a2,b2⟩::r2) d:=by
   rw[if_neg ha];rfl
  have e1:Cd en [93] (PM.bind (lvl en (f+1)).expr fun x=>PM.pure [x]) (g+1) acc (⟨4,bs [44],a,b⟩::⟨3,bs s.data.toList,a2,b2⟩::r2) d =
    PM.bind (if acc=[] then PM.pure () else Cs en [44]) (fun _=>PM.bind (PM.bind (lvl en (f+1)).expr fun x=>PM.pure [x]) fun l=>Cd en [93] (PM.bind (lvl en (f+1)).expr fun x=>PM.pure [x]) g (acc++l)) (⟨4,bs [44],a,b⟩::⟨3,bs s.data.toList,a2,b2⟩::r2) d:=rfl
  rw[e1,B8 hc,B8 (Oi he),h1,List.append_assoc];rfl
theorem Ro(f:Nat){K:List KT}(d:Int)(hd:d<60)(l:List ByteArray)(ts:List Tok)(h:ts.map Tok.kt=(4,[91])::(listK l++(4,[93])::K)):
  ∃ns a b r,pPrim en (lvl en (f+1)) ts d = .ok (.mk 12 ⟨#[]⟩ a b ns) r d/\r.map Tok.kt=K/\AreTexts ns l:=by
 obtain⟨a,b,r,rfl,hr⟩:=kts_cons h;have hlen:r.length=(listK l++(4,[93])::K).length:=(by rw[<-hr,lnM]);have hlt:∀t:List ByteArray,(Ih t).length=2*t.length:=fun t=>by
  induction t with
  | nil=>rfl
  | cons s t ih=>unfold Ih at *;rw[List.flatMap_cons,lnA,ih];simp;omega
 have hgo:∃ns x y z,Cd en [93] (PM.bind (lvl en (f+1)).expr fun x=>PM.pure [x]) (r.length+1) [] r (d+1) = .ok ns (⟨4,bs [93],x,y⟩::z) (d+1)/\z.map Tok.kt=K/\AreTexts ns l:=by
  cases l with
  | nil=>
   obtain⟨x,y,z,rfl,hz⟩:=kts_cons hr;exact⟨[],x,y,z,rfl,hz,.nil⟩
  | cons s t=>
   obtain⟨a2,b2,r2,rfl,hr2⟩:=kts_cons (ks:=Ih t++(4,[93])::K) hr;have he:Ends r2:=by
    cases t with
    | nil=>obtain⟨x,y,z,rfl,-⟩:=kts_cons hr2;exact⟨93,x,y,z,rfl,.inr (.inl rfl)⟩
    | cons s2 t2=>
     obtain⟨x,y,z,rfl,-⟩:=kts_cons (ks:=(3,s2.data.toList)::(Ih t2++(4,[93])::K)) hr2;exact⟨44,x,y,z,rfl,.inr (.inr rfl)⟩
   have h2:=hlt t;rw[lnC,listK,List.cons_append,lnC,lnA] at hlen;obtain⟨ns,x,y,z,h3,h4,h5⟩:=Mb (en:=en) f (d+1) t (r2.length+1) [.mk 11 (bs s.data.toList) a2 b2 []] r2 (by simp) (by omega) hr2;refine⟨_,x,y,z,?_,h4,.cons (n:=.mk 11 (bs s.data.toList) a2 b2 []) ⟨rfl,bytes_ext rfl,rfl⟩ h5⟩;have e1:Cd en [93] (PM.bind (lvl en (f+1)).expr fun x=>PM.pure [x]) ((⟨3,bs s.data.toList,a2,b2⟩::r2:List Tok).length+1) [] (⟨3,bs s.data.toList,a2,b2⟩::r2) (d+1) =
     PM.bind (PM.bind (lvl en (f+1)).expr fun x=>PM.pure [x]) (fun l=>Cd en [93] (PM.bind (lvl en (f+1)).expr fun x=>PM.pure [x]) (r2.length+1) ([]++l)) (⟨3,bs s.data.toList,a2,b2⟩::r2) (d+1):=rfl
   rw[e1,B8 (Oi he)];exact h3
 obtain⟨ns,x,y,z,h1,h2,h3⟩:=hgo;refine⟨ns,a,b,z,?_,h2,h3⟩;have ho:Cn en true (⟨4,bs [91],a,b⟩::r) d = .ok ⟨4,bs [91],a,b⟩ r (d+1):=by
  unfold Cn;rw[if_neg (by simp;omega)];rfl
 have e1:pPrim en (lvl en (f+1)) (⟨4,bs [91],a,b⟩::r) d=PM.bind (Cn en true) (fun _=>PM.bind (Ck en [93] (PM.bind (lvl en (f+1)).expr fun x=>PM.pure [x])) fun l=>PM.bind (Cj en [93]) fun _=>PM.pure (Ax 12 ⟨4,bs [91],a,b⟩ ⟨#[]⟩ l)) (⟨4,bs [91],a,b⟩::r) d:=rfl;rw[e1,B8 ho,B8 (show Ck en [93] (PM.bind (lvl en (f+1)).expr fun x=>PM.pure [x]) r (d+1)=_ from h1),B8 (show Cj en [93] (⟨4,bs [93],x,y⟩::z) (d+1) = .ok () z (d+1 - 1) from rfl)];rw[show d+1 - 1=d by omega];rfl
def I2(kd:List UInt8):List UInt8:=[114,117,108,101,32,114,40,120,58,32]++(kd++[32,61,32])
def footB:List UInt8:=[41,32,123,125]
def Jx(kd:List UInt8):List KT:=[(1,[114,117,108,101]),(1,[114]),(4,[40]),(1,[120]),(4,[58]),(1,kd),(4,[61])]
def footK:List KT:=[(4,[41]),(4,[123]),(4,[125])]
def kindWords:List (List UInt8):=[[98,111,111,108],[105,110,116],[116,101,120,116],[116,101,120,116,115]]
theorem foot_reads:Reads footB footK:=.sign (by decide) (.gap (by decide) (.sign (by decide) (.sign (by decide) .nil)))
theorem Pq{kd}(hk:kd∈kindWords){r ks}(h:Reads r ks):Reads (I2 kd++r) (Jx kd++ks):=by
 have hw:WordL kd:=by
  unfold kindWords at hk;simp only[List.mem_cons,List.not_mem_nil,or_false] at hk;rcases hk with rfl|rfl|rfl|rfl
  ·exact⟨98,[111,111,108],rfl,by decide,by decide⟩
  ·exact⟨105,[110,116],rfl,by decide,by decide⟩
  ·exact⟨116,[101,120,116],rfl,by decide,by decide⟩
  ·exact⟨116,[101,120,116,115],rfl,by decide,by decide⟩
 have h1:Reads (kd++(32::61::32::r)) ((1,kd)::(4,[61])::ks):=.word hw (.cons (by decide)) (.gap (by decide) (.eq (.cons (by decide)) (.gap (by decide) h)));have h2:Reads ([114,40,120,58,32]++(kd++(32::61::32::r))) ((1,[114])::(4,[40])::(1,[120])::(4,[58])::(1,kd)::(4,[61])::ks):=
  Reads.word (l:=[114]) ⟨114,[],rfl,by decide,by decide⟩ (.cons (by decide)) (.sign (by decide) (Reads.word (l:=[120]) ⟨120,[],rfl,by decide,by decide⟩ (.cons (by decide)) (.sign (by decide) (.gap (by decide) h1))))
 have h3:=Reads.word (l:=[114,117,108,101]) ⟨114,[117,108,101],rfl,by decide,by decide⟩ (.cons (by decide)) (Reads.gap (c:=32) (by decide) h2);unfold I2 Jx
 simpa using h3
def DefV(v:Vl)(kd:List UInt8):Prop:=A7 v=true/\((v.kind=1/\kd=[98,111,111,108])\/(v.kind=2/\0<=v.num/\kd=[105,110,116])\/(v.kind=3/\Fy v.str.data.toList/\kd=[116,101,120,116]) \/
 (v.kind=4/\(∀x∈v.items,x.kind=3/\Fy x.str.data.toList)/\kd=[116,101,120,116,115]))
theorem Gn{k n s l ks}(h:A7 (.mk k n s l ks)=true):Bf k n s l ks=true:=by
 unfold A7 at h;rw[mayV] at h;split at h
 ·cases h
 ·split at h
  ·assumption
  ·cases h
theorem G3{n s l ks}(h:A7 (.mk 3 n s l ks)=true):n=0/\l=[]/\ks=[]/\s.size<=65536:=by
 have h:=Gn h;unfold Bf at h;simp at h;exact⟨h.1.1.1,h.1.2,h.2,h.1.1.2⟩
def rowD(v:Vl):List ByteArray:=if v.kind=3 then [v.str] else(B2 v).getD []
def wordD(v:Vl):List UInt8:=
 if(∃x∈rowD v,quoteL x.data.toList=[]) then [] else if(B2 v).isSome=true then [116,101,120,116,115] else if v.kind=3 then [116,101,120,116] else if v.kind=1 then [98,111,111,108] else if v.kind=2/\0<=v.num then [105,110,116] else []
def Fh(v:Vl):List UInt8:=if A7 v=true then wordD v else []
theorem R4{l}(h:quoteL l≠[]):Fy l:=by
 unfold quoteL at h;split at h
 ·exact absurd rfl h
 ·rename_i hn
  intro x hx;cases hb:Gt x with
  | false=>rfl
  | true=>exact absurd (List.any_eq_true.2 ⟨x,hx,hb⟩) hn
theorem Qb{v}(h:Fh v≠[]):DefV v (Fh v):=by
 unfold Fh at *;split at h
 ·rename_i aF
  rw[if_pos aF];refine⟨aF,?_⟩;unfold wordD at *;split at h
  ·exact absurd rfl h
  ·rename_i hq
   rw[if_neg hq];have hq':∀x∈rowD v,Fy x.data.toList:=fun x hx=>R4 fun e=>hq ⟨x,hx,e⟩;unfold rowD at hq';split at h
   ·rename_i ht
    rw[if_pos ht];unfold B2 at ht hq';split at ht
    ·rename_i hc
     rw[if_pos hc,if_neg (by rw[hc.1];decide)] at hq';refine .inr (.inr (.inr ⟨hc.1,fun x hx=>⟨?_,hq' _ (List.mem_map.2 ⟨x,hx,rfl⟩)⟩,rfl⟩));have:=List.all_eq_true.1 hc.2.2 x hx
     simpa using this
    ·cases ht
   ·rename_i ht
    rw[if_neg ht];split at h
    ·rename_i h3
     rw[if_pos h3] at hq' |-;exact .inr (.inr (.inl ⟨h3,hq' _ (List.mem_singleton.2 rfl),rfl⟩))
    ·rename_i h3
     rw[if_neg h3];split at h
     ·rename_i h1
      rw[if_pos h1];exact .inl ⟨h1,rfl⟩
     ·rename_i h1
      rw[if_neg h1];split at h
      ·rename_i h2
       rw[if_pos h2];exact .inr (.inl ⟨h2.1,h2.2,rfl⟩)
      ·exact absurd rfl h
 ·exact absurd rfl h
theorem R5(k n s l ks)(hs:A4 (.mk k n s l ks))(F a1 c1 a2 c2 w)(hr1:Ag F w a1 (A5 l))(hr2:Ag F w a2 (Bc ks)):
  Calls Tryz.prog 6 #[.agg #[.int .i64 k,.int .i64 n,.string s,.slice a1 l.length c1,.slice a2 ks.length c2]] w (Jq (Fh (.mk k n s l ks)) w):=by
 have bI:Below w.heap.size w (w.alloc (.cells #[.int .i64 k,.int .i64 n,.string s,.slice a1 l.length c1,.slice a2 ks.length c2] 25)):=(bRf _ w).alloc (nlr _) _;have H0:=Lq7 (aIn (heap_alloc_new w (.cells #[.int .i64 k,.int .i64 n,.string s,.slice a1 l.length c1,.slice a2 ks.length c2] 25)) bI);have HC:=Lq7 (Nt k n s l ks hs F a1 c1 a2 c2 _ (hr1.below bI) (hr2.below bI));have HT:=Lq7 (fun(aF:A7 (.mk k n s l ks)=true) W (h:Below w.heap.size w W)=>N6 k n s l ks aF F a1 c1 a2 c2 W (hr1.below h) (hr2.below h));have bJ:=Lq7 (fun(aF:A7 (.mk k n s l ks)=true)=>aIn (check_len aF) (fun x (hx:x∈l) (hx3:x.kind=3)=>show x.str.size<=65536 from by
  have:=G4 aF x hx;obtain⟨xk,xn,xs,xl,xks⟩:=x;obtain rfl:xk=3:=hx3;exact(G3 this).2.2.2))
 have bR:Fh (.mk k n s l ks)=if A7 (.mk k n s l ks)=true then wordD (.mk k n s l ks) else []:=rfl;have hw:wordD (.mk k n s l ks)=if(∃x∈rowD (.mk k n s l ks),quoteL x.data.toList=[]) then [] else if(B2 (.mk k n s l ks)).isSome=true then [116,101,120,116,115] else if k=3 then [116,101,120,116] else if k=1 then [98,111,111,108] else if k=2/\0<=n then [105,110,116] else []:=rfl;have bD:rowD (.mk k n s l ks)=if k=3 then [s] else(B2 (.mk k n s l ks)).getD []:=rfl;have bS:∀ts,B2 (.mk k n s l ks)=some ts->¬k=3/\ts=l.map Vl.str/\∀x∈l,x.kind=3:=by
  intro ts h;unfold B2 at h;split at h
  ·rename_i hc
   cases h;refine⟨by have:=hc.1;show ¬k=3;rw[show k=4 from hc.1];decide,rfl,fun x hx=>?_⟩;have:=List.all_eq_true.1 hc.2.2 x hx
   simpa using this
  ·cases h
 rw[bR];clear bI hr1 hr2 hs bR;generalize wordD (.mk k n s l ks)=wd at *;generalize rowD (.mk k n s l ks)=aA at *;generalize hR:B2 (.mk k n s l ks)=R at *;have aH:=Lq7 bD;have Hw:=Lq7 hw;have bB:=Lq7 bS;clear bD hw bS hR;cases aF:A7 (.mk k n s l ks) with
 | false=>
  rw[aF] at HC;clear HT bJ aH Hw bB aF;go_enter Tryz.func6,Tryz.ntmps6;go_wp2_with fail;refine HC.out.mono ?_;rintro e w1 ⟨rfl,bC⟩;have H1:=Lq7 (H0.out.2.trans (bC.mono H0.out.2.size));clear bC HC H0;go_wp2_with fail;go_ret;exact⟨_,rfl,rfl,H1.out⟩
 | true=>
  rw[aF] at HC;replace HT:=Lq7 (HT.out aF);have aJ:=Lq7 (bJ.out aF);clear bJ aF;go_enter Tryz.func6,Tryz.ntmps6;go_wp2_with fail;refine HC.out.mono ?_;rintro e w1 ⟨rfl,bC⟩;have H1:=Lq7 (aIn (stays H0.out.1 bC) (H0.out.2.trans (bC.mono H0.out.2.size)));clear bC HC H0;have HX:=Lq7 (HT.out _ H1.out.2);obtain⟨q0,q1,q2,q3,q4,q5,-⟩:=Aa H1.out.1;clear HT
  go_upto_region 3 with fail
  go_cut [3,4] from 4 (fun v u wc=>∃(a:Option Addr) (c:Nat),v = .slice a (R.getD []).length c/\u = .bool R.isSome/\Hid (B9 wc a (R.getD []))/\Hid (wc.heap[w.heap.size]? = some (.cells #[.int .i64 k,.int .i64 n,.string s,.slice a1 l.length c1,.slice a2 ks.length c2] 25 (0,0))/\Below w.heap.size w wc))
  case first=>
   go_wp2_with fail;refine HX.out.mono ?_;rintro e w2 ⟨bL,hq⟩;have H2:=Lq7 (aIn (stays H1.out.1 bL) (H1.out.2.trans (bL.mono H1.out.2.size)));clear HX H1 q0 q1 q2 q3 q4 q5 aJ bB aH Hw bL;cases R with
   | some ts=>
    obtain⟨x,rfl,hown⟩:=hq;obtain⟨a,c,rfl,aM,-⟩:=hown.strsAt;have Hst:=Lq7 aM;clear hown aM;go_wp2_with fail;go_meet;exact⟨a,c,rfl,rfl,Hst,H2⟩
   | none=>
    obtain⟨x,rfl⟩:=hq;go_wp2_with fail;go_meet;exact⟨x,0,rfl,rfl,Lq7 (fun j y hj=>by simp at hj),H2⟩
  case rest=>
   clear HX H1 q0 q1 q2 q3 q4 q5;obtain⟨a0,c0,rfl,rfl,aS,aW⟩:=hcut
   go_upto_region 4 with fail
   have Hq:=Lq7 (fun(x:ByteArray) (hx:x.size<=65536) W=>N2 x W hx);have hsz:∀x∈aA,x.size<=65536:=by
    intro x hx;rw[aH.out] at hx;split at hx
    ·rw[List.mem_singleton.1 hx];exact aJ.out.1.1
    ·cases hR:R with
     | none=>rw[hR] at hx;cases hx
     | some ts=>
      rw[hR] at hx;obtain⟨-,rfl,h3⟩:=bB.out _ hR;obtain⟨y,hy,rfl⟩:=List.mem_map.1 hx;exact aJ.out.2 y hy (h3 y hy)
   have bE:=Lq7 hsz;have hlen:aA.length<=1000:=by
    rw[aH.out];split
    ·simp
    ·cases hR:R with
     | none=>simp
     | some ts=>obtain⟨-,rfl,-⟩:=bB.out _ hR;simp only[Option.getD_some,lnM];exact aJ.out.1.2.1
   have aG:=aH;have aY:=bB;clear hsz aJ bB aH;by_cases hk3:k=3
   ·subst hk3;obtain⟨p0,p1,p2,p3,p4,p5,-⟩:=Aa aW.out.1;have aU:=aG.out;rw[if_pos rfl] at aU;have bM:Below wc.heap.size wc (wc.alloc (.cells #[.string s] 9)):=(bRf _ _).alloc (nlr _) _;have bF:=heap_alloc_new wc (.cells #[.string s] 9);have hh:=Lq7 (aIn (stays aW.out.1 bM) (aW.out.2.trans (bM.mono aW.out.2.size)));have aM:Hid (B9 (wc.alloc (.cells #[.string s] 9)) (some ⟨wc.heap.size,0,none⟩) aA):=Lq7 (by
     rw[aU];intro j y hj;cases j with
     | zero=>
      simp at hj;subst hj;exact⟨wc.heap.size,0,rfl,by obtain⟨b1,b2,b3⟩:=A3 bF;exact b2 0⟩
     | succ j=>simp at hj)
    have hl1:aA.length=1:=(by rw[aU];rfl);have Hn3:Hid (R=none):=Lq7 (by
     cases hR:R with
     | none=>rfl
     | some ts=>exact absurd rfl (aY.out ts hR).1)
    have hn3:=Hn3.out;subst hn3;clear bM bF aU aS aW aG aY
    go_upto_region 6 with fail
    generalize World.alloc _ _=W7 at hh aM |-;generalize hbx:wc.heap.size=bx at aM |-;clear hbx p0 p1 p2 p3 p4 p5;obtain⟨a,ha⟩:∃a:Option Addr,a=some ⟨bx,0,none⟩:=⟨_,rfl⟩;rw[<-ha] at aM |-;clear ha;go_wp2_with fail
    go_loopw [5] (fun i wr=>∃j:Nat,i = .int .i64 j/\j<=aA.length/\Hid (∀x∈aA.take j,¬quoteL x.data.toList=[])/\Hid (B9 wr a aA)/\Hid (wr.heap[w.heap.size]? = some (.cells #[.int .i64 3,.int .i64 n,.string s,.slice a1 l.length c1,.slice a2 ks.length c2] 25 (0,0))/\Below w.heap.size w wr)) (fun i _=>aA.length-(intOf i).toNat)
    case atStart=>exact⟨0,rfl,nlz _,Lq7 (fun x hx=>by simp at hx),aM,hh⟩
    case round=>
     obtain⟨j,rfl,hj,aB,aC,aE⟩:=hrel;clear aM hh;by_cases hlt:j<aA.length
     ·have aI:aA[j]? = some aA[j]:=lgE hlt;have bG:Hid (aA.take (j+1)=aA.take j++[aA[j]]):=Lq7 (by rw[ltA,aI];rfl);generalize aA[j]=x at aI bG;obtain⟨b,off,rfl,hc⟩:=aC.out j x aI;have HQ:=Lq7 (Hq.out x (bE.out x (lgM aI)) wr);have bN:=Lq7 (lgM aI);clear aI;go_wp2_with fail;refine HQ.out.mono ?_;rintro e w3 ⟨o,rfl,ho,aV⟩;have bH:=Lq7 (aIn (stays aE.out.1 aV) (aE.out.2.trans (aV.mono aE.out.2.size)));have aN:=Lq7 (aC.out.below aV);clear HQ aE aC aV hc;by_cases hq:quoteL x.data.toList=[]
      ·have bO:(o.toList==[])=true:=(by rw[Lq8,ho,hq];rfl);have aZ:(o.data.toList==[])=true:=(by rw[ho,hq];rfl);have bA:Hid (wd=[]):=Lq7 (by rw[Hw.out,if_pos ⟨x,bN.out,hq⟩]);clear hq ho aB aN;go_wp2_with fail;go_ret;exact⟨_,rfl,bA.out.symm,bH.out.2⟩
      ·have bO:(o.toList==[])=false:=(by rw[Lq8,ho];simpa using hq);have aZ:(o.data.toList==[])=false:=(by rw[ho];simpa using hq);have aQ:Hid (∀y∈aA.take (j+1),¬quoteL y.data.toList=[]):=Lq7 (by
        rw[bG.out];intro y hy;rcases List.mem_append.1 hy with hy|hy
        ·exact aB.out y hy
        ·rw[List.mem_singleton.1 hy];exact hq)
       clear hq ho aB;go_wp2_with fail;go_roundw
       case rel=>exact⟨j+1,by go_num,by omega,aQ,aN,bH⟩
       case measure=>simp only[intOf];omega
     ·have aR:Hid (¬ ∃x∈aA,quoteL x.data.toList=[]):=Lq7 (fun⟨x,hx,hq⟩=>by
       have h:=aB.out;rw[ltL (by omega)] at h;exact h x hx hq)
      have aD:=Hw.out;rw[if_neg aR.out] at aD;have Hb:=Lq7 aE.out.2;obtain⟨p0,p1,p2,p3,p4,p5,-⟩:=Aa aE.out.1;clear aR aB aC aE Hw;replace aD:wd=[116,101,120,116]:=aD;subst aD;go_wp2_with fail;go_ret;exact⟨_,rfl,rfl,Hb.out⟩
   ·have h3:=Lq7 hk3;have hkb:(k==3)=false:=(by simpa using hk3);obtain⟨p0,p1,p2,p3,p4,p5,-⟩:=Aa aW.out.1;have aU:=aG.out;rw[if_neg hk3] at aU;obtain⟨a,c,hac⟩:∃(a:Option Addr) (c:Nat),a=a0/\c=c0:=⟨_,_,rfl,rfl⟩;obtain⟨rfl,rfl⟩:=hac;rw[<-aU] at aS;have aM:=aS;have hh:=aW;clear aS aW aG aY hk3
    go_upto_region 6 with fail
    rw[<-aU];clear aU p0 p1 p2 p3 p4 p5;go_wp2_with fail
    go_loopw [5] (fun i wr=>∃j:Nat,i = .int .i64 j/\j<=aA.length/\Hid (∀x∈aA.take j,¬quoteL x.data.toList=[])/\Hid (B9 wr a aA)/\Hid (wr.heap[w.heap.size]? = some (.cells #[.int .i64 k,.int .i64 n,.string s,.slice a1 l.length c1,.slice a2 ks.length c2] 25 (0,0))/\Below w.heap.size w wr)) (fun i _=>aA.length-(intOf i).toNat)
    case atStart=>exact⟨0,rfl,nlz _,Lq7 (fun x hx=>by simp at hx),aM,hh⟩
    case round=>
     obtain⟨j,rfl,hj,aB,aC,aE⟩:=hrel;clear aM hh;by_cases hlt:j<aA.length
     ·have aI:aA[j]? = some aA[j]:=lgE hlt;have bG:Hid (aA.take (j+1)=aA.take j++[aA[j]]):=Lq7 (by rw[ltA,aI];rfl);generalize aA[j]=x at aI bG;obtain⟨b,off,rfl,hc⟩:=aC.out j x aI;have HQ:=Lq7 (Hq.out x (bE.out x (lgM aI)) wr);have bN:=Lq7 (lgM aI);clear aI;go_wp2_with fail;refine HQ.out.mono ?_;rintro e w3 ⟨o,rfl,ho,aV⟩;have bH:=Lq7 (aIn (stays aE.out.1 aV) (aE.out.2.trans (aV.mono aE.out.2.size)));have aN:=Lq7 (aC.out.below aV);clear HQ aE aC aV hc;by_cases hq:quoteL x.data.toList=[]
      ·have bO:(o.toList==[])=true:=(by rw[Lq8,ho,hq];rfl);have aZ:(o.data.toList==[])=true:=(by rw[ho,hq];rfl);have bA:Hid (wd=[]):=Lq7 (by rw[Hw.out,if_pos ⟨x,bN.out,hq⟩]);clear hq ho aB aN;go_wp2_with fail;go_ret;exact⟨_,rfl,bA.out.symm,bH.out.2⟩
      ·have bO:(o.toList==[])=false:=(by rw[Lq8,ho];simpa using hq);have aZ:(o.data.toList==[])=false:=(by rw[ho];simpa using hq);have aQ:Hid (∀y∈aA.take (j+1),¬quoteL y.data.toList=[]):=Lq7 (by
        rw[bG.out];intro y hy;rcases List.mem_append.1 hy with hy|hy
        ·exact aB.out y hy
        ·rw[List.mem_singleton.1 hy];exact hq)
       clear hq ho aB;go_wp2_with fail;go_roundw
       case rel=>exact⟨j+1,by go_num,by omega,aQ,aN,bH⟩
       case measure=>simp only[intOf];omega
     ·have aR:Hid (¬ ∃x∈aA,quoteL x.data.toList=[]):=Lq7 (fun⟨x,hx,hq⟩=>by
       have h:=aB.out;rw[ltL (by omega)] at h;exact h x hx hq)
      have aD:=Hw.out;rw[if_neg aR.out] at aD;have Hb:=Lq7 aE.out.2;obtain⟨p0,p1,p2,p3,p4,p5,-⟩:=Aa aE.out.1;clear aR aB aC aE Hw;cases R with
      | some ts=>
       replace aD:wd=[116,101,120,116,115]:=aD;subst aD;go_wp2_with fail;go_ret;exact⟨_,rfl,rfl,Hb.out⟩
      | none=>
       rw[if_neg (by simp),if_neg h3.out] at aD;by_cases h1:k=1
       ·have bP:(k==1)=true:=(by simpa using h1);rw[if_pos h1] at aD;subst aD;clear h1;go_wp2_with fail;go_ret;exact⟨_,rfl,rfl,Hb.out⟩
       ·have bP:(k==1)=false:=(by simpa using h1);rw[if_neg h1] at aD;clear h1;by_cases h2:k=2
        ·have bQ:(k==2)=true:=(by simpa using h2);by_cases h0:0<=n
         ·have hnb:decide (0<=n)=true:=(by simpa using h0);rw[if_pos ⟨h2,h0⟩] at aD;subst aD;clear h2;go_wp2_with fail;go_ret;exact⟨_,rfl,rfl,Hb.out⟩
         ·have hnb:decide (0<=n)=false:=(by simpa using h0);rw[if_neg (fun h=>h0 h.2)] at aD;subst aD;clear h2;go_wp2_with fail;go_ret;exact⟨_,rfl,rfl,Hb.out⟩
        ·have bQ:(k==2)=false:=(by simpa using h2);rw[if_neg (fun h=>h2 h.1)] at aD;subst aD;clear h2;go_wp2_with fail;go_ret;exact⟨_,rfl,rfl,Hb.out⟩
theorem dec_told:∀n:Nat,Lib.decDigits n≠[]/\(∀c∈Lib.decDigits n,A9 c=true)/\natOf (Lib.decDigits n)=n/\(1<=n->(Lib.decDigits n).head? ≠ some 48):=by
 intro n
 induction n using Nat.strongRecOn with
 | _ n ih=>
  have aB:∀k,k<10->A9 (UInt8.ofNat (48+k))=true/\(UInt8.ofNat (48+k)).toNat=48+k:=fun k hk=>by
   have h1:(UInt8.ofNat (48+k)).toNat=48+k:=(by rw[UInt8.toNat_ofNat'];omega);refine⟨?_,h1⟩;unfold A9;rw[h1];simp only[bAt,decide_eq_true_eq];omega
  by_cases h:n<10
  ·obtain⟨h1,h2⟩:=aB n h;rw[Lib.decDigits_one h];refine⟨by simp,by simpa using h1,?_,fun hn=>?_⟩
   ·show 10*0+((UInt8.ofNat (48+n)).toNat - 48)=n;omega
   ·intro e;simp only[List.head?_cons,Option.some.injEq] at e;rw[e] at h2;simp at h2;omega
  ·obtain⟨h1,h2⟩:=aB (n % 10) (by omega);obtain⟨i1,i2,i3,i4⟩:=ih (n / 10) (by omega);rw[Lib.decDigits,dif_neg h];refine⟨by simp,?_,?_,fun _=>?_⟩
   ·intro c hc;rcases List.mem_append.1 hc with hc|hc
    ·exact i2 c hc
    ·rw[List.mem_singleton.1 hc];exact h1
   ·rw[K5,i3,h2];omega
   ·have h3:=i4 (by omega);cases hd:Lib.decDigits (n / 10) with
    | nil=>exact absurd hd i1
    | cons x t=>rw[hd] at h3;exact h3
theorem Og{n}(h0:0<=n)(h1:n<=9223372036854775807):NumL (Lib.itoa n)/\natOf (Lib.itoa n)=n.toNat:=by
 unfold Lib.itoa;rw[if_neg (by omega)];obtain⟨h2,h3,h4,h5⟩:=dec_told n.toNat;refine⟨⟨h2,h3,?_,by rw[h4];omega⟩,h4⟩;rintro⟨h6,h7⟩;by_cases hz:1<=n.toNat
 ·exact h5 hz h7
 ·rw[Lib.decDigits_one (by omega)] at h6;simp at h6
theorem nil_bytes{s:ByteArray}(h:s.toList=[]):s=⟨#[]⟩:=bytes_ext (by rw[<-Lq8];exact h)
variable {en:Int×Int}
def L9(n:Int):List UInt8:=if n=1 then [116,114,117,101] else [102,97,108,115,101]
def valK(v:Vl):List KT:=
 if v.kind=1 then [(1,L9 v.num)] else if v.kind=2 then [(2,Lib.itoa v.num)] else if v.kind=3 then [(3,v.str.data.toList)] else(4,[91])::(listK (v.items.map Vl.str)++[(4,[93])])
theorem texts_quote:∀{l:List Vl},(∀x∈l,x.kind=3/\Fy x.str.data.toList)->Bx l=l.map fun x=>quoteL x.str.data.toList
 | [],_=>rfl
 | .mk k n s l ks::t,h=>by
  have h1:k=3:=(h _ (lmS ..)).1;subst h1;rw[Bx,texts_quote fun x hx=>h x (lmO _ hx),List.map_cons];rfl
theorem Ko{r ks}(h:Reads r ks):∀{l:List Vl},(∀x∈l,x.kind=3/\Fy x.str.data.toList)->Reads (Lib.joinTail [44,32] (Bx l)++r) (Ih (l.map Vl.str)++ks)
 | [],_=>h
 | x::t,hx=>by
  have ih:=Ko h fun y hy=>hx y (lmO _ hy);rw[texts_quote hx,List.map_cons];rw[texts_quote fun y hy=>hx y (lmO _ hy)] at ih;unfold Lib.joinTail Ih at *;rw[List.map_cons,List.flatten_cons,List.map_cons,List.flatMap_cons];simp only[List.append_assoc,List.cons_append,List.nil_append];exact .sign (by decide) (.gap (by decide) (.quote (hx x (lmS ..)).2 ih))
theorem Rk{r ks}(h:Reads r ks){l}(hx:∀x∈l,x.kind=3/\Fy x.str.data.toList):Reads ([91]++Lib.join (Bx l) [44,32]++[93]++r) ((4,[91])::(listK (l.map Vl.str)++[(4,[93])])++ks):=by
 have h1:Reads (93::r) ((4,[93])::ks):=.sign (by decide) h;rw[show [91]++Lib.join (Bx l) [44,32]++[93]++r=91::(Lib.join (Bx l) [44,32]++93::r) by simp,show(4,[91])::(listK (l.map Vl.str)++[(4,[93])])++ks=(4,[91])::(listK (l.map Vl.str)++(4,[93])::ks) by simp];refine Reads.sign (c:=91) (by decide) ?_;cases l with
 | nil=>exact h1
 | cons x t=>
  have h2:=Ko h1 (l:=t) fun y hy=>hx y (lmO _ hy);have h3:=Reads.quote (hx x (lmS ..)).2 h2;rw[texts_quote hx,List.map_cons,Lib.join_cons,<-texts_quote fun y hy=>hx y (lmO _ hy)];simp only[List.map_cons,listK,List.append_assoc,List.cons_append];exact h3
theorem Rl{v kd}(hv:DefV v kd){c r ks}(hc:Cm c=false)(h:Reads (c::r) ks):Reads (Bl v++c::r) (valK v++ks):=by
 obtain⟨k,n,s,l,kk⟩:=v;obtain⟨hck,hk⟩:=hv;unfold valK;rcases hk with⟨rfl,-⟩|⟨rfl,h0,-⟩|⟨rfl,hb,-⟩|⟨rfl,hx,-⟩
 ·show Reads ((if n=1 then [116,114,117,101] else [102,97,108,115,101])++c::r) ((1,L9 n)::ks);refine .word ?_ (.cons hc) h;split
  ·exact⟨116,[114,117,101],rfl,by decide,by decide⟩
  ·exact⟨102,[97,108,115,101],rfl,by decide,by decide⟩
 ·have hi:=Gn hck;unfold Bf inR at hi;simp at hi;refine Reads.num (Og h0 hi.1.1.1.2).1 (.cons ?_) h;unfold Cm at hc;simp only[Bool.or_eq_false_iff] at hc;exact hc.2
 ·exact .quote hb h
 ·exact Rk h hx
def Comes(n:Nd)(v:Vl):Prop:=∀(ans:Ans) (f:Nat) (st:St),ndH n<=f->2000<=st.left->∃st',Eg ans f n st = .ok v st'
theorem Ki{l c st}(h:1<=st.left):Da l c st = .ok () { st with left:=st.left - 1}:=by
 unfold Da;rw[if_neg (by omega)]
theorem Kq{n s}(h:IsText n s)(hck:A7 (.mk 3 0 s [] [])=true)(ans f st)(hst:1<=st.left):Eg ans (f+1) n st = .ok (.mk 3 0 s [] []) { st with left:=st.left - 1}:=by
 obtain⟨k,t,a,b,kids⟩:=n;obtain⟨rfl,rfl,-⟩:=h;show EM.bind (Da a b) _ st=_;refine(Cf (Ki hst)).trans ?_;show Dh (.mk 3 0 t [] []) a b _=_;unfold Dh;rw[show(Nd.mk 11 t a b kids).text=t from rfl] at hck;rw[if_pos hck];rfl
theorem Kr(ans f):∀(ns:List Nd) (l:List ByteArray) (acc:List Vl) (st:St),AreTexts ns l->(∀s∈l,A7 (.mk 3 0 s [] [])=true)->(l.length:Int)<=st.left ->
  ∃st',Ep (Eg ans (f+1)) ns acc st = .ok (acc++l.map fun s=> .mk 3 0 s [] []) st'
 | _,_,acc,st,.nil,_,_=>⟨st,by rw[List.map_nil,List.append_nil];rfl⟩
 | n::ns,s::l,acc,st,.cons h ht,hc,hl=>by
  rw[lnC] at hl;obtain⟨st',h2⟩:=Kr ans f ns l (acc++[.mk 3 0 s [] []]) { st with left:=st.left - 1} ht (fun x hx=>hc x (lmO _ hx)) (by show(l.length:Int)<=st.left - 1;omega);refine⟨st',?_⟩;rw[Ep,Cf (Kq h (hc s (lmS ..)) ans f st (by omega)),h2,List.append_assoc];rfl
theorem val_prim{v:Vl}{kd:List UInt8}(hv:DefV v kd)(f:Nat){K:List KT}(d:Int)(hd:d<60){c:UInt8}(hc:c=41){ts:List Tok}(h:ts.map Tok.kt=valK v++(4,[c])::K):
  ∃n a b r,pPrim en (lvl en (f+1)) ts d = .ok n (⟨4,bs [c],a,b⟩::r) d/\r.map Tok.kt=K/\ndKs n/\Comes n v:=by
 obtain⟨k,n,s,l,kk⟩:=v;obtain⟨hck,hk⟩:=hv;have aA:=Gn hck;subst hc;unfold valK at h;rcases hk with⟨rfl,-⟩|⟨rfl,h0,-⟩|⟨rfl,hb,-⟩|⟨rfl,hx,-⟩
 ·obtain⟨a,b,r,rfl,hr⟩:=kts_cons (s:=L9 n) (ks:=(4,[41])::K) h;obtain⟨x,y,z,rfl,hz⟩:=kts_cons hr;unfold Bf at aA;simp at aA;obtain⟨⟨⟨hn,hs⟩,rfl⟩,rfl⟩:=aA;have hs':s=⟨#[]⟩:=nil_bytes hs;subst hs';refine⟨.mk 9 (bs (L9 n)) a b [],x,y,z,?_,hz,by simp[ndKs,ndKss],fun ans f st hf hl=>?_⟩
  ·unfold L9;split<;>rfl
  ·obtain⟨g,rfl⟩:∃g,f=g+1:=⟨f - 1,by have:=Ib (.mk 9 (bs (L9 n)) a b []);omega⟩;refine⟨{ st with left:=st.left - 1},?_⟩;show EM.bind (Da a b) _ st=_;refine(Cf (Ki (by omega))).trans ?_;rcases hn with rfl|rfl<;>rfl
 ·obtain⟨a,b,r,rfl,hr⟩:=kts_cons (s:=Lib.itoa n) (ks:=(4,[41])::K) h;obtain⟨x,y,z,rfl,hz⟩:=kts_cons hr;unfold Bf inR at aA;simp at aA;obtain⟨⟨⟨hn,hs⟩,rfl⟩,rfl⟩:=aA;have hs':s=⟨#[]⟩:=nil_bytes hs;subst hs';refine⟨.mk 10 (bs (Lib.itoa n)) a b [],x,y,z,rfl,hz,by simp[ndKs,ndKss],fun ans f st hf hl=>?_⟩;obtain⟨g,rfl⟩:∃g,f=g+1:=⟨f - 1,by have:=Ib (.mk 10 (bs (Lib.itoa n)) a b []);omega⟩;have h0:0<=n:=h0;obtain⟨⟨m0,m1,m2,m3⟩,aD⟩:=Og h0 hn.2;have hz:(bs (Lib.itoa n)).size<=65536:=by
   show(Lib.itoa n).toArray.size<=65536;have:=Lib.itoa_length_le n hn.1 hn.2;simp only[List.size_toArray];omega
  have aE:F3 (bs (Lib.itoa n))=some n:=by
   rw[Ou (s:=bs (Lib.itoa n)) ⟨m0,m1,m2,m3⟩ hz];show some ((natOf (Lib.itoa n):Nat):Int)=_;rw[aD,Int.toNat_of_nonneg h0]
  refine⟨{ st with left:=st.left - 1},?_⟩;show EM.bind (Da a b) _ st=_;refine(Cf (Ki (by omega))).trans ?_;show(match F3 (bs (Lib.itoa n)) with|some x=>ER.ok (Vl.mk 2 x ⟨#[]⟩ [] []) { st with left:=st.left - 1}|none=> .out)=_;rw[aE]
 ·obtain⟨a,b,r,rfl,hr⟩:=kts_cons (s:=s.data.toList) (ks:=(4,[41])::K) h;obtain⟨x,y,z,rfl,hz⟩:=kts_cons hr;obtain⟨rfl,rfl,rfl,-⟩:=G3 hck;refine⟨.mk 11 (bs s.data.toList) a b [],x,y,z,rfl,hz,by simp[ndKs,ndKss],fun ans f st hf hl=>?_⟩;obtain⟨g,rfl⟩:∃g,f=g+1:=⟨f - 1,by have:=Ib (.mk 11 (bs s.data.toList) a b []);omega⟩;exact⟨_,Kq (n:=.mk 11 (bs s.data.toList) a b []) (s:=s) ⟨rfl,bytes_ext rfl,rfl⟩ hck ans g st (by omega)⟩
 ·have aC:=G4 hck;unfold Bf at aA;simp at aA;obtain⟨⟨⟨hn,hs⟩,hlen⟩,rfl⟩:=aA;have hs':s=⟨#[]⟩:=nil_bytes hs;subst hs';subst hn;have aG:∀x∈l,x = .mk 3 0 x.str [] []:=fun x hx'=>by
   obtain⟨k',n',s',l',ks'⟩:=x;have h1:k'=3:=(hx _ hx').1;subst h1;obtain⟨rfl,rfl,rfl,-⟩:=G3 (aC _ hx');rfl
  have aF:(l.map Vl.str).map (fun s=>Vl.mk 3 0 s [] [])=l:=by
   rw[List.map_map]
   conv=>rhs;rw[<-List.map_id l]
   exact List.map_congr_left fun x hx'=>(aG x hx').symm
  obtain⟨ns,a,b,r,h1,h2,h3⟩:=Ro (en:=en) f (K:=(4,[41])::K) d hd (l.map Vl.str) ts (by rw[h];show(4,[91])::(listK (l.map Vl.str)++[(4,[93])])++(4,[41])::K=_;simp);obtain⟨x,y,z,rfl,hz⟩:=kts_cons h2;refine⟨.mk 12 ⟨#[]⟩ a b ns,x,y,z,h1,hz,by rw[ndKs];exact⟨by decide,h3.ks⟩,fun ans f st hf hl=>?_⟩;obtain⟨g,rfl⟩:∃g,f=g+2:=⟨f - 2,by have:=Ib (.mk 12 ⟨#[]⟩ a b ns);omega⟩;obtain⟨st',he⟩:=Kr ans g ns (l.map Vl.str) [] { st with left:=st.left - 1} h3 (fun s' hs'=>by
   obtain⟨x',hx',rfl⟩:=List.mem_map.1 hs';rw[<-aG x' hx'];exact aC x' hx') (by rw[lnM];show(l.length:Int)<=st.left - 1;omega)
  refine⟨st',?_⟩;show EM.bind (Da a b) _ st=_;refine(Cf (Ki (by omega))).trans ?_;show EM.bind (Ep (Eg ans (g+1)) ns []) (fun l=>Dh (.mk 4 0 ⟨#[]⟩ l []) a b) _=_;rw[Cf he];show Dh (.mk 4 0 ⟨#[]⟩ (List.map _ (l.map Vl.str)) []) a b st'=_;rw[aF];unfold Dh;rw[if_pos hck];rfl
variable {en:Int×Int}
theorem Ia{v kd}(h:DefV v kd):kd∈kindWords:=by
 obtain⟨-,⟨-,rfl⟩|⟨-,-,rfl⟩|⟨-,-,rfl⟩|⟨-,-,rfl⟩⟩:=h<;>simp[kindWords]
theorem Pp{n v}(h:Comes n v):workL Cg n = .ok v:=by
 obtain⟨st',hx⟩:=h Cg (ndH n) ⟨[],19999,[]⟩ (nlr _) (by decide);have hkp:=C0.exprs Cg (ndH n) n _ _ _ hx;unfold workL;have h0:eRun Cg (ndH n+1) [E8 n] 20000=EM.bind (EM.bind (Eg Cg (ndH n) n) fun v=>F4 (bs [120]) v n.ln n.cl) (fun _=>EM.pure ()) ⟨[],19999,[]⟩:=rfl;have hp:F4 (bs [120]) v n.ln n.cl st' = .ok () { st' with names:=putN st'.names (bs [120]) v}:=by
  unfold F4;rw[x_free];rfl
 rw[h0,Cf ((Cf hx).trans hp)];show Except.ok ((Ej (putN st'.names (bs [120]) v) (bs [120])).getD vZero)=_;rw[hkp];rfl
theorem Rm{v:Vl}{kd:List UInt8}(hv:DefV v kd){ts:List Tok}(h:ts.map Tok.kt=Jx kd++(valK v++footK)):
  ∃a b c d e f x y n,C4 en (lvl en (ts.length+2)) [] ts 0 = .ok [.mk 6 (bs [114]) a b [.mk 7 (bs [120]) c d [.mk 9 (bs kd) e f [],n],.mk 8 ⟨#[]⟩ x y []]] [] 0/\ndKs n/\Comes n v:=by
 have hlen:∃m,ts.length=m+1:=by
  have:=congrArg List.length h;rw[lnM,lnA] at this;exact⟨ts.length - 1,by have h2:(Jx kd).length=7:=rfl;omega⟩
 obtain⟨m,hm⟩:=hlen;rw[show C4 en (lvl en (ts.length+2)) [] ts 0=Cl en (lvl en (ts.length+2)) [] (ts.length+1) [] ts 0 from rfl,hm];obtain⟨a,b,r0,rfl,h0⟩:=kts_cons (k:=1) (s:=[114,117,108,101]) (ks:=(Jx kd).tail++(valK v++footK)) h;obtain⟨a1,b1,r1,rfl,h1⟩:=kts_cons (k:=1) (s:=[114]) (ks:=(Jx kd).tail.tail++(valK v++footK)) h0;obtain⟨a2,b2,r2,rfl,h2⟩:=kts_cons (k:=4) (s:=[40]) (ks:=(Jx kd).tail.tail.tail++(valK v++footK)) h1;obtain⟨a3,b3,r3,rfl,h3⟩:=kts_cons (k:=1) (s:=[120]) (ks:=(4,[58])::(1,kd)::(4,[61])::(valK v++footK)) h2;obtain⟨a4,b4,r4,rfl,h4⟩:=kts_cons h3;obtain⟨a5,b5,r5,rfl,h5⟩:=kts_cons h4;obtain⟨a6,b6,r6,rfl,h6⟩:=kts_cons h5;obtain⟨n,a7,b7,r7,hp,h7,aC,aD⟩:=val_prim (en:=en) hv (m+1) (K:=[(4,[123]),(4,[125])]) 0 (by decide) (c:=41) rfl (ts:=r6) h6;obtain⟨a8,b8,r8,rfl,h8⟩:=kts_cons h7;obtain⟨a9,b9,r9,rfl,h9⟩:=kts_cons h8;obtain rfl:=kts_nil h9;have he:Co en (lvl en (m+1+1)) r6 0 = .ok n (⟨4,bs [41],a7,b7⟩::⟨4,bs [123],a8,b8⟩::⟨4,bs [125],a9,b9⟩::[]) 0:=Ma hp ⟨41,a7,b7,_,rfl,.inl rfl⟩;refine⟨a,b,a3,b3,a5,b5,a8,b8,n,?_,aC,aD⟩;have aE:PM.bind (B6 en (lvl en (m+1+1))) (fun x=>PM.pure [x]) (⟨1,bs [120],a3,b3⟩::⟨4,bs [58],a4,b4⟩::⟨1,bs kd,a5,b5⟩::⟨4,bs [61],a6,b6⟩::r6) 0 =
   .ok [.mk 7 (bs [120]) a3 b3 [.mk 9 (bs kd) a5 b5 [],n]] (⟨4,bs [41],a7,b7⟩::⟨4,bs [123],a8,b8⟩::⟨4,bs [125],a9,b9⟩::[]) 0:=by
  have e1:B6 en (lvl en (m+1+1)) (⟨1,bs [120],a3,b3⟩::⟨4,bs [58],a4,b4⟩::⟨1,bs kd,a5,b5⟩::⟨4,bs [61],a6,b6⟩::r6) 0 =
    PM.bind (Co en (lvl en (m+1+1))) (fun x=>PM.pure (Ax 7 ⟨1,bs [120],a3,b3⟩ (bs [120]) [Ax 9 ⟨1,bs kd,a5,b5⟩ (bs kd) [],x])) r6 0:=by
   have hk:=Ia hv;unfold kindWords at hk;simp only[List.mem_cons,List.not_mem_nil,or_false] at hk;rcases hk with rfl|rfl|rfl|rfl<;>rfl
  rw[B8 (e1.trans (B8 he))];rfl
 have hst:pStmt en (lvl en (m+1+1)) (⟨1,bs [114,117,108,101],a,b⟩::⟨1,bs [114],a1,b1⟩::⟨4,bs [40],a2,b2⟩::⟨1,bs [120],a3,b3⟩::⟨4,bs [58],a4,b4⟩::⟨1,bs kd,a5,b5⟩::⟨4,bs [61],a6,b6⟩::r6) 0 =
   .ok (.mk 6 (bs [114]) a b [.mk 7 (bs [120]) a3 b3 [.mk 9 (bs kd) a5 b5 [],n],.mk 8 ⟨#[]⟩ a8 b8 []]) [] 0:=by
  have e1:pStmt en (lvl en (m+1+1)) (⟨1,bs [114,117,108,101],a,b⟩::⟨1,bs [114],a1,b1⟩::⟨4,bs [40],a2,b2⟩::⟨1,bs [120],a3,b3⟩::⟨4,bs [58],a4,b4⟩::⟨1,bs kd,a5,b5⟩::⟨4,bs [61],a6,b6⟩::r6) 0 =
    PM.bind (Ck en [41] (PM.bind (B6 en (lvl en (m+1+1))) fun x=>PM.pure [x])) (fun kids=>PM.bind (Cs en [41]) fun _=>PM.bind (Ct en (lvl en (m+1+1))) fun b'=>PM.pure (Ax 6 ⟨1,bs [114,117,108,101],a,b⟩ (bs [114]) (kids++[b'])))
     (⟨1,bs [120],a3,b3⟩::⟨4,bs [58],a4,b4⟩::⟨1,bs kd,a5,b5⟩::⟨4,bs [61],a6,b6⟩::r6) 0:=rfl
  have e2:Ck en [41] (PM.bind (B6 en (lvl en (m+1+1))) fun x=>PM.pure [x]) (⟨1,bs [120],a3,b3⟩::⟨4,bs [58],a4,b4⟩::⟨1,bs kd,a5,b5⟩::⟨4,bs [61],a6,b6⟩::r6) 0 =
    PM.bind (PM.bind (B6 en (lvl en (m+1+1))) fun x=>PM.pure [x]) (fun l=>Cd en [41] (PM.bind (B6 en (lvl en (m+1+1))) fun x=>PM.pure [x]) (r6.length+1+1+1+1) ([]++l)) (⟨1,bs [120],a3,b3⟩::⟨4,bs [58],a4,b4⟩::⟨1,bs kd,a5,b5⟩::⟨4,bs [61],a6,b6⟩::r6) 0:=rfl
  rw[e1,B8 (e2.trans (B8 aE))];rfl
 have e3:Cl en (lvl en (m+1+2)) [] (m+1+1) [] (⟨1,bs [114,117,108,101],a,b⟩::⟨1,bs [114],a1,b1⟩::⟨4,bs [40],a2,b2⟩::⟨1,bs [120],a3,b3⟩::⟨4,bs [58],a4,b4⟩::⟨1,bs kd,a5,b5⟩::⟨4,bs [61],a6,b6⟩::r6) 0 =
   PM.bind (pStmt en (lvl en (m+1+1))) (fun x=>Cl en (lvl en (m+1+2)) [] (m+1) ([]++[x])) (⟨1,bs [114,117,108,101],a,b⟩::⟨1,bs [114],a1,b1⟩::⟨4,bs [40],a2,b2⟩::⟨1,bs [120],a3,b3⟩::⟨4,bs [58],a4,b4⟩::⟨1,bs kd,a5,b5⟩::⟨4,bs [61],a6,b6⟩::r6) 0:=rfl
 rw[e3,B8 hst];rfl
theorem typeL_words{v kd}(hv:DefV v kd):typeL kd≠0/\Km (typeL kd) v=true:=by
 obtain⟨k,n,s,l,ks⟩:=v;obtain⟨aG,hk⟩:=hv;unfold Km;rw[aG];rcases hk with⟨h,rfl⟩|⟨h,-,rfl⟩|⟨h,-,rfl⟩|⟨h,hx,rfl⟩<;>obtain rfl:k=_:=h
 ·exact⟨by decide,rfl⟩
 ·exact⟨by decide,rfl⟩
 ·exact⟨by decide,rfl⟩
 ·refine⟨by decide,?_⟩;show(B2 (.mk 4 n s l ks)).isSome=true;unfold B2;rw[if_pos ⟨rfl,aG,by rw[List.all_eq_true];intro x hx';have:=(hx x hx').1;simpa using this⟩];rfl
def I1(v:Vl)(kd:List UInt8):List UInt8:=I2 kd++(Bl v++footB)
theorem Oh{v kd}(hv:DefV v kd)(hl:(Bl v).length<=60000):(∀kids,readL (I1 v kd)=some (.ok (.mk 1 ⟨#[]⟩ 1 1 kids))->ndOps kids)/\∃a b,Gy (I1 v kd) = .ok [⟨bs [114],ownL++[⟨bs [120],typeL kd,false,v⟩],[],a,b⟩]:=by
 have hr:Reads (I1 v kd) (Jx kd++(valK v++footK)):=Pq (Ia hv) (Rl hv (by decide) foot_reads);have hlen:(I1 v kd).length<=65536:=by
  have hw:kd.length<=5:=by
   have hk:=Ia hv;unfold kindWords at hk;simp only[List.mem_cons,List.not_mem_nil,or_false] at hk;rcases hk with rfl|rfl|rfl|rfl<;>decide
  unfold I1 I2 footB;simp only[lnA,lnC,lnN];omega
 obtain⟨ts,aF,hk⟩:=hr.lex hlen;obtain⟨a,b,c,d,e,f,x,y,n,hp,aC,aD⟩:=Rm (en:=Jo (I1 v kd)) hv hk;have aB:=(Fq (I1 v kd)).2;obtain⟨ht0,hft⟩:=typeL_words hv;have aA:readL (I1 v kd)=some (.ok (.mk 1 ⟨#[]⟩ 1 1 [.mk 6 (bs [114]) a b [.mk 7 (bs [120]) c d [.mk 9 (bs kd) e f [],n],.mk 8 ⟨#[]⟩ x y []]])):=by
  unfold readL;rw[aF];simp only;rw[hp]
 refine⟨fun kids h=>?_,a,b,?_⟩
 ·obtain⟨k2,e2,-,hk2⟩:=aB _ h;injection e2 with _ _ _ _ e2;subst e2;refine ndOps_of hk2 ?_;rw[aA] at h;injection h with h;injection h with h;injection h with _ _ _ _ h;subst h;simp[ndKss,ndKs,aC]
 have hat:J0 (.mk 7 (bs [120]) c d [.mk 9 (bs kd) e f [],n]) ownL = .ok ⟨bs [120],typeL kd,false,v⟩:=by
  have h1:¬(Dr (bs [120]).data.toList=true/\¬(bs [120]).data.toList=[110,97,109,101]):=(by decide);have h2:¬(idxA ownL (bs [120])).isSome=true:=(by decide);unfold J0;rw[show(Nd.mk 7 (bs [120]) c d [.mk 9 (bs kd) e f [],n]).text=bs [120] from rfl,if_neg h1,if_neg h2];rw[show(Ff (Nd.mk 7 (bs [120]) c d [.mk 9 (bs kd) e f [],n]) 0).text.data.toList=kd from rfl,if_neg ht0,if_neg (by show ¬(2=1);decide)];unfold Lf;rw[show Ff (Nd.mk 7 (bs [120]) c d [.mk 9 (bs kd) e f [],n]) 1=n from rfl,Pp aD];simp only;rw[if_pos hft];rfl
 have hru:G7 (.mk 6 (bs [114]) a b [.mk 7 (bs [120]) c d [.mk 9 (bs kd) e f [],n],.mk 8 ⟨#[]⟩ x y []]) [] = .ok ⟨bs [114],ownL++[⟨bs [120],typeL kd,false,v⟩],[],a,b⟩:=by
  unfold G7;rw[if_neg (by show ¬ ¬(6:Int)=6;decide),if_neg (by show ¬Dr [114]=true;decide),if_neg (by simp)];have hg:attrsGo (Nd.mk 6 (bs [114]) a b [.mk 7 (bs [120]) c d [.mk 9 (bs kd) e f [],n],.mk 8 ⟨#[]⟩ x y []]).kids.dropLast ownL = .ok (ownL++[⟨bs [120],typeL kd,false,v⟩]):=by
   show attrsGo [.mk 7 (bs [120]) c d [.mk 9 (bs kd) e f [],n]] ownL=_;rw[attrsGo,hat];rfl
  rw[hg];rfl
 unfold Gy;rw[aA];show rulesGo [_] []=_;rw[rulesGo,hru];rfl
theorem le_sum:∀{l:List Nat} {x:Nat},x∈l->x<=l.sum
 | _::_,_,.head _=>by rw[List.sum_cons];omega
 | _::_,_,.tail _ h=>by have:=le_sum h;rw[List.sum_cons];omega
theorem M7{l x}(sep)(h:x∈l):x.length<=(Lib.join l sep).length:=by
 rw[I6];have:x.length<=(l.map List.length).sum:=le_sum (List.mem_map_of_mem h);omega
structure TB(w W:World)(x:Array Value):Prop where
 below:Below w.heap.size w W
 v:W.heap[w.heap.size]? = some (.cells x 25 (0,0))
theorem TB.later{w W W' x}(h:TB w W x)(hb:Below W.heap.size W W'):TB w W' x:=⟨h.below.trans (hb.mono h.below.size),stays h.v hb⟩
theorem Tf(n s l ks)(ih:∀x∈l,Jd x):Jd (.mk 4 n s l ks):=by
 intro hp hmax F a1 c1 a2 c2 w hF hT aE hr2;show Calls Tryz.prog 22 #[B7 4 n s a1 l.length c1 a2 ks.length c2] w _;rw[prV] at hp;obtain⟨-,-,hl,-,-,-,hps⟩:=hp;have ht:Bl (.mk 4 n s l ks)=[91]++Lib.join (Bx l) [44,32]++[93]:=rfl;rw[ht] at hmax |-;simp only[lnA,List.length_singleton] at hmax;have H0:Hid (TB w (w.alloc (.cells #[.int .i64 4,.int .i64 n,.string s,.slice a1 l.length c1,.slice a2 ks.length c2] 25)) #[.int .i64 4,.int .i64 n,.string s,.slice a1 l.length c1,.slice a2 ks.length c2]):=Lq7 ⟨(bRf _ w).alloc (nlr _) _,heap_alloc_new w _⟩;have hT':=hT.below H0.out.below;have HA:=Lq7 (Lw l hl (fun x hx=>⟨ih x hx,prVs_mem hps hx,by
  have:=M7 [44,32] (l:=Bx l) (x:=Bl x) (by rw[textVs_map];exact List.mem_map_of_mem hx);omega⟩) F a1 c1 _ (fun b hb=>by have:=hF b hb;have:=H0.out.below.size;omega) hT' (aE.below H0.out.below))
 unfold B7;go_enter Tryz.func22,Tryz.ntmps22;go_wp2_with fail;refine HA.out.mono ?_;rintro e w1 ⟨v,rfl,hown,aB⟩;obtain⟨aT,cT,rfl,hst,hcap⟩:=hown.strsAt;have H1:=Lq7 (H0.out.later aB);have aC:(joinB (l.map fun x=>toBs (Bl x)) ⟨#[44,32]⟩).data.toList=Lib.join (Bx l) [44,32]:=by
  show Lib.join ((l.map fun x=>toBs (Bl x)).map (·.data.toList)) [44,32]=_;rw[List.map_map,textVs_map];rfl
 have aF:(joinB (l.map fun x=>toBs (Bl x)) ⟨#[44,32]⟩).size<=140737488355328:=by
  rw[<-Av,aC];unfold textMax at hmax;omega
 have HJ:=Lq7 (Mh aT cT _ ⟨#[44,32]⟩ w1 hst hcap (by rw[lnM];exact hl) aF);generalize joinB (l.map fun x=>toBs (Bl x)) ⟨#[44,32]⟩=jb at HJ aC aF;have Hjs:=Lq7 aC;generalize (l.map fun x=>toBs (Bl x)).length=ll at HJ |-;go_wp2_with fail;refine HJ.out.mono ?_;rintro e w2 ⟨rfl,hb2⟩;have H2:=Lq7 (H1.out.later hb2);have z1:¬9223372036854775807<jb.size+1:=(by omega);have z2:¬9223372036854775807<1+jb.size:=(by omega);have z3:¬9223372036854775807<1+jb.size+1:=(by omega);have aD:Hid ((⟨#[91]⟩++jb++⟨#[93]⟩:ByteArray).data.toList=[91]++Lib.join (Bx l) [44,32]++[93]):=Lq7 (by
  rw[ByteArray.data_append,ByteArray.data_append,Array.toList_append,Array.toList_append,Hjs.out])
 go_wp2_with fail;go_ret;exact⟨_,rfl,aD.out,H2.out.below⟩
theorem Q4(k n s l ks)(h4:k≠4)(h5:k≠5):Jd (.mk k n s l ks):=by
 intro hp hmax F a1 c1 a2 c2 w hF hT aE hr2;show Calls Tryz.prog 22 #[B7 k n s a1 l.length c1 a2 ks.length c2] w _;rw[prV] at hp;obtain⟨hn,hs,-⟩:=hp;have aG:Below w.heap.size w (w.alloc (.cells #[.int .i64 k,.int .i64 n,.string s,.slice a1 l.length c1,.slice a2 ks.length c2] 25)):=(bRf _ w).alloc (nlr _) _;have aA:=Lq7 aG;have HN:=Lq7 (Rc n hn _ (hT.below aG));have HQ:=Lq7 (M2 s (w.alloc (.cells #[.int .i64 k,.int .i64 n,.string s,.slice a1 l.length c1,.slice a2 ks.length c2] 25)) hs);unfold B7;by_cases h1:k=1
 ·subst h1;by_cases hn1:n=1
  ·subst hn1;go_enter Tryz.func22,Tryz.ntmps22;go_wp2_with fail;go_ret;exact⟨_,rfl,rfl,aA.out⟩
  ·have ht:Hid (Bl (.mk 1 n s l ks)=[102,97,108,115,101]):=Lq7 (by rw[Bl,if_pos rfl,if_neg hn1]);have hn1b:(n==1)=false:=(by simpa using hn1);go_enter Tryz.func22,Tryz.ntmps22;go_wp2_with fail;go_ret;exact⟨_,rfl,ht.out.symm,aA.out⟩
 by_cases h2:k=2
 ·subst h2;go_enter Tryz.func22,Tryz.ntmps22;go_wp2_with fail;refine HN.out.mono ?_;rintro e w1 ⟨o,rfl,ho,aB⟩;have H1:=Lq7 (aIn ho (aA.out.trans (aB.mono aA.out.size)));go_wp2_with fail;go_ret;exact⟨_,rfl,H1.out.1,H1.out.2⟩
 by_cases h3:k=3
 ·subst h3;go_enter Tryz.func22,Tryz.ntmps22;go_wp2_with fail;refine HQ.out.mono ?_;rintro e w1 ⟨o,rfl,ho,aB⟩;have H1:=Lq7 (aIn ho (aA.out.trans (aB.mono aA.out.size)));go_wp2_with fail;go_ret;exact⟨_,rfl,H1.out.1,H1.out.2⟩
 ·have ht:Hid (Bl (.mk k n s l ks)=[110,111,110,101]):=Lq7 (by rw[Bl,if_neg h1,if_neg h2,if_neg h3,if_neg h4,if_neg h5]);have e1:(k==1)=false:=(by simpa using h1);have e2:(k==2)=false:=(by simpa using h2);have e3:(k==3)=false:=(by simpa using h3);have e4:(k==4)=false:=(by simpa using h4);have e5:(k==5)=false:=(by simpa using h5);go_enter Tryz.func22,Tryz.ntmps22;go_wp2_with fail;go_ret;exact⟨_,rfl,ht.out.symm,aA.out⟩
def mixB(ks:List ByteArray)(l:List Vl)(i:Nat):List ByteArray:=((Bw ks (Bx l)).take i).map toBs++(l.drop i).map fun x=>toBs (Bl x)
theorem En{ks l}(h:l.length=ks.length):(Bw ks (Bx l)).length=l.length:=by
 rw[Bw,List.length_zipWith,textVs_map,lnM];omega
theorem Rf{ks l}(h:l.length=ks.length){i}(hi:i<=l.length):(mixB ks l i).length=l.length:=by
 rw[mixB,lnA,lnM,lnM,lnT,List.length_drop,En h];omega
theorem mix_get{ks l}(h:l.length=ks.length){i x}(hx:l[i]? = some x):(mixB ks l i)[i]? = some (toBs (Bl x)):=by
 have hi:=(lgS.1 hx).1;unfold mixB;have h1:(((Bw ks (Bx l)).take i).map toBs).length=i:=(by rw[lnM,lnT,En h];omega);rw[List.getElem?_append_right (by omega),h1,Nat.sub_self,lgP,List.getElem?_drop,Nat.add_zero,hx];rfl
theorem M6{ks l}{i:Nat}{x key}(hx:l[i]? = some x)(hk:ks[i]? = some key):(Bw ks (Bx l))[i]? = some (quoteL key.data.toList++[58,32]++Bl x):=by
 rw[Bw,textVs_map,List.getElem?_zipWith,hk,lgP,hx];rfl
theorem mix_set{ks l}(h:l.length=ks.length){i x key}(hx:l[i]? = some x)(hk:ks[i]? = some key):
  (mixB ks l i).set i (toBs (quoteL key.data.toList++[58,32]++Bl x))=mixB ks l (i+1):=by
 have hi:=(lgS.1 hx).1;have h1:(((Bw ks (Bx l)).take i).map toBs).length=i:=(by rw[lnM,lnT,En h];omega);have hlx:=(lgS.1 hx).2;unfold mixB;rw[List.set_append_right _ _ (by omega),h1,Nat.sub_self,List.drop_eq_getElem_cons hi,List.map_cons,List.set_cons_zero,ltA,M6 hx hk,Option.toList_some,List.map_append,List.append_assoc (List.map toBs _)];rfl
theorem mix_all{ks l}(h:l.length=ks.length){i}(hi:l.length<=i):mixB ks l i=(Bw ks (Bx l)).map toBs:=by
 unfold mixB;rw[ltL (by rw[En h];exact hi),List.drop_eq_nil_of_le hi];simp
theorem Lv{ks l}(h:l.length=ks.length){i:Nat}{x}(hx:l[i]? = some x):∃key,ks[i]? = some key/\(quoteL key.data.toList).length+2+(Bl x).length<=(Lib.join (Bw ks (Bx l)) [44,32]).length:=by
 have hi:=(lgS.1 hx).1;have hk:ks[i]? = some (ks[i]'(by omega)):=lgE (by omega);refine⟨_,hk,?_⟩;have:=M7 [44,32] (lgM (M6 hx hk));simp only[lnA,lnC,lnN] at this;omega
theorem OwnS.froze{w base g n cap l v}(h:OwnS w base v l)(hv:v = .slice (some ⟨g,0,none⟩) n cap)(i):w.frozen? ⟨g,i,none⟩=false:=by
 subst hv;obtain⟨-,⟨h1,-⟩|⟨g',cp,cur,h1,-,h2,-⟩⟩:=h
 ·simp only[Value.slice.injEq,reduceCtorEq,false_and] at h1
 ·simp only[Value.slice.injEq,Option.some.injEq,Addr.mk.injEq] at h1;obtain⟨⟨rfl,-⟩,-⟩:=h1;exact(A3 h2).2.2 i
theorem OwnS.off{w base g o n cap l}(h:OwnS w base (.slice (some ⟨g,o,none⟩) n cap) l):o=0:=by
 obtain⟨-,⟨h1,-⟩|⟨g',cp,cur,h1,-⟩⟩:=h
 ·simp only[Value.slice.injEq,reduceCtorEq,false_and] at h1
 ·simp only[Value.slice.injEq,Option.some.injEq,Addr.mk.injEq] at h1;exact h1.1.2.1
theorem OwnS.put{w base g cap n l}(h:OwnS w base (.slice (some ⟨g,0,none⟩) n cap) l)(i s):OwnS (w.setCell ⟨g,i,none⟩ (.string s)) base (.slice (some ⟨g,0,none⟩) n cap) (l.set i s):=by
 have h0:=h;obtain⟨h1,⟨h2,-⟩|⟨g',cap',cur,h2,-⟩⟩:=h0
 ·cases h2
 ·injection h2 with e1 e2 e3;unfold OwnS at h |-;rw[List.length_set,List.map_set];rw[<-e2] at h |-;exact(World.ownsRow.stored h i (.string s)).1
theorem Td(n s l ks)(ih:∀x∈l,Jd x):Jd (.mk 5 n s l ks):=by
 intro hp hmax F a1 c1 a2 c2 w hF hT aY aZ;show Calls Tryz.prog 22 #[B7 5 n s a1 l.length c1 a2 ks.length c2] w _;rw[prV] at hp;obtain⟨-,-,hl,-,aJ,aG,bA⟩:=hp;have aM:=aG rfl;clear aG;have ht:Bl (.mk 5 n s l ks)=[123]++Lib.join (Bw ks (Bx l)) [44,32]++[125]:=(by rw[Bl,if_neg (by decide),if_neg (by decide),if_neg (by decide),if_neg (by decide),if_pos rfl]);rw[ht] at hmax |-;simp only[lnA,List.length_singleton] at hmax;have H0:Hid (TB w (w.alloc (.cells #[.int .i64 5,.int .i64 n,.string s,.slice a1 l.length c1,.slice a2 ks.length c2] 25)) #[.int .i64 5,.int .i64 n,.string s,.slice a1 l.length c1,.slice a2 ks.length c2]):=Lq7 ⟨(bRf _ w).alloc (nlr _) _,heap_alloc_new w _⟩;have hT':=hT.below H0.out.below;have HA:=Lq7 (Lw l hl (fun x hx=>⟨ih x hx,prVs_mem bA hx,by
  obtain⟨i,hi⟩:=List.getElem?_of_mem hx;obtain⟨key,-,bB⟩:=Lv aM hi;omega⟩) F a1 c1 _ (fun b hb=>by have:=hF b hb;have:=H0.out.below.size;omega) hT' (aY.below H0.out.below))
 have Hk:=Lq7 (aZ.below H0.out.below).strs;have Hkz:=Lq7 aJ;have aD:=Lq7 aM;have Hit:=Lq7 (fun i x (hx:l[i]? = some x)=>Lv aM hx);clear hF hT aY aZ ih bA hT' aJ aM ht;unfold B7;go_enter Tryz.func22,Tryz.ntmps22;go_wp2_with fail;refine HA.out.mono ?_;rintro e w1 ⟨v,rfl,hown,aU⟩;have hown:OwnS w1 (w.alloc (.cells #[.int .i64 5,.int .i64 n,.string s,.slice a1 l.length c1,.slice a2 ks.length c2] 25)).heap.size v (mixB ks l 0):=hown;obtain⟨aT,cT,bC,-,-⟩:=hown.strsAt;rw[Rf aD.out (nlz _)] at bC;subst bC;have H1:=Lq7 (H0.out.later aU);have Hb1:=Lq7 aU;have aE:=Lq7 hown;have hbs:=H0.out.below.size;have hb0s:=here H0.out.v;obtain⟨q0,q1,q2,q3,q4,q5,-⟩:=Aa H1.out.v;clear hown aU HA;go_wp2_with fail;clear q0 q1 q2 q3 q4 q5;generalize hW0:w.alloc (.cells #[.int .i64 5,.int .i64 n,.string s,.slice a1 l.length c1,.slice a2 ks.length c2] 25)=W0 at *;clear hW0
 go_loopw [39] (fun i wr=>∃k:Nat,i = .int .i64 k/\k<=l.length/\Hid (OwnS wr W0.heap.size (.slice aT l.length cT) (mixB ks l k))/\Hid (Below W0.heap.size W0 wr)) (fun i _=>l.length-(intOf i).toNat)
 case atStart=>exact⟨0,rfl,nlz _,aE,Hb1⟩
 case round=>
  obtain⟨k,rfl,hk,hown,aN⟩:=hrel;by_cases hlt:k<l.length
  ·have aQ:l[k]? = some l[k]:=lgE hlt;obtain⟨key,aA,bB⟩:=Hit.out k _ aQ;have hklt:k<ks.length:=(lgS.1 aA).1;obtain⟨bK,oK,hak,hck⟩:=(Hk.out.below aN.out) k key aA;obtain⟨aT',cT',hv',hst',-⟩:=hown.out.strsAt;rw[Rf aD.out hk] at hv';cases hv';obtain⟨g,oT,haT,aV⟩:=hst' k _ (mix_get aD.out aQ);subst haT hak;obtain rfl:=hown.out.off;rw[Nat.zero_add] at aV;have bD:=hown.out.block (g:=g) rfl;have aJ:=Hkz.out key (lgM aA);have HN:=Lq7 (mix_set aD.out aQ aA);generalize hx:l[k]=x at *;have HQ:=Lq7 (fun W=>M2 key W aJ);have hsz1:(toBs (Bl x)).size+(quoteL key.data.toList).length<=140737488355328:=by
    rw[<-Av,Jr];unfold textMax at hmax;omega
   generalize hq:Bl x=tx at *;have aE:=Lq7 hown.out;have aR:=Lq7 aN.out;clear hx hq aQ aA bB hst' hown aN hmax;go_wp2_with fail;refine A8 (.s 0 (.s 1 (.s 2 (.s 5 (.s 6 (.s 7 (.s 8 (.h 3 (.s 4 (.s 9 (.s 10 (.h 11 .nil)))))))))))) 11 (fun W'=>W'.cell? ⟨g,k,none⟩=some (.string (toBs tx))) aV ?_;have H2:Hid (OwnS wr.drew W0.heap.size (.slice (some ⟨g,0,none⟩) l.length cT) (mixB ks l k)/\Below W0.heap.size W0 wr.drew):=Lq7 ⟨aE.out.below (bRf _ _).drew,aR.out.drew⟩;have bE:g<wr.drew.heap.size:=bD.2;have bF:wr.drew.cell? ⟨g,k,none⟩=some (.string (toBs tx)):=(by rw[World.cell?_drew];exact aV);generalize World.drew _=Wd at H2 bE bF |-;refine Ah (.slice (some ⟨g,0,none⟩) l.length cT) ?_;refine Ah (.int .i64 (k:Nat)) ?_;refine Ah (.string key) ?_;refine Ah (.slice (some ⟨g,0,none⟩) l.length cT) ?_;refine Ah (.int .i64 (k:Nat)) ?_;refine Ah (.pointer (some ⟨g,k,none⟩)) ?_;refine Ah (.string (toBs tx)) ?_;refine Ac rfl (fun K hK=>?_);go_wp2_with fail;refine(HQ.out _).mono ?_;rintro e w3 ⟨q,rfl,hq,aH⟩;have hqs:q.size=(quoteL key.data.toList).length:=(by rw[<-hq,Av]);have H3:=Lq7 (aIn (H2.out.1.below aH) (H2.out.2.trans (aH.mono H2.out.2.size)));have hS3:w3.cell? ⟨g,k,none⟩=some (.string (toBs tx)):=(aH.cell (p:=⟨g,k,none⟩) bE).trans bF;have hgw3:g<w3.heap.size:=(by have:=aH.size;omega);clear aH H2;go_wp2_with fail;refine hK _ _ (fun _=>hS3) ?_;(try simp only[gX,Act.put]);refine A6 (.string (q++⟨#[58,32]⟩)) (fun W' hS=>?_) ?_
   ·go_simp;omega
   refine A6 (.string (q++⟨#[58,32]⟩++toBs tx)) (fun W' hS=>?_) ?_
   ·go_simp;omega
   refine Ah (.pointer (some ⟨g,k,none⟩)) ?_;refine Ac rfl (fun K2 hK2=>?_);have hfz:w3.frozen? ⟨g,k,none⟩=false:=H3.out.1.froze rfl k;have aF:(q++⟨#[58,32]⟩++toBs tx:ByteArray)=toBs (quoteL key.data.toList++[58,32]++tx):=bytes_ext (by
    rw[ByteArray.data_append,ByteArray.data_append,Array.toList_append,Array.toList_append,hq,Jr,Jr])
   have H4:Hid (OwnS (w3.setCell ⟨g,k,none⟩ (.string (q++⟨#[58,32]⟩++toBs tx))) W0.heap.size (.slice (some ⟨g,0,none⟩) l.length cT) (mixB ks l (k+1))/\Below W0.heap.size W0 (w3.setCell ⟨g,k,none⟩ (.string (q++⟨#[58,32]⟩++toBs tx)))):=Lq7 ⟨by
    have h1:=H3.out.1.put k (q++⟨#[58,32]⟩++toBs tx);rw[aF,HN.out] at h1;rw[aF];exact h1,H3.out.2.setCell (p:=⟨g,k,none⟩) bD.1 _⟩
   clear HN aF H3 hq;go_wp2_with fail;refine hK2 _ _ (fun h=>absurd rfl h) ?_;generalize World.setCell _ _ _=W5 at H4 |-;(try simp only[gX,Act.put]);refine Ao ?_;(try simp only[gX,Act.put]);go_wp2_with fail;go_roundw
   case rel=>exact⟨k+1,by go_num,by omega,Lq7 H4.out.1,Lq7 H4.out.2⟩
   case measure=>simp only[intOf];omega
  ·have aC:mixB ks l k=(Bw ks (Bx l)).map toBs:=mix_all aD.out (by omega);have aB:=hown.out;rw[aC] at aB;obtain⟨aT',cT',hv',hst',hcap'⟩:=aB.strsAt;have aI:((Bw ks (Bx l)).map toBs).length=l.length:=(by rw[lnM,En aD.out]);rw[aI] at hv' hcap';cases hv';have aS:(joinB ((Bw ks (Bx l)).map toBs) ⟨#[44,32]⟩).data.toList=Lib.join (Bw ks (Bx l)) [44,32]:=by
    show Lib.join (((Bw ks (Bx l)).map toBs).map (·.data.toList)) [44,32]=_;rw[List.map_map,show((fun x:ByteArray=>x.data.toList)∘toBs)=id from rfl,List.map_id]
   have bG:(joinB ((Bw ks (Bx l)).map toBs) ⟨#[44,32]⟩).size<=140737488355328:=by
    rw[<-Av,aS];unfold textMax at hmax;omega
   have HJ:=Lq7 (Mh aT cT _ ⟨#[44,32]⟩ wr hst' (by rw[aI];exact hcap') (by rw[aI];exact hl) bG);rw[aI] at HJ;generalize joinB ((Bw ks (Bx l)).map toBs) ⟨#[44,32]⟩=jb at HJ aS bG;have bH:=Lq7 aS;have aR:=Lq7 aN.out;have hkl:¬k<ks.length:=(by have:=aD.out;omega);clear hown aB hst' hcap' aI aC aS;go_wp2_with fail;refine HJ.out.mono ?_;rintro e w2 ⟨rfl,bI⟩;have Hb2:=Lq7 (H0.out.below.trans ((aR.out.trans (bI.mono aR.out.size)).mono H0.out.below.size));have z1:¬9223372036854775807<jb.size+1:=(by omega);have z2:¬9223372036854775807<1+jb.size:=(by omega);have z3:¬9223372036854775807<1+jb.size+1:=(by omega);have aW:Hid ((⟨#[123]⟩++jb++⟨#[125]⟩:ByteArray).data.toList=[123]++Lib.join (Bw ks (Bx l)) [44,32]++[125]):=Lq7 (by
    rw[ByteArray.data_append,ByteArray.data_append,Array.toList_append,Array.toList_append,bH.out])
   clear bI HJ bH;go_wp2_with fail;go_ret;exact⟨_,rfl,aW.out,Hb2.out⟩
theorem Te(v):Jd v:=
 Vl.rec (motive_1:=fun v=>Jd v) (motive_2:=fun l=>∀x∈l,Jd x)
  (fun k n s l ks ih=>by
   by_cases h4:k=4
   ·subst h4;exact Tf n s l ks ih
   ·by_cases h5:k=5
    ·subst h5;exact Td n s l ks ih
    ·exact Q4 k n s l ks h4 h5)
  (fun x hx=>by cases hx)
  (fun v t hv ht x hx=>by
   rcases List.mem_cons.1 hx with rfl|hx
   ·exact hv
   ·exact ht x hx) v
theorem Gs(l):(quoteL l).length<=2*l.length+2:=by
 unfold quoteL;split
 ·simp
 ·rw[lnA,lnC,List.length_singleton,escL_len];have:=Kl l;omega
theorem Mz{α:Type}(f:α->Nat)(g:α->Int)(c:Nat):∀l:List α,(∀x∈l,(f x:Int)+c<=g x)->(((l.map f).sum:Nat):Int)+l.length*c<=(l.map g).sum
 | [],_=>by simp
 | x::t,h=>by
  have h1:=h x (lmS ..);have h2:=Mz f g c t fun y hy=>h y (lmO _ hy);rw[List.map_cons,List.sum_cons,List.map_cons,List.sum_cons,lnC]
  push_cast
  rw[Int.add_mul];omega
theorem cntVs_sum:∀l:List Vl,cntVs l=(l.map cntV).sum
 | []=>rfl
 | v::t=>by rw[cntVs,cntVs_sum t,List.map_cons,List.sum_cons]
theorem Re(c):∀l:List Int,(l.map fun x=>c*x).sum=c*l.sum
 | []=>by simp
 | x::t=>by rw[List.map_cons,List.sum_cons,Re c t,List.sum_cons,Int.mul_add]
theorem Sw(v):prV v->((Bl v).length:Int)+131080<=262200*cntV v:=
 Vl.rec (motive_1:=fun v=>prV v->((Bl v).length:Int)+131080<=262200*cntV v) (motive_2:=fun l=>prVs l->∀x∈l,((Bl x).length:Int)+131080<=262200*cntV x)
  (fun k n s l ks ih hp=>by
   rw[prV] at hp;obtain⟨hn,hs,hl,-,hk,hlk,hps⟩:=hp;have hi:=ih hps;have hc:=D5 l;rw[cntV];have hsum:=Mz (fun x=>(Bl x).length) (fun x=>262200*cntV x) 131080 l hi;have he:(l.map fun x=>262200*cntV x).sum=262200*cntVs l:=by
    rw[cntVs_sum,<-Re,List.map_map];rfl
   rw[he] at hsum;by_cases h1:k=1
   ·subst h1;rw[Bl,if_pos rfl];split<;>simp<;>omega
   by_cases h2:k=2
   ·subst h2;rw[Bl,if_neg (by decide),if_pos rfl];unfold inR at hn;simp only[bAt,decide_eq_true_eq] at hn;have:=Lib.itoa_length_le n hn.1 hn.2;omega
   by_cases h3:k=3
   ·subst h3;rw[Bl,if_neg (by decide),if_neg (by decide),if_pos rfl];have:=Gs s.data.toList;rw[Av] at this;omega
   by_cases h4:k=4
   ·subst h4;rw[Bl,if_neg (by decide),if_neg (by decide),if_neg (by decide),if_pos rfl];have hj:=I6 [44,32] (Bx l);rw[textVs_map,lnM,List.map_map] at hj;rw[textVs_map,lnA,lnA,hj];have e:(l.map (List.length∘Bl)).sum=(l.map fun x=>(Bl x).length).sum:=rfl;rw[e];simp only[lnC,lnN];omega
   by_cases h5:k=5
   ·subst h5;have hlk:=hlk rfl;rw[Bl,if_neg (by decide),if_neg (by decide),if_neg (by decide),if_neg (by decide),if_pos rfl];have hj:=I6 [44,32] (Bw ks (Bx l));rw[En hlk] at hj;have aB:∀(ks:List ByteArray) (l:List Vl),l.length=ks.length->(∀x∈ks,x.size<=65536)->((Bw ks (Bx l)).map List.length).sum<=(l.map fun x=>(Bl x).length).sum+l.length*131076:=by
     intro ks
     induction ks with
     | nil=>intro l h _;simp[Bw]
     | cons key t ih2=>
      intro l h hz;cases l with
      | nil=>simp at h
      | cons v r=>
       have h3:=ih2 r (by simpa using h) fun x hx=>hz x (lmO _ hx);have h4:=hz key (lmS ..);have h5:=Gs key.data.toList;rw[Av] at h5;rw[Bx,Bw,List.zipWith_cons_cons,List.map_cons,List.sum_cons,List.map_cons,List.sum_cons,lnC,lnA,lnA];rw[Bw] at h3;simp only[lnC,lnN];omega
    have h6:=aB ks l hlk hk;rw[lnA,lnA,hj];simp only[lnC,lnN];omega
   ·rw[Bl,if_neg h1,if_neg h2,if_neg h3,if_neg h4,if_neg h5];simp only[lnC,lnN];omega)
  (fun _ x hx=>by cases hx)
  (fun v t hv ht hp x hx=>by
   rw[prVs] at hp;rcases List.mem_cons.1 hx with rfl|hx
   ·exact hv hp.1
   ·exact ht hp.2 x hx) v
theorem M0{v}(h:A7 v=true):cntV v<=20000:=by
 unfold A7 at h;obtain⟨h1,-,-⟩:=Hv v 1 20000 h;have h4:=(F9 v 1 20000 (by omega)).2.2 h;omega
theorem Qv{v}(h:A7 v=true):(Bl v).length<=5300000000:=by
 have h1:=Sw v (Pn h);have h2:=M0 h;omega
theorem Sx(v)(hs:A4 v)(F a1 c1 a2 c2 w)(hF:∀b,F b->b<w.heap.size)(hT:Ea w)(hr1:Ag F w a1 (A5 v.items))(hr2:Ag F w a2 (Bc v.keys)):
  Calls Tryz.prog 9 #[B7 v.kind v.num v.str a1 v.items.length c1 a2 v.keys.length c2] w (Jq (I0 v) w):=by
 obtain⟨k,n,s,l,ks⟩:=v;show Calls Tryz.prog 9 #[B7 k n s a1 l.length c1 a2 ks.length c2] w _;have H0:Hid (TB w (w.alloc (.cells #[.int .i64 k,.int .i64 n,.string s,.slice a1 l.length c1,.slice a2 ks.length c2] 25)) #[.int .i64 k,.int .i64 n,.string s,.slice a1 l.length c1,.slice a2 ks.length c2]):=Lq7 ⟨(bRf _ w).alloc (nlr _) _,heap_alloc_new w _⟩;have aC:∀b,F b->b<(w.alloc (.cells #[.int .i64 k,.int .i64 n,.string s,.slice a1 l.length c1,.slice a2 ks.length c2] 25)).heap.size:=fun b hb=>(by have:=hF b hb;have:=H0.out.below.size;omega);have HC:=Lq7 (Id (.mk k n s l ks) hs F a1 c1 a2 c2 _ aC (hr1.below H0.out.below) (hr2.below H0.out.below));have Hr:=Lq7 (aIn aC (aIn (hT.below H0.out.below) (aIn (hr1.below H0.out.below) (hr2.below H0.out.below))));unfold B7 at HC |-;cases hck:A7 (.mk k n s l ks) with
 | false=>
  have Hp:Hid (I0 (.mk k n s l ks)=[]):=Lq7 (by unfold I0;rw[hck];rfl);rw[hck] at HC;go_enter Tryz.func9,Tryz.ntmps9;go_wp2_with fail;refine HC.out.mono ?_;rintro e w1 ⟨rfl,aA⟩;have H1:=Lq7 (H0.out.later aA);go_wp2_with fail;go_ret;exact⟨_,rfl,Hp.out.symm,H1.out.below⟩
 | true=>
  have Hp:Hid (I0 (.mk k n s l ks)=Bl (.mk k n s l ks)):=Lq7 (by unfold I0;rw[hck];rfl);have aD:=Lq7 hck;rw[hck] at HC;go_enter Tryz.func9,Tryz.ntmps9;go_wp2_with fail;refine HC.out.mono ?_;rintro e w1 ⟨rfl,aA⟩;have H1:=Lq7 (H0.out.later aA);have HX:=Lq7 (Te (.mk k n s l ks) (Pn aD.out) (by have:=Qv aD.out;unfold textMax;omega) F a1 c1 a2 c2 w1 (fun b hb=>Nat.lt_of_lt_of_le (Hr.out.1 b hb) aA.size) (Hr.out.2.1.below aA) (Hr.out.2.2.1.below aA) (Hr.out.2.2.2.below aA));obtain⟨q0,q1,q2,q3,q4,q5,-⟩:=Aa H1.out.v;unfold B7 at HX;go_wp2_with fail;refine HX.out.mono ?_;rintro e w2 ⟨o,rfl,ho,hb2⟩;have H2:=Lq7 (aIn ho (H1.out.later hb2));go_wp2_with fail;go_ret;exact⟨_,rfl,H2.out.1.trans Hp.out.symm,H2.out.2.below⟩
end Go.Proofs.YtkehdallfohjfaaGreatDoor
