/-
  The walks of the document's count,long and Great at a value that may be:no:at most sixty values,no long texts. (And what it stands on.)
-/
import Derived.Test.YtkehdallfohjfaaGreatDoorMSame11
import Derived.Test.YtkehdallfohjfaaGreatDoorMOwnLow
import Derived.Test.YtkehdallfohjfaaGreatDoorMOpPlain
namespace Go.Proofs.YtkehdallfohjfaaGreatDoor
open Go Go.RowKit
open List renaming getElem?_eq_getElem->lgE,mem_of_getElem? -> lgM,take_add_one->ltA,take_of_length_le->ltL,length_map->lnM,length_take->lnT
open Nat renaming le_refl->nlr,zero_le->nlz
open Go.Lib renaming hid->Lq7
open Go.RowKit.Below renaming refl->bRf
open And renaming intro->aIn
set_option maxRecDepth 100000
set_option maxHeartbeats 16000000
def B2(v:Vl):Option (List ByteArray):=if v.kind=4/\A7 v=true/\v.items.all (fun x=>x.kind==3)=true then some (v.items.map Vl.str) else none
def Lx(v:Vl)(w:World)(e:Ending)(w':World):Prop:=Below w.heap.size w w'/\match B2 v with
 | some l=>∃x,e = .returned (.tuple #[x,.bool true])/\OwnS w' w.heap.size x l
 | none=>e = .returned (.tuple #[.slice none 0 0,.bool false])
theorem check_len{k n s l ks}(h:A7 (.mk k n s l ks)=true):s.size<=65536/\l.length<=1000/\ks.length<=1000:=by
 unfold A7 at h;rw[mayV] at h;split at h
 ·cases h
 ·split at h
  ·rename_i hk
   obtain⟨h1,h2,h3,-⟩:=Gw hk;exact⟨h1,h2,h3⟩
  ·cases h
theorem E0(k n s l ks)(hs:A4 (.mk k n s l ks))(F a1 c1 a2 c2 w)(hF:∀b,F b->b<w.heap.size)(hr1:Ag F w a1 (A5 l))(hr2:Ag F w a2 (Bc ks)):
  Calls Tryz.prog 144 #[.agg #[.int .i64 k,.int .i64 n,.string s,.slice a1 l.length c1,.slice a2 ks.length c2]] w (Lx (.mk k n s l ks) w):=by
 have aF:Below w.heap.size w (w.alloc (.cells #[.int .i64 k,.int .i64 n,.string s,.slice a1 l.length c1,.slice a2 ks.length c2] 25)):=(bRf _ w).alloc (nlr _) _;have H0:=Lq7 (heap_alloc_new w (.cells #[.int .i64 k,.int .i64 n,.string s,.slice a1 l.length c1,.slice a2 ks.length c2] 25));have aG:=Lq7 (Id (.mk k n s l ks) hs F a1 c1 a2 c2 _ (fun b hb=>Nat.lt_of_lt_of_le (hF b hb) aF.size) (hr1.below aF) (hr2.below aF));have aH:=Lq7 aF;have Hr1:=Lq7 (hr1.below aF);unfold B7 at aG;have Hz:Hid (∀x∈l,A4 x):=Lq7 (by rw[A4] at hs;exact fun x hx=>smallVs_mem hs.2.2.2.2 hx);have hlen:l.length<=140737488355328:=(by rw[A4] at hs;exact hs.2.1);by_cases hk:k=4
 ·subst hk;cases hck:A7 (.mk 4 n s l ks) with
  | false=>
   have Ht:Hid (B2 (.mk 4 n s l ks)=none):=Lq7 (by unfold B2;rw[if_neg (fun h=>by rw[hck] at h;exact absurd h.2.1 (by decide))]);rw[hck] at aG;go_enter Tryz.func144,Tryz.ntmps144;go_wp2_with fail;refine aG.out.mono ?_;rintro e w1 ⟨rfl,aI⟩;have aS:=Lq7 (aH.out.trans (aI.mono aH.out.size));go_wp2_with fail;refine bodyPost_ret (v:=.tuple #[.slice none 0 0,.bool false]) (by simp[results,Tryz.results144,go_sem]) rfl ?_;unfold Lx;rw[Ht.out];exact⟨aS.out,rfl⟩
  | true=>
   have Ht:Hid (B2 (.mk 4 n s l ks)=if l.all (fun x=>x.kind==3)=true then some (l.map Vl.str) else none):=Lq7 (by
    unfold B2;by_cases h:l.all (fun x=>x.kind==3)=true
    ·rw[if_pos ⟨rfl,hck,h⟩,if_pos h];rfl
    ·rw[if_neg (fun h'=>h h'.2.2),if_neg h])
   rw[hck] at aG;have hl1:l.length<=1000:=(check_len hck).2.1;obtain⟨i0,hi,hz0,hz1,hz2⟩:=info_parts infoStr;go_enter Tryz.func144,Tryz.ntmps144;go_wp2_with fail;refine aG.out.mono ?_;rintro e w1 ⟨rfl,aI⟩;have aS:=Lq7 (aH.out.trans (aI.mono aH.out.size));have H1:=Lq7 (stays H0.out aI);have Hr:=Lq7 (Hr1.out.below aI);obtain⟨q0,q1,q2,q3,q4,q5,q6,q7,q8,q9,q10⟩:=Aa H1.out;have hw1:w.heap.size+1<=w1.heap.size:=(by have:=here H1.out;omega);go_wp2_with fail
   go_loopw [4,18] (fun v i wr=>∃j:Nat,i = .int .i64 j/\j<=l.length/\Hid (OwnS wr w1.heap.size v ((l.take j).map Vl.str))/\Hid (Below w1.heap.size w1 wr)/\Hid ((l.take j).all (fun x=>x.kind==3)=true)) (fun _ i _=>l.length-(intOf i).toNat)
   case atStart=>exact⟨0,rfl,nlz _,Lq7 (OwnS.nil _ _),Lq7 (bRf _ _),Lq7 rfl⟩
   case round=>
    obtain⟨j,rfl,hj,hown,aC,aD⟩:=hrel;by_cases hlt:j<l.length
    ·cases hx:l[j] with
     | mk xk xn xs xl xks=>
      have aU:l[j]? = some (.mk xk xn xs xl xks):=(by rw[lgE hlt,hx]);obtain⟨b,off,b1,e1,b2,e2,hae,-,hbl,r0,r1,r2,r3,r4,-,-⟩:=(Hr.out.below aC.out).val aU;have aV:l.take (j+1)=l.take j++[.mk xk xn xs xl xks]:=(by rw[ltA,aU];rfl);have hzx:xs.size<=9223372036854775807:=by
       have:=Hz.out _ (lgM aU);rw[A4] at this;exact this.1.1
      subst hae;have Hq:=Lq7 (stays H1.out aC.out);obtain⟨aL,cL,rfl,-,-⟩:=hown.out.strsAt;rw[lnM,lnT,Nat.min_eq_left hj] at hown |-;by_cases hk3:xk=3
      ·subst hk3;have aJ:OwnS (wr.alloc (.cells #[.int .i64 3,.int .i64 xn,.string xs,.slice b1 xl.length e1,.slice b2 xks.length e2] 25)) w1.heap.size (.slice aL j cL) ((l.take j).map Vl.str):=hown.out.below ((bRf _ _).alloc (nlr _) _);have aA:=lit_one (wr.alloc (.cells #[.int .i64 3,.int .i64 xn,.string xs,.slice b1 xl.length e1,.slice b2 xks.length e2] 25)) (.string xs) 9;rw[show(wr.alloc (.cells #[.int .i64 3,.int .i64 xn,.string xs,.slice b1 xl.length e1,.slice b2 xks.length e2] 25)).heap.size=wr.heap.size+1 by simp] at aA;have aM:=Lq7 aA;have aN:Hid (((wr.alloc (.cells #[.int .i64 3,.int .i64 xn,.string xs,.slice b1 xl.length e1,.slice b2 xks.length e2] 25)).alloc (.cells #[.string xs] 9)).ownsRow w1.heap.size 9 1 (.slice aL j cL) j (((l.take j).map Vl.str).map Value.string)):=Lq7 (by
        have:=aJ.below ((bRf _ _).alloc (nlr _) (.cells #[.string xs] 9));unfold OwnS at this;rw[lnM,lnT,Nat.min_eq_left hj] at this;exact this)
       have aW:Hid (∀g,(Value.slice aL j cL).ownBlock=some g->w1.heap.size<=g):=Lq7 (fun g hg=>(hown.out.block hg).1);have hall':Hid ((l.take (j+1)).all (fun x=>x.kind==3)=true):=Lq7 (by rw[aV,List.all_append,aD.out];rfl);have Htk:Hid ((l.take (j+1)).map Vl.str=(l.take j).map Vl.str++[xs]):=Lq7 (by rw[aV,List.map_append];rfl);have hsz:=aC.out.size
       go_wp2_with (at_builtin;refine wpList_append_own _ rfl _ _ 23 rfl w1.heap.size 9 i0 (.string ByteArray.empty) 1 16 Tryz.underlying23 hi hz0 hz1 hz2 rfl (by decide) (.slice aL j cL) j _ rfl aN.out ⟨wr.heap.size+1,0,none⟩ 1 1 [.string xs] rfl rfl aM.out ?_ ?_ ?_ ?_ ?_)
       ·simp[Value.oneCell']
       ·unfold maxLen;omega
       ·omega
       ·simp;omega
       intro v2 w2 aQ aE _;have aB:Hid (OwnS w2 w1.heap.size v2 ((l.take (j+1)).map Vl.str)):=Lq7 (by
        rw[Htk.out];unfold OwnS;rw[List.length_append,lnM,lnT,Nat.min_eq_left hj,List.map_append]
        simpa using aQ)
       have aY:Hid (Below w1.heap.size w1 w2):=Lq7 ((aC.out.trans ((((bRf _ wr).alloc (nlr _) _).alloc (by simp) _).mono hsz)).trans (Cw aE aW.out (by simp;omega)));obtain⟨aL2,cL2,rfl,-,-⟩:=aB.out.strsAt;go_wp2_with fail;go_roundw
       case rel=>exact⟨j+1,by go_num,by omega,aB,aY,hall'⟩
       case measure=>simp only[intOf];omega
      ·have hk3':(xk != 3)=true:=(by simpa using hk3);have Hn:Hid (B2 (.mk 4 n s l ks)=none):=Lq7 (by
        rw[Ht.out,if_neg];intro h;rw[List.all_eq_true] at h;have hm:Vl.mk xk xn xs xl xks∈l:=by
         have:Vl.mk xk xn xs xl xks∈l.take (j+1):=(by rw[aV];simp);exact List.mem_of_mem_take this
        have:=h _ hm;exact hk3 (by simpa[Vl.kind] using this))
       go_wp2_with fail;refine bodyPost_ret (v:=.tuple #[.slice none 0 0,.bool false]) (by simp[results,Tryz.results144,go_sem]) rfl ?_;unfold Lx;rw[Hn.out];exact⟨aS.out.trans ((aC.out.trans ((bRf _ wr).alloc (nlr _) _ |>.mono aC.out.size)).mono (by omega)),rfl⟩
    ·have aR:l.take j=l:=ltL (by omega);rw[aR] at hown aD;have aZ:Hid (B2 (.mk 4 n s l ks)=some (l.map Vl.str)):=Lq7 (by rw[Ht.out,if_pos aD.out]);have hown':=hown.out.lower (base':=w.heap.size) (by omega);have Hown':=Lq7 hown';obtain⟨aL,cL,rfl,-,-⟩:=hown'.strsAt;go_wp2_with fail;refine bodyPost_ret (v:=.tuple #[.slice aL (l.map Vl.str).length cL,.bool true]) (by simp[results,Tryz.results144,go_sem]) rfl ?_;unfold Lx;rw[aZ.out];exact⟨aS.out.trans (aC.out.mono (by omega)),_,rfl,Hown'.out⟩
 ·have Ht:Hid (B2 (.mk k n s l ks)=none):=Lq7 (by unfold B2;rw[if_neg (fun h=>hk h.1)]);have hk':(k != 4)=true:=(by simpa using hk);go_enter Tryz.func144,Tryz.ntmps144;go_wp2_with fail;refine bodyPost_ret (v:=.tuple #[.slice none 0 0,.bool false]) (by simp[results,Tryz.results144,go_sem]) rfl ?_;unfold Lx;rw[Ht.out];exact⟨aH.out,rfl⟩
theorem cntVs_append:∀a b:List Vl,cntVs (a++b)=cntVs a+cntVs b
 | [],b=>by rw[List.nil_append,cntVs];omega
 | v::t,b=>by rw[List.cons_append,cntVs,cntVs,cntVs_append t b];omega
theorem Iw{l j x}(h:l[j]? = some x):cntVs (l.take (j+1))=cntVs (l.take j)+cntV x/\cntVs (l.take j)+cntV x<=cntVs l/\0<=cntVs (l.take j):=by
 have h1:l.take (j+1)=l.take j++[x]:=(by rw[ltA,h];rfl);have h2:cntVs (l.take (j+1))=cntVs (l.take j)+cntV x:=(by rw[h1,cntVs_append,cntVs,cntVs];omega);have h3:cntVs l=cntVs (l.take (j+1))+cntVs (l.drop (j+1)):=(by rw[<-cntVs_append,List.take_append_drop]);have h4:=D5 (l.drop (j+1));exact⟨h2,by omega,D5 _⟩
theorem dpVs_get{l}{j:Nat}{x}(h:l[j]? = some x):dpV x<=dpVs l:=by
 induction l generalizing j with
 | nil=>simp at h
 | cons v t ih=>
  rw[dpVs];cases j with
  | zero=>simp at h;subst h;omega
  | succ j=>have:=ih (j:=j) (by simpa using h);omega
theorem O1{l}{j:Nat}{x}(hl:nodesRs l=true)(h:l[j]? = some x):nodesR x=true:=by
 induction l generalizing j with
 | nil=>simp at h
 | cons v t ih=>
  rw[nodesRs,Bool.and_eq_true] at hl;cases j with
  | zero=>simp at h;subst h;exact hl.1
  | succ j=>exact ih (j:=j) hl.2 (by simpa using h)
def ManyC(v:Vl):Prop:=∀(F:Nat->Prop) (a1:Option Addr) (c1:Nat) (a2:Option Addr) (c2:Nat) (m:Int) (w:World),Ag F w a1 (A5 v.items)->Ag F w a2 (Bc v.keys)->cntV v<=m->m<=20000 ->
 Calls Tryz.prog 33 #[.agg #[.int .i64 v.kind,.int .i64 v.num,.string v.str,.slice a1 v.items.length c1,.slice a2 v.keys.length c2],.int .i64 m] w (fun e w'=>e = .returned (.int .i64 (cntV v))/\Below w.heap.size w w')
theorem Sa(k n1 s l ks)(hl:l.length<=140737488355328)(hit:∀x∈l,ManyC x)(F a1 c1 a2 c2 m w)(hr1:Ag F w a1 (A5 l))(_hr2:Ag F w a2 (Bc ks))(hm:1+cntVs l<=m)(hm2:m<=20000):
  Calls Tryz.prog 33 #[.agg #[.int .i64 k,.int .i64 n1,.string s,.slice a1 l.length c1,.slice a2 ks.length c2],.int .i64 m] w (fun e w'=>e = .returned (.int .i64 (1+cntVs l))/\Below w.heap.size w w'):=by
 have aF:Below w.heap.size w (w.alloc (.cells #[.int .i64 k,.int .i64 n1,.string s,.slice a1 l.length c1,.slice a2 ks.length c2] 25)):=(bRf _ w).alloc (nlr _) _;have H0:=Lq7 (aIn (heap_alloc_new w (.cells #[.int .i64 k,.int .i64 n1,.string s,.slice a1 l.length c1,.slice a2 ks.length c2] 25)) aF);have Hr:=Lq7 hr1;have aI:=Lq7 hit;clear hr1 _hr2 hit aF;go_enter Tryz.func33,Tryz.ntmps33;go_wp2_with fail;generalize World.alloc _ _=W0 at H0 |-
 go_loopw [5,6] (fun n i wr=>∃(N:Int) (j:Nat),n = .int .i64 N/\i = .int .i64 j/\j<=l.length/\Hid (N=1+cntVs (l.take j))/\Hid (wr.heap[w.heap.size]? = some (.cells #[.int .i64 k,.int .i64 n1,.string s,.slice a1 l.length c1,.slice a2 ks.length c2] 25 (0,0))/\Below w.heap.size w wr)) (fun _ i _=>l.length-(intOf i).toNat)
 case atStart=>exact⟨1,0,rfl,rfl,nlz _,Lq7 (by rw[List.take_zero,cntVs];rfl),H0⟩
 case round=>
  obtain⟨N,j,rfl,rfl,hj,hN,aA⟩:=hrel;obtain⟨q0,q1,q2,q3,q4,q5,-⟩:=Aa aA.out.1;by_cases hlt:j<l.length
  ·have aB:l[j]? = some l[j]:=lgE hlt;generalize l[j]=x at aB;have HC:=Lq7 (aI.out x (lgM aB));obtain⟨g1,g2,g3⟩:=Iw aB;have g4:=Fk x;have hN':=hN.out;have hle:N<=m:=(by omega);have aM:1<=N:=(by omega);have aN:Hid (N+cntV x=1+cntVs (l.take (j+1))):=Lq7 (by omega);have aJ:N+cntV x<=20000:=(by omega);have aE:cntV x<=m-N:=(by omega);have hcx:1<=cntV x:=g4;obtain⟨xk,xn,xs,xl,xks⟩:=x;obtain⟨b,off,b1,e1,b2,e2,rfl,-,hbl,r0,r1,r2,r3,r4,aG,aH⟩:=(Hr.out.below aA.out.2).val aB;have HK:=Lq7 (HC.out F b1 e1 b2 e2 (m-N) wr aG aH aE (by omega));generalize cntV (.mk xk xn xs xl xks)=cx at HK aN aJ hcx;clear aB HC aG aH hN hN' g1 g2 g3 g4 aE hm;go_wp2_with fail;refine HK.out.mono ?_;rintro e w2 ⟨rfl,aD⟩;have aC:=Lq7 (aIn (stays aA.out.1 aD) (aA.out.2.trans (aD.mono aA.out.2.size)));clear aD aA HK r0 r1 r2 r3 r4 q0 q1 q2 q3 q4 q5;go_wp2_with fail;go_roundw
   case rel=>exact⟨N+cx,j+1,by go_num,by go_num,by omega,aN,aC⟩
   case measure=>simp only[intOf];omega
  ·have hN':=hN.out;rw[ltL (by omega)] at hN';have HN:=Lq7 hN';clear hN hN';go_wp2_with fail;go_ret;exact⟨congrArg (fun z=>Ending.returned (Value.int .i64 z)) HN.out,aA.out.2⟩
theorem many_any(v):A4 v->ManyC v:=
 Vl.rec (motive_1:=fun v=>A4 v->ManyC v) (motive_2:=fun l=>Bk l->∀x∈l,ManyC x)
  (fun k n s l ks ih h F a1 c1 a2 c2 m w hr1 hr2 hm hm2=>by
   rw[A4] at h;have hc:cntV (.mk k n s l ks)=1+cntVs l:=(by rw[cntV]);rw[hc] at hm |-;exact Sa k n s l ks h.2.1 (ih h.2.2.2.2) F a1 c1 a2 c2 m w hr1 hr2 hm hm2)
  (fun _ x hx=>by cases hx)
  (fun v t hv ht h x hx=>by
   rw[Bk] at h;rcases List.mem_cons.1 hx with rfl|hx
   ·exact hv h.1
   ·exact ht h.2 x hx) v
def DeepC(v:Vl):Prop:=∀(F:Nat->Prop) (a1:Option Addr) (c1:Nat) (a2:Option Addr) (c2:Nat) (m:Int) (w:World),Ag F w a1 (A5 v.items)->Ag F w a2 (Bc v.keys)->dpV v<=60->0<=m->m<=60 ->
 Calls Tryz.prog 34 #[.agg #[.int .i64 v.kind,.int .i64 v.num,.string v.str,.slice a1 v.items.length c1,.slice a2 v.keys.length c2],.int .i64 m] w (fun e w'=>(∃d:Int,e = .returned (.int .i64 d)/\0<=d/\d<=dpV v)/\Below w.heap.size w w')
theorem Sb(k n1 s l ks)(hl:l.length<=140737488355328)(hit:∀x∈l,DeepC x)(F a1 c1 a2 c2 m w)(hr1:Ag F w a1 (A5 l))(_hr2:Ag F w a2 (Bc ks))(hd:1+dpVs l<=60)(hm:0<=m)(hm2:m<=60):
  Calls Tryz.prog 34 #[.agg #[.int .i64 k,.int .i64 n1,.string s,.slice a1 l.length c1,.slice a2 ks.length c2],.int .i64 m] w (fun e w'=>(∃d:Int,e = .returned (.int .i64 d)/\0<=d/\d<=1+dpVs l)/\Below w.heap.size w w'):=by
 have aF:Below w.heap.size w (w.alloc (.cells #[.int .i64 k,.int .i64 n1,.string s,.slice a1 l.length c1,.slice a2 ks.length c2] 25)):=(bRf _ w).alloc (nlr _) _;have H0:=Lq7 (aIn (heap_alloc_new w (.cells #[.int .i64 k,.int .i64 n1,.string s,.slice a1 l.length c1,.slice a2 ks.length c2] 25)) aF);have Hr:=Lq7 hr1;have aI:=Lq7 hit;have hdp:=dpVs_pos l;by_cases hm0:0<m
 case neg=>
  go_enter Tryz.func34,Tryz.ntmps34;go_wp2_with fail;go_ret;exact⟨⟨1,rfl,by omega,by omega⟩,H0.out.2⟩
 go_enter Tryz.func34,Tryz.ntmps34;go_wp2_with fail;generalize World.alloc _ _=W0 at H0 |-
 go_loopw [5,13] (fun n i wr=>∃(N:Int) (j:Nat),n = .int .i64 N/\i = .int .i64 j/\j<=l.length/\(0<=N/\N<=dpVs l)/\Hid (wr.heap[w.heap.size]? = some (.cells #[.int .i64 k,.int .i64 n1,.string s,.slice a1 l.length c1,.slice a2 ks.length c2] 25 (0,0))/\Below w.heap.size w wr)) (fun _ i _=>l.length-(intOf i).toNat)
 case atStart=>exact⟨0,0,rfl,rfl,nlz _,⟨Int.le_refl _,hdp⟩,H0⟩
 case round=>
  obtain⟨N,j,rfl,rfl,hj,⟨aM,hN1⟩,aA⟩:=hrel;obtain⟨q0,q1,q2,q3,q4,q5,-⟩:=Aa aA.out.1;by_cases hlt:j<l.length
  ·have aB:l[j]? = some l[j]:=lgE hlt;generalize l[j]=x at aB;have HC:=Lq7 (aI.out x (lgM aB));have g1:=dpVs_get aB;obtain⟨xk,xn,xs,xl,xks⟩:=x;obtain⟨b,off,b1,e1,b2,e2,rfl,-,hbl,r0,r1,r2,r3,r4,aG,aH⟩:=(Hr.out.below aA.out.2).val aB;have HK:=Lq7 (HC.out F b1 e1 b2 e2 (m - 1) wr aG aH (by omega) (by omega) (by omega));have G1:=Lq7 g1;go_wp2_with fail;refine HK.out.mono ?_;rintro e w2 ⟨⟨d,rfl,hd0,hd1⟩,aD⟩;have aC:=Lq7 (aIn (stays aA.out.1 aD) (aA.out.2.trans (aD.mono aA.out.2.size)));have hd2:d<=dpVs l:=(by have:=G1.out;omega);by_cases hdn:N<d
   ·go_wp2_with fail;go_roundw
    case rel=>exact⟨d,j+1,rfl,by go_num,by omega,⟨hd0,hd2⟩,aC⟩
    case measure=>simp only[intOf];omega
   ·go_wp2_with fail;go_roundw
    case rel=>exact⟨N,j+1,rfl,by go_num,by omega,⟨aM,hN1⟩,aC⟩
    case measure=>simp only[intOf];omega
  ·go_wp2_with fail;go_ret;exact⟨⟨N+1,by go_num,by omega,by omega⟩,aA.out.2⟩
theorem deep_any(v):A4 v->DeepC v:=
 Vl.rec (motive_1:=fun v=>A4 v->DeepC v) (motive_2:=fun l=>Bk l->∀x∈l,DeepC x)
  (fun k n s l ks ih h F a1 c1 a2 c2 m w hr1 hr2 hd hm hm2=>by
   rw[A4] at h;have hc:dpV (.mk k n s l ks)=1+dpVs l:=(by rw[dpV]);rw[hc] at hd |-;exact Sb k n s l ks h.2.1 (ih h.2.2.2.2) F a1 c1 a2 c2 m w hr1 hr2 hd hm hm2)
  (fun _ x hx=>by cases hx)
  (fun v t hv ht h x hx=>by
   rw[Bk] at h;rcases List.mem_cons.1 hx with rfl|hx
   ·exact hv h.1
   ·exact ht h.2 x hx) v
def ManyX(v:Vl):Prop:=∀(F:Nat->Prop) (a1:Option Addr) (c1:Nat) (a2:Option Addr) (c2:Nat) (m:Int) (w:World),Ag F w a1 (A5 v.items)->Ag F w a2 (Bc v.keys)->0<=m->m<=20000 ->
 Calls Tryz.prog 33 #[.agg #[.int .i64 v.kind,.int .i64 v.num,.string v.str,.slice a1 v.items.length c1,.slice a2 v.keys.length c2],.int .i64 m] w (fun e w'=>e = .returned (.int .i64 (manyR v m))/\Below w.heap.size w w')
theorem Qj(k n1 s l ks)(hl:l.length<=140737488355328)(hit:∀x∈l,ManyX x)(F a1 c1 a2 c2 m w)(hr1:Ag F w a1 (A5 l))(_hr2:Ag F w a2 (Bc ks))(hm:0<=m)(hm2:m<=20000):
  Calls Tryz.prog 33 #[.agg #[.int .i64 k,.int .i64 n1,.string s,.slice a1 l.length c1,.slice a2 ks.length c2],.int .i64 m] w (fun e w'=>e = .returned (.int .i64 (manyRs l m 1))/\Below w.heap.size w w'):=by
 have aH:Below w.heap.size w (w.alloc (.cells #[.int .i64 k,.int .i64 n1,.string s,.slice a1 l.length c1,.slice a2 ks.length c2] 25)):=(bRf _ w).alloc (nlr _) _;have H0:=Lq7 (aIn (heap_alloc_new w (.cells #[.int .i64 k,.int .i64 n1,.string s,.slice a1 l.length c1,.slice a2 ks.length c2] 25)) aH);have Hr:=Lq7 hr1;have aM:=Lq7 hit;clear hr1 _hr2 hit aH;generalize hR:manyRs l m 1=R;have HR:=Lq7 hR;clear hR;go_enter Tryz.func33,Tryz.ntmps33;go_wp2_with fail;generalize World.alloc _ _=W0 at H0 |-
 go_loopw [5,6] (fun n i wr=>∃(N:Int) (j:Nat),n = .int .i64 N/\i = .int .i64 j/\j<=l.length/\1<=N/\N<=m+1/\Hid (manyRs (l.drop j) m N=R)/\Hid (wr.heap[w.heap.size]? = some (.cells #[.int .i64 k,.int .i64 n1,.string s,.slice a1 l.length c1,.slice a2 ks.length c2] 25 (0,0))/\Below w.heap.size w wr)) (fun _ i _=>l.length-(intOf i).toNat)
 case atStart=>exact⟨1,0,rfl,rfl,nlz _,by omega,by omega,Lq7 (by rw[List.drop_zero];exact HR.out),H0⟩
 case round=>
  obtain⟨N,j,rfl,rfl,hj,aQ,aR,hN,aA⟩:=hrel;obtain⟨q0,q1,q2,q3,q4,q5,-⟩:=Aa aA.out.1;by_cases hlt:j<l.length
  ·by_cases hle:N<=m
   ·have aC:l[j]? = some l[j]:=lgE hlt;have hd:l.drop j=l[j]::l.drop (j+1):=List.drop_eq_getElem_cons hlt;generalize l[j]=x at aC hd;have HC:=Lq7 (aM.out x (lgM aC));obtain⟨g1,g2,-⟩:=Gk x (m-N) (by omega);have aB:=hN.out;rw[hd,manyRs,if_pos hle] at aB;have aE:=Lq7 aB;obtain⟨xk,xn,xs,xl,xks⟩:=x;obtain⟨b,off,b1,e1,b2,e2,rfl,-,hbl,r0,r1,r2,r3,r4,aI,aJ⟩:=(Hr.out.below aA.out.2).val aC;have HK:=Lq7 (HC.out F b1 e1 b2 e2 (m-N) wr aI aJ (by omega) (by omega));generalize manyR (.mk xk xn xs xl xks) (m-N)=cx at HK aE g1 g2;clear aC HC aI aJ hN aB hd;go_wp2_with fail;refine HK.out.mono ?_;rintro e w2 ⟨rfl,aF⟩;have aD:=Lq7 (aIn (stays aA.out.1 aF) (aA.out.2.trans (aF.mono aA.out.2.size)));clear aF aA HK r0 r1 r2 r3 r4 q0 q1 q2 q3 q4 q5;go_wp2_with fail;go_roundw
    case rel=>exact⟨N+cx,j+1,by go_num,by go_num,by omega,by omega,by omega,aE,aD⟩
    case measure=>simp only[intOf];omega
   ·have hd:l.drop j=l[j]::l.drop (j+1):=List.drop_eq_getElem_cons hlt;have aB:=hN.out;rw[hd,manyRs,if_neg hle] at aB;have HN:=Lq7 aB;clear hN aB hd;go_wp2_with fail;go_ret;exact⟨congrArg (fun z=>Ending.returned (Value.int .i64 z)) HN.out,aA.out.2⟩
  ·have hN':=hN.out;rw[List.drop_of_length_le (by omega),manyRs] at hN';have HN:=Lq7 hN';clear hN hN';go_wp2_with fail;go_ret;exact⟨congrArg (fun z=>Ending.returned (Value.int .i64 z)) HN.out,aA.out.2⟩
theorem Sc(v):A4 v->ManyX v:=
 Vl.rec (motive_1:=fun v=>A4 v->ManyX v) (motive_2:=fun l=>Bk l->∀x∈l,ManyX x)
  (fun k n s l ks ih h F a1 c1 a2 c2 m w hr1 hr2 hm hm2=>by
   rw[A4] at h;rw[manyR];exact Qj k n s l ks h.2.1 (ih h.2.2.2.2) F a1 c1 a2 c2 m w hr1 hr2 hm hm2)
  (fun _ x hx=>by cases hx)
  (fun v t hv ht h x hx=>by
   rw[Bk] at h;rcases List.mem_cons.1 hx with rfl|hx
   ·exact hv h.1
   ·exact ht h.2 x hx) v
def DeepX(v:Vl):Prop:=∀(F:Nat->Prop) (a1:Option Addr) (c1:Nat) (a2:Option Addr) (c2:Nat) (m:Int) (w:World),Ag F w a1 (A5 v.items)->Ag F w a2 (Bc v.keys)->0<=m->m<=60 ->
 Calls Tryz.prog 34 #[.agg #[.int .i64 v.kind,.int .i64 v.num,.string v.str,.slice a1 v.items.length c1,.slice a2 v.keys.length c2],.int .i64 m] w (fun e w'=>e = .returned (.int .i64 (deepR v m))/\Below w.heap.size w w')
theorem Qk(k n1 s l ks)(hl:l.length<=140737488355328)(hit:∀x∈l,DeepX x)(F a1 c1 a2 c2 m w)(hr1:Ag F w a1 (A5 l))(_hr2:Ag F w a2 (Bc ks))(hm:0<=m)(hm2:m<=60):
  Calls Tryz.prog 34 #[.agg #[.int .i64 k,.int .i64 n1,.string s,.slice a1 l.length c1,.slice a2 ks.length c2],.int .i64 m] w (fun e w'=>e = .returned (.int .i64 ((if 0<m then deepRs l m 0 else 0)+1))/\Below w.heap.size w w'):=by
 have aH:Below w.heap.size w (w.alloc (.cells #[.int .i64 k,.int .i64 n1,.string s,.slice a1 l.length c1,.slice a2 ks.length c2] 25)):=(bRf _ w).alloc (nlr _) _;have H0:=Lq7 (aIn (heap_alloc_new w (.cells #[.int .i64 k,.int .i64 n1,.string s,.slice a1 l.length c1,.slice a2 ks.length c2] 25)) aH);have Hr:=Lq7 hr1;have aM:=Lq7 hit;clear hr1 _hr2 hit aH;by_cases hm0:0<m
 case neg=>
  rw[if_neg hm0];go_enter Tryz.func34,Tryz.ntmps34;go_wp2_with fail;go_ret;exact⟨rfl,H0.out.2⟩
 rw[if_pos hm0];generalize hR:deepRs l m 0=R;have HR:=Lq7 hR;clear hR;go_enter Tryz.func34,Tryz.ntmps34;go_wp2_with fail;generalize World.alloc _ _=W0 at H0 |-
 go_loopw [5,13] (fun n i wr=>∃(N:Int) (j:Nat),n = .int .i64 N/\i = .int .i64 j/\j<=l.length/\0<=N/\N<=m/\Hid (deepRs (l.drop j) m N=R)/\Hid (wr.heap[w.heap.size]? = some (.cells #[.int .i64 k,.int .i64 n1,.string s,.slice a1 l.length c1,.slice a2 ks.length c2] 25 (0,0))/\Below w.heap.size w wr)) (fun _ i _=>l.length-(intOf i).toNat)
 case atStart=>exact⟨0,0,rfl,rfl,nlz _,Int.le_refl _,by omega,Lq7 (by rw[List.drop_zero];exact HR.out),H0⟩
 case round=>
  obtain⟨N,j,rfl,rfl,hj,aQ,aR,hN,aA⟩:=hrel;obtain⟨q0,q1,q2,q3,q4,q5,-⟩:=Aa aA.out.1;by_cases hlt:j<l.length
  ·have aC:l[j]? = some l[j]:=lgE hlt;have hd:l.drop j=l[j]::l.drop (j+1):=List.drop_eq_getElem_cons hlt;generalize l[j]=x at aC hd;have HC:=Lq7 (aM.out x (lgM aC));obtain⟨g1,g2,-⟩:=Gl x (m - 1) (by omega);have aB:=hN.out;rw[hd,deepRs] at aB;have aE:=Lq7 aB;obtain⟨xk,xn,xs,xl,xks⟩:=x;obtain⟨b,off,b1,e1,b2,e2,rfl,-,hbl,r0,r1,r2,r3,r4,aI,aJ⟩:=(Hr.out.below aA.out.2).val aC;have HK:=Lq7 (HC.out F b1 e1 b2 e2 (m - 1) wr aI aJ (by omega) (by omega));generalize deepR (.mk xk xn xs xl xks) (m - 1)=cx at HK aE g1 g2;clear aC HC aI aJ hN aB hd;go_wp2_with fail;refine HK.out.mono ?_;rintro e w2 ⟨rfl,aF⟩;have aD:=Lq7 (aIn (stays aA.out.1 aF) (aA.out.2.trans (aF.mono aA.out.2.size)));clear aF aA HK r0 r1 r2 r3 r4 q0 q1 q2 q3 q4 q5;by_cases hdn:N<cx
   ·have aG:=aE.out;rw[if_pos hdn] at aG;have aN:=Lq7 aG;clear aG aE;go_wp2_with fail;go_roundw
    case rel=>exact⟨cx,j+1,rfl,by go_num,by omega,by omega,by omega,aN,aD⟩
    case measure=>simp only[intOf];omega
   ·have aG:=aE.out;rw[if_neg hdn] at aG;have aN:=Lq7 aG;clear aG aE;go_wp2_with fail;go_roundw
    case rel=>exact⟨N,j+1,rfl,by go_num,by omega,aQ,aR,aN,aD⟩
    case measure=>simp only[intOf];omega
  ·have hN':=hN.out;rw[List.drop_of_length_le (by omega),deepRs] at hN';have HN:=Lq7 hN';clear hN hN';go_wp2_with fail;go_ret;exact⟨congrArg (fun z=>Ending.returned (Value.int .i64 (z+1))) HN.out,aA.out.2⟩
theorem Sd(v):A4 v->DeepX v:=
 Vl.rec (motive_1:=fun v=>A4 v->DeepX v) (motive_2:=fun l=>Bk l->∀x∈l,DeepX x)
  (fun k n s l ks ih h F a1 c1 a2 c2 m w hr1 hr2 hm hm2=>by
   rw[A4] at h;rw[deepR];exact Qk k n s l ks h.2.1 (ih h.2.2.2.2) F a1 c1 a2 c2 m w hr1 hr2 hm hm2)
  (fun _ x hx=>by cases hx)
  (fun v t hv ht h x hx=>by
   rw[Bk] at h;rcases List.mem_cons.1 hx with rfl|hx
   ·exact hv h.1
   ·exact ht h.2 x hx) v
mutual
def shortV:Vl->Prop
 | .mk _ _ s l ks=>s.size<=100/\ks.length<=60/\(∀x∈ks,x.size<=100)/\shortVs l
def shortVs:List Vl->Prop
 | []=>True
 | v::t=>shortV v/\shortVs t
end
theorem shortVs_of:∀{l:List Vl},(∀x∈l,shortV x)->shortVs l
 | [],_=>by rw[shortVs];trivial
 | v::t,h=>by rw[shortVs];exact⟨h v (List.mem_cons_self ..),shortVs_of fun x hx=>h x (List.mem_cons_of_mem _ hx)⟩
theorem shortVs_mem:∀{l:List Vl} {x:Vl},shortVs l->x∈l->shortV x
 | _::_,_,h,.head _=>by rw[shortVs] at h;exact h.1
 | _::_,_,h,.tail _ hm=>by rw[shortVs] at h;exact shortVs_mem h.2 hm
def Nj(v:Vl):Prop:=∀(F:Nat->Prop) (a1:Option Addr) (c1:Nat) (a2:Option Addr) (c2:Nat) (w:World),cntV v<=20000->Ag F w a1 (A5 v.items)->Ag F w a2 (Bc v.keys) ->
 Calls Tryz.prog 15 #[.agg #[.int .i64 v.kind,.int .i64 v.num,.string v.str,.slice a1 v.items.length c1,.slice a2 v.keys.length c2],.int .i64 60] w (fun e w'=>(∃n:Int,e = .returned (.int .i64 n)/\1<=n/\n<=cntV v/\(n<=60->n=cntV v))/\Below w.heap.size w w')
theorem Ox(k n1 s l ks)(hl:l.length<=140737488355328)(hc:cntVs l<=19999)(hit:∀x∈l,Nj x)(F a1 c1 a2 c2 w)(hr1:Ag F w a1 (A5 l))(_hr2:Ag F w a2 (Bc ks)):
  Calls Tryz.prog 15 #[.agg #[.int .i64 k,.int .i64 n1,.string s,.slice a1 l.length c1,.slice a2 ks.length c2],.int .i64 60] w (fun e w'=>(∃n:Int,e = .returned (.int .i64 n)/\1<=n/\n<=1+cntVs l/\(n<=60->n=1+cntVs l))/\Below w.heap.size w w'):=by
 have aC:Below w.heap.size w (w.alloc (.cells #[.int .i64 k,.int .i64 n1,.string s,.slice a1 l.length c1,.slice a2 ks.length c2] 25)):=(bRf _ w).alloc (nlr _) _;have H0:=Lq7 (aIn (heap_alloc_new w (.cells #[.int .i64 k,.int .i64 n1,.string s,.slice a1 l.length c1,.slice a2 ks.length c2] 25)) aC);have Hr:=Lq7 hr1;have aQ:=Lq7 hit;clear hr1 _hr2 hit aC;go_enter Tryz.func15,Tryz.ntmps15;go_wp2_with fail;generalize World.alloc _ _=W0 at H0 |-
 go_loopw [5,10] (fun n i wr=>∃(N:Int) (j:Nat),n = .int .i64 N/\i = .int .i64 j/\j<=l.length/\(1<=N/\N<=20000)/\Hid (N<=1+cntVs (l.take j)/\(N<=60->N=1+cntVs (l.take j)))/\Hid (wr.heap[w.heap.size]? = some (.cells #[.int .i64 k,.int .i64 n1,.string s,.slice a1 l.length c1,.slice a2 ks.length c2] 25 (0,0))/\Below w.heap.size w wr)) (fun _ i _=>l.length-(intOf i).toNat)
 case atStart=>exact⟨1,0,rfl,rfl,nlz _,⟨by omega,by omega⟩,Lq7 (by rw[List.take_zero,cntVs];exact⟨by omega,fun _=>rfl⟩),H0⟩
 case round=>
  obtain⟨N,j,rfl,rfl,hj,⟨aS,hN9⟩,hN,aA⟩:=hrel;by_cases hlt:j<l.length
  ·by_cases hN1:60<N
   ·have hN2:¬N<=60:=(by omega);have aB:l[j]? = some l[j]:=lgE hlt;obtain⟨g1,g2,g3⟩:=Iw aB;have g4:=Fk l[j];have Hle:Hid (N<=1+cntVs l):=Lq7 (by have:=hN.out.1;omega);clear g1 g2 g3 g4 aB;go_wp2_with fail;go_ret;exact⟨⟨_,rfl,aS,Hle.out,fun h=>absurd h (by omega)⟩,aA.out.2⟩
   ·have aB:l[j]? = some l[j]:=lgE hlt;generalize l[j]=x at aB;have HC:=Lq7 (aQ.out x (lgM aB));obtain⟨g1,g2,g3⟩:=Iw aB;have g4:=Fk x;have aU:=hN.out.2 (by omega);have hcx:cntV x<=19999:=(by omega);have Hx:Hid (N=1+cntVs (l.take j)/\cntVs (l.take (j+1))=cntVs (l.take j)+cntV x):=Lq7 ⟨aU,g1⟩;obtain⟨xk,xn,xs,xl,xks⟩:=x;obtain⟨b,off,b1,e1,b2,e2,rfl,-,hbl,r0,r1,r2,r3,r4,aG,aH⟩:=(Hr.out.below aA.out.2).val aB;have HK:=Lq7 (HC.out F b1 e1 b2 e2 wr (by omega) aG aH);obtain⟨q0,q1,q2,q3,q4,q5,-⟩:=Aa aA.out.1;have hsum:N+cntV (.mk xk xn xs xl xks)<=20000:=(by omega);generalize cntV (.mk xk xn xs xl xks)=cx at *;clear aB HC aG aH hN g1 g2 g3 aU;go_wp2_with fail;refine HK.out.mono ?_;rintro e w2 ⟨⟨M,rfl,hM0,hM1,aI⟩,aD⟩;have aE:=Lq7 (aIn (stays aA.out.1 aD) (aA.out.2.trans (aD.mono aA.out.2.size)));have HM:Hid (M<=60->M=cx):=Lq7 aI;clear aD aA HK r0 r1 r2 r3 r4 q0 q1 q2 q3 q4 q5 aI;go_wp2_with fail;go_roundw
    case rel=>exact⟨N+M,j+1,by go_num,by go_num,by omega,⟨by omega,by omega⟩,Lq7 ⟨by have:=Hx.out;omega,fun h=>by have:=HM.out (by omega);have:=Hx.out;omega⟩,aE⟩
    case measure=>simp only[intOf];omega
  ·have hN':=hN.out;rw[ltL (by omega)] at hN';have HN:=Lq7 hN';clear hN hN';go_wp2_with fail;go_ret;exact⟨⟨_,rfl,aS,HN.out.1,HN.out.2⟩,aA.out.2⟩
theorem P6(v):A4 v->Nj v:=
 Vl.rec (motive_1:=fun v=>A4 v->Nj v) (motive_2:=fun l=>Bk l->∀x∈l,Nj x)
  (fun k n s l ks ih h F a1 c1 a2 c2 w hc hr1 hr2=>by
   rw[A4] at h;rw[cntV] at hc |-;exact Ox k n s l ks h.2.1 (by omega) (ih h.2.2.2.2) F a1 c1 a2 c2 w hr1 hr2)
  (fun _ x hx=>by cases hx)
  (fun v t hv ht h x hx=>by
   rw[Bk] at h;rcases List.mem_cons.1 hx with rfl|hx
   ·exact hv h.1
   ·exact ht h.2 x hx) v
def NoE(P:Prop)(w:World)(e:Ending)(w':World):Prop:=(∃b:Bool,e = .returned (.bool b)/\(b=false->P))/\Below w.heap.size w w'
def LongX(v:Vl):Prop:=∀(F:Nat->Prop) (a1:Option Addr) (c1:Nat) (a2:Option Addr) (c2:Nat) (w:World),Ag F w a1 (A5 v.items)->Ag F w a2 (Bc v.keys) ->
 Calls Tryz.prog 16 #[.agg #[.int .i64 v.kind,.int .i64 v.num,.string v.str,.slice a1 v.items.length c1,.slice a2 v.keys.length c2]] w (NoE (shortV v) w)
theorem P7(k n1 s l ks)(hz:s.size<=9223372036854775807)(hl:l.length<=140737488355328)(hkl:ks.length<=140737488355328)(hkz:∀x∈ks,x.size<=9223372036854775807)(hit:∀x∈l,LongX x)(F a1 c1 a2 c2 w)(hr1:Ag F w a1 (A5 l))(hr2:Ag F w a2 (Bc ks)):
  Calls Tryz.prog 16 #[.agg #[.int .i64 k,.int .i64 n1,.string s,.slice a1 l.length c1,.slice a2 ks.length c2]] w (NoE (shortV (.mk k n1 s l ks)) w):=by
 have aC:Below w.heap.size w (w.alloc (.cells #[.int .i64 k,.int .i64 n1,.string s,.slice a1 l.length c1,.slice a2 ks.length c2] 25)):=(bRf _ w).alloc (nlr _) _;have H0:=Lq7 (aIn (heap_alloc_new w (.cells #[.int .i64 k,.int .i64 n1,.string s,.slice a1 l.length c1,.slice a2 ks.length c2] 25)) aC);have Hr:=Lq7 hr1;have Hk:=Lq7 hr2.strs;have aQ:=Lq7 hit;have Hkz:=Lq7 hkz;clear hr1 hr2 hit aC hkz;by_cases h1:(100:Int)<s.size
 ·go_enter Tryz.func16,Tryz.ntmps16;go_wp2_with fail;go_ret;exact⟨⟨_,rfl,fun h=>by cases h⟩,H0.out.2⟩
 by_cases h2:(60:Int)<ks.length
 ·go_enter Tryz.func16,Tryz.ntmps16;go_wp2_with fail;go_ret;exact⟨⟨_,rfl,fun h=>by cases h⟩,H0.out.2⟩
 go_enter Tryz.func16,Tryz.ntmps16;go_wp2_with fail;generalize World.alloc _ _=W0 at H0 |-
 go_loop [18] (fun i=>∃j:Nat,i = .int .i64 j/\j<=ks.length/\Hid (∀x∈ks.take j,x.size<=100)) (fun i=>ks.length-(intOf i).toNat)
 case atStart=>exact⟨0,rfl,nlz _,Lq7 (fun x hx=>by simp at hx)⟩
 case round=>
  obtain⟨j,rfl,hj,hK⟩:=hrel;obtain⟨q0,q1,q2,q3,q4,q5,-⟩:=Aa H0.out.1;by_cases hlt:j<ks.length
  ·obtain⟨b,off,rfl,hc⟩:=(Hk.out.below H0.out.2).at hlt;have hxz:=Hkz.out _ (List.getElem_mem hlt);have aF:Hid (ks.take (j+1)=ks.take j++[ks[j]]):=Lq7 (by rw[ltA,lgE hlt];rfl);generalize ks[j]=x at hc hxz aF;by_cases hbig:(100:Int)<x.size
   ·go_wp2_with fail;go_ret;exact⟨⟨_,rfl,fun h=>by cases h⟩,H0.out.2⟩
   ·have HK2:Hid (∀x∈ks.take (j+1),x.size<=100):=Lq7 (fun y hy=>by
     rw[aF.out,List.mem_append,List.mem_singleton] at hy;rcases hy with hy|rfl
     ·exact hK.out y hy
     ·omega)
    clear hK aF;go_wp2_with fail;go_round
    case rel=>exact⟨j+1,by go_num,by omega,HK2⟩
    case measure=>simp only[intOf];omega
  ·have aJ:Hid (∀x∈ks,x.size<=100):=Lq7 (by have:=hK.out;rwa [ltL (by omega)] at this);clear hK;go_wp2_with fail;clear q0 q1 q2 q3 q4 q5
   go_loopw [32] (fun i wr=>∃j:Nat,i = .int .i64 j/\j<=l.length/\Hid (∀x∈l.take j,shortV x)/\Hid (wr.heap[w.heap.size]? = some (.cells #[.int .i64 k,.int .i64 n1,.string s,.slice a1 l.length c1,.slice a2 ks.length c2] 25 (0,0))/\Below w.heap.size w wr)) (fun i _=>l.length-(intOf i).toNat)
   case atStart=>exact⟨0,rfl,nlz _,Lq7 (fun x hx=>by simp at hx),H0⟩
   case round=>
    obtain⟨i,rfl,hi,hI,aA⟩:=hrel;by_cases hlt2:i<l.length
    ·have aB:l[i]? = some l[i]:=lgE hlt2;have aF:Hid (l.take (i+1)=l.take i++[l[i]]):=Lq7 (by rw[ltA,aB];rfl);generalize l[i]=x at aB aF;have HC:=Lq7 (aQ.out x (lgM aB));obtain⟨xk,xn,xs,xl,xks⟩:=x;obtain⟨b,off,b1,e1,b2,e2,rfl,-,hbl,r0,r1,r2,r3,r4,aG,aH⟩:=(Hr.out.below aA.out.2).val aB;have aV:=Lq7 (HC.out F b1 e1 b2 e2 wr aG aH);obtain⟨q0,q1,q2,q3,q4,q5,-⟩:=Aa aA.out.1;clear aB HC aG aH;go_wp2_with fail;refine aV.out.mono ?_;rintro e w2 ⟨⟨bb,rfl,aW⟩,aD⟩;have aE:=Lq7 (aIn (stays aA.out.1 aD) (aA.out.2.trans (aD.mono aA.out.2.size)));have aY:=Lq7 aW;clear aD aA aV r0 r1 r2 r3 r4 q0 q1 q2 q3 q4 q5 aW;cases bb with
     | true=>
      go_wp2_with fail;go_ret;exact⟨⟨_,rfl,fun h=>by cases h⟩,aE.out.2⟩
     | false=>
      have HI2:Hid (∀x∈l.take (i+1),shortV x):=Lq7 (fun y hy=>by
       rw[aF.out,List.mem_append,List.mem_singleton] at hy;rcases hy with hy|rfl
       ·exact hI.out y hy
       ·exact aY.out rfl)
      clear hI aF aY;go_wp2_with fail;go_roundw
      case rel=>exact⟨i+1,by go_num,by omega,HI2,aE⟩
      case measure=>simp only[intOf];omega
    ·have aM:Hid (∀x∈l,shortV x):=Lq7 (by have:=hI.out;rwa [ltL (by omega)] at this);clear hI;go_wp2_with fail;go_ret;exact⟨⟨_,rfl,fun _=>by rw[shortV];exact⟨by omega,by omega,aJ.out,shortVs_of aM.out⟩⟩,aA.out.2⟩
theorem Rz(v):A4 v->LongX v:=
 Vl.rec (motive_1:=fun v=>A4 v->LongX v) (motive_2:=fun l=>Bk l->∀x∈l,LongX x)
  (fun k n s l ks ih h F a1 c1 a2 c2 w hr1 hr2=>by rw[A4] at h;exact P7 k n s l ks h.1.1 h.2.1 h.2.2.1 h.2.2.2.1 (ih h.2.2.2.2) F a1 c1 a2 c2 w hr1 hr2)
  (fun _ x hx=>by cases hx)
  (fun v t hv ht h x hx=>by
   rw[Bk] at h;rcases List.mem_cons.1 hx with rfl|hx
   ·exact hv h.1
   ·exact ht h.2 x hx) v
theorem P8(k n1 s l ks)(hs:A4 (.mk k n1 s l ks))(hc:cntV (.mk k n1 s l ks)<=20000)(F a1 c1 a2 c2 w)(hr1:Ag F w a1 (A5 l))(hr2:Ag F w a2 (Bc ks)):
  Calls Tryz.prog 5 #[.agg #[.int .i64 k,.int .i64 n1,.string s,.slice a1 l.length c1,.slice a2 ks.length c2]] w (NoE (cntV (.mk k n1 s l ks)<=60/\shortV (.mk k n1 s l ks)) w):=by
 have aC:Below w.heap.size w (w.alloc (.cells #[.int .i64 k,.int .i64 n1,.string s,.slice a1 l.length c1,.slice a2 ks.length c2] 25)):=(bRf _ w).alloc (nlr _) _;have H0:=Lq7 (aIn (heap_alloc_new w (.cells #[.int .i64 k,.int .i64 n1,.string s,.slice a1 l.length c1,.slice a2 ks.length c2] 25)) aC);have HC:=Lq7 (P6 _ hs F a1 c1 a2 c2 _ hc (hr1.below aC) (hr2.below aC));have HL:=Lq7 (fun W (h:Below w.heap.size w W)=>Rz _ hs F a1 c1 a2 c2 W (hr1.below h) (hr2.below h));generalize cntV (.mk k n1 s l ks)=cx at *;clear aC hr1 hr2 hs;go_enter Tryz.func5,Tryz.ntmps5;go_wp2_with fail;refine HC.out.mono ?_;rintro e w1 ⟨⟨M,rfl,hM0,hM1,aI⟩,aR⟩;have HM:=Lq7 aI;have H1:=Lq7 (aIn (stays H0.out.1 aR) (H0.out.2.trans (aR.mono H0.out.2.size)));have aZ:=Lq7 (HL.out w1 H1.out.2);clear aR H0 HC HL aI;obtain⟨q0,q1,q2,q3,q4,q5,-⟩:=Aa H1.out.1;by_cases h60:60<M
 ·go_wp2_with fail;go_ret;exact⟨⟨_,rfl,fun h=>by cases h⟩,H1.out.2⟩
 ·have aN:cx<=60:=(by have:=HM.out (by omega);omega);clear HM;go_wp2_with fail;refine aZ.out.mono ?_;rintro e w2 ⟨⟨b,rfl,hb⟩,aD⟩;have H2:=Lq7 (aIn hb (H1.out.2.trans (aD.mono H1.out.2.size)));clear aD hb H1 aZ;go_wp2_with fail;go_ret;exact⟨⟨_,rfl,fun h=>⟨aN,H2.out.1 (by revert h;cases b<;>simp)⟩⟩,H2.out.2⟩
end Go.Proofs.YtkehdallfohjfaaGreatDoor
