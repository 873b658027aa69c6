/-
  Rules in memory;the walks of rules.typeOf,own,Find. (Printed by loada_gen.py.)
-/
import Derived.Test.YtkehdallfohjfaaGreatDoorMLoadGood
import Derived.Test.YtkehdallfohjfaaGreatDoorMOpPlain
import Derived.Test.YtkehdallfohjfaaGreatDoorMCopyE
import Derived.Test.YtkehdallfohjfaaGreatDoorMOwnLow
import Derived.Test.YtkehdallfohjfaaGreatDoorMRefNumB
namespace Go.Proofs.YtkehdallfohjfaaGreatDoor
open List renaming getElem?_map->lgP
open Nat renaming le_refl->nlr
open Go.Lib renaming hid->Lq7,toList_data->Lq8
open And renaming intro->aIn
set_option maxRecDepth 100000
set_option maxHeartbeats 16000000
open Go Go.RowKit
theorem infoAttr:(Tryz.prog.info? 41).map (fun i=>(i.zero,i.size,i.bytes))=some (some (.agg #[.string ByteArray.empty,.int .i64 0,.bool false,.int .i64 0,.int .i64 0,.string ByteArray.empty,.slice none 0 0,.slice none 0 0]),8,112):=by kernel_rfl
theorem typesAt0(W):(Instr.index 173 (.agg #[.string ⟨#[]⟩,.string ⟨#[116,101,120,116]⟩,.string ⟨#[98,111,111,108]⟩,.string ⟨#[105,110,116]⟩,.string ⟨#[116,101,120,116,115]⟩,.string ⟨#[102,105,108,101,115]⟩,.string ⟨#[108,97,98,101,108,115]⟩]) (.int .i64 0)).run Tryz.prog W = .ok (.string ⟨#[]⟩) W:=by kernel_rfl
theorem typesAt1(W):(Instr.index 173 (.agg #[.string ⟨#[]⟩,.string ⟨#[116,101,120,116]⟩,.string ⟨#[98,111,111,108]⟩,.string ⟨#[105,110,116]⟩,.string ⟨#[116,101,120,116,115]⟩,.string ⟨#[102,105,108,101,115]⟩,.string ⟨#[108,97,98,101,108,115]⟩]) (.int .i64 1)).run Tryz.prog W = .ok (.string ⟨#[116,101,120,116]⟩) W:=by kernel_rfl
theorem typesAt2(W):(Instr.index 173 (.agg #[.string ⟨#[]⟩,.string ⟨#[116,101,120,116]⟩,.string ⟨#[98,111,111,108]⟩,.string ⟨#[105,110,116]⟩,.string ⟨#[116,101,120,116,115]⟩,.string ⟨#[102,105,108,101,115]⟩,.string ⟨#[108,97,98,101,108,115]⟩]) (.int .i64 2)).run Tryz.prog W = .ok (.string ⟨#[98,111,111,108]⟩) W:=by kernel_rfl
theorem typesAt3(W):(Instr.index 173 (.agg #[.string ⟨#[]⟩,.string ⟨#[116,101,120,116]⟩,.string ⟨#[98,111,111,108]⟩,.string ⟨#[105,110,116]⟩,.string ⟨#[116,101,120,116,115]⟩,.string ⟨#[102,105,108,101,115]⟩,.string ⟨#[108,97,98,101,108,115]⟩]) (.int .i64 3)).run Tryz.prog W = .ok (.string ⟨#[105,110,116]⟩) W:=by kernel_rfl
theorem typesAt4(W):(Instr.index 173 (.agg #[.string ⟨#[]⟩,.string ⟨#[116,101,120,116]⟩,.string ⟨#[98,111,111,108]⟩,.string ⟨#[105,110,116]⟩,.string ⟨#[116,101,120,116,115]⟩,.string ⟨#[102,105,108,101,115]⟩,.string ⟨#[108,97,98,101,108,115]⟩]) (.int .i64 4)).run Tryz.prog W = .ok (.string ⟨#[116,101,120,116,115]⟩) W:=by kernel_rfl
theorem typesAt5(W):(Instr.index 173 (.agg #[.string ⟨#[]⟩,.string ⟨#[116,101,120,116]⟩,.string ⟨#[98,111,111,108]⟩,.string ⟨#[105,110,116]⟩,.string ⟨#[116,101,120,116,115]⟩,.string ⟨#[102,105,108,101,115]⟩,.string ⟨#[108,97,98,101,108,115]⟩]) (.int .i64 5)).run Tryz.prog W = .ok (.string ⟨#[102,105,108,101,115]⟩) W:=by kernel_rfl
theorem typesAt6(W):(Instr.index 173 (.agg #[.string ⟨#[]⟩,.string ⟨#[116,101,120,116]⟩,.string ⟨#[98,111,111,108]⟩,.string ⟨#[105,110,116]⟩,.string ⟨#[116,101,120,116,115]⟩,.string ⟨#[102,105,108,101,115]⟩,.string ⟨#[108,97,98,101,108,115]⟩]) (.int .i64 6)).run Tryz.prog W = .ok (.string ⟨#[108,97,98,101,108,115]⟩) W:=by kernel_rfl
theorem I7{n b w W c0 c1 c2 c3 c4 t}(hn:n<=b)(hb:Below n w W)(hr:W.heap[b]? = some (.cells #[c0,c1,c2,c3,c4] t (0,0)))(v0 v1 v2 v3 v4):
  (Dq W b v0 v1 v2 v3 v4).heap[b]? = some (.cells #[v0,v1,v2,v3,v4] t (0,0))/\Below n w (Dq W b v0 v1 v2 v3 v4):=by
 unfold Dq;exact⟨by rw[Al (Al (Al (Al (Al hr 0 _) 1 _) 2 _) 3 _) 4];rfl,((((hb.setCell (p:=⟨b,0,none⟩) hn _).setCell (p:=⟨b,1,none⟩) hn _).setCell (p:=⟨b,2,none⟩) hn _).setCell (p:=⟨b,3,none⟩) hn _).setCell (p:=⟨b,4,none⟩) hn _⟩
theorem O0{n b w W c0 c1 c2 t}(hn:n<=b)(hb:Below n w W)(hr:W.heap[b]? = some (.cells #[c0,c1,c2] t (0,0)))(v0 v1 v2):
  (Cb W b v0 v1 v2).heap[b]? = some (.cells #[v0,v1,v2] t (0,0))/\Below n w (Cb W b v0 v1 v2):=by
 unfold Cb;exact⟨by rw[Al (Al (Al hr 0 _) 1 _) 2];rfl,((hb.setCell (p:=⟨b,0,none⟩) hn _).setCell (p:=⟨b,1,none⟩) hn _).setCell (p:=⟨b,2,none⟩) hn _⟩
def G6(r:RuleP):List Dat:=[.one (.string r.name),.row (Cz r.attrs),.row (ndsD r.body),.one (.int .i64 r.ln),.one (.int .i64 r.cl)]
def C2(l:List RuleP):List (List Dat):=l.map G6
theorem Iu(l):(C2 l).length=l.length:=by simp[C2]
theorem R8(r):(G6 r).length=5:=rfl
section
variable {F:Nat->Prop} {w:World}
theorem Ay.rule{r:RuleP}{cs:List Value}(h:Ay F w (G6 r) cs):∃a c a' c',cs=[.string r.name,.slice a r.attrs.length c,.slice a' r.body.length c',.int .i64 r.ln,.int .i64 r.cl]/\Ag F w a (Cz r.attrs)/\Ag F w a' (ndsD r.body):=by
 unfold G6 at h;obtain⟨c0,cs,rfl,h0,h⟩:=h.cons_inv;obtain⟨c1,cs,rfl,h1,h⟩:=h.cons_inv;obtain⟨c2,cs,rfl,h2,h⟩:=h.cons_inv;obtain⟨c3,cs,rfl,h3,h⟩:=h.cons_inv;obtain⟨c4,cs,rfl,h4,h⟩:=h.cons_inv;obtain rfl:=h.nil_inv;obtain rfl:=h0.one_inv;obtain rfl:=h3.one_inv;obtain rfl:=h4.one_inv;obtain⟨a,c,rfl,hr⟩:=h1.row_inv;obtain⟨a',c',rfl,hr'⟩:=h2.row_inv;exact⟨a,c,a',c',by rw[Ev,Lk],hr,hr'⟩
theorem Ay.rule_mk(nm:ByteArray){l:List AttrP}{body:List Nd}(x y:Int){a a':Option Addr}(c c':Nat)(h:Ag F w a (Cz l))(h':Ag F w a' (ndsD body)):
  Ay F w (G6 ⟨nm,l,body,x,y⟩) [.string nm,.slice a l.length c,.slice a' body.length c',.int .i64 x,.int .i64 y]:=by
 unfold G6;exact .cons (.one _) (.cons (by rw[<-Ev l];exact C9.row_mk c h) (.cons (by rw[<-Lk body];exact C9.row_mk c' h') (.cons (.one _) (.cons (.one _) .nil))))
theorem Ag.rule{a:Option Addr}{l:List RuleP}(h:Ag F w a (C2 l)){j:Nat}{r:RuleP}(hj:l[j]? = some r):
  ∃b off a1 c1 a2 c2,a=some ⟨b,off,none⟩/\F b/\b<w.heap.size/\w.cell? ⟨b,off+j*5,none⟩=some (.string r.name)/\w.cell? ⟨b,off+j*5+1,none⟩=some (.slice a1 r.attrs.length c1)/\w.cell? ⟨b,off+j*5+2,none⟩=some (.slice a2 r.body.length c2) /\
   w.cell? ⟨b,off+j*5+3,none⟩=some (.int .i64 r.ln)/\w.cell? ⟨b,off+j*5+4,none⟩=some (.int .i64 r.cl)/\Ag F w a1 (Cz r.attrs)/\Ag F w a2 (ndsD r.body):=by
 obtain⟨b,off,cs,ha,hF,hb,hd,hc⟩:=h j (G6 r) (by rw[C2,lgP,hj];rfl);obtain⟨a1,c1,a2,c2,rfl,h1,h2⟩:=hd.rule;rw[R8] at hc;exact⟨b,off,a1,c1,a2,c2,ha,hF,hb,hc 0 _ rfl,hc 1 _ rfl,hc 2 _ rfl,hc 3 _ rfl,hc 4 _ rfl,h1,h2⟩
theorem Ay.nd_of{n:Nd}:∀{cs:List Value},Ay F w (nodeD n) cs->Ay F w (ndD n) cs:=
 Nd.rec (motive_1:=fun n=>∀{cs:List Value},Ay F w (nodeD n) cs->Ay F w (ndD n) cs) (motive_2:=fun l=>∀x∈l,∀{cs:List Value},Ay F w (nodeD x) cs->Ay F w (ndD x) cs)
  (fun k t l c kids ih cs h=>by
   have hv:A0 F w (.mk k t l c kids) (.agg cs.toArray):=⟨cs,rfl,h⟩;obtain⟨a,cap,he,hr⟩:=hv.open;obtain rfl:cs=[.int .i64 k,.string t,.int .i64 l,.int .i64 c,.slice a kids.length cap]:=(by simpa using he);rw[ndD];refine .cons (.one _) (.cons (.one _) (.cons (.one _) (.cons (.one _) (.cons ?_ .nil))));rw[<-Lk kids];refine C9.row_mk cap (fun j d hj=>?_);rw[Lj,lgP] at hj;cases hx:kids[j]? with
   | none=>rw[hx] at hj;cases hj
   | some x=>
    rw[hx] at hj;cases hj;obtain⟨b,off,cs,ha,hF,hb,hd,hc⟩:=hr j (nodeD x) (by rw[B5,lgP,hx];rfl);refine⟨b,off,cs,ha,hF,hb,ih x (List.mem_of_getElem? hx) hd,?_⟩;obtain⟨k,t,l,c,m⟩:=x;rw[Di] at hc;exact hc)
  (fun x hx=>by cases hx)
  (fun v t hv ht x hx=>by
   rcases List.mem_cons.1 hx with rfl|hx
   ·exact hv
   ·exact ht x hx) n
theorem Ag.nds_of{a:Option Addr}{l:List Nd}(h:Ag F w a (Az l)):Ag F w a (ndsD l):=by
 intro j d hj;rw[Lj,lgP] at hj;cases hx:l[j]? with
 | none=>rw[hx] at hj;cases hj
 | some x=>
  rw[hx] at hj;cases hj;obtain⟨b,off,cs,ha,hF,hb,hd,hc⟩:=h j (nodeD x) (by rw[B5,lgP,hx];rfl);refine⟨b,off,cs,ha,hF,hb,hd.nd_of,?_⟩;obtain⟨k,t,l,c,m⟩:=x;rw[Di] at hc;exact hc
end
def tyName:Nat->List UInt8
 | 1=>[116,101,120,116]
 | 2=>[98,111,111,108]
 | 3=>[105,110,116]
 | 4=>[116,101,120,116,115]
 | 5=>[102,105,108,101,115]
 | 6=>[108,97,98,101,108,115]
 | _=>[]
def Iv(k:Nat)(s:List UInt8):Prop:=∀j,1<=j->j<k->¬s=tyName j
theorem Iv.one(s):Iv 1 s:=fun j h1 h2=>by omega
theorem Iv.step{k s}(h:Iv k s)(hk:¬s=tyName k):Iv (k+1) s:=fun j h1 h2=>by
 by_cases e:j=k
 ·rw[e];exact hk
 ·exact h j h1 (by omega)
theorem Iv.none{s}(h:Iv 7 s):typeL s=0:=by
 unfold typeL;rw[if_neg (show ¬s=[116,101,120,116] from h 1 (by decide) (by decide)),if_neg (show ¬s=[98,111,111,108] from h 2 (by decide) (by decide)),if_neg (show ¬s=[105,110,116] from h 3 (by decide) (by decide)),if_neg (show ¬s=[116,101,120,116,115] from h 4 (by decide) (by decide)),if_neg (show ¬s=[102,105,108,101,115] from h 5 (by decide) (by decide)),if_neg (show ¬s=[108,97,98,101,108,115] from h 6 (by decide) (by decide))]
theorem Qi(s w):Calls Tryz.prog 108 #[.string s] w (fun e w'=>e = .returned (.int .i64 (typeL s.data.toList))/\Below w.heap.size w w'):=by
 have hb:=Lq7 ((Below.refl _ w).alloc (nlr _) (.cells #[.string ⟨#[]⟩,.string ⟨#[116,101,120,116]⟩,.string ⟨#[98,111,111,108]⟩,.string ⟨#[105,110,116]⟩,.string ⟨#[116,101,120,116,115]⟩,.string ⟨#[102,105,108,101,115]⟩,.string ⟨#[108,97,98,101,108,115]⟩] 173));have Hd:=Lq7 (Lq8 s);go_enter Tryz.func108,Tryz.ntmps108;go_wp2_with fail
 go_loop [8] (fun i=>i = .int .i64 0\/(i = .int .i64 1/\Hid (Iv 1 s.data.toList))\/(i = .int .i64 2/\Hid (Iv 2 s.data.toList))\/(i = .int .i64 3/\Hid (Iv 3 s.data.toList))\/(i = .int .i64 4/\Hid (Iv 4 s.data.toList))\/(i = .int .i64 5/\Hid (Iv 5 s.data.toList))\/(i = .int .i64 6/\Hid (Iv 6 s.data.toList))\/(i = .int .i64 7/\Hid (Iv 7 s.data.toList))) (fun i=>8-(intOf i).toNat)
 case atStart=>exact .inl rfl
 case round=>
  rcases hrel with rfl|⟨rfl,hk⟩|⟨rfl,hk⟩|⟨rfl,hk⟩|⟨rfl,hk⟩|⟨rfl,hk⟩|⟨rfl,hk⟩|⟨rfl,hk⟩
  ·have aC:=typesAt0;have HK:=Lq7 (Iv.one s.data.toList);cases h0:([]==s.toList)
   all_goals
    go_wp2_with fail;go_round
    case rel=>exact .inr (.inl ⟨by go_num,HK⟩)
    case measure=>simp[intOf]
  ·have aC:=typesAt1;cases h1:([116,101,120,116]==s.toList)
   ·have HK:=Lq7 (hk.out.step (by rw[<-Hd.out];intro e;rw[e] at h1;exact absurd h1 (by decide)));clear hk;go_wp2_with fail;go_round
    case rel=>exact .inr (.inr (.inl ⟨by go_num,HK⟩))
    case measure=>simp[intOf]
   ·have he:s.data.toList=[116,101,120,116]:=(by rw[<-Hd.out];exact(beq_iff_eq.1 h1).symm);have Ht:Hid (typeL s.data.toList=1):=Lq7 (by rw[he];rfl);clear he hk;go_wp2_with fail;go_ret;exact⟨by rw[Ht.out];rfl,hb.out⟩
  ·have aC:=typesAt2;cases h2:([98,111,111,108]==s.toList)
   ·have HK:=Lq7 (hk.out.step (by rw[<-Hd.out];intro e;rw[e] at h2;exact absurd h2 (by decide)));clear hk;go_wp2_with fail;go_round
    case rel=>exact .inr (.inr (.inr (.inl ⟨by go_num,HK⟩)))
    case measure=>simp[intOf]
   ·have he:s.data.toList=[98,111,111,108]:=(by rw[<-Hd.out];exact(beq_iff_eq.1 h2).symm);have Ht:Hid (typeL s.data.toList=2):=Lq7 (by rw[he];rfl);clear he hk;go_wp2_with fail;go_ret;exact⟨by rw[Ht.out];rfl,hb.out⟩
  ·have aC:=typesAt3;cases h3:([105,110,116]==s.toList)
   ·have HK:=Lq7 (hk.out.step (by rw[<-Hd.out];intro e;rw[e] at h3;exact absurd h3 (by decide)));clear hk;go_wp2_with fail;go_round
    case rel=>exact .inr (.inr (.inr (.inr (.inl ⟨by go_num,HK⟩))))
    case measure=>simp[intOf]
   ·have he:s.data.toList=[105,110,116]:=(by rw[<-Hd.out];exact(beq_iff_eq.1 h3).symm);have Ht:Hid (typeL s.data.toList=3):=Lq7 (by rw[he];rfl);clear he hk;go_wp2_with fail;go_ret;exact⟨by rw[Ht.out];rfl,hb.out⟩
  ·have aC:=typesAt4;cases h4:([116,101,120,116,115]==s.toList)
   ·have HK:=Lq7 (hk.out.step (by rw[<-Hd.out];intro e;rw[e] at h4;exact absurd h4 (by decide)));clear hk;go_wp2_with fail;go_round
    case rel=>exact .inr (.inr (.inr (.inr (.inr (.inl ⟨by go_num,HK⟩)))))
    case measure=>simp[intOf]
   ·have he:s.data.toList=[116,101,120,116,115]:=(by rw[<-Hd.out];exact(beq_iff_eq.1 h4).symm);have Ht:Hid (typeL s.data.toList=4):=Lq7 (by rw[he];rfl);clear he hk;go_wp2_with fail;go_ret;exact⟨by rw[Ht.out];rfl,hb.out⟩
  ·have aC:=typesAt5;cases h5:([102,105,108,101,115]==s.toList)
   ·have HK:=Lq7 (hk.out.step (by rw[<-Hd.out];intro e;rw[e] at h5;exact absurd h5 (by decide)));clear hk;go_wp2_with fail;go_round
    case rel=>exact .inr (.inr (.inr (.inr (.inr (.inr (.inl ⟨by go_num,HK⟩))))))
    case measure=>simp[intOf]
   ·have he:s.data.toList=[102,105,108,101,115]:=(by rw[<-Hd.out];exact(beq_iff_eq.1 h5).symm);have Ht:Hid (typeL s.data.toList=5):=Lq7 (by rw[he];rfl);clear he hk;go_wp2_with fail;go_ret;exact⟨by rw[Ht.out];rfl,hb.out⟩
  ·have aC:=typesAt6;cases h6:([108,97,98,101,108,115]==s.toList)
   ·have HK:=Lq7 (hk.out.step (by rw[<-Hd.out];intro e;rw[e] at h6;exact absurd h6 (by decide)));clear hk;go_wp2_with fail;go_round
    case rel=>exact .inr (.inr (.inr (.inr (.inr (.inr (.inr ⟨by go_num,HK⟩))))))
    case measure=>simp[intOf]
   ·have he:s.data.toList=[108,97,98,101,108,115]:=(by rw[<-Hd.out];exact(beq_iff_eq.1 h6).symm);have Ht:Hid (typeL s.data.toList=6):=Lq7 (by rw[he];rfl);clear he hk;go_wp2_with fail;go_ret;exact⟨by rw[Ht.out];rfl,hb.out⟩
  ·have Ht:=Lq7 hk.out.none;clear hk;go_wp2_with fail;go_ret;exact⟨by rw[Ht.out];rfl,hb.out⟩
def POwn(w:World)(e:Ending)(w':World):Prop:=Below w.heap.size w w'/\∃b:Nat,w.heap.size<=b/\e = .returned (.slice (some ⟨b,0,none⟩) 2 2)/\Bp (fun k=>w.heap.size<=k) w' w.heap.size 41 8 (.slice (some ⟨b,0,none⟩) 2 2) (Cz ownL)
theorem Q9(w):Calls Tryz.prog 61 #[] w (POwn w):=by
 obtain⟨h1,h2,h3,h4,h5⟩:=Dm w (.cells #[.int .i64 3,.int .i64 0,.string ⟨#[58,104,101,114,101]⟩,.slice none 0 0,.slice none 0 0] 25) (.cells #[.int .i64 4,.int .i64 0,.string ⟨#[]⟩,.slice (some ⟨w.heap.size,0,none⟩) 1 1,.slice none 0 0] 25)
  (.cells #[.string ⟨#[110,97,109,101]⟩,.int .i64 1,.bool true,.int .i64 0,.int .i64 0,.string ⟨#[]⟩,.slice none 0 0,.slice none 0 0,.string ⟨#[115,101,101,110]⟩,.int .i64 4,.bool false,.int .i64 4,.int .i64 0,.string ⟨#[]⟩,.slice (some ⟨w.heap.size,0,none⟩) 1 1,.slice none 0 0] 41)
 have H:=Lq7 (aIn h1 (aIn h3 h4));go_enter Tryz.func61,Tryz.ntmps61;go_wp2_with fail;generalize World.alloc _ _=W at H |-;refine bodyPost_ret (v:=.slice (some ⟨w.heap.size+1+1,0,none⟩) 2 2) (by simp[results,Tryz.results61,go_sem]) rfl ?_;refine⟨H.out.2.2,_,by omega,rfl,[[.string ⟨#[110,97,109,101]⟩,.int .i64 1,.bool true,.int .i64 0,.int .i64 0,.string ⟨#[]⟩,.slice none 0 0,.slice none 0 0],[.string ⟨#[115,101,101,110]⟩,.int .i64 4,.bool false,.int .i64 4,.int .i64 0,.string ⟨#[]⟩,.slice (some ⟨w.heap.size,0,none⟩) 1 1,.slice none 0 0]],rfl,?_,?_,?_⟩
 ·intro cs aI;simp at aI;rcases aI with rfl|rfl<;>rfl
 ·refine⟨rfl,.inr ⟨w.heap.size+1+1,2,_,rfl,by omega,H.out.2.1,by decide,by unfold maxLen;decide,rfl,rfl⟩⟩
 ·intro j ds cs h1 h2;have aG:Ag (fun b=>w.heap.size<=b/\(Value.slice (some ⟨w.heap.size+1+1,0,none⟩) 2 2).ownBlock≠some b) W (some ⟨w.heap.size,0,none⟩) (A5 [.mk 3 0 ⟨#[58,104,101,114,101]⟩ [] []]):=by
   intro i d hi;obtain⟨aF,hc,-⟩:=A3 H.out.1;cases i with
   | zero=>
    simp[A5] at hi;subst hi;refine⟨w.heap.size,0,[.int .i64 3,.int .i64 0,.string ⟨#[58,104,101,114,101]⟩,.slice none 0 0,.slice none 0 0],rfl,⟨nlr _,fun e=>by
     have:w.heap.size+1+1=w.heap.size:=(by simpa[Value.ownBlock] using e);omega⟩,aF,Ay.val_mk (l:=[]) (ks:=[]) _ _ _ _ _ (Ag.nil _) (Ag.nil _),fun k u hu=>?_⟩
    simp only[Nat.zero_mul,Nat.zero_add,Nat.add_zero];rw[hc]
    simpa using hu
   | succ i=>simp[A5] at hi
  match j,h1,h2 with
  | 0,h1,h2=>
   simp[Cz,ownL] at h1 h2;subst h1;subst h2;exact Ay.attr_mk (l:=[]) (ks:=[]) _ _ _ _ _ _ _ _ (Ag.nil _) (Ag.nil _)
  | 1,h1,h2=>
   simp[Cz,ownL] at h1 h2;subst h1;subst h2;exact Ay.attr_mk (l:=[.mk 3 0 ⟨#[58,104,101,114,101]⟩ [] []]) (ks:=[]) _ _ _ _ _ _ 1 0 aG (Ag.nil _)
  | j+2,h1,_=>simp[Cz,ownL] at h1
def PFindR(b:Bool)(w:World)(e:Ending)(w':World):Prop:=Below w.heap.size w w'/\∃(s:ByteArray) (a1:Option Addr) (l1 c1:Nat) (a2:Option Addr) (l2 c2:Nat) (x y:Int),e = .returned (.tuple #[.agg #[.string s,.slice a1 l1 c1,.slice a2 l2 c2,.int .i64 x,.int .i64 y],.bool b])
theorem find_any(F l a cap name w)(hl:l.length<=140737488355328)(hr:Ag F w a (C2 l)):
  Calls Tryz.prog 60 #[.slice a l.length cap,.string name] w (PFindR (l.any fun r=>Dp r.name name) w):=by
 have hw0:=heap_alloc_new w (.cells #[.string ⟨#[]⟩,.slice none 0 0,.slice none 0 0,.int .i64 0,.int .i64 0] 38);have aJ:Below w.heap.size w (w.alloc (.cells #[.string ⟨#[]⟩,.slice none 0 0,.slice none 0 0,.int .i64 0,.int .i64 0] 38)):=(Below.refl _ w).alloc (nlr _) _;have H:=Lq7 (aIn hw0 (aIn aJ (hr.below aJ)));go_enter Tryz.func60,Tryz.ntmps60;go_wp2_with fail;generalize World.alloc _ _=W at H |-
 go_loopw [10] (fun i wr=>∃j:Nat,i = .int .i64 j/\j<=l.length/\Hid (wr.heap[w.heap.size]? = some (.cells #[.string ⟨#[]⟩,.slice none 0 0,.slice none 0 0,.int .i64 0,.int .i64 0] 38 (0,0))/\Below w.heap.size w wr/\Ag F wr a (C2 l))/\Hid ((l.any fun r=>Dp r.name name)=((l.drop j).any fun r=>Dp r.name name))) (fun i _=>l.length-(intOf i).toNat)
 case atStart=>exact⟨0,rfl,Nat.zero_le _,H,Lq7 rfl⟩
 case round=>
  obtain⟨j,rfl,hj,aA,aD⟩:=hrel;by_cases aF:j<l.length
  ·have aM:l[j]? = some l[j]:=List.getElem?_eq_getElem aF;have aB:l.drop j=l[j]::l.drop (j+1):=List.drop_eq_getElem_cons aF;generalize l[j]=r at aM aB;obtain⟨b,off,a1,c1,a2,c2,rfl,-,hbl,r0,r1,r2,r3,r4,-,-⟩:=aA.out.2.2.rule aM;obtain⟨rn,ra,rb,rx,ry⟩:=r;have aH:Below wr.heap.size wr (wr.alloc (.cells #[.string rn,.slice a1 ra.length c1,.slice a2 rb.length c2,.int .i64 rx,.int .i64 ry] 38)):=(Below.refl _ _).alloc (nlr _) _;have HA:=Lq7 (aIn (stays aA.out.1 aH) (aIn (aA.out.2.1.trans (aH.mono aA.out.2.1.size)) (aA.out.2.2.below aH)));have aE:=Lq7 (aD.out.trans (by rw[aB,List.any_cons]));cases hs:(rn.toList==name.toList)
   ·have Hn:Hid ((l.any fun r=>Dp r.name name)=((l.drop (j+1)).any fun r=>Dp r.name name)):=Lq7 (by rw[aE.out,show Dp rn name=false by unfold Dp;rw[<-Lq8,<-Lq8];exact hs,Bool.false_or]);go_wp2_with fail;go_roundw
    case rel=>exact⟨j+1,by go_num,by omega,HA,Hn⟩
    case measure=>simp only[intOf];omega
   ·have Hn:Hid ((l.any fun r=>Dp r.name name)=true):=Lq7 (by rw[aE.out,show Dp rn name=true by unfold Dp;rw[<-Lq8,<-Lq8];exact hs,Bool.true_or]);have aN:=heap_alloc_new wr (.cells #[.string rn,.slice a1 ra.length c1,.slice a2 rb.length c2,.int .i64 rx,.int .i64 ry] 38)
    go_upto_region 5 with fail
    generalize World.alloc _ _=WA at HA aN |-;obtain⟨q0,q1,q2,q3,q4,q5,q6,q7,q8,q9,q10⟩:=Aa HA.out.1;obtain⟨p0,p1,p2,p3,p4,p5,-⟩:=Aa aN;go_wp2_with fail;have hE:=I7 (n:=w.heap.size) (b:=w.heap.size) (nlr _) HA.out.2.1 HA.out.1 (.string rn) (.slice a1 ra.length c1) (.slice a2 rb.length c2) (.int .i64 rx) (.int .i64 ry);unfold Dq at hE;obtain⟨t0,t1,t2,t3,t4,t5,-⟩:=Aa hE.1;refine bodyPost_ret (v:=.tuple #[.agg #[.string rn,.slice a1 ra.length c1,.slice a2 rb.length c2,.int .i64 rx,.int .i64 ry],.bool true]) (by simp[results,Tryz.results60,go_sem,t1,t2,t3,t4,t5]) rfl ?_;rw[Hn.out];exact⟨hE.2,rn,a1,_,c1,a2,_,c2,rx,ry,rfl⟩
  ·have Hn:Hid ((l.any fun r=>Dp r.name name)=false):=Lq7 (by rw[aD.out,List.drop_eq_nil_of_le (by omega)];rfl);obtain⟨q0,q1,q2,q3,q4,q5,q6,q7,q8,q9,q10⟩:=Aa aA.out.1;go_wp2_with fail;have hE:=I7 (n:=w.heap.size) (b:=w.heap.size) (nlr _) aA.out.2.1 aA.out.1 (.string ⟨#[]⟩) (.slice none 0 0) (.slice none 0 0) (.int .i64 0) (.int .i64 0);unfold Dq at hE;obtain⟨t0,t1,t2,t3,t4,t5,-⟩:=Aa hE.1;refine bodyPost_ret (v:=.tuple #[.agg #[.string ⟨#[]⟩,.slice none 0 0,.slice none 0 0,.int .i64 0,.int .i64 0],.bool false]) (by simp[results,Tryz.results60,go_sem,t1,t2,t3,t4,t5]) rfl ?_;rw[Hn.out];exact⟨hE.2,_,none,0,0,none,0,0,0,0,rfl⟩
end Go.Proofs.YtkehdallfohjfaaGreatDoor