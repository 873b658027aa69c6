/-
  The walks of sync.Once's Do,the first time,at a Replacer:buildOnce is called,within the lock;what it leaves. (After the kit's worked Lazy texts. Type #357:the pointer to internal/sync.Mutex;its number hangs on the seat,for two types bear one name.) (And what it stands on.)
-/
import Derived.Deep.WholeRow
import Derived.Lib.ConvBytes
import Derived.Laws.IdiomStrings
import Derived.Defers
import Derived.Laws.Pointers
import Derived.Laws.LoneSync
import Derived.RegionTactic
import Derived.RegionCalls
import Derived.Test.YtbcdimjbepigcaaGreatDoorMParseNz
namespace Go.Proofs.YtbcdimjbepigcaaGreatDoor
open Go Go.RowKit
open List renaming length_cons->lnC,length_append->lnA
open Nat renaming le_refl->nlr,zero_le->nlz,le_trans->nlt
open Bool renaming and_eq_true->bAt
open Go.Lib renaming hid->Lq7
open And renaming intro->aIn
set_option maxRecDepth 100000
set_option maxHeartbeats 16000000
def R1(s:ByteArray):Prop:=s.data.toList≠[]/\(∀c∈s.data.toList,Bi c=true)/\¬(1<s.data.toList.length/\s.data.toList.head? = some 48)/\natOf s.data.toList<=9223372036854775807
def tokOk(B:Nat)(t:Tok):Prop:=t.text.size<=B/\(t.kind=2->R1 t.text)
mutual
def D2(B K:Nat):Nd->Prop
 | .mk k t _ _ l=>t.size<=B/\l.length<=K/\(k=10->R1 t)/\(k=6->∃ps b,l=ps++[b]/\∀x∈ps,1<=x.kids.length/\x.kids.length<=2)/\Ed B K l
def Ed(B K:Nat):List Nd->Prop
 | []=>True
 | x::t=>D2 B K x/\Ed B K t
end
section
variable {B K:Nat}
theorem ndOks_iff:∀{l:List Nd},Ed B K l↔∀x∈l,D2 B K x
 | []=>by simp[Ed]
 | x::t=>by rw[Ed,ndOks_iff,List.forall_mem_cons]
theorem Fw{l m:List Nd}(h:Ed B K l)(h':Ed B K m):Ed B K (l++m):=by
 rw[ndOks_iff] at *;intro x hx;rcases List.mem_append.1 hx with hx|hx
 ·exact h x hx
 ·exact h' x hx
theorem Ff{x:Nd}(h:D2 B K x):Ed B K [x]:=⟨h,trivial⟩
theorem If{x y:Nd}(h:D2 B K x)(h':D2 B K y):Ed B K [x,y]:=⟨h,h',trivial⟩
theorem Bm{k:Int}{t:Tok}{s:ByteArray}{l:List Nd}(hs:s.size<=B)(hl:l.length<=K)(h10:k≠10)(h6:k≠6)(hk:Ed B K l):D2 B K (A1 k t s l):=by
 unfold A1;rw[D2];exact⟨hs,hl,fun e=>absurd e h10,fun e=>absurd e h6,hk⟩
variable {en:Int×Int}
def R4(B:Nat)(ts:List Tok):Prop:=∀t∈ts,tokOk B t
theorem Ig{ts:List Tok}(h:R4 B ts)(i:Nat):tokOk B (Be en ts i):=by
 unfold Be;cases hi:ts[i]? with
 | none=>exact⟨nlz _,fun e=>by cases e⟩
 | some t=>exact h t (List.mem_of_getElem? hi)
theorem Gx{ts:List Tok}{k:Int}(hk:k≠0)(h:(Be en ts 0).kind=k):ts≠[]:=by
 rintro rfl;exact hk h.symm
theorem E0{ts:List Tok}{s:List UInt8}(h:Bf en ts 0 s=true):ts≠[]:=by
 unfold Bf at h;rw[bAt,beq_iff_eq] at h;exact Gx (by decide) h.1
theorem F2{ts:List Tok}{s:List UInt8}(h:Bt en ts s=true):ts≠[]:=by
 unfold Bt at h;rw[bAt,beq_iff_eq] at h;exact Gx (by decide) h.1
theorem F3{ts:List Tok}(h:Bk en ts=true):ts≠[]:=by
 unfold Bk at h;rw[bAt,beq_iff_eq] at h;exact Gx (by decide) h.1
variable {α β:Type}
def Az(B n k:Nat)(P:Nat->α->Prop)(m:PM α)(ts:List Tok):Prop:=
 ∀d,ts.length<=n->R4 B ts->match m ts d with
  | .ok x ts' _=>ts'.length+k<=ts.length/\R4 B ts'/\P (ts.length-ts'.length) x
  | .err _ _ _=>True
  | .out=>False
def Gd(B n k:Nat)(P:Nat->α->Prop)(m:PM α):Prop:=∀ts,Az B n k P m ts
variable {n j k:Nat} {P:Nat->α->Prop} {Q:Nat->β->Prop} {m:PM α} {ts:List Tok}
theorem Az.pure{x:α}(h:P 0 x):Az B n 0 P (PM.pure x) ts:=fun d _ ht=>⟨nlr _,ht,by rw[Nat.sub_self];exact h⟩
theorem Az.bind{f:α->PM β}{r:Nat}(h1:Az B n j P m ts)(h2:∀x c,j<=c->c<=n->P c x->Gd B (n-j) k (fun c' y=>Q (c+c') y) (f x))(hr:r<=j+k):Az B n r Q (PM.bind m f) ts:=by
 intro d hn ht;have g1:=h1 d hn ht;unfold PM.bind;cases hm:m ts d with
 | err a b c=>exact trivial
 | out=>rw[hm] at g1;exact g1.elim
 | ok x t1 d1=>
  rw[hm] at g1;obtain⟨e1,e2,e3⟩:=g1;have g2:=h2 x _ (by omega) (by omega) e3 t1 d1 (by omega) e2;show match f x t1 d1 with | .ok x ts' _=>_ | .err _ _ _=>_ | .out=>_;cases hf:f x t1 d1 with
  | err a b c=>exact trivial
  | out=>rw[hf] at g2;exact g2.elim
  | ok y t2 d2=>
   rw[hf] at g2;obtain⟨f1,f2,f3⟩:=g2;refine⟨by omega,f2,?_⟩;rw[show ts.length-t2.length=(ts.length-t1.length)+(t1.length-t2.length) by omega];exact f3
theorem Az.look{f:List Tok->PM α}(h:ts.length<=n->R4 B ts->Az B n k P (f ts) ts):Az B n k P (Ce f) ts:=fun d hn ht=>h hn ht d hn ht
theorem Az.ite{c:Prop}[Decidable c]{m m':PM α}(h1:c->Az B n k P m ts)(h2:¬c->Az B n k P m' ts):Az B n k P (if c then m else m') ts:=by
 by_cases h:c
 ·rw[if_pos h];exact h1 h
 ·rw[if_neg h];exact h2 h
theorem Az.mono{P':Nat->α->Prop}(h:Az B n k P m ts)(hp:∀c x,c<=n->k<=c->P c x->P' c x){r:Nat}(hr:r<=k):Az B n r P' m ts:=by
 intro d hn ht;have g:=h d hn ht;cases hm:m ts d with
 | err a b c=>exact trivial
 | out=>rw[hm] at g;exact g.elim
 | ok x t1 d1=>
  rw[hm] at g;exact⟨by omega,g.2.1,hp _ _ (by omega) (by omega) g.2.2⟩
theorem Az.less{n':Nat}(h:Az B n k P m ts)(hn:n'<=n):Az B n' k P m ts:=fun d hl ht=>h d (nlt hl hn) ht
theorem Az.take{b:Bool}(hb:b=true->ts≠[]):Az B n 1 (fun c t=>c=1/\tokOk B t) (Bc en b) ts:=by
 intro d hn ht;unfold Bc;cases b with
 | false=>exact trivial
 | true=>
  cases ts with
  | nil=>exact absurd rfl (hb rfl)
  | cons t r=>exact⟨nlr _,fun x hx=>ht x (List.mem_cons_of_mem _ hx),by show r.length+1-r.length=1;omega,ht t (List.mem_cons_self ..)⟩
theorem Az.open{b:Bool}(hb:b=true->ts≠[]):Az B n 1 (fun c t=>c=1/\tokOk B t) (Db en b) ts:=by
 intro d hn ht;unfold Db;by_cases h:(b&&decide (60<=d))=true
 ·rw[if_pos h];exact trivial
 ·rw[if_neg h];exact Az.take hb (d+1) hn ht
theorem Gd.eat(s:List UInt8):Gd B n 1 (fun c _=>c=1) (C8 en s):=fun ts=>by
 intro d hn ht;exact Az.bind (k:=0) (Q:=fun c _=>c=1) (Az.take E0) (fun x c _ _ h ts=>Az.pure h.1) (nlr _) d hn ht
theorem Gd.down:Gd B n 0 (fun c _=>c=0) pDown:=fun _ts _d _ ht=>⟨nlr _,ht,Nat.sub_self _⟩
theorem Gd.close(s:List UInt8):Gd B n 1 (fun c _=>c=1) (C2 en s):=fun ts=>Az.bind (k:=0) (Gd.eat s ts) (fun _ c _ _ h=>fun ts=>Az.mono (Gd.down ts) (fun c' _ _ _ h'=>by omega) (nlr _)) (nlr _)
def PN(B K:Nat)(_:Nat)(x:Nd):Prop:=D2 B K x
theorem Gd.listGo{to:List UInt8}{one:PM (List Nd)}{R:List Nd->Prop}(ho:∀n',n'<=n->Gd B n' 1 (fun c l=>l.length<=c/\R l) one)(hR:∀l m,R l->R m->R (l++m)):
  ∀f acc (n':Nat),n'<=n->n'<f->R acc->Gd B n' 0 (fun c l=>l.length<=acc.length+c/\R l) (Ej en to one f acc)
 | 0,_,_,_,h,_=>absurd h (Nat.not_lt_zero _)
 | f+1,acc,n',hn',hf,hR0=>fun ts=>Az.look fun hn ht=>Az.ite (fun _=>Az.pure ⟨nlr _,hR0⟩) fun _=>
   Az.bind (j:=0) (k:=0) (P:=fun _ _=>True) (Az.ite (fun _=>Az.pure trivial) (fun _=>Az.mono (Gd.eat _ ts) (fun _ _ _ _ _=>trivial) (nlz _)))
    (fun _ c _ hc _=>fun ts1=>Az.bind (j:=1) (k:=0) (ho (n' - 0) (by omega) ts1) (fun l c1 hj1 hc1 h1=>fun ts2=>by
     by_cases hz:n' - 0 - 1<f
     ·refine Az.mono (Gd.listGo ho hR f (acc++l) (n' - 0 - 1) (by omega) hz (hR _ _ hR0 h1.2) ts2) (fun c2 x _ _ h2=>⟨?_,h2.2⟩) (nlr _);have h3:=h2.1;have h4:=h1.1;rw[lnA] at h3;omega
     ·exfalso;omega) (nlz _)) (nlz _)
theorem Gd.list{to:List UInt8}{one:PM (List Nd)}{R:List Nd->Prop}(ho:∀n',n'<=n->Gd B n' 1 (fun c l=>l.length<=c/\R l) one)(hR:∀l m,R l->R m->R (l++m))(hR0:R []):Gd B n 0 (fun c l=>l.length<=c/\R l) (Dc en to one):=fun ts d hn ht=>by
 have:=Gd.listGo (en:=en) (to:=to) (n:=ts.length) (fun n' h'=>ho n' (by omega)) hR (ts.length+1) [] ts.length (nlr _) (by omega) hR0 ts d (nlr _) ht;unfold Dc;cases hm:Ej en to one (ts.length+1) [] ts d with
 | err a b c=>exact trivial
 | out=>rw[hm] at this;exact this.elim
 | ok x t1 d1=>
  rw[hm] at this;exact⟨this.1,this.2.1,by have:=this.2.2.1;simpa using this,this.2.2.2⟩
structure LGd(B K n:Nat)(L:Lvl):Prop where
 expr:Gd B n 1 (PN B K) L.expr
 prim:Gd B n 1 (PN B K) L.prim
 stmt:Gd B n 1 (PN B K) L.stmt
theorem LGd.less{n n':Nat}{L:Lvl}(h:LGd B K n L)(hn:n'<=n):LGd B K n' L:=⟨fun ts=>(h.expr ts).less hn,fun ts=>(h.prim ts).less hn,fun ts=>(h.stmt ts).less hn⟩
variable {L:Lvl}
theorem Gd.arg(hK:n+3<=K)(hL:LGd B K n L):Gd B n 1 (PN B K) (pArg en L):=fun ts=>Az.look fun hn ht=>
 Az.ite (fun hc=>Az.bind (j:=1) (k:=0) (Az.take fun _=>F3 (en:=en) (by rw[bAt] at hc;exact hc.1)) (fun _ _ _ _ _=>fun _=>
  Az.bind (j:=1) (k:=0) (Gd.eat _ _) (fun _ _ _ _ _=>fun _=>Az.bind (j:=1) (k:=0) ((hL.less (by omega)).expr _) (fun x _ _ _ hx=>fun _=>Az.pure (Bm (Ig ht 0).1 (by show 1<=K;omega) (by decide) (by decide) (Ff hx))) (nlz _)) (nlz _)) (Nat.le_add_right _ _))
 (fun _=>Az.bind (j:=1) (k:=0) (hL.expr _) (fun x _ _ _ hx=>fun _=>Az.pure (Bm (nlz _) (by show 1<=K;omega) (by decide) (by decide) (Ff hx))) (nlr _))
theorem Gd.call(hK:n+3<=K)(hL:0<n->LGd B K (n - 1) L):Gd B n 1 (PN B K) (pCall en L):=fun ts=>Az.look fun hn ht=>
 Az.bind (j:=1) (k:=0) (Az.take F3) (fun nm c0 hj0 hc0 hnm=>fun ts1=>Az.look fun hn1 ht1=>
  Az.bind (j:=1) (k:=0) (Az.open E0) (fun _ c1 _ _ _=>fun ts2=>
   Az.bind (j:=0) (k:=0) (Gd.list (R:=Ed B K) (fun n' hn' ts3=>Az.bind (j:=1) (k:=0) (Gd.arg (by omega) ((hL (by omega)).less (by omega)) ts3) (fun x c hj _ hx=>fun _=>Az.pure ⟨by show 1<=c+0;omega,Ff hx⟩) (nlr _)) (fun _ _=>Fw) trivial ts2)
    (fun kids c2 _ hc2 hk=>fun ts4=>Az.bind (j:=1) (k:=0) (Gd.close _ _) (fun _ _ _ _ _=>fun _=>Az.pure (Bm hnm.2.1 (by have:=hk.1;omega) (by decide) (by decide) hk.2)) (nlz _)) (nlz _)) (nlz _)) (Nat.le_add_right _ _)
theorem Gd.entry(_hK:n+3<=K)(hL:LGd B K n L):Gd B n 1 (fun c l=>l.length<=c/\Ed B K l) (pEntry en L):=fun ts=>Az.look fun hn ht=>
 Az.bind (j:=1) (k:=0) (Az.take fun h=>Gx (en:=en) (k:=3) (by decide) (by simpa using h)) (fun t c0 hj0 _ ht0=>fun ts1=>Az.bind (j:=1) (k:=0) (Gd.eat _ _) (fun _ c1 hj1 _ _=>fun ts2=>
  Az.bind (j:=1) (k:=0) ((hL.less (by omega)).expr _) (fun x c2 hj2 _ hx=>fun _=>Az.pure ⟨by show 2<=_;omega,If (Bm ht0.2.1 (nlz _) (by decide) (by decide) trivial) hx⟩) (nlz _)) (nlz _)) (Nat.le_add_right _ _)
theorem Gd.prim(hK:n+3<=K)(hL:0<n->LGd B K (n - 1) L):Gd B n 1 (PN B K) (pPrim en L):=fun ts=>Az.look fun hn ht=>
 Az.ite (fun hc=>Az.bind (j:=1) (k:=0) (Az.take fun _=>Gx (en:=en) (k:=3) (by decide) (by simpa using hc)) (fun _ _ _ _ _=>fun _=>Az.pure (Bm (Ig ht 0).1 (nlz _) (by decide) (by decide) trivial)) (Nat.le_add_right _ _)) fun _=>
 Az.ite (fun hc=>Az.bind (j:=1) (k:=0) (Az.take fun _=>Gx (en:=en) (k:=2) (by decide) (by simpa using hc)) (fun _ _ _ _ _=>fun _=>Az.pure (by
  show D2 B K (.mk 10 _ _ _ []);rw[D2];exact⟨(Ig ht 0).1,nlz _,fun _=>(Ig ht 0).2 (by simpa using hc),fun e=>absurd e (by decide),trivial⟩)) (Nat.le_add_right _ _)) fun _=>
 Az.ite (fun _=>Gd.call hK hL ts) fun _=>
 Az.ite (fun hc=>Az.bind (j:=1) (k:=0) (Az.take fun _=>F3 hc) (fun _ _ _ _ _=>fun _=>Az.pure (Bm (Ig ht 0).1 (nlz _) (by decide) (by decide) trivial)) (Nat.le_add_right _ _)) fun _=>
 Az.ite (fun hc=>Az.bind (j:=1) (k:=0) (Az.open fun _=>F2 hc) (fun _ c0 hj0 hc0 _=>fun _=>Az.bind (j:=1) (k:=0) ((hL (by omega)).prim _) (fun x _ _ _ hx=>fun _=>Az.bind (j:=0) (k:=0) (Gd.down _) (fun _ _ _ _ _=>fun _=>Az.pure (Bm (by
  have:=(Ig (en:=en) ht 0).1;have hw:=hc;unfold Bt at hw;rw[bAt,beq_iff_eq,beq_iff_eq] at hw;have h3:(Be en ts 0).text.size=3:=(by rw[<-Ax,hw.2];rfl);show 3<=B;omega) (by show 1<=K;omega) (by decide) (by decide) (Ff hx))) (nlz _)) (nlz _)) (Nat.le_add_right _ _)) fun _=>
 Az.ite (fun hc=>Az.bind (j:=1) (k:=0) (Az.open fun _=>E0 hc) (fun _ c0 hj0 hc0 _=>fun ts2=>
   Az.bind (j:=0) (k:=0) (Gd.list (R:=Ed B K) (fun n' hn' ts3=>Az.bind (j:=1) (k:=0) (((hL (by omega)).less (by omega)).expr ts3) (fun x c hj _ hx=>fun _=>Az.pure ⟨by show 1<=c+0;omega,Ff hx⟩) (nlr _)) (fun _ _=>Fw) trivial ts2)
    (fun kids c2 _ hc2 hk=>fun ts4=>Az.bind (j:=1) (k:=0) (Gd.close _ _) (fun _ _ _ _ _=>fun _=>Az.pure (Bm (nlz _) (by have:=hk.1;omega) (by decide) (by decide) hk.2)) (nlz _)) (nlz _)) (Nat.le_add_right _ _)) fun _=>
 Az.ite (fun hc=>Az.bind (j:=1) (k:=0) (Az.open fun _=>E0 hc) (fun _ c0 hj0 hc0 _=>fun ts2=>
   Az.bind (j:=0) (k:=0) (Gd.list (R:=Ed B K) (fun n' hn'=>Gd.entry (by omega) ((hL (by omega)).less (by omega))) (fun _ _=>Fw) trivial ts2)
    (fun kids c2 _ hc2 hk=>fun ts4=>Az.bind (j:=1) (k:=0) (Gd.close _ _) (fun _ _ _ _ _=>fun _=>Az.pure (Bm (nlz _) (by have:=hk.1;omega) (by decide) (by decide) hk.2)) (nlz _)) (nlz _)) (Nat.le_add_right _ _)) fun _=>
 Az.bind (j:=1) (k:=0) (Az.open E0) (fun _ c0 hj0 hc0 _=>fun _=>Az.bind (j:=1) (k:=0) ((hL (by omega)).expr _) (fun x _ _ _ hx=>fun _=>Az.bind (j:=1) (k:=0) (Gd.close _ _) (fun _ _ _ _ _=>fun _=>Az.pure hx) (nlz _)) (nlz _)) (Nat.le_add_right _ _)
theorem Gd.sumGo(hB:1<=B)(hK:n+3<=K)(hL:0<n->LGd B K (n - 1) L):∀(f:Nat) (n':Nat),n'<=n->n'<f->∀x,D2 B K x->Gd B n' 0 (PN B K) (pSumGo en L f x)
 | 0,_,_,h,_,_=>absurd h (Nat.not_lt_zero _)
 | f+1,n',hn',hf,x,hx=>fun ts=>Az.look fun hn ht=>Az.ite (fun hc=>
   Az.bind (j:=1) (k:=0) (Az.take fun _=>E0 hc) (fun t _ hj1 hc1 _=>fun ts1=>Az.bind (j:=1) (k:=0) (Gd.prim (by omega) (fun h0=>(hL (by omega)).less (by omega)) ts1) (fun y _ _ _ hy=>fun ts2=>
    Gd.sumGo hB hK hL f (n' - 1 - 1) (by omega) (by omega) _ (Bm (s:=bs [43]) (show(bs [43]).size<=B from hB) (by show 2<=K;omega) (by decide) (by decide) (If hx hy)) ts2) (nlz _)) (nlz _)) fun _=>Az.pure hx
theorem Gd.sum(hB:1<=B)(hK:n+3<=K)(hL:0<n->LGd B K (n - 1) L):Gd B n 1 (PN B K) (pSum en L):=fun ts=>
 Az.bind (j:=1) (k:=0) (Gd.prim hK hL ts) (fun x _ _ _ hx=>fun ts1 d hn ht=>by
  have:=Gd.sumGo (en:=en) hB hK hL (ts1.length+1) ts1.length (by omega) (by omega) x hx ts1 d (nlr _) ht;exact this) (Nat.le_add_right _ _)
theorem Gd.expr(hB:1<=B)(hK:n+3<=K)(hL:0<n->LGd B K (n - 1) L):Gd B n 1 (PN B K) (Dd en L):=fun ts=>
 Az.bind (j:=1) (k:=0) (Gd.sum hB hK hL ts) (fun x _ hj0 hc0 hx=>fun ts1=>Az.look fun hn ht=>Az.ite (fun hc=>
  Az.bind (j:=1) (k:=0) (Az.take fun _=>by
   rw[Bool.or_eq_true,Bool.or_eq_true] at hc;rcases hc with (hc|hc)|hc
   ·exact E0 hc
   ·exact E0 hc
   ·exact F2 hc) (fun t _ _ _ ht0=>fun ts2=>Az.bind (j:=1) (k:=0) (Gd.sum hB (by omega) (fun h0=>(hL (by omega)).less (by omega)) ts2) (fun y _ _ _ hy=>fun _=>
    Az.pure (Bm ht0.2.1 (by show 2<=K;omega) (by decide) (by decide) (If hx hy))) (nlz _)) (nlz _)) fun _=>Az.pure hx) (Nat.le_add_right _ _)
theorem Gd.stmtsGo(to:List UInt8)(hL:LGd B K n L):∀(f:Nat) (acc:List Nd) (n':Nat),n'<=n->n'<f->Ed B K acc->Gd B n' 0 (fun c l=>l.length<=acc.length+c/\Ed B K l) (Dp en L to f acc)
 | 0,_,_,_,h,_=>absurd h (Nat.not_lt_zero _)
 | f+1,acc,n',hn',hf,ha=>fun ts=>Az.look fun hn ht=>Az.ite (fun hc=>
   Az.bind (j:=1) (k:=0) ((hL.less hn').stmt ts) (fun x c hj1 hc1 hx=>fun ts1=>Az.mono (Gd.stmtsGo to hL f (acc++[x]) (n' - 1) (by omega) (by omega) (Fw ha (Ff hx)) ts1) (fun c2 y _ _ h2=>⟨by have h3:=h2.1;rw[lnA,List.length_singleton] at h3;omega,h2.2⟩) (nlr _)) (nlz _)) fun _=>Az.pure ⟨nlr _,ha⟩
theorem Gd.stmts(to:List UInt8)(hL:LGd B K n L):Gd B n 0 (fun c l=>l.length<=c/\Ed B K l) (Du en L to):=fun ts d hn ht=>by
 have:=Gd.stmtsGo (en:=en) to (hL.less hn) (ts.length+1) [] ts.length (nlr _) (by omega) trivial ts d (nlr _) ht;unfold Du;cases hm:Dp en L to (ts.length+1) [] ts d with
 | err a b c=>exact trivial
 | out=>rw[hm] at this;exact this.elim
 | ok x t1 d1=>
  rw[hm] at this;exact⟨this.1,this.2.1,by have:=this.2.2.1;simpa using this,this.2.2.2⟩
theorem Gd.block(hK:n+3<=K)(hL:0<n->LGd B K (n - 1) L):Gd B n 2 (PN B K) (C3 en L):=fun ts=>Az.look fun hn ht=>
 Az.bind (j:=1) (k:=1) (Az.open E0) (fun t _ hj0 hc0 _=>fun ts1=>Az.bind (j:=0) (k:=1) (Gd.stmts _ (hL (by omega)) ts1) (fun l c _ hc1 hl=>fun ts2=>
  Az.bind (j:=1) (k:=0) (Gd.close _ _) (fun _ _ _ _ _=>fun _=>Az.pure (Bm (nlz _) (by have:=hl.1;omega) (by decide) (by decide) hl.2)) (nlr _)) (nlr _)) (nlr _)
def Uo(B K:Nat)(x:Nd):Prop:=D2 B K x/\1<=x.kids.length/\x.kids.length<=2
theorem Gd.param(hB:1<=B)(hK:n+3<=K)(hL:0<n->LGd B K (n - 1) L):Gd B n 1 (fun _ x=>Uo B K x) (De en L):=fun ts=>Az.look fun hn ht=>
 Az.bind (j:=1) (k:=0) (Az.take F3) (fun nm _ hj0 hc0 hnm=>fun ts1=>Az.bind (j:=1) (k:=0) (Gd.eat _ _) (fun _ _ hj1 hc1 _=>fun ts2=>Az.look fun hn2 ht2=>
  Az.bind (j:=1) (k:=0) (Az.take fun h=>Gx (en:=en) (k:=1) (by decide) (by rw[bAt] at h;simpa using h.1)) (fun t _ _ _ ht0=>fun ts3=>Az.look fun hn3 ht3=>
   Az.ite (fun _=>Az.bind (j:=1) (k:=0) (Gd.eat _ _) (fun _ _ _ _ _=>fun ts4=>Az.bind (j:=1) (k:=0) (Gd.expr hB (by omega) (fun h0=>(hL (by omega)).less (by omega)) ts4) (fun x _ _ _ hx=>fun _=>Az.pure
     ⟨Bm hnm.2.1 (by show 2<=K;omega) (by decide) (by decide) (If (Bm ht0.2.1 (nlz _) (by decide) (by decide) trivial) hx),(by show 1<=2;decide),(by show 2<=2;decide)⟩) (nlz _)) (nlz _)) fun _=>
    Az.pure ⟨Bm hnm.2.1 (by show 1<=K;omega) (by decide) (by decide) (Ff (Bm ht0.2.1 (nlz _) (by decide) (by decide) trivial)),(by show 1<=1;decide),(by show 1<=2;decide)⟩) (nlz _)) (nlz _)) (Nat.le_add_right _ _)
theorem Gd.rule(hB:1<=B)(hK:n+3<=K)(hL:0<n->LGd B K (n - 1) L)(hts:ts≠[]):Az B n 1 (PN B K) (pRule en L) ts:=
 Az.bind (j:=1) (k:=0) (Az.take fun _=>hts) (fun t _ hj0 hc0 _=>fun ts1=>Az.look fun hn1 ht1=>
  Az.bind (j:=1) (k:=0) (Az.take F3) (fun nm _ _ _ hnm=>fun ts2=>Az.bind (j:=1) (k:=0) (Gd.eat _ _) (fun _ _ _ _ _=>fun ts3=>
   Az.bind (j:=0) (k:=0) (Gd.list (R:=fun l=>∀x∈l,Uo B K x) (fun n' hn' ts4=>Az.bind (j:=1) (k:=0) (Gd.param hB (by omega) (fun h0=>(hL (by omega)).less (by omega)) ts4) (fun x c hj _ hx=>fun _=>Az.pure ⟨by show 1<=c+0;omega,fun y hy=>by rw[List.mem_singleton.1 hy];exact hx⟩) (nlr _))
     (fun l m hl hm x hx=>by
      rcases List.mem_append.1 hx with hx|hx
      ·exact hl x hx
      ·exact hm x hx) (fun x hx=>by cases hx) ts3)
    (fun kids c2 _ hc2 hk=>fun ts4=>Az.bind (j:=1) (k:=0) (Gd.eat _ _) (fun _ _ _ _ _=>fun ts5=>Az.bind (j:=2) (k:=0) (Gd.block (by omega) (fun h0=>(hL (by omega)).less (by omega)) ts5) (fun b _ _ _ hb=>fun _=>Az.pure (by
     show D2 B K (.mk 6 _ _ _ (kids++[b]));rw[D2];refine⟨hnm.2.1,?_,fun e=>absurd e (by decide),fun _=>⟨kids,b,rfl,fun x hx=>(hk.2 x hx).2⟩,Fw (ndOks_iff.2 fun x hx=>(hk.2 x hx).1) (Ff hb)⟩;have:=hk.1;rw[lnA,List.length_singleton];omega)) (nlz _)) (nlz _)) (nlz _)) (nlz _)) (nlz _)) (Nat.le_add_right _ _)
theorem Gd.stmt(hB:1<=B)(hK:n+3<=K)(hL:0<n->LGd B K (n - 1) L):Gd B n 1 (PN B K) (pStmt en L):=fun ts=>Az.look fun hn ht=>
 Az.ite (fun hc=>Az.bind (j:=1) (k:=0) (Az.take fun _=>F2 hc) (fun _ _ hj0 hc0 _=>fun ts1=>Az.look fun _ _=>Az.bind (j:=1) (k:=0) (Az.take F3) (fun nm _ _ _ hnm=>fun ts2=>Az.look fun _ _=>
   Az.bind (j:=1) (k:=0) (Az.take F2) (fun _ _ _ _ _=>fun ts3=>Az.bind (j:=1) (k:=0) (Gd.expr hB (by omega) (fun h0=>(hL (by omega)).less (by omega)) ts3) (fun x _ _ _ hx=>fun ts4=>
    Az.bind (j:=2) (k:=0) (Gd.block (by omega) (fun h0=>(hL (by omega)).less (by omega)) ts4) (fun b _ _ _ hb=>fun _=>Az.pure (Bm hnm.2.1 (by show 2<=K;omega) (by decide) (by decide) (If hx hb))) (nlz _)) (nlz _)) (nlz _)) (nlz _)) (Nat.le_add_right _ _)) fun _=>
 Az.ite (fun hc=>Az.bind (j:=1) (k:=0) (Az.take fun _=>F2 hc) (fun _ _ hj0 hc0 _=>fun ts1=>Az.bind (j:=1) (k:=0) (Gd.expr hB (by omega) (fun h0=>(hL (by omega)).less (by omega)) ts1) (fun x _ _ _ hx=>fun ts2=>
   Az.bind (j:=2) (k:=0) (Gd.block (by omega) (fun h0=>(hL (by omega)).less (by omega)) ts2) (fun b _ _ _ hb=>fun ts3=>Az.look fun _ _=>Az.ite (fun hc2=>
    Az.bind (j:=1) (k:=0) (Az.take fun _=>F2 hc2) (fun _ _ _ _ _=>fun ts4=>Az.bind (j:=2) (k:=0) (Gd.block (by omega) (fun h0=>(hL (by omega)).less (by omega)) ts4) (fun c _ _ _ hc3=>fun _=>
     Az.pure (Bm (nlz _) (by show 3<=K;omega) (by decide) (by decide) ⟨hx,hb,hc3,trivial⟩)) (nlz _)) (nlz _)) fun _=>Az.pure (Bm (nlz _) (by show 2<=K;omega) (by decide) (by decide) (If hx hb))) (nlz _)) (nlz _)) (Nat.le_add_right _ _)) fun _=>
 Az.ite (fun hc=>Gd.rule hB hK hL (F2 hc)) fun _=>
 Az.ite (fun _=>Az.bind (j:=1) (k:=0) (Gd.call hK hL ts) (fun c _ _ _ hc=>fun ts1=>Az.bind (j:=1) (k:=0) (Gd.eat _ _) (fun _ _ _ _ _=>fun _=>Az.pure (Bm (nlz _) (by show 1<=K;omega) (by decide) (by decide) (Ff hc))) (nlz _)) (Nat.le_add_right _ _)) fun _=>
 Az.bind (j:=1) (k:=0) (Az.take F3) (fun nm _ hj0 hc0 hnm=>fun ts1=>Az.bind (j:=1) (k:=0) (Gd.eat _ _) (fun _ _ _ _ _=>fun ts2=>Az.bind (j:=1) (k:=0) (Gd.expr hB (by omega) (fun h0=>(hL (by omega)).less (by omega)) ts2) (fun x _ _ _ hx=>fun ts3=>
  Az.bind (j:=1) (k:=0) (Gd.eat _ _) (fun _ _ _ _ _=>fun _=>Az.pure (Bm hnm.2.1 (by show 1<=K;omega) (by decide) (by decide) (Ff hx))) (nlz _)) (nlz _)) (nlz _)) (Nat.le_add_right _ _)
end
theorem LGd.lvl{B K}(en)(hB:1<=B):∀(f n:Nat),n<f->n+3<=K->LGd B K n (lvl en f)
 | 0,_,h,_=>absurd h (Nat.not_lt_zero _)
 | f+1,n,h,hK=>
  have ih:0<n->LGd B K (n - 1) (Go.Proofs.YtbcdimjbepigcaaGreatDoor.lvl en f):=fun h0=>LGd.lvl en hB f (n - 1) (by omega) (by omega)
  ⟨Gd.expr hB hK ih,Gd.prim hK ih,Gd.stmt hB hK ih⟩
/-! What the lexer hands on. -/
theorem quotedL_len:∀(l:List UInt8) r,Cd l=some r->r.1.length<=l.length
 | [],r,h=>by simp[Cd] at h
 | c::t,r,h=>by
  rw[Cd.eq_def] at h
  dsimp only at h
  split at h
  ·cases h;exact nlz _
  ·split at h
   ·cases h
   ·split at h
    ·cases t with
     | nil=>cases h
     | cons d t'=>
      simp only[Option.bind_eq_some_iff,Option.map_eq_some_iff] at h;obtain⟨e,-,q,hq,rfl⟩:=h;have:=quotedL_len t' q hq;simp only[lnC];omega
    ·simp only[Option.map_eq_some_iff] at h;obtain⟨q,hq,rfl⟩:=h;have:=quotedL_len t q hq;simp only[lnC];omega
theorem takeWhile_le{p:UInt8->Bool}(l:List UInt8):(l.takeWhile p).length<=l.length:=(List.takeWhile_prefix p).length_le
theorem nextL_ok{l k s n}(h:C1 l = .ok (k,s,n)):s.length<=l.length/\(k=2->R1 ⟨s.toArray⟩):=by
 cases l with
 | nil=>cases h
 | cons c t=>
  rw[C1] at h;split at h
  ·cases h;exact⟨nlz _,fun e=>absurd e (by decide)⟩
  ·split at h
   ·cases h;exact⟨nlz _,fun e=>absurd e (by decide)⟩
   ·split at h
    ·cases h;exact⟨takeWhile_le _,fun e=>absurd e (by decide)⟩
    ·split at h
     ·next hd=>
      unfold Dn at h;split at h
      ·cases h
      ·next h1=>
       split at h
       ·cases h
       ·next h2=>
        cases h;refine⟨takeWhile_le _,fun _=>⟨?_,?_,?_,by simpa using h2⟩⟩
        ·show(c::t).takeWhile Bi≠[];rw[List.takeWhile_cons_of_pos hd];simp
        ·intro x hx;have:x∈(c::t).takeWhile Bi:=hx;exact List.all_eq_true.1 (List.all_takeWhile) x this
        ·rintro⟨g1,g2⟩;refine h1 ⟨g1,?_⟩;have:((c::t).takeWhile Bi).head? = some 48:=g2;rw[List.takeWhile_cons_of_pos hd] at this
         simpa using this
     ·split at h
      ·split at h
       ·next r hr=>
        cases h;refine⟨?_,fun e=>absurd e (by decide)⟩;have:=quotedL_len _ _ hr;simp only[lnC];omega
       ·cases h
      ·split at h
       ·cases h;exact⟨by rw[List.length_take];omega,fun e=>absurd e (by decide)⟩
       ·split at h
        ·cases h;exact⟨by simp,fun e=>absurd e (by decide)⟩
        ·cases h
theorem N4{B}:∀(f:Nat) (p:Int×Int) (l:List UInt8) (ts:List Tok),l.length<=B->Cg f p l = .ok ts->ts.length<=f/\R4 B ts
 | 0,p,l,ts,_,h=>by cases h;exact⟨nlr _,fun x hx=>by cases hx⟩
 | f+1,p,l,ts,hB,h=>by
  rw[Cg] at h;split at h
  ·cases h;exact⟨nlz _,fun x hx=>by cases hx⟩
  ·split at h
   ·cases h
   ·next k s n hn=>
    split at h
    ·cases h
    ·next ts' hts=>
     obtain⟨h1,h2⟩:=N4 (B:=B) f (passL p (l.take n)) (l.drop n) ts' (by rw[List.length_drop];omega) hts;obtain⟨g1,g2⟩:=nextL_ok hn;cases h;by_cases hk:0<k
     ·rw[if_pos hk];refine⟨by rw[lnC];omega,fun x hx=>?_⟩;rcases List.mem_cons.1 hx with rfl|hx
      ·exact⟨by show s.toArray.size<=B;rw[List.size_toArray];omega,g2⟩
      ·exact h2 x hx
     ·rw[if_neg hk];exact⟨by omega,h2⟩
theorem Gy(l):readL l≠none/\∀n,readL l=some (.ok n)->∃kids,n = .mk 1 ⟨#[]⟩ 1 1 kids/\kids.length<=65540/\Ed 65536 65540 kids:=by
 unfold readL;cases hl:I4 l with
 | error e=>exact⟨fun h=>(by cases h),fun n h=>(by cases h)⟩
 | ok ts=>
  unfold I4 at hl;split at hl
  ·cases hl
  ·next hlen=>
   obtain⟨h1,h2⟩:=N4 (B:=65536) _ _ _ _ (by omega) hl;have hg:=Gd.stmts (B:=65536) (K:=65540) (n:=ts.length) (en:=Mu l) [] (LGd.lvl (Mu l) (by decide) (ts.length+2) ts.length (by omega) (by omega)) ts 0 (nlr _) h2;cases hm:Du (Mu l) (lvl (Mu l) (ts.length+2)) [] ts 0 with
   | err a b c=>
    simp only[hm];exact⟨fun h=>(by cases h),fun n h=>(by cases h)⟩
   | out=>rw[hm] at hg;exact hg.elim
   | ok x t1 d1=>
    rw[hm] at hg;simp only[hm];refine⟨fun h=>(by cases h),fun n h=>?_⟩;cases h;exact⟨x,rfl,by have:=hg.2.2.1;omega,hg.2.2.2⟩
def Dg:List ByteArray:=[⟨#[34]⟩,⟨#[92,34]⟩,⟨#[92]⟩,⟨#[92,92]⟩,⟨#[10]⟩,⟨#[92,110]⟩]
def RB(w:World)(b:Nat)(x0 x1:Int)(x3 x4:Value):Prop:=w.heap[b]? = some (.cells #[.int .u32 x0,.int .i32 x1,.int .u32 0,x3,x4] 195 (0,0))
theorem K1(w e s):Below w.heap.size w (Lib.bytesWorld w e s):=by
 unfold Lib.bytesWorld World.freeze;rw[if_neg (by omega)];have h:=((Below.refl w.heap.size w).drew).alloc (nlr _) (.cells (Lib.bytesCells w e s) e);refine⟨h.os,h.tape,h.output,by simp,fun k hk=>?_⟩;show(Array.modify _ _ _)[k]? = _;rw[Array.getElem?_modify,if_neg (by show ¬w.heap.size=k;omega)];exact h.block k hk
theorem OwnS.keepB{w w' base v l}(h:OwnS w base v l)(hk:∀g,v.ownBlock=some g->w'.heap[g]? = w.heap[g]?):OwnS w' base v l:=by
 obtain⟨h1,h2|⟨g,cap,cur,rfl,h3,h4,h5⟩⟩:=h
 ·exact⟨h1,.inl h2⟩
 ·exact⟨h1,.inr ⟨g,cap,cur,rfl,h3,(hk g rfl).trans h4,h5⟩⟩
def Of(d:List (Nat×Nat×Nat))(c:Nat):Value:=match d.find? (fun x=>x.1==c) with
 | some x=> .slice (some ⟨x.2.1,0,none⟩) 2 x.2.2
 | none=> .slice none 0 0
structure RepI(base:Nat)(W:World)(rb:Nat)(Z:Array Value)(d:List (Nat×Nat×Nat))(v:Value)(l:List ByteArray):Prop where
 blk:W.heap[rb]? = some (.cells Z 270 (0,0))
 size:Z.size=257
 each:∀c,c<256->Z[c]? = some (Of d c)
 last:Z[256]? = some v
 own:OwnS W base v l
 apart:v.ownBlock≠some rb/\base<=rb
theorem zeroRep:Tryz.zeroCells270=Array.replicate 257 (.slice none 0 0):=by kernel_rfl
theorem sizeRep:(Tryz.prog.info? 270).map (·.size)=some 257:=by kernel_rfl
def toRep:List ByteArray:=[⟨#[10]⟩,⟨#[92]⟩,⟨#[34]⟩]
def secOf(c:Nat):Int:=if c=10 then 110 else c
def Ml(w W:World)(n:Nat):Prop:=Below w.heap.size w W/\∃Z d v,RepI w.heap.size W (w.heap.size+1) Z d v (toRep.take n)/\d.map (·.1)=(([10,92,34]:List Nat).take n).reverse /\
 ∀x∈d,W.cell? ⟨x.2.1,0,none⟩=some (.int .u8 92)/\W.cell? ⟨x.2.1,1,none⟩=some (.int .u8 (secOf x.1))/\w.heap.size<=x.2.1/\x.2.1≠w.heap.size+1/\v.ownBlock≠some x.2.1
theorem repV_nil(c):Of [] c = .slice none 0 0:=rfl
theorem Sq(w):Ml w ((w.alloc (.cells #[.string ⟨#[]⟩,.string ⟨#[]⟩,.string ⟨#[]⟩] 9)).alloc (.cells (Tryz.zeroCells270.toList.set 256 (.slice (some ⟨w.heap.size,0,none⟩) 0 3)).toArray 270)) 0:=by
 obtain⟨n1,n2,n3,n4⟩:=D5 w (.cells #[.string ⟨#[]⟩,.string ⟨#[]⟩,.string ⟨#[]⟩] 9) (.cells (Tryz.zeroCells270.toList.set 256 (.slice (some ⟨w.heap.size,0,none⟩) 0 3)).toArray 270);refine⟨n3,_,[],.slice (some ⟨w.heap.size,0,none⟩) 0 3,⟨n2,by rw[zeroRep,List.size_toArray,List.length_set,Array.length_toList,Array.size_replicate],fun c hc=>?_,by rw[zeroRep,List.getElem?_toArray,List.getElem?_set_self (by rw[Array.length_toList,Array.size_replicate];decide)],⟨rfl,.inr ⟨w.heap.size,3,_,rfl,nlr _,n1,by decide,by decide,rfl,rfl⟩⟩,fun e=>?_,by omega⟩,rfl,fun x hx=>by cases hx⟩
 ·rw[zeroRep,repV_nil,List.getElem?_toArray,List.getElem?_set_ne (by omega),Array.toList_replicate,List.getElem?_replicate,if_pos (by omega)]
 ·have:w.heap.size=w.heap.size+1:=(by simp[Value.ownBlock] at e);omega
theorem M1{d c}(h:∀x∈d,x.1≠c):Of d c = .slice none 0 0:=by
 unfold Of;rw[List.find?_eq_none.2 (fun x hx=>by simpa using h x hx)]
theorem Og(d o p cp):Of ((o,p,cp)::d) o = .slice (some ⟨p,0,none⟩) 2 cp:=by simp[Of]
theorem Mx(d){o c}(p cp)(h:o≠c):Of ((o,p,cp)::d) c=Of d c:=by
 unfold Of;rw[List.find?_cons_of_neg (by simpa using h)]
theorem Oh{w wr W1 w1:World}{Z:Array Value}{d:List (Nat×Nat×Nat)}{v v':Value}{l l':List ByteArray}(hbw:Below w.heap.size w wr)(hI:RepI w.heap.size wr (w.heap.size+1) Z d v l)
  (hx:∀x∈d,wr.cell? ⟨x.2.1,0,none⟩=some (.int .u8 92)/\wr.cell? ⟨x.2.1,1,none⟩=some (.int .u8 (secOf x.1))/\w.heap.size<=x.2.1/\x.2.1≠w.heap.size+1/\v.ownBlock≠some x.2.1)
  (hb1:Below wr.heap.size wr W1) (hown:OwnS w1 w.heap.size v' l') (hg:W1.grownBy w1 v.ownBlock) (hat:∀g,v'.ownBlock=some g->v.ownBlock=some g\/W1.heap.size<=g) (o cp:Nat) (ho:o<256) (c:UInt8) (hc:secOf o=c.toNat):
  let W:=(Lib.bytesWorld (w1.setCell ⟨w.heap.size+1,256,none⟩ v') 5 ⟨#[92,c]⟩).setCell ⟨w.heap.size+1,o,none⟩ (.slice (some ⟨w1.heap.size,0,none⟩) 2 cp)
  Below w.heap.size w W/\∃Z',RepI w.heap.size W (w.heap.size+1) Z' ((o,w1.heap.size,cp)::d) v' l' /\
   ∀x∈(o,w1.heap.size,cp)::d,W.cell? ⟨x.2.1,0,none⟩=some (.int .u8 92)/\W.cell? ⟨x.2.1,1,none⟩=some (.int .u8 (secOf x.1))/\w.heap.size<=x.2.1/\x.2.1≠w.heap.size+1/\v'.ownBlock≠some x.2.1:=by
 intro W;have hrb:w.heap.size+1<wr.heap.size:=(Array.getElem?_eq_some_iff.1 hI.blk).1;have hs1:=hb1.size;have hs2:=hg.size;have bC:=hbw.size;have hvb:∀g,v.ownBlock=some g->w.heap.size<=g:=fun g e=>(hI.own.block e).1;have aR:Below w.heap.size w w1:=(hbw.trans (hb1.mono bC)).trans (B5 hg hvb (by omega));have bE:w1.heap[w.heap.size+1]? = some (.cells Z 270 (0,0)):=(hg.block _ (by omega) (fun e=>hI.apart.1 e.symm)).trans ((hb1.block _ hrb).trans hI.blk);have hv'1:v'.ownBlock≠some (w.heap.size+1):=fun e=>by
  rcases hat _ e with h|h
  ·exact hI.apart.1 h
  ·omega
 have hv'2:∀g,v'.ownBlock=some g->g<w1.heap.size:=fun g e=>(hown.block e).2;have bD:(w1.setCell ⟨w.heap.size+1,256,none⟩ v').heap.size=w1.heap.size:=(by simp);have bN:∀k,k<w1.heap.size->k≠w.heap.size+1->W.heap[k]? = w1.heap[k]?:=fun k hk bO=>by
  show((Lib.bytesWorld _ _ _).setCell _ _).heap[k]? = _;rw[Ad bO,Lib.bytesWorld_at_old _ _ _ _ (by rw[bD];exact hk),Ad bO]
 have hWsz:W.heap.size=w1.heap.size+1:=by
  show((Lib.bytesWorld _ _ _).setCell _ _).heap.size=_;have hz:=Lib.bytesWorld_size (w1.setCell ⟨w.heap.size+1,256,none⟩ v') 5 ⟨#[92,c]⟩;rw[bD] at hz;rw[<-hz];simp
 have aY:Below w.heap.size w (w1.setCell ⟨w.heap.size+1,256,none⟩ v'):=aR.setCell (p:=⟨w.heap.size+1,256,none⟩) (by show _<=w.heap.size+1;omega) _;have bF:Below w.heap.size w (Lib.bytesWorld (w1.setCell ⟨w.heap.size+1,256,none⟩ v') 5 ⟨#[92,c]⟩):=aY.trans ((K1 _ _ _).mono aY.size);refine⟨bF.setCell (p:=⟨w.heap.size+1,o,none⟩) (by show _<=w.heap.size+1;omega) _,(Z.setIfInBounds 256 v').setIfInBounds o (.slice (some ⟨w1.heap.size,0,none⟩) 2 cp),⟨?_,?_,?_,?_,?_,hv'1,hI.apart.2⟩,?_⟩
 ·show((Lib.bytesWorld _ _ _).setCell _ _).heap[_]? = _;refine Ag ?_ o _;rw[Lib.bytesWorld_at_old _ _ _ _ (by rw[bD];omega)];exact Ag bE 256 v'
 ·rw[Array.size_setIfInBounds,Array.size_setIfInBounds];exact hI.size
 ·intro k hk;by_cases hko:o=k
  ·subst hko;rw[Array.getElem?_setIfInBounds_self_of_lt (by rw[Array.size_setIfInBounds,hI.size];omega),Og]
  ·rw[Array.getElem?_setIfInBounds_ne (fun e=>hko e),Array.getElem?_setIfInBounds_ne (by omega),Mx _ _ _ hko];exact hI.each k hk
 ·rw[Array.getElem?_setIfInBounds_ne (by omega),Array.getElem?_setIfInBounds_self_of_lt (by rw[hI.size];omega)]
 ·exact hown.keepB (fun g e=>bN g (hv'2 g e) (fun h=>hv'1 (h▸e)))
 ·intro x hx';rcases List.mem_cons.1 hx' with rfl|hx'
  ·have aU:∀j,j<2->W.cell? ⟨w1.heap.size,j,none⟩=some (.int .u8 ((⟨#[92,c]⟩:ByteArray).data.toList.getD j 0).toNat):=fun j hj=>by
    have h1:=Lib.bytesWorld_cell (w1.setCell ⟨w.heap.size+1,256,none⟩ v') 5 ⟨#[92,c]⟩ j hj;rw[bD] at h1;refine(World.cell?_of_block (a:=⟨w1.heap.size,j,none⟩) ?_).trans h1;show((Lib.bytesWorld _ _ _).setCell _ _).heap[w1.heap.size]? = _;exact Ad (by omega) o _
   refine⟨aU 0 (by decide),?_,by show w.heap.size<=w1.heap.size;omega,by show w1.heap.size≠_;omega,fun e=>by have:=hv'2 _ e;exact absurd this (Nat.lt_irrefl _)⟩;rw[hc];exact aU 1 (by decide)
  ·obtain⟨a1,a2,a3,a4,a5⟩:=hx x hx';have hxl:=Au a1;have hk:∀j,W.cell? ⟨x.2.1,j,none⟩=wr.cell? ⟨x.2.1,j,none⟩:=fun j=>World.cell?_of_block ((bN x.2.1 (by omega) a4).trans ((hg.block _ (by omega) (fun e=>a5 e.symm)).trans (hb1.block _ hxl)));refine⟨(hk 0).trans a1,(hk 1).trans a2,a3,a4,fun e=>?_⟩;rcases hat _ e with h|h
   ·exact a5 h
   ·omega
def Fp(base:Nat)(w:World)(rb:Nat):Prop:=∃d v,(∀c,c<256->w.cell? ⟨rb,c,none⟩=some (Of d c))/\w.cell? ⟨rb,256,none⟩=some v/\OwnS w base v toRep/\d.map (·.1)=[34,92,10] /\
 (∀x∈d,w.cell? ⟨x.2.1,0,none⟩=some (.int .u8 92)/\w.cell? ⟨x.2.1,1,none⟩=some (.int .u8 (secOf x.1))/\base<=x.2.1)/\base<=rb
theorem Fp.keep{base w w' rb}(h:Fp base w rb)(hk:∀k,base<=k->k<w.heap.size->w'.heap[k]? = w.heap[k]?):Fp base w' rb:=by
 obtain⟨d,v,h1,h2,h3,h4,h5,h6⟩:=h;have hc:∀{k i:Nat} {u:Value},base<=k->w.cell? ⟨k,i,none⟩=some u->w'.cell? ⟨k,i,none⟩=some u:=fun {k i u} hb he=>(World.cell?_of_block (a:=⟨k,i,none⟩) (hk k hb (Au he))).trans he;exact⟨d,v,fun c hc'=>hc h6 (h1 c hc'),hc h6 h2,h3.keepB (fun g e=>hk g (h3.block e).1 (h3.block e).2),h4,fun x hx=>⟨hc (h5 x hx).2.2 (h5 x hx).1,hc (h5 x hx).2.2 (h5 x hx).2.1,(h5 x hx).2.2⟩,h6⟩
def L5(c:Nat):Bool:=c==34||c==92||c==10
theorem Fp.esc{base w rb c}(h:Fp base w rb)(hc:c<256)(he:L5 c=true):∃p cp,w.cell? ⟨rb,c,none⟩=some (.slice (some ⟨p,0,none⟩) 2 cp)/\w.cell? ⟨p,0,none⟩=some (.int .u8 92)/\w.cell? ⟨p,1,none⟩=some (.int .u8 (secOf c)):=by
 obtain⟨d,v,h1,h2,h3,h4,h5,-⟩:=h;have hm:c∈d.map (·.1):=by
  rw[h4];simp[L5] at he;rcases he with (rfl|rfl)|rfl<;>simp
 obtain⟨x,hx,hxc⟩:=List.mem_map.1 hm;have hf:∃y,d.find? (fun x=>x.1==c)=some y:=by
  cases hf:d.find? (fun x=>x.1==c) with
  | none=>exact absurd (by simpa using hxc) (List.find?_eq_none.1 hf x hx)
  | some y=>exact⟨y,rfl⟩
 obtain⟨y,hf⟩:=hf;have hy:=List.mem_of_find?_eq_some hf;have hyc:y.1=c:=(by simpa using List.find?_some hf);refine⟨y.2.1,y.2.2,?_,(h5 y hy).1,hyc▸(h5 y hy).2.1⟩;rw[h1 c hc];unfold Of;rw[hf]
theorem Fp.plain{base w rb c}(h:Fp base w rb)(hc:c<256)(he:L5 c=false):w.cell? ⟨rb,c,none⟩=some (.slice none 0 0):=by
 obtain⟨d,v,h1,h2,h3,h4,h5,-⟩:=h;rw[h1 c hc];have:∀x∈d,x.1≠c:=fun x hx e=>by
  have hm:x.1∈d.map (·.1):=List.mem_map_of_mem hx;rw[h4] at hm;simp at hm;simp[L5] at he;omega
 rw[M1 this]
theorem Fp.row{base w rb}(h:Fp base w rb):∃a cp,w.cell? ⟨rb,256,none⟩=some (.slice a 3 cp)/\Dj w a toRep:=by
 obtain⟨d,v,h1,h2,h3,h4,h5,-⟩:=h;have hs:=h3.strsAt;rw[show toRep.length=3 from rfl] at hs;obtain⟨a,cp,rfl,aH,-⟩:=hs;exact⟨a,cp,h2,aH⟩
def PBuild(w:World)(e:Ending)(w':World):Prop:=∃rb,e = .returned (.iface 271 (.pointer (some ⟨rb,0,none⟩)))/\Below w.heap.size w w'/\Fp w.heap.size w' rb
theorem Iv(W:World)(x:UInt8):(convert 108 9 (.slice (some ⟨W.heap.size,0,none⟩) 1 1)).run Tryz.prog (W.alloc (.cells #[.int .u8 x.toNat] 5)) = .ok (.string ⟨#[x]⟩) (W.alloc (.cells #[.int .u8 x.toNat] 5)):=
 run_convert_bytes_back _ _ _ 5 ⟨W.heap.size,0,none⟩ 1 [x] Tryz.underlying108 Tryz.underlying5 Tryz.underlying9 (fun j hj=>by
  obtain rfl:j=0:=(by simp at hj;exact hj);go_simp)
theorem Xc(b x1 ob oc w)(h:RB w b 0 x1 .nilIface (.slice (some ⟨ob,0,none⟩) 6 oc))(hs:Dj w (some ⟨ob,0,none⟩) Dg):
  Calls Tryz.prog 196 #[.pointer (some ⟨b,0,none⟩)] w (PBuild w):=by
 obtain⟨-,g0,g1,g2,g3,g4,-⟩:=Aa h;obtain⟨_,_,e0,s0⟩:=hs.at (k:=0) (by decide);cases e0;obtain⟨_,_,e0,s1⟩:=hs.at (k:=1) (by decide);cases e0;obtain⟨_,_,e0,s2⟩:=hs.at (k:=2) (by decide);cases e0;obtain⟨_,_,e0,s3⟩:=hs.at (k:=3) (by decide);cases e0;obtain⟨_,_,e0,s4⟩:=hs.at (k:=4) (by decide);cases e0;obtain⟨_,_,e0,s5⟩:=hs.at (k:=5) (by decide);cases e0;simp only[Dg,List.getElem_cons_succ,List.getElem_cons_zero,Nat.zero_add] at s0 s1 s2 s3 s4 s5;clear hs h;have hmk:∀W,(Instr.makeSlice 40 (.int .i64 0) (.int .i64 3)).run Tryz.prog W = .ok (.slice (some ⟨W.heap.size,0,none⟩) 0 3) (W.alloc (.cells #[.string ⟨#[]⟩,.string ⟨#[]⟩,.string ⟨#[]⟩] 9)):=fun W=>(by kernel_rfl);have hnil:∀W,(binOp .eql 108 (.slice none 0 0) (.slice none 0 0)).run Tryz.prog W = .ok (.bool true) W:=fun W=>(by kernel_rfl);have hsb:=fun(W:World) (s:ByteArray)=>Lib.run_convert_string_bytes (P:=Tryz.prog) W 9 108 5 s Tryz.underlying9 Tryz.underlying108 Tryz.underlying5;have bG:=fun(W:World)=>Iv W 10;have bH:=fun(W:World)=>Iv W 92;have bI:=fun(W:World)=>Iv W 34;simp only[show((10:UInt8).toNat:Int)=10 from rfl,show((92:UInt8).toNat:Int)=92 from rfl,show((34:UInt8).toNat:Int)=34 from rfl] at bG bH bI;obtain⟨i0,hi,bJ,bL,bM⟩:=info_parts infoStr;have aH:(storeCells ⟨w.heap.size+1,0,none⟩ (Tryz.zeroCells270.toList.set 256 (.slice (some ⟨w.heap.size,0,none⟩) 0 3))).run Tryz.prog ((w.alloc (.cells #[.string ⟨#[]⟩,.string ⟨#[]⟩,.string ⟨#[]⟩] 9)).alloc (.cells Tryz.zeroCells270 270)) = .ok () ((w.alloc (.cells #[.string ⟨#[]⟩,.string ⟨#[]⟩,.string ⟨#[]⟩] 9)).alloc (.cells (Tryz.zeroCells270.toList.set 256 (.slice (some ⟨w.heap.size,0,none⟩) 0 3)).toArray 270)):=by
  have hsz:(w.alloc (.cells #[.string ⟨#[]⟩,.string ⟨#[]⟩,.string ⟨#[]⟩] 9)).heap.size=w.heap.size+1:=(by simp);have:=run_storeCells_new (P:=Tryz.prog) (w.alloc (.cells #[.string ⟨#[]⟩,.string ⟨#[]⟩,.string ⟨#[]⟩] 9)) 270 Tryz.zeroCells270 (Tryz.zeroCells270.toList.set 256 (.slice (some ⟨w.heap.size,0,none⟩) 0 3)).toArray (by rw[sizeRep,zeroRep];simp) (by rw[zeroRep];simp) (by
   rw[zeroRep,Array.all_eq_true'];intro x hx;rw[List.mem_toArray] at hx;rcases List.mem_or_eq_of_mem_set hx with hx|rfl
   ·rw[Array.toList_replicate] at hx;rw[(List.mem_replicate.1 hx).2];rfl
   ·rfl)
  rw[hsz] at this;exact this
 go_enter Tryz.func196,Tryz.ntmps196;go_wp2_with fail
 go_loop [4,5] (fun v i=>(v = .bool true/\i = .int .i64 0)\/(v = .bool false/\i = .int .i64 2)\/(v = .bool false/\i = .int .i64 4)\/(v = .bool false/\i = .int .i64 6)) (fun _ i=>6-(intOf i).toNat)
 case atStart=>exact .inl ⟨rfl,rfl⟩
 case round=>
  rcases hrel with⟨rfl,rfl⟩|⟨rfl,rfl⟩|⟨rfl,rfl⟩|⟨rfl,rfl⟩
  ·go_wp2_with fail;go_round
   case rel=>exact .inr (.inl ⟨rfl,by go_num⟩)
   case measure=>simp[intOf]
  ·go_wp2_with fail;go_round
   case rel=>exact .inr (.inr (.inl ⟨rfl,by go_num⟩))
   case measure=>simp[intOf]
  ·go_wp2_with fail;go_round
   case rel=>exact .inr (.inr (.inr ⟨rfl,by go_num⟩))
   case measure=>simp[intOf]
  ·go_wp2_with fail;have H0:=Lq7 (Sq w);generalize World.alloc _ _=W0 at H0 |-
   go_loopw [12] (fun i wr=>(i = .int .i64 4/\Hid (Ml w wr 0))\/(i = .int .i64 2/\Hid (Ml w wr 1))\/(i = .int .i64 0/\Hid (Ml w wr 2))\/(i = .int .i64 (-2)/\Hid (Ml w wr 3))) (fun i _=>(intOf i+2).toNat)
   case atStart=>exact .inl ⟨rfl,H0⟩
   case round=>
    rcases hrel with⟨rfl,aH⟩|⟨rfl,aH⟩|⟨rfl,aH⟩|⟨rfl,aH⟩
    ·obtain⟨hbw,Z,d,v,hI,hd,hx⟩:=aH.out;have ta:=(hbw.cell (p:=⟨ob,4,none⟩) (Au s4)).trans s4;have tb:=(hbw.cell (p:=⟨ob,5,none⟩) (Au s5)).trans s5;have aE:∀x∈d,x.1≠10:=fun x hm=>by
      have:x.1∈d.map (·.1):=List.mem_map_of_mem hm;rw[hd] at this;intro e;rw[e] at this;revert this
      decide
     obtain⟨aJ,aM,aN⟩:=A5 hI.blk;have z1:=(aM 10).trans (hI.each 10 (by decide));rw[M1 aE] at z1;have aF:=(aM 256).trans hI.last;have f1:=aN 10;have aG:=aN 256;have e1:((⟨#[10]⟩:ByteArray)[0]'(by decide)).toNat=10:=rfl;have bC:=hbw.size;have aQ:Below wr.heap.size wr ((wr.alloc (.cells #[.int .u8 10] 5)).alloc (.cells #[.string ⟨#[10]⟩] 9)):=((Below.refl _ wr).alloc (nlr _) _).alloc (by simp) _;have aC:=lit_one (wr.alloc (.cells #[.int .u8 10] 5)) (.string ⟨#[10]⟩) 9;rw[show(wr.alloc (.cells #[.int .u8 10] 5)).heap.size=wr.heap.size+1 by simp] at aC;have Hn:=Lq7 (aIn aC (hI.own.below aQ));have aB:=Lq7 (aIn hbw (aIn hI (aIn hx (aIn hd aQ))));clear hx hd hI aM aH hbw aE aC
     go_wp2_with (at_builtin;refine Ct rfl _ _ 40 rfl w.heap.size 9 i0 (.string ByteArray.empty) 1 16 Tryz.underlying40 hi bJ bL bM rfl (by decide) v 0 ((toRep.take 0).map Value.string) rfl Hn.out.2 ⟨wr.heap.size+1,0,none⟩ 1 1 [.string ⟨#[10]⟩] rfl rfl Hn.out.1 ?_ ?_ ?_ ?_ ?_)
     ·simp[Value.oneCell']
     ·unfold maxLen;decide
     ·decide
     ·simp;omega
     intro v' w1 hown' hg hat;have hown:OwnS w1 w.heap.size v' (toRep.take 1):=hown';have aW:=hown.strsAt;rw[show(toRep.take 1).length=1 from rfl] at aW;obtain⟨va,vc,aZ,-,-⟩:=aW;subst aZ;have bA:=((World.cell?_of_block (a:=⟨w.heap.size+1,256,none⟩) ((hg.block _ (by have:=aB.out.2.2.2.2.size;show w.heap.size+1<_;omega) (fun e=>aB.out.2.1.apart.1 e.symm)).trans (aB.out.2.2.2.2.block _ aJ)))).trans aF;have y1:=((World.cell?_of_block (a:=⟨w.heap.size+1,10,none⟩) ((hg.block _ (by have:=aB.out.2.2.2.2.size;show w.heap.size+1<_;omega) (fun e=>aB.out.2.1.apart.1 e.symm)).trans (aB.out.2.2.2.2.block _ aJ)))).trans z1;have bB:=((World.frozen?_of_block (a:=⟨w.heap.size+1,256,none⟩) ((hg.block _ (by have:=aB.out.2.2.2.2.size;show w.heap.size+1<_;omega) (fun e=>aB.out.2.1.apart.1 e.symm)).trans (aB.out.2.2.2.2.block _ aJ)))).trans aG;have g1:=((World.frozen?_of_block (a:=⟨w.heap.size+1,10,none⟩) ((hg.block _ (by have:=aB.out.2.2.2.2.size;show w.heap.size+1<_;omega) (fun e=>aB.out.2.1.apart.1 e.symm)).trans (aB.out.2.2.2.2.block _ aJ)))).trans f1;have aD:=Lq7 (fun cp=>Oh aB.out.1 aB.out.2.1 aB.out.2.2.1 aB.out.2.2.2.2 hown hg (fun g e=>by have:=hat g e;simpa using this) 10 cp (by decide) 110 rfl);have Hd:=Lq7 aB.out.2.2.2.1;clear hown hg hat ta tb z1 aF f1 aG Hn aB aQ aN;have k1:(Lib.bytesWorld (w1.setCell ⟨w.heap.size+1,256,none⟩ (.slice va 1 vc)) 5 ⟨#[92,110]⟩).cell? ⟨w.heap.size+1,10,none⟩=some (.slice none 0 0):=by
      rw[Lib.bytesWorld_old _ _ _ _ (by have:=Au y1;simpa using this),World.cell?_setCell_other _ _ _ _ (by simp)];exact y1
     have k2:(Lib.bytesWorld (w1.setCell ⟨w.heap.size+1,256,none⟩ (.slice va 1 vc)) 5 ⟨#[92,110]⟩).frozen? ⟨w.heap.size+1,10,none⟩=false:=by
      rw[World.frozen?_of_block (Lib.bytesWorld_at_old _ _ _ _ (by have:=Au y1;simpa using this)),World.frozen?_setCell];exact g1
     have HN:Hid (Ml w ((Lib.bytesWorld (w1.setCell ⟨w.heap.size+1,256,none⟩ (.slice va 1 vc)) 5 ⟨#[92,110]⟩).setCell ⟨w.heap.size+1,10,none⟩ (.slice (some ⟨w1.heap.size,0,none⟩) 2 (grownCap (w1.setCell ⟨w.heap.size+1,256,none⟩ (.slice va 1 vc)) 2 0 5))) 1):=Lq7 (by
      obtain⟨h1,Z',h2,h3⟩:=aD.out (grownCap (w1.setCell ⟨w.heap.size+1,256,none⟩ (.slice va 1 vc)) 2 0 5);exact⟨h1,Z',_,_,h2,by rw[List.map_cons,Hd.out];rfl,h3⟩)
     clear aD Hd y1 g1;go_wp2_with fail;go_roundw
     case rel=>exact .inr (.inl ⟨by go_num,HN⟩)
     case measure=>simp[intOf]
    ·obtain⟨hbw,Z,d,v,hI,hd,hx⟩:=aH.out;have ta:=(hbw.cell (p:=⟨ob,2,none⟩) (Au s2)).trans s2;have tb:=(hbw.cell (p:=⟨ob,3,none⟩) (Au s3)).trans s3;have aE:∀x∈d,x.1≠92:=fun x hm=>by
      have:x.1∈d.map (·.1):=List.mem_map_of_mem hm;rw[hd] at this;intro e;rw[e] at this;revert this
      decide
     obtain⟨aJ,aM,aN⟩:=A5 hI.blk;have z1:=(aM 92).trans (hI.each 92 (by decide));rw[M1 aE] at z1;have aF:=(aM 256).trans hI.last;have f1:=aN 92;have aG:=aN 256;have e1:((⟨#[92]⟩:ByteArray)[0]'(by decide)).toNat=92:=rfl;have bC:=hbw.size;have aQ:Below wr.heap.size wr ((wr.alloc (.cells #[.int .u8 92] 5)).alloc (.cells #[.string ⟨#[92]⟩] 9)):=((Below.refl _ wr).alloc (nlr _) _).alloc (by simp) _;have aC:=lit_one (wr.alloc (.cells #[.int .u8 92] 5)) (.string ⟨#[92]⟩) 9;rw[show(wr.alloc (.cells #[.int .u8 92] 5)).heap.size=wr.heap.size+1 by simp] at aC;have Hn:=Lq7 (aIn aC (hI.own.below aQ));have aB:=Lq7 (aIn hbw (aIn hI (aIn hx (aIn hd aQ))));clear hx hd hI aM aH hbw aE aC
     go_wp2_with (at_builtin;refine Ct rfl _ _ 40 rfl w.heap.size 9 i0 (.string ByteArray.empty) 1 16 Tryz.underlying40 hi bJ bL bM rfl (by decide) v 1 ((toRep.take 1).map Value.string) rfl Hn.out.2 ⟨wr.heap.size+1,0,none⟩ 1 1 [.string ⟨#[92]⟩] rfl rfl Hn.out.1 ?_ ?_ ?_ ?_ ?_)
     ·simp[Value.oneCell']
     ·unfold maxLen;decide
     ·decide
     ·simp;omega
     intro v' w1 hown' hg hat;have hown:OwnS w1 w.heap.size v' (toRep.take 2):=hown';have aW:=hown.strsAt;rw[show(toRep.take 2).length=2 from rfl] at aW;obtain⟨va,vc,aZ,-,-⟩:=aW;subst aZ;have bA:=((World.cell?_of_block (a:=⟨w.heap.size+1,256,none⟩) ((hg.block _ (by have:=aB.out.2.2.2.2.size;show w.heap.size+1<_;omega) (fun e=>aB.out.2.1.apart.1 e.symm)).trans (aB.out.2.2.2.2.block _ aJ)))).trans aF;have y1:=((World.cell?_of_block (a:=⟨w.heap.size+1,92,none⟩) ((hg.block _ (by have:=aB.out.2.2.2.2.size;show w.heap.size+1<_;omega) (fun e=>aB.out.2.1.apart.1 e.symm)).trans (aB.out.2.2.2.2.block _ aJ)))).trans z1;have bB:=((World.frozen?_of_block (a:=⟨w.heap.size+1,256,none⟩) ((hg.block _ (by have:=aB.out.2.2.2.2.size;show w.heap.size+1<_;omega) (fun e=>aB.out.2.1.apart.1 e.symm)).trans (aB.out.2.2.2.2.block _ aJ)))).trans aG;have g1:=((World.frozen?_of_block (a:=⟨w.heap.size+1,92,none⟩) ((hg.block _ (by have:=aB.out.2.2.2.2.size;show w.heap.size+1<_;omega) (fun e=>aB.out.2.1.apart.1 e.symm)).trans (aB.out.2.2.2.2.block _ aJ)))).trans f1;have aD:=Lq7 (fun cp=>Oh aB.out.1 aB.out.2.1 aB.out.2.2.1 aB.out.2.2.2.2 hown hg (fun g e=>by have:=hat g e;simpa using this) 92 cp (by decide) 92 rfl);have Hd:=Lq7 aB.out.2.2.2.1;clear hown hg hat ta tb z1 aF f1 aG Hn aB aQ aN;have k1:(Lib.bytesWorld (w1.setCell ⟨w.heap.size+1,256,none⟩ (.slice va 2 vc)) 5 ⟨#[92,92]⟩).cell? ⟨w.heap.size+1,92,none⟩=some (.slice none 0 0):=by
      rw[Lib.bytesWorld_old _ _ _ _ (by have:=Au y1;simpa using this),World.cell?_setCell_other _ _ _ _ (by simp)];exact y1
     have k2:(Lib.bytesWorld (w1.setCell ⟨w.heap.size+1,256,none⟩ (.slice va 2 vc)) 5 ⟨#[92,92]⟩).frozen? ⟨w.heap.size+1,92,none⟩=false:=by
      rw[World.frozen?_of_block (Lib.bytesWorld_at_old _ _ _ _ (by have:=Au y1;simpa using this)),World.frozen?_setCell];exact g1
     have HN:Hid (Ml w ((Lib.bytesWorld (w1.setCell ⟨w.heap.size+1,256,none⟩ (.slice va 2 vc)) 5 ⟨#[92,92]⟩).setCell ⟨w.heap.size+1,92,none⟩ (.slice (some ⟨w1.heap.size,0,none⟩) 2 (grownCap (w1.setCell ⟨w.heap.size+1,256,none⟩ (.slice va 2 vc)) 2 0 5))) 2):=Lq7 (by
      obtain⟨h1,Z',h2,h3⟩:=aD.out (grownCap (w1.setCell ⟨w.heap.size+1,256,none⟩ (.slice va 2 vc)) 2 0 5);exact⟨h1,Z',_,_,h2,by rw[List.map_cons,Hd.out];rfl,h3⟩)
     clear aD Hd y1 g1;go_wp2_with fail;go_roundw
     case rel=>exact .inr (.inr (.inl ⟨by go_num,HN⟩))
     case measure=>simp[intOf]
    ·obtain⟨hbw,Z,d,v,hI,hd,hx⟩:=aH.out;have ta:=(hbw.cell (p:=⟨ob,0,none⟩) (Au s0)).trans s0;have tb:=(hbw.cell (p:=⟨ob,1,none⟩) (Au s1)).trans s1;have aE:∀x∈d,x.1≠34:=fun x hm=>by
      have:x.1∈d.map (·.1):=List.mem_map_of_mem hm;rw[hd] at this;intro e;rw[e] at this;revert this
      decide
     obtain⟨aJ,aM,aN⟩:=A5 hI.blk;have z1:=(aM 34).trans (hI.each 34 (by decide));rw[M1 aE] at z1;have aF:=(aM 256).trans hI.last;have f1:=aN 34;have aG:=aN 256;have e1:((⟨#[34]⟩:ByteArray)[0]'(by decide)).toNat=34:=rfl;have bC:=hbw.size;have aQ:Below wr.heap.size wr ((wr.alloc (.cells #[.int .u8 34] 5)).alloc (.cells #[.string ⟨#[34]⟩] 9)):=((Below.refl _ wr).alloc (nlr _) _).alloc (by simp) _;have aC:=lit_one (wr.alloc (.cells #[.int .u8 34] 5)) (.string ⟨#[34]⟩) 9;rw[show(wr.alloc (.cells #[.int .u8 34] 5)).heap.size=wr.heap.size+1 by simp] at aC;have Hn:=Lq7 (aIn aC (hI.own.below aQ));have aB:=Lq7 (aIn hbw (aIn hI (aIn hx (aIn hd aQ))));clear hx hd hI aM aH hbw aE aC
     go_wp2_with (at_builtin;refine Ct rfl _ _ 40 rfl w.heap.size 9 i0 (.string ByteArray.empty) 1 16 Tryz.underlying40 hi bJ bL bM rfl (by decide) v 2 ((toRep.take 2).map Value.string) rfl Hn.out.2 ⟨wr.heap.size+1,0,none⟩ 1 1 [.string ⟨#[34]⟩] rfl rfl Hn.out.1 ?_ ?_ ?_ ?_ ?_)
     ·simp[Value.oneCell']
     ·unfold maxLen;decide
     ·decide
     ·simp;omega
     intro v' w1 hown' hg hat;have hown:OwnS w1 w.heap.size v' (toRep.take 3):=hown';have aW:=hown.strsAt;rw[show(toRep.take 3).length=3 from rfl] at aW;obtain⟨va,vc,aZ,-,-⟩:=aW;subst aZ;have bA:=((World.cell?_of_block (a:=⟨w.heap.size+1,256,none⟩) ((hg.block _ (by have:=aB.out.2.2.2.2.size;show w.heap.size+1<_;omega) (fun e=>aB.out.2.1.apart.1 e.symm)).trans (aB.out.2.2.2.2.block _ aJ)))).trans aF;have y1:=((World.cell?_of_block (a:=⟨w.heap.size+1,34,none⟩) ((hg.block _ (by have:=aB.out.2.2.2.2.size;show w.heap.size+1<_;omega) (fun e=>aB.out.2.1.apart.1 e.symm)).trans (aB.out.2.2.2.2.block _ aJ)))).trans z1;have bB:=((World.frozen?_of_block (a:=⟨w.heap.size+1,256,none⟩) ((hg.block _ (by have:=aB.out.2.2.2.2.size;show w.heap.size+1<_;omega) (fun e=>aB.out.2.1.apart.1 e.symm)).trans (aB.out.2.2.2.2.block _ aJ)))).trans aG;have g1:=((World.frozen?_of_block (a:=⟨w.heap.size+1,34,none⟩) ((hg.block _ (by have:=aB.out.2.2.2.2.size;show w.heap.size+1<_;omega) (fun e=>aB.out.2.1.apart.1 e.symm)).trans (aB.out.2.2.2.2.block _ aJ)))).trans f1;have aD:=Lq7 (fun cp=>Oh aB.out.1 aB.out.2.1 aB.out.2.2.1 aB.out.2.2.2.2 hown hg (fun g e=>by have:=hat g e;simpa using this) 34 cp (by decide) 34 rfl);have Hd:=Lq7 aB.out.2.2.2.1;clear hown hg hat ta tb z1 aF f1 aG Hn aB aQ aN;have k1:(Lib.bytesWorld (w1.setCell ⟨w.heap.size+1,256,none⟩ (.slice va 3 vc)) 5 ⟨#[92,34]⟩).cell? ⟨w.heap.size+1,34,none⟩=some (.slice none 0 0):=by
      rw[Lib.bytesWorld_old _ _ _ _ (by have:=Au y1;simpa using this),World.cell?_setCell_other _ _ _ _ (by simp)];exact y1
     have k2:(Lib.bytesWorld (w1.setCell ⟨w.heap.size+1,256,none⟩ (.slice va 3 vc)) 5 ⟨#[92,34]⟩).frozen? ⟨w.heap.size+1,34,none⟩=false:=by
      rw[World.frozen?_of_block (Lib.bytesWorld_at_old _ _ _ _ (by have:=Au y1;simpa using this)),World.frozen?_setCell];exact g1
     have HN:Hid (Ml w ((Lib.bytesWorld (w1.setCell ⟨w.heap.size+1,256,none⟩ (.slice va 3 vc)) 5 ⟨#[92,34]⟩).setCell ⟨w.heap.size+1,34,none⟩ (.slice (some ⟨w1.heap.size,0,none⟩) 2 (grownCap (w1.setCell ⟨w.heap.size+1,256,none⟩ (.slice va 3 vc)) 2 0 5))) 3):=Lq7 (by
      obtain⟨h1,Z',h2,h3⟩:=aD.out (grownCap (w1.setCell ⟨w.heap.size+1,256,none⟩ (.slice va 3 vc)) 2 0 5);exact⟨h1,Z',_,_,h2,by rw[List.map_cons,Hd.out];rfl,h3⟩)
     clear aD Hd y1 g1;go_wp2_with fail;go_roundw
     case rel=>exact .inr (.inr (.inr ⟨by go_num,HN⟩))
     case measure=>simp[intOf]
    ·have HF:=Lq7 aH.out;clear aH;go_wp2_with fail;refine bodyPost_ret (v:=.iface 271 (.pointer (some ⟨w.heap.size+1,0,none⟩))) (by simp[results,Tryz.results196,go_sem]) rfl ?_;obtain⟨h1,Z,d,v,h2,h3,h4⟩:=HF.out;obtain⟨-,aM,-⟩:=A5 h2.blk;exact⟨_,rfl,h1,d,v,fun c hc=>(aM c).trans (h2.each c hc),(aM 256).trans h2.last,h2.own,h3,fun x hx=>⟨(h4 x hx).1,(h4 x hx).2.1,(h4 x hx).2.2.1⟩,by omega⟩
theorem Mg(w):(callFunc 255 #[]).run Tryz.prog w = .ok (.value (.tuple #[])) w:=run_call_mark0 Tryz.func255 (by kernel_rfl) (by kernel_rfl) (by kernel_rfl) .disable (by kernel_rfl) w
theorem N0(w):(callFunc 257 #[]).run Tryz.prog w = .ok (.value (.tuple #[])) w:=run_call_mark0 Tryz.func257 (by kernel_rfl) (by kernel_rfl) (by kernel_rfl) .enable (by kernel_rfl) w
theorem Rt(a w):(callFunc 258 #[.pointer (some a)]).run Tryz.prog w = .ok (.value (.tuple #[])) w:=run_call_marked Tryz.func258 (by kernel_rfl) (by kernel_rfl) (by kernel_rfl) .acquire (by kernel_rfl) a w
theorem Ru(a w):(callFunc 260 #[.pointer (some a)]).run Tryz.prog w = .ok (.value (.tuple #[])) w:=run_call_marked Tryz.func260 (by kernel_rfl) (by kernel_rfl) (by kernel_rfl) .releaseMerge (by kernel_rfl) a w
theorem N1(a x u w)(hc:w.cell? a=some x)(hz:w.frozen? a=false):
  CallsD Tryz.prog 223 #[.pointer (some a),.bool true] u w fun e u' w'=>u'=u/\(e = .returned (.tuple #[])/\w'=w.drew.setCell a (.int .u32 1)):=by
 have hc':w.drew.cell? a=some x:=(by go_simp);have hz':w.drew.frozen? a=false:=(by go_simp);have hst:=run_call_store (P:=Tryz.prog) Tryz.func244 (by kernel_rfl) (by kernel_rfl) (by kernel_rfl) (by kernel_rfl) (k:=.u32) (y:=1) hc' hz'
 go_enter_d Tryz.func223,Tryz.ntmps223
 go_wp2
 go_region_calls
 all_goals (go_end0;exact⟨rfl,rfl⟩)
theorem Ms(a u w)(hc:w.cell? a=some (.int .i32 1))(hz:w.frozen? a=false):
  CallsD Tryz.prog 222 #[.pointer (some a)] u w fun e u' w'=>u'=u/\(e = .returned (.tuple #[])/\w'=w.setCell a (.int .i32 0)):=by
 have hd:=Mg;have he:=N0;have hr:=Ru;have hadd:=run_call_add (P:=Tryz.prog) Tryz.func261 (by kernel_rfl) (by kernel_rfl) (by kernel_rfl) .i32 (by kernel_rfl) (y:= -1) (s:=0) hc hz (by simp[go_sem];rfl);have hcv:=run_convert_to_unsafe (P:=Tryz.prog) (src:=305) (dst:=226) Tryz.underlying305 Tryz.underlying226 (by kernel_rfl) hc
 go_enter_d Tryz.func222,Tryz.ntmps222
 go_wp2
 go_end0
 go_wp2
 go_end0
 exact⟨rfl,rfl⟩
theorem Vy(a w)(hc:w.cell? a=some (.int .i32 0))(hz:w.frozen? a=false):
  Calls Tryz.prog 221 #[.pointer (some a)] w fun e w'=>e = .returned (.tuple #[])/\w'=w.setCell a (.int .i32 1):=by
 have hd:=Mg;have he:=N0;have ha:=Rt;have hcas:=run_call_cas_hit (P:=Tryz.prog) Tryz.func256 (by kernel_rfl) (by kernel_rfl) (by kernel_rfl) .i32 (by kernel_rfl) (y:=1) hc hz;have hc':(w.setCell a (.int .i32 1)).cell? a=some (.int .i32 1):=World.cell?_setCell_same w a _ hc;have hcv:=run_convert_to_unsafe (P:=Tryz.prog) (src:=305) (dst:=226) Tryz.underlying305 Tryz.underlying226 (by kernel_rfl) hc';go_enter Tryz.func221,Tryz.ntmps221;go_wp2
 first|go_end0|(simp only[Exit.inBlock,Exit.then];refine bodyPost_ret (results_none rfl _ _ _) rfl ?_)|refine bodyPost_ret (results_none rfl _ _ _) rfl ?_
 go_wp2
 go_end0
 exact⟨rfl,rfl⟩
theorem Pl(a x w)(hc:w.cell? a=some (.int .u32 x)):
  Calls Tryz.prog 194 #[.pointer (some a)] w fun e w'=>e = .returned (.bool (x != 0))/\w'=w:=by
 have hl:=run_call_load (P:=Tryz.prog) Tryz.func220 (by kernel_rfl) (by kernel_rfl) (by kernel_rfl) .u32 (by kernel_rfl) hc;go_enter Tryz.func194,Tryz.ntmps194;go_wp2;go_ret;exact⟨rfl,rfl⟩
def PBOnce(b n:Nat)(x1:Int)(w:World)(e:Ending)(w':World):Prop:=e = .returned (.tuple #[])/\∃rb,Below n w w'/\Fp w.heap.size w' rb/\RB w' b 0 x1 (.iface 271 (.pointer (some ⟨rb,0,none⟩))) (.slice none 0 0)
theorem Ov(b n)(hn:n<=b)(x1 ob oc w)(hnw:n<=w.heap.size)(h:RB w b 0 x1 .nilIface (.slice (some ⟨ob,0,none⟩) 6 oc))(hs:Dj w (some ⟨ob,0,none⟩) Dg):
  Calls Tryz.prog 146 #[.pointer (some ⟨b,0,none⟩)] w (PBOnce b n x1 w):=by
 have HB:=Lq7 (Xc b x1 ob oc w h hs);have H:=Lq7 h;go_enter Tryz.func146,Tryz.ntmps146;go_wp2_with fail;refine HB.out.mono ?_;rintro e w1 ⟨rb,rfl,aF,aB⟩;have H1:Hid (RB w1 b 0 x1 .nilIface (.slice (some ⟨ob,0,none⟩) 6 oc)):=Lq7 (stays H.out aF);obtain⟨q0,q1,q2,q3,q4,q5,q6,q7,q8,q9,q10⟩:=Aa H1.out;have hbl:=here H.out;have HR:=Lq7 (aIn (aF.mono hnw) (aIn aB (aIn H1.out hbl)));go_wp2_with fail;refine bodyPost_ret (results_none rfl _ _ _) rfl ?_;obtain⟨h1,h2,h3,h4⟩:=HR.out;refine⟨rfl,rb,(h1.setCell (p:=⟨b,3,none⟩) hn _).setCell (p:=⟨b,4,none⟩) hn _,h2.keep fun k hk hl=>?_,?_⟩
 ·rw[Ad (by omega),Ad (by omega)]
 ·unfold RB at h3 |-;rw[Ag (Ag h3 3 _) 4];rfl
def PSlow(b n:Nat)(w:World)(e:Ending)(w':World):Prop:=e = .returned (.tuple #[])/\∃rb,Below n w w'/\Fp w.heap.size w' rb/\RB w' b 1 0 (.iface 271 (.pointer (some ⟨rb,0,none⟩))) (.slice none 0 0)
theorem slow_any(b n)(hn:n<=b)(ob oc w)(hnw:n<=w.heap.size)(h:RB w b 0 0 .nilIface (.slice (some ⟨ob,0,none⟩) 6 oc))(hs:Dj w (some ⟨ob,0,none⟩) Dg)(hob:ob≠b):
  Calls Tryz.prog 195 #[.pointer (some ⟨b,0,none⟩),.func (.func 146) #[.pointer (some ⟨b,0,none⟩)] #[]] w (PSlow b n w):=by
 obtain⟨hbl,g0,g1,g2,g3,g4,k0,k1,k2,k3,k4⟩:=Aa h;have h1:RB (w.setCell ⟨b,1,none⟩ (.int .i32 1)) b 0 1 .nilIface (.slice (some ⟨ob,0,none⟩) 6 oc):=by
  unfold RB at h |-;rw[Ag h 1];rfl
 have hs1:Dj (w.setCell ⟨b,1,none⟩ (.int .i32 1)) (some ⟨ob,0,none⟩) Dg:=fun j x hj=>by
  obtain⟨b',off,e,hc⟩:=hs j x hj;cases e;exact⟨ob,0,rfl,(World.cell?_setCell_other _ _ _ _ (by simp[])).trans hc⟩
 have HD:=Lq7 (Pl ⟨b,0,none⟩ 0 (w.setCell ⟨b,1,none⟩ (.int .i32 1)) ((World.cell?_setCell_other _ ⟨b,1,none⟩ ⟨b,0,none⟩ _ (by simp)).trans g0));have aD:∀(x:Bool) (w:World),(Op.unary .not (.bool x)).run Tryz.prog w = .ok (.bool (!x)) w:=fun _ _=>rfl;have HB:=Lq7 (Ov b n hn 1 ob oc _ (by simpa using hnw) h1 hs1);have HL:=Lq7 (Vy ⟨b,1,none⟩ w g1 k1)
 go_enter_defers Tryz.func195,Tryz.ntmps195
 go_wp2_with fail;refine HL.out.mono ?_;rintro e w' ⟨rfl,rfl⟩;go_wp2_with fail;refine HD.out.mono ?_;rintro e w' ⟨rfl,rfl⟩;go_wp2_with fail;refine HB.out.mono ?_;rintro e w2 ⟨rfl,rb,aG,aB,aH⟩;have H2:=Lq7 (aIn aG (aIn aB aH));obtain⟨-,q0,q1,q2,q3,q4,l0,l1,l2,l3,l4⟩:=Aa aH;have hs2:w.heap.size<=w2.heap.size:=by
  have:=here h;have h3:=aB;obtain⟨d,v,-,-,-,-,-,h9⟩:=h3;have:=aG.size
  simpa using this
 go_wp2_with fail;refine leaves_cons (f:=223) (args:=#[.pointer (some ⟨b,0,none⟩),.bool true]) (by simp) (by simp[go_sem]) ?_;refine(N1 ⟨b,0,none⟩ (.int .u32 0) .returning _ q0 l0).mono ?_;rintro e u' w'' ⟨rfl,rfl,rfl⟩;refine leaves_cons (f:=222) (args:=#[.pointer (some ⟨b,1,none⟩)]) (by simp[settle]) (by simp[go_sem]) ?_;refine(Ms ⟨b,1,none⟩ _ _ ?_ (by simp[l1])).mono ?_
 ·refine(World.cell?_setCell_other _ ⟨b,0,none⟩ ⟨b,1,none⟩ _ (by simp)).trans ?_;rw[World.cell?_drew];exact q1
 rintro e u' w'' ⟨rfl,rfl,rfl⟩;have aE:∃rb,Below n w (((w2.drew).setCell ⟨b,0,none⟩ (.int .u32 1)).setCell ⟨b,1,none⟩ (.int .i32 0))/\Fp w.heap.size (((w2.drew).setCell ⟨b,0,none⟩ (.int .u32 1)).setCell ⟨b,1,none⟩ (.int .i32 0)) rb/\RB (((w2.drew).setCell ⟨b,0,none⟩ (.int .u32 1)).setCell ⟨b,1,none⟩ (.int .i32 0)) b 1 0 (.iface 271 (.pointer (some ⟨rb,0,none⟩))) (.slice none 0 0):=by
  obtain⟨h1,h2,h3⟩:=H2.out;have aC:Below n w (w.setCell ⟨b,1,none⟩ (.int .i32 1)):=(Below.refl n w).setCell (p:=⟨b,1,none⟩) hn _;have hd1:Below n w w2:=⟨h1.os.trans aC.os,h1.tape.trans aC.tape,h1.output.trans aC.output,nlt aC.size h1.size,fun k hk=>(h1.block k hk).trans (aC.block k hk)⟩;refine⟨rb,((hd1.drew).setCell (p:=⟨b,0,none⟩) hn _).setCell (p:=⟨b,1,none⟩) hn _,?_,?_⟩
  ·have h2':Fp w.heap.size w2 rb:=(by simpa using h2);refine h2'.keep fun k hk hl=>?_;rw[Ad (by omega),Ad (by omega)];rfl
  ·unfold RB at h3 |-;have h3':w2.drew.heap[b]? = _:=h3;rw[Ag (Ag h3' 0 _) 1];rfl
 have hf2:PSlow b n w (.returned (.tuple #[])) (((w2.drew).setCell ⟨b,0,none⟩ (.int .u32 1)).setCell ⟨b,1,none⟩ (.int .i32 0)):=⟨rfl,aE⟩
 simpa[Leaves,settle,results,Tryz.results195] using hf2
theorem once_any(b n)(hn:n<=b)(ob oc w)(hnw:n<=w.heap.size)(h:RB w b 0 0 .nilIface (.slice (some ⟨ob,0,none⟩) 6 oc))(hs:Dj w (some ⟨ob,0,none⟩) Dg)(hob:ob≠b):
  Calls Tryz.prog 145 #[.pointer (some ⟨b,0,none⟩),.func (.func 146) #[.pointer (some ⟨b,0,none⟩)] #[]] w (PSlow b n w):=by
 obtain⟨hbl,g0,-⟩:=Aa h;have aD:∀(x:Bool) (w:World),(Op.unary .not (.bool x)).run Tryz.prog w = .ok (.bool (!x)) w:=fun _ _=>rfl;have HD:=Lq7 (Pl ⟨b,0,none⟩ 0 w g0);have HS:=Lq7 (slow_any b n hn ob oc w hnw h hs hob);go_enter Tryz.func145,Tryz.ntmps145;go_wp2_with fail;refine HD.out.mono ?_;rintro e w' ⟨rfl,rfl⟩;go_wp2_with fail;refine HS.out.mono ?_;rintro e w2 ⟨rfl,hf⟩;go_wp2_with fail
 go_end0
 exact⟨rfl,hf⟩
end Go.Proofs.YtbcdimjbepigcaaGreatDoor
