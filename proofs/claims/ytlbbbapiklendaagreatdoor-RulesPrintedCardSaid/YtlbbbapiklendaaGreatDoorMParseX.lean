/-
  The walk of the parser's Read,where the lexer doesn't break off. (And what it stands on.)
-/
import Derived.Test.YtlbbbapiklendaaGreatDoorMRefNumB
namespace Go.Proofs.YtlbbbapiklendaaGreatDoor
open Go.IntKind renaming i64->B
open Go.Value renaming int->A,string->C,slice->E,pointer->F,agg->M
open Go.Obj renaming cells->J
open Option renaming some->I,none->D
open Go Go.RowKit
open List renaming mem_of_getElem? -> lgM,length_cons->lnC,length_nil->lnN,getElem?_eq_some_iff->lgS,length_append->lnA,setIfInBounds_toArray->laA,set_cons_zero->lsA,set_cons_succ->lsB
open Nat renaming le_refl->nlr
open Go.Lib renaming hid->Lq7
open Go.Act renaming put->aP
open Go.World renaming setCell->wsC
open Go.RowKit.Below renaming refl->bRf
open _root_.Array renaming getElem?_eq_some_iff->agS
set_option maxRecDepth 100000
set_option maxHeartbeats 16000000
def C4(W:World):List (Nat×Array Value×TypeId)->Prop
 | []=>True
 | (b,cs,T)::l=>W.heap[b]? = I (.cells cs T (0,0))/\C4 W l
theorem Jz{W}:∀ls:List (Nat×Array Value×TypeId),Locs W ls->C4 W ls
 | [],_=>trivial
 | (_,_,_)::l,h=>⟨h _ (.head _),Jz l fun x hx=>h x (.tail _ hx)⟩
def NeA(bp:Nat):List (Nat×Array Value×TypeId)->Prop
 | []=>True
 | (b,_,_)::l=>(bp≠b/\b≠bp)/\NeA bp l
theorem neA_of{bp}:∀ls:List (Nat×Array Value×TypeId),(∀x∈ls,bp≠x.1)->NeA bp ls
 | [],_=>trivial
 | (_,_,_)::l,h=>⟨⟨h _ (.head _),(h _ (.head _)).symm⟩,neA_of l fun x hx=>h x (.tail _ hx)⟩
section
variable {w W:World} {bp:Nat} {en:Int×Int} {ts:List Tok} {dp:Int} {ls:List (Nat×Array Value×TypeId)} {rows:List (Option Addr×List Nd)} {α β:Type} {z:PR β} {Q:Ending->World->Prop} {f:FuncId} {args:Array Value}
theorem PI.la(h:PI w bp en ts dp ls rows W):C4 W ls:=Jz _ h.locs
theorem PI.dn(h:PI w bp en ts dp ls rows W)(d:Int):PI w bp en ts d ls rows (W.setCell ⟨bp,3,D⟩ (A B d)):=by
 obtain⟨_,_,-,h2⟩:=h.down;exact h2 d
theorem bindDown{k:Unit->PM α}{ts:List Tok}{d:Int}:PM.bind pDown k ts (d+1)=k () ts d:=by
 show k () ts (d+1 - 1)=_;rw[Int.add_sub_cancel]
theorem PI.ne(h:PI w bp en ts dp ls rows W):∀x∈ls,bp≠x.1:=fun x hx e=>by have:=h.own x hx;have:=h.bpl;omega
theorem PI.alloc2{cs cs':Array Value}{T T':TypeId}(h:PI w bp en ts dp ls rows W):PI w bp en ts dp ((W.heap.size+1,cs',T')::(W.heap.size,cs,T)::ls) rows ((W.alloc (.cells cs T)).alloc (.cells cs' T')):=by
 have h2:=(h.alloc cs T).alloc cs' T'
 rwa [show(W.alloc (.cells cs T)).heap.size=W.heap.size+1 by simp] at h2
theorem Does.mkW{val:Nat->α->World->Value->Prop}{m:PM α}(h:∀w ts dp z,Hid (z=m ts dp)->Hid (z ≠ .out)->Hid (PI w bp en ts dp [] [] w)->0<=dp->dp<=1000->Calls Tryz.prog f #[F (I ⟨bp,0,D⟩)] w (PP bp en (val w.heap.size) z w)):Does f bp en val m:=
 fun w ts dp hp hd0 hd1 hr=>h w ts dp _ (Lq7 rfl) (Lq7 hr) (Lq7 (PI.start hp)) hd0 hd1
theorem cB{X:Value}(H:PI w bp en ts dp ls rows W)(Hc:Calls Tryz.prog f args W (fun e w'=>e = .returned X/\Below W.heap.size W w'))(k:∀W',Hid (PI w bp en ts dp ls rows W')->Q (.returned X) W'):Calls Tryz.prog f args W Q:=
 Hc.mono fun e w' ⟨he,hb⟩=>by subst he;exact k w' (Lq7 (H.below hb))
theorem gP{P:Prop}(h:P:=by first|exact H.out|exact H.out.alloc _ _|exact H.out.alloc2|exact H.out.lit1|exact H.out.lit2|exact H.out.lit2n|exact H.out.put4 0 rfl _ _ _ _|exact(H.out.dn _).alloc _ _):P:=h
theorem gQ{P:Prop}(h:P:=by first|exact H.out|exact H.out.lit1|exact H.out.lit2|exact H.out.lit2n|exact H.out.alloc _ _|exact H.out.put4 0 rfl _ _ _ _|exact H.out.put5 0 rfl _ _ _ _ _):P:=h
theorem cSign(n:Nat){l:List UInt8}(k:∀W' b,Az en ts n l=b->Hid (PI w bp en ts dp ls rows W')->Q (.returned (.bool b)) W')(H:PI w bp en ts dp ls rows W:=by exact gP)(hn:n<=1000:=by omega):Calls Tryz.prog 33 #[F (I ⟨bp,0,D⟩),A B n,C (bs l)] W Q:=
 cB H (Ir bp n (bs l) en ts dp W hn H.ps) fun W' h=>k W' _ rfl h
theorem cWord{l:List UInt8}(k:∀W' b,A5 en ts l=b->Hid (PI w bp en ts dp ls rows W')->Q (.returned (.bool b)) W')(H:PI w bp en ts dp ls rows W:=by exact gP):Calls Tryz.prog 65 #[F (I ⟨bp,0,D⟩),C (bs l)] W Q:=
 cB H (Mz bp (bs l) en ts dp W H.ps) fun W' h=>k W' _ rfl h
theorem cName(k:∀W' b,Bb en ts=b->Hid (PI w bp en ts dp ls rows W')->Q (.returned (.bool b)) W')(H:PI w bp en ts dp ls rows W:=by exact gP):Calls Tryz.prog 67 #[F (I ⟨bp,0,D⟩)] W Q:=
 cB H (M1 bp en ts dp W H.ps) fun W' h=>k W' _ rfl h
theorem cAt(k:∀W' t,A1 en ts 0=t->Hid (PI w bp en ts dp ls rows W')->Q (.returned (M #[A B t.kind,C t.text,A B t.line,A B t.col])) W')(H:PI w bp en ts dp ls rows W:=by exact gP):Calls Tryz.prog 64 #[F (I ⟨bp,0,D⟩),A B 0] W Q:=
 cB H (G7 bp 0 en ts dp W (by omega) H.ps) fun W' h=>k W' _ rfl h
theorem cP{val:α->World->Value->Prop}{m:PM α}{k:α->PM β}{d:Int}(nd:Int)(H:PI w bp en ts dp ls rows W)(Hc:m ts dp ≠ .out->Calls Tryz.prog f args W (PP bp en val (m ts dp) W))(Hr:Hid (z ≠ .out))(S:Hid (z=PM.bind m k ts dp))(hi:Inc d m)
  (hok:∀x ts' w' v,m ts dp = .ok x ts' nd->W.grownBy w' (I bp)->val x w' v->Hid (PI w bp en ts' nd ls rows w')->Hid (z=k x ts' nd)->Q (.returned v) w')
  (herr:∀a l c w',w.grownBy w' (I bp)->z = .err a l c->Q (.panicked [{ v:=Ei a l c,recovered:=false}]) w':=by intro a l c w' hg hf;exact⟨rfl,by rw[hf];exact⟨hg,rfl⟩⟩) (hd:nd=dp+d:=by omega):Calls Tryz.prog f args W Q:=
 Dl nd (Lq7 (Hc (Ga Hr S))) Hr S hi hd (fun hg hf=>herr _ _ _ _ (Ag H.grown hg) hf) fun x ts' w' v hm hg hps hv hs=>hok x ts' w' v hm hg hv (Lq7 (H.call hg hps)) hs
theorem cTake{k:Tok->PM β}(Hr:Hid (z ≠ .out))(S:Hid (z=PM.bind (A3 en true) k ts dp))(hok:∀x ts' w',Hid (PI w bp en ts' dp ls rows w')->Hid (z=k x ts' dp)->Q (.returned (M #[A B x.kind,C x.text,A B x.line,A B x.col])) w')(H:PI w bp en ts dp ls rows W:=by exact gP)
  (herr:∀a l c w',w.grownBy w' (I bp)->z = .err a l c->Q (.panicked [{ v:=Ei a l c,recovered:=false}]) w':=by intro a l c w' hg hf;exact⟨rfl,by rw[hf];exact⟨hg,rfl⟩⟩):Calls Tryz.prog 66 #[F (I ⟨bp,0,D⟩),.bool true] W Q:=
 cP dp H (D3 bp true en ts dp W H.ps) Hr S (Inc.take _) (fun x ts' w' v _ _ hv hp hs=>by cases hv;exact hok x ts' w' hp hs) herr
theorem cTakeG{is:Bool}{k:Tok->PM β}(Hr:Hid (z ≠ .out))(S:Hid (z=PM.bind (A3 en is) k ts dp))(hok:∀x ts' w',Hid (PI w bp en ts' dp ls rows w')->Hid (z=k x ts' dp)->Q (.returned (M #[A B x.kind,C x.text,A B x.line,A B x.col])) w')(H:PI w bp en ts dp ls rows W:=by exact gP)
  (herr:∀a l c w',w.grownBy w' (I bp)->z = .err a l c->Q (.panicked [{ v:=Ei a l c,recovered:=false}]) w':=by intro a l c w' hg hf;exact⟨rfl,by rw[hf];exact⟨hg,rfl⟩⟩):Calls Tryz.prog 66 #[F (I ⟨bp,0,D⟩),.bool is] W Q:=
 cP dp H (D3 bp is en ts dp W H.ps) Hr S (Inc.take _) (fun x ts' w' v _ _ hv hp hs=>by cases hv;exact hok x ts' w' hp hs) herr
theorem cTakeF{k:Tok->PM β}(Hr:Hid (z ≠ .out))(S:Hid (z=PM.bind (A3 en false) k ts dp))(H:PI w bp en ts dp ls rows W:=by exact gP)
  (herr:∀a l c w',w.grownBy w' (I bp)->z = .err a l c->Q (.panicked [{ v:=Ei a l c,recovered:=false}]) w':=by intro a l c w' hg hf;exact⟨rfl,by rw[hf];exact⟨hg,rfl⟩⟩):Calls Tryz.prog 66 #[F (I ⟨bp,0,D⟩),.bool false] W Q:=
 cP dp H (D3 bp false en ts dp W H.ps) Hr S (Inc.take _) (fun x ts' w' v hm _ _ _ _=>by cases hm) herr
theorem cEat{l:List UInt8}{k:Unit->PM β}(Hr:Hid (z ≠ .out))(S:Hid (z=PM.bind (C2 en l) k ts dp))(hok:∀ts' w',Hid (PI w bp en ts' dp ls rows w')->Hid (z=k () ts' dp)->Q (.returned (.tuple #[])) w')(H:PI w bp en ts dp ls rows W:=by exact gP)
  (herr:∀a l c w',w.grownBy w' (I bp)->z = .err a l c->Q (.panicked [{ v:=Ei a l c,recovered:=false}]) w':=by intro a l c w' hg hf;exact⟨rfl,by rw[hf];exact⟨hg,rfl⟩⟩):Calls Tryz.prog 72 #[F (I ⟨bp,0,D⟩),C (bs l)] W Q:=
 cP dp H (Jy bp (bs l) en ts dp W H.ps) Hr S (Inc.eat _) (fun x ts' w' v _ _ hv hp hs=>by cases hv;exact hok ts' w' hp hs) herr
theorem cClose{l:List UInt8}{k:Unit->PM β}(Hr:Hid (z ≠ .out))(S:Hid (z=PM.bind (Dh en l) k ts (dp+1)))(hok:∀ts' w',Hid (PI w bp en ts' dp ls rows w')->Hid (z=k () ts' dp)->Q (.returned (.tuple #[])) w')(H:PI w bp en ts (dp+1) ls rows W:=by exact gP)(h0:0<=dp+1:=by omega)(h1:dp+1<=1000:=by omega)
  (herr:∀a l c w',w.grownBy w' (I bp)->z = .err a l c->Q (.panicked [{ v:=Ei a l c,recovered:=false}]) w':=by intro a l c w' hg hf;exact⟨rfl,by rw[hf];exact⟨hg,rfl⟩⟩):Calls Tryz.prog 114 #[F (I ⟨bp,0,D⟩),C (bs l)] W Q:=
 cP dp H (Aa7 bp (bs l) en ts (dp+1) W h0 h1 H.ps) Hr S (Inc.close _) (fun x ts' w' v _ _ hv hp hs=>by cases hv;exact hok ts' w' hp hs) herr
theorem cOpen{is:Bool}{k:Tok->PM β}(Hr:Hid (z ≠ .out))(S:Hid (z=PM.bind (Dc en is) k ts dp))(hok:∀x ts' w',dp<60->Hid (PI w bp en ts' (dp+1) ls rows w')->Hid (z=k x ts' (dp+1))->Q (.returned (M #[A B x.kind,C x.text,A B x.line,A B x.col])) w')(H:PI w bp en ts dp ls rows W:=by exact gP)(h0:0<=dp:=by omega)(h1:dp<=1000:=by omega)
  (herr:∀a l c w',w.grownBy w' (I bp)->z = .err a l c->Q (.panicked [{ v:=Ei a l c,recovered:=false}]) w':=by intro a l c w' hg hf;exact⟨rfl,by rw[hf];exact⟨hg,rfl⟩⟩):Calls Tryz.prog 113 #[F (I ⟨bp,0,D⟩),.bool is] W Q:=
 cP (dp+1) H (Vs bp is en ts dp W h0 h1 H.ps) Hr S (Inc.open _) (fun x ts' w' v hm _ hv hp hs=>by cases hv;exact hok x ts' w' (open_lt hm) hp hs) herr
theorem cOpenF{k:Tok->PM β}(Hr:Hid (z ≠ .out))(S:Hid (z=PM.bind (Dc en false) k ts dp))(H:PI w bp en ts dp ls rows W:=by exact gP)(h0:0<=dp:=by omega)(h1:dp<=1000:=by omega)
  (herr:∀a l c w',w.grownBy w' (I bp)->z = .err a l c->Q (.panicked [{ v:=Ei a l c,recovered:=false}]) w':=by intro a l c w' hg hf;exact⟨rfl,by rw[hf];exact⟨hg,rfl⟩⟩):Calls Tryz.prog 113 #[F (I ⟨bp,0,D⟩),.bool false] W Q:=
 cP (dp+1) H (Vs bp false en ts dp W h0 h1 H.ps) Hr S (Inc.open _) (fun x ts' w' v hm _ _ _ _=>by cases hm) herr
structure DN(f bp:Nat)(en:Int×Int)(m:PM Nd):Prop where
 does:Does f bp en VNode m
 inc:Inc 0 m
structure DR(f bp:Nat)(en:Int×Int)(m:PM (List Nd)):Prop where
 does:Does f bp en VRow m
 inc:Inc 0 m
 few:∀ts d l ts' d',m ts d = .ok l ts' d'->l≠[]/\l.length<=2
structure DC(f bp:Nat)(en:Int×Int)(m:PM (List Nd)):Prop where
 does:∀bb w ts dp,w.heap[bb]? = I (J #[F (I ⟨bp,0,D⟩)] 62 (0,0))->PS w bp en ts dp->0<=dp->dp<=1000->m ts dp ≠ .out->Calls Tryz.prog f #[F (I ⟨bb,0,D⟩)] w (PP bp en (VRow w.heap.size) (m ts dp) w)
 inc:Inc 0 m
 few:∀ts d l ts' d',m ts d = .ok l ts' d'->l≠[]/\l.length<=2
 enter:∀(args:Array Value) (w:World),(callFunc f args).run Tryz.prog w = .ok (.enter f args) w
theorem M4{m:PM Nd}{k:Nd->PM β}(hx:DN f bp en m)(Hr:Hid (z ≠ .out))(S:Hid (z=PM.bind m k ts dp))
  (hok:∀xk xt xl xc xs a cap ts' w',Hid (PI w bp en ts' dp ls ((a,xs)::rows) w')->Hid (z=k (.mk xk xt xl xc xs) ts' dp)->Hid (F5 xk=true->xs.length<=cap)->Q (.returned (M #[A B xk,C xt,A B xl,A B xc,E a xs.length cap])) w')
  (H:PI w bp en ts dp ls rows W:=by exact gP) (hd0:0<=dp:=by omega) (hd1:dp<=1000:=by omega)
  (herr:∀a l c w',w.grownBy w' (I bp)->z = .err a l c->Q (.panicked [{ v:=Ei a l c,recovered:=false}]) w':=by intro a l c w' hg hf;exact⟨rfl,by rw[hf];exact⟨hg,rfl⟩⟩):Calls Tryz.prog f #[F (I ⟨bp,0,D⟩)] W Q:=
 cP dp H (hx.does W ts dp H.ps hd0 hd1) Hr S hx.inc (fun x ts' w' v _ hg hv hp hs=>by
  obtain⟨xk,xt,xl,xc,xs⟩:=x;have hv:A7 (fun b=>W.heap.size<=b) w' (.mk xk xt xl xc xs) v:=hv;obtain⟨a,cap,rfl,hrow⟩:=A7.open hv;exact hok xk xt xl xc xs a cap ts' w' (Lq7 (hp.out.row hrow H.grown.size H.lt)) hs (Lq7 (A7.cap hv))) herr
theorem cRow{m:PM (List Nd)}{k:List Nd->PM β}(H:PI w bp en ts dp ls rows W)(Hc:m ts dp ≠ .out->Calls Tryz.prog f args W (PP bp en (VRow W.heap.size) (m ts dp) W))(hi:Inc 0 m)(Hr:Hid (z ≠ .out))(S:Hid (z=PM.bind m k ts dp))
  (hok:∀x a cap ts' w',Hid (PI w bp en ts' dp ls ((a,x)::rows) w')->Hid (z=k x ts' dp)->Q (.returned (E a x.length cap)) w')
  (herr:∀a l c w',w.grownBy w' (I bp)->z = .err a l c->Q (.panicked [{ v:=Ei a l c,recovered:=false}]) w':=by intro a l c w' hg hf;exact⟨rfl,by rw[hf];exact⟨hg,rfl⟩⟩):Calls Tryz.prog f args W Q:=
 cP dp H Hc Hr S hi (fun x ts' w' v _ hg hv hp hs=>by
  obtain⟨a,cap,rfl,hrow⟩:=hv;exact hok x a cap ts' w' (Lq7 (hp.out.row hrow H.grown.size H.lt)) hs) herr
theorem cList{m:PM (List Nd)}{k:List Nd->PM β}{l:List UInt8}{bb:Nat}(hx:DC f bp en m)(Hr:Hid (z ≠ .out))(S:Hid (z=PM.bind (Ct en l m) k ts dp))
  (hok:∀x a cap ts' w',Hid (PI w bp en ts' dp ls ((a,x)::rows) w')->Hid (z=k x ts' dp)->Q (.returned (E a x.length cap)) w')
  (H:PI w bp en ts dp ls rows W:=by exact gP) (hb:(bb,#[F (I ⟨bp,0,D⟩)],62)∈ls:=by simp) (hd0:0<=dp:=by omega) (hd1:dp<=1000:=by omega)
  (herr:∀a l c w',w.grownBy w' (I bp)->z = .err a l c->Q (.panicked [{ v:=Ei a l c,recovered:=false}]) w':=by intro a l c w' hg hf;exact⟨rfl,by rw[hf];exact⟨hg,rfl⟩⟩):Calls Tryz.prog 115 #[F (I ⟨bp,0,D⟩),C (bs l),.func (.func f) #[] #[F (I ⟨bb,0,D⟩)]] W Q:=
 cRow H (Vu bp (bs l) f #[] #[F (I ⟨bb,0,D⟩)] m en ts dp W hd0 hd1 H.ps hx.enter (fun w1 ts1 hg hp' hr'=>hx.does bb w1 ts1 dp (H.later hg hb) hp' hd0 hd1 hr') hx.inc hx.few) (Inc.list hx.inc) Hr S hok herr
theorem cListM{m:PM (List Nd)}{k:List Nd->PM β}{l:List UInt8}(hx:DR f bp en m)(Hr:Hid (z ≠ .out))(S:Hid (z=PM.bind (Ct en l m) k ts dp))
  (hok:∀x a cap ts' w',Hid (PI w bp en ts' dp ls ((a,x)::rows) w')->Hid (z=k x ts' dp)->Q (.returned (E a x.length cap)) w')
  (H:PI w bp en ts dp ls rows W:=by exact gP) (he:∀(args:Array Value) (w:World),(callFunc f args).run Tryz.prog w = .ok (.enter f args) w:=by intro args w;rfl) (hd0:0<=dp:=by omega) (hd1:dp<=1000:=by omega)
  (herr:∀a l c w',w.grownBy w' (I bp)->z = .err a l c->Q (.panicked [{ v:=Ei a l c,recovered:=false}]) w':=by intro a l c w' hg hf;exact⟨rfl,by rw[hf];exact⟨hg,rfl⟩⟩):Calls Tryz.prog 115 #[F (I ⟨bp,0,D⟩),C (bs l),.func (.func f) #[F (I ⟨bp,0,D⟩)] #[]] W Q:=
 cRow H (Vu bp (bs l) f #[F (I ⟨bp,0,D⟩)] #[] m en ts dp W hd0 hd1 H.ps he (fun w1 ts1 _hg hp' hr'=>hx.does w1 ts1 dp hp' hd0 hd1 hr') hx.inc hx.few) (Inc.list hx.inc) Hr S hok herr
theorem cStmts{L:Lvl}{k:List Nd->PM β}{l:List UInt8}(hL:I0 L)(hx:DN 34 bp en L.stmt)(Hr:Hid (z ≠ .out))(S:Hid (z=PM.bind (Cp en L l) k ts dp))
  (hok:∀x a cap ts' w',Hid (PI w bp en ts' dp ls ((a,x)::rows) w')->Hid (z=k x ts' dp)->Q (.returned (E a x.length cap)) w')
  (H:PI w bp en ts dp ls rows W:=by exact gP) (hd0:0<=dp:=by omega) (hd1:dp<=1000:=by omega)
  (herr:∀a l c w',w.grownBy w' (I bp)->z = .err a l c->Q (.panicked [{ v:=Ei a l c,recovered:=false}]) w':=by intro a l c w' hg hf;exact⟨rfl,by rw[hf];exact⟨hg,rfl⟩⟩):Calls Tryz.prog 19 #[F (I ⟨bp,0,D⟩),C (bs l)] W Q:=
 cRow H (Sc bp (bs l) en L hL hx.does W ts dp H.ps hd0 hd1) (Inc.stmts hL _) Hr S hok herr
theorem rgn{ops:Array Oper}{Q:Exit->Act->World->Prop}{id:Nat}{a:Act}(l:Tu)(fin:Nat)(k:∀W',Hid (PI w bp en ts dp ls rows W')->Ak Tryz.prog ops (fun W'=>C4 W' ls) Q fin l a W')(H:PI w bp en ts dp ls rows W:=by exact gP)(hm:(Tryz.prog).follows .mixedOrders=true:=by kernel_rfl)
  (hB:(Region.noSelect ops&&Cu .any ops fin l (Array.replicate ops.size false)&&decide (l.deep<=ops.size))=true:=by decide +kernel)
  (hQ:∀c a d v w,Q (.panic c) (a.put d v) w->Q (.panic c) a w:=by intro c a d v w h;cases d<;>exact h):(Code.region id ops true).wp Tryz.prog Q a W:=
 Bm l fin _ H.drew.la (k _ (Lq7 H.drew)) hm hB hQ
theorem tS{ops:Array Oper}{Q:Exit->Act->World->Prop}{fin i:Nat}{o:Oper}{rest:Tu}{a a':Act}{v:Value}(h:Ak Tryz.prog ops (fun W'=>C4 W' ls) Q fin rest a' W)(ho:ops[i]? = I o:=by rfl)(hw:Region.wanted o (yielded ops a.tmps)=true:=by rfl)
  (hv:∀W',C4 W' ls->(execOp a.eval o).run Tryz.prog W' = .ok (.value v) W':=by intro W' hS;(repeat (obtain⟨h,hS⟩:=hS;obtain⟨_,h1,h2⟩:=Ao h;clear h));clear hS;go_simp;try rfl)
  (ha:a.put o.dst v=a':=by(try simp only[gX,Go.Act.put]);rfl):Ak Tryz.prog ops (fun W'=>C4 W' ls) Q fin (.s i rest) a W:=Bp v hv h ho hw ha
theorem PI.lit1{T:TypeId}{k l c:Int}{t:ByteArray}{a:Option Addr}{cap:Nat}{kids:List Nd}(h:PI w bp en ts dp ls rows W)(hr:(a,kids)∈rows:=by simp)(hc:F5 k=true->kids.length<=cap:=by first|(refine Hid.out ?_;assumption)|(intro h6;exact absurd h6 (by decide))):
  PI w bp en ts dp ls ((I ⟨W.heap.size,0,D⟩,[.mk k t l c kids])::rows) (W.alloc (J #[A B k,C t,A B l,A B c,E a kids.length cap] T)):=
 h.lit T [[A B k,C t,A B l,A B c,E a kids.length cap]] _ rfl (by simp) rfl (fun j n d hj hd=>by
  have:=(lgS.1 hd).1;simp only[lnC,lnN] at this;obtain rfl:j=0:=(by omega);simp at hj hd;subst hj hd;exact⟨_,_,_,_,_,_,_,rfl,rfl,.inl hr⟩) ⟨hc,trivial⟩
theorem PI.lit2{T:TypeId}{k l c k' l' c':Int}{t t':ByteArray}{a a':Option Addr}{cap cap':Nat}{kids kids':List Nd}(h:PI w bp en ts dp ls rows W)(hr:(a,kids)∈rows\/kids=[]:=by first|(refine .inl ?_;simp;done)|exact .inr rfl)(hr':(a',kids')∈rows\/kids'=[]:=by first|(refine .inl ?_;simp;done)|exact .inr rfl)
  (hc:F5 k=true->kids.length<=cap:=by first|(refine Hid.out ?_;assumption)|(intro h6;exact absurd h6 (by decide))) (hc':F5 k'=true->kids'.length<=cap':=by first|(refine Hid.out ?_;assumption)|(intro h6;exact absurd h6 (by decide))):
  PI w bp en ts dp ls ((I ⟨W.heap.size,0,D⟩,[.mk k t l c kids,.mk k' t' l' c' kids'])::rows) (W.alloc (J #[A B k,C t,A B l,A B c,E a kids.length cap,A B k',C t',A B l',A B c',E a' kids'.length cap'] T)):=
 h.lit T [[A B k,C t,A B l,A B c,E a kids.length cap],[A B k',C t',A B l',A B c',E a' kids'.length cap']] _ rfl (by simp) rfl (fun j n d hj hd=>by
  have:=(lgS.1 hd).1;simp only[lnC,lnN] at this;obtain rfl|rfl:j=0\/j=1:=by omega
  ·simp at hj hd;subst hj hd;exact⟨_,_,_,_,_,_,_,rfl,rfl,hr⟩
  ·simp at hj hd;subst hj hd;exact⟨_,_,_,_,_,_,_,rfl,rfl,hr'⟩) ⟨hc,hc',trivial⟩
theorem PI.lit2n{T:TypeId}{k l c k' l' c':Int}{t t':ByteArray}{a':Option Addr}{cap':Nat}{kids':List Nd}(h:PI w bp en ts dp ls rows W)(hr':(a',kids')∈rows:=by simp)(hc':F5 k'=true->kids'.length<=cap':=by first|(refine Hid.out ?_;assumption)|(intro h6;exact absurd h6 (by decide))):
  PI w bp en ts dp ls ((I ⟨W.heap.size,0,D⟩,[.mk k t l c [],.mk k' t' l' c' kids'])::rows) (W.alloc (J #[A B k,C t,A B l,A B c,E D 0 0,A B k',C t',A B l',A B c',E a' kids'.length cap'] T)):=
 PI.lit2 (a:=D) (kids:=[]) (cap:=0) h (.inr rfl) (.inl hr') (fun _=>nlr _) hc'
theorem cNd{kind:Int}{t:Tok}{s:ByteArray}{a:Option Addr}{n cap:Nat}(k:∀W',Hid (PI w bp en ts dp ls rows W')->Q (.returned (M #[A B kind,C s,A B t.line,A B t.col,E a n cap])) W')(H:PI w bp en ts dp ls rows W:=by exact gQ):
  Calls Tryz.prog 18 #[A B kind,M #[A B t.kind,C t.text,A B t.line,A B t.col],C s,E a n cap] W Q:=cB H (F9 kind t s a n cap W) k
theorem pret{fn:Func}{i b:Nat}{T:TypeId}{x0 x1 x2 x3 x4:Value}{k l c:Int}{t:ByteArray}{kids:List Nd}{ar:Option Addr}{n cap:Nat}{z:PR Nd}{tm:Array Value}(S:Hid (z=PM.pure (.mk k t l c kids) ts dp))(j:Nat)(H:PI w bp en ts dp ls rows W:=by exact gQ)(hj:ls[j]? = I (b,#[x0,x1,x2,x3,x4],T):=by rfl)
  (hn:n=kids.length:=by rfl) (hr:(ar,kids)∈rows\/kids=[]:=by first|(refine .inl ?_;simp;done)|exact .inr rfl) (hc:F5 k=true->kids.length<=cap:=by first|(refine Hid.out ?_;assumption)|(intro h6;exact absurd h6 (by decide)))
  (hf:fn.results=#[.cell i 27]:=by rfl) (ht:tm.getD i undef = F (I ⟨b,0,D⟩):=by rfl):
  bodyPost Tryz.prog fn (PP bp en (VNode w.heap.size) z w) .ret ⟨tm,[]⟩ (((((W.setCell ⟨b,0,D⟩ (A B k)).setCell ⟨b,1,D⟩ (C t)).setCell ⟨b,2,D⟩ (A B l)).setCell ⟨b,3,D⟩ (A B c)).setCell ⟨b,4,D⟩ (E ar n cap)):=by
 have G:=H.put5 j hj (A B k) (C t) (A B l) (A B c) (E ar n cap);rw[Array.getD_eq_getD_getElem?] at ht;have hb:ls[j]? = I (b,#[x0,x1,x2,x3,x4],T):=hj;obtain⟨r0,r1,r2,r3,r4,r5,-⟩:=Aa (H.locs _ (lgM hb));refine bodyPost_ret (v:=M #[A B k,C t,A B l,A B c,E ar n cap]) (by simp[results,hf,go_sem,ht,r1,r2,r3,r4,r5]) rfl ?_;rw[S.out];subst hn;rcases hr with hr|rfl
 ·exact⟨G.grown,G.ps,_,rfl,A7.mk _ _ _ _ _ (G.hand hr) hc⟩
 ·exact⟨G.grown,G.ps,_,rfl,A7.mk _ _ _ _ _ (Ac.nil _) hc⟩
theorem tH{ops:Array Oper}{Q:Exit->Act->World->Prop}{fin i:Nat}{o:Oper}{rest:Tu}{a:Act}{l0:List (Nat×Array Value×TypeId)}(k:∀W',Hid (PI w bp en ts dp ls rows W')->∀K:Act->World->Prop,(∀a2 w2,(i≠fin->C4 w2 l0)->Ak Tryz.prog ops (fun W'=>C4 W' l0) Q fin rest a2 w2->K a2 w2)->wpList Tryz.prog ops (Exit.then K Q) [o] a W')
  (H:PI w bp en ts dp ls rows W:=by exact gQ) (ho:ops[i]? = I o:=by rfl):Ak Tryz.prog ops (fun W'=>C4 W' l0) Q fin (.h i rest) a W:=Ae ho (k W (Lq7 H))
theorem tB{ops:Array Oper}{Q:Exit->Act->World->Prop}{fin i j:Nat}{o o':Oper}{t u:Tu}{a:Act}{l0:List (Nat×Array Value×TypeId)}(k:∀W',Hid (PI w bp en ts dp ls rows W')->∀K:Act->World->Prop,(∀a2 w2,(i≠fin->C4 w2 l0)->Ak Tryz.prog ops (fun W'=>C4 W' l0) Q fin t a2 w2->K a2 w2)->wpList Tryz.prog ops (Exit.then K Q) [o] a W')
  (k':∀W',Hid (PI w bp en ts dp ls rows W')->∀K:Act->World->Prop,(∀a2 w2,(j≠fin->C4 w2 l0)->Ak Tryz.prog ops (fun W'=>C4 W' l0) Q fin u a2 w2->K a2 w2)->wpList Tryz.prog ops (Exit.then K Q) [o'] a W')
  (H:PI w bp en ts dp ls rows W:=by exact gQ) (ho:ops[i]? = I o:=by rfl) (ho':ops[j]? = I o':=by rfl):Ak Tryz.prog ops (fun W'=>C4 W' l0) Q fin (.b i t j u) a W:=Dz ho ho' (k W (Lq7 H)) (k' W (Lq7 H))
theorem pretR{z:PR (List Nd)}{l:List Nd}{a:Option Addr}{n cap:Nat}(S:Hid (z=PM.pure l ts dp))(H:PI w bp en ts dp ls rows W:=by exact gQ)(hn:n=l.length:=by rfl)(hr:(a,l)∈rows:=by simp[Aj]):PP bp en (VRow w.heap.size) z w (.returned (E a n cap)) W:=by
 rw[S.out];subst hn;exact⟨H.grown,H.ps,_,rfl,_,_,rfl,H.hand hr⟩
def Go(P:Prop):Prop:=P
theorem goM{P:Prop}(h:Go P):P:=h
theorem goO{P:Prop}(h:P):Go P:=h
def GoN(P:Prop):Prop:=P
theorem goN{P:Prop}(h:GoN P):P:=h
theorem goP{P:Prop}(h:P):GoN P:=h
theorem drv{P:Prop}(h:P:=by
 repeat' first
  | ((with_reducible refine goO ?_);((try simp only[pLook,Bool.true_or,Bool.false_or,Bool.or_false,Bool.true_and,Bool.false_and,Bool.and_true,Bool.and_false,Bool.false_eq_true,if_true,if_false,beq_iff_eq] at S);((have hS:=H.out.la);(try (obtain⟨e,hS⟩:=hS;obtain⟨g0,e0,f0⟩:=Ao e;clear e));(try (obtain⟨e,hS⟩:=hS;obtain⟨g1,e1,f1⟩:=Ao e;clear e));(try (obtain⟨e,hS⟩:=hS;obtain⟨g2,e2,f2⟩:=Ao e;clear e));(try (obtain⟨e,hS⟩:=hS;obtain⟨g3,e3,f3⟩:=Ao e;clear e));clear hS;obtain⟨_,_,e,-⟩:=H.out.down;obtain⟨g9,e9,f9⟩:=Ao e;clear e;have k0:=F8;have k1:=tok_text;go_wp2_with fail;all_goals ((try clear e9 f9 g9);(try clear k0 k1);(try clear e0 f0 g0);(try clear e1 f1 g1);(try clear e2 f2 g2);(try clear e3 f3 g3)))))
  | ((with_reducible refine goP ?_);((have hS:=H.out.la);(try (obtain⟨e,hS⟩:=hS;obtain⟨g0,e0,f0⟩:=Ao e;clear e));(try (obtain⟨e,hS⟩:=hS;obtain⟨g1,e1,f1⟩:=Ao e;clear e));(try (obtain⟨e,hS⟩:=hS;obtain⟨g2,e2,f2⟩:=Ao e;clear e));(try (obtain⟨e,hS⟩:=hS;obtain⟨g3,e3,f3⟩:=Ao e;clear e));clear hS;have hN:=neA_of _ H.out.ne;(try obtain⟨⟨n0,m0⟩,hN⟩:=hN);(try obtain⟨⟨n1,m1⟩,hN⟩:=hN);(try obtain⟨⟨n2,m2⟩,hN⟩:=hN);(try obtain⟨⟨n3,m3⟩,hN⟩:=hN);(try clear hN);obtain⟨_,_,e,-⟩:=H.out.down;obtain⟨g9,e9,f9⟩:=Ao e;clear e;have k0:=F8;have k1:=tok_text;go_wp2_with fail;all_goals ((try clear n0 m0);(try clear n1 m1);(try clear n2 m2);(try clear n3 m3);(try clear e9 f9 g9);(try clear k0 k1);(try clear e0 f0 g0);(try clear e1 f1 g1);(try clear e2 f2 g2);(try clear e3 f3 g3))))
  | ((with_reducible show Calls _ 33 _ _ _);(first|((with_reducible show Calls _ _ #[_,.int _ 0,_] _ _);refine cSign 0 ?_)|refine cSign 1 ?_);intro V b h H;first|(simp only[*] at h;subst h;refine goM ?_)|(cases b<;>(try simp only[pLook,Bool.true_or,Bool.false_or,Bool.or_false,Bool.true_and,Bool.false_and,Bool.and_true,Bool.and_false,Bool.false_eq_true,if_true,if_false,beq_iff_eq,h] at S)<;>refine goM ?_))
  | ((with_reducible show Calls _ 65 _ _ _);refine cWord ?_;intro V b h H;first|(simp only[*] at h;subst h;refine goM ?_)|(cases b<;>(try simp only[pLook,Bool.true_or,Bool.false_or,Bool.or_false,Bool.true_and,Bool.false_and,Bool.and_true,Bool.and_false,Bool.false_eq_true,if_true,if_false,beq_iff_eq,h] at S)<;>refine goM ?_))
  | ((with_reducible show Calls _ 67 _ _ _);refine cName ?_;intro V b h H;first|(simp only[*] at h;subst h;refine goM ?_)|(cases b<;>(try simp only[pLook,Bool.true_or,Bool.false_or,Bool.or_false,Bool.true_and,Bool.false_and,Bool.and_true,Bool.and_false,Bool.false_eq_true,if_true,if_false,beq_iff_eq,h] at S)<;>refine goM ?_))
  | ((with_reducible show Calls _ 64 _ _ _);refine cAt ?_;intro V t h H;subst h;refine goM ?_)
  | (simp only[pLook,Bool.true_or,Bool.false_or,Bool.or_false,Bool.true_and,Bool.false_and,Bool.and_true,Bool.and_false,Bool.false_eq_true,if_true,if_false,beq_iff_eq, *] at S)
  | ((with_reducible show Calls _ 66 _ _ _);(with_reducible show Calls _ _ #[_,.bool true] _ _);refine cTake Hr S ?_;intro t ts V H S;refine goM ?_)
  | ((with_reducible show Calls _ 66 #[_,.bool false] _ _);exact cTakeF Hr S)
  | ((with_reducible show Calls _ 66 _ _ _);refine cTakeG Hr S ?_;intro t ts V H S;(try simp only[pLook] at S);refine goM ?_)
  | ((with_reducible show Calls _ 72 _ _ _);refine cEat Hr S ?_;intro ts V H S;refine goM ?_)
  | ((with_reducible show Calls _ 113 #[_,.bool false] _ _);exact cOpenF Hr S)
  | ((with_reducible show Calls _ 113 _ _ _);refine cOpen Hr S ?_;intro t ts V hl H S;refine goM ?_)
  | ((with_reducible show Calls _ 114 _ _ _);refine cClose Hr S ?_;intro ts V H S;refine goM ?_)
  | ((with_reducible show Calls _ 115 _ _ _);(first|((with_reducible show Calls _ _ #[_,_,.func _ #[] _] _ _);refine cList Hl.out Hr S ?_)|refine cListM Hm.out Hr S ?_);intro x a p ts V H S;refine goM ?_)
  | ((with_reducible show Calls _ 19 _ _ _);refine cStmts hL Hx.out Hr S ?_;intro x a p ts V H S;refine goM ?_)
  | ((with_reducible show Calls _ 18 _ _ _);(first|((with_reducible show Calls _ _ _ ((Go.World.setCell _ _ _).alloc _ |>.alloc _) _);refine cNd ?_ (H:=((H.out.dn _).alloc _ _).lit1))|refine cNd ?_);intro V H;refine goM ?_)
  | ((with_reducible show Calls _ _ _ _ _);(first|refine M4 Hx.out Hr S ?_|refine M4 Hy.out Hr S ?_|refine M4 Hz.out Hr S ?_|refine M4 Hu.out Hr S ?_|refine M4 Hx.out Hr (Go.Lib.hid (S.out.trans (Ln _ _ _))) ?_|refine M4 Hy.out Hr (Go.Lib.hid (S.out.trans (Ln _ _ _))) ?_|refine M4 Hz.out Hr (Go.Lib.hid (S.out.trans (Ln _ _ _))) ?_|refine M4 Hu.out Hr (Go.Lib.hid (S.out.trans (Ln _ _ _))) ?_);intro k t l c s a p ts V H S h;first|(simp only[bindDown] at S;refine goN ?_)|(refine goM ?_))
  | ((with_reducible show Code.wp _ (.region _ _ _) _ _ _);(first|refine rgn (.s 0 (.s 1 (.h 2 (.h 3 .nil)))) 3 ?_|refine rgn (.s 0 (.s 1 (.s 2 (.h 3 (.h 4 (.h 5 (.h 6 .nil))))))) 6 ?_|refine rgn (.s 0 (.s 1 (.s 2 (.s 3 (.s 4 (.h 5 (.h 6 (.h 7 (.h 8 .nil))))))))) 8 ?_|refine rgn (.s 0 (.s 1 (.s 2 (.s 3 (.h 4 (.h 5 (.h 6 (.h 7 .nil)))))))) 7 ?_|refine rgn (.s 0 (.s 1 (.h 2 (.h 3 (.h 4 (.h 5 .nil)))))) 5 ?_|refine rgn (.s 0 (.s 1 (.s 2 (.s 3 (.s 4 (.s 5 (.h 6 (.h 7 (.h 8 (.h 9 .nil)))))))))) 9 ?_|refine rgn (.s 0 (.s 1 (.b 2 (.b 3 (.h 4 (.h 5 .nil)) 4 (.h 3 (.h 5 .nil))) 4 (.h 2 (.h 3 (.h 5 .nil)))))) 5 ?_);intro V H)
  | ((with_reducible show Ak _ _ _ _ _ (.s _ _) _ _);refine tS ?_)
  | ((with_reducible show Ak _ _ _ _ _ (.h _ _) _ _);refine tH ?_;intro V H K hK;refine goM ?_)
  | ((with_reducible show Ak _ _ _ _ _ (.b _ _ _ _) _ _);refine tB ?_ ?_<;>(intro V H K hK;refine goM ?_))
  | ((with_reducible show Ak _ _ _ _ _ .nil _ _);refine A2 ?_;refine goM ?_)
  | ((with_reducible show bodyPost _ _ _ _ _ _);first|(go_ret;exact pretR S)|exact pret S 0|exact pret S 1|exact pret S 2|exact pret S 3)
  | (go_roundg g;(case measure=>omega);(case rel=>exact⟨_,_,_,_,_,_,_,_,S,Go.Lib.hid ((H.out.put5 1 rfl _ _ _ _ _).less (List.sublist_cons_self _ _) (by simp)),Go.Lib.hid (fun h=>absurd h (by decide))⟩))
  | (refine hK _ _ (by first|exact fun h=>absurd rfl h|exact fun _=>H.out.la|exact fun _=>H.out.la.2|exact fun _=>H.out.lit1.la|exact fun _=>H.out.lit2.la|exact fun _=>H.out.lit2n.la|exact fun _=>(H.out.alloc _ _).la.2|exact fun _=>(H.out.put4 0 rfl _ _ _ _).la.2) ?_)):P:=h
end
theorem arg_any(bp en L)(hL:I0 L)(hx:Does 68 bp en VNode (L.expr)):Does 119 bp en VNode (pArg en L):=by
 refine Does.mkW fun w ts d z S Hr H d0 d1=>?_;unfold pArg at S;(try simp only[pLook] at S);have Hx:=Lq7 (DN.mk hx hL.expr);clear hx;go_enter Tryz.func119,Tryz.ntmps119
 (have hS:=H.out.la);clear hS;go_wp2_with fail
 exact drv
theorem expr_any(bp en L)(hi:Inc 0 (pSum en L))(hx:Does 112 bp en VNode (pSum en L)):Does 68 bp en VNode (Dd en L):=by
 refine Does.mkW fun w ts d z S Hr H d0 d1=>?_;unfold Dd at S;(try simp only[pLook] at S);have Hx:=Lq7 (DN.mk hx hi);clear hx hi;go_enter Tryz.func68,Tryz.ntmps68
 (have hS:=H.out.la);clear hS;go_wp2_with fail
 exact drv
theorem Abg(bp en L)(hL:I0 L)(hx:Does 34 bp en VNode (L.stmt)):Does 69 bp en VNode (B9 en L):=by
 refine Does.mkW fun w ts d z S Hr H d0 d1=>?_;unfold B9 at S;(try simp only[pLook] at S);have Hx:=Lq7 (DN.mk hx hL.stmt);clear hx;go_enter Tryz.func69,Tryz.ntmps69
 (have hS:=H.out.la);clear hS;go_wp2_with fail
 exact drv
theorem Abh(bp en L)(hL:I0 L)(hx:Does 119 bp en VNode (pArg en L)):DC 118 bp en (M2 (pArg en L)):=by
 have Hx:=Lq7 (DN.mk hx (Inc.arg hL));refine⟨fun bb w ts d hb hp d0 d1 hr=>?_,Inc.one Hx.out.inc,M3,fun _ _=>rfl⟩;obtain⟨z,hz⟩:∃z,z=M2 (pArg en L) ts d:=⟨_,rfl⟩;rw[<-hz] at hr |-;have S:=Lq7 hz;have Hr:=Lq7 hr;have H:=Lq7 (PI.start hp);unfold M2 at S;clear hx hr hz hp;obtain⟨aA,aB⟩:=Bj hb;go_enter Tryz.func118,Tryz.ntmps118;go_wp2_with fail;clear hb aA aB;exact drv
theorem Abi(bp en L)(hL:I0 L)(hx:Does 68 bp en VNode (L.expr)):DC 190 bp en (M2 (L.expr)):=by
 have Hx:=Lq7 (DN.mk hx hL.expr);refine⟨fun bb w ts d hb hp d0 d1 hr=>?_,Inc.one Hx.out.inc,M3,fun _ _=>rfl⟩;obtain⟨z,hz⟩:∃z,z=M2 (L.expr) ts d:=⟨_,rfl⟩;rw[<-hz] at hr |-;have S:=Lq7 hz;have Hr:=Lq7 hr;have H:=Lq7 (PI.start hp);unfold M2 at S;clear hx hr hz hp;obtain⟨aA,aB⟩:=Bj hb;go_enter Tryz.func190,Tryz.ntmps190;go_wp2_with fail;clear hb aA aB;exact drv
theorem Abj(bp en L)(hL:I0 L)(hx:Does 117 bp en VNode (C3 en L)):DC 116 bp en (M2 (C3 en L)):=by
 have Hx:=Lq7 (DN.mk hx (Inc.param hL));refine⟨fun bb w ts d hb hp d0 d1 hr=>?_,Inc.one Hx.out.inc,M3,fun _ _=>rfl⟩;obtain⟨z,hz⟩:∃z,z=M2 (C3 en L) ts d:=⟨_,rfl⟩;rw[<-hz] at hr |-;have S:=Lq7 hz;have Hr:=Lq7 hr;have H:=Lq7 (PI.start hp);unfold M2 at S;clear hx hr hz hp;obtain⟨aA,aB⟩:=Bj hb;go_enter Tryz.func116,Tryz.ntmps116;go_wp2_with fail;clear hb aA aB;exact drv
theorem call_any(bp en L)(hL:I0 L)(hx:Does 119 bp en VNode (pArg en L)):Does 71 bp en VNode (pCall en L):=by
 refine Does.mkW fun w ts d z S Hr H d0 d1=>?_;unfold pCall at S;(try simp only[pLook] at S);have Hl:=Lq7 (Abh bp en L hL hx);clear hx;go_enter Tryz.func71,Tryz.ntmps71
 (have hS:=H.out.la);clear hS;go_wp2_with fail
 exact drv
theorem Abk(bp en L)(hL:I0 L)(hx:Does 68 bp en VNode L.expr):Does 191 bp en VRow (pEntry en L):=by
 refine Does.mkW fun w ts d z S Hr H d0 d1=>?_;unfold pEntry at S;simp only[pLook] at S;have Hx:=Lq7 (DN.mk hx hL.expr);clear hx;go_enter Tryz.func191,Tryz.ntmps191;go_wp2_with fail;exact drv
theorem prim_any(bp en L)(hL:I0 L)(hx:Does 68 bp en VNode L.expr)(hp0:Does 160 bp en VNode L.prim)(hc:Does 71 bp en VNode (pCall en L))(he:Does 191 bp en VRow (pEntry en L)):Does 160 bp en VNode (pPrim en L):=by
 refine Does.mkW fun w ts d z S Hr H d0 d1=>?_;unfold pPrim at S;simp only[pLook] at S;have Hx:=Lq7 (DN.mk hx hL.expr);have Hy:=Lq7 (DN.mk hp0 hL.prim);have Hz:=Lq7 (DN.mk hc (Inc.call hL));have Hl:=Lq7 (Abi bp en L hL hx);have Hm:=Lq7 (DR.mk he (Inc.entry hL) Aa8);clear hx hp0 hc he;go_enter Tryz.func160,Tryz.ntmps160;go_wp2_with fail;cases h1:(A1 en ts 0).kind==3
 ·cases h2:(A1 en ts 0).kind==2
  ·cases h3:Bb en ts
   ·cases h5:A5 en ts [110,111,116]
    ·cases h6:Az en ts 0 [91]
     ·cases h7:Az en ts 0 [123]<;>(simp only[h1,h2,h3,h5,h6,h7,Bool.false_and,Bool.false_eq_true,if_true,if_false] at S;exact drv)
     ·(simp only[h1,h2,h3,h5,h6,Bool.false_and,Bool.false_eq_true,if_true,if_false] at S;exact drv)
    ·(simp only[h1,h2,h3,h5,Bool.false_and,Bool.false_eq_true,if_true,if_false] at S;exact drv)
   ·cases h4:Az en ts 1 [40]<;>(simp only[h1,h2,h3,h4,Bool.and_true,Bool.and_false,Bool.false_eq_true,if_true,if_false] at S;exact drv)
  ·(simp only[h1,h2,Bool.false_eq_true,if_true,if_false] at S;exact drv)
 ·(simp only[h1,if_true] at S;exact drv)
theorem Aa9(bp en L)(hL:I0 L)(hx:Does 68 bp en VNode (Dd en L)):Does 117 bp en VNode (C3 en L):=by
 intro w ts dp hp hd0 hd1 hr;have Hr:=Lq7 hr;have Hx:=Lq7 hx;clear hx;have dM:C3 en L ts dp=PM.bind (A3 en (Bb en ts)) (fun name=>PM.bind (C2 en [58]) fun _=>pLook fun ts=>PM.bind (A3 en ((A1 en ts 0).kind==1&&typesL.contains (A1 en ts 0).text.data.toList)) (fun t=>pLook fun ts=>if Az en ts 0 [61] then PM.bind (C2 en [61]) fun _=>PM.bind (Dd en L) fun x=>PM.pure (Aj 7 name name.text [Aj 9 t t.text [],x]) else PM.pure (Aj 7 name name.text [Aj 9 t t.text []]))) ts dp:=rfl;have cN:=Lq7 dM;have H0:=Lq7 ((PI.start hp).alloc #[A B 0,C ⟨#[]⟩,A B 0,A B 0,E D 0 0] 27);clear hp hr dM;unfold ptr;go_enter Tryz.func117,Tryz.ntmps117;go_wp2_with fail;have cQ:=Lq7 (M1 bp en ts (dp) (w.alloc (J #[A B 0,C ⟨#[]⟩,A B 0,A B 0,E D 0 0] 27)) H0.out.ps);(try unfold ptr at cQ);refine Fr cQ (fun hb=>H0.out.below hb) ?_;intro w2 H3;clear cQ H0;have cR:=Lq7 (D3 bp (Bb en ts) en ts (dp) w2 H3.out.ps (Ga Hr cN));(try unfold ptr at cR);go_wp2_with fail;refine Dl (dp) cR Hr cN (Inc.take _) (by omega) (fun hg hf=>⟨rfl,by rw[hf];exact⟨Ag H3.out.grown hg,rfl⟩⟩) ?_;rintro x9 ts8 w5 v hm hg aQ rfl bG;have H6:=Lq7 (H3.out.call hg aQ);(try unfold tokV);clear hm hg aQ cR H3 cN;have bR:=Lq7 (H6.out.alloc #[A B x9.kind,C x9.text,A B x9.line,A B x9.col] 67);clear H6;go_wp2_with fail;generalize w5.alloc _=W10 at bR |-;generalize w5.heap.size=b12 at bR |-;have bH:=Lq7 (Jy bp ⟨#[58]⟩ en ts8 (dp) W10 bR.out.ps (Ga Hr bG));(try unfold ptr at bH);refine Dl (dp) bH Hr bG (Inc.eat _) (by omega) (fun hg hf=>⟨rfl,by rw[hf];exact⟨Ag bR.out.grown hg,rfl⟩⟩) ?_;rintro x18 aB w14 v hm hg aQ-bB;have cU:=Lq7 (bR.out.call hg aQ);clear hm hg aQ bH bR bG;have aD:Hid (C3 en L ts dp=PM.bind (A3 en ((A1 en aB 0).kind==1&&typesL.contains (A1 en aB 0).text.data.toList)) (fun t=>pLook fun ts=>if Az en ts 0 [61] then PM.bind (C2 en [61]) fun _=>PM.bind (Dd en L) fun x=>PM.pure (Aj 7 x9 x9.text [Aj 9 t t.text [],x]) else PM.pure (Aj 7 x9 x9.text [Aj 9 t t.text []])) aB dp):=Lq7 (by rw[bB.out]<;>rfl)
 clear bB;have bI:=Lq7 (G7 bp 0 en aB (dp) w14 (by omega) cU.out.ps);(try unfold ptr at bI);go_wp2_with fail;refine Fr bI (fun hb=>cU.out.below hb) ?_;intro dN bT;clear bI cU;(try unfold tokV);generalize dO:A1 en aB 0=t0 at aD |-;have Ht0:=Lq7 dO;clear dO;have k0:=F8;have k1:=tok_text;cases hk:t0.kind==1
 ·have bU:Hid (C3 en L ts dp=PM.bind (A3 en false) (fun t=>pLook fun ts=>if Az en ts 0 [61] then PM.bind (C2 en [61]) fun _=>PM.bind (Dd en L) fun x=>PM.pure (Aj 7 x9 x9.text [Aj 9 t t.text [],x]) else PM.pure (Aj 7 x9 x9.text [Aj 9 t t.text []])) aB dp):=Lq7 (by rw[aD.out,hk,Bool.false_and]<;>rfl)
  clear aD;have bW:=Lq7 (D3 bp false en aB (dp) dN bT.out.ps (by intro h;cases h));(try unfold ptr at bW);go_wp2_with fail;refine bW.out.mono ?_;rintro e w25 ⟨hg,hq⟩;have Hf:Hid (C3 en L ts dp = .err 3 (A1 en aB 0).line (A1 en aB 0).col):=Lq7 (by rw[bU.out]<;>rfl)
  obtain rfl:e=_:=hq;refine⟨rfl,?_⟩;rw[Hf.out];exact⟨Ag bT.out.grown hg,rfl⟩
 ·have Hk:=Lq7 hk;have aZ:=Lq7 (G7 bp 0 en aB (dp) dN (by omega) bT.out.ps);(try unfold ptr at aZ);rw[Ht0.out] at aZ;go_wp2_with fail;refine Fr aZ (fun hb=>bT.out.below hb) ?_;intro w27 dP;clear aZ bT;(try unfold tokV);have bJ:=Lq7 (Ql t0.text w27);(try unfold ptr at bJ);go_wp2_with fail;refine Fr bJ (fun hb=>dP.out.below hb) ?_;intro w30 cI;clear bJ dP;have aR:Hid (C3 en L ts dp=PM.bind (A3 en (typesL.contains t0.text.data.toList)) (fun t=>pLook fun ts=>if Az en ts 0 [61] then PM.bind (C2 en [61]) fun _=>PM.bind (Dd en L) fun x=>PM.pure (Aj 7 x9 x9.text [Aj 9 t t.text [],x]) else PM.pure (Aj 7 x9 x9.text [Aj 9 t t.text []])) aB dp):=Lq7 (by rw[aD.out,Hk.out,Bool.true_and]<;>rfl)
  clear aD;generalize typesL.contains t0.text.data.toList=ty at aR |-;have bL:=Lq7 (D3 bp ty en aB (dp) w30 cI.out.ps (Ga Hr aR));(try unfold ptr at bL);go_wp2_with fail;refine Dl (dp) bL Hr aR (Inc.take _) (by omega) (fun hg hf=>⟨rfl,by rw[hf];exact⟨Ag cI.out.grown hg,rfl⟩⟩) ?_;rintro aA aC dQ v hm hg aQ rfl aU;have dR:=Lq7 (cI.out.call hg aQ);(try unfold tokV);clear hm hg aQ bL cI aR;clear k0 k1 hk Hk;have bC:=Lq7 (dR.out.alloc #[A B aA.kind,C aA.text,A B aA.line,A B aA.col] 67);clear dR;go_wp2_with fail;generalize dQ.alloc _=W39 at bC |-;generalize dQ.heap.size=b41 at bC |-;cases hs:Az en aC 0 [61]
  ·have bX:Hid (C3 en L ts dp=PM.pure (Aj 7 x9 x9.text [Aj 9 aA aA.text []]) aC dp):=Lq7 (by rw[aU.out];show(if Az en aC 0 [61]=true then(_:PM Nd) else _) aC dp=_;rw[hs]<;>rfl)
   have Hs:=Lq7 hs;clear hs aU;obtain⟨r43,r44,r45,r46,r47⟩:=B3 (bC.out.at (b:=b41) (cs:=#[A B aA.kind,C aA.text,A B aA.line,A B aA.col]) (T:=67) (by simp));go_wp2_with fail;clear r43 r44 r45 r46 r47;have aE:=Lq7 (F9 9 aA aA.text D 0 0 W39);unfold tokV Ka at aE;refine aE.out.mono ?_;rintro e cJ ⟨rfl,hb⟩;have dS:=Lq7 (bC.out.below hb);clear hb aE bC;go_wp2_with fail;have cV:=Lq7 (dS.out.lit 27 [[A B 9,C aA.text,A B aA.line,A B aA.col,E D 0 0]] [.mk 9 aA.text aA.line aA.col []] rfl (by simp) rfl (fun j n c hj hc=>by
    have bY:=(lgS.1 hc).1;simp only[lnC,lnN] at bY;obtain rfl:j=0:=by omega
    ·simp at hj hc;subst hj hc;exact⟨_,_,_,_,_,_,_,rfl,rfl,.inr rfl⟩))
   clear dS;have bM:=Lq7 (Ir bp 0 ⟨#[61]⟩ en aC (dp) (cJ.alloc (J #[A B 9,C aA.text,A B aA.line,A B aA.col,E D 0 0] 27)) (by omega) cV.out.ps);(try unfold ptr at bM);refine Fr bM (fun hb=>cV.out.below hb) ?_;intro w52 cW;clear bM cV;rw[Hs.out];obtain⟨r54,r55,r56,r57,r58⟩:=B3 (cW.out.at (b:=b12) (cs:=#[A B x9.kind,C x9.text,A B x9.line,A B x9.col]) (T:=67) (by simp));go_wp2_with fail;clear r54 r55 r56 r57 r58;have aE:=Lq7 (F9 7 x9 x9.text (I ⟨cJ.heap.size,0,D⟩) 1 1 w52);unfold tokV Ka at aE;refine aE.out.mono ?_;rintro e w59 ⟨rfl,hb⟩;have dT:=Lq7 (cW.out.below hb);clear hb aE cW;obtain⟨r61,r62,r63,r64,r65,r66,r67,r68,r69,r70,r71⟩:=Aa (dT.out.at (b:=w.heap.size) (cs:=#[A B 0,C ⟨#[]⟩,A B 0,A B 0,E D 0 0]) (T:=27) (by simp));go_wp2_with fail;refine bodyPost_ret (v:=M #[A B 7,C x9.text,A B x9.line,A B x9.col,E (I ⟨cJ.heap.size,0,D⟩) 1 1]) (by simp[results,Tryz.results117,go_sem,r62,r63,r64,r65,r66]) rfl ?_;have G:=Lq7 (dT.out.put5 2 rfl (A B 7) (C x9.text) (A B x9.line) (A B x9.col) (E (I ⟨cJ.heap.size,0,D⟩) 1 1));rw[bX.out];exact⟨G.out.grown,G.out.ps,_,rfl,A7.mk _ _ _ _ _ (G.out.hand (by simp[Aj])) (fun _=>nlr _)⟩
  ·have aV:Hid (C3 en L ts dp=PM.bind (C2 en [61]) (fun _=>PM.bind (Dd en L) fun x=>PM.pure (Aj 7 x9 x9.text [Aj 9 aA aA.text [],x])) aC dp):=Lq7 (by rw[aU.out];show(if Az en aC 0 [61]=true then(_:PM Nd) else _) aC dp=_;rw[hs]<;>rfl)
   have Hs:=Lq7 hs;clear hs aU;obtain⟨r73,r74,r75,r76,r77⟩:=B3 (bC.out.at (b:=b41) (cs:=#[A B aA.kind,C aA.text,A B aA.line,A B aA.col]) (T:=67) (by simp));go_wp2_with fail;clear r73 r74 r75 r76 r77;have aE:=Lq7 (F9 9 aA aA.text D 0 0 W39);unfold tokV Ka at aE;refine aE.out.mono ?_;rintro e dU ⟨rfl,hb⟩;have dV:=Lq7 (bC.out.below hb);clear hb aE bC;obtain⟨i0,hi,hz0,hz1,hz2⟩:=info_parts infoNode;go_wp2_with fail;have cY:=Lq7 (PO.ofLit dV.out (cs:=#[A B 9,C aA.text,A B aA.line,A B aA.col,E D 0 0]) [[A B 9,C aA.text,A B aA.line,A B aA.col,E D 0 0]] [.mk 9 aA.text aA.line aA.col []] rfl (by simp) rfl rfl (by simp) (fun j n c hj hc=>by
    have bY:=(lgS.1 hc).1;simp only[lnC,lnN] at bY;obtain rfl:j=0:=by omega
    ·simp at hj hc;subst hj hc;exact⟨_,_,_,_,_,_,_,rfl,rfl,.inr rfl⟩))
   clear dV;have bN:=Lq7 (Ir bp 0 ⟨#[61]⟩ en aC (dp) (dU.alloc (J #[A B 9,C aA.text,A B aA.line,A B aA.col,E D 0 0] 27)) (by omega) cY.out.ps);(try unfold ptr at bN);refine Fr bN (fun hb=>cY.out.below hb) ?_;intro w82 cM;clear bN cY;rw[Hs.out];clear Hs;have bO:=Lq7 (Jy bp ⟨#[61]⟩ en aC (dp) w82 cM.out.ps (Ga Hr aV));(try unfold ptr at bO);go_wp2_with fail;refine Dl (dp) bO Hr aV (Inc.eat _) (by omega) (fun hg hf=>⟨rfl,by rw[hf];exact⟨Ag cM.out.grown hg,rfl⟩⟩) ?_;rintro x89 cZ w85 v hm hg aQ-aW;have bS:=Lq7 (cM.out.call hg aQ);clear hm hg aQ bO cM aV;have bP:=Lq7 (Hx.out w85 cZ (dp) bS.out.ps (by omega) (by omega) (Ga Hr aW));(try unfold ptr at bP);go_wp2_with fail;refine Dl (dp) bP Hr aW (Inc.expr hL) (by omega) (fun hg hf=>⟨rfl,by rw[hf];exact⟨Ag bS.out.grown hg,rfl⟩⟩) ?_;rintro x95 ts94 dW v hm hg aQ hv bZ;obtain⟨aF,aG,aH,aJ,aM⟩:=x95;obtain⟨a96,cA,rfl,cC⟩:=A7.open hv;have Hccap97:=Lq7 (A7.cap hv);have dX:=Lq7 ((bS.out.call hg aQ).row cC bS.out.grown.size bS.out.lt);clear hv cC;clear hm hg aQ bP bS aW;have cD:=Lq7 (dX.out.lit 27 [[A B aF,C aG,A B aH,A B aJ,E a96 aM.length cA]] [.mk aF aG aH aJ aM] rfl (by simp) rfl (fun j n c hj hc=>by
    have bY:=(lgS.1 hc).1;simp only[lnC,lnN] at bY;obtain rfl:j=0:=by omega
    ·simp at hj hc;subst hj hc;exact⟨_,_,_,_,_,_,_,rfl,rfl,.inl (by simp)⟩))
   clear dX
   go_wp2_with (at_builtin;refine Bv rfl _ _ 25 rfl w.heap.size 27 i0 _ 5 64 Tryz.underlying25 hi hz0 hz1 hz2 rfl (by decide) (E (I ⟨dU.heap.size,0,D⟩) 1 1) (PF w [(b41,#[A B aA.kind,C aA.text,A B aA.line,A B aA.col],67),(b12,#[A B x9.kind,C x9.text,A B x9.line,A B x9.col],67),(w.heap.size,#[A B 0,C ⟨#[]⟩,A B 0,A B 0,E D 0 0],27)]) (Au (([.mk 9 aA.text aA.line aA.col []]:List Nd))) rfl cD.out.od dW.heap.size 0 1 (Au [.mk aF aG aH aJ aM]) ?_ (cD.out.rd ((I ⟨dW.heap.size,0,D⟩),[.mk aF aG aH aJ aM]) (by simp)) (Cg Ed _) (Cg Ef _) ?_ ?_ ?_ ?_)
   ·rw[Ah];rfl
   ·rw[Ah,Ah];unfold maxLen;simp only[lnC,lnN];omega
   ·rw[Ah,Ah];simp only[lnC,lnN];omega
   ·exact cD.out.grown.size
   intro v99 dA bD aY cE;have bA:=Lq7 (cD.out.grew bD aY (fun g hg=>(cE g hg).imp id (fun h=>by simpa using h)));clear bD aY cE cD;obtain⟨dB,dC,dD,dE,dF⟩:=B3 (bA.out.at (b:=b12) (cs:=#[A B x9.kind,C x9.text,A B x9.line,A B x9.col]) (T:=67) (by simp));go_wp2_with fail;clear dB dC dD dE dF;obtain⟨bQ,aN,hv5,bE⟩:=bA.out.sliceC;have cF:=Lq7 bE;clear bE;subst hv5;have cG:=Lq7 bA.out.toRow;clear bA;have aE:=Lq7 (F9 7 x9 x9.text bQ (([.mk 9 aA.text aA.line aA.col []]:List Nd)++([.mk aF aG aH aJ aM]:List Nd)).length aN dA);unfold tokV Ka at aE;refine aE.out.mono ?_;rintro e w110 ⟨rfl,hb⟩;have cH:=Lq7 (cG.out.below hb);clear hb aE cG;obtain⟨dG,dH,dI,dJ,dK,dL,r118,r119,r120,r121,r122⟩:=Aa (cH.out.at (b:=w.heap.size) (cs:=#[A B 0,C ⟨#[]⟩,A B 0,A B 0,E D 0 0]) (T:=27) (by simp));go_wp2_with fail;refine bodyPost_ret (v:=M #[A B 7,C x9.text,A B x9.line,A B x9.col,E bQ (([.mk 9 aA.text aA.line aA.col []]:List Nd)++([.mk aF aG aH aJ aM]:List Nd)).length aN]) (by simp[results,Tryz.results117,go_sem,dH,dI,dJ,dK,dL]) rfl ?_;have G:=Lq7 (cH.out.put5 2 rfl (A B 7) (C x9.text) (A B x9.line) (A B x9.col) (E bQ (([.mk 9 aA.text aA.line aA.col []]:List Nd)++([.mk aF aG aH aJ aM]:List Nd)).length aN));rw[bZ.out];exact⟨G.out.grown,G.out.ps,_,rfl,A7.mk _ _ _ _ _ (G.out.hand (by simp[Aj])) (fun _=>cF.out)⟩
theorem rule_any(bp en L)(hL:I0 L)(hx:Does 117 bp en VNode (C3 en L))(hb0:Does 69 bp en VNode (B9 en L)):Does 70 bp en VNode (pRule en L):=by
 intro w ts dp hp hd0 hd1 hr;have Hr:=Lq7 hr;have Hx:=Lq7 hx;have Hb0:=Lq7 hb0;clear hx hb0;have fN:pRule en L ts dp=PM.bind (A3 en true) (fun t=>pLook fun ts=>PM.bind (A3 en (Bb en ts)) (fun name=>PM.bind (C2 en [40]) (fun _=>PM.bind (Ct en [41] (M2 (C3 en L))) fun kids=>PM.bind (C2 en [41]) (fun _=>PM.bind (B9 en L) fun b=>PM.pure (Aj 6 t name.text (kids++[b])))))) ts dp:=rfl;have dY:=Lq7 fN;have H0:=Lq7 (((PI.start hp).alloc #[F (I ⟨bp,0,D⟩)] 62).alloc #[A B 0,C ⟨#[]⟩,A B 0,A B 0,E D 0 0] 27);have fO:(w.alloc (J #[F (I ⟨bp,0,D⟩)] 62)).heap.size=w.heap.size+1:=(by simp);rw[fO] at H0;clear hp hr fN fO;unfold ptr;go_enter Tryz.func70,Tryz.ntmps70;have dZ:=Lq7 (D3 bp true en ts (dp) ((w.alloc (J #[F (I ⟨bp,0,D⟩)] 62)).alloc (J #[A B 0,C ⟨#[]⟩,A B 0,A B 0,E D 0 0] 27)) H0.out.ps (Ga Hr dY));(try unfold ptr at dZ);obtain⟨r7,r8⟩:=Bj (H0.out.at (b:=w.heap.size) (cs:=#[F (I ⟨bp,0,D⟩)]) (T:=62) (by simp));go_wp2_with fail;clear r7 r8;refine Dl (dp) dZ Hr dY (Inc.take _) (by omega) (fun hg hf=>⟨rfl,by rw[hf];exact⟨Ag H0.out.grown hg,rfl⟩⟩) ?_;rintro x6 bM w2 v hm hg aG rfl cG;have H3:=Lq7 (H0.out.call hg aG);(try unfold tokV);clear hm hg aG dZ H0 dY;obtain⟨r12,r13⟩:=Bj (H3.out.at (b:=w.heap.size) (cs:=#[F (I ⟨bp,0,D⟩)]) (T:=62) (by simp));have cH:=Lq7 (H3.out.alloc #[A B x6.kind,C x6.text,A B x6.line,A B x6.col] 67);clear H3;go_wp2_with fail;generalize w2.alloc _=W9 at cH |-;generalize w2.heap.size=b11 at cH |-;clear r12 r13;have aA:Hid (pRule en L ts dp=PM.bind (A3 en (Bb en bM)) (fun name=>PM.bind (C2 en [40]) (fun _=>PM.bind (Ct en [41] (M2 (C3 en L))) fun kids=>PM.bind (C2 en [41]) (fun _=>PM.bind (B9 en L) fun b=>PM.pure (Aj 6 x6 name.text (kids++[b]))))) bM dp):=Lq7 (by rw[cG.out]<;>rfl)
 clear cG
 go_cut [4] from 6 (fun v wc=>∃(t:Tok) (dN:List Tok) (b:Nat),v = F (I ⟨b,0,D⟩)/\Hid (pRule en L ts dp=PM.bind (C2 en [40]) (fun _=>PM.bind (Ct en [41] (M2 (C3 en L))) fun kids=>PM.bind (C2 en [41]) (fun _=>PM.bind (B9 en L) fun b=>PM.pure (Aj 6 x6 t.text (kids++[b])))) dN dp)/\Hid (PI w bp en dN (dp) [(b,#[A B t.kind,C t.text,A B t.line,A B t.col],67),(b11,#[A B x6.kind,C x6.text,A B x6.line,A B x6.col],67),(w.heap.size+1,#[A B 0,C ⟨#[]⟩,A B 0,A B 0,E D 0 0],27),(w.heap.size,#[F (I ⟨bp,0,D⟩)],62)] [] wc))
 case first=>
  have bP:=Lq7 cH.out.drew;clear cH;refine Bm (.s 0 (.s 1 (.b 2 (.b 3 (.h 4 (.h 5 .nil)) 4 (.h 3 (.h 5 .nil))) 4 (.h 2 (.h 3 (.h 5 .nil)))))) 5 (fun W'=>W'.heap[w.heap.size]? = I (J #[F (I ⟨bp,0,D⟩)] 62 (0,0))) (bP.out.at (by simp)) ?_;generalize hW:W9.drew=W16 at bP |-;clear hW;refine E8 (F (I ⟨bp,0,D⟩)) rfl rfl (fun W' hS=>?_) ?_
  ·(try unfold tokV);(try unfold ptr);have aH:=hS;obtain⟨cD,cE⟩:=Bj aH;clear aH;go_simp
  refine E8 (F (I ⟨bp,0,D⟩)) rfl rfl (fun W' hS=>?_) ?_
  ·(try unfold tokV);(try unfold ptr);have aH:=hS;obtain⟨cD,cE⟩:=Bj aH;clear aH;go_simp
  refine Dz rfl rfl (fun K17 eA=>?_) (fun K18 eB=>?_)
  ·(try unfold tokV ptr);go_wp2_with fail;have bQ:=Lq7 (M1 bp en bM (dp) W16 bP.out.ps);(try unfold ptr at bQ);refine Fr bQ (fun hb=>bP.out.below hb) ?_;intro eC bR;clear bQ bP;go_wp2_with fail;refine eA _ _ (fun _=>bR.out.at (by simp)) ?_;refine Dz rfl rfl (fun K22 eD=>?_) (fun K23 eE=>?_)
   ·(try unfold tokV ptr);go_wp2_with fail;have bS:=Lq7 (D3 bp (Bb en bM) en bM (dp) eC bR.out.ps (Ga Hr aA));(try unfold ptr at bS);refine Dl (dp) bS Hr aA (Inc.take _) (by omega) (fun hg hf=>⟨rfl,by rw[hf];exact⟨Ag bR.out.grown hg,rfl⟩⟩) ?_;rintro cI eF fP v hm hg aG rfl cJ;have eG:=Lq7 (bR.out.call hg aG);(try unfold tokV);clear hm hg aG bS bR aA;go_wp2_with fail;refine eD _ _ (fun _=>eG.out.at (by simp)) ?_;refine Ae rfl (fun K30 eH=>?_);(try unfold tokV ptr);go_wp2_with fail;have cM:=Lq7 (eG.out.alloc #[A B 0,C ⟨#[]⟩,A B 0,A B 0] 67);clear eG;generalize hW:fP.alloc (J #[A B 0,C ⟨#[]⟩,A B 0,A B 0] 67)=W33 at cM |-;clear hW;generalize hb:fP.heap.size=b32 at cM |-;clear hb;refine eH _ _ (fun _=>cM.out.at (by simp)) ?_;obtain⟨r34,r35,r36,r37,r38,r39,r40,r41,r42⟩:=Lf (cM.out.at (b:=b32) (cs:=#[A B 0,C ⟨#[]⟩,A B 0,A B 0]) (T:=67) (by simp));refine Ae rfl (fun K43 eI=>?_);(try unfold tokV ptr);go_wp2_with fail;have H44:=Lq7 (cM.out.put4 0 rfl (A B cI.kind) (C cI.text) (A B cI.line) (A B cI.col));refine eI _ _ (fun h=>absurd rfl h) ?_;refine A2 ?_;go_wp2_with fail;go_meet
    case rel=>exact⟨cI,eF,b32,rfl,cJ,H44⟩
   ·(try unfold tokV ptr);go_wp2_with fail;have bT:=Lq7 (bR.out.alloc #[A B 0,C ⟨#[]⟩,A B 0,A B 0] 67);clear bR;generalize hW:eC.alloc (J #[A B 0,C ⟨#[]⟩,A B 0,A B 0] 67)=W47 at bT |-;clear hW;generalize hb:eC.heap.size=b46 at bT |-;clear hb;refine eE _ _ (fun _=>bT.out.at (by simp)) ?_;refine Ae rfl (fun K48 eJ=>?_);(try unfold tokV ptr);go_wp2_with fail;have bU:=Lq7 (D3 bp (Bb en bM) en bM (dp) W47 bT.out.ps (Ga Hr aA));(try unfold ptr at bU);refine Dl (dp) bU Hr aA (Inc.take _) (by omega) (fun hg hf=>⟨rfl,by rw[hf];exact⟨Ag bT.out.grown hg,rfl⟩⟩) ?_;rintro cN eK w50 v hm hg aG rfl cQ;have eL:=Lq7 (bT.out.call hg aG);(try unfold tokV);clear hm hg aG bU bT aA;go_wp2_with fail;refine eJ _ _ (fun _=>eL.out.at (by simp)) ?_;obtain⟨r55,r56,r57,r58,r59,r60,r61,r62,r63⟩:=Lf (eL.out.at (b:=b46) (cs:=#[A B 0,C ⟨#[]⟩,A B 0,A B 0]) (T:=67) (by simp));refine Ae rfl (fun K64 eM=>?_);(try unfold tokV ptr);go_wp2_with fail;have H65:=Lq7 (eL.out.put4 0 rfl (A B cN.kind) (C cN.text) (A B cN.line) (A B cN.col));refine eM _ _ (fun h=>absurd rfl h) ?_;refine A2 ?_;go_wp2_with fail;go_meet
    case rel=>exact⟨cN,eK,b46,rfl,cQ,H65⟩
  ·(try unfold tokV ptr);go_wp2_with fail;have cF:=Lq7 (bP.out.alloc #[A B 0,C ⟨#[]⟩,A B 0,A B 0] 67);clear bP;generalize hW:W16.alloc (J #[A B 0,C ⟨#[]⟩,A B 0,A B 0] 67)=W68 at cF |-;clear hW;generalize hb:W16.heap.size=b67 at cF |-;clear hb;refine eB _ _ (fun _=>cF.out.at (by simp)) ?_;refine Ae rfl (fun K69 eN=>?_);(try unfold tokV ptr);go_wp2_with fail;have bW:=Lq7 (M1 bp en bM (dp) W68 cF.out.ps);(try unfold ptr at bW);refine Fr bW (fun hb=>cF.out.below hb) ?_;intro w71 cR;clear bW cF;go_wp2_with fail;refine eN _ _ (fun _=>cR.out.at (by simp)) ?_;refine Ae rfl (fun K73 eO=>?_);(try unfold tokV ptr);go_wp2_with fail;have bX:=Lq7 (D3 bp (Bb en bM) en bM (dp) w71 cR.out.ps (Ga Hr aA));(try unfold ptr at bX);refine Dl (dp) bX Hr aA (Inc.take _) (by omega) (fun hg hf=>⟨rfl,by rw[hf];exact⟨Ag cR.out.grown hg,rfl⟩⟩) ?_;rintro cU eP w75 v hm hg aG rfl cV;have eQ:=Lq7 (cR.out.call hg aG);(try unfold tokV);clear hm hg aG bX cR aA;go_wp2_with fail;refine eO _ _ (fun _=>eQ.out.at (by simp)) ?_;obtain⟨r80,r81,r82,r83,r84,r85,r86,r87,r88⟩:=Lf (eQ.out.at (b:=b67) (cs:=#[A B 0,C ⟨#[]⟩,A B 0,A B 0]) (T:=67) (by simp));refine Ae rfl (fun K89 eR=>?_);(try unfold tokV ptr);go_wp2_with fail;have H90:=Lq7 (eQ.out.put4 0 rfl (A B cU.kind) (C cU.text) (A B cU.line) (A B cU.col));refine eR _ _ (fun h=>absurd rfl h) ?_;refine A2 ?_;go_wp2_with fail;go_meet
   case rel=>exact⟨cU,eP,b67,rfl,cV,H90⟩
 case rest=>
  obtain⟨bB,eS,eT,eU,bC,cW⟩:=hcut;subst eU;clear aA cH;rename World=>w97;have bY:=Lq7 (Jy bp ⟨#[40]⟩ en eS (dp) w97 cW.out.ps (Ga Hr bC));(try unfold ptr at bY);obtain⟨eV,eW⟩:=Bj (cW.out.at (b:=w.heap.size) (cs:=#[F (I ⟨bp,0,D⟩)]) (T:=62) (by simp));go_wp2_with fail;clear eV eW;refine Dl (dp) bY Hr bC (Inc.eat _) (by omega) (fun hg hf=>⟨rfl,by rw[hf];exact⟨Ag cW.out.grown hg,rfl⟩⟩) ?_;rintro x103 cY w99 v hm hg aG-aQ;have aZ:=Lq7 (cW.out.call hg aG);clear hm hg aG bY cW bC;obtain⟨i0,hi,hz0,hz1,hz2⟩:=info_parts infoNode;have bD:=Lq7 (Vt bp ⟨#[41]⟩ 116 #[] #[F (I ⟨w.heap.size,0,D⟩)] (M2 (C3 en L)) en cY (dp) w99 (by omega) (by omega) aZ.out.ps (by intro args w;rfl) (fun w1 dN hg hp' hr'=>(Abj bp en L hL Hx.out).does w.heap.size w1 dN (dp) (aZ.out.later hg (by simp)) hp' (by omega) (by omega) hr') (Inc.one (Inc.param hL)) M3 (Ga Hr aQ));(try unfold ptr at bD);obtain⟨eX,eY⟩:=Bj (aZ.out.at (b:=w.heap.size) (cs:=#[F (I ⟨bp,0,D⟩)]) (T:=62) (by simp));go_wp2_with fail;clear eX eY;refine Dl (dp) bD Hr aQ (Inc.list (Inc.one (Inc.param hL))) (by omega) (fun hg hf=>⟨rfl,by rw[hf];exact⟨Ag aZ.out.grown hg,rfl⟩⟩) ?_;rintro aR cZ eZ dA hm hg aG hv aU;have hkl115:=hv.2;have bE:=Lq7 (PO.ofOwn aZ.out hg aG hv);clear hv;clear hm hg aG bD aZ aQ;have bG:=Lq7 (Jy bp ⟨#[41]⟩ en cZ (dp) eZ bE.out.ps (Ga Hr aU));(try unfold ptr at bG);obtain⟨fA,fB⟩:=Bj (bE.out.at (b:=w.heap.size) (cs:=#[F (I ⟨bp,0,D⟩)]) (T:=62) (by simp));go_wp2_with fail;clear fA fB;refine Dl (dp) bG Hr aU (Inc.eat _) (by omega) (fun hg hf=>⟨rfl,by rw[hf];exact⟨Ag bE.out.grown hg,rfl⟩⟩) ?_;rintro x121 dB fC v hm hg aG-aV;have dC:=Lq7 (bE.out.call hg aG);clear hm hg aG bG bE aU;have aJ:=Lq7 dC.out.drew;clear dC;go_wp2_with fail;refine Bm (.s 0 (.s 1 (.s 2 (.s 3 (.s 4 (.h 5 (.h 6 (.h 7 (.h 8 (.h 9 .nil)))))))))) 9 (fun W'=>W'.heap[b11]? = I (J #[A B x6.kind,C x6.text,A B x6.line,A B x6.col] 67 (0,0))/\W'.heap[eT]? = I (J #[A B bB.kind,C bB.text,A B bB.line,A B bB.col] 67 (0,0))/\W'.heap[w.heap.size]? = I (J #[F (I ⟨bp,0,D⟩)] 62 (0,0))) (⟨aJ.out.at (by simp),aJ.out.at (by simp),aJ.out.at (by simp)⟩) ?_;refine E8 (tokV x6) rfl rfl (fun W' hS=>?_) ?_
  ·(try unfold tokV);(try unfold ptr);obtain⟨aH,aW,aY⟩:=hS;obtain⟨cD,cE,dO,dP,dQ⟩:=B3 aH;clear aH;obtain⟨dR,dS,dT,dU,dV⟩:=B3 aW;clear aW;obtain⟨dW,dX⟩:=Bj aY;clear aY;go_simp
  refine E8 (F (I ⟨eT,1,D⟩)) rfl rfl (fun W' hS=>?_) ?_
  ·(try unfold tokV);(try unfold ptr);obtain⟨aH,aW,aY⟩:=hS;obtain⟨cD,cE,dO,dP,dQ⟩:=B3 aH;clear aH;obtain⟨dR,dS,dT,dU,dV⟩:=B3 aW;clear aW;obtain⟨dW,dX⟩:=Bj aY;clear aY;go_simp
  refine E8 (C bB.text) rfl rfl (fun W' hS=>?_) ?_
  ·(try unfold tokV);(try unfold ptr);obtain⟨aH,aW,aY⟩:=hS;obtain⟨cD,cE,dO,dP,dQ⟩:=B3 aH;clear aH;obtain⟨dR,dS,dT,dU,dV⟩:=B3 aW;clear aW;obtain⟨dW,dX⟩:=Bj aY;clear aY;go_simp
  refine E8 (dA) rfl rfl (fun W' hS=>?_) ?_
  ·(try unfold tokV);(try unfold ptr);obtain⟨aH,aW,aY⟩:=hS;obtain⟨cD,cE,dO,dP,dQ⟩:=B3 aH;clear aH;obtain⟨dR,dS,dT,dU,dV⟩:=B3 aW;clear aW;obtain⟨dW,dX⟩:=Bj aY;clear aY;go_simp
  refine E8 (F (I ⟨bp,0,D⟩)) rfl rfl (fun W' hS=>?_) ?_
  ·(try unfold tokV);(try unfold ptr);obtain⟨aH,aW,aY⟩:=hS;obtain⟨cD,cE,dO,dP,dQ⟩:=B3 aH;clear aH;obtain⟨dR,dS,dT,dU,dV⟩:=B3 aW;clear aW;obtain⟨dW,dX⟩:=Bj aY;clear aY;go_simp
  refine Ae rfl (fun K125 dD=>?_);(try unfold tokV ptr);go_wp2_with fail;have bH:=Lq7 (Hb0.out fC.drew dB (dp) aJ.out.ps (by omega) (by omega) (Ga Hr aV));(try unfold ptr at bH);refine Dl (dp) bH Hr aV (Inc.block hL) (by omega) (fun hg hf=>⟨rfl,by rw[hf];exact⟨Ag aJ.out.grown hg,rfl⟩⟩) ?_;rintro fD ts130 dE v hm hg aG hv bZ;obtain⟨aB,aC,aD,aE,aF⟩:=fD;obtain⟨fE,cA,rfl,dF⟩:=A7.open hv;have Hccap133:=Lq7 (A7.cap hv);have bI:=Lq7 ((aJ.out.call hg aG).row dF aJ.out.grown.size aJ.out.lt);clear hv dF;clear hm hg aG bH aJ aV;go_wp2_with fail;refine dD _ _ (fun _=>⟨bI.out.at (by simp),bI.out.at (by simp),bI.out.at (by simp)⟩) ?_;refine Ae rfl (fun K134 dG=>?_);(try unfold tokV ptr);go_wp2_with fail;have aN:=Lq7 (bI.out.lit 27 [[A B aB,C aC,A B aD,A B aE,E fE aF.length cA]] [.mk aB aC aD aE aF] rfl (by simp) rfl (fun j n c hj hc=>by
   have hjl:=(lgS.1 hc).1;simp only[lnC,lnN] at hjl;obtain rfl:j=0:=by omega
   ·simp at hj hc;subst hj hc;exact⟨_,_,_,_,_,_,_,rfl,rfl,.inl (by simp)⟩))
  clear bI;refine dG _ _ (fun _=>⟨aN.out.at (by simp),aN.out.at (by simp),aN.out.at (by simp)⟩) ?_;refine Ae rfl (fun K136 dH=>?_);(try unfold tokV ptr);simp only[List.getElem_toArray,List.getElem_cons_succ,List.getElem_cons_zero]
  go_wp2_with (at_builtin;refine Bv rfl _ _ 25 rfl w.heap.size 27 i0 _ 5 64 Tryz.underlying25 hi hz0 hz1 hz2 rfl (by decide) dA (PF w [(eT,#[A B bB.kind,C bB.text,A B bB.line,A B bB.col],67),(b11,#[A B x6.kind,C x6.text,A B x6.line,A B x6.col],67),(w.heap.size+1,#[A B 0,C ⟨#[]⟩,A B 0,A B 0,E D 0 0],27),(w.heap.size,#[F (I ⟨bp,0,D⟩)],62)]) (Au (aR)) rfl aN.out.od dE.heap.size 0 1 (Au [.mk aB aC aD aE aF]) ?_ (aN.out.rd ((I ⟨dE.heap.size,0,D⟩),[.mk aB aC aD aE aF]) (by simp)) (Cg Ed _) (Cg Ef _) ?_ ?_ ?_ ?_)
  ·rw[Ah];rfl
  ·rw[Ah,Ah];unfold maxLen;simp only[lnC,lnN];omega
  ·rw[Ah,Ah];simp only[lnC,lnN];omega
  ·exact aN.out.grown.size
  intro v137 fF bN bJ dI;have bA:=Lq7 (aN.out.grew bN bJ (fun g hg=>(dI g hg).imp id (fun h=>by simpa using h)));clear bN bJ dI aN;go_wp2_with fail;refine dH _ _ (fun _=>⟨bA.out.at (by simp),bA.out.at (by simp),bA.out.at (by simp)⟩) ?_;refine Ae rfl (fun K140 dJ=>?_);(try unfold tokV ptr);go_wp2_with fail;obtain⟨cC,aM,hv5,bO⟩:=bA.out.sliceC;have dK:Hid ((aR++([.mk aB aC aD aE aF]:List Nd)).length<=aM):=Lq7 bO;clear bO;subst hv5;have dL:=Lq7 bA.out.toRow;clear bA;have fG:=Lq7 (F9 6 x6 bB.text cC (aR++([.mk aB aC aD aE aF]:List Nd)).length aM fF);unfold tokV Ka at fG;refine fG.out.mono ?_;rintro e w144 ⟨rfl,hb⟩;have bL:=Lq7 (dL.out.below hb);clear hb fG dL;go_wp2_with fail;refine dJ _ _ (fun _=>⟨bL.out.at (by simp),bL.out.at (by simp),bL.out.at (by simp)⟩) ?_;obtain⟨fH,fI,fJ,fK,fL,fM,r152,r153,r154,r155,r156⟩:=Aa (bL.out.at (b:=w.heap.size+1) (cs:=#[A B 0,C ⟨#[]⟩,A B 0,A B 0,E D 0 0]) (T:=27) (by simp));refine Ae rfl (fun K157 dM=>?_);(try unfold tokV ptr);go_wp2_with fail;refine dM _ _ (fun h=>absurd rfl h) ?_;refine A2 ?_;go_wp2_with fail;refine bodyPost_ret (v:=M #[A B 6,C bB.text,A B x6.line,A B x6.col,E cC (aR++([.mk aB aC aD aE aF]:List Nd)).length aM]) (by simp[results,Tryz.results70,go_sem,fI,fJ,fK,fL,fM]) rfl ?_;have G:=Lq7 (bL.out.put5 2 rfl (A B 6) (C bB.text) (A B x6.line) (A B x6.col) (E cC (aR++([.mk aB aC aD aE aF]:List Nd)).length aM));rw[show aR.length+1=(aR++([.mk aB aC aD aE aF]:List Nd)).length by simp];rw[bZ.out];exact⟨G.out.grown,G.out.ps,_,rfl,A7.mk _ _ _ _ _ (G.out.hand (by simp[])) (fun _=>dK.out)⟩
theorem stmt_if(bp en L)(hL:I0 L)(hx:Does 68 bp en VNode (Dd en L))(hb0:Does 69 bp en VNode (B9 en L))(w ts dp)(hp:PS w bp en ts dp)(hd0:0<=dp)(hd1:dp<=1000)(hr:pStmt en L ts dp ≠ .out)(h1:A5 en ts [102,111,114]=false)(h2:A5 en ts [105,102]=true):
  Calls Tryz.prog 34 #[ptr bp] w (PP bp en (VNode w.heap.size) (pStmt en L ts dp) w):=by
 have Hr:=Lq7 hr;have Hx:=Lq7 hx;have eX:=Lq7 hb0;have E1:=Lq7 h1;have E2:=Lq7 h2;clear hx hb0 h1 h2;have eY:pStmt en L ts dp=(if A5 en ts [102,111,114] then PM.bind (A3 en true) (fun _=>pLook fun us=>PM.bind (A3 en (Bb en us)) (fun name=>pLook fun us=>PM.bind (A3 en (A5 en us [105,110])) (fun _=>PM.bind (Dd en L) (fun x=>PM.bind (B9 en L) fun b=>PM.pure (Aj 4 (A1 en ts 0) name.text [x,b]))))) else if A5 en ts [105,102] then PM.bind (A3 en true) (fun _=>PM.bind (Dd en L) fun x=>PM.bind (B9 en L) fun b=>pLook fun us=>(if A5 en us [101,108,115,101] then PM.bind (A3 en true) fun _=>PM.bind (B9 en L) fun c=>PM.pure (Aj 5 (A1 en ts 0) ⟨#[]⟩ [x,b,c]) else PM.pure (Aj 5 (A1 en ts 0) ⟨#[]⟩ [x,b]))) else if A5 en ts [114,117,108,101] then pRule en L else if Bb en ts&&Az en ts 1 [40] then PM.bind (pCall en L) (fun c=>PM.bind (C2 en [59]) fun _=>PM.pure (Aj 3 (A1 en ts 0) ⟨#[]⟩ [c])) else PM.bind (A3 en (Bb en ts)) (fun name=>PM.bind (C2 en [61]) fun _=>PM.bind (Dd en L) fun x=>PM.bind (C2 en [59]) fun _=>PM.pure (Aj 2 (A1 en ts 0) name.text [x]))) ts dp:=rfl;have dN:=Lq7 eY;have H0:=Lq7 ((PI.start hp).alloc #[A B 0,C ⟨#[]⟩,A B 0,A B 0,E D 0 0] 27);clear hp hr eY;unfold ptr;go_enter Tryz.func34,Tryz.ntmps34;go_wp2_with fail;have dO:=Lq7 (G7 bp 0 en ts (dp) (w.alloc (J #[A B 0,C ⟨#[]⟩,A B 0,A B 0,E D 0 0] 27)) (by omega) H0.out.ps);(try unfold ptr at dO);refine Fr dO (fun hb=>H0.out.below hb) ?_;intro w2 H3;clear dO H0;(try unfold tokV);generalize A1 en ts 0=t at dN |-;have H5:=Lq7 (H3.out.alloc #[A B t.kind,C t.text,A B t.line,A B t.col] 67);clear H3;go_wp2_with fail;generalize w2.alloc _=W4 at H5 |-;generalize w2.heap.size=b6 at H5 |-;have dP:=Lq7 (Mz bp ⟨#[102,111,114]⟩ en ts (dp) W4 H5.out.ps);(try unfold ptr at dP);refine Fr dP (fun hb=>H5.out.below hb) ?_;intro w8 H9;clear dP H5;(try rw[E1.out]);have cG:=Lq7 (Mz bp ⟨#[105,102]⟩ en ts (dp) w8 H9.out.ps);(try unfold ptr at cG);go_wp2_with fail;refine Fr cG (fun hb=>H9.out.below hb) ?_;intro w11 dM;clear cG H9;(try rw[E2.out]);have bE:Hid (pStmt en L ts dp=PM.bind (A3 en true) (fun _=>PM.bind (Dd en L) fun x=>PM.bind (B9 en L) fun b=>pLook fun us=>(if A5 en us [101,108,115,101] then PM.bind (A3 en true) fun _=>PM.bind (B9 en L) fun c=>PM.pure (Aj 5 t ⟨#[]⟩ [x,b,c]) else PM.pure (Aj 5 t ⟨#[]⟩ [x,b]))) ts dp):=Lq7 (by rw[dN.out,E1.out,E2.out]<;>rfl)
 clear dN E1 E2;have bS:=Lq7 (D3 bp true en ts (dp) w11 dM.out.ps (Ga Hr bE));(try unfold ptr at bS);go_wp2_with fail;refine Dl (dp) bS Hr bE (Inc.take _) (by omega) (fun hg hf=>⟨rfl,by rw[hf];exact⟨Ag dM.out.grown hg,rfl⟩⟩) ?_;rintro x238 cW dQ v hm hg bO-bG;have bP:=Lq7 (dM.out.call hg bO);clear hm hg bO bS dM bE;have bT:=Lq7 (Hx.out dQ cW (dp) bP.out.ps (by omega) (by omega) (Ga Hr bG));(try unfold ptr at bT);go_wp2_with fail;refine Dl (dp) bT Hr bG (Inc.expr hL) (by omega) (fun hg hf=>⟨rfl,by rw[hf];exact⟨Ag bP.out.grown hg,rfl⟩⟩) ?_;rintro dR cY cZ v hm hg bO hv bH;obtain⟨aA,aB,aC,aD,aE⟩:=dR;obtain⟨cH,bI,rfl,bA⟩:=A7.open hv;have Hccap246:=Lq7 (A7.cap hv);have dA:=Lq7 ((bP.out.call hg bO).row bA bP.out.grown.size bP.out.lt);clear hv bA;clear hm hg bO bT bP bG;obtain⟨i0,hi,eZ,fA,fB⟩:=info_parts infoNode;go_wp2_with fail;have bQ:=Lq7 (PO.ofLit dA.out (cs:=#[A B aA,C aB,A B aC,A B aD,E cH aE.length bI]) [[A B aA,C aB,A B aC,A B aD,E cH aE.length bI]] [.mk aA aB aC aD aE] rfl (by simp) rfl rfl (by simp) (fun j n c hj hc=>by
  have dB:=(lgS.1 hc).1;simp only[lnC,lnN] at dB;obtain rfl:j=0:=by omega
  ·simp at hj hc;subst hj hc;exact⟨_,_,_,_,_,_,_,rfl,rfl,.inl (by simp)⟩))
 clear dA;have bU:=Lq7 (eX.out (cZ.alloc (J #[A B aA,C aB,A B aC,A B aD,E cH aE.length bI] 27)) cY (dp) bQ.out.ps (by omega) (by omega) (Ga Hr bH));(try unfold ptr at bU);refine Dl (dp) bU Hr bH (Inc.block hL) (by omega) (fun hg hf=>⟨rfl,by rw[hf];exact⟨Ag bQ.out.grown hg,rfl⟩⟩) ?_;rintro dS aN dC v hm hg bO hv bW;obtain⟨aF,aG,aH,aJ,aM⟩:=dS;obtain⟨dT,cI,rfl,bA⟩:=A7.open hv;have Hccap255:=Lq7 (A7.cap hv);have dD:=Lq7 ((bQ.out.call hg bO).row bA bQ.out.grown.size bQ.out.lt);clear hv bA;clear hm hg bO bU bQ bH;have bX:=Lq7 (dD.out.lit 27 [[A B aF,C aG,A B aH,A B aJ,E dT aM.length cI]] [.mk aF aG aH aJ aM] rfl (by simp) rfl (fun j n c hj hc=>by
  have dB:=(lgS.1 hc).1;simp only[lnC,lnN] at dB;obtain rfl:j=0:=by omega
  ·simp at hj hc;subst hj hc;exact⟨_,_,_,_,_,_,_,rfl,rfl,.inl (by simp)⟩))
 clear dD
 go_wp2_with (at_builtin;refine Bv rfl _ _ 25 rfl w.heap.size 27 i0 _ 5 64 Tryz.underlying25 hi eZ fA fB rfl (by decide) (E (I ⟨cZ.heap.size,0,D⟩) 1 1) (PF w [(b6,#[A B t.kind,C t.text,A B t.line,A B t.col],67),(w.heap.size,#[A B 0,C ⟨#[]⟩,A B 0,A B 0,E D 0 0],27)]) (Au (([.mk aA aB aC aD aE]:List Nd))) rfl bX.out.od dC.heap.size 0 1 (Au [.mk aF aG aH aJ aM]) ?_ (bX.out.rd ((I ⟨dC.heap.size,0,D⟩),[.mk aF aG aH aJ aM]) (by simp)) (Cg Ed _) (Cg Ef _) ?_ ?_ ?_ ?_)
 ·rw[Ah];rfl
 ·rw[Ah,Ah];unfold maxLen;simp only[lnC,lnN];omega
 ·rw[Ah,Ah];simp only[lnC,lnN];omega
 ·exact bX.out.grown.size
 intro dU dV bB aQ bY;have cJ:=Lq7 (bX.out.grew bB aQ (fun g hg=>(bY g hg).imp id (fun h=>by simpa using h)));clear bB aQ bY bX;have aZ:Hid (pStmt en L ts dp=(if A5 en aN [101,108,115,101] then PM.bind (A3 en true) fun _=>PM.bind (B9 en L) fun c=>PM.pure (Aj 5 t ⟨#[]⟩ [.mk aA aB aC aD aE,.mk aF aG aH aJ aM,c]) else PM.pure (Aj 5 t ⟨#[]⟩ [.mk aA aB aC aD aE,.mk aF aG aH aJ aM])) aN dp):=Lq7 (by rw[bW.out]<;>rfl)
 clear bW;have bZ:=Lq7 (Mz bp ⟨#[101,108,115,101]⟩ en aN (dp) dV cJ.out.ps);(try unfold ptr at bZ);go_wp2_with fail;refine Fr bZ (fun hb=>cJ.out.below hb) ?_;intro dE bC;clear bZ cJ;cases h6:A5 en aN [101,108,115,101]
 case' true=>have E6:=Lq7 h6
 case' false=>have E6:=Lq7 h6
 ·(try rw[h6]);clear h6;have cM:Hid (pStmt en L ts dp=PM.pure (Aj 5 t ⟨#[]⟩ [.mk aA aB aC aD aE,.mk aF aG aH aJ aM]) aN dp):=Lq7 (by rw[aZ.out,E6.out]<;>rfl)
  clear aZ E6;obtain⟨dW,dX,dY,dZ,eA⟩:=B3 (bC.out.at (b:=b6) (cs:=#[A B t.kind,C t.text,A B t.line,A B t.col]) (T:=67) (by simp));go_wp2_with fail;clear dW dX dY dZ eA;obtain⟨cN,bJ,eB,bD⟩:=bC.out.sliceC;have cA:=Lq7 bD;clear bD;subst eB;have dF:=Lq7 bC.out.toRow;clear bC;have cQ:=Lq7 (F9 5 t ⟨#[]⟩ cN (([.mk aA aB aC aD aE]:List Nd)++([.mk aF aG aH aJ aM]:List Nd)).length bJ dE);unfold tokV Ka at cQ;refine cQ.out.mono ?_;rintro e w273 ⟨rfl,hb⟩;have dG:=Lq7 (dF.out.below hb);clear hb cQ dF;obtain⟨eC,eD,eE,eF,eG,eH,r281,r282,r283,r284,r285⟩:=Aa (dG.out.at (b:=w.heap.size) (cs:=#[A B 0,C ⟨#[]⟩,A B 0,A B 0,E D 0 0]) (T:=27) (by simp));go_wp2_with fail;refine bodyPost_ret (v:=M #[A B 5,C ⟨#[]⟩,A B t.line,A B t.col,E cN (([.mk aA aB aC aD aE]:List Nd)++([.mk aF aG aH aJ aM]:List Nd)).length bJ]) (by simp[results,Tryz.results34,go_sem,eD,eE,eF,eG,eH]) rfl ?_;have G:=Lq7 (dG.out.put5 1 rfl (A B 5) (C ⟨#[]⟩) (A B t.line) (A B t.col) (E cN (([.mk aA aB aC aD aE]:List Nd)++([.mk aF aG aH aJ aM]:List Nd)).length bJ));rw[cM.out];exact⟨G.out.grown,G.out.ps,_,rfl,A7.mk _ _ _ _ _ (G.out.hand (by simp[])) (fun _=>cA.out)⟩
 ·(try rw[h6]);clear h6;have bL:Hid (pStmt en L ts dp=PM.bind (A3 en true) (fun _=>PM.bind (B9 en L) fun c=>PM.pure (Aj 5 t ⟨#[]⟩ [.mk aA aB aC aD aE,.mk aF aG aH aJ aM,c])) aN dp):=Lq7 (by rw[aZ.out,E6.out]<;>rfl)
  clear aZ E6;have cC:=Lq7 (D3 bp true en aN (dp) dE bC.out.ps (Ga Hr bL));(try unfold ptr at cC);go_wp2_with fail;refine Dl (dp) cC Hr bL (Inc.take _) (by omega) (fun hg hf=>⟨rfl,by rw[hf];exact⟨Ag bC.out.grown hg,rfl⟩⟩) ?_;rintro x292 dH eI v hm hg bO-bM;have bR:=Lq7 (bC.out.call hg bO);clear hm hg bO cC bC bL;have cD:=Lq7 (eX.out eI dH (dp) bR.out.ps (by omega) (by omega) (Ga Hr bM));(try unfold ptr at cD);go_wp2_with fail;refine Dl (dp) cD Hr bM (Inc.block hL) (by omega) (fun hg hf=>⟨rfl,by rw[hf];exact⟨Ag bR.out.grown hg,rfl⟩⟩) ?_;rintro eJ ts297 dI v hm hg bO hv cR;obtain⟨aR,aU,aV,aW,aY⟩:=eJ;obtain⟨eK,cU,rfl,bA⟩:=A7.open hv;have Hccap300:=Lq7 (A7.cap hv);have dJ:=Lq7 ((bR.out.call hg bO).row bA bR.out.grown.size bR.out.lt);clear hv bA;clear hm hg bO cD bR bM;have cE:=Lq7 (dJ.out.lit 27 [[A B aR,C aU,A B aV,A B aW,E eK aY.length cU]] [.mk aR aU aV aW aY] rfl (by simp) rfl (fun j n c hj hc=>by
   have dB:=(lgS.1 hc).1;simp only[lnC,lnN] at dB;obtain rfl:j=0:=by omega
   ·simp at hj hc;subst hj hc;exact⟨_,_,_,_,_,_,_,rfl,rfl,.inl (by simp)⟩))
  clear dJ
  go_wp2_with (at_builtin;refine Bv rfl _ _ 25 rfl w.heap.size 27 i0 _ 5 64 Tryz.underlying25 hi eZ fA fB rfl (by decide) dU (PF w [(b6,#[A B t.kind,C t.text,A B t.line,A B t.col],67),(w.heap.size,#[A B 0,C ⟨#[]⟩,A B 0,A B 0,E D 0 0],27)]) (Au (([.mk aA aB aC aD aE]:List Nd)++([.mk aF aG aH aJ aM]:List Nd))) rfl cE.out.od dI.heap.size 0 1 (Au [.mk aR aU aV aW aY]) ?_ (cE.out.rd ((I ⟨dI.heap.size,0,D⟩),[.mk aR aU aV aW aY]) (by simp)) (Cg Ed _) (Cg Ef _) ?_ ?_ ?_ ?_)
  ·rw[Ah];rfl
  ·rw[Ah,Ah];unfold maxLen;simp only[lnA,lnC,lnN];omega
  ·rw[Ah,Ah];simp only[lnA,lnC,lnN];omega
  ·exact cE.out.grown.size
  intro v302 eL bB aQ bY;have cF:=Lq7 (cE.out.grew bB aQ (fun g hg=>(bY g hg).imp id (fun h=>by simpa using h)));clear bB aQ bY cE;obtain⟨eM,eN,eO,eP,eQ⟩:=B3 (cF.out.at (b:=b6) (cs:=#[A B t.kind,C t.text,A B t.line,A B t.col]) (T:=67) (by simp));go_wp2_with fail;clear eM eN eO eP eQ;obtain⟨cV,bN,eB,bD⟩:=cF.out.sliceC;have cA:=Lq7 bD;clear bD;subst eB;have dK:=Lq7 cF.out.toRow;clear cF;have cQ:=Lq7 (F9 5 t ⟨#[]⟩ cV (([.mk aA aB aC aD aE]:List Nd)++([.mk aF aG aH aJ aM]:List Nd)++([.mk aR aU aV aW aY]:List Nd)).length bN eL);unfold tokV Ka at cQ;refine cQ.out.mono ?_;rintro e w313 ⟨rfl,hb⟩;have dL:=Lq7 (dK.out.below hb);clear hb cQ dK;obtain⟨eR,eS,eT,eU,eV,eW,r321,r322,r323,r324,r325⟩:=Aa (dL.out.at (b:=w.heap.size) (cs:=#[A B 0,C ⟨#[]⟩,A B 0,A B 0,E D 0 0]) (T:=27) (by simp));go_wp2_with fail;refine bodyPost_ret (v:=M #[A B 5,C ⟨#[]⟩,A B t.line,A B t.col,E cV (([.mk aA aB aC aD aE]:List Nd)++([.mk aF aG aH aJ aM]:List Nd)++([.mk aR aU aV aW aY]:List Nd)).length bN]) (by simp[results,Tryz.results34,go_sem,eS,eT,eU,eV,eW]) rfl ?_;have G:=Lq7 (dL.out.put5 1 rfl (A B 5) (C ⟨#[]⟩) (A B t.line) (A B t.col) (E cV (([.mk aA aB aC aD aE]:List Nd)++([.mk aF aG aH aJ aM]:List Nd)++([.mk aR aU aV aW aY]:List Nd)).length bN));rw[cR.out];exact⟨G.out.grown,G.out.ps,_,rfl,A7.mk _ _ _ _ _ (G.out.hand (by simp[])) (fun _=>cA.out)⟩
theorem stmt_any(bp en L)(hL:I0 L)(hx:Does 68 bp en VNode (Dd en L))(hb0:Does 69 bp en VNode (B9 en L))(hr0:Does 70 bp en VNode (pRule en L))(hc:Does 71 bp en VNode (pCall en L)):Does 34 bp en VNode (pStmt en L):=by
 refine Does.mkW fun w ts d z S Hr H d0 d1=>?_;cases h1:A5 en ts [102,111,114]
 ·cases h2:A5 en ts [105,102];rotate_left
  ·have h:=stmt_if bp en L hL hx hb0 w ts d H.out.ps d0 d1 (by rw[<-S.out];exact Hr.out) h1 h2
   rwa [<-S.out] at h
  unfold pStmt at S;simp only[pLook] at S;have Hx:=Lq7 (DN.mk hx (Inc.expr hL));have Hy:=Lq7 (DN.mk hb0 (Inc.block hL));have Hz:=Lq7 (DN.mk hr0 (Inc.rule hL));have Hu:=Lq7 (DN.mk hc (Inc.call hL));clear hx hb0 hr0 hc;cases h3:A5 en ts [114,117,108,101]
  ·cases h4:Bb en ts
   ·(simp only[h1,h2,h3,h4,Bool.false_and,Bool.false_eq_true,if_false] at S;go_enter Tryz.func34,Tryz.ntmps34;go_wp2_with fail;exact drv)
   ·cases h5:Az en ts 1 [40]<;>(simp only[h1,h2,h3,h4,h5,Bool.and_true,Bool.and_false,Bool.false_eq_true,if_true,if_false] at S;go_enter Tryz.func34,Tryz.ntmps34;go_wp2_with fail;exact drv)
  ·(simp only[h1,h2,h3,Bool.false_eq_true,if_true,if_false] at S;go_enter Tryz.func34,Tryz.ntmps34;go_wp2_with fail;exact drv)
 ·unfold pStmt at S;simp only[pLook] at S;have Hx:=Lq7 (DN.mk hx (Inc.expr hL));have Hy:=Lq7 (DN.mk hb0 (Inc.block hL));clear hx hb0 hr0 hc
  (simp only[h1,if_true] at S;go_enter Tryz.func34,Tryz.ntmps34;go_wp2_with fail;exact drv)
theorem sum_any(bp en L)(hi:Inc 0 (pPrim en L))(hx:Does 160 bp en VNode (pPrim en L)):Does 112 bp en VNode (pSum en L):=by
 refine Does.mkW fun w ts d z S Hr H d0 d1=>?_;have Hx:=Lq7 (DN.mk hx hi);have S:Hid (z=PM.bind (pPrim en L) (fun x ts d=>pSumGo en L (ts.length+1) x ts d) ts d):=S;clear hx hi;go_enter Tryz.func112,Tryz.ntmps112;go_wp2_with fail;refine M4 Hx.out Hr S ?_;intro k t l c s a p aC V H S hc;have H:=Lq7 (H.out.alloc #[A B k,C t,A B l,A B c,E a s.length p] 27);go_wp2_with fail;generalize V.alloc _=W at H |-;generalize V.heap.size=b1 at H |-
 go_loopg [] (aC.length+1) (fun g wr=>∃(k0:Int) (t0:ByteArray) (l0 c0:Int) (aA:List Nd) (a0:Option Addr) (aB:Nat) (aC:List Tok),Hid (z=pSumGo en L g (.mk k0 t0 l0 c0 aA) aC d)/\Hid (PI w bp en aC d [(b1,#[A B k0,C t0,A B l0,A B c0,E a0 aA.length aB],27),(w.heap.size,#[A B 0,C ⟨#[]⟩,A B 0,A B 0,E D 0 0],27)] [(a0,aA)] wr)/\Hid (F5 k0=true->aA.length<=aB))
 case atStart=>exact⟨_,_,_,_,_,_,_,_,S,H,hc⟩
 case round=>
  clear S H hc;obtain⟨k0,t0,l0,c0,aA,a0,aB,ts2,S,H,hc⟩:=hrel;cases gk with
  | zero=>exact absurd S.out Hr.out
  | succ g=>
   unfold pSumGo at S;refine goM ?_;exact drv
theorem Qn{α f bp en}{val:Nat->α->World->Value->Prop}:Does f bp en val (fun _ _=>(.out:PR α)):=fun _ _ _ _ _ _ h=>absurd rfl h
theorem Vx(bp en):∀n,Does 68 bp en VNode (lvl en n).expr/\Does 160 bp en VNode (lvl en n).prim/\Does 34 bp en VNode (lvl en n).stmt
 | 0=>⟨Qn,Qn,Qn⟩
 | n+1=>by
  obtain⟨h1,h2,h3⟩:=Vx bp en n;have hL:=I0.lvl en n;have harg:=arg_any bp en (lvl en n) hL h1;have hcall:=call_any bp en (lvl en n) hL harg;have hentry:=Abk bp en (lvl en n) hL h1;have hprim:=prim_any bp en (lvl en n) hL h1 h2 hcall hentry;have hsum:=sum_any bp en (lvl en n) (Inc.prim hL) hprim;have hexpr:=expr_any bp en (lvl en n) (Inc.sum hL) hsum;have hblock:=Abg bp en (lvl en n) hL h3;have hparam:=Aa9 bp en (lvl en n) hL hexpr;have hrule:=rule_any bp en (lvl en n) hL hparam hblock;have hstmt:=stmt_any bp en (lvl en n) hL hexpr hblock hrule hcall;exact⟨hexpr,hprim,hstmt⟩
theorem tokensL_few:∀(f:Nat) (p:Int×Int) (l:List UInt8) (ts:List Tok),Bt f p l = .ok ts->ts.length<=f
 | 0,_,_,ts,h=>by cases h;simp
 | f+1,p,l,ts,h=>by
  rw[Bt] at h;split at h
  ·cases h;simp
  ·split at h
   ·cases h
   ·split at h
    ·cases h
    ·rename_i ts' h'
     have:=tokensL_few f _ _ _ h';cases h;split
     ·simp;exact this
     ·omega
theorem lexL_few{l ts}(h:G6 l = .ok ts):ts.length<=65537:=by
 unfold G6 at h;split at h
 ·cases h
 ·have:=tokensL_few _ _ _ _ h;omega
def Ev(p:Int×Int)(c:UInt8):Int×Int:=if c=10 then(p.1+1,1) else(p.1,p.2+1)
theorem endL_eq(l):Id l=l.foldl Ev (1,1):=rfl
theorem Aba(l:List UInt8):∀p:Int×Int,0<=p.1->0<=p.2->0<=(l.foldl Ev p).1/\0<=(l.foldl Ev p).2/\(l.foldl Ev p).1<=p.1+l.length/\(l.foldl Ev p).2<=p.2+1+l.length:=by
 induction l with
 | nil=>intro p h1 h2;exact⟨h1,h2,by simp,by simp;omega⟩
 | cons c t ih=>
  intro p h1 h2;rw[List.foldl_cons];by_cases hc:c=10
  ·rw[show Ev p c=(p.1+1,1) from if_pos hc];obtain⟨a,b,d,e⟩:=ih (p.1+1,1) (by simp;omega) (by simp);refine⟨a,b,by simp at d |-;omega,by simp at e |-;omega⟩
  ·rw[show Ev p c=(p.1,p.2+1) from if_neg hc];obtain⟨a,b,d,e⟩:=ih (p.1,p.2+1) h1 (by simp;omega);refine⟨a,b,by simp at d |-;omega,by simp at e |-;omega⟩
def PEnd(p:Int×Int)(w:World)(e:Ending)(w':World):Prop:=e = .returned (M #[A B p.1,A B p.2])/\Below w.heap.size w w'
theorem end_any(s w)(hs:s.size<=65536):Calls Tryz.prog 17 #[C s] w (PEnd (Id s.data.toList) w):=by
 go_enter Tryz.func17,Tryz.ntmps17;go_wp2
 go_loopw [8] (fun i wr=>∃(k:Nat) (p:Int×Int),k<=s.size/\i = A B k/\Hid (p=(s.data.toList.take k).foldl Ev (1,1))/\wr=(w.alloc (J #[A B 0,A B 0] 24)).alloc (J #[A B p.1,A B p.2] 24)) (fun i _=>s.size-(intOf i).toNat)
 case atStart=>exact⟨0,(1,1),Nat.zero_le _,rfl,Lq7 rfl,rfl⟩
 case round=>
  obtain⟨k,p,hk,rfl,hp,rfl⟩:=hrel;have hl:(s.data.toList.take k).length<=k:=List.length_take_le _ _;obtain⟨b1,b2,b3,b4⟩:=Aba (s.data.toList.take k) (1,1) (by simp) (by simp);rw[<-hp.out] at b1 b2 b3 b4;simp only at b3 b4;by_cases hlt:k<s.size
  ·have aD:Hid ((s.data.toList.take (k+1)).foldl Ev (1,1)=Ev p s[k]):=Lq7 (by
    rw[List.take_succ_eq_append_getElem (by rw[Al];exact hlt),List.foldl_append,<-hp.out];rfl)
   cases hc:(((s[k]:UInt8).toNat:Int)==10)
   ·have aA:(s[k]:UInt8)≠10:=(by intro e;rw[e] at hc;cases hc);have aB:Hid (Ev p s[k]=(p.1,p.2+1)):=Lq7 (by unfold Ev;rw[if_neg aA]);clear aA;go_wp2;go_roundw
    case rel=>exact⟨k+1,(p.1,p.2+1),by omega,by go_num,Lq7 (by rw[aD.out,aB.out]),rfl⟩
    case measure=>simp[intOf];omega
   ·have aA:(s[k]:UInt8)=10:=by
     have:((s[k]:UInt8).toNat:Int)=10:=(by simpa using hc);exact UInt8.toNat_inj.1 (by show _=10;omega)
    have aB:Hid (Ev p s[k]=(p.1+1,1)):=Lq7 (by unfold Ev;rw[if_pos aA]);clear aA;go_wp2;go_roundw
    case rel=>exact⟨k+1,(p.1+1,1),by omega,by go_num,Lq7 (by rw[aD.out,aB.out]),rfl⟩
    case measure=>simp[intOf];omega
  ·have aC:Hid (Id s.data.toList=p):=Lq7 (by rw[endL_eq,hp.out,List.take_of_length_le (by rw[Al];omega)]);go_wp2;refine bodyPost_ret (v:=M #[A B p.1,A B p.2]) (by simp[results,Tryz.results17,go_sem]) rfl ?_;rw[aC.out];exact⟨rfl,((bRf _ w).alloc (nlr _) _).alloc (by simp) _⟩
def PRead(s:ByteArray)(w:World)(e:Ending)(w':World):Prop:=
 Below w.heap.size w w'/\match readL s.data.toList with
  | some (.ok n)=>∃v,e = .returned (.tuple #[v,A B 0,M #[A B 0,A B 0]])/\A7 (fun b=>w.heap.size<=b) w' n v
  | some (.error x)=>e = .returned (.tuple #[.agg zeroNode,A B x.1,M #[A B x.2.1,A B x.2.2]])
  | none=>True
structure RdB(w W:World)(n:Array Value)(e l c:Int):Prop where
 below:Below w.heap.size w W
 a:W.heap[w.heap.size]? = I (.cells n 27 (0,0))
 b:W.heap[w.heap.size+1]? = I (J #[A B e] 28 (0,0))
 c:W.heap[w.heap.size+1+1]? = I (J #[A B l,A B c] 24 (0,0))
section
variable {w W W':World} {n:Array Value} {e l c:Int}
theorem RdB.later(h:RdB w W n e l c)(hb:Below W.heap.size W W'):RdB w W' n e l c:=
 ⟨h.below.trans (hb.mono h.below.size),(hb.block _ (agS.1 h.a).1).trans h.a,(hb.block _ (agS.1 h.b).1).trans h.b,(hb.block _ (agS.1 h.c).1).trans h.c⟩
theorem RdB.setB(h:RdB w W n e l c)(x:Int):RdB w (W.setCell ⟨w.heap.size+1,0,D⟩ (A B x)) n x l c:=
 ⟨h.below.setCell (p:=⟨w.heap.size+1,0,D⟩) (by simp) _,(Ad (by omega) 0 _).trans h.a,by rw[Af h.b 0];rfl,(Ad (by omega) 0 _).trans h.c⟩
theorem RdB.setC(h:RdB w W n e l c)(x y:Int):RdB w ((W.setCell ⟨w.heap.size+1+1,0,D⟩ (A B x)).setCell ⟨w.heap.size+1+1,1,D⟩ (A B y)) n e x y:=
 ⟨(h.below.setCell (p:=⟨w.heap.size+1+1,0,D⟩) (by simp;omega) _).setCell (p:=⟨w.heap.size+1+1,1,D⟩) (by simp;omega) _,((Ad (by omega) 1 _).trans (Ad (by omega) 0 _)).trans h.a,((Ad (by omega) 1 _).trans (Ad (by omega) 0 _)).trans h.b,
  by rw[Af (Af h.c 0 (A B x)) 1];rfl⟩
theorem RdB.setA{x0 x1 x2 x3 x4:Value}(h:RdB w W #[x0,x1,x2,x3,x4] e l c)(v0 v1 v2 v3 v4:Value):
  RdB w (((((W.setCell ⟨w.heap.size,0,D⟩ v0).setCell ⟨w.heap.size,1,D⟩ v1).setCell ⟨w.heap.size,2,D⟩ v2).setCell ⟨w.heap.size,3,D⟩ v3).setCell ⟨w.heap.size,4,D⟩ v4) #[v0,v1,v2,v3,v4] e l c:=by
 have hs:∀k,k≠w.heap.size->(((((W.setCell ⟨w.heap.size,0,D⟩ v0).setCell ⟨w.heap.size,1,D⟩ v1).setCell ⟨w.heap.size,2,D⟩ v2).setCell ⟨w.heap.size,3,D⟩ v3).setCell ⟨w.heap.size,4,D⟩ v4).heap[k]? = W.heap[k]?:=fun k hk=>by
  rw[Ad hk,Ad hk,Ad hk,Ad hk,Ad hk]
 refine⟨((((h.below.setCell (p:=⟨w.heap.size,0,D⟩) (nlr _) _).setCell (p:=⟨w.heap.size,1,D⟩) (nlr _) _).setCell (p:=⟨w.heap.size,2,D⟩) (nlr _) _).setCell (p:=⟨w.heap.size,3,D⟩) (nlr _) _).setCell (p:=⟨w.heap.size,4,D⟩) (nlr _) _,?_,(hs _ (by omega)).trans h.b,(hs _ (by omega)).trans h.c⟩;rw[Af (Af (Af (Af (Af h.a 0 v0) 1 v1) 2 v2) 3 v3) 4 v4];rfl
end
theorem Sd(w):RdB w (((w.alloc (J #[A B 0,C ⟨#[]⟩,A B 0,A B 0,E D 0 0] 27)).alloc (J #[A B 0] 28)).alloc (J #[A B 0,A B 0] 24)) #[A B 0,C ⟨#[]⟩,A B 0,A B 0,E D 0 0] 0 0 0:=by
 refine⟨(((bRf _ w).alloc (nlr _) _).alloc (by simp) _).alloc (by simp;omega) _,?_,?_,?_⟩
 ·rw[Below.heap_alloc _ _ _ (by simp;omega),Below.heap_alloc _ _ _ (by simp)];exact heap_alloc_new w _
 ·rw[Below.heap_alloc _ _ _ (by simp)];have:=heap_alloc_new (w.alloc (J #[A B 0,C ⟨#[]⟩,A B 0,A B 0,E D 0 0] 27)) (J #[A B 0] 28)
  simpa using this
 ·have:=heap_alloc_new ((w.alloc (J #[A B 0,C ⟨#[]⟩,A B 0,A B 0,E D 0 0] 27)).alloc (J #[A B 0] 28)) (J #[A B 0,A B 0] 24)
  simpa using this
theorem Ds{w:World}{b:Nat}{x t}(h:w.heap[b]? = I (J #[x] t (0,0))):w.cell? ⟨b,0,D⟩=I x/\w.frozen? ⟨b,0,D⟩=false:=by
 obtain⟨h1,h2,h3⟩:=Ao h;exact⟨h2 0,h3 0⟩
theorem Dt{W:World}{b k:Nat}(hk:k≠b)(v0 v1 v2 v3 v4):(((((W.setCell ⟨b,0,D⟩ v0).setCell ⟨b,1,D⟩ v1).setCell ⟨b,2,D⟩ v2).setCell ⟨b,3,D⟩ v3).setCell ⟨b,4,D⟩ v4).heap[k]? = W.heap[k]?:=by
 rw[Ad hk,Ad hk,Ad hk,Ad hk,Ad hk]
theorem Yg(W):(Instr.typeAssert .nilIface 20 60 true).run Tryz.prog W = .ok (.tuple #[M #[A B 0,A B 0,A B 0],.bool false]) W:=by kernel_rfl
theorem Tr(W v):(Instr.typeAssert (.iface 60 v) 20 60 true).run Tryz.prog W = .ok (.tuple #[v,.bool true]) W:=by kernel_rfl
theorem Vy(w W n e l c)(h:RdB w W n e l c):
  CallsD Tryz.prog 16 #[F (I ⟨w.heap.size,0,D⟩),F (I ⟨w.heap.size+1,0,D⟩),F (I ⟨w.heap.size+1+1,0,D⟩)] .returning W
   (fun e' u' w'=>e' = .returned (.tuple #[])/\u' = .returning/\RdB w w' n e l c/\Below W.heap.size W w'):=by
 have H:=Lq7 h;have hta:=Yg;refine callsD_of_wpS Tryz.func16 rfl fun c₀ cs hu=>?_;apply wpS_seq;apply wpS_region;simp[wpOpsS,go_sem,recoverD,hu,Tryz.ntmps16,Exit.thenS];refine wpS_of_wp ?_;simp only[Array.replicate_succ,Array.replicate_zero,List.push_toArray,List.append_toArray,List.nil_append,List.cons_append,laA,lsA,lsB];go_wp2_with fail;refine⟨rfl,_,by cases c₀;simp_all,_,results_none rfl _ _ _,rfl,rfl,H.out.later ((bRf _ W).alloc (nlr _) _),(bRf _ W).alloc (nlr _) _⟩
theorem Ts(w W x0 x1 x2 x3 x4 e l c ex lx cx)(h:RdB w W #[x0,x1,x2,x3,x4] e l c):
  CallsD Tryz.prog 16 #[F (I ⟨w.heap.size,0,D⟩),F (I ⟨w.heap.size+1,0,D⟩),F (I ⟨w.heap.size+1+1,0,D⟩)] (.panicking [{ v:=Ei ex lx cx,recovered:=false}]) W
   (fun e' u' w'=>e' = .returned (.tuple #[])/\u' = .panicking [{ v:=Ei ex lx cx,recovered:=true}]/\RdB w w' zeroNode ex lx cx):=by
 have H:=Lq7 h;have hta:=Tr;unfold Ei;refine callsD_of_wpS Tryz.func16 rfl fun c₀ cs hu=>?_;apply wpS_seq;apply wpS_region;simp[wpOpsS,go_sem,recoverD,hu,Tryz.ntmps16,Exit.thenS];refine wpS_of_wp ?_;simp only[Array.replicate_succ,Array.replicate_zero,List.push_toArray,List.append_toArray,List.nil_append,List.cons_append,laA,lsA,lsB];go_wp2_with fail;have H1:=Lq7 (H.out.later ((bRf _ W).alloc (nlr _) (J #[A B ex,A B lx,A B cx] 60)));have aD:=heap_alloc_new W (J #[A B ex,A B lx,A B cx] 60);have hsz:w.heap.size+3<=W.heap.size:=by
  have:=(agS.1 H.out.c).1;omega
 generalize hW:W.alloc (J #[A B ex,A B lx,A B cx] 60)=W1 at H1 aD |-;generalize hwq:W.heap.size=wb at aD hsz |-;have aG:=Lq7 aD;refine Bm (.s 0 (.s 1 (.s 2 (.s 3 (.s 4 (.h 5 (.h 6 (.h 7 .nil)))))))) 99 (fun W'=>W'.heap[wb]? = I (J #[A B ex,A B lx,A B cx] 60 (0,0))) aG.out ?_;have aE:=Lq7 (H1.out.later ((bRf _ W1).drew));have aC:Hid (W1.drew.heap[wb]? = I (J #[A B ex,A B lx,A B cx] 60 (0,0))):=Lq7 aG.out;generalize W1.drew=Wd at aE aC |-;refine Aw (M #[A B 0,C ⟨#[]⟩,A B 0,A B 0,E D 0 0]) ?_;refine Aw (F (I ⟨wb,0,D⟩)) ?_;refine A9 (A B ex) ?_;refine Aw (F (I ⟨wb,1,D⟩)) ?_;refine A9 (M #[A B lx,A B cx]) ?_;obtain⟨r0,r1,r2,r3,r4,r5,r6,r7,r8,r9,r10⟩:=Aa aE.out.a;refine Ae rfl (fun Kx hKx=>?_);go_wp2_with fail;have H2:=Lq7 (aE.out.setA (A B 0) (C ⟨#[]⟩) (A B 0) (A B 0) (E D 0 0));have aA:=Lq7 ((Dt (W:=Wd) (b:=w.heap.size) (k:=wb) (by omega) (A B 0) (C ⟨#[]⟩) (A B 0) (A B 0) (E D 0 0)).trans aC.out);refine hKx _ _ (fun _=>aA.out) ?_;generalize wsC _ _ _=W2 at H2 aA |-;(try simp only[gX,aP]);obtain⟨b0,b1⟩:=Ds H2.out.b;refine Ae rfl (fun Ky hKy=>?_);go_wp2_with fail;have H3:=Lq7 (H2.out.setB ex);have aB:=Lq7 ((Ad (w:=W2) (b:=w.heap.size+1) (k:=wb) (by omega) 0 (A B ex)).trans aA.out);refine hKy _ _ (fun _=>aB.out) ?_;generalize wsC _ _ _=W3 at H3 aB |-;(try simp only[gX,aP]);obtain⟨c0,c1,c2,c3,c4⟩:=A8 H3.out.c;refine Ae rfl (fun Kz hKz=>?_);go_wp2_with fail;have H4:=Lq7 (H3.out.setC lx cx);have aF:=Lq7 (((Ad (w:=W3.setCell ⟨w.heap.size+1+1,0,D⟩ (A B lx)) (b:=w.heap.size+1+1) (k:=wb) (by omega) 1 (A B cx)).trans (Ad (by omega) 0 (A B lx))).trans aB.out);refine hKz _ _ (fun _=>aF.out) ?_;refine A2 ?_;refine⟨rfl,_,rfl,_,results_none rfl _ _ _,rfl,rfl,H4.out⟩
theorem Ye{l e}(h:Bu l = .error e):e=2\/e=3:=by
 unfold Bu at h;split at h
 ·cases h;exact .inr rfl
 ·split at h
  ·cases h
  ·split at h
   ·cases h
   ·split at h
    ·cases h
    ·split at h
     ·unfold C8 at h;split at h
      ·cases h;exact .inr rfl
      ·split at h
       ·cases h;exact .inl rfl
       ·cases h
     ·split at h
      ·split at h
       ·cases h
       ·cases h;exact .inr rfl
      ·split at h
       ·cases h
       ·split at h
        ·cases h
        ·cases h;exact .inr rfl
theorem tokensL_err:∀(f:Nat) (p:Int×Int) (l:List UInt8) (x:Int×Int×Int),Bt f p l = .error x->x.1=2\/x.1=3
 | 0,_,_,x,h=>by cases h
 | f+1,p,l,x,h=>by
  rw[Bt] at h;split at h
  ·cases h
  ·split at h
   ·rename_i e he
    cases h;exact Ye he
   ·split at h
    ·rename_i e he
     cases h;exact tokensL_err f _ _ _ he
    ·cases h
theorem lexL_err{l x}(h:G6 l = .error x):x.1=2\/x.1=3\/x.1=6:=by
 unfold G6 at h;split at h
 ·cases h;exact .inr (.inr rfl)
 ·rcases tokensL_err _ _ _ _ h with h|h
  ·exact .inl h
  ·exact .inr (.inl h)
theorem Yf{l ts}(h:G6 l = .ok ts):l.length<=65536:=by
 unfold G6 at h;split at h
 ·cases h
 ·omega
theorem readSame(d)(hd:5<=d)(tmps v w):(results Tryz.f6 (tmps.setIfInBounds d v)).run Tryz.prog w=(results Tryz.f6 tmps).run Tryz.prog w:=by
 have h:∀k,k<5->(tmps.setIfInBounds d v).getD k undef=tmps.getD k undef:=fun k hk=>by
  rw[Array.getD_eq_getD_getElem?,Array.getD_eq_getD_getElem?,Array.getElem?_setIfInBounds_ne (by omega)]
 simp only[results,Tryz.results6,List.mapM_toArray,List.mapM_cons,List.mapM_nil,h 2 (by omega),h 3 (by omega),h 4 (by omega)]
theorem readQ{ops:Array Oper}{R:Ending->World->Prop}{Q:Exit->Act->World->Prop}(hq:∀c a w,Q (.panic c) a w=bodyPostD Tryz.prog Tryz.f6 R (.panic c) a w)(hops:(ops.toList.all fun o=>match o.dst with|none=>true|some d=>decide (5<=d))=true):
  ∀(i:Nat) (o:Oper),ops[i]? = I o->∀c a v w,Q (.panic c) (a.put o.dst v) w->Q (.panic c) a w:=by
 intro i o ho c a v w h;rw[hq] at h |-;have hd:=List.all_eq_true.1 hops o (lgM (by rw[Array.getElem?_toList];exact ho));cases hdst:o.dst with
 | none=>rw[hdst] at h;exact h
 | some d=>
  rw[hdst] at h hd;have hd5:5<=d:=(by simpa using hd);exact Lb (fun w=>readSame d hd5 a.tmps v w) a.defers _ _ h
theorem read_lex(s w)(hs:s.size<=9223372036854775807)(hw:Lt w)(x)(hl:G6 s.data.toList = .error x):
  Calls Tryz.prog 6 #[C s] w (PRead s w):=by
 have aB:=Sd w;have aA:=Lq7 (Tl s _ hs (hw.below aB.below));have H0:=Lq7 aB;have hx:=lexL_err hl;have hx0:(x.1==0)=false:=(by rw[beq_eq_false_iff_ne];omega);have hx1:(x.1 != 0)=true:=(by rw[bne,hx0];rfl);have Hr:Hid (readL s.data.toList=I (.error x)):=Lq7 (by unfold readL;rw[hl]);have Hl:=Lq7 hl
 go_enter_defers Tryz.func6,Tryz.ntmps6
 go_wp2_with fail;refine aA.out.mono ?_;rintro e w1 ⟨hb1,hq⟩;rw[Hl.out] at hq;obtain rfl:=hq;have H1:=Lq7 (H0.out.later hb1);obtain⟨b0,b1⟩:=Ds H1.out.b;obtain⟨c0,c1,c2,c3,c4⟩:=A8 H1.out.c;have hbl:w.heap.size+1<w1.heap.size:=(agS.1 H1.out.b).1
 go_upto_region 2 with fail
 have H2:=Lq7 ((H1.out.setB x.1).setC x.2.1 x.2.2);generalize wsC _ _ _=W2 at H2 |-;obtain⟨b0,b1⟩:=Ds H2.out.b;go_wp2_with fail;refine Jl (.s 0 (.s 1 (.s 2 (.h 3 (.h 4 (.h 5 .nil)))))) 99 (fun W'=>W'.heap[w.heap.size]? = I (J #[A B 0,C ⟨#[]⟩,A B 0,A B 0,E D 0 0] 27 (0,0))/\W'.heap[w.heap.size+1]? = I (J #[A B x.1] 28 (0,0))/\W'.heap[w.heap.size+1+1]? = I (J #[A B x.2.1,A B x.2.2] 24 (0,0))) (by kernel_rfl) (by kernel_rfl) (readQ (fun _ _ _=>rfl) (by kernel_rfl)) ⟨H2.out.a,H2.out.b,H2.out.c⟩ ?_;have H3:=Lq7 (H2.out.later ((bRf _ W2).drew));generalize W2.drew=W3 at H3 |-;refine Bp (M #[A B 0,C ⟨#[]⟩,A B 0,A B 0,E D 0 0]) (fun W' hS=>?_) ?_
 ·obtain⟨s0,s1,s2,s3,s4,s5,s6,s7,s8,s9,s10⟩:=Aa hS.1;go_simp
 refine Bp (A B x.1) (fun W' hS=>?_) ?_
 ·obtain⟨s0,s1⟩:=Ds hS.2.1;go_simp
 refine Bp (M #[A B x.2.1,A B x.2.2]) (fun W' hS=>?_) ?_
 ·obtain⟨s0,s1,s2,s3,s4⟩:=A8 hS.2.2;go_simp
 obtain⟨r0,r1,r2,r3,r4,r5,r6,r7,r8,r9,r10⟩:=Aa H3.out.a;refine Ae rfl (fun Kx hKx=>?_);go_wp2_with fail;have H4:=Lq7 (H3.out.setA (A B 0) (C ⟨#[]⟩) (A B 0) (A B 0) (E D 0 0));refine hKx _ _ (fun _=>⟨H4.out.a,H4.out.b,H4.out.c⟩) ?_;generalize wsC _ _ _=W4 at H4 |-;(try simp only[gX,aP]);obtain⟨b0,b1⟩:=Ds H4.out.b;refine Ae rfl (fun Ky hKy=>?_);go_wp2_with fail;have H5:=Lq7 (H4.out.setB x.1);refine hKy _ _ (fun _=>⟨H5.out.a,H5.out.b,H5.out.c⟩) ?_;generalize wsC _ _ _=W5 at H5 |-;(try simp only[gX,aP]);obtain⟨c0,c1,c2,c3,c4⟩:=A8 H5.out.c;refine Ae rfl (fun Kz hKz=>?_);go_wp2_with fail;have H6:=Lq7 (H5.out.setC x.2.1 x.2.2);refine hKz _ _ (fun _=>⟨H6.out.a,H6.out.b,H6.out.c⟩) ?_;generalize wsC _ _ _=W6 at H6 |-;refine A2 ?_;(try simp only[gX,aP]);go_wp2_with fail;obtain⟨r0,r1,r2,r3,r4,r5,r6,r7,r8,r9,r10⟩:=Aa H6.out.a;obtain⟨b0,b1⟩:=Ds H6.out.b;obtain⟨c0,c1,c2,c3,c4⟩:=A8 H6.out.c;refine⟨.tuple #[.agg zeroNode,A B x.1,M #[A B x.2.1,A B x.2.2]],by simp[zeroNode,results,Tryz.results6,go_sem,r1,r2,r3,r4,r5,b0,c1,c2],?_⟩;refine⟨H6.out.below,?_⟩;rw[Hr.out]
theorem RdB.call{w W W' n e l c bp}(h:RdB w W n e l c)(hg:W.grownBy W' (I bp))(hb:w.heap.size+3<=bp):RdB w W' n e l c:=by
 have hs:=(agS.1 h.c).1;have hk:∀k,k<w.heap.size+3->W'.heap[k]? = W.heap[k]?:=fun k hk=>hg.block k (by omega) (fun e=>by cases e;omega);exact⟨⟨hg.os.trans h.below.os,hg.tape.trans h.below.tape,hg.output.trans h.below.output,Nat.le_trans h.below.size hg.size,fun k hl=>(hk k (by omega)).trans (h.below.block k hl)⟩,(hk _ (by omega)).trans h.a,(hk _ (by omega)).trans h.b,(hk _ (by omega)).trans h.c⟩
theorem read_ok(s w)(hs:s.size<=9223372036854775807)(hw:Lt w)(ts)(hl:G6 s.data.toList = .ok ts)(hne:readL s.data.toList≠D):
  Calls Tryz.prog 6 #[C s] w (PRead s w):=by
 have hmf:∀(fn:Fn) (first cap:Array Value) (w:World),(Instr.makeFunc fn first cap).run Tryz.prog w = .ok (.func fn first cap) w:=fun _ _ _ _=>rfl;have bL:=Sd w;have bD:=Lq7 (Tl s _ hs (hw.below bL.below));have H0:=Lq7 bL;have aA:=Yf hl;have hfew:=lexL_few hl;rw[Al] at aA;have Hl:=Lq7 hl;have bE:Hid (Cp (Id s.data.toList) (lvl (Id s.data.toList) (ts.length+2)) [] ts 0 ≠ .out):=Lq7 (fun h=>hne (by unfold readL;rw[hl];simp only[h]))
 go_enter_defers Tryz.func6,Tryz.ntmps6
 go_wp2_with fail;refine bD.out.mono ?_;rintro e w1 ⟨hb1,hq⟩;rw[Hl.out] at hq;obtain⟨a,cap,rfl,hcap,aG⟩:=hq;have H1:=Lq7 (H0.out.later hb1);have aR:=Lq7 hcap;have bG:=Lq7 aG;obtain⟨b0,b1⟩:=Ds H1.out.b;obtain⟨c0,c1,c2,c3,c4⟩:=A8 H1.out.c;have hbl:w.heap.size+1<w1.heap.size:=(agS.1 H1.out.b).1
 go_upto_region 2 with fail
 have H2:=Lq7 ((H1.out.setB 0).setC 0 0);have aC:Hid (Ac (fun b=>w.heap.size+3<=b) (((w1.setCell ⟨w.heap.size+1,0,D⟩ (A B 0)).setCell ⟨w.heap.size+1+1,0,D⟩ (A B 0)).setCell ⟨w.heap.size+1+1,1,D⟩ (A B 0)) a (ts.map N2)):=Lq7 (bG.out.mono fun b hb hl=>by
  have hb':w.heap.size+3<=b:=(by simpa using hb);exact⟨hb',by simpa using hl,by rw[Ad (by omega),Ad (by omega),Ad (by omega)]⟩)
 generalize wsC _ _ _=W2 at H2 aC |-;obtain⟨b0,b1⟩:=Ds H2.out.b;have bH:=Lq7 (end_any s W2 aA);go_wp2_with fail;refine bH.out.mono ?_;rintro e W3 ⟨rfl,bM⟩;have H3:=Lq7 (H2.out.later bM);have aU:=Lq7 (aC.out.below bM);generalize hen:Id s.data.toList=en at bE |-;have bN:=Lq7 hen;have aV:w.heap.size+3<=W3.heap.size:=by
  have:=(agS.1 H3.out.c).1;omega
 go_upto_region 7 with fail
 have bO:Below W3.heap.size W3 ((W3.alloc (J #[E a ts.length cap,A B en.1,A B en.2,A B 0] 65)).alloc (J #[A B 0,C ⟨#[]⟩,A B 1,A B 1] 67)):=((bRf _ W3).alloc (nlr _) _).alloc (by simp) _;have H4:=Lq7 (H3.out.later bO);have bI:Hid (PS ((W3.alloc (J #[E a ts.length cap,A B en.1,A B en.2,A B 0] 65)).alloc (J #[A B 0,C ⟨#[]⟩,A B 1,A B 1] 67)) W3.heap.size en ts 0):=Lq7
  ⟨a,cap,by rw[Below.heap_alloc _ _ _ (by simp)];exact heap_alloc_new W3 _,⟨aR.out.1,by omega⟩,aR.out.2,(aU.out.here.below bO).wider (fun b hb _=>hb.2)⟩
 have bC:Hid (((W3.alloc (J #[E a ts.length cap,A B en.1,A B en.2,A B 0] 65)).alloc (J #[A B 0,C ⟨#[]⟩,A B 1,A B 1] 67)).heap[W3.heap.size+1]? = I (J #[A B 0,C ⟨#[]⟩,A B 1,A B 1] 67 (0,0))):=Lq7 (by
  have:=heap_alloc_new (W3.alloc (J #[E a ts.length cap,A B en.1,A B en.2,A B 0] 65)) (J #[A B 0,C ⟨#[]⟩,A B 1,A B 1] 67)
  simpa using this)
 generalize hbp:W3.heap.size=bp at aV bI bC |-;generalize World.alloc _ _=W4 at H4 bI bC |-;refine Jl (.s 0 (.s 1 (.s 4 (.h 2 (.h 3 (.h 5 (.h 6 (.h 7 .nil)))))))) 99 (fun W'=>W'.heap[bp+1]? = I (J #[A B 0,C ⟨#[]⟩,A B 1,A B 1] 67 (0,0))) (by kernel_rfl) (by kernel_rfl) (readQ (fun _ _ _=>rfl) (by kernel_rfl)) bC.out ?_;have H5:=Lq7 (H4.out.later ((bRf _ W4).drew));have aH:=Lq7 (bI.out.grown ((bRf _ W4).drew));have aJ:Hid (W4.drew.heap[bp+1]? = I (J #[A B 0,C ⟨#[]⟩,A B 1,A B 1] 67 (0,0))):=Lq7 bC.out;generalize W4.drew=W5 at H5 aH aJ |-;refine A9 (M #[A B 0,C ⟨#[]⟩,A B 1,A B 1]) ?_;refine Aw (F (I ⟨bp,0,D⟩)) ?_;refine Aw (M #[A B 0,A B 0]) ?_;have bP:=Lq7 (Sc bp ⟨#[]⟩ en (lvl en (ts.length+2)) (I0.lvl en _) (Vx bp en (ts.length+2)).2.2 W5 ts 0 aH.out (by omega) (by omega) bE.out);unfold ptr at bP;refine Ae rfl (fun Kx hKx=>?_);go_wp2_with fail;refine bP.out.mono ?_;rintro e W6 ⟨aW,hq⟩;have H6:=Lq7 (H5.out.call aW aV);have aM:=Lq7 ((aW.block (bp+1) (agS.1 aJ.out).1 (fun e=>by cases e)).trans aJ.out);have hbl6:bp<W5.heap.size:=aH.out.lt;have hs6:=aW.size;cases hm:Cp en (lvl en (ts.length+2)) [] ts 0 with
 | out=>exact absurd hm bE.out
 | err x l c=>
  have hq':PP bp en (VRow W5.heap.size) (.err x l c) W5 e W6:=(by rw[<-hm];exact⟨aW,hq⟩);obtain rfl:=hq'.2;have Hr:Hid (readL s.data.toList=I (.error (x,l,c))):=Lq7 (by unfold readL;rw[Hl.out];simp only[bN.out,hm]);refine leaves_cons (f:=16) (args:=#[F (I ⟨w.heap.size,0,D⟩),F (I ⟨w.heap.size+1,0,D⟩),F (I ⟨w.heap.size+1+1,0,D⟩)]) (by simp) (by simp[go_sem]) ?_;refine(Ts w W6 _ _ _ _ _ _ _ _ x l c H6.out).mono ?_;rintro e u w2 ⟨rfl,rfl,h2⟩;obtain⟨r0,r1,r2,r3,r4,r5,r6,r7,r8,r9,bQ⟩:=Aa h2.a;obtain⟨b0,b1⟩:=Ds h2.b;obtain⟨c0,c1,c2,c3,c4⟩:=A8 h2.c;refine⟨.tuple #[.agg zeroNode,A B x,M #[A B l,A B c]],by simp[zeroNode,results,Tryz.results6,go_sem,r1,r2,r3,r4,r5,b0,c1,c2],?_⟩;refine⟨h2.below,?_⟩;rw[Hr.out]
 | ok x ts' dp'=>
  have hq':PP bp en (VRow W5.heap.size) (.ok x ts' dp') W5 e W6:=(by rw[<-hm];exact⟨aW,hq⟩);obtain⟨-,-,v,rfl,a2,aB,rfl,aG⟩:=hq';have Hr:Hid (readL s.data.toList=I (.ok (.mk 1 ⟨#[]⟩ 1 1 x))):=Lq7 (by unfold readL;rw[Hl.out];simp only[bN.out,hm]);have aY:=Lq7 aG;go_wp2_with fail;refine hKx _ _ (fun _=>aM.out) ?_;(try simp only[gX,aP]);have bR:=Lq7 (F9 1 ⟨0,⟨#[]⟩,1,1⟩ ⟨#[]⟩ a2 x.length aB W6);unfold tokV Ka at bR;refine Ae rfl (fun Ky hKy=>?_);go_wp2_with fail;refine bR.out.mono ?_;rintro e W7 ⟨rfl,bJ⟩;have H7:=Lq7 (H6.out.later bJ);have aZ:=Lq7 ((bJ.block _ (agS.1 aM.out).1).trans aM.out);have bA:=Lq7 (aY.out.below bJ);go_wp2_with fail;refine hKy _ _ (fun _=>aZ.out) ?_;(try simp only[gX,aP]);obtain⟨r0,r1,r2,r3,r4,r5,r6,r7,r8,r9,bQ⟩:=Aa H7.out.a;refine Ae rfl (fun Kz hKz=>?_);go_wp2_with fail;have H8:=Lq7 (H7.out.setA (A B 1) (C ⟨#[]⟩) (A B 1) (A B 1) (E a2 x.length aB));have aN:=Lq7 ((Dt (W:=W7) (b:=w.heap.size) (k:=bp+1) (by omega) (A B 1) (C ⟨#[]⟩) (A B 1) (A B 1) (E a2 x.length aB)).trans aZ.out);have aD:Hid (Ac (fun b=>w.heap.size+3<=b) (((((W7.setCell ⟨w.heap.size,0,D⟩ (A B 1)).setCell ⟨w.heap.size,1,D⟩ (C ⟨#[]⟩)).setCell ⟨w.heap.size,2,D⟩ (A B 1)).setCell ⟨w.heap.size,3,D⟩ (A B 1)).setCell ⟨w.heap.size,4,D⟩ (E a2 x.length aB)) a2 (Au x)):=Lq7 (bA.out.mono fun b hb hl=>⟨by omega,by simpa using hl,Dt (by omega) _ _ _ _ _⟩);refine hKz _ _ (fun _=>aN.out) ?_;generalize wsC _ _ _=W8 at H8 aN aD |-;(try simp only[gX,aP]);obtain⟨b0,b1⟩:=Ds H8.out.b;refine Ae rfl (fun Ku hKu=>?_);go_wp2_with fail;have H9:=Lq7 (H8.out.setB 0);have aQ:=Lq7 ((Ad (w:=W8) (b:=w.heap.size+1) (k:=bp+1) (by omega) 0 (A B 0)).trans aN.out);have aE:Hid (Ac (fun b=>w.heap.size+3<=b) (W8.setCell ⟨w.heap.size+1,0,D⟩ (A B 0)) a2 (Au x)):=Lq7 (aD.out.mono fun b hb hl=>⟨hb,by simpa using hl,Ad (by omega) _ _⟩);refine hKu _ _ (fun _=>aQ.out) ?_;generalize wsC _ _ _=W9 at H9 aQ aE |-;(try simp only[gX,aP]);obtain⟨c0,c1,c2,c3,c4⟩:=A8 H9.out.c;refine Ae rfl (fun Kv hKv=>?_);go_wp2_with fail;have Ha:=Lq7 (H9.out.setC 0 0);have bB:=Lq7 (((Ad (w:=W9.setCell ⟨w.heap.size+1+1,0,D⟩ (A B 0)) (b:=w.heap.size+1+1) (k:=bp+1) (by omega) 1 (A B 0)).trans (Ad (by omega) 0 (A B 0))).trans aQ.out);have aF:Hid (Ac (fun b=>w.heap.size+3<=b) ((W9.setCell ⟨w.heap.size+1+1,0,D⟩ (A B 0)).setCell ⟨w.heap.size+1+1,1,D⟩ (A B 0)) a2 (Au x)):=Lq7 (aE.out.mono fun b hb hl=>⟨hb,by simpa using hl,by rw[Ad (by omega),Ad (by omega)]⟩);refine hKv _ _ (fun _=>bB.out) ?_;generalize wsC _ _ _=Wa at Ha bB aF |-;refine A2 ?_;(try simp only[gX,aP]);go_wp2_with fail;refine leaves_cons (f:=16) (args:=#[F (I ⟨w.heap.size,0,D⟩),F (I ⟨w.heap.size+1,0,D⟩),F (I ⟨w.heap.size+1+1,0,D⟩)]) (by simp) (by simp[go_sem]) ?_;refine(Vy w Wa _ _ _ _ Ha.out).mono ?_;rintro e u w2 ⟨rfl,rfl,h2,hb2⟩;obtain⟨r0,r1,r2,r3,r4,r5,r6,r7,r8,r9,bQ⟩:=Aa h2.a;obtain⟨b0,b1⟩:=Ds h2.b;obtain⟨c0,c1,c2,c3,c4⟩:=A8 h2.c;refine⟨.tuple #[M #[A B 1,C ⟨#[]⟩,A B 1,A B 1,E a2 x.length aB],A B 0,M #[A B 0,A B 0]],by simp[results,Tryz.results6,go_sem,r1,r2,r3,r4,r5,b0,c1,c2],?_⟩;refine⟨h2.below,?_⟩;rw[Hr.out];exact⟨_,rfl,A7.mk _ _ _ _ _ ((aF.out.below hb2).wider (fun b hb _=>by omega))⟩
theorem Qo(s w)(hs:s.size<=9223372036854775807)(hw:Lt w)(hne:readL s.data.toList≠D):
  Calls Tryz.prog 6 #[C s] w (PRead s w):=by
 cases hl:G6 s.data.toList with
 | error x=>exact read_lex s w hs hw x hl
 | ok ts=>exact read_ok s w hs hw ts hl hne
end Go.Proofs.YtlbbbapiklendaaGreatDoor
