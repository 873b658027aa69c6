/-
  The sorted names of a map,as they lie in memory. (And what it stands on.)
-/
import Derived.Sort.KeysCollected
import Derived.Test.YtlbbbapiklendaaGreatDoorMRefNumB
import Derived.Test.YtlbbbapiklendaaGreatDoorMRawMap
namespace Go.Proofs.YtlbbbapiklendaaGreatDoor
open Go.IntKind renaming i64->E
open Go.Value renaming int->C,string->A,slice->J
open Option renaming some->B,none->I
open Go Go.RowKit
open Nat renaming le_refl->nlr,lt_of_lt_of_le->nll,le_trans->nlt
open Go.RowKit.Below renaming refl->bRf
set_option maxRecDepth 100000
set_option maxHeartbeats 16000000
structure Ctx where
 M:Nat->Prop
 F:Nat->Prop
structure Mv(c:Ctx)(w:World)(c':Ctx)(w':World):Prop where
 os:w'.os=w.os
 tape:w'.tape=w.tape
 output:w'.output=w.output
 size:w.heap.size<=w'.heap.size
 block:∀b,b<w.heap.size->¬c.M b->w'.heap[b]? = w.heap[b]?
 m:∀b,c'.M b->c.M b\/w.heap.size<=b
 f:∀b,c'.F b->c.F b\/w.heap.size<=b
theorem Mv.refl(c w):Mv c w c w:=⟨rfl,rfl,rfl,nlr _,fun _ _ _=>rfl,fun _ h=> .inl h,fun _ h=> .inl h⟩
theorem Mv.trans{c c1 c2 w w1 w2}(h:Mv c w c1 w1)(k:Mv c1 w1 c2 w2):Mv c w c2 w2:=
 ⟨k.os.trans h.os,k.tape.trans h.tape,k.output.trans h.output,nlt h.size k.size,
  fun b hb hn=>(k.block b (nll hb h.size) (fun hm=>by rcases h.m b hm with h1|h1;exact hn h1;omega)).trans (h.block b hb hn),
  fun b hm=>by rcases k.m b hm with h1|h1;exact h.m b h1;exact .inr (nlt h.size h1),
  fun b hm=>by rcases k.f b hm with h1|h1;exact h.f b h1;exact .inr (nlt h.size h1)⟩
theorem Mv.of_below(c){w w'}(h:Below w.heap.size w w'):Mv c w c w':=⟨h.os,h.tape,h.output,h.size,fun b hb _=>h.block b hb,fun _ h=> .inl h,fun _ h=> .inl h⟩
theorem Mv.below{c c1 w w1 w2}(h:Mv c w c1 w1)(k:Below w1.heap.size w1 w2):Mv c w c1 w2:=h.trans (.of_below c1 k)
theorem Mv.set{c c1 w w1}(h:Mv c w c1 w1){b}(hb:w.heap.size<=b\/c.M b)(i v):Mv c w c1 (w1.setCell ⟨b,i,I⟩ v):=
 ⟨h.os,h.tape,h.output,by simpa using h.size,fun k hk hn=>(Ad (fun e=>by rcases hb with hb|hb;omega;exact hn (e▸hb)) i v).trans (h.block k hk hn),h.m,h.f⟩
def Ctx.with(c:Ctx)(g:Nat->Prop):Ctx:=⟨c.M,fun b=>c.F b\/g b⟩
theorem Mv.with{c c1 w w1}(h:Mv c w c1 w1){g}(hg:∀b,g b->w.heap.size<=b):Mv c w (c1.with g) w1:=
 ⟨h.os,h.tape,h.output,h.size,h.block,h.m,fun b hb=>by rcases hb with hb|hb;exact h.f b hb;exact .inr (hg b hb)⟩
structure Ctx.Ok(c:Ctx)(w:World):Prop where
 ml:∀b,c.M b->b<w.heap.size
 fl:∀b,c.F b->b<w.heap.size
 apart:∀b,c.F b->¬c.M b
theorem Ctx.Ok.below{c:Ctx}{w w':World}(h:c.Ok w)(hs:w.heap.size<=w'.heap.size):c.Ok w':=⟨fun b hb=>nll (h.ml b hb) hs,fun b hb=>nll (h.fl b hb) hs,h.apart⟩
theorem Ctx.Ok.with{c:Ctx}{w:World}(h:c.Ok w){g:Nat->Prop}(hg:∀b,g b->b<w.heap.size/\¬c.M b):(c.with g).Ok w:=
 ⟨h.ml,fun b hb=>by rcases hb with hb|hb;exact h.fl b hb;exact(hg b hb).1,fun b hb=>by rcases hb with hb|hb;exact h.apart b hb;exact(hg b hb).2⟩
def NamesAt(F:Nat->Prop)(w:World)(m:List (Value×Value))(names:List (ByteArray×Vl)):Prop:=
 m.length=names.length/\∀(j:Nat) p q,m[j]? = B p->names[j]? = B q->p.1 = A q.1/\∃cs:List Value,p.2 = .agg cs.toArray/\Ai F w (valD q.2) cs
structure Dq where
 val:Value
 ans:Ans
 At:(Nat->Prop)->(Nat->Prop)->World->List Ask->Prop
 stab:∀{own F F':Nat->Prop} {w w':World} {log:List Ask},At own F w log->(∀b,F b->F' b)->w.heap.size<=w'.heap.size->(∀b,own b\/F b->b<w.heap.size->w'.heap[b]? = w.heap[b]?)->At own F' w' log
 std:∀{own F:Nat->Prop} {w:World} {log:List Ask},At own F w log->Em w/\StdB w
structure MS(c:Ctx)(w:World)(mp mb:Nat)(hv:Dq)(st:St):Prop where
 ok:c.Ok w
 head:w.heap[mp]? = B (.cells #[.map (B mb),hv.val,C E st.left] 73 (0,0))
 hm:c.M mp
 hb:c.M mb
 names:∃m,Cq w mb m/\NamesAt c.F w m st.names
 uniq:(st.names.map (·.1.data.toList)).Nodup
 left:st.left<=1000000 /\ -1<=st.left
 few:∀q∈st.names,Am q.2=true/\q.1.size<=maxLen
 host:∃own:Nat->Prop,(∀b,own b->c.M b/\b≠mp/\b≠mb)/\hv.At own c.F w st.log
theorem MS.std{c w mp mb hv st}(h:MS c w mp mb hv st):Em w/\StdB w:=let ⟨_,_,h⟩:=h.host;hv.std h
theorem NamesAt.mono{F G w w' m names}(h:NamesAt F w m names)(hk:∀b,F b->b<w.heap.size->G b/\b<w'.heap.size/\w'.heap[b]? = w.heap[b]?):NamesAt G w' m names:=
 ⟨h.1,fun j p q h1 h2=>by obtain⟨h3,cs,h4,h5⟩:=h.2 j p q h1 h2;exact⟨h3,cs,h4,h5.mono hk⟩⟩
theorem MS.below{c w w' mp mb hv st}(h:MS c w mp mb hv st)(hb:Below w.heap.size w w'):MS c w' mp mb hv st:=by
 obtain⟨m,h1,h2⟩:=h.names;obtain⟨own,ho,hh⟩:=h.host;exact⟨h.ok.below hb.size,(hb.block _ (Array.getElem?_eq_some_iff.1 h.head).1).trans h.head,h.hm,h.hb,⟨m,h1.below hb,h2.mono (Jr _ hb)⟩,h.uniq,h.left,h.few,own,ho,hv.stab hh (fun _ h=>h) hb.size (fun b _ hl=>hb.block b hl)⟩
theorem MS.other{c w w' mp mb hv st}(h:MS c w mp mb hv st)(hs:w.heap.size<=w'.heap.size)(hk:∀b,b<w.heap.size->(c.M b\/c.F b)->w'.heap[b]? = w.heap[b]?):MS c w' mp mb hv st:=by
 obtain⟨m,h1,h2⟩:=h.names;exact⟨h.ok.below hs,(hk _ (h.ok.ml _ h.hm) (.inl h.hm)).trans h.head,h.hm,h.hb,⟨m,h1.of_block (hk _ (h.ok.ml _ h.hb) (.inl h.hb)),h2.mono fun b hF hl=>⟨hF,nll hl hs,hk b hl (.inr hF)⟩⟩,h.uniq,h.left,h.few,by
  obtain⟨own,ho,hh⟩:=h.host;exact⟨own,ho,hv.stab hh (fun _ h=>h) hs (fun b hb hl=>hk b hl (hb.imp (fun h=>(ho b h).1) id))⟩⟩
theorem MS.with{c w mp mb hv st}(h:MS c w mp mb hv st){g}(hg:∀b,g b->b<w.heap.size/\¬c.M b):MS (c.with g) w mp mb hv st:=by
 obtain⟨m,h1,h2⟩:=h.names;exact⟨h.ok.with hg,h.head,h.hm,h.hb,⟨m,h1,h2.mono fun b hF hl=>⟨.inl hF,hl,rfl⟩⟩,h.uniq,h.left,h.few,by
  obtain⟨own,ho,hh⟩:=h.host;exact⟨own,ho,hv.stab hh (fun _ h=> .inl h) (nlr _) (fun b _ _=>rfl)⟩⟩
def EP{α:Type}(mp mb:Nat)(hv:Dq)(val:(Nat->Prop)->α->World->Value->Prop)(bad:Int->Int->Int->Value)(c:Ctx)(r:ER α)(w:World)(e:Ending)(w':World):Prop:=
 ∃c',Mv c w c' w'/\match r with
  | .ok x st=>MS c' w' mp mb hv st/\∃v,e = .returned v/\val c'.F x w' v
  | .err a l k=>e = .returned (bad a l k)
  | .out=>True
def Bk(e l c:Int):Value:=.agg #[C E e,C E l,C E c]
def zeroV:Value:=.agg #[C E 0,C E 0,A ⟨#[]⟩,J I 0 0,J I 0 0]
def EVal(F:Nat->Prop)(x:Vl)(w:World)(v:Value):Prop:=∃cs:List Value,v = .tuple #[.agg cs.toArray,Bk 0 0 0]/\Ai F w (valD x) cs/\Am x=true
def badV(e l c:Int):Value:=.tuple #[zeroV,Bk e l c]
def Oj(_:Nat->Prop)(_:Unit)(_:World)(v:Value):Prop:=v=Bk 0 0 0
theorem MS.apart{c w mp mb hv st}(h:MS c w mp mb hv st):mp≠mb:=by
 intro e;obtain⟨m,⟨es,ck,h1,-⟩,-⟩:=h.names;have h2:=h.head;rw[e,h1] at h2;cases h2
theorem MS.setLeft{c w mp mb hv st}(h:MS c w mp mb hv st)(n)(hn:n<=1000000 /\ -1<=n):MS c (w.setCell ⟨mp,2,I⟩ (C E n)) mp mb hv { st with left:=n}:=by
 obtain⟨m,h1,h2⟩:=h.names;have hne:=h.apart;refine⟨h.ok.below (by simp),by rw[Af h.head 2];rfl,h.hm,h.hb,⟨m,h1.of_block (Ad hne.symm 2 _),h2.mono fun b hF hl=>⟨hF,by simpa using hl,Ad (fun e=>h.ok.apart b hF (by rw[e];exact h.hm)) 2 _⟩⟩,h.uniq,hn,h.few,by
  obtain⟨own,ho,hh⟩:=h.host;exact⟨own,ho,hv.stab hh (fun _ h=>h) (by simp) (fun b hb _=>Ad (fun e=>by
   rcases hb with hb|hb
   ·exact(ho b hb).2.1 e
   ·exact h.ok.apart b hb (by rw[e];exact h.hm)) 2 _)⟩⟩
theorem step_any(c mp mb hv st l k w)(hm:MS c w mp mb hv st):
  Calls Tryz.prog 73 #[ptr mp,.agg #[C E l,C E k]] w (EP mp mb hv Oj Bk c (De l k st) w):=by
 have Hm:=Lib.hid hm;obtain⟨hbp,q0,q1,q2,z0,z1,z2⟩:=Bh hm.head;obtain⟨hl1,hl2⟩:=hm.left;clear hm;unfold ptr;by_cases hle:st.left<=0
 ·have Hr:Hid (De l k st = .err 12 l k):=Lib.hid (by unfold De;rw[if_pos hle]);go_enter Tryz.func73,Tryz.ntmps73;go_wp2;refine bodyPost_ret (v:=Bk 12 l k) (by simp[Bk,results,Tryz.results73,go_sem]) rfl ?_;rw[Hr.out];exact⟨c,.of_below c (((bRf _ w).alloc (nlr _) _).alloc (by simp) _),rfl⟩
 ·have Hr:Hid (De l k st = .ok () { st with left:=st.left - 1}):=Lib.hid (by unfold De;rw[if_neg hle]);go_enter Tryz.func73,Tryz.ntmps73;go_wp2;refine bodyPost_ret (v:=Bk 0 0 0) (by simp[Bk,results,Tryz.results73,go_sem]) rfl ?_;rw[Hr.out];have hms:=Hm.out.setLeft (st.left - 1) (by omega);refine⟨c,?_,hms.below (((bRf _ _).alloc (nlr _) _).alloc (by simp) _),_,rfl,rfl⟩;exact((Mv.refl c w).set (.inr Hm.out.hm) 2 _).below (((bRf _ _).alloc (nlr _) _).alloc (by simp) _)
def PKid(G:Nat->Prop)(n:Nd)(w:World)(e:Ending)(w':World):Prop:=∃v,e = .returned v/\A7 G w' n v/\Below w.heap.size w w'
theorem Ac.nodeK{F w a l}(h:Ac F w a (Au l)){j k ln cl t m}(hj:l[j]? = B (.mk k t ln cl m)):
  ∃b off a1 c1,a=B ⟨b,off,I⟩/\F b/\b<w.heap.size/\w.cell? ⟨b,off+j*5,I⟩=B (C E k)/\w.cell? ⟨b,off+j*5+1,I⟩=B (A t)/\w.cell? ⟨b,off+j*5+2,I⟩=B (C E ln) /\
   w.cell? ⟨b,off+j*5+3,I⟩=B (C E cl)/\w.cell? ⟨b,off+j*5+4,I⟩=B (J a1 m.length c1)/\Hid (F5 k=true->m.length<=c1)/\Ac F w a1 (Au m):=by
 obtain⟨b,off,cs,ha,hF,hb,hd,hc⟩:=h j (nodeD (.mk k t ln cl m)) (by rw[B7,List.getElem?_map,hj];rfl);have hv:A7 F w (.mk k t ln cl m) (.agg cs.toArray):=⟨cs,rfl,hd⟩;obtain⟨a1,c1,he,h6,hr⟩:=hv.openC;have hcs:cs=[C E k,A t,C E ln,C E cl,J a1 m.length c1]:=(by simpa using he);subst hcs;rw[Ed] at hc;exact⟨b,off,a1,c1,ha,hF,hb,hc 0 _ rfl,hc 1 _ rfl,hc 2 _ rfl,hc 3 _ rfl,hc 4 _ rfl,Lib.hid h6,hr⟩
theorem kid_any(G k t l c kids a cap i w)(hi0:0<=i)(hi2:i<=2)(hlen:kids.length<=140737488355328)(hr:Ac G w a (Au kids)):
  Calls Tryz.prog 75 #[.agg #[C E k,A t,C E l,C E c,J a kids.length cap],C E i] w (PKid G (kidN (.mk k t l c kids) i.toNat) w):=by
 by_cases hlt:i<kids.length
 ·have hj:kids[i.toNat]? = B (kids[i.toNat]'(by omega)):=List.getElem?_eq_getElem _;have Hk:Hid (kidN (.mk k t l c kids) i.toNat=kids[i.toNat]'(by omega)):=Lib.hid (by unfold kidN;show(kids[i.toNat]?).getD _=_;rw[hj];rfl);cases hx:kids[i.toNat]'(by omega) with
  | mk kk kt kl kc m=>
   rw[hx] at hj Hk;obtain⟨b,off,a1,c1,rfl,hF,hb,r0,r1,r2,r3,r4,Hcp,aA⟩:=hr.nodeK hj;have Hr1:=Lib.hid aA;clear hr hj hx aA;have hn0:¬i<0:=(by omega);have hge:¬(kids.length:Int)<=i:=(by omega);go_enter Tryz.func75,Tryz.ntmps75;go_wp2;refine bodyPost_ret (v:=.agg #[C E kk,A kt,C E kl,C E kc,J a1 m.length c1]) (by simp[results,Tryz.results75,go_sem]) rfl ?_;have hbl:Below w.heap.size w ((w.alloc (.cells #[C E k,A t,C E l,C E c,J (B ⟨b,off,I⟩) kids.length cap] 27)).alloc (.cells #[C E kk,A kt,C E kl,C E kc,J a1 m.length c1] 27)):=((bRf _ w).alloc (nlr _) _).alloc (by simp) _;rw[Hk.out];exact⟨_,rfl,A7.mk _ _ _ _ _ (Hr1.out.below hbl),hbl⟩
 ·have Hk:Hid (kidN (.mk k t l c kids) i.toNat=ndZero):=Lib.hid (by unfold kidN;show(kids[i.toNat]?).getD _=_;rw[List.getElem?_eq_none (by omega)];rfl);have hn0:¬i<0:=(by omega);have hge:(kids.length:Int)<=i:=(by omega);clear hr;go_enter Tryz.func75,Tryz.ntmps75;go_wp2;refine bodyPost_ret (v:=.agg #[C E 0,A ⟨#[]⟩,C E 0,C E 0,J I 0 0]) (by simp[results,Tryz.results75,go_sem]) rfl ?_;rw[Hk.out];exact⟨_,rfl,A7.mk (kids:=[]) _ _ _ _ _ (Ac.nil _),((bRf _ w).alloc (nlr _) _).alloc (by simp) _⟩
def boolV(b:Bool):Vl:=.mk 1 (if b then 1 else 0) ⟨#[]⟩ [] []
def Jb(b:Bool):Value:=.agg #[C E 1,C E (if b then 1 else 0),A ⟨#[]⟩,J I 0 0,J I 0 0]
theorem Ai.bool(F w b):Ai F w (valD (boolV b)) [C E 1,C E (if b then 1 else 0),A ⟨#[]⟩,J I 0 0,J I 0 0]:=
 Ai.val_mk (l:=[]) (ks:=[]) _ _ _ _ _ (Ac.nil _) (Ac.nil _)
theorem Jt(b w):Calls Tryz.prog 161 #[.bool b] w (fun e w'=>e = .returned (Jb b)/\Below w.heap.size w w'):=by
 unfold Jb;cases b
 ·go_enter Tryz.func161,Tryz.ntmps161;go_wp2;exact bodyPost_ret (v:=Jb false) (by simp[Jb,results,Tryz.results161,go_sem]) rfl ⟨rfl,((bRf _ w).alloc (nlr _) _).alloc (by simp) _⟩
 ·go_enter Tryz.func161,Tryz.ntmps161;go_wp2;exact bodyPost_ret (v:=Jb true) (by simp[Jb,results,Tryz.results161,go_sem]) rfl ⟨rfl,((bRf _ w).alloc (nlr _) _).alloc (by simp) _⟩
end Go.Proofs.YtlbbbapiklendaaGreatDoor
namespace Go.Proofs.YtlbbbapiklendaaGreatDoor
open Go.IntKind renaming i64->E
open Go.Value renaming int->C,string->A,slice->J
open Option renaming some->B,none->I
open Go Go.RowKit Go.Maps Go.WideMaps
open List renaming getElem?_eq_getElem->lgE,mem_of_getElem? -> lgM,mem_cons_self->lmS,mem_cons_of_mem->lmO,getElem?_eq_some_iff->lgS
open Nat renaming le_refl->nlr
open Go.Lib renaming hid->Lq7,toList_data->Lq8
set_option maxRecDepth 100000
set_option maxHeartbeats 16000000
theorem Rn{a b:ByteArray}:(a.data.toList==b.data.toList)=true↔a=b:=by
 rw[beq_iff_eq];exact⟨bytes_ext,fun h=>by rw[h]⟩
theorem Ew{m:List (ByteArray×Vl)}(hu:(m.map (·.1.data.toList)).Nodup){j:Nat}{s v}(h:m[j]? = B (s,v)):lookN m s=B v:=by
 induction m generalizing j with
 | nil=>simp at h
 | cons p t ih=>
  rw[List.map_cons,List.nodup_cons] at hu;unfold lookN;rw[List.find?_cons];cases j with
  | zero=>simp at h;subst h;simp
  | succ j=>
   simp at h;have aB:(p.1.data.toList==s.data.toList)=false:=by
    rw[beq_eq_false_iff_ne];intro e;exact hu.1 (by rw[e];exact List.mem_map.2 ⟨(s,v),lgM h,rfl⟩)
   rw[aB];exact ih hu.2 h
theorem Pw{m s}(h:∀q∈m,q.1≠s):lookN m s=I:=by
 unfold lookN;rw[List.find?_eq_none.2 (fun q hq=>by
  intro e;exact h q hq (Rn.1 e))]
 rfl
theorem Ll{m s}(v)(h:∀q∈m,q.1≠s):putN m s v=m++[(s,v)]:=by
 induction m with
 | nil=>rfl
 | cons p t ih=>
  have aB:(p.1.data.toList==s.data.toList)=false:=by
   cases hb:(p.1.data.toList==s.data.toList)
   ·rfl
   ·exact absurd (Rn.1 hb) (h p (lmS ..))
  rw[putN,aB,ih (fun q hq=>h q (lmO _ hq))];rfl
theorem Px{m}(hu:(m.map (·.1.data.toList)).Nodup){j s v0}(v)(h:m[j]? = B (s,v0)):putN m s v=m.set j (s,v):=by
 induction m generalizing j with
 | nil=>simp at h
 | cons p t ih=>
  rw[List.map_cons,List.nodup_cons] at hu;cases j with
  | zero=>simp at h;subst h;simp[putN]
  | succ j=>
   simp at h;have aB:(p.1.data.toList==s.data.toList)=false:=by
    rw[beq_eq_false_iff_ne];intro e;exact hu.1 (by rw[e];exact List.mem_map.2 ⟨(s,v0),lgM h,rfl⟩)
   rw[putN,aB,List.set_cons_succ];show p::putN t s v=_;rw[ih hu.2 h]
theorem Ro{m}(hu:(m.map (·.1.data.toList)).Nodup)(s v):((putN m s v).map (·.1.data.toList)).Nodup:=by
 by_cases h:∃(j:Nat) (v0:Vl),m[j]? = B (s,v0)
 ·obtain⟨j,v0,h⟩:=h;rw[Px hu v h];have e:(m.set j (s,v)).map (·.1.data.toList)=m.map (·.1.data.toList):=by
   rw[List.map_set];refine List.ext_getElem? fun i=>?_;rw[List.getElem?_set];split
   ·rename_i e
    subst e;rw[List.getElem?_map,h];simp[(lgS.1 h).1]
   ·rfl
  rw[e];exact hu
 ·have hn:∀q∈m,q.1≠s:=fun q hq e=>by
   obtain⟨j,hj⟩:=List.getElem?_of_mem hq;exact h ⟨j,q.2,by rw[hj,<-e]⟩
  rw[Ll v hn,List.map_append,List.nodup_append];refine⟨hu,by simp,fun a ha b hb=>?_⟩;obtain⟨q,hq,rfl⟩:=List.mem_map.1 ha;simp at hb;subst hb;exact fun e=>hn q hq (bytes_ext e)
theorem putN_mem{m s v q}(h:q∈putN m s v):q∈m\/q=(s,v):=by
 induction m with
 | nil=>simp[putN] at h;exact .inr h
 | cons p t ih=>
  rw[putN] at h;split at h
  ·rcases List.mem_cons.1 h with h|h
   ·exact .inr h
   ·exact .inl (lmO _ h)
  ·rcases List.mem_cons.1 h with h|h
   ·exact .inl (h▸lmS ..)
   ·rcases ih h with h|h
    ·exact .inl (lmO _ h)
    ·exact .inr h
theorem zeroValueV(w):(zeroValue 53).run Tryz.prog w = .ok zeroV w:=by kernel_rfl
theorem Ij{F w m names}(h:NamesAt F w m names)(hs:∀q∈names,q.1.size<=maxLen):J0 Tryz.prog 9 m:=by
 intro p hp;obtain⟨j,hj⟩:=List.getElem?_of_mem hp;have aA:=(lgS.1 hj).1;have hn:names[j]? = B (names[j]'(by rw[<-h.1];exact aA)):=lgE _;obtain⟨h1,-⟩:=h.2 j p _ hj hn;rw[h1];exact⟨_,keyOf_string_mk Tryz.underlying9 (hs _ (lgM hn))⟩
section
variable {c:Ctx} {w:World} {mp mb:Nat} {hv:Dq} {st:St}
theorem MS.store(h:MS c w mp mb hv st)(s:ByteArray)(hs:s.size<=maxLen)(v:Vl)(cs:List Value)(hc:Ai c.F w (valD v) cs)(hck:Am v=true):
  ∃o,(Instr.mapUpdate 71 (.map (B mb)) (A s) (.agg cs.toArray)).run Tryz.prog w = .ok () (w.putObj mb o)/\MS c (w.putObj mb o) mp mb hv { st with names:=putN st.names s v}:=by
 obtain⟨m,h1,h2⟩:=h.names;have hk:=Ij h2 (fun q hq=>(h.few q hq).2);obtain⟨o,m',h3,h4,h5⟩:=h1.store (string_keyed Tryz.underlying9) Tryz.underlying71 hk (keyOf_string_mk Tryz.underlying9 hs) (.agg cs.toArray);have aB:=h.apart;have hsz:(w.putObj mb o).heap.size=w.heap.size:=(by simp[World.putObj]);have hF:∀b,c.F b->b<w.heap.size->c.F b/\b<(w.putObj mb o).heap.size/\(w.putObj mb o).heap[b]? = w.heap[b]?:=fun b hb hl=>⟨hb,by rw[hsz];exact hl,World.putObj_heap_other (fun e=>h.ok.apart b hb (by rw[e];exact h.hb))⟩;refine⟨o,h3,h.ok.below (by rw[hsz];exact nlr _),(World.putObj_heap_other aB).trans h.head,h.hm,h.hb,⟨m',h4,?_⟩,Ro h.uniq s v,h.left,fun q hq=>?_,by
  obtain⟨own,ho,hh⟩:=h.host;exact⟨own,ho,hv.stab hh (fun _ h=>h) (by rw[hsz];exact nlr _) (fun b hb _=>World.putObj_heap_other (fun e=>by
   rcases hb with hb|hb
   ·exact(ho b hb).2.2 e
   ·exact h.ok.apart b hb (by rw[e];exact h.hb)))⟩⟩
 ·have h2':=h2.mono hF;have hc':=hc.mono hF;rcases h5 with⟨h6,rfl⟩|⟨j,v0,h6,rfl⟩
  ·have hn:∀q∈st.names,q.1≠s:=fun q hq e=>by
    obtain⟨j,hj⟩:=List.getElem?_of_mem hq;have aA:=(lgS.1 hj).1;have hm:m[j]? = B (m[j]'(by rw[h2.1];exact aA)):=lgE _;obtain⟨h7,-⟩:=h2.2 j _ q hm hj;exact h6 _ (lgM hm) (by rw[h7,e])
   show NamesAt _ _ _ (putN st.names s v);rw[Ll v hn];refine⟨by simp[h2.1],fun j p q hp hq=>?_⟩;by_cases aA:j<m.length
   ·rw[List.getElem?_append_left aA] at hp;rw[List.getElem?_append_left (by rw[<-h2.1];exact aA)] at hq;exact h2'.2 j p q hp hq
   ·rw[List.getElem?_append_right (by omega)] at hp;rw[List.getElem?_append_right (by rw[<-h2.1];omega),<-h2.1] at hq;have hj1:=(lgS.1 hp).1;simp only[List.length_cons,List.length_nil] at hj1;have hj0:j-m.length=0:=(by omega);rw[hj0] at hp hq;simp at hp hq;subst hp hq;exact⟨rfl,cs,rfl,hc'⟩
  ·have aA:=(lgS.1 h6).1;have hn:st.names[j]? = B (st.names[j]'(by rw[<-h2.1];exact aA)):=lgE _;obtain⟨h7,-⟩:=h2.2 j _ _ h6 hn;have hs':s=(st.names[j]'(by rw[<-h2.1];exact aA)).1:=(by injection h7);show NamesAt _ _ _ (putN st.names s v);rw[Px h.uniq (v0:=(st.names[j]'(by rw[<-h2.1];exact aA)).2) v (by rw[hn,hs'])];refine⟨by simp[h2.1],fun i p q hp hq=>?_⟩;rw[List.getElem?_set] at hp hq;by_cases hij:j=i
   ·subst hij;rw[if_pos rfl,if_pos aA] at hp;rw[if_pos rfl,if_pos (by rw[<-h2.1];exact aA)] at hq;cases hp;cases hq;exact⟨rfl,cs,rfl,hc'⟩
   ·rw[if_neg hij] at hp hq;exact h2'.2 i p q hp hq
 ·rcases putN_mem hq with hq|rfl
  ·exact h.few q hq
  ·exact⟨hck,hs⟩
end
def PFixed(s:ByteArray)(w:World)(e:Ending)(w':World):Prop:=∃cs:List Value,e = .returned (.tuple #[.agg cs.toArray,.bool (fixedV s).isSome])/\Below w.heap.size w w'/\(∀v,fixedV s=B v->∀F,Ai F w' (valD v) cs)/\cs.length=5/\∃a b s2,cs=[C E a,C E b,A s2,J I 0 0,J I 0 0]
theorem Rp{s w w1 o b x0 x1 x2 x3 x4}(hb:Below (w.alloc o).heap.size (w.alloc o) w1)(hf:fixedV s=B (boolV b)):
  PFixed s w (.returned (.tuple #[Jb b,.bool true])) (((((w1.setCell ⟨w.heap.size,0,I⟩ x0).setCell ⟨w.heap.size,1,I⟩ x1).setCell ⟨w.heap.size,2,I⟩ x2).setCell ⟨w.heap.size,3,I⟩ x3).setCell ⟨w.heap.size,4,I⟩ x4):=by
 have h0:Below w.heap.size w w1:=((Below.refl _ w).alloc (nlr _) o).trans (hb.mono (by simp));refine⟨[C E 1,C E (if b then 1 else 0),A ⟨#[]⟩,J I 0 0,J I 0 0],by rw[hf];rfl,((((h0.setCell (p:=⟨w.heap.size,0,I⟩) (nlr _) _).setCell (p:=⟨w.heap.size,1,I⟩) (nlr _) _).setCell (p:=⟨w.heap.size,2,I⟩) (nlr _) _).setCell (p:=⟨w.heap.size,3,I⟩) (nlr _) _).setCell (p:=⟨w.heap.size,4,I⟩) (nlr _) _,fun v hv F=>?_,rfl,_,_,_,rfl⟩;rw[hf] at hv;cases hv;exact Ai.bool F _ b
theorem Ns(s w):Calls Tryz.prog 120 #[A s] w (PFixed s w):=by
 cases h1:(s.toList==[116,114,117,101])
 ·have e1:s.data.toList≠[116,114,117,101]:=(by rw[<-Lq8];simpa using h1);cases h2:(s.toList==[102,97,108,115,101])
  ·have e2:s.data.toList≠[102,97,108,115,101]:=(by rw[<-Lq8];simpa using h2);cases h3:(s.toList==[110,111,110,101])
   ·have e3:s.data.toList≠[110,111,110,101]:=(by rw[<-Lq8];simpa using h3);have Hf:Hid (fixedV s=I):=Lq7 (by unfold fixedV;rw[if_neg e1,if_neg e2,if_neg e3]);go_enter Tryz.func120,Tryz.ntmps120;go_wp2;refine bodyPost_ret (v:=.tuple #[zeroV,.bool false]) (by simp[zeroV,results,Tryz.results120,go_sem]) rfl ?_;refine⟨[C E 0,C E 0,A ⟨#[]⟩,J I 0 0,J I 0 0],by rw[Hf.out];rfl,(Below.refl _ w).alloc (nlr _) _,fun v hv=>(by rw[Hf.out] at hv;cases hv),rfl,_,_,_,rfl⟩
   ·have e3:s.data.toList=[110,111,110,101]:=(by rw[<-Lq8];simpa using h3);have Hf:Hid (fixedV s=B vZero):=Lq7 (by unfold fixedV;rw[if_neg e1,if_neg e2,if_pos e3]);go_enter Tryz.func120,Tryz.ntmps120;go_wp2;refine bodyPost_ret (v:=.tuple #[zeroV,.bool true]) (by simp[zeroV,results,Tryz.results120,go_sem]) rfl ?_;refine⟨[C E 0,C E 0,A ⟨#[]⟩,J I 0 0,J I 0 0],by rw[Hf.out];rfl,(Below.refl _ w).alloc (nlr _) _,fun v hv F=>?_,rfl,_,_,_,rfl⟩;rw[Hf.out] at hv;cases hv;exact Ai.val_mk (l:=[]) (ks:=[]) _ _ _ _ _ (Ac.nil _) (Ac.nil _)
  ·have e2:s.data.toList=[102,97,108,115,101]:=(by rw[<-Lq8];simpa using h2);have Hf:Hid (fixedV s=B (boolV false)):=Lq7 (by unfold fixedV;rw[if_neg e1,if_pos e2];rfl);go_enter Tryz.func120,Tryz.ntmps120;go_wp2_with fail;refine(Jt false _).mono ?_;rintro e w1 ⟨rfl,hb⟩;have Hb:=Lq7 hb;obtain⟨r0,r1,r2,r3,r4,r5,r6,r7,r8,r9,r10⟩:=Aa (Fa hb);unfold Jb;go_wp2;refine bodyPost_ret (v:=.tuple #[Jb false,.bool true]) (by simp[Jb,results,Tryz.results120,go_sem,r1,r2,r3,r4,r5]) rfl ?_;exact Rp Hb.out Hf.out
 ·have e1:s.data.toList=[116,114,117,101]:=(by rw[<-Lq8];simpa using h1);have Hf:Hid (fixedV s=B (boolV true)):=Lq7 (by unfold fixedV;rw[if_pos e1];rfl);go_enter Tryz.func120,Tryz.ntmps120;go_wp2_with fail;refine(Jt true _).mono ?_;rintro e w1 ⟨rfl,hb⟩;have Hb:=Lq7 hb;obtain⟨r0,r1,r2,r3,r4,r5,r6,r7,r8,r9,r10⟩:=Aa (Fa hb);unfold Jb;go_wp2;refine bodyPost_ret (v:=.tuple #[Jb true,.bool true]) (by simp[Jb,results,Tryz.results120,go_sem,r1,r2,r3,r4,r5]) rfl ?_;exact Rp Hb.out Hf.out
end Go.Proofs.YtlbbbapiklendaaGreatDoor
namespace Go.Proofs.YtlbbbapiklendaaGreatDoor
open Go.IntKind renaming i64->E
open Go.Value renaming int->C,string->A,slice->J
open Option renaming some->B,none->I
open Go Go.RowKit
theorem R9(m):(C5 m).length=(Ez m).length:=by simp[C5]
end Go.Proofs.YtlbbbapiklendaaGreatDoor
namespace Go.Proofs.YtlbbbapiklendaaGreatDoor
open Go.IntKind renaming i64->E
open Go.Value renaming int->C,string->A,slice->J
open Option renaming some->B,none->I
open Go Go.RowKit Go.Maps Go.WideMaps
open List renaming getElem?_eq_getElem->lgE,mem_of_getElem? -> lgM,getElem?_map->lgP,getElem?_eq_some_iff->lgS
set_option maxRecDepth 100000
set_option maxHeartbeats 16000000
def anyElem:Value->Option (DataW Unit×List MemPlace):=fun _=>B (.nil,[])
theorem keyStr{s}(hs:s.size<=maxLen):keyOf Tryz.prog 9 (A s)=B (.string s.data.toList):=keyOf_string_mk Tryz.underlying9 hs
section
variable {c:Ctx} {w:World} {mp mb:Nat} {hv:Dq} {st:St}
theorem Ly{F:Nat->Prop}{m:List (Value×Value)}{names:List (ByteArray×Vl)}(h:NamesAt F w m names):m.map (·.1)=names.map (fun q=> A q.1):=by
 apply List.ext_getElem?;intro j;rw[lgP,lgP];cases hp:m[j]? with
 | none=>
  rw[List.getElem?_eq_none (by have:=List.getElem?_eq_none_iff.1 hp;rw[<-h.1];exact this)];rfl
 | some p=>
  have hj:=(lgS.1 hp).1;have hq:names[j]? = B (names[j]'(by rw[<-h.1];exact hj)):=lgE _;rw[hq];simp only[Option.map_some,Option.some.injEq];exact(h.2 j p _ hp hq).1
theorem MS.owns(h:MS c w mp mb hv st)(hl:st.names.length<=1000000):
  ∃D:DataW Unit,w.ownsMap Tryz.prog 9 anyElem mb st.names.length D/\(strKeys D).Perm (st.names.map (·.1.data.toList))/\Maps.size D=st.names.length:=by
 obtain⟨m,⟨es,ck,hb,hst,hm⟩,hna⟩:=h.names;have aA:es.toList.map (·.key)=st.names.map (fun q=> A q.1):=by
  rw[<-Ly hna,<-hm,List.map_map];rfl
 have hsz:es.size=st.names.length:=by
  have:=congrArg List.length aA
  simpa using this
 have aC:∀x∈es.toList,∃s:ByteArray,x.key = A s/\Go.WideElems.rd (H:=Unit) Tryz.prog 9 anyElem x=B (.string s.data.toList,.nil):=by
  intro x hx;have:x.key∈st.names.map (fun q=>Value.string q.1):=(by rw[<-aA];exact List.mem_map_of_mem hx);obtain⟨q,hq,he⟩:=List.mem_map.1 this;refine⟨q.1,he.symm,?_⟩;unfold Go.WideElems.rd;rw[<-he,keyStr (h.few q hq).2];rfl
 have hrg:es.toList.map (fun x=>strOf (Go.WideElems.rg (H:=Unit) Tryz.prog 9 anyElem x).1)=st.names.map (·.1.data.toList):=by
  have h1:es.toList.map (fun x=>strOf (Go.WideElems.rg (H:=Unit) Tryz.prog 9 anyElem x).1)=(es.toList.map (·.key)).map (fun v=>match v with | A s=>s.data.toList|_=>[]):=by
   rw[List.map_map];refine List.map_congr_left fun x hx=>?_;obtain⟨s,hs,hr⟩:=aC x hx;simp only[Function.comp_apply,Go.WideElems.rg,hr,Option.getD_some,hs,strOf]
  rw[h1,aA,List.map_map];rfl
 refine⟨_,⟨es,ck,hb,⟨by rw[hsz];unfold maxLen;omega,hst,fun x hx=>by obtain⟨s,-,hr⟩:=aC x hx;exact⟨_,hr⟩⟩,by omega,rfl⟩,?_,?_⟩
 ·rw[<-hrg];have hp:=(Go.WideShapes.sorted_perm (es.toList.map (Go.WideElems.rg (H:=Unit) Tryz.prog 9 anyElem))).map (fun p=>strOf p.1);rw[List.map_map] at hp;exact hp
 ·have hp:=(Go.WideShapes.sorted_perm (es.toList.map (Go.WideElems.rg (H:=Unit) Tryz.prog 9 anyElem))).length_eq;simp only[Maps.size];rw[hp];simp[hsz]
theorem MS.look1(h:MS c w mp mb hv st){q:ByteArray×Vl}(hq:q∈st.names):
  ∃cs,lookN st.names q.1=B q.2/\Ai c.F w (valD q.2) cs/\(Instr.lookup 71 (.map (B mb)) (A q.1) false).run Tryz.prog w = .ok (.agg cs.toArray) w:=by
 obtain⟨m,h1,h2⟩:=h.names;have hk:=Ij h2 (fun q hq=>(h.few q hq).2);rcases h1.look false (string_keyed Tryz.underlying9) Tryz.underlying71 (zeroValueV w) hk (keyOf_string_mk Tryz.underlying9 (h.few q hq).2) with⟨h3,h4⟩|⟨j,v,h3,h4⟩
 ·obtain⟨j,hj⟩:=List.getElem?_of_mem hq;have aB:=(lgS.1 hj).1;have hm:m[j]? = B (m[j]'(by rw[h2.1];exact aB)):=lgE _;exact absurd (h2.2 j _ _ hm hj).1 (h3 _ (lgM hm))
 ·have aB:=(lgS.1 h3).1;have hn:st.names[j]? = B (st.names[j]'(by rw[<-h2.1];exact aB)):=lgE _;obtain⟨h5,cs,h6,h7⟩:=h2.2 j _ _ h3 hn;obtain⟨i,hi⟩:=List.getElem?_of_mem hq;have hqe:q=st.names[j]'(by rw[<-h2.1];exact aB):=by
   have e1:q.1=(st.names[j]'(by rw[<-h2.1];exact aB)).1:=(by injection h5);have l1:=Ew h.uniq (j:=i) (s:=q.1) (v:=q.2) hi;have l2:=Ew h.uniq (j:=j) (s:=q.1) (v:=(st.names[j]'(by rw[<-h2.1];exact aB)).2) (by rw[hn,e1]);rw[l1] at l2;injection l2 with l3;exact Prod.ext e1 l3
  refine⟨cs,Ew h.uniq (j:=i) hi,by rw[hqe];exact h7,?_⟩;have h6':v = .agg cs.toArray:=h6;rw[h4,h6'];rfl
end
structure NM(F:Nat->Prop)(w:World)(mb:Nat)(names:List (ByteArray×Vl)):Prop where
 tab:∃m,Cq w mb m/\NamesAt F w m names
 uniq:(names.map (·.1.data.toList)).Nodup
 few:∀q∈names,Am q.2=true/\q.1.size<=maxLen
section
variable {F:Nat->Prop} {w:World} {mb:Nat} {names:List (ByteArray×Vl)}
theorem NM.made(F:Nat->Prop)(w:World):NM F (w.alloc (.map #[] 0)) w.heap.size []:=⟨⟨[],Cq.made w,rfl,fun j p q h=>by simp at h⟩,List.nodup_nil,fun q hq=>by cases hq⟩
theorem NM.lt(h:NM F w mb names):mb<w.heap.size:=let ⟨_,h1,_⟩:=h.tab;h1.lt
theorem NM.keep{G:Nat->Prop}{w':World}(h:NM F w mb names)(hb:w'.heap[mb]? = w.heap[mb]?)(hk:∀b,F b->b<w.heap.size->G b/\b<w'.heap.size/\w'.heap[b]? = w.heap[b]?):NM G w' mb names:=
 let ⟨m,h1,h2⟩:=h.tab
 ⟨⟨m,h1.of_block hb,h2.mono hk⟩,h.uniq,h.few⟩
theorem NM.below{w':World}(h:NM F w mb names)(hb:Below w.heap.size w w'):NM F w' mb names:=h.keep (hb.block _ h.lt) (Jr _ hb)
theorem NM.look(h:NM F w mb names)(s:ByteArray)(hs:s.size<=maxLen):
  (lookN names s=I/\(Instr.lookup 71 (.map (B mb)) (A s) true).run Tryz.prog w = .ok (.tuple #[zeroV,.bool false]) w) \/
   ∃v cs,lookN names s=B v/\Ai F w (valD v) cs/\Am v=true/\(Instr.lookup 71 (.map (B mb)) (A s) true).run Tryz.prog w = .ok (.tuple #[.agg cs.toArray,.bool true]) w:=by
 obtain⟨m,h1,h2⟩:=h.tab;have hk:=Ij h2 (fun q hq=>(h.few q hq).2);rcases h1.look true (string_keyed Tryz.underlying9) Tryz.underlying71 (zeroValueV w) hk (keyOf_string_mk Tryz.underlying9 hs) with⟨h3,h4⟩|⟨j,v,h3,h4⟩
 ·refine .inl ⟨Pw fun q hq e=>?_,h4⟩;obtain⟨j,hj⟩:=List.getElem?_of_mem hq;have aA:=(lgS.1 hj).1;have hm:m[j]? = B (m[j]'(by rw[h2.1];exact aA)):=lgE _;obtain⟨h5,-⟩:=h2.2 j _ q hm hj;exact h3 _ (lgM hm) (by rw[h5,e])
 ·have aA:=(lgS.1 h3).1;have hn:names[j]? = B (names[j]'(by rw[<-h2.1];exact aA)):=lgE _;obtain⟨h5,cs,h6,h7⟩:=h2.2 j _ _ h3 hn;have hs':s=(names[j]'(by rw[<-h2.1];exact aA)).1:=(by injection h5);refine .inr ⟨(names[j]'(by rw[<-h2.1];exact aA)).2,cs,Ew h.uniq (j:=j) (by rw[hn,hs']),h7,(h.few _ (lgM hn)).1,?_⟩;have h6':v = .agg cs.toArray:=h6;rw[h4,h6'];rfl
theorem NM.store(h:NM F w mb names)(hb:¬F mb)(s:ByteArray)(hs:s.size<=maxLen)(v:Vl)(cs:List Value)(hc:Ai F w (valD v) cs)(hck:Am v=true):
  ∃o,(Instr.mapUpdate 71 (.map (B mb)) (A s) (.agg cs.toArray)).run Tryz.prog w = .ok () (w.putObj mb o)/\NM F (w.putObj mb o) mb (putN names s v):=by
 obtain⟨m,h1,h2⟩:=h.tab;have hk:=Ij h2 (fun q hq=>(h.few q hq).2);obtain⟨o,m',h3,h4,h5⟩:=h1.store (string_keyed Tryz.underlying9) Tryz.underlying71 hk (keyOf_string_mk Tryz.underlying9 hs) (.agg cs.toArray);have hsz:(w.putObj mb o).heap.size=w.heap.size:=(by simp[World.putObj]);have hF:∀b,F b->b<w.heap.size->F b/\b<(w.putObj mb o).heap.size/\(w.putObj mb o).heap[b]? = w.heap[b]?:=fun b hb' hl=>⟨hb',by rw[hsz];exact hl,World.putObj_heap_other (fun e=>hb (by rw[<-e];exact hb'))⟩;refine⟨o,h3,⟨m',h4,?_⟩,Ro h.uniq s v,fun q hq=>?_⟩
 ·have h2':=h2.mono hF;have hc':=hc.mono hF;rcases h5 with⟨h6,rfl⟩|⟨j,v0,h6,rfl⟩
  ·have hn:∀q∈names,q.1≠s:=fun q hq e=>by
    obtain⟨j,hj⟩:=List.getElem?_of_mem hq;have aA:=(lgS.1 hj).1;have hm:m[j]? = B (m[j]'(by rw[h2.1];exact aA)):=lgE _;obtain⟨h7,-⟩:=h2.2 j _ q hm hj;exact h6 _ (lgM hm) (by rw[h7,e])
   show NamesAt _ _ _ (putN names s v);rw[Ll v hn];refine⟨by simp[h2.1],fun j p q hp hq=>?_⟩;by_cases aA:j<m.length
   ·rw[List.getElem?_append_left aA] at hp;rw[List.getElem?_append_left (by rw[<-h2.1];exact aA)] at hq;exact h2'.2 j p q hp hq
   ·rw[List.getElem?_append_right (by omega)] at hp;rw[List.getElem?_append_right (by rw[<-h2.1];omega),<-h2.1] at hq;have hj1:=(lgS.1 hp).1;simp only[List.length_cons,List.length_nil] at hj1;have hj0:j-m.length=0:=(by omega);rw[hj0] at hp hq;simp at hp hq;subst hp hq;exact⟨rfl,cs,rfl,hc'⟩
  ·have aA:=(lgS.1 h6).1;have hn:names[j]? = B (names[j]'(by rw[<-h2.1];exact aA)):=lgE _;obtain⟨h7,-⟩:=h2.2 j _ _ h6 hn;have hs':s=(names[j]'(by rw[<-h2.1];exact aA)).1:=(by injection h7);show NamesAt _ _ _ (putN names s v);rw[Px h.uniq (v0:=(names[j]'(by rw[<-h2.1];exact aA)).2) v (by rw[hn,hs'])];refine⟨by simp[h2.1],fun i p q hp hq=>?_⟩;rw[List.getElem?_set] at hp hq;by_cases hij:j=i
   ·subst hij;rw[if_pos rfl,if_pos aA] at hp;rw[if_pos rfl,if_pos (by rw[<-h2.1];exact aA)] at hq;cases hp;cases hq;exact⟨rfl,cs,rfl,hc'⟩
   ·rw[if_neg hij] at hp hq;exact h2'.2 i p q hp hq
 ·rcases putN_mem hq with hq|rfl
  ·exact h.few q hq
  ·exact⟨hck,hs⟩
theorem NM.owns(h:NM F w mb names)(hl:names.length<=1000000):
  ∃D:DataW Unit,w.ownsMap Tryz.prog 9 anyElem mb names.length D/\(strKeys D).Perm (names.map (·.1.data.toList))/\Maps.size D=names.length:=by
 obtain⟨m,⟨es,ck,hb,hst,hm⟩,hna⟩:=h.tab;have aB:es.toList.map (·.key)=names.map (fun q=> A q.1):=by
  rw[<-Ly hna,<-hm,List.map_map];rfl
 have hsz:es.size=names.length:=by
  have:=congrArg List.length aB
  simpa using this
 have aC:∀x∈es.toList,∃s:ByteArray,x.key = A s/\Go.WideElems.rd (H:=Unit) Tryz.prog 9 anyElem x=B (.string s.data.toList,.nil):=by
  intro x hx;have:x.key∈names.map (fun q=>Value.string q.1):=(by rw[<-aB];exact List.mem_map_of_mem hx);obtain⟨q,hq,he⟩:=List.mem_map.1 this;refine⟨q.1,he.symm,?_⟩;unfold Go.WideElems.rd;rw[<-he,keyStr (h.few q hq).2];rfl
 have hrg:es.toList.map (fun x=>strOf (Go.WideElems.rg (H:=Unit) Tryz.prog 9 anyElem x).1)=names.map (·.1.data.toList):=by
  have h1:es.toList.map (fun x=>strOf (Go.WideElems.rg (H:=Unit) Tryz.prog 9 anyElem x).1)=(es.toList.map (·.key)).map (fun v=>match v with | A s=>s.data.toList|_=>[]):=by
   rw[List.map_map];refine List.map_congr_left fun x hx=>?_;obtain⟨s,hs,hr⟩:=aC x hx;simp only[Function.comp_apply,Go.WideElems.rg,hr,Option.getD_some,hs,strOf]
  rw[h1,aB,List.map_map];rfl
 refine⟨_,⟨es,ck,hb,⟨by rw[hsz];unfold maxLen;omega,hst,fun x hx=>by obtain⟨s,-,hr⟩:=aC x hx;exact⟨_,hr⟩⟩,by omega,rfl⟩,?_,?_⟩
 ·rw[<-hrg];have hp:=(Go.WideShapes.sorted_perm (es.toList.map (Go.WideElems.rg (H:=Unit) Tryz.prog 9 anyElem))).map (fun p=>strOf p.1);rw[List.map_map] at hp;exact hp
 ·have hp:=(Go.WideShapes.sorted_perm (es.toList.map (Go.WideElems.rg (H:=Unit) Tryz.prog 9 anyElem))).length_eq;simp only[Maps.size];rw[hp];simp[hsz]
theorem NM.look1(h:NM F w mb names){q:ByteArray×Vl}(hq:q∈names):
  ∃cs,lookN names q.1=B q.2/\Ai F w (valD q.2) cs/\(Instr.lookup 71 (.map (B mb)) (A q.1) false).run Tryz.prog w = .ok (.agg cs.toArray) w:=by
 obtain⟨m,h1,h2⟩:=h.tab;have hk:=Ij h2 (fun q hq=>(h.few q hq).2);rcases h1.look false (string_keyed Tryz.underlying9) Tryz.underlying71 (zeroValueV w) hk (keyOf_string_mk Tryz.underlying9 (h.few q hq).2) with⟨h3,h4⟩|⟨j,v,h3,h4⟩
 ·obtain⟨j,hj⟩:=List.getElem?_of_mem hq;have aA:=(lgS.1 hj).1;have hm:m[j]? = B (m[j]'(by rw[h2.1];exact aA)):=lgE _;exact absurd (h2.2 j _ _ hm hj).1 (h3 _ (lgM hm))
 ·have aA:=(lgS.1 h3).1;have hn:names[j]? = B (names[j]'(by rw[<-h2.1];exact aA)):=lgE _;obtain⟨h5,cs,h6,h7⟩:=h2.2 j _ _ h3 hn;obtain⟨i,hi⟩:=List.getElem?_of_mem hq;have hqe:q=names[j]'(by rw[<-h2.1];exact aA):=by
   have e1:q.1=(names[j]'(by rw[<-h2.1];exact aA)).1:=(by injection h5);have l1:=Ew h.uniq (j:=i) (s:=q.1) (v:=q.2) hi;have l2:=Ew h.uniq (j:=j) (s:=q.1) (v:=(names[j]'(by rw[<-h2.1];exact aA)).2) (by rw[hn,e1]);rw[l1] at l2;injection l2 with l3;exact Prod.ext e1 l3
  refine⟨cs,Ew h.uniq (j:=i) hi,by rw[hqe];exact h7,?_⟩;have h6':v = .agg cs.toArray:=h6;rw[h4,h6'];rfl
end
end Go.Proofs.YtlbbbapiklendaaGreatDoor
namespace Go.Proofs.YtlbbbapiklendaaGreatDoor
open Go.IntKind renaming i64->E
open Go.Value renaming int->C,string->A,slice->J
open Option renaming some->B,none->I
open Go Go.RowKit Go.Maps
def Cs(m:List (ByteArray×Vl)):List ByteArray:=(Ez m).map fun b=>⟨b.toArray⟩
theorem Ny(m):(Cs m).length=m.length:=by
 simp[Cs,Ez]
theorem Rv{m s}(h:s∈Cs m):∃q∈m,q.1=s:=by
 obtain⟨b,hb,rfl⟩:=List.mem_map.1 h;have:=(List.mergeSort_perm (m.map (·.1.data.toList)) leB).mem_iff.1 hb;obtain⟨q,hq,rfl⟩:=List.mem_map.1 this;exact⟨q,hq,by simp⟩
theorem Rw{m:List (ByteArray×Vl)}{j:Nat}{s}(h:(Cs m)[j]? = B s):(C5 m)[j]? = B (s,(lookN m s).getD vZero):=by
 unfold Cs at h;unfold C5;rw[List.getElem?_map] at h |-;cases hb:(Ez m)[j]? with
 | none=>rw[hb] at h;cases h
 | some b=>rw[hb] at h;simp only[Option.map_some,Option.some.injEq] at h;subst h;rfl
theorem Rx{w:World}{base:Nat}{v}{ss:List (List UInt8)}{m:List (ByteArray×Vl)}(hp:ss.Perm (m.map (·.1.data.toList)))(h:w.ownsRow base 9 1 v ss.length ((ss.mergeSort (fun x y=>decide (x<=y))).map Go.Proofs.encStr)):OwnS w base v (Cs m):=by
 have he:ss.mergeSort (fun x y=>decide (x<=y))=Ez m:=mergeSort_of_perm hp;have hl:ss.length=(Cs m).length:=(by rw[Ny,hp.length_eq,List.length_map]);unfold OwnS;rw[<-hl];rw[he] at h;have:(Ez m).map Go.Proofs.encStr=(Cs m).map Value.string:=(by simp[Cs,List.map_map,Function.comp_def])
 rwa [this] at h
end Go.Proofs.YtlbbbapiklendaaGreatDoor
