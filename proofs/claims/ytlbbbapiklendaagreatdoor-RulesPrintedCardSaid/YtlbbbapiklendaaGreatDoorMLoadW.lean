/-
  The walk of rules.Load. By the driver. (And what it stands on.)
-/
import Derived.Test.YtlbbbapiklendaaGreatDoorMBackG
import Derived.Test.YtlbbbapiklendaaGreatDoorRunN
import Derived.Test.YtlbbbapiklendaaGreatDoorPlainOut
import Derived.Test.YtlbbbapiklendaaGreatDoorMOpW
namespace Go.Proofs.YtlbbbapiklendaaGreatDoor
open Go.IntKind renaming i64->C
open Go.Value renaming int->B,string->A,slice->D,pointer->M,agg->J,bool->L
open Go.Obj renaming cells->N
open Option renaming some->I,none->E
open Go Go.RowKit
open Nat renaming zero_mul->nzm,add_zero->naz,le_refl->nlr,zero_le->nlz,lt_of_lt_of_le->nll,le_trans->nlt
open List renaming set_cons_zero->lsA,set_cons_succ->lsB,mem_of_getElem? -> lgM,mem_cons_self->lmS,getElem?_eq_getElem->lgE,getElem?_map->lgP,length_cons->lnC,getElem?_eq_some_iff->lgS
open Go.Lib renaming hid->Lq7,toList_data->Lq8
open And renaming intro->aIn
set_option maxRecDepth 100000
set_option maxHeartbeats 16000000
theorem op_contract:OpC:=by
 intro t F k x s l ks k' y s' m ks' a1 c1 a2 c2 a3 c3 a4 c4 w ha hb hF hB hr1 aD hr3 hr4;exact opW_any t k k' x y s s' l m ks ks' ha hb F a1 c1 a2 c2 a3 c3 a4 c4 w hF hB hr1 aD hr3 hr4
theorem plain_all:Tg Bl:=fun _ _ h=>by cases h
theorem Ze(mp mb):Rt 268 (J #[]) mp mb (L7 Bl):=by
 intro c w st q a cap hm hr hc hs hl aE;obtain⟨hT,hB⟩:=hm.std;refine(Abr q c.F a cap w hr hm.ok.fl hT hB hl hs hc).mono ?_;rintro e w' ⟨hb,hq⟩;have hg:=Yw q.name.data.toList q.args hc;show ∃c',Mv c w c' w'/\MS c' w' mp mb (L7 Bl) { st with log:=st.log++[q]}/\match (I (I6 q.name.data.toList q.args):Option (Except Int Vl)) with
   | some (.ok x)=>∃cs:List Value,e = .returned (.tuple #[.agg cs.toArray,B C 0])/\Ai c'.F w' (valD x) cs/\Ay x
   | some (.error y)=>e = .returned (.tuple #[zeroV,B C y])/\y≠0
   | none=>True
 have hm':=(hm.below hb).with (g:=fun b=>w.heap.size<=b/\b<w'.heap.size) (fun b hb'=>⟨hb'.2,fun h=>by have:=hm.ok.ml b h;omega⟩);have hms:MS (c.with fun b=>w.heap.size<=b/\b<w'.heap.size) w' mp mb (L7 Bl) { st with log:=st.log++[q]}:=
  ⟨hm'.ok,hm'.head,hm'.hm,hm'.hb,hm'.names,hm'.uniq,hm'.left,hm'.few,by
   obtain⟨own,h1,h2⟩:=hm'.host;exact⟨own,h1,h2⟩⟩
 refine⟨_,(Mv.of_below c hb).with (fun b hb'=>hb'.1),hms,?_⟩;cases aD:I6 q.name.data.toList q.args with
 | ok x=>
  rw[aD] at hq hg;obtain⟨cs,rfl,hag⟩:=hq;exact⟨cs,rfl,hag.mono fun b hb' hl'=>⟨.inr ⟨hb',hl'⟩,hl',rfl⟩,hg⟩
 | error y=>
  rw[aD] at hq hg;exact⟨hq,hg⟩
def NzE(r:Except Int Vl):Prop:=∀y,r = .error y->y≠0
theorem NzE.err{n}(h:n≠0):NzE (.error n):=fun y e=>by cases e;exact h
theorem NzE.ok{v}:NzE (.ok v):=fun y e=>by cases e
theorem NzE.limited(s):NzE (Cb s):=by
 unfold Cb;split
 ·exact .err (by decide)
 ·exact .ok
theorem NzE.args{n f}(h:∀l,NzE (f l))(l):NzE (Gc n f l):=by
 unfold Gc;split
 ·exact h _
 ·exact .err (by decide)
theorem NzE.one{f}(h:∀v,NzE (f v)):∀l,NzE (one f l)
 | [v]=>h v
 | []=> .err (by decide)
 | _::_::_=> .err (by decide)
theorem NzE.two{f}(h:∀u v,NzE (f u v)):∀l,NzE (two f l)
 | [u,v]=>h u v
 | []=> .err (by decide)
 | [_]=> .err (by decide)
 | _::_::_::_=> .err (by decide)
theorem NzE.part(of v):NzE (Kt of v):=by
 unfold Kt;split
 ·exact .err (by decide)
 ·split
  ·exact .err (by decide)
  ·exact .limited _
theorem Acm(nm l):NzE (I6 nm l):=by
 unfold I6;split
 ·refine .args (.one fun v=>?_) l;unfold Gt
  repeat' split
  all_goals first|exact .ok|exact .err (by decide)
 split
 ·refine .args (.two fun u v=>?_) l;unfold joinL
  repeat' split
  all_goals first|exact .ok|exact .err (by decide)
 split
 ·refine .args (.one fun v=>?_) l;unfold linesL
  repeat' split
  all_goals first|exact .ok|exact .err (by decide)
 split
 ·refine .args (.one fun v=>?_) l;unfold sortedL
  repeat' split
  all_goals first|exact .ok|exact .err (by decide)
 split
 ·refine .args (.one fun v=>?_) l;unfold Nf
  repeat' split
  all_goals first|exact .limited _|exact .err (by decide)
 split
 ·refine .args (fun l=>?_) l;unfold Kb;split
  ·unfold Lc
   repeat' split
   all_goals first|exact .limited _|exact .err (by decide)|exact .ok
  ·exact .err (by decide)
 split
 ·exact .args (.one (.part _)) l
 split
 ·exact .args (.one (.part _)) l
 split
 ·exact .args (.one (.part _)) l
 ·exact .err (by decide)
theorem plain_nz:Om Bl:=fun log q y h=>by
 unfold Bl at h;exact Acm _ _ y (by injection h)
def plainH:Value:=.iface 83 (J #[])
theorem Zf(w):Calls Tryz.prog 8 #[] w (fun e w'=>e = .returned plainH/\Below w.heap.size w w'):=by
 go_enter Tryz.func8,Tryz.ntmps8;go_wp2_with fail;exact bodyPost_ret (v:=plainH) (by simp[plainH,results,Tryz.results8,go_sem]) rfl ⟨rfl,Below.refl _ _⟩
mutual
theorem smallN_ok:∀{n:Nd},Ci 65536 65540 n->Cf n
 | .mk k t l c kids,h=>by
  rw[Ci] at h;rw[Cf];exact⟨by unfold maxLen;omega,by omega,smallNs_ok h.2.2.2.2⟩
theorem smallNs_ok:∀{l:List Nd},Dj 65536 65540 l->smallNs l
 | [],_=>by rw[smallNs];trivial
 | x::t,h=>by
  rw[Dj] at h;rw[smallNs];exact⟨smallN_ok h.1,smallNs_ok h.2⟩
end
def E9(b:Nat):Prop:=b=3\/b=0
def Oh(w:World)(b:Nat):Prop:=E9 b\/w.heap.size<=b
theorem E9.lt{w}(hT:Em w)(hB:StdB w):∀b,E9 b->b<w.heap.size:=by
 obtain⟨m,hm⟩:=hB;rintro b (rfl|rfl)
 ·exact hT.here
 ·exact Ax hm
theorem S4(s v):C5 [(s,v)]=[(s,v)]:=by
 have h:lookN [(s,v)] ⟨s.data.toList.toArray⟩=I v:=by
  unfold lookN;simp
 simp[C5,Ez,h]
theorem S5(s v):lookN [(s,v)] s=I v:=by
 unfold lookN;simp
def ResW(F:Nat->Prop)(n:Nd)(w:World)(a:Option Addr)(len:Nat)(x l k:Int):Prop:=match workL Bl n with
 | .ok v=>x=0/\l=0/\k=0/\len=1/\Ac F w a (Bx [(bs [120],v)])/\Am v=true
 | .error f=>a=E/\len=0/\f=(x,l,k)/\x≠0
def PGiven(n:Nd)(w:World)(e:Ending)(w':World):Prop:=Below w.heap.size w w'/\∃(a:Option Addr) (len cap:Nat) (x l k:Int),
 e = .returned (.tuple #[D a len cap,B C x,J #[B C l,B C k]])/\ResW (Oh w) n w' a len x l k
theorem Acn(n)(hok:Ci 65536 65540 n)(G a cap w)(hG:∀b,G b->b<w.heap.size)(hr:Ac G w a (Au [D1 n]))(hT:Em w)(hB:StdB w):
  Calls Tryz.prog 7 #[D a 1 cap,D E 0 0,plainH,B C 20000] w (PGiven n w):=by
 have hsn:smallNs [D1 n]:=by
  rw[smallNs,smallNs];refine⟨?_,trivial⟩;unfold D1;rw[Cf,smallNs,smallNs];exact⟨by decide,by simp,smallN_ok hok,trivial⟩
 obtain⟨aE,aG⟩:=run_one (n:=n) plain_all hok;have hH:=runN_any (hv:=L7 Bl) op_contract Ze (Aam Bl) plain_nz (fun _=>False) E9 (ndH n+1) G [D1 n] a cap 20000 w
  ⟨fun _ h=>h.elim,E9.lt hT hB,fun _ _ h=>h⟩ 83 (J #[]) rfl ⟨hT,hB,.inl rfl,.inr rfl⟩ (fun _ _ h=>h) (by decide) hG hr hsn (by simp) aE
  (fun st hst=>by obtain⟨v,hv⟩:=aG st hst;rw[hv];simp)
 refine hH.mono ?_;rintro e w' ⟨c',aB,hq⟩;have hb:Below w.heap.size w w':=⟨aB.os,aB.tape,aB.output,aB.size,fun b hb=>aB.block b hb (fun h=>h)⟩;refine⟨hb,?_⟩;show ∃(a:Option Addr) (len cap:Nat) (x l k:Int),e = .returned (.tuple #[D a len cap,B C x,J #[B C l,B C k]])/\ResW (Oh w) n w' a len x l k;have aF:(L7 Bl).ans=Bl:=rfl;rw[aF] at hq;unfold ResW workL;cases hres:L6 Bl (ndH n+1) [D1 n] 20000 with
 | out=>exact absurd hres aE
 | err x l k=>
  rw[hres] at hq;subst hq;exact⟨E,0,0,x,l,k,rfl,rfl,rfl,rfl,ENz.block (ENz.stmts plain_nz (ndH n+1)) _ _ _ _ _ hres⟩
 | ok u st=>
  rw[hres] at hq;obtain⟨-,-,aC,a',cap',rfl,aA⟩:=hq;obtain⟨v,hv⟩:=aG st hres;rw[hv] at aA aC;have hl1:(C5 st.names).length=1:=(by rw[hv,S4];rfl);refine⟨a',1,cap',0,0,0,by rw[hl1],rfl,rfl,rfl,rfl,?_,?_⟩
  ·rw[S4] at aA;rw[hv,S5];exact aA.mono fun b hb' hl=>⟨by
    rcases aB.f b hb' with h|h
    ·exact .inl h
    ·exact .inr h,hl,rfl⟩
  ·rw[hv,S5];exact(aC _ (List.mem_singleton.2 rfl)).1
theorem Ac.one{F w b cs t ds}(hb:w.heap[b]? = I (.cells cs.toArray t (0,0)))(hF:F b)(ha:Ai F w ds cs):Ac F w (I ⟨b,0,E⟩) [ds]:=by
 intro j d hj;cases j with
 | succ j=>simp at hj
 | zero=>
  simp at hj;subst hj;obtain⟨h1,h2,-⟩:=Ao hb;exact⟨b,0,cs,rfl,hF,h1,ha,fun i u hu=>by
   rw[nzm,Nat.zero_add,h2]
   simpa using hu⟩
def rowW:Except Flt Vl->List (ByteArray×Vl)
 | .ok v=>[(⟨#[120]⟩,v)]
 | .error _=>[]
def codeW:Except Flt Vl->Flt
 | .ok _=>(0,0,0)
 | .error f=>f
def OkW:Except Flt Vl->Prop
 | .ok v=>Am v=true
 | .error f=>f.1≠0
theorem Ai.row_mk{F w rows a n cap}(hn:n=rows.length)(h:Ac F w a rows):Ai F w [.row rows] [D a n cap]:=by
 subst hn;exact .cons (D7.rowb_mk cap (fun h=>by cases h) h) .nil
theorem Ai.row_at{F w rows a n cap}(h:Ai F w [.row rows] [D a n cap]):Ac F w a rows:=by
 obtain⟨v,cs,he,h0,-⟩:=h.cons_inv;obtain⟨rfl,-⟩:v = D a n cap/\_:=⟨(List.cons.inj he).1.symm,trivial⟩;obtain⟨a',cap',he2,hr⟩:=h0.row_inv;obtain⟨rfl,-,-⟩:a=a'/\_/\_:=(by simpa using he2);exact hr
section
variable {F:Nat->Prop} {c0 c:Ctx} {w W W':World} {mp mb:Nat} {hv:Dq} {G:Nat->Prop} {lv:Bool} {st:St} {ls:List (Nat×Array Value×TypeId)} {nr:List (Option Addr×List Nd)} {vr:List (List Dat×List Value)} {ow:OwS} {Q:Ending->World->Prop}
theorem EI.laS(h:EI c0 w mp mb hv G lv c st ls nr vr ow W){l0:List (Nat×Array Value×TypeId)}(hs:∀x∈l0,x∈ls):C4 W l0:=Jz _ fun x hx=>h.locs x (hs x hx)
theorem xPlainH(k:∀W',Hid (EI c0 w mp mb hv G lv c st ls nr vr ow W')->Q (.returned (.iface 83 (J #[]))) W')(H:EI c0 w mp mb hv G lv c st ls nr vr ow W:=by exact gH):Calls Tryz.prog 8 #[] W Q:=xB H (Zf W) k
theorem xHB{ops:Array Oper}{Q:Exit->Act->World->Prop}{fin i j:Nat}{o o':Oper}{t u:Tu}{a:Act}{l0:List (Nat×Array Value×TypeId)}(k:∀W',Hid (EI c0 w mp mb hv G lv c st ls nr vr ow W')->∀K:Act->World->Prop,(∀a2 w2,(i≠fin->C4 w2 l0)->Ak Tryz.prog ops (fun W'=>C4 W' l0) Q fin t a2 w2->K a2 w2)->wpList Tryz.prog ops (Exit.then K Q) [o] a W')
  (k':∀W',Hid (EI c0 w mp mb hv G lv c st ls nr vr ow W')->∀K:Act->World->Prop,(∀a2 w2,(j≠fin->C4 w2 l0)->Ak Tryz.prog ops (fun W'=>C4 W' l0) Q fin u a2 w2->K a2 w2)->wpList Tryz.prog ops (Exit.then K Q) [o'] a W') (H:EI c0 w mp mb hv G lv c st ls nr vr ow W:=by exact gH) (ho:ops[i]? = I o:=by rfl) (ho':ops[j]? = I o':=by rfl):Ak Tryz.prog ops (fun W'=>C4 W' l0) Q fin (.b i t j u) a W:=Dz ho ho' (k W (Lq7 H)) (k' W (Lq7 H))
theorem xHC{ops:Array Oper}{Q:Exit->Act->World->Prop}{fin i j n:Nat}{o o' o2:Oper}{t u v:Tu}{a:Act}{l0:List (Nat×Array Value×TypeId)}(k:∀W',Hid (EI c0 w mp mb hv G lv c st ls nr vr ow W')->∀K:Act->World->Prop,(∀a2 w2,(i≠fin->C4 w2 l0)->Ak Tryz.prog ops (fun W'=>C4 W' l0) Q fin t a2 w2->K a2 w2)->wpList Tryz.prog ops (Exit.then K Q) [o] a W')
  (k':∀W',Hid (EI c0 w mp mb hv G lv c st ls nr vr ow W')->∀K:Act->World->Prop,(∀a2 w2,(j≠fin->C4 w2 l0)->Ak Tryz.prog ops (fun W'=>C4 W' l0) Q fin u a2 w2->K a2 w2)->wpList Tryz.prog ops (Exit.then K Q) [o'] a W') (k2:∀W',Hid (EI c0 w mp mb hv G lv c st ls nr vr ow W')->∀K:Act->World->Prop,(∀a2 w2,(n≠fin->C4 w2 l0)->Ak Tryz.prog ops (fun W'=>C4 W' l0) Q fin v a2 w2->K a2 w2)->wpList Tryz.prog ops (Exit.then K Q) [o2] a W')
  (H:EI c0 w mp mb hv G lv c st ls nr vr ow W:=by exact gH) (ho:ops[i]? = I o:=by rfl) (ho':ops[j]? = I o':=by rfl) (ho2:ops[n]? = I o2:=by rfl):Ak Tryz.prog ops (fun W'=>C4 W' l0) Q fin (.c i t j u n v) a W:=Y5 ho ho' ho2 (k W (Lq7 H)) (k' W (Lq7 H)) (k2 W (Lq7 H))
theorem xRunW{kk l k:Int}{t:ByteArray}{kids:List Nd}{a:Option Addr}{cap sb kb:Nat}{T T':TypeId}{R:Except Flt Vl}(hR:R=workL Bl (.mk kk t l k kids))(hok:Ci 65536 65540 (.mk kk t l k kids))(hcp:F5 kk=true->kids.length<=cap)(hT:Em w)(hB:StdB w)(hF:∀b,E9 b->F b)
  (q:∀c' W' ra rc,OkW R->Hid (EI ⟨fun _=>False,F⟩ w mp mb hv G lv c' st ls nr (([.row (Bx (rowW R))],[D ra (rowW R).length rc])::vr) ow W')->Q (.returned (.tuple #[D ra (rowW R).length rc,B C (codeW R).1,J #[B C (codeW R).2.1,B C (codeW R).2.2]])) W')
  (H:EI ⟨fun _=>False,F⟩ w mp mb hv G lv c st ls nr vr ow W:=by exact gH) (hk:ls[3]? = I (kb,#[B C kk,A t,B C l,B C k,D a kids.length cap],T):=by with_unfolding_all rfl)
  (hs:ls[5]? = I (sb,#[B C 2,A ⟨#[120]⟩,B C l,B C k,D (I ⟨kb,0,E⟩) 1 1],T')\/ls[6]? = I (sb,#[B C 2,A ⟨#[120]⟩,B C l,B C k,D (I ⟨kb,0,E⟩) 1 1],T'):=by first|exact .inl (by with_unfolding_all rfl)|exact .inr (by with_unfolding_all rfl)) (ha:(a,kids)∈nr:=by simp):
  Calls Tryz.prog 7 #[D (I ⟨sb,0,E⟩) 1 1,D E 0 0,.iface 83 (J #[]),B C 20000] W Q:=by
 have aE:=H.locs _ (lgM hk);have aF:W.heap[sb]? = I (N #[B C 2,A ⟨#[120]⟩,B C l,B C k,D (I ⟨kb,0,E⟩) 1 1] T' (0,0)):=hs.elim (fun h=>H.locs _ (lgM h)) fun h=>H.locs _ (lgM h);have h1:Ac (fun b=>G b\/b=kb\/b=sb) W (I ⟨kb,0,E⟩) (Au [.mk kk t l k kids]):=by
  obtain⟨cs,aB,aC⟩:=A7.mk (F:=G) (w:=W) kk t l k cap (H.nr _ ha) hcp;obtain rfl:cs=[B C kk,A t,B C l,B C k,D a kids.length cap]:=(by simpa using aB.symm);rw[B7];exact Ac.one (cs:=[B C kk,A t,B C l,B C k,D a kids.length cap]) aE (.inr (.inl rfl)) (aC.mono fun b hb hl=>⟨.inl hb,hl,rfl⟩)
 have h2:Ac (fun b=>G b\/b=kb\/b=sb) W (I ⟨sb,0,E⟩) (Au [D1 (.mk kk t l k kids)]):=by
  obtain⟨cs,aB,aC⟩:=A7.mk (kids:=[.mk kk t l k kids]) 2 ⟨#[120]⟩ l k 1 h1;obtain rfl:cs=[B C 2,A ⟨#[120]⟩,B C l,B C k,D (I ⟨kb,0,E⟩) 1 1]:=(by simpa using aB.symm);rw[B7];exact Ac.one (cs:=[B C 2,A ⟨#[120]⟩,B C l,B C k,D (I ⟨kb,0,E⟩) 1 1]) aF (.inr (.inr rfl)) aC
 refine(Acn _ hok _ _ 1 W (fun b hb=>?_) h2 (hT.below H.bel) (hB.below H.bel)).mono ?_
 ·rcases hb with hb|rfl|rfl
  ·exact(H.g b hb).1
  ·exact here aE
  ·exact here aF
 rintro e w' ⟨hb,ra,len,rc,x,y,z,rfl,aA⟩;unfold ResW at aA;rw[<-hR] at aA;cases R with
 | error f=>
  obtain⟨rfl,rfl,rfl,hx⟩:=aA;exact q _ w' E rc hx (Lq7 (H.fresh hb (Ai.row_mk rfl (Ac.nil _))))
 | ok v=>
  obtain⟨rfl,rfl,rfl,rfl,aD,hx⟩:=aA;exact q _ w' ra rc hx (Lq7 (H.fresh hb (Ai.row_mk rfl (aD.mono fun b hb' hl=>⟨hb'.imp (fun h=>H.f0 b (hF b h)) id,hl,rfl⟩))))
end
def PRes{α:Type}(dat:α->List Dat)(ok:α->Prop)(Z:Value)(F:Nat->Prop)(w:World)(r:Except Flt α)(e:Ending)(w':World):Prop:=Below w.heap.size w w'/\match r with
 | .ok v=>∃cs:List Value,e = .returned (.tuple #[.agg cs.toArray,Bk 0 0 0])/\Ai F w' (dat v) cs/\ok v
 | .error f=>e = .returned (.tuple #[Z,Bk f.1 f.2.1 f.2.2])/\f.1≠0
def PWork(w0:World)(n:Nd)(w:World):Ending->World->Prop:=PRes valD (fun v=>Am v=true) zeroV (Oh w0) w (workL Bl n)
section
variable {F:Nat->Prop} {c0 c:Ctx} {w W:World} {mp mb:Nat} {hv:Dq} {G:Nat->Prop} {lv:Bool} {st:St} {ls:List (Nat×Array Value×TypeId)} {nr:List (Option Addr×List Nd)} {vr:List (List Dat×List Value)} {ow:OwS} {Q:Ending->World->Prop} {α:Type} {dat:α->List Dat} {ok:α->Prop} {Z:Value}
theorem rE{x y z:Int}(H:EI ⟨fun _=>False,F⟩ w mp mb hv G lv c st ls nr vr ow W){F':Nat->Prop}(hx:x≠0:=by exact Hq.out):PRes dat ok Z F' w (.error (x,y,z)) (.returned (.tuple #[Z,J #[B C x,B C y,B C z]])) W:=⟨H.bel,rfl,hx⟩
theorem rO{x:α}{cs:List Value}(H:EI ⟨fun _=>False,F⟩ w mp mb hv G lv c st ls nr vr ow W){F':Nat->Prop}(ha:(dat x,cs)∈vr:=by simp)(hF:∀b,F b->F' b:=by exact HF.out)(hN:∀b,w.heap.size<=b->F' b:=by exact HN.out)(hk:ok x:=by exact Hk.out):PRes dat ok Z F' w (.ok x) (.returned (.tuple #[.agg cs.toArray,J #[B C 0,B C 0,B C 0]])) W:=
 ⟨H.bel,cs,rfl,(H.vr _ ha).wider fun b hb _=>(H.mv.f b hb).elim (hF b) (hN b),hk⟩
theorem rret5{fn:Func}{i j bV bF:Nat}{T T':TypeId}{x0 x1 x2 x3 x4 f0 f1 f2:Value}{tm:Array Value}(H:EI c0 w mp mb hv G lv c st ls nr vr ow W)(q:Q (.returned (.tuple #[J #[x0,x1,x2,x3,x4],J #[f0,f1,f2]])) W)
  (hV:ls[1]? = I (bV,#[x0,x1,x2,x3,x4],T):=by with_unfolding_all rfl) (hF:ls[2]? = I (bF,#[f0,f1,f2],T'):=by with_unfolding_all rfl)
  (hf:fn.results=#[.cell i 53,.cell j 119]:=by rfl) (ht:tm.getD i undef = M (I ⟨bV,0,E⟩):=by rfl) (hu:tm.getD j undef = M (I ⟨bF,0,E⟩):=by rfl):bodyPost Tryz.prog fn Q .ret ⟨tm,[]⟩ W:=by
 rw[Array.getD_eq_getD_getElem?] at ht hu;obtain⟨r0,r1,r2,r3,r4,r5,-⟩:=Aa (H.locs _ (lgM hV));obtain⟨q0,q1,q2,q3,-⟩:=Bh (H.locs _ (lgM hF));exact bodyPost_ret (v:=.tuple #[J #[x0,x1,x2,x3,x4],J #[f0,f1,f2]]) (by simp[results,hf,go_sem,ht,hu,r1,r2,r3,r4,r5,q1,q2,q3]) rfl q
end
theorem sub0125{α:Type}{a b c d e f g:α}: [a,b,c,f].Sublist [a,b,c,d,e,f,g]:=.cons_cons _ (.cons_cons _ (.cons_cons _ (.cons _ (.cons _ (.cons_cons _ (.cons _ .slnil))))))
theorem sub0126{α:Type}{a b c d e f g:α}: [a,b,c,g].Sublist [a,b,c,d,e,f,g]:=.cons_cons _ (.cons_cons _ (.cons_cons _ (.cons _ (.cons _ (.cons _ (.cons_cons _ .slnil))))))
theorem rdrv{P:Prop}(h:P:=by
 repeat' first
  | ((with_reducible refine goO ?_);((try simp only[List.cons_append,List.nil_append,List.set_cons_zero,List.set_cons_succ] at H);(have hD:=H.out.fa);(simp only[FaA,PwA,NeB,and_true] at hD);go_wp2_with fail;all_goals (try clear hD)))
  | ((with_reducible show Calls _ 8 _ _ _);refine xPlainH ?_;intro V H;refine goM ?_)
  | ((with_reducible show Calls _ 7 _ _ _);refine xRunW HR.out Hok.out Hc.out HT.out HB.out (fun _ h=>h) ?_;intro c V ra rc hw H;have hw:=Go.Lib.hid hw;refine goM ?_)
  | ((with_reducible show Code.wp _ (.region _ _ _) _ _ _);(first|refine xRgn (.s 0 (.s 1 (.h 2 (.h 3 .nil)))) 99 ?_|refine xRgn (.s 0 (.s 1 (.s 2 (.h 3 (.h 4 .nil))))) 99 ?_|refine xRgn (.s 0 (.s 1 (.s 2 (.s 3 (.h 4 (.h 5 .nil)))))) 99 ?_|refine xRgn (.s 0 (.s 1 (.s 2 (.s 3 (.s 4 (.h 5 (.h 6 .nil))))))) 99 ?_|refine xRgn (.s 0 (.c 1 (.b 2 (.b 3 (.s 4 (.s 5 (.s 6 (.s 7 (.h 8 (.s 9 (.s 10 (.h 11 .nil)))))))) 8 (.h 3 (.s 4 (.s 5 (.s 6 (.s 7 (.s 9 (.s 10 (.h 11 .nil))))))))) 8 (.h 2 (.h 3 (.s 4 (.s 5 (.s 6 (.s 7 (.s 9 (.s 10 (.h 11 .nil)))))))))) 2 (.b 1 (.b 3 (.s 4 (.s 5 (.s 6 (.s 7 (.h 8 (.s 9 (.s 10 (.h 11 .nil)))))))) 8 (.h 3 (.s 4 (.s 5 (.s 6 (.s 7 (.s 9 (.s 10 (.h 11 .nil))))))))) 8 (.h 1 (.h 3 (.s 4 (.s 5 (.s 6 (.s 7 (.s 9 (.s 10 (.h 11 .nil)))))))))) 8 (.b 1 (.h 2 (.h 3 (.s 4 (.s 5 (.s 6 (.s 7 (.s 9 (.s 10 (.h 11 .nil))))))))) 2 (.h 1 (.h 3 (.s 4 (.s 5 (.s 6 (.s 7 (.s 9 (.s 10 (.h 11 .nil)))))))))))) 99 ?_);intro V H)
  | ((with_reducible show Ak _ _ _ _ _ (.s _ _) _ _);refine tS ?_)
  | ((with_reducible show Ak _ _ _ _ _ (.h _ _) _ _);refine xH ?_;intro V H K hK;refine goM ?_)
  | ((with_reducible show Ak _ _ _ _ _ (.b _ _ _ _) _ _);refine xHB ?_ ?_<;>(intro V H K hK;refine goM ?_))
  | ((with_reducible show Ak _ _ _ _ _ (.c _ _ _ _ _ _) _ _);refine xHC ?_ ?_ ?_<;>(intro V H K hK;refine goM ?_))
  | ((with_reducible show Ak _ _ _ _ _ .nil _ _);refine A2 ?_;refine goM ?_)
  | ((with_reducible show bodyPost _ _ _ _ _ _);refine rret5 gH ?_;first|exact rE gH|exact rO gH)
  | (refine hK _ _ (by first|with_reducible exact fun _=>H.out.cut5|with_reducible exact fun _=>H.out.cut3|exact fun _=>EI.laS gH (by simp[cutR])) ?_)
  | (go_meet;(case rel=>exact⟨_,_,_,_,rfl,rfl,rfl,Go.Lib.hid (EI.subl gH (by first|exact sub0126|exact sub0125) (by simp) (by simp)),hw⟩))):P:=h
theorem Zd(n)(hok:Ci 65536 65540 n)(G v w)(hG:∀b,G b->b<w.heap.size)(hn:A7 G w n v)(hT:Em w)(hB:StdB w):
  Calls Tryz.prog 154 #[v] w (PWork w n w):=by
 obtain⟨kk,t,l,k,kids⟩:=n;obtain⟨a,cap,rfl,hr⟩:=hn.open;unfold PWork;obtain⟨R,hR⟩:∃R,R=workL Bl (.mk kk t l k kids):=⟨_,rfl⟩;rw[<-hR];have HR:=Lq7 hR;clear hR;have Hc:=Lq7 (A7.cap hn);have Hok:=Lq7 hok;have HT:=Lq7 hT;have HB:=Lq7 hB;have h0:=(EI.init (E9.lt hT hB) hG).node hr;have h1:=h0.start3 (n:=#[B C kk,A t,B C l,B C k,D a kids.length cap]) (v:=#[B C 0,B C 0,A ⟨#[]⟩,D E 0 0,D E 0 0]) (f:=#[B C 0,B C 0,B C 0]) (T:=27) (T':=53) (T2:=119);have H:=Lq7 (h1.alloc2 (cs:=#[B C kk,A t,B C l,B C k,D a kids.length cap]) (T:=27) (cs':=#[B C 2,A ⟨#[120]⟩,B C l,B C k,D (I ⟨w.heap.size+1+1+1,0,E⟩) 1 1]) (T':=27));obtain⟨r0,r1,r2,r3,r4,r5,r6,r7,r8,r9,r10⟩:=Aa (h1.locs _ (lmS ..));clear hn hr hG hT hB hok h0 h1;go_enter Tryz.func154,Tryz.ntmps154;go_wp2_with fail;clear r0 r1 r2 r3 r4 r5 r6 r7 r8 r9 r10;simp only[List.nil_append,List.cons_append] at H;have hsz:(((w.alloc (N #[B C kk,A t,B C l,B C k,D a kids.length cap] 27)).alloc (N #[B C 0,B C 0,A ⟨#[]⟩,D E 0 0,D E 0 0] 53)).alloc (N #[B C 0,B C 0,B C 0] 119)).heap.size=w.heap.size+1+1+1:=(by simp);rw[hsz] at H;clear hsz;generalize World.alloc _ _=W at H |-
 go_cut [5,6,7] from 15 (fun v5 v6 v7 wc=>∃(c1:Ctx) (ra:Option Addr) (rc pb:Nat),v5 = D ra (rowW R).length rc/\v6 = B C (codeW R).1/\v7 = M (I ⟨pb,0,E⟩)/\Hid (EI ⟨fun _=>False,E9⟩ w 0 0 noK G false c1 ⟨[],0,[]⟩ [(w.heap.size,#[B C kk,A t,B C l,B C k,D a kids.length cap],27),(w.heap.size+1,#[B C 0,B C 0,A ⟨#[]⟩,D E 0 0,D E 0 0],53),(w.heap.size+1+1,#[B C 0,B C 0,B C 0],119),(pb,#[B C (codeW R).2.1,B C (codeW R).2.2],24)] [] [([.row (Bx (rowW R))],[D ra (rowW R).length rc])] .nil wc)/\Hid (OkW R))
 case first=>
  refine goM ?_;exact rdrv
 case rest=>
  obtain⟨c1,ra,rc,pb,rfl,rfl,rfl,H,Hw⟩:=hcut;clear HR;cases R with
  | error f=>
   obtain⟨x,y,z⟩:=f;have hx:x≠0:=Hw.out;have Hq:=Lq7 hx;have hx1:(x==0)=false:=(by simpa using hx);have hx2:(x != 0)=true:=(by simpa using hx);clear Hw hx
   dsimp only[rowW,codeW,List.length_nil] at H |-
   refine goM ?_;exact rdrv
  | ok v=>
   obtain⟨vk,vn,vs,vl,vks⟩:=v;have Hk:Hid (Am (.mk vk vn vs vl vks)=true):=Lq7 Hw.out
   dsimp only[rowW,codeW] at H |-
   obtain⟨b,off,a1,c2,a2,c3,rfl,hFb,hbl,r0,r1,r2,r3,r4,r5,aG,aH⟩:=(Ai.row_at (H.out.vr _ (lmS ..))).named (j:=0) rfl;replace H:=Lq7 (H.out.val (Ai.val_mk vk vn vs c2 c3 aG aH));simp only[nzm,naz] at r0 r1 r2 r3 r4 r5;clear aG aH hFb Hw;have HF:Hid (∀b,E9 b->Oh w b):=Lq7 fun _ h=> .inl h;have HN:Hid (∀b,w.heap.size<=b->Oh w b):=Lq7 fun _ h=> .inr h;go_wp2_with fail
   go_loopw [31] (fun i wr=>i = B C 0/\wr=wc) (fun _ _=>0)
   case atStart=>exact⟨rfl,rfl⟩
   case round=>
    obtain⟨rfl,hwr⟩:=hrel;subst hwr
    go_upto_region 9 with fail
    clear r0 r1 r2 r3 r4 r5;replace H:=Lq7 (H.out.alloc #[A ⟨#[120]⟩,B C vk,B C vn,A vs,D a1 vl.length c2,D a2 vks.length c3] 55);generalize World.alloc _ _=V at H |-;refine goM ?_;exact rdrv
theorem infoAttr:(Tryz.prog.info? 97).map (fun i=>(i.zero,i.size,i.bytes))=I (I (J #[A ByteArray.empty,B C 0,L false,B C 0,B C 0,A ByteArray.empty,D E 0 0,D E 0 0]),8,112):=by kernel_rfl
theorem typesAt0(W):(Instr.index 231 (J #[A ⟨#[]⟩,A ⟨#[116,101,120,116]⟩,A ⟨#[98,111,111,108]⟩,A ⟨#[105,110,116]⟩,A ⟨#[116,101,120,116,115]⟩,A ⟨#[102,105,108,101,115]⟩,A ⟨#[108,97,98,101,108,115]⟩]) (B C 0)).run Tryz.prog W = .ok (A ⟨#[]⟩) W:=by kernel_rfl
theorem typesAt1(W):(Instr.index 231 (J #[A ⟨#[]⟩,A ⟨#[116,101,120,116]⟩,A ⟨#[98,111,111,108]⟩,A ⟨#[105,110,116]⟩,A ⟨#[116,101,120,116,115]⟩,A ⟨#[102,105,108,101,115]⟩,A ⟨#[108,97,98,101,108,115]⟩]) (B C 1)).run Tryz.prog W = .ok (A ⟨#[116,101,120,116]⟩) W:=by kernel_rfl
theorem typesAt2(W):(Instr.index 231 (J #[A ⟨#[]⟩,A ⟨#[116,101,120,116]⟩,A ⟨#[98,111,111,108]⟩,A ⟨#[105,110,116]⟩,A ⟨#[116,101,120,116,115]⟩,A ⟨#[102,105,108,101,115]⟩,A ⟨#[108,97,98,101,108,115]⟩]) (B C 2)).run Tryz.prog W = .ok (A ⟨#[98,111,111,108]⟩) W:=by kernel_rfl
theorem typesAt3(W):(Instr.index 231 (J #[A ⟨#[]⟩,A ⟨#[116,101,120,116]⟩,A ⟨#[98,111,111,108]⟩,A ⟨#[105,110,116]⟩,A ⟨#[116,101,120,116,115]⟩,A ⟨#[102,105,108,101,115]⟩,A ⟨#[108,97,98,101,108,115]⟩]) (B C 3)).run Tryz.prog W = .ok (A ⟨#[105,110,116]⟩) W:=by kernel_rfl
theorem typesAt4(W):(Instr.index 231 (J #[A ⟨#[]⟩,A ⟨#[116,101,120,116]⟩,A ⟨#[98,111,111,108]⟩,A ⟨#[105,110,116]⟩,A ⟨#[116,101,120,116,115]⟩,A ⟨#[102,105,108,101,115]⟩,A ⟨#[108,97,98,101,108,115]⟩]) (B C 4)).run Tryz.prog W = .ok (A ⟨#[116,101,120,116,115]⟩) W:=by kernel_rfl
theorem typesAt5(W):(Instr.index 231 (J #[A ⟨#[]⟩,A ⟨#[116,101,120,116]⟩,A ⟨#[98,111,111,108]⟩,A ⟨#[105,110,116]⟩,A ⟨#[116,101,120,116,115]⟩,A ⟨#[102,105,108,101,115]⟩,A ⟨#[108,97,98,101,108,115]⟩]) (B C 5)).run Tryz.prog W = .ok (A ⟨#[102,105,108,101,115]⟩) W:=by kernel_rfl
theorem typesAt6(W):(Instr.index 231 (J #[A ⟨#[]⟩,A ⟨#[116,101,120,116]⟩,A ⟨#[98,111,111,108]⟩,A ⟨#[105,110,116]⟩,A ⟨#[116,101,120,116,115]⟩,A ⟨#[102,105,108,101,115]⟩,A ⟨#[108,97,98,101,108,115]⟩]) (B C 6)).run Tryz.prog W = .ok (A ⟨#[108,97,98,101,108,115]⟩) W:=by kernel_rfl
theorem Vg{n b w W c0 c1 c2 c3 c4 t}(hn:n<=b)(hb:Below n w W)(hr:W.heap[b]? = I (N #[c0,c1,c2,c3,c4] t (0,0)))(v0 v1 v2 v3 v4):
  (Nt W b v0 v1 v2 v3 v4).heap[b]? = I (N #[v0,v1,v2,v3,v4] t (0,0))/\Below n w (Nt W b v0 v1 v2 v3 v4):=by
 unfold Nt;exact⟨by rw[Af (Af (Af (Af (Af hr 0 _) 1 _) 2 _) 3 _) 4];rfl,((((hb.setCell (p:=⟨b,0,E⟩) hn _).setCell (p:=⟨b,1,E⟩) hn _).setCell (p:=⟨b,2,E⟩) hn _).setCell (p:=⟨b,3,E⟩) hn _).setCell (p:=⟨b,4,E⟩) hn _⟩
def J9(r:RuleP):List Dat:=[.one (A r.name),.row (C0 r.attrs),.row (ndsD r.body),.one (B C r.ln),.one (B C r.cl)]
def Dy(l:List RuleP):List (List Dat):=l.map J9
theorem L9(l):(Dy l).length=l.length:=by simp[Dy]
theorem Aat(r):(J9 r).length=5:=rfl
section
variable {F:Nat->Prop} {w:World}
theorem Ai.rule{r:RuleP}{cs:List Value}(h:Ai F w (J9 r) cs):∃a c a' c',cs=[A r.name,D a r.attrs.length c,D a' r.body.length c',B C r.ln,B C r.cl]/\Ac F w a (C0 r.attrs)/\Ac F w a' (ndsD r.body):=by
 unfold J9 at h;obtain⟨c0,cs,rfl,h0,h⟩:=h.cons_inv;obtain⟨c1,cs,rfl,h1,h⟩:=h.cons_inv;obtain⟨c2,cs,rfl,h2,h⟩:=h.cons_inv;obtain⟨c3,cs,rfl,h3,h⟩:=h.cons_inv;obtain⟨c4,cs,rfl,h4,h⟩:=h.cons_inv;obtain rfl:=h.nil_inv;obtain rfl:=h0.one_inv;obtain rfl:=h3.one_inv;obtain rfl:=h4.one_inv;obtain⟨a,c,rfl,hr⟩:=h1.row_inv;obtain⟨a',c',rfl,hr'⟩:=h2.row_inv;exact⟨a,c,a',c',by rw[Jp,Mw],hr,hr'⟩
theorem Ai.rule_mk(nm:ByteArray){l:List AttrP}{body:List Nd}(x y:Int){a a':Option Addr}(c c':Nat)(h:Ac F w a (C0 l))(h':Ac F w a' (ndsD body)):
  Ai F w (J9 ⟨nm,l,body,x,y⟩) [A nm,D a l.length c,D a' body.length c',B C x,B C y]:=by
 unfold J9;exact .cons (.one _) (.cons (by rw[<-Jp l];exact D7.row_mk c h) (.cons (by rw[<-Mw body];exact D7.row_mk c' h') (.cons (.one _) (.cons (.one _) .nil))))
theorem Ac.rule{a:Option Addr}{l:List RuleP}(h:Ac F w a (Dy l)){j:Nat}{r:RuleP}(hj:l[j]? = I r):
  ∃b off a1 c1 a2 c2,a=I ⟨b,off,E⟩/\F b/\b<w.heap.size/\w.cell? ⟨b,off+j*5,E⟩=I (A r.name)/\w.cell? ⟨b,off+j*5+1,E⟩=I (D a1 r.attrs.length c1)/\w.cell? ⟨b,off+j*5+2,E⟩=I (D a2 r.body.length c2) /\
   w.cell? ⟨b,off+j*5+3,E⟩=I (B C r.ln)/\w.cell? ⟨b,off+j*5+4,E⟩=I (B C r.cl)/\Ac F w a1 (C0 r.attrs)/\Ac F w a2 (ndsD r.body):=by
 obtain⟨b,off,cs,ha,hF,hb,hd,hc⟩:=h j (J9 r) (by rw[Dy,lgP,hj];rfl);obtain⟨a1,c1,a2,c2,rfl,h1,h2⟩:=hd.rule;rw[Aat] at hc;exact⟨b,off,a1,c1,a2,c2,ha,hF,hb,hc 0 _ rfl,hc 1 _ rfl,hc 2 _ rfl,hc 3 _ rfl,hc 4 _ rfl,h1,h2⟩
theorem Ai.nd_of{n:Nd}:∀{cs:List Value},Ai F w (nodeD n) cs->Ai F w (ndD n) cs:=
 Nd.rec (motive_1:=fun n=>∀{cs:List Value},Ai F w (nodeD n) cs->Ai F w (ndD n) cs) (motive_2:=fun l=>∀x∈l,∀{cs:List Value},Ai F w (nodeD x) cs->Ai F w (ndD x) cs)
  (fun k t l c kids ih cs h=>by
   have hv:A7 F w (.mk k t l c kids) (.agg cs.toArray):=⟨cs,rfl,h⟩;obtain⟨a,cap,he,hr⟩:=hv.open;obtain rfl:cs=[B C k,A t,B C l,B C c,D a kids.length cap]:=(by simpa using he);rw[ndD];refine .cons (.one _) (.cons (.one _) (.cons (.one _) (.cons (.one _) (.cons ?_ .nil))));rw[<-Mw kids];refine D7.row_mk cap (fun j d hj=>?_);rw[Mu,lgP] at hj;cases hx:kids[j]? with
   | none=>rw[hx] at hj;cases hj
   | some x=>
    rw[hx] at hj;cases hj;obtain⟨b,off,cs,ha,hF,hb,hd,hc⟩:=hr j (nodeD x) (by rw[B7,lgP,hx];rfl);refine⟨b,off,cs,ha,hF,hb,ih x (lgM hx) hd,?_⟩;obtain⟨k,t,l,c,m⟩:=x;rw[Ed] at hc;exact hc)
  (fun x hx=>by cases hx)
  (fun v t hv ht x hx=>by
   rcases List.mem_cons.1 hx with rfl|hx
   ·exact hv
   ·exact ht x hx) n
theorem Ac.nds_of{a:Option Addr}{l:List Nd}(h:Ac F w a (Au l)):Ac F w a (ndsD l):=by
 intro j d hj;rw[Mu,lgP] at hj;cases hx:l[j]? with
 | none=>rw[hx] at hj;cases hj
 | some x=>
  rw[hx] at hj;cases hj;obtain⟨b,off,cs,ha,hF,hb,hd,hc⟩:=h j (nodeD x) (by rw[B7,lgP,hx];rfl);refine⟨b,off,cs,ha,hF,hb,hd.nd_of,?_⟩;obtain⟨k,t,l,c,m⟩:=x;rw[Ed] at hc;exact hc
end
def tyName:Nat->List UInt8
 | 1=>[116,101,120,116]
 | 2=>[98,111,111,108]
 | 3=>[105,110,116]
 | 4=>[116,101,120,116,115]
 | 5=>[102,105,108,101,115]
 | 6=>[108,97,98,101,108,115]
 | _=>[]
def Ma(k:Nat)(s:List UInt8):Prop:=∀j,1<=j->j<k->¬s=tyName j
theorem Ma.one(s):Ma 1 s:=fun j h1 h2=>by omega
theorem Ma.step{k s}(h:Ma k s)(hk:¬s=tyName k):Ma (k+1) s:=fun j h1 h2=>by
 by_cases e:j=k
 ·rw[e];exact hk
 ·exact h j h1 (by omega)
theorem Ma.none{s}(h:Ma 7 s):I3 s=0:=by
 unfold I3;rw[if_neg (show ¬s=[116,101,120,116] from h 1 (by decide) (by decide)),if_neg (show ¬s=[98,111,111,108] from h 2 (by decide) (by decide)),if_neg (show ¬s=[105,110,116] from h 3 (by decide) (by decide)),if_neg (show ¬s=[116,101,120,116,115] from h 4 (by decide) (by decide)),if_neg (show ¬s=[102,105,108,101,115] from h 5 (by decide) (by decide)),if_neg (show ¬s=[108,97,98,101,108,115] from h 6 (by decide) (by decide))]
theorem X6(s w):Calls Tryz.prog 152 #[A s] w (fun e w'=>e = .returned (B C (I3 s.data.toList))/\Below w.heap.size w w'):=by
 have hb:=Lq7 ((Below.refl _ w).alloc (nlr _) (N #[A ⟨#[]⟩,A ⟨#[116,101,120,116]⟩,A ⟨#[98,111,111,108]⟩,A ⟨#[105,110,116]⟩,A ⟨#[116,101,120,116,115]⟩,A ⟨#[102,105,108,101,115]⟩,A ⟨#[108,97,98,101,108,115]⟩] 231));have Hd:=Lq7 (Lq8 s);go_enter Tryz.func152,Tryz.ntmps152;go_wp2_with fail
 go_loop [8] (fun i=>i = B C 0\/(i = B C 1/\Hid (Ma 1 s.data.toList))\/(i = B C 2/\Hid (Ma 2 s.data.toList))\/(i = B C 3/\Hid (Ma 3 s.data.toList))\/(i = B C 4/\Hid (Ma 4 s.data.toList))\/(i = B C 5/\Hid (Ma 5 s.data.toList))\/(i = B C 6/\Hid (Ma 6 s.data.toList))\/(i = B C 7/\Hid (Ma 7 s.data.toList))) (fun i=>8-(intOf i).toNat)
 case atStart=>exact .inl rfl
 case round=>
  rcases hrel with rfl|⟨rfl,hk⟩|⟨rfl,hk⟩|⟨rfl,hk⟩|⟨rfl,hk⟩|⟨rfl,hk⟩|⟨rfl,hk⟩|⟨rfl,hk⟩
  ·have aC:=typesAt0;have HK:=Lq7 (Ma.one s.data.toList);cases h0:([]==s.toList)
   all_goals
    go_wp2_with fail;go_round
    case rel=>exact .inr (.inl ⟨by go_num,HK⟩)
    case measure=>simp[intOf]
  ·have aC:=typesAt1;cases h1:([116,101,120,116]==s.toList)
   ·have HK:=Lq7 (hk.out.step (by rw[<-Hd.out];intro e;rw[e] at h1;exact absurd h1 (by decide)));clear hk;go_wp2_with fail;go_round
    case rel=>exact .inr (.inr (.inl ⟨by go_num,HK⟩))
    case measure=>simp[intOf]
   ·have he:s.data.toList=[116,101,120,116]:=(by rw[<-Hd.out];exact(beq_iff_eq.1 h1).symm);have Ht:Hid (I3 s.data.toList=1):=Lq7 (by rw[he];rfl);clear he hk;go_wp2_with fail;go_ret;exact⟨by rw[Ht.out];rfl,hb.out⟩
  ·have aC:=typesAt2;cases h2:([98,111,111,108]==s.toList)
   ·have HK:=Lq7 (hk.out.step (by rw[<-Hd.out];intro e;rw[e] at h2;exact absurd h2 (by decide)));clear hk;go_wp2_with fail;go_round
    case rel=>exact .inr (.inr (.inr (.inl ⟨by go_num,HK⟩)))
    case measure=>simp[intOf]
   ·have he:s.data.toList=[98,111,111,108]:=(by rw[<-Hd.out];exact(beq_iff_eq.1 h2).symm);have Ht:Hid (I3 s.data.toList=2):=Lq7 (by rw[he];rfl);clear he hk;go_wp2_with fail;go_ret;exact⟨by rw[Ht.out];rfl,hb.out⟩
  ·have aC:=typesAt3;cases h3:([105,110,116]==s.toList)
   ·have HK:=Lq7 (hk.out.step (by rw[<-Hd.out];intro e;rw[e] at h3;exact absurd h3 (by decide)));clear hk;go_wp2_with fail;go_round
    case rel=>exact .inr (.inr (.inr (.inr (.inl ⟨by go_num,HK⟩))))
    case measure=>simp[intOf]
   ·have he:s.data.toList=[105,110,116]:=(by rw[<-Hd.out];exact(beq_iff_eq.1 h3).symm);have Ht:Hid (I3 s.data.toList=3):=Lq7 (by rw[he];rfl);clear he hk;go_wp2_with fail;go_ret;exact⟨by rw[Ht.out];rfl,hb.out⟩
  ·have aC:=typesAt4;cases h4:([116,101,120,116,115]==s.toList)
   ·have HK:=Lq7 (hk.out.step (by rw[<-Hd.out];intro e;rw[e] at h4;exact absurd h4 (by decide)));clear hk;go_wp2_with fail;go_round
    case rel=>exact .inr (.inr (.inr (.inr (.inr (.inl ⟨by go_num,HK⟩)))))
    case measure=>simp[intOf]
   ·have he:s.data.toList=[116,101,120,116,115]:=(by rw[<-Hd.out];exact(beq_iff_eq.1 h4).symm);have Ht:Hid (I3 s.data.toList=4):=Lq7 (by rw[he];rfl);clear he hk;go_wp2_with fail;go_ret;exact⟨by rw[Ht.out];rfl,hb.out⟩
  ·have aC:=typesAt5;cases h5:([102,105,108,101,115]==s.toList)
   ·have HK:=Lq7 (hk.out.step (by rw[<-Hd.out];intro e;rw[e] at h5;exact absurd h5 (by decide)));clear hk;go_wp2_with fail;go_round
    case rel=>exact .inr (.inr (.inr (.inr (.inr (.inr (.inl ⟨by go_num,HK⟩))))))
    case measure=>simp[intOf]
   ·have he:s.data.toList=[102,105,108,101,115]:=(by rw[<-Hd.out];exact(beq_iff_eq.1 h5).symm);have Ht:Hid (I3 s.data.toList=5):=Lq7 (by rw[he];rfl);clear he hk;go_wp2_with fail;go_ret;exact⟨by rw[Ht.out];rfl,hb.out⟩
  ·have aC:=typesAt6;cases h6:([108,97,98,101,108,115]==s.toList)
   ·have HK:=Lq7 (hk.out.step (by rw[<-Hd.out];intro e;rw[e] at h6;exact absurd h6 (by decide)));clear hk;go_wp2_with fail;go_round
    case rel=>exact .inr (.inr (.inr (.inr (.inr (.inr (.inr ⟨by go_num,HK⟩))))))
    case measure=>simp[intOf]
   ·have he:s.data.toList=[108,97,98,101,108,115]:=(by rw[<-Hd.out];exact(beq_iff_eq.1 h6).symm);have Ht:Hid (I3 s.data.toList=6):=Lq7 (by rw[he];rfl);clear he hk;go_wp2_with fail;go_ret;exact⟨by rw[Ht.out];rfl,hb.out⟩
  ·have Ht:=Lq7 hk.out.none;clear hk;go_wp2_with fail;go_ret;exact⟨by rw[Ht.out];rfl,hb.out⟩
def POwn(w:World)(e:Ending)(w':World):Prop:=Below w.heap.size w w'/\∃b:Nat,w.heap.size<=b/\e = .returned (D (I ⟨b,0,E⟩) 2 2)/\OwnD (fun k=>w.heap.size<=k) w' w.heap.size 97 8 (D (I ⟨b,0,E⟩) 2 2) (C0 ownL)
theorem own_any(w):Calls Tryz.prog 102 #[] w (POwn w):=by
 obtain⟨h1,h2,h3,h4,h5⟩:=Gg w (N #[B C 3,B C 0,A ⟨#[58,104,101,114,101]⟩,D E 0 0,D E 0 0] 53) (N #[B C 4,B C 0,A ⟨#[]⟩,D (I ⟨w.heap.size,0,E⟩) 1 1,D E 0 0] 53)
  (N #[A ⟨#[110,97,109,101]⟩,B C 1,L true,B C 0,B C 0,A ⟨#[]⟩,D E 0 0,D E 0 0,A ⟨#[115,101,101,110]⟩,B C 4,L false,B C 4,B C 0,A ⟨#[]⟩,D (I ⟨w.heap.size,0,E⟩) 1 1,D E 0 0] 97)
 have H:=Lq7 (aIn h1 (aIn h3 h4));go_enter Tryz.func102,Tryz.ntmps102;go_wp2_with fail;generalize World.alloc _ _=W at H |-;refine bodyPost_ret (v:=D (I ⟨w.heap.size+1+1,0,E⟩) 2 2) (by simp[results,Tryz.results102,go_sem]) rfl ?_;refine⟨H.out.2.2,_,by omega,rfl,[[A ⟨#[110,97,109,101]⟩,B C 1,L true,B C 0,B C 0,A ⟨#[]⟩,D E 0 0,D E 0 0],[A ⟨#[115,101,101,110]⟩,B C 4,L false,B C 4,B C 0,A ⟨#[]⟩,D (I ⟨w.heap.size,0,E⟩) 1 1,D E 0 0]],rfl,?_,?_,?_⟩
 ·intro cs aJ;simp at aJ;rcases aJ with rfl|rfl<;>rfl
 ·refine⟨rfl,.inr ⟨w.heap.size+1+1,2,_,rfl,by omega,H.out.2.1,by decide,by unfold maxLen;decide,rfl,rfl⟩⟩
 ·intro j ds cs h1 h2;have aG:Ac (fun b=>w.heap.size<=b/\(Value.slice (I ⟨w.heap.size+1+1,0,E⟩) 2 2).ownBlock≠I b) W (I ⟨w.heap.size,0,E⟩) (Ar [.mk 3 0 ⟨#[58,104,101,114,101]⟩ [] []]):=by
   intro i d hi;obtain⟨aF,hc,-⟩:=Ao H.out.1;cases i with
   | zero=>
    simp[Ar] at hi;subst hi;refine⟨w.heap.size,0,[B C 3,B C 0,A ⟨#[58,104,101,114,101]⟩,D E 0 0,D E 0 0],rfl,⟨nlr _,fun e=>by
     have:w.heap.size+1+1=w.heap.size:=(by simpa[Value.ownBlock] using e);omega⟩,aF,Ai.val_mk (l:=[]) (ks:=[]) _ _ _ _ _ (Ac.nil _) (Ac.nil _),fun k u hu=>?_⟩
    simp only[nzm,Nat.zero_add,naz];rw[hc]
    simpa using hu
   | succ i=>simp[Ar] at hi
  match j,h1,h2 with
  | 0,h1,h2=>
   simp[C0,ownL] at h1 h2;subst h1;subst h2;exact Ai.attr_mk (l:=[]) (ks:=[]) _ _ _ _ _ _ _ _ (Ac.nil _) (Ac.nil _)
  | 1,h1,h2=>
   simp[C0,ownL] at h1 h2;subst h1;subst h2;exact Ai.attr_mk (l:=[.mk 3 0 ⟨#[58,104,101,114,101]⟩ [] []]) (ks:=[]) _ _ _ _ _ _ 1 0 aG (Ac.nil _)
  | j+2,h1,_=>simp[C0,ownL] at h1
def PFindR(b:Bool)(w:World)(e:Ending)(w':World):Prop:=Below w.heap.size w w'/\∃(s:ByteArray) (a1:Option Addr) (l1 c1:Nat) (a2:Option Addr) (l2 c2:Nat) (x y:Int),e = .returned (.tuple #[J #[A s,D a1 l1 c1,D a2 l2 c2,B C x,B C y],L b])
theorem find_any(F l a cap name w)(hl:l.length<=140737488355328)(hr:Ac F w a (Dy l)):
  Calls Tryz.prog 101 #[D a l.length cap,A name] w (PFindR (l.any fun r=>Eb r.name name) w):=by
 have hw0:=heap_alloc_new w (N #[A ⟨#[]⟩,D E 0 0,D E 0 0,B C 0,B C 0] 46);have aM:Below w.heap.size w (w.alloc (N #[A ⟨#[]⟩,D E 0 0,D E 0 0,B C 0,B C 0] 46)):=(Below.refl _ w).alloc (nlr _) _;have H:=Lq7 (aIn hw0 (aIn aM (hr.below aM)));go_enter Tryz.func101,Tryz.ntmps101;go_wp2_with fail;generalize World.alloc _ _=W at H |-
 go_loopw [10] (fun i wr=>∃j:Nat,i = B C j/\j<=l.length/\Hid (wr.heap[w.heap.size]? = I (N #[A ⟨#[]⟩,D E 0 0,D E 0 0,B C 0,B C 0] 46 (0,0))/\Below w.heap.size w wr/\Ac F wr a (Dy l))/\Hid ((l.any fun r=>Eb r.name name)=((l.drop j).any fun r=>Eb r.name name))) (fun i _=>l.length-(intOf i).toNat)
 case atStart=>exact⟨0,rfl,nlz _,H,Lq7 rfl⟩
 case round=>
  obtain⟨j,rfl,hj,aA,aD⟩:=hrel;by_cases aF:j<l.length
  ·have aN:l[j]? = I l[j]:=lgE aF;have aB:l.drop j=l[j]::l.drop (j+1):=List.drop_eq_getElem_cons aF;generalize l[j]=r at aN aB;obtain⟨b,off,a1,c1,a2,c2,rfl,-,hbl,r0,r1,r2,r3,r4,-,-⟩:=aA.out.2.2.rule aN;obtain⟨rn,ra,rb,rx,ry⟩:=r;have aH:Below wr.heap.size wr (wr.alloc (N #[A rn,D a1 ra.length c1,D a2 rb.length c2,B C rx,B C ry] 46)):=(Below.refl _ _).alloc (nlr _) _;have HA:=Lq7 (aIn (stays aA.out.1 aH) (aIn (aA.out.2.1.trans (aH.mono aA.out.2.1.size)) (aA.out.2.2.below aH)));have aE:=Lq7 (aD.out.trans (by rw[aB,List.any_cons]));cases hs:(rn.toList==name.toList)
   ·have Hn:Hid ((l.any fun r=>Eb r.name name)=((l.drop (j+1)).any fun r=>Eb r.name name)):=Lq7 (by rw[aE.out,show Eb rn name=false by unfold Eb;rw[<-Lq8,<-Lq8];exact hs,Bool.false_or]);go_wp2_with fail;go_roundw
    case rel=>exact⟨j+1,by go_num,by omega,HA,Hn⟩
    case measure=>simp only[intOf];omega
   ·have Hn:Hid ((l.any fun r=>Eb r.name name)=true):=Lq7 (by rw[aE.out,show Eb rn name=true by unfold Eb;rw[<-Lq8,<-Lq8];exact hs,Bool.true_or]);have aQ:=heap_alloc_new wr (N #[A rn,D a1 ra.length c1,D a2 rb.length c2,B C rx,B C ry] 46)
    go_upto_region 5 with fail
    generalize World.alloc _ _=WA at HA aQ |-;obtain⟨q0,q1,q2,q3,q4,q5,q6,q7,q8,q9,q10⟩:=Aa HA.out.1;obtain⟨p0,p1,p2,p3,p4,p5,-⟩:=Aa aQ;go_wp2_with fail;have hE:=Vg (n:=w.heap.size) (b:=w.heap.size) (nlr _) HA.out.2.1 HA.out.1 (A rn) (D a1 ra.length c1) (D a2 rb.length c2) (B C rx) (B C ry);unfold Nt at hE;obtain⟨t0,t1,t2,t3,t4,t5,-⟩:=Aa hE.1;refine bodyPost_ret (v:=.tuple #[J #[A rn,D a1 ra.length c1,D a2 rb.length c2,B C rx,B C ry],L true]) (by simp[results,Tryz.results101,go_sem,t1,t2,t3,t4,t5]) rfl ?_;rw[Hn.out];exact⟨hE.2,rn,a1,_,c1,a2,_,c2,rx,ry,rfl⟩
  ·have Hn:Hid ((l.any fun r=>Eb r.name name)=false):=Lq7 (by rw[aD.out,List.drop_eq_nil_of_le (by omega)];rfl);obtain⟨q0,q1,q2,q3,q4,q5,q6,q7,q8,q9,q10⟩:=Aa aA.out.1;go_wp2_with fail;have hE:=Vg (n:=w.heap.size) (b:=w.heap.size) (nlr _) aA.out.2.1 aA.out.1 (A ⟨#[]⟩) (D E 0 0) (D E 0 0) (B C 0) (B C 0);unfold Nt at hE;obtain⟨t0,t1,t2,t3,t4,t5,-⟩:=Aa hE.1;refine bodyPost_ret (v:=.tuple #[J #[A ⟨#[]⟩,D E 0 0,D E 0 0,B C 0,B C 0],L false]) (by simp[results,Tryz.results101,go_sem,t1,t2,t3,t4,t5]) rfl ?_;rw[Hn.out];exact⟨hE.2,_,E,0,0,E,0,0,0,0,rfl⟩
def attrZ:Value:=J #[A ⟨#[]⟩,B C 0,L false,B C 0,B C 0,A ⟨#[]⟩,D E 0 0,D E 0 0]
section
variable {F:Nat->Prop} {c0 c:Ctx} {w W W':World} {mp mb:Nat} {hv:Dq} {G:Nat->Prop} {lv:Bool} {st:St} {ls:List (Nat×Array Value×TypeId)} {nr:List (Option Addr×List Nd)} {vr:List (List Dat×List Value)} {ow:OwS} {Q:Ending->World->Prop}
theorem Pf{w:World}{b:Nat}{c0 c1 c2 c3 c4 c5 c6 c7:Value}{t:TypeId}(h:w.heap[b]? = I (N #[c0,c1,c2,c3,c4,c5,c6,c7] t (0,0))):b<w.heap.size/\w.cell? ⟨b,0,E⟩=I c0/\w.cell? ⟨b,1,E⟩=I c1/\w.cell? ⟨b,2,E⟩=I c2/\w.cell? ⟨b,3,E⟩=I c3/\w.cell? ⟨b,4,E⟩=I c4/\w.cell? ⟨b,5,E⟩=I c5/\w.cell? ⟨b,6,E⟩=I c6/\w.cell? ⟨b,7,E⟩=I c7 /\
  w.frozen? ⟨b,0,E⟩=false/\w.frozen? ⟨b,1,E⟩=false/\w.frozen? ⟨b,2,E⟩=false/\w.frozen? ⟨b,3,E⟩=false/\w.frozen? ⟨b,4,E⟩=false/\w.frozen? ⟨b,5,E⟩=false/\w.frozen? ⟨b,6,E⟩=false/\w.frozen? ⟨b,7,E⟩=false:=by
 obtain⟨h1,h2,h3⟩:=Ao h;exact⟨h1,h2 0,h2 1,h2 2,h2 3,h2 4,h2 5,h2 6,h2 7,h3 0,h3 1,h3 2,h3 3,h3 4,h3 5,h3 6,h3 7⟩
theorem EI.w85(j:Nat)(h:EI c0 w mp mb hv G lv c st ls nr vr ow W){b:Nat}{x0 x1 x2 x3 x4 x5 x6 x7 v3 v4 v5 v6 v7:Value}{T:TypeId}(hj:ls[j]? = I (b,#[x0,x1,x2,x3,x4,x5,x6,x7],T):=by with_unfolding_all rfl):EI c0 w mp mb hv G lv c st (ls.set j (b,#[x0,x1,x2,v3,v4,v5,v6,v7],T)) nr vr ow (((((W.setCell ⟨b,3,E⟩ v3).setCell ⟨b,4,E⟩ v4).setCell ⟨b,5,E⟩ v5).setCell ⟨b,6,E⟩ v6).setCell ⟨b,7,E⟩ v7):=by
 have aD:=(lgS.1 hj).1;have h3:=h.set j hj 3 v3;have h4:=h3.set j (b:=b) (cs:=#[x0,x1,x2,v3,x4,x5,x6,x7]) (T:=T) (by rw[List.getElem?_set_self aD];rfl) 4 v4;rw[List.set_set] at h4;have h5:=h4.set j (b:=b) (cs:=#[x0,x1,x2,v3,v4,x5,x6,x7]) (T:=T) (by rw[List.getElem?_set_self aD];rfl) 5 v5;rw[List.set_set] at h5;have h6:=h5.set j (b:=b) (cs:=#[x0,x1,x2,v3,v4,v5,x6,x7]) (T:=T) (by rw[List.getElem?_set_self aD];rfl) 6 v6;rw[List.set_set] at h6;have h7:=h6.set j (b:=b) (cs:=#[x0,x1,x2,v3,v4,v5,v6,x7]) (T:=T) (by rw[List.getElem?_set_self aD];rfl) 7 v7;rw[List.set_set] at h7;exact h7
theorem EI.w8(j:Nat)(h:EI c0 w mp mb hv G lv c st ls nr vr ow W){b:Nat}{x0 x1 x2 x3 x4 x5 x6 x7 v0 v1 v2 v3 v4 v5 v6 v7:Value}{T:TypeId}(hj:ls[j]? = I (b,#[x0,x1,x2,x3,x4,x5,x6,x7],T):=by with_unfolding_all rfl):EI c0 w mp mb hv G lv c st (ls.set j (b,#[v0,v1,v2,v3,v4,v5,v6,v7],T)) nr vr ow ((((((((W.setCell ⟨b,0,E⟩ v0).setCell ⟨b,1,E⟩ v1).setCell ⟨b,2,E⟩ v2).setCell ⟨b,3,E⟩ v3).setCell ⟨b,4,E⟩ v4).setCell ⟨b,5,E⟩ v5).setCell ⟨b,6,E⟩ v6).setCell ⟨b,7,E⟩ v7):=by
 have aD:=(lgS.1 hj).1;have h0:=h.set j hj 0 v0;have h1:=h0.set j (b:=b) (cs:=#[v0,x1,x2,x3,x4,x5,x6,x7]) (T:=T) (by rw[List.getElem?_set_self aD];rfl) 1 v1;rw[List.set_set] at h1;have h2:=h1.set j (b:=b) (cs:=#[v0,v1,x2,x3,x4,x5,x6,x7]) (T:=T) (by rw[List.getElem?_set_self aD];rfl) 2 v2;rw[List.set_set] at h2;have h7:=h2.w85 j (x0:=v0) (x1:=v1) (x2:=v2) (x3:=x3) (x4:=x4) (x5:=x5) (x6:=x6) (x7:=x7) (v3:=v3) (v4:=v4) (v5:=v5) (v6:=v6) (v7:=v7) (by rw[List.getElem?_set_self aD];rfl);rw[List.set_set] at h7;exact h7
theorem EI.w51(j:Nat)(h:EI c0 w mp mb hv G lv c st ls nr vr ow W){b:Nat}{x0 x1 x2 x3 x4 v:Value}{T:TypeId}(hj:ls[j]? = I (b,#[x0,x1,x2,x3,x4],T):=by with_unfolding_all rfl):EI c0 w mp mb hv G lv c st (ls.set j (b,#[x0,v,x2,x3,x4],T)) nr vr ow (W.setCell ⟨b,1,E⟩ v):=h.set j hj 1 v
theorem rret8{fn:Func}{i j bV bF:Nat}{T T':TypeId}{x0 x1 x2 x3 x4 x5 x6 x7 f0 f1 f2:Value}{tm:Array Value}(H:EI c0 w mp mb hv G lv c st ls nr vr ow W)(q:Q (.returned (.tuple #[J #[x0,x1,x2,x3,x4,x5,x6,x7],J #[f0,f1,f2]])) W)
  (hV:ls[1]? = I (bV,#[x0,x1,x2,x3,x4,x5,x6,x7],T):=by with_unfolding_all rfl) (hF:ls[2]? = I (bF,#[f0,f1,f2],T'):=by with_unfolding_all rfl)
  (hf:fn.results=#[.cell i 97,.cell j 119]:=by rfl) (ht:tm.getD i undef = M (I ⟨bV,0,E⟩):=by rfl) (hu:tm.getD j undef = M (I ⟨bF,0,E⟩):=by rfl):bodyPost Tryz.prog fn Q .ret ⟨tm,[]⟩ W:=by
 rw[Array.getD_eq_getD_getElem?] at ht hu;obtain⟨r0,r1,r2,r3,r4,r5,r6,r7,r8,-⟩:=Pf (H.locs _ (lgM hV));obtain⟨q0,q1,q2,q3,-⟩:=Bh (H.locs _ (lgM hF));exact bodyPost_ret (v:=.tuple #[J #[x0,x1,x2,x3,x4,x5,x6,x7],J #[f0,f1,f2]]) (by simp[results,hf,go_sem,ht,hu,r1,r2,r3,r4,r5,r6,r7,r8,q1,q2,q3]) rfl q
theorem yRgn{ops:Array Oper}{Q:Exit->Act->World->Prop}{id:Nat}{a:Act}(l:Tu)(fin:Nat)(k:∀W',Hid (EI ⟨fun _=>False,F⟩ w mp mb hv G lv c st ls nr vr ow W')->Ak Tryz.prog ops (fun W'=>Below w.heap.size w W'/\C4 W' (cutR ls)) Q fin l a W')(H:EI ⟨fun _=>False,F⟩ w mp mb hv G lv c st ls nr vr ow W:=by exact gR)(hm:(Tryz.prog).follows .mixedOrders=true:=by kernel_rfl)
  (hB:(Region.noSelect ops&&Cu .any ops fin l (Array.replicate ops.size false)&&decide (l.deep<=ops.size))=true:=by decide +kernel)
  (hQ:∀c a d v w,Q (.panic c) (a.put d v) w->Q (.panic c) a w:=by intro c a d v w h;cases d<;>exact h):(Code.region id ops true).wp Tryz.prog Q a W:=
 Bm l fin _ ⟨H.drew.bel,U2 H.drew.la⟩ (k _ (Lq7 H.drew)) hm hB hQ
theorem yS{ops:Array Oper}{Q:Exit->Act->World->Prop}{fin i:Nat}{o:Oper}{rest:Tu}{a a':Act}{v:Value}{S0:World->Prop}{l0:List (Nat×Array Value×TypeId)}(h:Ak Tryz.prog ops (fun W'=>S0 W'/\C4 W' l0) Q fin rest a' W)(ho:ops[i]? = I o:=by rfl)(hw:Region.wanted o (yielded ops a.tmps)=true:=by rfl)
  (hv:∀W',S0 W'/\C4 W' l0->(execOp a.eval o).run Tryz.prog W' = .ok (.value v) W':=by intro W' hS;obtain⟨hb,hS⟩:=hS;(try have hk:=HK.out W' hb);clear hb;(repeat (obtain⟨h,hS⟩:=hS;obtain⟨_,h1,h2⟩:=Ao h;clear h));clear hS;go_simp;(try rfl);all_goals fail)
  (ha:a.put o.dst v=a':=by(try simp only[gX,Act.put]);rfl):Ak Tryz.prog ops (fun W'=>S0 W'/\C4 W' l0) Q fin (.s i rest) a W:=Bp v hv h ho hw ha
theorem yH{ops:Array Oper}{Q:Exit->Act->World->Prop}{fin i:Nat}{o:Oper}{rest:Tu}{a:Act}{S:World->Prop}(k:∀W',Hid (EI c0 w mp mb hv G lv c st ls nr vr ow W')->∀K:Act->World->Prop,(∀a2 w2,(i≠fin->S w2)->Ak Tryz.prog ops S Q fin rest a2 w2->K a2 w2)->wpList Tryz.prog ops (Exit.then K Q) [o] a W')
  (H:EI c0 w mp mb hv G lv c st ls nr vr ow W:=by exact gR) (ho:ops[i]? = I o:=by rfl):Ak Tryz.prog ops S Q fin (.h i rest) a W:=Ae ho (k W (Lq7 H))
theorem yHB{ops:Array Oper}{Q:Exit->Act->World->Prop}{fin i j:Nat}{o o':Oper}{t u:Tu}{a:Act}{S:World->Prop}(k:∀W',Hid (EI c0 w mp mb hv G lv c st ls nr vr ow W')->∀K:Act->World->Prop,(∀a2 w2,(i≠fin->S w2)->Ak Tryz.prog ops S Q fin t a2 w2->K a2 w2)->wpList Tryz.prog ops (Exit.then K Q) [o] a W')
  (k':∀W',Hid (EI c0 w mp mb hv G lv c st ls nr vr ow W')->∀K:Act->World->Prop,(∀a2 w2,(j≠fin->S w2)->Ak Tryz.prog ops S Q fin u a2 w2->K a2 w2)->wpList Tryz.prog ops (Exit.then K Q) [o'] a W') (H:EI c0 w mp mb hv G lv c st ls nr vr ow W:=by exact gR) (ho:ops[i]? = I o:=by rfl) (ho':ops[j]? = I o':=by rfl):Ak Tryz.prog ops S Q fin (.b i t j u) a W:=Dz ho ho' (k W (Lq7 H)) (k' W (Lq7 H))
theorem gR{P:Prop}(h:P:=by first|with_reducible exact H.out|with_reducible exact H.out.alloc _ _|with_reducible exact H.out.w8 1|with_reducible exact H.out.w8 3|with_reducible exact H.out.w85 3|with_reducible exact H.out.w3 2|with_reducible exact(H.out.w8 1).w3 2|with_reducible exact H.out.alloc2|with_reducible exact H.out.alloc3|with_reducible exact H.out.w5 4|with_reducible exact H.out.w5 1|with_reducible exact(H.out.w5 1).w3 2|with_reducible exact EI.w51 3 H.out):P:=h
variable {α:Type} {β:Type}
theorem Xh{t:ByteArray}(hB:StdB w)(hz:t.size<4294967000)(k:∀W' b,E0 t.data.toList=b->Hid (EI ⟨fun _=>False,F⟩ w mp mb hv G lv c st ls nr vr ow W')->Q (.returned (L b)) W')(H:EI ⟨fun _=>False,F⟩ w mp mb hv G lv c st ls nr vr ow W:=by exact gR):Calls Tryz.prog 100 #[A t] W Q:=
 (Xd t W (hB.below H.bel) hz).mono fun e w' ⟨he,hb⟩=>by subst he;exact k w' _ rfl (Lq7 (H.below hb))
theorem xTypeOf{t:ByteArray}{ty:Int}(ht:ty=I3 t.data.toList)(k:∀W',Hid (EI c0 w mp mb hv G lv c st ls nr vr ow W')->Q (.returned (B C ty)) W')(H:EI c0 w mp mb hv G lv c st ls nr vr ow W:=by exact gR):Calls Tryz.prog 152 #[A t] W Q:=
 xB H (by rw[ht];exact X6 t W) k
theorem xNamed{t:ByteArray}{l:List AttrP}{a:Option Addr}{cap:Nat}{F1:Nat->Prop}(hl:l.length<=140737488355328)(hr:Ac F1 w a (C0 l)){z:Int}(hz:Qf l t=z)(k:∀W',Hid (EI ⟨fun _=>False,F⟩ w mp mb hv G lv c st ls nr vr ow W')->Q (.returned (B C z)) W')
  (H:EI ⟨fun _=>False,F⟩ w mp mb hv G lv c st ls nr vr ow W:=by exact gR):Calls Tryz.prog 153 #[D a l.length cap,A t] W Q:=
 xB H (by rw[<-hz];exact Aa3 F1 a cap l t W hl (hr.below H.bel)) k
theorem Ai.attr_of{F:Nat->Prop}{w:World}{d:Vl}{cs:List Value}(nm:ByteArray)(ty:Int)(mu:Bool)(h:Ai F w (valD d) cs):Ai F w (J4 ⟨nm,ty,mu,d⟩) (A nm :: B C ty :: L mu::cs):=.cons (.one _) (.cons (.one _) (.cons (.one _) h))
theorem xFits{ty yk yn:Int}{ys:ByteArray}{yl:List Vl}{yks:List ByteArray}{b1 b2:Option Addr}{e1 e2:Nat}(k:∀W' b,Po ty (.mk yk yn ys yl yks)=b->Hid (EI c0 w mp mb hv G lv c st ls nr vr ow W')->Q (.returned (L b)) W')(H:EI c0 w mp mb hv G lv c st ls nr vr ow W:=by exact gR)(ha:(valD (.mk yk yn ys yl yks),[B C yk,B C yn,A ys,D b1 yl.length e1,D b2 yks.length e2])∈vr:=by simp)(hc:Am (.mk yk yn ys yl yks)=true:=by refine Hid.out ?_;assumption):
  Calls Tryz.prog 155 #[B C ty,J #[B C yk,B C yn,A ys,D b1 yl.length e1,D b2 yks.length e2]] W Q:=by
 obtain⟨h1,h2⟩:=Pv (H.vr _ ha);exact xB H (fits_any ty yk yn ys yl yks (Bw hc) c.F b1 e1 b2 e2 W H.ok.fl h1 h2) fun W' h=>k W' _ rfl h
theorem xWork{nk nl nc:Int}{nt:ByteArray}{ns:List Nd}{a:Option Addr}{cap:Nat}{r:Except Flt α}{f:Vl->Except Flt α}(hok:Ci 65536 65540 (.mk nk nt nl nc ns))(hc:F5 nk=true->ns.length<=cap)(hT:Em w)(hB:StdB w)(S:Hid (r=match workL Bl (.mk nk nt nl nc ns) with | .ok v=>f v | .error x=> .error x))
  (hk:∀c' W' yk yn ys yl yks b1 e1 b2 e2,Hid (EI ⟨fun _=>False,E9⟩ w mp mb hv G lv c' st ls nr ((valD (.mk yk yn ys yl yks),[B C yk,B C yn,A ys,D b1 yl.length e1,D b2 yks.length e2])::vr) ow W')->Hid (r=f (.mk yk yn ys yl yks))->Hid (Am (.mk yk yn ys yl yks)=true)->Q (.returned (.tuple #[J #[B C yk,B C yn,A ys,D b1 yl.length e1,D b2 yks.length e2],J #[B C 0,B C 0,B C 0]])) W')
  (he:∀W' x y z,x≠0->Hid (EI ⟨fun _=>False,E9⟩ w mp mb hv G lv c st ls nr vr ow W')->Hid (r = .error (x,y,z))->Q (.returned (.tuple #[J #[B C 0,B C 0,A ⟨#[]⟩,D E 0 0,D E 0 0],J #[B C x,B C y,B C z]])) W')
  (H:EI ⟨fun _=>False,E9⟩ w mp mb hv G lv c st ls nr vr ow W:=by exact gR) (ha:(a,ns)∈nr:=by simp):
  Calls Tryz.prog 154 #[J #[B C nk,A nt,B C nl,B C nc,D a ns.length cap]] W Q:=by
 refine(Zd _ hok G _ W (fun b hb=>(H.g b hb).1) (A7.mk nk nt nl nc cap (H.nr _ ha) hc) (hT.below H.bel) (hB.below H.bel)).mono ?_;rintro e w' ⟨hb,hq⟩;cases hw:workL Bl (.mk nk nt nl nc ns) with
 | error f=>
  rw[hw] at hq;obtain⟨x,y,z⟩:=f;obtain⟨rfl,hx⟩:=hq;exact he w' x y z hx (Lq7 (H.below hb)) (Lq7 (by rw[S.out,hw]))
 | ok v=>
  rw[hw] at hq;obtain⟨cs,rfl,aR,hck⟩:=hq;obtain⟨yk,yn,ys,yl,yks⟩:=v;obtain⟨b1,e1,b2,e2,rfl,-,-⟩:=aR.val;exact hk _ w' yk yn ys yl yks b1 e1 b2 e2 (Lq7 (H.fresh hb (aR.wider fun b hb' _=>hb'.imp (fun h=>H.f0 b h) id))) (Lq7 (by rw[S.out,hw])) (Lq7 hck)
end
theorem adrv{P:Prop}(h:P:=by
 repeat' first
  | ((with_reducible refine goO ?_);((try simp only[List.cons_append,List.nil_append,List.set_cons_zero,List.set_cons_succ] at H);(have hD:=H.out.fa);(simp only[FaA,PwA,NeB,and_true] at hD);(have hk:=HK.out _ H.out.bel);go_wp2_with fail;all_goals (try clear hD hk)))
  | ((with_reducible show Calls _ 100 _ _ _);refine Xh HB.out Hz.out ?_;intro V b h H;cases b<;>(try cases hq:(nm.toList==[110,97,109,101]))<;>(try have hq':(nm.toList != [110,97,109,101])=false:=by rw[bne,hq];rfl)<;>(try have hq':(nm.toList != [110,97,109,101])=true:=by rw[bne,hq];rfl)<;>refine goM ?_)
  | ((with_reducible show Calls _ 152 _ _ _);refine xTypeOf aU.out ?_;intro V H;refine goM ?_)
  | ((with_reducible show Code.wp _ (.region _ _ _) _ _ _);(first|refine yRgn (.s 0 (.s 1 (.h 2 (.h 3 .nil)))) 99 ?_|refine yRgn (.s 0 (.s 1 (.s 2 (.s 3 (.h 4 (.h 5 .nil)))))) 99 ?_|refine yRgn (.s 0 (.s 1 (.s 2 (.s 3 (.s 4 (.s 5 (.s 6 (.h 7 (.h 8 .nil))))))))) 99 ?_|refine yRgn (.s 0 (.s 1 (.s 2 (.s 3 (.s 4 (.s 5 (.s 6 (.s 8 (.s 9 (.s 10 (.s 11 (.b 7 (.s 12 (.h 13 (.h 14 .nil))) 13 (.h 7 (.s 12 (.h 14 .nil))))))))))))))) 99 ?_);intro V H)
  | ((with_reducible show Ak _ _ _ _ _ (.s _ _) _ _);first|refine yS ?_|refine yS (v:=Go.Value.pointer (Option.some ⟨kb,ko,Option.none⟩)) ?_)
  | ((with_reducible show Ak _ _ _ _ _ (.h _ _) _ _);refine yH ?_;intro V H K hK;refine goM ?_)
  | ((with_reducible show Ak _ _ _ _ _ (.b _ _ _ _) _ _);refine yHB ?_ ?_<;>(intro V H K hK;refine goM ?_))
  | ((with_reducible show Ak _ _ _ _ _ .nil _ _);refine A2 ?_;refine goM ?_)
  | ((with_reducible show Calls _ 153 _ _ _);refine xNamed Hl.out Hr.out Hi.out ?_;intro V H;refine goM ?_)
  | ((with_reducible show Calls _ 154 _ _ _);refine xWork Hok.out Hc.out HT.out HB.out S (fun c V yk yn ys yl yks b1 e1 b2 e2 H S hk=>?_) (fun V x y z hq H S=>?_)<;>(try have hq':(x==0)=false:=by simpa using hq)<;>(try have Hq:=Go.Lib.hid hq)<;>refine goM ?_)
  | ((with_reducible show Calls _ 155 _ _ _);refine xFits ?_;intro V b h H;cases b;((replace S:=Go.Lib.hid (S.out.trans (if_neg (by rw[h];exact Bool.false_ne_true))));(refine goM ?_));rotate_left;((replace S:=Go.Lib.hid (S.out.trans (if_pos h)));(replace H:=Go.Lib.hid (H.out.val (Ai.attr_of nm ty false (H.out.vr _ (List.mem_cons_self ..)))));(simp only[List.cons_append,List.nil_append] at H);(have hD:=H.out.fa);(simp only[FaA,PwA,NeB,and_true] at hD);go_upto_region 16 with fail;clear hD;(replace H:=Go.Lib.hid (H.out.w85 3 (v3:=Go.Value.int Go.IntKind.i64 yk) (v4:=Go.Value.int Go.IntKind.i64 yn) (v5:=Go.Value.string ys) (v6:=Go.Value.slice b1 yl.length e1) (v7:=Go.Value.slice b2 yks.length e2)));generalize World.setCell _ _ _=V2 at H |-;refine goM ?_))
  | ((with_reducible show bodyPost _ _ _ _ _ _);refine rret8 gR ?_;first|exact rE gR (by decide)|exact rO gR|(rw[S.out];first|exact rE gR (by decide)|exact rE gR|exact rO gR))
  | (refine hK _ _ (fun _=>⟨EI.bel gR,EI.laS gR (by simp[cutR])⟩) ?_)
  | (go_meet;(case rel=>first|exact⟨_,rfl,Go.Lib.hid (EI.sub gR 4)⟩|exact⟨_,rfl,Go.Lib.hid (by rw[h];rfl),Go.Lib.hid (EI.sub gR 4)⟩|exact⟨_,rfl,Go.Lib.hid (by rw[h,hq];rfl),Go.Lib.hid (EI.sub gR 4)⟩))):P:=h
theorem attr_any(F G n v)(hkl:1<=n.kids.length/\n.kids.length<=2)(ahead a cap w)(hok:Ci 65536 65540 n)(hG:∀b,G b->b<w.heap.size)(hn:A7 G w n v)(hl:ahead.length<=140737488355328)(hr:Ac F w a (C0 ahead))(hT:Em w)(hB:StdB w):
  Calls Tryz.prog 103 #[v,D a ahead.length cap] w (PRes J4 (fun _=>True) attrZ (Oh w) w (attrL n ahead)):=by
 obtain⟨R,hR⟩:∃R,R=attrL n ahead:=⟨_,rfl⟩;rw[<-hR];have HR:=Lq7 hR;clear hR;obtain⟨kk,nm,ln,cl,kids⟩:=n;obtain⟨ka,kc,rfl,aF⟩:=hn.open;have Hz:Hid (nm.size<4294967000):=Lq7 (by have:=hok;rw[Ci] at this;omega);have HT:=Lq7 hT;have HB:=Lq7 hB;have Hl:=Lq7 hl;have Hr:=Lq7 hr;obtain⟨⟨tk,tt,tl,tc,tks⟩,rest,rfl⟩:∃t rest,kids=t::rest:=by
  match kids,hkl with
  | t::rest,_=>exact⟨t,rest,rfl⟩
  | [],h=>exact absurd h.1 (by simp[Nd.kids])
 have h0:=(EI.init (E9.lt hT hB) hG).node aF;obtain⟨kb,ko,x1,y1,rfl,-,aA,k0,k1,k2,k3,k4,-,-⟩:=aF.nodeK (j:=0) rfl;simp only[nzm,naz] at k0 k1 k2 k3 k4;obtain⟨m,hm⟩:∃m,m=(Nd.mk tk tt tl tc tks::rest).length:=⟨_,rfl⟩;rw[<-hm];obtain⟨mu,aH⟩:∃mu:Bool,mu=((m:Int)==1):=⟨_,rfl⟩;obtain⟨ty,aV⟩:∃ty,ty=I3 tt.data.toList:=⟨_,rfl⟩;have H:=Lq7 (h0.start3 (n:=#[B C kk,A nm,B C ln,B C cl,D (I ⟨kb,ko,E⟩) m kc]) (v:=#[A ⟨#[]⟩,B C 0,L false,B C 0,B C 0,A ⟨#[]⟩,D E 0 0,D E 0 0]) (f:=#[B C 0,B C 0,B C 0]) (T:=27) (T':=97) (T2:=119));have HK:Hid (∀W,Below w.heap.size w W->kb<W.heap.size/\W.cell? ⟨kb,ko+1,E⟩=I (A tt)/\W.cell? ⟨kb,ko+2,E⟩=I (B C tl)/\W.cell? ⟨kb,ko+3,E⟩=I (B C tc)):=Lq7 fun W hb=>⟨nll aA hb.size,(hb.cell (p:=⟨kb,ko+1,E⟩) aA).trans k1,(hb.cell (p:=⟨kb,ko+2,E⟩) aA).trans k2,(hb.cell (p:=⟨kb,ko+3,E⟩) aA).trans k3⟩;have hm0:¬m=0:=(by rw[hm];simp);have hmu':((m:Int)==1)=mu:=aH.symm;have Hm:=Lq7 hm;have aJ:=Lq7 aH;have aU:=Lq7 aV;have aM:=Lq7 hkl;have aN:=Lq7 aF;have aE:=Lq7 hok;clear k0 k1 k2 k3 k4 aA aF hn hl hr hT hB hG hok h0 hkl hm aH aV;go_enter Tryz.func103,Tryz.ntmps103
 go_upto_region 1 with fail
 go_cut [6] from 9 to 21 (fun v wc=>∃g:Nat,v = M (I ⟨g,0,E⟩)/\Hid (EI ⟨fun _=>False,E9⟩ w 0 0 noK G false ⟨fun _=>False,E9⟩ ⟨[],0,[]⟩ [(w.heap.size,#[B C kk,A nm,B C ln,B C cl,D (I ⟨kb,ko,E⟩) m kc],27),(w.heap.size+1,#[A ⟨#[]⟩,B C 0,L false,B C 0,B C 0,A ⟨#[]⟩,D E 0 0,D E 0 0],97),(w.heap.size+1+1,#[B C 0,B C 0,B C 0],119),(g,#[A nm,B C ty,L mu,B C 0,B C 0,A ⟨#[]⟩,D E 0 0,D E 0 0],97)] [(I ⟨kb,ko,E⟩,.mk tk tt tl tc tks::rest)] [] .nil wc))
 case first=>
  refine goM ?_;exact adrv
 case rest=>
  obtain⟨g,rfl,H⟩:=hcut
  go_upto_region 2 with fail
  go_cut [22] from 23 to 30 (fun v wc=>∃b:Bool,v = L b/\Hid (b=(E0 nm.data.toList && !(nm.toList==[110,97,109,101])))/\Hid (EI ⟨fun _=>False,E9⟩ w 0 0 noK G false ⟨fun _=>False,E9⟩ ⟨[],0,[]⟩ [(w.heap.size,#[B C kk,A nm,B C ln,B C cl,D (I ⟨kb,ko,E⟩) m kc],27),(w.heap.size+1,#[A ⟨#[]⟩,B C 0,L false,B C 0,B C 0,A ⟨#[]⟩,D E 0 0,D E 0 0],97),(w.heap.size+1+1,#[B C 0,B C 0,B C 0],119),(g,#[A nm,B C ty,L mu,B C 0,B C 0,A ⟨#[]⟩,D E 0 0,D E 0 0],97)] [(I ⟨kb,ko,E⟩,.mk tk tt tl tc tks::rest)] [] .nil wc))
  case first=>
   refine goM ?_;exact adrv
  case rest=>
   obtain⟨b,rfl,hb,H⟩:=hcut;have aB:b=true↔(E0 nm.data.toList=true/\¬nm.data.toList=[110,97,109,101]):=by
    rw[hb.out,Bool.and_eq_true,Bool.not_eq_true',beq_eq_false_iff_ne,<-Lq8]
   have hR:R=if E0 nm.data.toList=true/\¬nm.data.toList=[110,97,109,101] then .error (7,ln,cl) else if(idxA ahead nm).isSome=true then .error (8,ln,cl) else if ty=0 then .error (9,tl,tc) else if rest.length+1=1 then .ok ⟨nm,ty,true,vZero⟩ else R0 (.mk kk nm ln cl (.mk tk tt tl tc tks::rest)) ty:=(by rw[HR.out,aU.out];rfl);clear HR hb;cases b
   ·rw[if_neg fun h=>absurd (aB.2 h) Bool.false_ne_true] at hR;clear aB;cases hi:idxA ahead nm with
    | some i=>
     have Hi:Hid (Qf ahead nm=i):=Lq7 (by unfold Qf;rw[hi]);obtain rfl:R = .error (8,ln,cl):=(by rw[hR,hi];rfl);have hi0:(0:Int)<=i:=(by omega);clear hR hi;refine goM ?_;exact adrv
    | none=>
     have Hi:Hid (Qf ahead nm = -1):=Lq7 (by unfold Qf;rw[hi]);have hR:R=if ty=0 then .error (9,tl,tc) else if rest.length+1=1 then .ok ⟨nm,ty,true,vZero⟩ else R0 (.mk kk nm ln cl (.mk tk tt tl tc tks::rest)) ty:=(by rw[hR,hi];rfl);clear hi;by_cases hty0:ty=0
     ·obtain rfl:R = .error (9,tl,tc):=(by rw[hR,if_pos hty0]);have aQ:(ty==0)=true:=(by simpa using hty0);clear hR hty0;refine goM ?_;exact adrv
     ·rw[if_neg hty0] at hR;have aQ:(ty==0)=false:=(by simpa using hty0);clear hty0;have HF:Hid (∀b,E9 b->Oh w b):=Lq7 fun _ h=> .inl h;have HN:Hid (∀b,w.heap.size<=b->Oh w b):=Lq7 fun _ h=> .inr h;have aG:=Hm.out;have aC:=aJ.out;rw[lnC] at aG;cases mu
      ·have hr:∃x,rest=[x]:=by
        have h2:=aM.out;simp only[Nd.kids,lnC] at h2;have h3:¬m=1:=by
         have:¬(m:Int)=1:=(by simpa using aC);omega
        match rest with
        | [x]=>exact⟨x,rfl⟩
        | []=>exact absurd aG h3
        | _::_::_=>simp at h2
       obtain⟨⟨xk,xt,xl,xc,xs⟩,rfl⟩:=hr;obtain rfl:m=2:=aG;obtain⟨kb',ko',xa,xq,he,-,aA,k0,k1,k2,k3,k4,hc,aW⟩:=aN.out.nodeK (j:=1) rfl;obtain⟨rfl,rfl⟩:kb=kb'/\ko=ko':=(by injection he with h;injection h with h9 h8;exact⟨h9,h8⟩);simp only[Nat.one_mul] at k0 k1 k2 k3 k4;have S:Hid (R=match workL Bl (.mk xk xt xl xc xs) with | .ok v=>if Po ty v=true then .ok ⟨nm,ty,false,v⟩ else .error (9,ln,cl) | .error f=> .error f):=Lq7 (by rw[hR,if_neg (by simp)];unfold R0;rw[show kidN (.mk kk nm ln cl [.mk tk tt tl tc tks,.mk xk xt xl xc xs]) 1 = .mk xk xt xl xc xs from rfl];cases workL Bl (.mk xk xt xl xc xs)<;>rfl)
       have Hok:Hid (Ci 65536 65540 (.mk xk xt xl xc xs)):=Lq7 (by have:=aE.out;rw[Ci,Dj,Dj] at this;exact this.2.2.2.2.2.1);have Hc:Hid (F5 xk=true->xs.length<=xq):=hc;replace HK:Hid (∀W,Below w.heap.size w W->kb<W.heap.size/\W.cell? ⟨kb,ko+5,E⟩=I (B C xk)/\W.cell? ⟨kb,ko+5+1,E⟩=I (A xt)/\W.cell? ⟨kb,ko+5+2,E⟩=I (B C xl)/\W.cell? ⟨kb,ko+5+3,E⟩=I (B C xc)/\W.cell? ⟨kb,ko+5+4,E⟩=I (D xa xs.length xq)):=Lq7 fun W hb=>⟨nll aA hb.size,(hb.cell (p:=⟨kb,_,E⟩) aA).trans k0,(hb.cell (p:=⟨kb,_,E⟩) aA).trans k1,(hb.cell (p:=⟨kb,_,E⟩) aA).trans k2,(hb.cell (p:=⟨kb,_,E⟩) aA).trans k3,(hb.cell (p:=⟨kb,_,E⟩) aA).trans k4⟩;replace H:=Lq7 (H.out.node (aW.below H.out.bel));have Hk:Hid True:=Lq7 trivial;clear k0 k1 k2 k3 k4 aA aW hc he hR aC Hm aJ aM aN aE;refine goM ?_;exact adrv
      ·obtain rfl:R = .ok ⟨nm,ty,true,vZero⟩:=by
        rw[hR,if_pos];have:(m:Int)=1:=(by simpa using aC);omega
       replace H:=Lq7 (H.out.val (Ai.attr_of nm ty true (show Ai _ _ (valD vZero) [B C 0,B C 0,A ⟨#[]⟩,D E 0 0,D E 0 0] from Ai.val_mk (l:=[]) (ks:=[]) 0 0 ⟨#[]⟩ 0 0 (Ac.nil E) (Ac.nil E))));have Hk:Hid True:=Lq7 trivial;clear hR aG aC Hm aJ aM aN aE;refine goM ?_;exact adrv
   ·obtain rfl:R = .error (7,ln,cl):=(by rw[hR,if_pos (aB.1 rfl)]);clear hR aB;refine goM ?_;exact adrv
def ruleZ:Value:=J #[A ⟨#[]⟩,D E 0 0,D E 0 0,B C 0,B C 0]
theorem eltAttr:Elt 97 44 8 112:=by
 obtain⟨i0,hi,hz0,hz1,hz2⟩:=info_parts infoAttr;exact⟨Tryz.underlying44,i0,_,hi,hz0,hz1,hz2,rfl,by decide,by decide⟩
section
variable {F:Nat->Prop} {c0 c:Ctx} {w W W':World} {mp mb:Nat} {hv:Dq} {G:Nat->Prop} {lv:Bool} {st:St} {ls:List (Nat×Array Value×TypeId)} {nr:List (Option Addr×List Nd)} {vr:List (List Dat×List Value)} {ow:OwS} {Q:Ending->World->Prop} {α:Type}
theorem rret5R{fn:Func}{i j bV bF:Nat}{T T':TypeId}{x0 x1 x2 x3 x4 f0 f1 f2:Value}{tm:Array Value}(H:EI c0 w mp mb hv G lv c st ls nr vr ow W)(q:Q (.returned (.tuple #[J #[x0,x1,x2,x3,x4],J #[f0,f1,f2]])) W)
  (hV:ls[1]? = I (bV,#[x0,x1,x2,x3,x4],T):=by with_unfolding_all rfl) (hF:ls[2]? = I (bF,#[f0,f1,f2],T'):=by with_unfolding_all rfl)
  (hf:fn.results=#[.cell i 46,.cell j 119]:=by rfl) (ht:tm.getD i undef = M (I ⟨bV,0,E⟩):=by rfl) (hu:tm.getD j undef = M (I ⟨bF,0,E⟩):=by rfl):bodyPost Tryz.prog fn Q .ret ⟨tm,[]⟩ W:=by
 rw[Array.getD_eq_getD_getElem?] at ht hu;obtain⟨r0,r1,r2,r3,r4,r5,-⟩:=Aa (H.locs _ (lgM hV));obtain⟨q0,q1,q2,q3,-⟩:=Bh (H.locs _ (lgM hF));exact bodyPost_ret (v:=.tuple #[J #[x0,x1,x2,x3,x4],J #[f0,f1,f2]]) (by simp[results,hf,go_sem,ht,hu,r1,r2,r3,r4,r5,q1,q2,q3]) rfl q
theorem EI.freshRow(h:EI c0 w mp mb hv G lv c st ls nr vr .nil W)(hb:Below W.heap.size W W'){e:TypeId}{size n cap:Nat}{a:Option Addr}{rows:List (List Dat)}(ho:OwnD (fun k=>W.heap.size<=k) W' W.heap.size e size (D a n cap) rows)(hn:n=rows.length):
  EI c0 w mp mb hv G lv (c.with fun b=>(W.heap.size<=b/\b<W'.heap.size)/\(Value.slice a n cap).ownBlock≠I b) st ls nr vr (Gk W.heap.size e size a n cap rows) W':=by
 have h2:=h.below hb;have hw:∀b,((W.heap.size<=b/\b<W'.heap.size)/\(Value.slice a n cap).ownBlock≠I b)->b<W'.heap.size/\¬c.M b:=fun b hb'=>⟨hb'.1.2,fun hm=>by have:=h.ok.ml b hm;omega⟩;refine⟨h2.mv.with fun b hb'=>nlt h.mv.size hb'.1.1,h2.ok.with hw,fun e=>(h2.ms e).with hw,h2.locs,h2.own,fun x hx=>⟨(h2.out x hx).1,fun hm=>by
  rcases hm with hm|hm
  ·exact(h2.out x hx).2 hm
  ·have:=h.lt hx;omega⟩,h2.dist,h2.g,h2.gw,h2.nr,fun r hr=>(h2.vr r hr).wider fun b hb' _=> .inl hb',?_,fun b hb'=>?_,fun b hb=> .inl (h2.f0 b hb)⟩
 ·obtain⟨css,g1,g2,g3,g4⟩:=ho;exact⟨⟨css,g1,g2,g3,fun j ds cs g5 g6=>(g4 j ds cs g5 g6).wider fun b hb hl=>⟨.inr ⟨⟨hb.1,hl⟩,hb.2⟩,hb.2⟩⟩,hb.size,hn⟩
 ·have hl:=ho.block_lt hb';exact⟨⟨fun hm=>by have:=h.ok.ml b hm;omega,fun hf=>hf.elim (fun hf=>by have:=h.ok.fl b hf;omega) fun hf=>hf.2 hb'⟩,nlt h.mv.size hl.1,fun x hx e=>by have:=h.lt hx;omega⟩
theorem xOwn(k:∀c' W' b,Hid (EI c0 w mp mb hv G lv c' st ls nr vr (Gk W.heap.size 97 8 (I ⟨b,0,E⟩) 2 2 (C0 ownL)) W')->Q (.returned (D (I ⟨b,0,E⟩) 2 2)) W')(H:EI c0 w mp mb hv G lv c st ls nr vr .nil W:=by exact gR):Calls Tryz.prog 102 #[] W Q:=by
 refine(own_any W).mono ?_;rintro e w' ⟨hb,b,-,rfl,ho⟩;exact k _ w' b (Lq7 (H.freshRow hb ho rfl))
theorem xFindR{l:List RuleP}{t:ByteArray}{a:Option Addr}{cap:Nat}{F1:Nat->Prop}{b:Bool}(hl:l.length<=140737488355328)(hr:Ac F1 w a (Dy l))(hb:(l.any fun r=>Eb r.name t)=b)(k:∀W' s a1 l1 c1 a2 l2 c2 x y,Hid (EI ⟨fun _=>False,F⟩ w mp mb hv G lv c st ls nr vr ow W')->Q (.returned (.tuple #[J #[A s,D a1 l1 c1,D a2 l2 c2,B C x,B C y],L b])) W')
  (H:EI ⟨fun _=>False,F⟩ w mp mb hv G lv c st ls nr vr ow W:=by exact gR):Calls Tryz.prog 101 #[D a l.length cap,A t] W Q:=by
 refine(find_any F1 l a cap t W hl (hr.below H.bel)).mono ?_;rintro e w' ⟨hbl,s,a1,l1,c1,a2,l2,c2,x,y,rfl⟩;rw[hb];exact k w' s a1 l1 c1 a2 l2 c2 x y (Lq7 (H.below hbl))
theorem xAttr{nk nl nc:Int}{nt:ByteArray}{ns:List Nd}{a:Option Addr}{cap:Nat}{ahead:List AttrP}{aL:Option Addr}{cL base:Nat}{r:Except Flt α}{f:AttrP->Except Flt α}{n:Nat}(hkl:1<=ns.length/\ns.length<=2)(hok:Ci 65536 65540 (.mk nk nt nl nc ns))(hc:F5 nk=true->ns.length<=cap)(hl:n<=140737488355328)(hT:Em w)(hB:StdB w)(hF:∀b,E9 b->F b)(S:Hid (r=match attrL (.mk nk nt nl nc ns) ahead with | .ok v=>f v | .error x=> .error x))
  (hk:∀c' W' nm ty mu yk yn ys yl yks b1 e1 b2 e2,Hid (EI ⟨fun _=>False,F⟩ w mp mb hv G lv c' st ls nr ((J4 ⟨nm,ty,mu,.mk yk yn ys yl yks⟩,[A nm,B C ty,L mu,B C yk,B C yn,A ys,D b1 yl.length e1,D b2 yks.length e2])::vr) (Gk base 97 8 aL n cL (C0 ahead)) W')->Hid (r=f ⟨nm,ty,mu,.mk yk yn ys yl yks⟩)->Q (.returned (.tuple #[J #[A nm,B C ty,L mu,B C yk,B C yn,A ys,D b1 yl.length e1,D b2 yks.length e2],J #[B C 0,B C 0,B C 0]])) W')
  (he:∀W' x y z,x≠0->Hid (EI ⟨fun _=>False,F⟩ w mp mb hv G lv c st ls nr vr (Gk base 97 8 aL n cL (C0 ahead)) W')->Hid (r = .error (x,y,z))->Q (.returned (.tuple #[J #[A ⟨#[]⟩,B C 0,L false,B C 0,B C 0,A ⟨#[]⟩,D E 0 0,D E 0 0],J #[B C x,B C y,B C z]])) W')
  (H:EI ⟨fun _=>False,F⟩ w mp mb hv G lv c st ls nr vr (Gk base 97 8 aL n cL (C0 ahead)) W:=by exact gR) (ha:(a,ns)∈nr:=by simp):
  Calls Tryz.prog 103 #[J #[B C nk,A nt,B C nl,B C nc,D a ns.length cap],D aL n cL] W Q:=by
 obtain rfl:n=ahead.length:=H.at'.2.2.trans (Jp _);obtain⟨a',cap',hL,hr⟩:=(H.at'.1.wide (G:=fun _=>True) fun _ _=>trivial).rowAt fun _ _=>trivial;obtain⟨rfl,-,-⟩:aL=a'/\ahead.length=_/\cL=cap':=(by simpa using hL);refine(attr_any (fun _=>True) G (.mk nk nt nl nc ns) _ hkl ahead aL cL W hok (fun b hb=>(H.g b hb).1) (A7.mk nk nt nl nc cap (H.nr _ ha) hc) hl hr (hT.below H.bel) (hB.below H.bel)).mono ?_;rintro e w' ⟨hb,hq⟩;cases hw:attrL (.mk nk nt nl nc ns) ahead with
 | error f=>
  rw[hw] at hq;obtain⟨x,y,z⟩:=f;obtain⟨rfl,hx⟩:=hq;exact he w' x y z hx (Lq7 (H.below hb)) (Lq7 (by rw[S.out,hw]))
 | ok v=>
  rw[hw] at hq;obtain⟨cs,rfl,aR,-⟩:=hq;obtain⟨nm,ty,mu,⟨yk,yn,ys,yl,yks⟩⟩:=v;obtain⟨b1,e1,b2,e2,rfl,-,-⟩:=aR.attr;exact hk _ w' nm ty mu yk yn ys yl yks b1 e1 b2 e2 (Lq7 (H.fresh hb (aR.wider fun b hb' _=>hb'.imp (fun h=>H.f0 b (hF b h)) id))) (Lq7 (by rw[S.out,hw]))
theorem xAppA{ops:Array Oper}{rest:List Oper}{o:Oper}{a:Act}{Q:Exit->Act->World->Prop}{s x:Operand}{b:Nat}{cp base n cL:Nat}{aL:Option Addr}{rows:List (List Dat)}{nm:ByteArray}{ty:Int}{mu:Bool}{yk yn:Int}{ys:ByteArray}{yl:List Vl}{yks:List ByteArray}{b1 b2:Option Addr}{e1 e2:Nat}{T:TypeId}(hn:n<=1000000)
  (k:∀W' a' c',Hid (EI c0 w mp mb hv G lv c st ls nr vr (Gk base 97 8 a' (n+1) c' (rows++[J4 ⟨nm,ty,mu,.mk yk yn ys yl yks⟩])) W')->wpList Tryz.prog ops Q rest (a.put o.dst (D a' (n+1) c')) W')
  (H:EI c0 w mp mb hv G lv c st ls nr vr (Gk base 97 8 aL n cL rows) W:=by exact gR) (hd:(J4 ⟨nm,ty,mu,.mk yk yn ys yl yks⟩,[A nm,B C ty,L mu,B C yk,B C yn,A ys,D b1 yl.length e1,D b2 yks.length e2])∈vr:=by exact List.mem_cons_self ..) (hgd:o.guard=E:=by rfl) (ho:o.op = .call { callee:=.builtin .append,args:=#[s,x],argTypes:=#[44,44]}:=by rfl) (hs:a.eval s = D aL n cL:=by rfl) (hx:a.eval x = D (I ⟨b,0,E⟩) 1 cp:=by rfl)
  (hb:ls.getLast? = I (b,#[A nm,B C ty,L mu,B C yk,B C yn,A ys,D b1 yl.length e1,D b2 yks.length e2],T):=by with_unfolding_all rfl):wpList Tryz.prog ops Q (o::rest) a W:=
 xApp0 eltAttr (H.vr _ hd) k H hgd ho hs hx (List.mem_of_getLast? hb) rfl (by simp[Value.oneCell']) hn
theorem Wy(l:List AttrP)(x:AttrP):C0 (l++[x])=C0 l++[J4 x]:=by simp[C0]
end
def Wz(nm:ByteArray)(bks:List Nd)(ln cl:Int):Except Flt (List AttrP)->Except Flt RuleP
 | .error f=> .error f
 | .ok l=> .ok ⟨nm,l,bks,ln,cl⟩
theorem udrv{P:Prop}(h:P:=by
 repeat' first
  | ((with_reducible refine goO ?_);((try simp only[List.cons_append,List.nil_append,List.set_cons_zero,List.set_cons_succ] at H);(have hD:=H.out.fa);(simp only[FaA,PwA,NeB,and_true] at hD);(have hk:=HK.out _ H.out.bel);go_wp2_with (at_builtin;refine xAppA Hj.out ?_;intro V aL cL H;refine goM ?_);all_goals (try clear hD hk)))
  | ((with_reducible show Calls _ 100 _ _ _);refine Xh HB.out Hz.out ?_;intro V b h H;rw[aG.out] at h;subst h;refine goM ?_)
  | ((with_reducible show Calls _ 101 _ _ _);refine xFindR Hl.out Hr.out aH.out ?_;intro V s0 a1 l1 c1 a2 l2 c2 x y H;refine goM ?_)
  | ((with_reducible show Calls _ 102 _ _ _);refine xOwn ?_;intro c V b H;refine goM ?_)
  | ((with_reducible show Calls _ 103 _ _ _);refine xAttr Hkl.out aJ.out Hc.out (Nat.le_trans Hj.out (by decide)) HT.out HB.out HS.out S (fun c V nm' ty mu yk yn ys yl yks b1 e1 b2 e2 H S=>?_) (fun V x y z hq H S=>?_)<;>(try have hq':(x==0)=false:=by simpa using hq)<;>(try have Hq:=Go.Lib.hid hq)<;>refine goM ?_)
  | ((with_reducible show Code.wp _ (.region _ _ _) _ _ _);(first|refine yRgn (.s 0 (.s 1 (.h 2 (.h 3 .nil)))) 99 ?_|refine yRgn (.s 0 (.s 1 (.s 2 (.s 3 (.h 4 (.h 5 .nil)))))) 99 ?_|refine yRgn (.s 0 (.s 1 (.s 3 (.s 4 (.s 5 (.s 6 (.s 7 (.s 8 (.s 9 (.s 10 (.b 2 (.s 11 (.h 12 (.h 13 .nil))) 12 (.h 2 (.s 11 (.h 13 .nil)))))))))))))) 99 ?_);intro V H)
  | ((with_reducible show Ak _ _ _ _ _ (.s _ _) _ _);first|refine yS ?_|refine yS (v:=Go.Value.pointer (Option.some ⟨kb,ko+m*5,Option.none⟩)) ?_)
  | ((with_reducible show Ak _ _ _ _ _ (.h _ _) _ _);refine yH ?_;intro V H K hK;refine goM ?_)
  | ((with_reducible show Ak _ _ _ _ _ (.b _ _ _ _) _ _);refine yHB ?_ ?_<;>(intro V H K hK;refine goM ?_))
  | ((with_reducible show Ak _ _ _ _ _ .nil _ _);refine A2 ?_;refine goM ?_)
  | ((with_reducible show bodyPost _ _ _ _ _ _);refine rret5R gR ?_;first|exact rE gR (by decide)|exact rO gR|(rw[S.out];first|exact rE gR (by decide)|exact rE gR|exact rO gR))
  | (refine hK _ _ (fun _=>⟨EI.bel gR,EI.laS gR (by simp[cutR])⟩) ?_)
  | (go_meet;(case rel=>exact⟨_,_,_,_,_,rfl,Go.Lib.hid (EI.subl gR (by exact sub01245) (by simp) (by simp))⟩))
  | (go_roundw;(case rel=>exact⟨j+1,_,_,_,_,_,_,by go_num,by omega,Go.Lib.hid (by rw[Wy];exact EI.sub gR 4),S,Go.Lib.hid (by have:=aU.out;omega)⟩);(case measure=>simp only[intOf];omega))):P:=h
theorem sub01245{α:Type}{a b c d e:α}: [a,b,c,e].Sublist [a,b,c,d,e]:=.cons_cons _ (.cons_cons _ (.cons_cons _ (.cons _ (.cons_cons _ .slnil))))
def PRule(G:Nat->Prop)(w0:World)(r:Except Flt RuleP)(w:World):Ending->World->Prop:=PRes J9 (fun _=>True) ruleZ (fun b=>Oh w0 b\/G b) w r
theorem Ace(F G n v ahead a cap w)(hok:Ci 65536 65540 n)(hG:∀b,G b->b<w.heap.size)(hn:A7 G w n v)(hl:ahead.length<=140737488355328)(hr:Ac F w a (Dy ahead))(hT:Em w)(hB:StdB w):
  Calls Tryz.prog 51 #[v,D a ahead.length cap] w (PRule G w (ruleL n ahead) w):=by
 unfold PRule;obtain⟨R,hR⟩:∃R,R=ruleL n ahead:=⟨_,rfl⟩;rw[<-hR];have HR:=Lq7 hR;obtain⟨kk,nm,ln,cl,kids⟩:=n;obtain⟨ka,kc,rfl,hcap,aD⟩:=hn.openC;have aM:∀b,E9 b\/G b->b<w.heap.size:=fun b hb=>hb.elim (E9.lt hT hB b) (hG b);have Hz:Hid (nm.size<4294967000):=Lq7 (by have:=hok;rw[Ci] at this;omega);have HT:=Lq7 hT;have HB:=Lq7 hB;have Hl:=Lq7 hl;have Hr:=Lq7 hr;have h0:=(EI.init (F:=fun b=>E9 b\/G b) aM hG).node aD;have H:=Lq7 (h0.start3 (n:=#[B C kk,A nm,B C ln,B C cl,D ka kids.length kc]) (v:=#[A ⟨#[]⟩,D E 0 0,D E 0 0,B C 0,B C 0]) (f:=#[B C 0,B C 0,B C 0]) (T:=27) (T':=46) (T2:=119));by_cases hkk:kk=6;rotate_left
 ·have hk1:(kk==6)=false:=(by simpa using hkk);obtain rfl:R = .error (3,ln,cl):=(by rw[hR];exact if_pos hkk);have HK:Hid (∀W,Below w.heap.size w W->True):=Lq7 fun _ _=>trivial;clear hR HR hn aD hl hr hT hB hG hok h0 aM hcap hkk;go_enter Tryz.func51,Tryz.ntmps51
  go_upto_region 1 with fail
  generalize World.alloc _ _=W at H |-;refine goM ?_;exact udrv
 subst hkk;obtain⟨ps,⟨bk,bt,bl,bc,bks⟩,rfl,aV⟩:∃ps b,kids=ps++[b]/\∀x∈ps,1<=x.kids.length/\x.kids.length<=2:=(by have:=hok;rw[Ci] at this;exact this.2.2.2.1 rfl);obtain⟨m,hm⟩:∃m,m=ps.length:=⟨_,rfl⟩;have aB:(ps++[Nd.mk bk bt bl bc bks])[m]? = I (.mk bk bt bl bc bks):=(by rw[hm];simp);obtain⟨kb,ko,b3,c3,rfl,-,aA,k0,k1,k2,k3,k4,-,aE⟩:=aD.nodeK aB;have hkc:m+1<=kc:=(by have:=hcap rfl;simpa[hm] using this);have hm5:m<=65540:=(by have:=hok;rw[Ci] at this;have:=this.2.1;rw[List.length_append,List.length_singleton,<-hm] at this;omega);have aC:R=if E0 nm.data.toList=true then .error (7,ln,cl) else if(ahead.any fun r=>Eb r.name nm)=true then .error (8,ln,cl) else Wz nm bks ln cl (attrsGo ps ownL):=by
  rw[hR,ruleL,if_neg (fun h=>h rfl)];have hd:(Nd.kids (.mk 6 nm ln cl (ps++[.mk bk bt bl bc bks]))).dropLast=ps:=(by show(ps++[_]).dropLast=ps;simp);have hk:kidN (.mk 6 nm ln cl (ps++[.mk bk bt bl bc bks])) ((Nd.kids (.mk 6 nm ln cl (ps++[.mk bk bt bl bc bks]))).length - 1) = .mk bk bt bl bc bks:=by
   unfold kidN;show((ps++[_])[(ps++[_]).length - 1]?).getD _=_;simp
  rw[hd,hk];unfold Wz;rfl
 rw[show(ps++[Nd.mk bk bt bl bc bks]).length=m+1 by simp[hm]] at H |-;have HK:Hid (∀W,Below w.heap.size w W->kb<W.heap.size/\W.cell? ⟨kb,ko+m*5+4,E⟩=I (D b3 bks.length c3)):=Lq7 fun W hb=>⟨nll aA hb.size,(hb.cell (p:=⟨kb,_,E⟩) aA).trans k4⟩;have aN:Hid (Ac (fun b=>E9 b\/G b) w b3 (ndsD bks)):=Lq7 (aE.nds_of.mono fun b hb hl=>⟨.inr hb,hl,rfl⟩);have aJ:=Lq7 hok;have Hkr:=Lq7 aD;have Hps:=Lq7 aV;have Hm:=Lq7 hm;have hmi:¬((m:Int)+1<=m):=(by omega);clear hR HR hn aD hl hr hT hB hG hok h0 aM hcap aB aV hm k0 k1 k2 k3 k4 aA aE;go_enter Tryz.func51,Tryz.ntmps51
 go_upto_region 1 with fail
 generalize World.alloc _ _=W at H |-;cases htk:E0 nm.data.toList;rotate_left
 ·obtain rfl:R = .error (7,ln,cl):=(by rw[aC,if_pos htk]);have aG:=Lq7 htk;clear aC htk;refine goM ?_;exact udrv
 have aG:=Lq7 htk;rw[if_neg (by rw[htk];exact Bool.false_ne_true)] at aC;clear htk;cases hfd:ahead.any fun r=>Eb r.name nm;rotate_left
 ·obtain rfl:R = .error (8,ln,cl):=(by rw[aC,if_pos hfd]);have aH:=Lq7 hfd;clear aC hfd;refine goM ?_;exact udrv
 have aH:=Lq7 hfd;rw[if_neg (by rw[hfd];exact Bool.false_ne_true)] at aC;clear hfd;have hD:=H.out.fa;simp only[FaA,PwA,NeB,and_true] at hD;go_wp2_with fail;clear hD;refine Xh HB.out Hz.out ?_;intro V b h H;rw[aG.out] at h;subst h;have hD:=H.out.fa;simp only[FaA,PwA,NeB,and_true] at hD;go_wp2_with fail;clear hD;refine xFindR Hl.out Hr.out aH.out ?_;intro V s0 a1 l1 c1 a2 l2 c2 x y H;have hD:=H.out.fa;simp only[FaA,PwA,NeB,and_true] at hD
 go_upto_region 9 with fail
 clear hD
 go_cut [9] from 44 to 55 (fun v wc=>∃(rb:Nat) (aL:Option Addr) (cL:Nat) (c1:Ctx) (base:Nat),v = M (I ⟨rb,0,E⟩)/\Hid (EI ⟨fun _=>False,fun b=>E9 b\/G b⟩ w 0 0 noK G false c1 ⟨[],0,[]⟩ [(w.heap.size,#[B C 6,A nm,B C ln,B C cl,D (I ⟨kb,ko,E⟩) (m+1) kc],27),(w.heap.size+1,#[A ⟨#[]⟩,D E 0 0,D E 0 0,B C 0,B C 0],46),(w.heap.size+1+1,#[B C 0,B C 0,B C 0],119),(rb,#[A nm,D aL 2 cL,D b3 bks.length c3,B C ln,B C cl],46)] [(I ⟨kb,ko,E⟩,ps++[.mk bk bt bl bc bks])] [] (Gk base 97 8 aL 2 cL (C0 ownL)) wc))
 case first=>
  refine goM ?_;exact udrv
 case rest=>
  obtain⟨rb,aL,cL,c1,base,rfl,H⟩:=hcut;have S:Hid (R=Wz nm bks ln cl (attrsGo (ps.drop 0) ownL)):=Lq7 aC;clear aC;have hD:=H.out.fa;simp only[FaA,PwA,NeB,and_true] at hD;go_wp2_with fail;clear hD
  go_loopw [61] (fun i wr=>∃(j n:Nat) (acc:List AttrP) (aL:Option Addr) (cL:Nat) (c1:Ctx) (base:Nat),i = B C j/\j<=m/\Hid (EI ⟨fun _=>False,fun b=>E9 b\/G b⟩ w 0 0 noK G false c1 ⟨[],0,[]⟩ [(w.heap.size,#[B C 6,A nm,B C ln,B C cl,D (I ⟨kb,ko,E⟩) (m+1) kc],27),(w.heap.size+1,#[A ⟨#[]⟩,D E 0 0,D E 0 0,B C 0,B C 0],46),(w.heap.size+1+1,#[B C 0,B C 0,B C 0],119),(rb,#[A nm,D aL n cL,D b3 bks.length c3,B C ln,B C cl],46)] [(I ⟨kb,ko,E⟩,ps++[.mk bk bt bl bc bks])] [] (Gk base 97 8 aL n cL (C0 acc)) wr)/\Hid (R=Wz nm bks ln cl (attrsGo (ps.drop j) acc))/\Hid (n=j+2)) (fun i _=>m-(intOf i).toNat)
  case atStart=>exact⟨0,2,ownL,aL,cL,c1,base,rfl,nlz _,H,S,Lq7 rfl⟩
  case round=>
   obtain⟨j,n,acc,aL,cL,c1,base,rfl,hj,H,S,aU⟩:=hrel;have HS:Hid (∀b,E9 b->E9 b\/G b):=Lq7 fun _ h=> .inl h;have Hj:Hid (n<=1000000):=Lq7 (by have:=aU.out;omega);by_cases hlt:j<m
   ·have hlt':j<ps.length:=(by rw[<-Hm.out];exact hlt);cases hz:ps[j] with
    | mk xk xt xl xc xs=>
     have aQ:(ps++[Nd.mk bk bt bl bc bks])[j]? = I (.mk xk xt xl xc xs):=(by rw[List.getElem?_append_left hlt',lgE hlt',hz]);have hS:R=match attrL (.mk xk xt xl xc xs) acc with | .ok v=>Wz nm bks ln cl (attrsGo (ps.drop (j+1)) (acc++[v])) | .error f=> .error f:=by rw[S.out,List.drop_eq_getElem_cons hlt',hz,attrsGo];cases attrL (.mk xk xt xl xc xs) acc<;>rfl
     have S:=Lq7 hS;have Hkl:Hid (1<=xs.length/\xs.length<=2):=Lq7 (Hps.out (.mk xk xt xl xc xs) (by rw[<-hz];exact List.getElem_mem hlt'));have aJ:Hid (Ci 65536 65540 (.mk xk xt xl xc xs)):=Lq7 (by have:=aJ.out;rw[Ci] at this;exact ndOks_iff.1 this.2.2.2.2 _ (lgM aQ));obtain⟨kb',ko',xa,xq,he,-,aA,k0,k1,k2,k3,k4,Hc,aW⟩:=Hkr.out.nodeK aQ;obtain⟨rfl,rfl⟩:kb=kb'/\ko=ko':=(by injection he with h;injection h with h9 h8;exact⟨h9,h8⟩);replace HK:Hid (∀W,Below w.heap.size w W->kb<W.heap.size/\W.cell? ⟨kb,ko+j*5,E⟩=I (B C xk)/\W.cell? ⟨kb,ko+j*5+1,E⟩=I (A xt)/\W.cell? ⟨kb,ko+j*5+2,E⟩=I (B C xl)/\W.cell? ⟨kb,ko+j*5+3,E⟩=I (B C xc)/\W.cell? ⟨kb,ko+j*5+4,E⟩=I (D xa xs.length xq)):=Lq7 fun W hb=>⟨nll aA hb.size,(hb.cell (p:=⟨kb,_,E⟩) aA).trans k0,(hb.cell (p:=⟨kb,_,E⟩) aA).trans k1,(hb.cell (p:=⟨kb,_,E⟩) aA).trans k2,(hb.cell (p:=⟨kb,_,E⟩) aA).trans k3,(hb.cell (p:=⟨kb,_,E⟩) aA).trans k4⟩;have H:=Lq7 (H.out.node (aW.below H.out.bel));clear k0 k1 k2 k3 k4 aA aW he aQ hz hlt' hS;refine goM ?_;exact udrv
   ·have hR:R = .ok ⟨nm,acc,bks,ln,cl⟩:=(by rw[S.out,List.drop_eq_nil_of_le (by rw[<-Hm.out];omega)];rfl);subst hR;obtain⟨c2,h2,aF,hn⟩:=H.out.rowDone;rw[Jp] at hn;subst hn;have H:=Lq7 (h2.val (Ai.rule_mk nm ln cl cL c3 aF ((aN.out.below h2.bel).mono fun b hb hl=>⟨h2.f0 b hb,hl,rfl⟩)));have HF:Hid (∀b,(E9 b\/G b)->Oh w b\/G b):=Lq7 fun _ h=>h.imp .inl id;have HN:Hid (∀b,w.heap.size<=b->Oh w b\/G b):=Lq7 fun _ h=> .inl (.inr h);have Hk:Hid True:=Lq7 trivial;clear h2 aF S;refine goM ?_;exact udrv
theorem infoRule:(Tryz.prog.info? 46).map (fun i=>(i.zero,i.size,i.bytes))=I (I (J #[A ByteArray.empty,D E 0 0,D E 0 0,B C 0,B C 0]),5,80):=by kernel_rfl
def rulesB:ByteArray:=⟨#[82,85,76,69,83]⟩
def R1(fs:List (ByteArray×ByteArray)):Except Flt (List RuleP):=match getL fs rulesB with|none=> .ok []|some t=>loadL t.data.toList
def R4(w0:World)(r:Except Flt (List RuleP))(w:World)(e:Ending)(w':World):Prop:=Below w.heap.size w w'/\match r with
 | .ok l=>∃(a:Option Addr) (cap:Nat),e = .returned (.tuple #[D a l.length cap,B C 0,J #[B C 0,B C 0]])/\Ac (Oh w0) w' a (Dy l)
 | .error f=>e = .returned (.tuple #[D E 0 0,B C f.1,J #[B C f.2.1,B C f.2.2]])/\f.1≠0
theorem eltRule:Elt 46 41 5 80:=by
 obtain⟨i0,hi,hz0,hz1,hz2⟩:=info_parts infoRule;exact⟨Tryz.underlying41,i0,_,hi,hz0,hz1,hz2,rfl,by decide,by decide⟩
theorem Vi(l x):Dy (l++[x])=Dy l++[J9 x]:=by simp[Dy]
section
variable {F:Nat->Prop} {c0 c:Ctx} {w W W':World} {mp mb:Nat} {hv:Dq} {G:Nat->Prop} {lv:Bool} {st:St} {ls:List (Nat×Array Value×TypeId)} {nr:List (Option Addr×List Nd)} {vr:List (List Dat×List Value)} {ow:OwS} {Q:Ending->World->Prop} {α:Type}
theorem EI.p20(h:EI c0 w mp mb hv G lv c st ls nr vr ow W){b:Nat}{x0 x1 v0 v1:Value}{T:TypeId}(hj:ls[0]? = I (b,#[x0,x1],T):=by with_unfolding_all rfl):EI c0 w mp mb hv G lv c st (ls.set 0 (b,#[v0,v1],T)) nr vr ow ((W.setCell ⟨b,0,E⟩ v0).setCell ⟨b,1,E⟩ v1):=h.put2 0 hj v0 v1
theorem gL{P:Prop}(h:P:=by first|with_reducible exact H.out|with_reducible exact H.out.alloc _ _|with_reducible exact H.out.alloc2|with_reducible exact H.out.alloc3|with_reducible exact EI.p20 H.out):P:=h
theorem zRgn{ops:Array Oper}{Q:Exit->Act->World->Prop}{id:Nat}{a:Act}(l:Tu)(fin:Nat)(k:∀W',Hid (EI ⟨fun _=>False,F⟩ w mp mb hv G lv c st ls nr vr ow W')->Ak Tryz.prog ops (fun W'=>Below w.heap.size w W'/\C4 W' (ls.drop 1)) Q fin l a W')(H:EI ⟨fun _=>False,F⟩ w mp mb hv G lv c st ls nr vr ow W:=by exact gL)(hm:(Tryz.prog).follows .mixedOrders=true:=by kernel_rfl)
  (hB:(Region.noSelect ops&&Cu .any ops fin l (Array.replicate ops.size false)&&decide (l.deep<=ops.size))=true:=by decide +kernel)
  (hQ:∀c a d v w,Q (.panic c) (a.put d v) w->Q (.panic c) a w:=by intro c a d v w h;cases d<;>exact h):(Code.region id ops true).wp Tryz.prog Q a W:=
 Bm l fin _ ⟨H.drew.bel,Nr 1 H.drew.la⟩ (k _ (Lq7 H.drew)) hm hB hQ
theorem zH{ops:Array Oper}{Q:Exit->Act->World->Prop}{fin i:Nat}{o:Oper}{rest:Tu}{a:Act}{S:World->Prop}(k:∀W',Hid (EI c0 w mp mb hv G lv c st ls nr vr ow W')->∀K:Act->World->Prop,(∀a2 w2,(i≠fin->S w2)->Ak Tryz.prog ops S Q fin rest a2 w2->K a2 w2)->wpList Tryz.prog ops (Exit.then K Q) [o] a W')
  (H:EI c0 w mp mb hv G lv c st ls nr vr ow W:=by exact gL) (ho:ops[i]? = I o:=by rfl):Ak Tryz.prog ops S Q fin (.h i rest) a W:=Ae ho (k W (Lq7 H))
theorem lret{fn:Func}{i j k bV:Nat}{T:TypeId}{x0 x1 v2 v3:Value}{tm:Array Value}(H:EI c0 w mp mb hv G lv c st ls nr vr ow W)(q:Q (.returned (.tuple #[v2,v3,J #[x0,x1]])) W)(hV:ls[0]? = I (bV,#[x0,x1],T):=by with_unfolding_all rfl)
  (hf:fn.results=#[.tmp i,.tmp j,.cell k 24]:=by rfl) (hi:tm.getD i undef=v2:=by rfl) (hj:tm.getD j undef=v3:=by rfl) (hk:tm.getD k undef = M (I ⟨bV,0,E⟩):=by rfl):bodyPost Tryz.prog fn Q .ret ⟨tm,[]⟩ W:=by
 rw[Array.getD_eq_getD_getElem?] at hi hj hk;obtain⟨r0,r1,r2,-,-⟩:=A8 (H.locs _ (lgM hV));exact bodyPost_ret (v:=.tuple #[v2,v3,J #[x0,x1]]) (by simp[results,hf,go_sem,hi,hj,hk,r1,r2]) rfl q
theorem lE{r:Except Flt (List RuleP)}{x y z:Int}(S:Hid (r = .error (x,y,z)))(hx:x≠0)(H:EI ⟨fun _=>False,F⟩ w mp mb hv G lv c st ls nr vr ow W):R4 w r w (.returned (.tuple #[D E 0 0,B C x,J #[B C y,B C z]])) W:=by
 rw[S.out];exact⟨H.bel,rfl,hx⟩
theorem lO{r:Except Flt (List RuleP)}{l:List RuleP}{a:Option Addr}{cap:Nat}(S:Hid (r = .ok l))(H:EI ⟨fun _=>False,E9⟩ w mp mb hv G lv c st ls nr vr ow W)(hr:([.row (Dy l)],[D a l.length cap])∈vr:=by simp):R4 w r w (.returned (.tuple #[D a l.length cap,B C 0,J #[B C 0,B C 0]])) W:=by
 rw[S.out];exact⟨H.bel,a,cap,rfl,(Ai.row_at (H.vr _ hr)).mono fun b hb hl=>⟨H.mv.f b hb,hl,rfl⟩⟩
theorem xRule{nk nl nc:Int}{nt:ByteArray}{ns:List Nd}{a:Option Addr}{cap:Nat}{ahead:List RuleP}{aL:Option Addr}{n cL base:Nat}{r:Except Flt α}{f:RuleP->Except Flt α}(hok:Ci 65536 65540 (.mk nk nt nl nc ns))(hc:F5 nk=true->ns.length<=cap)(hl:n<=140737488355328)(hT:Em w)(hB:StdB w)(S:Hid (r=match ruleL (.mk nk nt nl nc ns) ahead with | .error x=> .error x | .ok v=>f v))
  (hk:∀c' W' nm at' bd x y a1 e1 a2 e2,Hid (EI ⟨fun _=>False,E9⟩ w mp mb hv G lv c' st ls nr ((J9 ⟨nm,at',bd,x,y⟩,[A nm,D a1 at'.length e1,D a2 bd.length e2,B C x,B C y])::vr) (Gk base 46 5 aL n cL (Dy ahead)) W')->Hid (r=f ⟨nm,at',bd,x,y⟩)->Q (.returned (.tuple #[J #[A nm,D a1 at'.length e1,D a2 bd.length e2,B C x,B C y],J #[B C 0,B C 0,B C 0]])) W')
  (he:∀W' x y z,x≠0->Hid (EI ⟨fun _=>False,E9⟩ w mp mb hv G lv c st ls nr vr (Gk base 46 5 aL n cL (Dy ahead)) W')->Hid (r = .error (x,y,z))->Q (.returned (.tuple #[J #[A ⟨#[]⟩,D E 0 0,D E 0 0,B C 0,B C 0],J #[B C x,B C y,B C z]])) W')
  (H:EI ⟨fun _=>False,E9⟩ w mp mb hv G lv c st ls nr vr (Gk base 46 5 aL n cL (Dy ahead)) W:=by exact gL) (ha:([.row (Au ns)],[D a ns.length cap])∈vr:=by simp):
  Calls Tryz.prog 51 #[J #[B C nk,A nt,B C nl,B C nc,D a ns.length cap],D aL n cL] W Q:=by
 obtain rfl:n=ahead.length:=H.at'.2.2.trans (L9 _);obtain⟨a',cap',hL,hr⟩:=(H.at'.1.wide (G:=fun _=>True) fun _ _=>trivial).rowAt fun _ _=>trivial;obtain⟨rfl,-,-⟩:aL=a'/\ahead.length=_/\cL=cap':=(by simpa using hL);refine(Ace (fun _=>True) c.F (.mk nk nt nl nc ns) _ ahead aL cL W hok H.ok.fl (A7.mk nk nt nl nc cap (Ai.row_at (H.vr _ ha)) hc) hl hr (hT.below H.bel) (hB.below H.bel)).mono ?_;rintro e w' ⟨hb,hq⟩;cases hw:ruleL (.mk nk nt nl nc ns) ahead with
 | error f=>
  rw[hw] at hq;obtain⟨x,y,z⟩:=f;obtain⟨rfl,hx⟩:=hq;exact he w' x y z hx (Lq7 (H.below hb)) (Lq7 (by rw[S.out,hw]))
 | ok v=>
  rw[hw] at hq;obtain⟨cs,rfl,aE,-⟩:=hq;obtain⟨nm,at',bd,x,y⟩:=v;obtain⟨a1,e1,a2,e2,rfl,-,-⟩:=aE.rule;exact hk _ w' nm at' bd x y a1 e1 a2 e2 (Lq7 (H.fresh hb (aE.wider fun b hb' _=>hb'.elim (fun h=>h.imp (fun h=>H.f0 b h) id) .inl))) (Lq7 (by rw[S.out,hw]))
theorem xAppR{ops:Array Oper}{rest:List Oper}{o:Oper}{a:Act}{Q:Exit->Act->World->Prop}{s x:Operand}{b:Nat}{cp base n cL:Nat}{aL:Option Addr}{rows:List (List Dat)}{nm:ByteArray}{at':List AttrP}{bd:List Nd}{y z:Int}{a1 a2:Option Addr}{e1 e2:Nat}{T:TypeId}(hn:n<=1000000)
  (k:∀W' a' c',Hid (EI c0 w mp mb hv G lv c st ls nr vr (Gk base 46 5 a' (n+1) c' (rows++[J9 ⟨nm,at',bd,y,z⟩])) W')->wpList Tryz.prog ops Q rest (a.put o.dst (D a' (n+1) c')) W')
  (H:EI c0 w mp mb hv G lv c st ls nr vr (Gk base 46 5 aL n cL rows) W:=by exact gL) (hd:(J9 ⟨nm,at',bd,y,z⟩,[A nm,D a1 at'.length e1,D a2 bd.length e2,B C y,B C z])∈vr:=by exact List.mem_cons_self ..) (hgd:o.guard=E:=by rfl) (ho:o.op = .call { callee:=.builtin .append,args:=#[s,x],argTypes:=#[41,41]}:=by rfl) (hs:a.eval s = D aL n cL:=by rfl) (hx:a.eval x = D (I ⟨b,0,E⟩) 1 cp:=by rfl)
  (hb:ls.getLast? = I (b,#[A nm,D a1 at'.length e1,D a2 bd.length e2,B C y,B C z],T):=by with_unfolding_all rfl):wpList Tryz.prog ops Q (o::rest) a W:=
 xApp0 eltRule (H.vr _ hd) k H hgd ho hs hx (List.mem_of_getLast? hb) rfl (by simp[Value.oneCell']) hn
end
theorem ldrv{P:Prop}(h:P:=by
 repeat' first
  | ((with_reducible refine goO ?_);((try simp only[List.cons_append,List.nil_append,List.set_cons_zero,List.set_cons_succ] at H);(have hD:=H.out.fa);(simp only[FaA,PwA,NeB,and_true] at hD);go_wp2_with (at_builtin;refine xAppR Hj.out ?_;intro V aL cL H;refine goM ?_);all_goals (try clear hD)))
  | ((with_reducible show Calls _ 51 _ _ _);refine xRule Hok.out Hc.out (Nat.le_trans Hj.out (by decide)) HT.out HB.out S (fun c V nm' at' bd x y a1 e1 a2 e2 H S=>?_) (fun V x y z hq H S=>?_)<;>(try have hq':(x==0)=false:=by simpa using hq)<;>(try have Hq:=Go.Lib.hid hq)<;>refine goM ?_)
  | ((with_reducible show Code.wp _ (.region _ _ _) _ _ _);(first|refine zRgn (.s 0 (.s 1 (.s 2 (.s 3 (.h 4 .nil))))) 4 ?_|refine zRgn (.s 0 (.s 1 (.s 2 (.s 3 (.s 4 (.s 5 (.h 6 .nil))))))) 6 ?_);intro V H)
  | ((with_reducible show Ak _ _ _ _ _ (.s _ _) _ _);refine yS ?_)
  | ((with_reducible show Ak _ _ _ _ _ (.h _ _) _ _);refine zH ?_;intro V H K hK;refine goM ?_)
  | ((with_reducible show Ak _ _ _ _ _ .nil _ _);refine A2 ?_;refine goM ?_)
  | ((with_reducible show bodyPost _ _ _ _ _ _);refine lret gL ?_;first|exact lE S Hq.out gL|exact lO S gL)
  | (refine hK _ _ (fun h=>absurd rfl h) ?_)
  | (go_roundw;(case rel=>exact⟨j+1,_,_,_,_,_,_,rfl,by go_num,by omega,Go.Lib.hid (by rw[Vi];exact EI.subl gL (by exact List.Sublist.cons_cons _ (List.nil_sublist _)) (by simp) (by simp)),S,Go.Lib.hid (by have:=aF.out;omega)⟩);(case measure=>simp only[intOf];omega))):P:=h
theorem Aau(F fs a cap w)(hr:Ac F w a (Of fs))(hlen:fs.length<=140737488355328)(hsz:∀t,getL fs rulesB=I t->t.size<=9223372036854775807)(hE:Lt w)(hT:Em w)(hB:StdB w):
  Calls Tryz.prog 29 #[D a fs.length cap] w (R4 w (R1 fs) w):=by
 obtain⟨R,hR⟩:∃R,R=R1 fs:=⟨_,rfl⟩;rw[<-hR];have HT:=Lq7 hT;have HB:=Lq7 hB;have HE:=Lq7 hE;have Hsz:=Lq7 hsz;have HR:=Lq7 hR;have HG:=Lq7 (fun W (hb:Below w.heap.size w W)=>Ue F fs a cap rulesB W (hr.below hb) hlen);have H:=Lq7 ((EI.init (G:=fun _=>False) (E9.lt hT hB) fun _ h=>h.elim).alloc #[B C 0,B C 0] 24);simp only[List.nil_append] at H;clear hr hlen hE hT hB hsz hR;unfold rulesB at HG;go_enter Tryz.func29,Tryz.ntmps29;go_wp2_with fail;refine xB H.out (HG.out _ H.out.bel) fun V H=>?_;cases hgt:getL fs ⟨#[82,85,76,69,83]⟩ with
 | none=>
  have S:Hid (R = .ok []):=Lq7 (by rw[HR.out,R1];unfold rulesB;rw[hgt]);have H:=Lq7 (H.out.val (Ai.row_mk (n:=0) (cap:=0) (rows:=Dy []) rfl (Ac.nil E)));simp only[Option.getD_none,Option.isSome_none];clear hgt HR;refine goM ?_;exact ldrv
 | some t=>
  have aB:R=loadL t.data.toList:=(by rw[HR.out,R1];unfold rulesB;rw[hgt]);simp only[Option.getD_some,Option.isSome_some];have HQ:=Lq7 (Qo t V (Hsz.out t (by unfold rulesB;exact hgt)) (HE.out.below H.out.bel) (Ej _).1);clear hgt HR HG;go_wp2_with fail;refine HQ.out.mono ?_;rintro e w2 ⟨aC,hq⟩;clear HQ;cases hrd:readL t.data.toList with
  | none=>exact absurd hrd (Ej _).1
  | some r=>
   rw[hrd] at hq;cases r with
   | error f=>
    obtain rfl:=hq;obtain⟨x,y,z⟩:=f;have S:Hid (R = .error (x,y,z)):=Lq7 (by rw[aB,loadL,hrd]);have Hq:=Lq7 (Tq hrd);have hq':(x==0)=false:=(by simpa using Hq.out);replace H:=Lq7 (H.out.below aC);clear aB hrd aC;unfold zeroNode;refine goM ?_;exact ldrv
   | ok n=>
    obtain⟨v,rfl,hv⟩:=hq;obtain⟨kids,rfl,hkl,aG⟩:=(Ej _).2 _ hrd;obtain⟨ka,kc,rfl,aA⟩:=hv.open;have H:=Lq7 (H.out.fresh aC (Ai.row_mk (n:=kids.length) (cap:=kc) (Ah kids).symm (aA.mono fun b hb hl=>⟨.inr hb,hl,rfl⟩)));have S:Hid (R=rulesGo (kids.drop 0) []):=Lq7 (by rw[aB,loadL,hrd];rfl);have Hko:=Lq7 aG;clear aB hrd aC hv aA aG;have hD:=H.out.fa;simp only[FaA,PwA,NeB,and_true] at hD;go_wp2_with fail;clear hD;have H:=Lq7 (EI.row0 (H.out.alloc2 (cs:=#[B C 1,A ⟨#[]⟩,B C 1,B C 1,D ka kids.length kc]) (T:=27) (cs':=#[B C 0,B C 0]) (T':=24)) 46 5);simp only[List.cons_append,List.nil_append] at H;generalize World.alloc _ _=W2 at H |-
    go_loopw [10,36] (fun v i wr=>∃(j n:Nat) (acc:List RuleP) (aL:Option Addr) (cL:Nat) (c1:Ctx) (base:Nat),v = D aL n cL/\i = B C j/\j<=kids.length/\Hid (EI ⟨fun _=>False,E9⟩ w 0 0 noK (fun _=>False) false c1 ⟨[],0,[]⟩ [(w.heap.size,#[B C 0,B C 0],24)] [] [([.row (Au kids)],[D ka kids.length kc])] (Gk base 46 5 aL n cL (Dy acc)) wr)/\Hid (R=rulesGo (kids.drop j) acc)/\Hid (n=j)) (fun _ i _=>kids.length-(intOf i).toNat)
    case atStart=>exact⟨0,0,[],E,0,_,_,rfl,rfl,nlz _,Lq7 (EI.sub H.out 1),S,Lq7 rfl⟩
    case round=>
     obtain⟨j,n,acc,aL,cL,c1,base,rfl,rfl,hj,H,S,aF⟩:=hrel;by_cases hlt:j<kids.length
     ·cases hz:kids[j] with
      | mk xk xt xl xc xs=>
       have aD:kids[j]? = I (.mk xk xt xl xc xs):=(by rw[lgE hlt,hz]);have hS:R=match ruleL (.mk xk xt xl xc xs) acc with | .error f=> .error f | .ok v=>rulesGo (kids.drop (j+1)) (acc++[v]):=by rw[S.out,List.drop_eq_getElem_cons hlt,hz,rulesGo];cases ruleL (.mk xk xt xl xc xs) acc<;>rfl
       have S:=Lq7 hS;have Hok:Hid (Ci 65536 65540 (.mk xk xt xl xc xs)):=Lq7 (ndOks_iff.1 Hko.out _ (lgM aD));have Hj:Hid (n<=1000000):=Lq7 (by have:=aF.out;omega);obtain⟨b,off,xa,xq,rfl,-,hbl,r0,r1,r2,r3,r4,Hc,aH⟩:=(Ai.row_at (H.out.vr _ (lmS ..))).nodeK aD;have H:=Lq7 (H.out.val (Ai.row_mk (n:=xs.length) (cap:=xq) (Ah xs).symm aH));clear hz hS aD aH;refine goM ?_;exact ldrv
     ·have hR:R = .ok acc:=(by rw[S.out,List.drop_eq_nil_of_le (by omega)];rfl);have S:=Lq7 hR;obtain⟨c2,h2,aA,hn⟩:=H.out.rowDone;rw[L9] at hn;subst hn;have H:=Lq7 (h2.val (Ai.row_mk (n:=acc.length) (cap:=cL) (L9 acc).symm aA));clear h2 aA hR;refine goM ?_;exact ldrv
end Go.Proofs.YtlbbbapiklendaaGreatDoor
