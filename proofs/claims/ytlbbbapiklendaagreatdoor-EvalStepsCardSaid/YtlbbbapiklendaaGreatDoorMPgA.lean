/-
  The walks of the printer's small methods:line,two,in,named,row,param;what each of them puts on the page. (And what it stands on.)
-/
import Derived.Test.YtlbbbapiklendaaGreatDoorMBackG
import Derived.Test.YtlbbbapiklendaaGreatDoorMAlvR
import Derived.Test.YtlbbbapiklendaaGreatDoorMAlvT
import Derived.Test.YtlbbbapiklendaaGreatDoorPlainOut
import Derived.Test.YtlbbbapiklendaaGreatDoorMOpW
import Derived.Test.YtlbbbapiklendaaGreatDoorMReadsP
import Derived.Test.YtlbbbapiklendaaGreatDoorMEh
import Derived.Test.YtlbbbapiklendaaGreatDoorMRefNumB
import Derived.Test.YtlbbbapiklendaaGreatDoorMSame12
import Derived.Test.YtlbbbapiklendaaGreatDoorMPage
import Derived.Test.YtlbbbapiklendaaGreatDoorMRegionHeldD
namespace Go.Proofs.YtlbbbapiklendaaGreatDoor
open Go.IntKind renaming i64->C
open Go.Value renaming int->A,string->I,slice->E,pointer->N
open Go.Obj renaming cells->J
open Option renaming some->K,none->M
open Go Go.RowKit
open Go.RowKit.Below renaming refl->bRf
open Nat renaming le_refl->nlr,zero_le->nlz,lt_of_lt_of_le->nll,zero_mul->nzm,add_zero->naz,le_trans->nlt
open Go.Lib renaming hid->Lq7,toList_data->Lq8
open And renaming intro->aIn
open List renaming mem_of_getElem? -> lgM,length_cons->lnC,length_append->lnA,getElem?_eq_getElem->lgE,length_nil->lnN,take_of_length_le->ltL
open Bool renaming and_eq_true->bAt
set_option maxRecDepth 100000
set_option maxHeartbeats 16000000
theorem op_contract:OpC:=by
 intro t F k x s l ks k' y s' m ks' a1 c1 a2 c2 a3 c3 a4 c4 w ha hb hF hB hr1 aA hr3 hr4;exact opW_any t k k' x y s s' l m ks ks' ha hb F a1 c1 a2 c2 a3 c3 a4 c4 w hF hB hr1 aA hr3 hr4
theorem plain_all:Pl Cf:=fun _ _ h=>by cases h
theorem Ya(mp mb):Pn 268 (.agg #[]) mp mb (Ka Cf):=by
 intro c w st q a cap hm hr hc hs hl hne;obtain⟨hT,hB⟩:=hm.std;refine(Aaj q c.F a cap w hr hm.ok.fl hT hB hl hs hc).mono ?_;rintro e w' ⟨hb,hq⟩;have hg:=Xs q.name.data.toList q.args hc;show ∃c',Mv c w c' w'/\MS c' w' mp mb (Ka Cf) { st with log:=st.log++[q]}/\match (K (I1 q.name.data.toList q.args):Option (Except Int Vl)) with
   | some (.ok x)=>∃cs:List Value,e = .returned (.tuple #[.agg cs.toArray,A C 0])/\Ax c'.F w' (valD x) cs/\A5 x
   | some (.error y)=>e = .returned (.tuple #[zeroV,A C y])/\y≠0
   | none=>True
 have hm':=(hm.below hb).with (g:=fun b=>w.heap.size<=b/\b<w'.heap.size) (fun b hb'=>⟨hb'.2,fun h=>by have:=hm.ok.ml b h;omega⟩);have hms:MS (c.with fun b=>w.heap.size<=b/\b<w'.heap.size) w' mp mb (Ka Cf) { st with log:=st.log++[q]}:=
  ⟨hm'.ok,hm'.head,hm'.hm,hm'.hb,hm'.names,hm'.uniq,hm'.left,hm'.few,by
   obtain⟨own,h1,h2⟩:=hm'.host;exact⟨own,h1,h2⟩⟩
 refine⟨_,(Mv.of_below c hb).with (fun b hb'=>hb'.1),hms,?_⟩;cases aA:I1 q.name.data.toList q.args with
 | ok x=>
  rw[aA] at hq hg;obtain⟨cs,rfl,hag⟩:=hq;exact⟨cs,rfl,hag.mono fun b hb' hl'=>⟨.inr ⟨hb',hl'⟩,hl',rfl⟩,hg⟩
 | error y=>
  rw[aA] at hq hg;exact⟨hq,hg⟩
def NzE(r:Except Int Vl):Prop:=∀y,r = .error y->y≠0
theorem NzE.err{n}(h:n≠0):NzE (.error n):=fun y e=>by cases e;exact h
theorem NzE.ok{v}:NzE (.ok v):=fun y e=>by cases e
theorem NzE.limited(s):NzE (Cb s):=by
 unfold Cb;split
 ·exact .err (by decide)
 ·exact .ok
theorem NzE.args{n f}(h:∀l,NzE (f l))(l):NzE (F6 n f l):=by
 unfold F6;split
 ·exact h _
 ·exact .err (by decide)
theorem NzE.one{f}(h:∀v,NzE (f v)):∀l,NzE (one f l)
 | [v]=>h v
 | []=> .err (by decide)
 | _::_::_=> .err (by decide)
theorem NzE.two{f}(h:∀u v,NzE (f u v)):∀l,NzE (two f l)
 | [u,v]=>h u v
 | []=> .err (by decide)
 | [_]=> .err (by decide)
 | _::_::_::_=> .err (by decide)
theorem NzE.part(of v):NzE (Kf of v):=by
 unfold Kf;split
 ·exact .err (by decide)
 ·split
  ·exact .err (by decide)
  ·exact .limited _
theorem Abd(nm l):NzE (I1 nm l):=by
 unfold I1;split
 ·refine .args (.one fun v=>?_) l;unfold Gm
  repeat' split
  all_goals first|exact .ok|exact .err (by decide)
 split
 ·refine .args (.two fun u v=>?_) l;unfold joinL
  repeat' split
  all_goals first|exact .ok|exact .err (by decide)
 split
 ·refine .args (.one fun v=>?_) l;unfold linesL
  repeat' split
  all_goals first|exact .ok|exact .err (by decide)
 split
 ·refine .args (.one fun v=>?_) l;unfold sortedL
  repeat' split
  all_goals first|exact .ok|exact .err (by decide)
 split
 ·refine .args (.one fun v=>?_) l;unfold M1
  repeat' split
  all_goals first|exact .limited _|exact .err (by decide)
 split
 ·refine .args (fun l=>?_) l;unfold J1;split
  ·unfold Kl
   repeat' split
   all_goals first|exact .limited _|exact .err (by decide)|exact .ok
  ·exact .err (by decide)
 split
 ·exact .args (.one (.part _)) l
 split
 ·exact .args (.one (.part _)) l
 split
 ·exact .args (.one (.part _)) l
 ·exact .err (by decide)
theorem plain_nz:Mc Cf:=fun log q y h=>by
 unfold Cf at h;exact Abd _ _ y (by injection h)
def plainH:Value:=.iface 83 (.agg #[])
theorem Yb(w):Calls Tryz.prog 8 #[] w (fun e w'=>e = .returned plainH/\Below w.heap.size w w'):=by
 go_enter Tryz.func8,Tryz.ntmps8;go_wp2_with fail;exact bodyPost_ret (v:=plainH) (by simp[plainH,results,Tryz.results8,go_sem]) rfl ⟨rfl,bRf _ _⟩
mutual
theorem smallN_ok:∀{n:Nd},D9 65536 65540 n->Cg n
 | .mk k t l c kids,h=>by
  rw[D9] at h;rw[Cg];exact⟨by unfold maxLen;omega,by omega,smallNs_ok h.2.2.2.2⟩
theorem smallNs_ok:∀{l:List Nd},Dn 65536 65540 l->smallNs l
 | [],_=>by rw[smallNs];trivial
 | x::t,h=>by
  rw[Dn] at h;rw[smallNs];exact⟨smallN_ok h.1,smallNs_ok h.2⟩
end
def N3(b:Nat):Prop:=b=3\/b=0
def DatF(w:World)(b:Nat):Prop:=N3 b\/w.heap.size<=b
theorem N3.lt{w}(hT:E3 w)(hB:StdB w):∀b,N3 b->b<w.heap.size:=by
 obtain⟨m,hm⟩:=hB;rintro b (rfl|rfl)
 ·exact hT.here
 ·exact Ar hm
abbrev RunR:=Except (Int×Int×Int) (List (ByteArray×Vl))
def rowsR:RunR->List (ByteArray×Vl)
 | .ok m=>C3 m
 | .error _=>[]
def codeR:RunR->Int×Int×Int
 | .ok _=>(0,0,0)
 | .error f=>f
def PRunR(r:RunR)(w:World)(e:Ending)(w':World):Prop:=Below w.heap.size w w'/\∃(a:Option Addr) (cap:Nat),e = .returned (.tuple #[E a (rowsR r).length cap,A C (codeR r).1,.agg #[A C (codeR r).2.1,A C (codeR r).2.2]])/\Af (DatF w) w' a (Bf (rowsR r))/\(rowsR r).length<=1000000/\∀q∈rowsR r,A5 q.2
theorem X3(kids)(hok:Dn 65536 65540 kids)(hlen:kids.length<=1000000)(s)(hs:0<=s/\s<=1000000)(G a cap w)(hG:∀b,G b->b<w.heap.size)(hr:Af G w a (Au kids))(hT:E3 w)(hB:StdB w):
  Calls Tryz.prog 7 #[E a kids.length cap,E M 0 0,plainH,A C s] w (PRunR (N1 (G0 Cf (ndHs kids) kids s)) w):=by
 have aD:=Vx plain_all hok (nlr _) s;have hH:=Vv (hv:=Ka Cf) op_contract Ya (Re Cf) plain_nz (fun _=>False) N3 (ndHs kids) G kids a cap s w
  ⟨fun _ h=>h.elim,N3.lt hT hB,fun _ _ h=>h⟩ 83 (.agg #[]) rfl ⟨hT,hB,.inl rfl,.inr rfl⟩ (fun _ _ h=>h) (by omega) hG hr (smallNs_ok hok) hlen aD
  (fun st hst=>Yj Cf _ kids hs st hst)
 refine hH.mono ?_;rintro e w' ⟨c',aA,hq⟩;refine⟨⟨aA.os,aA.tape,aA.output,aA.size,fun b hb=>aA.block b hb (fun h=>h)⟩,?_⟩;rw[show(Ka Cf).ans=Cf from rfl] at hq;cases hres:G0 Cf (ndHs kids) kids s with
 | out=>exact absurd hres aD
 | err x l k=>
  rw[hres] at hq;subst hq;exact⟨M,0,rfl,Af.nil _,nlz _,fun q hq=>by cases hq⟩
 | ok u st=>
  rw[hres] at hq;obtain⟨-,-,aB,a',cap',rfl,aC⟩:=hq;refine⟨a',cap',rfl,aC.mono fun b hb' hl=>⟨by
   rcases aA.f b hb' with h|h
   ·exact .inl h
   ·exact .inr h,hl,rfl⟩,?_,fun q hq=>B7 (Rc aB q hq).1⟩
  show(C3 st.names).length<=_;rw[Mb];exact Yj Cf _ kids hs st hres
def muteK:D5:=Ka (fun _ _=>M)
def stdF(b:Nat):Prop:=b=3\/b=0
theorem Y1(mp mb):Pn 268 (.agg #[]) mp mb muteK:=fun _c _w _st _q _a _cap _ _ _ _ _ h=>absurd rfl h
theorem mute_nz:Mc muteK.ans:=fun log q y h=>by cases h
theorem Y2{w}(h:StdB w):0<w.heap.size:=by
 obtain⟨m,hm⟩:=h;exact Ar hm
theorem Mv.all{F c' w w'}(h:Mv ⟨fun _=>False,F⟩ w c' w'):Below w.heap.size w w':=⟨h.os,h.tape,h.output,h.size,fun b hb=>h.block b hb (fun h=>h)⟩
theorem Tl(n)(hn:n<=1000000 /\ -1<=n)(hne:∀ans,G0 ans 8 aliveKids n ≠ .out)(hfl:∀ans st,G0 ans 8 aliveKids n = .ok () st->st.names.length<=1000000)(a cap w)(hT:E3 w)(hB:StdB w)(hr:Af (fun b=>b<w.heap.size) w a (Au aliveKids)):
  Calls Tryz.prog 7 #[E a 2 cap,E M 0 0,.iface 83 (.agg #[]),A C n] w (PRunN (fun _=>False) stdF muteK (G0 muteK.ans 8 aliveKids n) w):=
 Vv op_contract Y1 (Re _) mute_nz (fun _=>False) stdF 8 (fun b=>b<w.heap.size) aliveKids a cap n w ⟨fun _ h=>h.elim,fun b hb=>by
  rcases hb with rfl|rfl
  ·exact hT.here
  ·exact Y2 hB,fun _ _ h=>h⟩ 83 (.agg #[]) rfl ⟨hT,hB,.inl rfl,.inr rfl⟩ (fun _ _ h=>h) hn (fun _ h=>h) hr alive_small (by decide) (hne _) (hfl _)
theorem Y3(a cap w)(hT:E3 w)(hB:StdB w)(hr:Af (fun b=>b<w.heap.size) w a (Au aliveKids)):
  Calls Tryz.prog 7 #[E a 2 cap,E M 0 0,.iface 83 (.agg #[]),A C 14] w (fun e w'=>Below w.heap.size w w'/\∃b off c1,e = .returned (.tuple #[E (K ⟨b,off,M⟩) 2 c1,A C 0,.agg #[A C 0,A C 0]]) /\
   w'.cell? ⟨b,off+6,M⟩=K (I ⟨#[120]⟩)/\w'.cell? ⟨b,off+6+2,M⟩=K (A C 6)):=by
 refine(Tl 14 (by omega) (fun ans=>by rw[Oz];exact fun h=>by cases h) (fun ans st h=>by rw[Oz] at h;cases h;exact(by decide:2<=1000000)) a cap w hT hB hr).mono ?_;intro e w' hq;unfold PRunN at hq;rw[Oz] at hq;obtain⟨c',aG,-,-,-,a1,c1,he,aA⟩:=hq;simp only[alive_sort] at he aA;obtain⟨b,off,x1,y1,x2,y2,rfl,-,-,q0,q1,q2,-⟩:=aA.named (j:=1) (nm:=⟨#[120]⟩) (k:=2) (n:=6) (s:=⟨#[]⟩) (m:=[]) (ks:=[]) rfl;exact⟨aG.all,b,off,c1,he,by simpa using q0,by simpa using q2⟩
theorem Y4(a cap w)(hT:E3 w)(hB:StdB w)(hr:Af (fun b=>b<w.heap.size) w a (Au aliveKids)):
  Calls Tryz.prog 7 #[E a 2 cap,E M 0 0,.iface 83 (.agg #[]),A C 13] w (fun e w'=>Below w.heap.size w w'/\e = .returned (.tuple #[E M 0 0,A C 12,.agg #[A C 1,A C 34]])):=by
 refine(Tl 13 (by omega) (fun ans=>by rw[O0];exact fun h=>by cases h) (fun ans st h=>by rw[O0] at h;cases h) a cap w hT hB hr).mono ?_;intro e w' hq;unfold PRunN at hq;rw[O0] at hq;obtain⟨c',aG,he⟩:=hq;exact⟨aG.all,he⟩
theorem Y5(w)(hw:Lg w)(hT:E3 w)(hB:StdB w):Calls Tryz.prog 5 #[] w (fun e w'=>e = .returned (.bool true)/\Below w.heap.size w w'):=by
 have aQ:=Lq7 (Y6 w hw);have HT:=Lq7 hT;have HB:=Lq7 hB;clear hw hT hB;go_enter Tryz.func5,Tryz.ntmps5;go_wp2_with fail;refine aQ.out.mono ?_;rintro e w1 ⟨aD,a,cap,rfl,aA⟩;have aH:=Lq7 (aA.here);have Hb1:=Lq7 aD;obtain⟨n1,n2,n3,n4⟩:=Lq w1 (J #[A C 1,I ⟨#[]⟩,A C 1,A C 1,E a 2 cap] 27) (J #[A C 0,A C 0] 24);have H2:=Lq7 (aIn n1 (aIn (aA.here.below n3) (aD.trans (n3.mono aD.size))));clear aD aA aQ Hb1 aH n1 n2 n3 n4;go_wp2_with fail;generalize World.alloc _ _=W2 at H2 |-;refine(V1 _).mono ?_;rintro e w3 ⟨rfl,aE⟩;have H3:=Lq7 (aIn (stays H2.out.1 aE) (aIn (H2.out.2.1.below aE) (H2.out.2.2.trans (aE.mono H2.out.2.2.size))));clear aE H2;obtain⟨q0,q1,q2,q3,q4,q5,q6,q7,q8,q9,aJ⟩:=Aa H3.out.1;have hbx:=here H3.out.1;unfold plainV;go_wp2_with fail;refine(Y3 a cap _ (HT.out.below H3.out.2.2) (HB.out.below H3.out.2.2) (H3.out.2.1.mono fun b hb hl=>⟨hl,hl,rfl⟩)).mono ?_;rintro e w4 ⟨aB,bx,off,cx,rfl,aM,aN⟩;have aC:Below w4.heap.size w4 (w4.alloc (J #[A C 0,A C 0] 24)):=(bRf _ w4).alloc (nlr _) _;have H4:=Lq7 (aIn (stays (stays H3.out.1 aB) aC) (aIn ((H3.out.2.1.below aB).below aC) ((H3.out.2.2.trans (aB.mono H3.out.2.2.size)).trans (aC.mono (H3.out.2.2.trans (aB.mono H3.out.2.2.size)).size))));have Hx:Hid ((w4.alloc (J #[A C 0,A C 0] 24)).cell? ⟨bx,off+6,M⟩=K (I ⟨#[120]⟩)/\(w4.alloc (J #[A C 0,A C 0] 24)).cell? ⟨bx,off+6+2,M⟩=K (A C 6)):=Lq7 ⟨(aC.cell (p:=⟨bx,off+6,M⟩) (Ar aM)).trans aM,(aC.cell (p:=⟨bx,off+6+2,M⟩) (Ar aN)).trans aN⟩;have hsz4:w1.heap.size<w4.heap.size:=nll hbx aB.size;have h4:=stays H3.out.1 aB;have H44:=Lq7 h4;clear aB aC aM aN H3 q0 q1 q2 q3 q4 q5 q6 q7 q8 q9 aJ;obtain⟨q0,q1,q2,q3,q4,q5,q6,q7,q8,q9,aJ⟩:=Aa h4;go_wp2_with fail;generalize World.alloc _ _=W5 at H4 Hx |-;clear q0 q1 q2 q3 q4 q5 q6 q7 q8 q9 aJ h4 H44;refine(Y4 a cap _ (HT.out.below H4.out.2.2) (HB.out.below H4.out.2.2) (H4.out.2.1.mono fun b hb hl=>⟨hl,hl,rfl⟩)).mono ?_;rintro e w6 ⟨aF,rfl⟩;have x0:=(aF.cell (p:=⟨bx,off+6,M⟩) (Ar Hx.out.1)).trans Hx.out.1;have x1:=(aF.cell (p:=⟨bx,off+6+2,M⟩) (Ar Hx.out.2)).trans Hx.out.2;have hbx6:=Ar x0;have x2:w6.cell? ⟨bx,off+6+1+1,M⟩=K (A C 6):=x1;have aR:=Lq7 (H4.out.2.2.trans (aF.mono H4.out.2.2.size));clear aF Hx H4;go_wp2_with fail;exact bodyPost_ret (v:=.bool true) (by simp[results,Tryz.results5,go_sem]) rfl ⟨rfl,aR.out.alloc aR.out.size _⟩
mutual
theorem F4{d e:Nat}(h:d<=e):∀n,okX d n->okX e n
 | .mk k t a b l,hn=>by
  rw[okX] at hn |-;by_cases h9:k=9
  ·rw[if_pos h9] at hn |-;exact hn
  rw[if_neg h9] at hn |-;by_cases h10:k=10
  ·rw[if_pos h10] at hn |-;exact hn
  rw[if_neg h10] at hn |-;by_cases h11:k=11
  ·rw[if_pos h11] at hn |-;exact hn
  rw[if_neg h11] at hn |-;by_cases h12:k=12
  ·rw[if_pos h12] at hn |-;exact⟨hn.1,by omega,M6 (by omega) l hn.2.2⟩
  rw[if_neg h12] at hn |-;by_cases h13:k=13
  ·rw[if_pos h13] at hn |-;exact⟨hn.1,by omega,Q4 (by omega) l hn.2.2⟩
  rw[if_neg h13] at hn |-;by_cases h14:k=14
  ·rw[if_pos h14] at hn |-;exact⟨hn.1,by omega,Q5 (by omega) l hn.2.2⟩
  rw[if_neg h14] at hn |-;by_cases h16:k=16
  ·rw[if_pos h16] at hn |-;by_cases ht:t.data.toList=notW
   ·rw[if_pos ht,if_pos ht] at hn |-;exact⟨⟨by omega,hn.1.2⟩,M7 (by omega) _ 0 l hn.2⟩
   ·rw[if_neg ht,if_neg ht] at hn |-;exact⟨hn.1,M7 h _ 0 l hn.2⟩
  ·rw[if_neg h16] at hn;exact hn.elim
theorem M6{d e:Nat}(h:d<=e):∀l,D7 d l->D7 e l
 | [],_=>by rw[D7];trivial
 | x::r,hn=>by rw[D7] at hn |-;exact⟨F4 h x hn.1,M6 h r hn.2⟩
theorem Q4{d e:Nat}(h:d<=e):∀l,Ff d l->Ff e l
 | [],_=>by rw[Ff];trivial
 | [_],hn=>by rw[Ff] at hn;exact hn.elim
 | x::y::r,hn=>by rw[Ff] at hn |-;exact⟨hn.1,F4 h x hn.2.1,F4 h y hn.2.2.1,Q4 h r hn.2.2.2⟩
theorem Q5{d e:Nat}(h:d<=e):∀l,Jf d l->Jf e l
 | [],_=>by rw[Jf];trivial
 | x::r,hn=>by rw[Jf] at hn |-;exact⟨okA_mono h x hn.1,Q5 h r hn.2⟩
theorem okA_mono{d e:Nat}(h:d<=e):∀n,okA d n->okA e n
 | .mk k t a b l,hn=>by rw[okA] at hn |-;exact⟨hn.1,hn.2.1,hn.2.2.1,M6 h l hn.2.2.2⟩
theorem M7{d e:Nat}(h:d<=e)(t:List UInt8):∀i l,G4 d t i l->G4 e t i l
 | _,[],_=>by rw[G4];trivial
 | i,x::r,hn=>by
  rw[G4] at hn |-;refine⟨?_,M7 h t (i+1) r hn.2⟩;have h1:=hn.1;split at h1
  ·rw[if_pos ‹_›];exact⟨by omega,F4 (by omega) x h1.2⟩
  ·rw[if_neg ‹_›];exact F4 h x h1
end
theorem Ts{d}:∀{a b:List Nd},D7 d a->D7 d b->D7 d (a++b)
 | [],_,_,h=>h
 | x::a,b,h,h'=>by rw[D7] at h;rw[List.cons_append,D7];exact⟨h.1,Ts h.2 h'⟩
theorem Tt{d}:∀{a b:List Nd},Ff d a->Ff d b->Ff d (a++b)
 | [],_,_,h=>h
 | [_],_,h,_=>by rw[Ff] at h;exact h.elim
 | x::y::a,b,h,h'=>by rw[Ff] at h;rw[List.cons_append,List.cons_append,Ff];exact⟨h.1,h.2.1,h.2.2.1,Tt h.2.2.2 h'⟩
theorem Tv{d}:∀{a b:List Nd},Jf d a->Jf d b->Jf d (a++b)
 | [],_,_,h=>h
 | x::a,b,h,h'=>by rw[Jf] at h;rw[List.cons_append,Jf];exact⟨h.1,Tv h.2 h'⟩
theorem Tw{d}:∀{a b:List Nd},F9 d a->F9 d b->F9 d (a++b)
 | [],_,_,h=>h
 | x::a,b,h,h'=>by rw[F9] at h;rw[List.cons_append,F9];exact⟨h.1,Tw h.2 h'⟩
def tokW(t:Tok):Prop:=(t.kind=1->Iq t.text.data.toList)/\(t.kind=2->NumL t.text.data.toList)/\(t.kind=3->Ki t.text.data.toList)
def TokW(ts:List Tok):Prop:=∀t∈ts,tokW t
section
variable {en:Int×Int} {α β:Type}
theorem Sh{ts:List Tok}(h:TokW ts)(i:Nat):tokW (A1 en ts i):=by
 unfold A1;cases hi:ts[i]? with
 | none=>exact⟨fun e=>(by cases e),fun e=>(by cases e),fun e=>(by cases e)⟩
 | some t=>exact h t (lgM hi)
def PrA(D D':Int)(Q:α->Prop)(m:PM α)(ts:List Tok):Prop:=TokW ts->match m ts D with
 | .ok x ts' e=>e=D'/\TokW ts'/\Q x
 | _=>True
def Pr(D D':Int)(Q:α->Prop)(m:PM α):Prop:=∀ts,PrA D D' Q m ts
variable {D D' D2:Int} {Q:α->Prop} {R:β->Prop} {m:PM α} {ts:List Tok}
theorem PrA.pure{x:α}(h:Q x):PrA D D Q (PM.pure x) ts:=fun ht=>⟨rfl,ht,h⟩
theorem PrA.bind{f:α->PM β}(h1:PrA D D' Q m ts)(h2:∀x,Q x->Pr D' D2 R (f x)):PrA D D2 R (PM.bind m f) ts:=by
 intro ht;have g1:=h1 ht;unfold PM.bind;cases hm:m ts D with
 | err a b c=>exact trivial
 | out=>exact trivial
 | ok x t1 d1=>
  rw[hm] at g1;obtain⟨rfl,e2,e3⟩:=g1;exact h2 x e3 t1 e2
theorem PrA.look{f:List Tok->PM α}(h:TokW ts->PrA D D' Q (f ts) ts):PrA D D' Q (pLook f) ts:=fun ht=>h ht ht
theorem PrA.ite{c:Prop}[Decidable c]{m m':PM α}(h1:c->PrA D D' Q m ts)(h2:¬c->PrA D D' Q m' ts):PrA D D' Q (if c then m else m') ts:=by
 by_cases h:c
 ·rw[if_pos h];exact h1 h
 ·rw[if_neg h];exact h2 h
theorem PrA.mono{Q':α->Prop}(h:PrA D D' Q m ts)(hq:∀x,Q x->Q' x):PrA D D' Q' m ts:=by
 intro ht;have g:=h ht;cases hm:m ts D with
 | err a b c=>exact trivial
 | out=>exact trivial
 | ok x t1 d1=>rw[hm] at g;exact⟨g.1,g.2.1,hq _ g.2.2⟩
theorem PrA.take{b:Bool}:PrA D D (fun t=>tokW t/\b=true/\t=A1 en ts 0) (A4 en b) ts:=by
 intro ht;unfold A4;cases b with
 | false=>exact trivial
 | true=>
  cases ts with
  | nil=>exact trivial
  | cons t r=>exact⟨rfl,fun x hx=>ht x (List.mem_cons_of_mem _ hx),ht t (List.mem_cons_self ..),rfl,rfl⟩
theorem PrA.open{b:Bool}:PrA D (D+1) (fun t=>tokW t/\b=true/\t=A1 en ts 0/\D<60) (Dd en b) ts:=by
 intro ht;unfold Dd;by_cases h:(b&&decide (60<=D))=true
 ·rw[if_pos h];exact trivial
 ·rw[if_neg h];have g:=PrA.take (en:=en) (D:=D+1) (b:=b) (ts:=ts) ht;cases hm:A4 en b ts (D+1) with
  | err a b c=>exact trivial
  | out=>exact trivial
  | ok x t1 d1=>
   rw[hm] at g;refine⟨g.1,g.2.1,g.2.2.1,g.2.2.2.1,g.2.2.2.2,?_⟩;rw[g.2.2.2.1] at h;simp at h;omega
theorem Pr.down:Pr (D+1) D (fun _:Unit=>True) pDown:=fun ts ht=>⟨by omega,ht,trivial⟩
theorem Pr.eat{s:List UInt8}:Pr D D (fun _:Unit=>True) (C6 en s):=fun ts ht=>(PrA.bind (PrA.take (en:=en)) (fun _ _ _=>PrA.pure trivial):PrA D D (fun _:Unit=>True) (PM.bind (A4 en (A0 en ts 0 s)) fun _=>PM.pure ()) ts) ht
theorem Pr.close{s:List UInt8}:Pr (D+1) D (fun _:Unit=>True) (Dh en s):=fun _=>PrA.bind (Pr.eat _) fun _ _=>Pr.down
theorem Pr.listGo{cl:List UInt8}{one:PM (List Nd)}{S:List Nd->Prop}(hs:∀a b,S a->S b->S (a++b))(h:Pr D D S one):∀(f:Nat) (acc:List Nd),S acc->Pr D D S (Ce en cl one f acc)
 | 0,_,_=>fun _ _=>trivial
 | f+1,acc,ha=>fun _=> .look fun _=> .ite (fun _=> .pure ha) fun _=>PrA.bind (Q:=fun _=>True) (.ite (fun _=> .pure trivial) fun _=>Pr.eat _) fun _ _ _=> .bind (h _) fun l hl=>Pr.listGo hs h f (acc++l) (hs _ _ ha hl)
theorem Pr.list{cl:List UInt8}{one:PM (List Nd)}{S:List Nd->Prop}(hs:∀a b,S a->S b->S (a++b))(h0:S [])(h:Pr D D S one):Pr D D S (Cx en cl one):=fun ts=>Pr.listGo hs h _ _ h0 ts
end
variable {en:Int×Int}
def PrmQ(d:Nat)(n:Nd):Prop:=if F3 n=true then 1<=d/\okX (d - 1) n else okX d n
def SumQ(d:Nat)(n:Nd):Prop:=if(F3 n && !(F8 n==[43]))=true then 1<=d/\okX (d - 1) n else okX d n
theorem PrmQ.sum{d n}(h:PrmQ d n):SumQ d n:=by
 unfold PrmQ at h;unfold SumQ;cases h2:F3 n with
 | false=>rw[h2] at h;simpa using h
 | true=>
  rw[h2,if_pos rfl] at h;split
  ·exact h
  ·exact F4 (by omega) n h.2
theorem SumQ.ok{d n}(h:SumQ d n):okX d n:=by
 unfold SumQ at h;split at h
 ·exact F4 (by omega) n h.2
 ·exact h
theorem PrmQ.of{d n}(h:okX d n)(h2:F3 n=false):PrmQ d n:=by unfold PrmQ;rw[h2];simpa using h
theorem PrmQ.brk{d n}(h1:1<=d)(h:okX (d - 1) n):PrmQ d n:=by
 unfold PrmQ;split
 ·exact⟨h1,h⟩
 ·exact F4 (by omega) n h
theorem O3{k t s l}(h:k≠16):F3 (Ak k t s l)=false:=Yg h
theorem Gp{ts:List Tok}(h:TokW ts)(hn:Be en ts=true):Ed (A1 en ts 0).text.data.toList:=by
 unfold Be at hn;rw[bAt,beq_iff_eq] at hn;exact⟨(Sh h 0).1 hn.1,by simpa using hn.2⟩
theorem Tx{d b}(hb:okB d b):∀ps:List Nd,okLa d (ps++[b])
 | []=>by rw[List.nil_append,okLa];exact hb
 | [x]=>by
  rw[List.singleton_append,okLa]
  ·rw[okLa];exact hb
  ·simp
 | x::y::r=>by
  rw[List.cons_append,okLa]
  ·exact Tx hb (y::r)
  ·simp
structure LOk(en:Int×Int)(L:Lvl):Prop where
 expr:∀(D:Int) (d:Nat),D+d=60->Pr D D (okX d) L.expr
 prim:∀(D:Int) (d:Nat),D+d=60->Pr D D (PrmQ d) L.prim
 stmt:∀(D:Int) (d:Nat),D+d=60->Pr D D (okS d) L.stmt
section
variable {L:Lvl} (h:LOk en L) {D:Int} {d:Nat} (hd:D+d=60)
include h hd
theorem LOk.arg:Pr D D (okA d) (pArg en L):=fun ts=> .look fun ht=> .ite
 (fun hc=> .bind .take fun _ _ _=> .bind (Pr.eat _) fun _ _ _=> .bind (h.expr D d hd _) fun x hx _=> .pure (by
  rw[bAt] at hc;unfold Ak;rw[okA];exact⟨rfl,.inr (Gp ht hc.1),rfl,by rw[D7,D7];exact⟨hx,trivial⟩⟩))
 fun _=> .bind (h.expr D d hd _) fun x hx _=> .pure (by
  unfold Ak;rw[okA];exact⟨rfl,.inl rfl,rfl,by rw[D7,D7];exact⟨hx,trivial⟩⟩)
theorem LOk.call:Pr D D (fun n=>okX d n/\n.kind=14) (pCall en L):=fun ts=> .look fun ht=> .bind .take fun name hn _=> .look fun _=> .bind .open fun o ho _=>
 PrA.bind (Q:=Jf (d - 1)) (Pr.list (fun _ _=>Tv) (by rw[Jf];trivial) (fun _=> .bind (h.arg (D:=D+1) (d:=d - 1) (by have:=ho.2.2.2;omega) _) fun x hx _=> .pure (by rw[Jf,Jf];exact⟨hx,trivial⟩)) _) fun kids hk _=> .bind (Pr.close _) fun _ _ _=> .pure ⟨by
  have h1:=Gp ht hn.2.1;rw[<-hn.2.2] at h1;unfold Ak;rw[okX,if_neg (by decide),if_neg (by decide),if_neg (by decide),if_neg (by decide),if_neg (by decide),if_pos rfl];exact⟨h1,by have:=ho.2.2.2;omega,hk⟩,rfl⟩
theorem LOk.entry:Pr D D (Ff d) (pEntry en L):=fun ts=> .look fun ht=> .bind .take fun t hn _=> .bind (Pr.eat _) fun _ _ _=> .bind (h.expr D d hd _) fun x hx _=> .pure (by
 have h1:=hn.2.1;rw[<-hn.2.2,beq_iff_eq] at h1;unfold Ak;rw[Ff,Ff,okX,if_neg (by decide),if_neg (by decide),if_pos rfl];exact⟨rfl,⟨hn.1.2.2 h1,rfl⟩,hx,trivial⟩)
theorem LOk.prm:Pr D D (PrmQ d) (pPrim en L):=fun ts=> .look fun ht=> .ite
 (fun hk=> .bind .take fun _ _ _=> .pure (.of (by
  unfold Ak;rw[okX,if_neg (by decide),if_neg (by decide),if_pos rfl];exact⟨(Sh ht 0).2.2 (by simpa using hk),rfl⟩) (O3 (by decide)))) fun _=> .ite
 (fun hk=> .bind .take fun _ _ _=> .pure (.of (by
  unfold Ak;rw[okX,if_neg (by decide),if_pos rfl];exact⟨(Sh ht 0).2.1 (by simpa using hk),rfl⟩) (O3 (by decide)))) fun _=> .ite
 (fun _=>(h.call hd ts).mono fun x hx=> .of hx.1 (by obtain⟨k,t,a,b,l⟩:=x;obtain rfl:k=14:=hx.2;exact Yg (by decide))) fun _=> .ite
 (fun hk=> .bind .take fun _ _ _=> .pure (.of (by
  unfold Ak;rw[okX,if_pos rfl];exact⟨Gp ht hk,rfl⟩) (O3 (by decide)))) fun _=> .ite
 (fun _=> .bind .open fun o ho _=> .bind (h.prim (D+1) (d - 1) (by have:=ho.2.2.2;omega) _) fun x hx _=> .bind (Pr.down _) fun _ _ _=> .pure (.of (by
  unfold Ak;rw[okX,if_neg (by decide),if_neg (by decide),if_neg (by decide),if_neg (by decide),if_neg (by decide),if_neg (by decide),if_pos rfl,if_pos (show(bs [110,111,116]).data.toList=notW from rfl),if_pos (show(bs [110,111,116]).data.toList=notW from rfl),G4,G4];refine⟨⟨by have:=ho.2.2.2;omega,rfl⟩,?_,trivial⟩;have h1:PrmQ (d - 1) x:=hx;unfold PrmQ at h1;unfold Cp;rw[if_pos (show(bs [110,111,116]).data.toList=notW from rfl)];exact h1) rfl)) fun _=> .ite
 (fun _=> .bind .open fun o ho _=>PrA.bind (Q:=D7 (d - 1)) (Pr.list (fun _ _=>Ts) (by rw[D7];trivial) (fun _=> .bind (h.expr (D+1) (d - 1) (by have:=ho.2.2.2;omega) _) fun x hx _=> .pure (by rw[D7,D7];exact⟨hx,trivial⟩)) _) fun kids hk _=> .bind (Pr.close _) fun _ _ _=> .pure (.of (by
  unfold Ak;rw[okX,if_neg (by decide),if_neg (by decide),if_neg (by decide),if_pos rfl];exact⟨rfl,by have:=ho.2.2.2;omega,hk⟩) (O3 (by decide)))) fun _=> .ite
 (fun _=> .bind .open fun o ho _=>PrA.bind (Q:=Ff (d - 1)) (Pr.list (fun _ _=>Tt) (by rw[Ff];trivial) (h.entry (D:=D+1) (d:=d - 1) (by have:=ho.2.2.2;omega)) _) fun kids hk _=> .bind (Pr.close _) fun _ _ _=> .pure (.of (by
  unfold Ak;rw[okX,if_neg (by decide),if_neg (by decide),if_neg (by decide),if_neg (by decide),if_pos rfl];exact⟨rfl,by have:=ho.2.2.2;omega,hk⟩) (O3 (by decide)))) fun _=>
 .bind .open fun o ho _=> .bind (h.expr (D+1) (d - 1) (by have:=ho.2.2.2;omega) _) fun x hx _=> .bind (Pr.close _) fun _ _ _=> .pure (.brk (by have:=ho.2.2.2;omega) hx)
theorem LOk.sumGo:∀(f:Nat) (x:Nd),SumQ d x->Pr D D (SumQ d) (pSumGo en L f x)
 | 0,_,_=>fun _ _=>trivial
 | f+1,x,hx=>fun ts=> .look fun _=> .ite (fun _=> .bind .take fun t _ _=> .bind (h.prm hd _) fun y hy=>LOk.sumGo f _ (by
  have h1:okX d (Ak 16 t (bs [43]) [x,y]):=by
   unfold Ak;rw[okX,if_neg (by decide),if_neg (by decide),if_neg (by decide),if_neg (by decide),if_neg (by decide),if_neg (by decide),if_pos rfl,show(bs [43]).data.toList=[43] from rfl,if_neg (show ¬([43]:List UInt8)=notW by decide),if_neg (show ¬([43]:List UInt8)=notW by decide),G4,G4,G4];refine⟨⟨by decide,rfl⟩,?_,?_,trivial⟩
   ·have h2:=hx;unfold SumQ at h2;unfold Cp;rw[if_neg (show ¬([43]:List UInt8)=notW by decide)]
    simpa using h2
   ·have h2:=hy;unfold PrmQ at h2;unfold Cp;rw[if_neg (show ¬([43]:List UInt8)=notW by decide)]
    simpa using h2
  unfold SumQ;rw[if_neg (by simp[F8,Ak,Nd.text])];exact h1)) fun _=> .pure hx
theorem LOk.sum:Pr D D (SumQ d) (pSum en L):=fun ts=> .bind (h.prm hd ts) fun x hx ts=>LOk.sumGo h hd _ x hx.sum ts
theorem LOk.exp:Pr D D (okX d) (De en L):=fun ts=> .bind (h.sum hd ts) fun x hx ts=> .look fun ht=> .ite (fun hc=> .bind .take fun t htk _=> .bind (h.sum hd _) fun y hy _=> .pure (by
 have ho:t.text.data.toList∈[[61,61],[33,61],[105,110]]:=by
  rw[htk.2.2];unfold A0 A7 at hc;simp only[Bool.or_eq_true,bAt,beq_iff_eq] at hc;rcases hc with (hc|hc)|hc
  ·rw[hc.2];simp
  ·rw[hc.2];simp
  ·rw[hc.2];simp
 have hn:t.text.data.toList≠notW:=(by rintro e;rw[e] at ho;exact absurd ho (by decide));have hp:t.text.data.toList≠[43]:=(by rintro e;rw[e] at ho;exact absurd ho (by decide));have hq:∀(i:Nat) (x:Nd),SumQ d x->if Cp t.text.data.toList i x=true then 1<=d/\okX (d - 1) x else okX d x:=fun i x hx=>by
  unfold SumQ at hx;unfold Cp;rw[if_neg hn,show(t.text.data.toList==[43])=false by simpa using hp,Bool.and_false,Bool.or_false];exact hx
 unfold Ak;rw[okX,if_neg (by decide),if_neg (by decide),if_neg (by decide),if_neg (by decide),if_neg (by decide),if_neg (by decide),if_pos rfl,if_neg hn,if_neg hn,G4,G4,G4];refine⟨⟨?_,rfl⟩,hq 0 x hx,hq 1 y hy,trivial⟩;unfold opsL;simp only[List.mem_cons,List.not_mem_nil,or_false] at ho |-;rcases ho with e|e|e<;>simp[e])) fun _=> .pure hx.ok
theorem LOk.stmtsGo{cl:List UInt8}:∀(f:Nat) (acc:List Nd),F9 d acc->Pr D D (F9 d) (Ck en L cl f acc)
 | 0,_,_=>fun _ _=>trivial
 | f+1,acc,ha=>fun ts=> .look fun _=> .ite (fun _=> .bind (h.stmt D d hd _) fun x hx=>LOk.stmtsGo f (acc++[x]) (Tw ha (by rw[F9,F9];exact⟨hx,trivial⟩))) fun _=> .pure ha
theorem LOk.stmts{cl:List UInt8}:Pr D D (F9 d) (Cs en L cl):=fun ts=>LOk.stmtsGo h hd _ _ (by rw[F9];trivial) ts
theorem LOk.block:Pr D D (okB d) (B9 en L):=fun ts=> .look fun _=> .bind .open fun o ho _=> .bind (h.stmts (D:=D+1) (d:=d - 1) (by have:=ho.2.2.2;omega) _) fun l hl _=> .bind (Pr.close _) fun _ _ _=> .pure (by
 unfold Ak;rw[okB];exact⟨rfl,rfl,by have:=ho.2.2.2;omega,hl⟩)
theorem LOk.param:Pr D D (O5 d) (C7 en L):=fun ts=> .look fun ht=> .bind .take fun name hn _=> .bind (Pr.eat _) fun _ _ _=> .look fun _=> .bind .take fun t htk _=> .look fun _=> .ite
 (fun _=> .bind (Pr.eat _) fun _ _ _=> .bind (h.exp hd _) fun x hx _=> .pure (by
  have h1:=Gp ht hn.2.1;rw[<-hn.2.2] at h1;have h2:=htk.2.1;rw[<-htk.2.2,bAt] at h2;exact⟨rfl,h1,rfl,h2.2,rfl,hx⟩))
 fun _=> .pure (by
  have h1:=Gp ht hn.2.1;rw[<-hn.2.2] at h1;have h2:=htk.2.1;rw[<-htk.2.2,bAt] at h2;exact⟨rfl,h1,rfl,h2.2,rfl⟩)
theorem LOk.rule:Pr D D (okS d) (pRule en L):=fun ts=> .bind .take fun t _ ts=> .look fun ht=> .bind .take fun name hn _=> .bind (Pr.eat _) fun _ _ _=>
 PrA.bind (Q:=fun l=>∀p∈l,O5 d p) (Pr.list (fun a b ha hb p hp=>(List.mem_append.1 hp).elim (ha p) (hb p)) (fun p hp=>by cases hp) (fun _=> .bind (h.param hd _) fun x hx _=> .pure (fun p hp=>by rw[List.mem_singleton.1 hp];exact hx)) _) fun kids hk _=> .bind (Pr.eat _) fun _ _ _=> .bind (h.block hd _) fun b hb _=> .pure (by
  have h1:=Gp ht hn.2.1;rw[<-hn.2.2] at h1;unfold Ak;rw[okS,if_neg (by decide),if_neg (by decide),if_neg (by decide),if_neg (by decide),if_pos rfl,List.dropLast_concat];exact⟨h1,hk,Tx hb kids⟩)
theorem LOk.stm:Pr D D (okS d) (pStmt en L):=fun ts=> .look fun ht=> .ite
 (fun _=> .bind .take fun _ _ ts2=> .look fun ht2=> .bind .take fun name hn _=> .look fun _=> .bind .take fun _ _ _=> .bind (h.exp hd _) fun x hx _=> .bind (h.block hd _) fun b hb _=> .pure (by
  have h1:=Gp ht2 hn.2.1;rw[<-hn.2.2] at h1;unfold Ak;rw[okS,if_neg (by decide),if_neg (by decide),if_pos rfl,D6,D6,D6,if_pos rfl,if_neg (by decide)];exact⟨h1,rfl,hx,hb,trivial⟩)) fun _=> .ite
 (fun _=> .bind .take fun _ _ _=> .bind (h.exp hd _) fun x hx _=> .bind (h.block hd _) fun b hb _=> .look fun _=> .ite
  (fun _=> .bind .take fun _ _ _=> .bind (h.block hd _) fun c hc _=> .pure (by
   unfold Ak;rw[okS,if_neg (by decide),if_neg (by decide),if_neg (by decide),if_pos rfl,D6,D6,D6,D6,if_pos rfl,if_neg (by decide),if_neg (by decide)];exact⟨rfl,.inr rfl,hx,hb,hc,trivial⟩))
  fun _=> .pure (by
   unfold Ak;rw[okS,if_neg (by decide),if_neg (by decide),if_neg (by decide),if_pos rfl,D6,D6,D6,if_pos rfl,if_neg (by decide)];exact⟨rfl,.inl rfl,hx,hb,trivial⟩)) fun _=> .ite
 (fun _=>h.rule hd ts) fun _=> .ite
 (fun _=> .bind (h.call hd ts) fun c hc _=> .bind (Pr.eat _) fun _ _ _=> .pure (by
  unfold Ak;rw[okS,if_neg (by decide),if_pos rfl,D7,D7];exact⟨rfl,rfl,fun x hx=>by rw[List.mem_singleton.1 hx];exact hc.2,hc.1,trivial⟩))
 fun _=> .bind .take fun name hn _=> .bind (Pr.eat _) fun _ _ _=> .bind (h.exp hd _) fun x hx _=> .bind (Pr.eat _) fun _ _ _=> .pure (by
  have h1:=Gp ht hn.2.1;rw[<-hn.2.2] at h1;unfold Ak;rw[okS,if_pos rfl,D7,D7];exact⟨h1,rfl,hx,trivial⟩)
end
theorem lvl_okd:∀f,LOk en (lvl en f)
 | 0=>⟨fun _ _ _ _ _=>trivial,fun _ _ _ _ _=>trivial,fun _ _ _ _ _=>trivial⟩
 | f+1=>⟨fun _ _ hd=>(lvl_okd f).exp hd,fun _ _ hd=>(lvl_okd f).prm hd,fun _ _ hd=>(lvl_okd f).stm hd⟩
theorem Si{c}(h:Di c=true):Cd c=true:=by unfold Cd;rw[h];rfl
theorem badQ_not{c}(h:¬c<32)(h':¬c=127):Lh c=false:=by
 have h1:32<=c.toNat:=by
  rw[UInt8.lt_iff_toNat_lt] at h;exact Nat.le_of_not_lt h
 have h2:c.toNat≠127:=fun e=>h' (UInt8.toNat_inj.1 e);unfold Lh;rw[decide_eq_false_iff_not];omega
theorem O4{c l}(hc:Lh c=false)(h:Ki l):Ki (c::l):=fun x hx=>by
 rcases List.mem_cons.1 hx with rfl|hx
 ·exact hc
 ·exact h x hx
theorem quoted_ok:∀(m:Nat) (l:List UInt8),l.length<=m->∀r,Bt l=K r->Ki r.1
 | _,[],_,r,h=>by rw[Bt] at h;cases h
 | 0,c::t,hm,_,_=>absurd hm (by simp)
 | m+1,c::t,hm,r,h=>by
  rw[lnC] at hm;rw[Bt.eq_def] at h;simp only at h
  ·split at h
   ·cases h;exact fun x hx=>(by cases hx)
   ·split at h
    ·cases h
    ·rename_i h34 hbad
     split at h
     ·cases t with
      | nil=>cases h
      | cons d t'=>
       rw[lnC] at hm;simp only at h;obtain⟨e,he,h⟩:=Option.bind_eq_some_iff.1 h;obtain⟨q,hq,rfl⟩:=Option.map_eq_some_iff.1 h;refine O4 ?_ (quoted_ok m t' (by omega) q hq);unfold Fo at he;split at he
       ·cases he;decide
       ·split at he
        ·cases he;decide
        ·split at he
         ·cases he;decide
         ·cases he
     ·obtain⟨q,hq,rfl⟩:=Option.map_eq_some_iff.1 h;refine O4 ?_ (quoted_ok m t (by omega) q hq);rw[not_or] at hbad;exact badQ_not hbad.1 hbad.2
theorem nextL_w{l k s n}(h:Bz l = .ok (k,s,n))(a b):tokW ⟨k,⟨s.toArray⟩,a,b⟩:=by
 unfold Bz at h;cases l with
 | nil=>cases h
 | cons c t=>
  simp only at h;split at h
  ·cases h;exact⟨fun e=>absurd e (by show(0:Int)≠1;decide),fun e=>absurd e (by show(0:Int)≠2;decide),fun e=>absurd e (by show(0:Int)≠3;decide)⟩
  ·split at h
   ·cases h;exact⟨fun e=>absurd e (by show(0:Int)≠1;decide),fun e=>absurd e (by show(0:Int)≠2;decide),fun e=>absurd e (by show(0:Int)≠3;decide)⟩
   ·split at h
    ·rename_i hl
     cases h;refine⟨fun _=>⟨c,t.takeWhile Cd,List.takeWhile_cons_of_pos (Si hl),hl,fun x hx=>List.all_eq_true.1 List.all_takeWhile x hx⟩,fun e=>absurd e (by show(1:Int)≠2;decide),fun e=>absurd e (by show(1:Int)≠3;decide)⟩
    ·split at h
     ·rename_i hd
      have hk:=(nextL_ok (l:=c::t) (k:=k) (s:=s) (n:=n) (by unfold Bz;simp only[*,if_false,if_true,Bool.false_eq_true]));refine⟨fun e=>?_,fun e=>hk.2 e,fun e=>?_⟩
      ·unfold C9 at h;split at h
       ·cases h
       ·split at h
        ·cases h
        ·cases h;exact absurd e (by show(2:Int)≠1;decide)
      ·unfold C9 at h;split at h
       ·cases h
       ·split at h
        ·cases h
        ·cases h;exact absurd e (by show(2:Int)≠3;decide)
     ·split at h
      ·split at h
       ·rename_i r hr
        cases h;exact⟨fun e=>absurd e (by show(3:Int)≠1;decide),fun e=>absurd e (by show(3:Int)≠2;decide),fun _=>quoted_ok _ t (nlr _) r hr⟩
       ·cases h
      ·split at h
       ·cases h;exact⟨fun e=>absurd e (by show(4:Int)≠1;decide),fun e=>absurd e (by show(4:Int)≠2;decide),fun e=>absurd e (by show(4:Int)≠3;decide)⟩
       ·split at h
        ·cases h;exact⟨fun e=>absurd e (by show(4:Int)≠1;decide),fun e=>absurd e (by show(4:Int)≠2;decide),fun e=>absurd e (by show(4:Int)≠3;decide)⟩
        ·cases h
theorem tokensL_w:∀(f:Nat) (p:Int×Int) (l:List UInt8) (ts:List Tok),Bu f p l = .ok ts->TokW ts
 | 0,p,l,ts,h=>by cases h;exact fun x hx=>by cases hx
 | f+1,p,l,ts,h=>by
  rw[Bu] at h;split at h
  ·cases h;exact fun x hx=>(by cases hx)
  ·split at h
   ·cases h
   ·next k s n hn=>
    split at h
    ·cases h
    ·next ts' hts=>
     have h1:=tokensL_w f (passL p (l.take n)) (l.drop n) ts' hts;cases h;by_cases hk:0<k
     ·rw[if_pos hk];intro x hx;rcases List.mem_cons.1 hx with rfl|hx
      ·exact nextL_w hn _ _
      ·exact h1 x hx
     ·rw[if_neg hk];exact h1
theorem read_okd{l n}(h:readL l=K (.ok n)):∃kids,n = .mk 1 ⟨#[]⟩ 1 1 kids/\F9 60 kids:=by
 unfold readL at h;cases hl:G1 l with
 | error e=>rw[hl] at h;cases h
 | ok ts=>
  rw[hl] at h;simp only at h;have hw:TokW ts:=by
   unfold G1 at hl;split at hl
   ·cases hl
   ·exact tokensL_w _ _ _ _ hl
  have hg:=(lvl_okd (en:=G8 l) (ts.length+2)).stmts (D:=0) (d:=60) (by decide) (cl:=[]) ts hw;cases hm:Cs (G8 l) (lvl (G8 l) (ts.length+2)) [] ts 0 with
  | err a b c=>rw[hm] at h;cases h
  | out=>rw[hm] at h;cases h
  | ok x t1 d1=>
   rw[hm] at h hg;cases h;exact⟨x,rfl,hg.2.2⟩
def cK(t:Tok):Nat:=2*t.text.data.toList.length+63
def cT(ts:List Tok):Nat:=(ts.map cK).sum
theorem cT_cons(t ts):cT (t::ts)=cK t+cT ts:=rfl
def Cz(x:List Pc):Nat:=(Aq x).length
theorem Bn(a b):Cz (a++b)=Cz a+Cz b:=by unfold Cz;rw[Bk,lnA]
theorem Bi(p b):Cz (p::b)=p.raw.length+Cz b:=by unfold Cz;rw[Aq,List.flatMap_cons,lnA];rfl
theorem lenP_nil:Cz []=0:=rfl
section
variable {en:Int×Int} {α β:Type}
def WtA(Q:Nat->α->Prop)(m:PM α)(ts:List Tok):Prop:=∀d,match m ts d with
 | .ok x ts' _=>∃k,cT ts=k+cT ts'/\Q k x
 | _=>True
def Wt(Q:Nat->α->Prop)(m:PM α):Prop:=∀ts,WtA Q m ts
variable {Q:Nat->α->Prop} {R:Nat->β->Prop} {m:PM α} {ts:List Tok}
theorem WtA.pure{x:α}(h:Q 0 x):WtA Q (PM.pure x) ts:=fun _=>⟨0,by rw[Nat.zero_add],h⟩
theorem WtA.bind{f:α->PM β}(h1:WtA Q m ts)(h2:∀x k,Q k x->Wt (fun j y=>R (k+j) y) (f x)):WtA R (PM.bind m f) ts:=by
 intro d;have g1:=h1 d;unfold PM.bind;cases hm:m ts d with
 | err a b c=>exact trivial
 | out=>exact trivial
 | ok x t1 d1=>
  rw[hm] at g1;obtain⟨k,e1,e2⟩:=g1;have g2:=h2 x k e2 t1 d1;show match f x t1 d1 with | .ok x ts' _=>_|_=>_;cases hf:f x t1 d1 with
  | err a b c=>exact trivial
  | out=>exact trivial
  | ok y t2 d2=>
   rw[hf] at g2;obtain⟨j,e3,e4⟩:=g2;exact⟨k+j,by omega,e4⟩
theorem WtA.look{f:List Tok->PM α}(h:WtA Q (f ts) ts):WtA Q (pLook f) ts:=fun d=>h d
theorem WtA.ite{c:Prop}[Decidable c]{m m':PM α}(h1:c->WtA Q m ts)(h2:¬c->WtA Q m' ts):WtA Q (if c then m else m') ts:=by
 by_cases h:c
 ·rw[if_pos h];exact h1 h
 ·rw[if_neg h];exact h2 h
theorem WtA.mono{Q':Nat->α->Prop}(h:WtA Q m ts)(hq:∀k x,Q k x->Q' k x):WtA Q' m ts:=by
 intro d;have g:=h d;cases hm:m ts d with
 | err a b c=>exact trivial
 | out=>exact trivial
 | ok x t1 d1=>
  rw[hm] at g;obtain⟨k,e1,e2⟩:=g;exact⟨k,e1,hq _ _ e2⟩
theorem WtA.take{b:Bool}:WtA (fun k t=>k=cK t/\t=A1 en ts 0) (A4 en b) ts:=by
 intro d;unfold A4;cases b with
 | false=>exact trivial
 | true=>
  cases ts with
  | nil=>exact trivial
  | cons t r=>exact⟨cK t,rfl,rfl,rfl⟩
theorem WtA.open{b:Bool}:WtA (fun k t=>k=cK t/\t=A1 en ts 0) (Dd en b) ts:=by
 intro d;unfold Dd;by_cases h:(b&&decide (60<=d))=true
 ·rw[if_pos h];exact trivial
 ·rw[if_neg h];exact WtA.take (en:=en) (b:=b) (ts:=ts) (d+1)
theorem Wt.down:Wt (fun k (_:Unit)=>k=0) pDown:=fun ts d=>⟨0,by rw[Nat.zero_add],rfl⟩
theorem Wt.eat{s:List UInt8}:Wt (fun k (_:Unit)=>63<=k) (C6 en s):=fun ts d=>(WtA.bind (WtA.take (en:=en)) (fun t k hk _=>WtA.pure (by show 63<=k+0;have:=hk.1;unfold cK at this;omega)):WtA (fun k (_:Unit)=>63<=k) (PM.bind (A4 en (A0 en ts 0 s)) fun _=>PM.pure ()) ts) d
theorem Wt.close{s:List UInt8}:Wt (fun k (_:Unit)=>63<=k) (Dh en s):=fun _=>WtA.bind (Wt.eat _) fun _ k hk _=>(Wt.down _).mono fun j _ hj=>by omega
theorem Wt.listGo{cl:List UInt8}{one:PM (List Nd)}{V:List Nd->Nat}(hv:∀a b,V (a++b)=V a+V b)(h:Wt (fun k l=>V l<=k) one):∀(f:Nat) (acc:List Nd),Wt (fun k l=>V l<=V acc+k) (Ce en cl one f acc)
 | 0,_=>fun _ _=>trivial
 | f+1,acc=>fun _=> .look (.ite (fun _=> .pure (by omega)) fun _=>WtA.bind (Q:=fun _ (_:Unit)=>True) (.ite (fun _=> .pure trivial) fun _=>(Wt.eat _).mono fun _ _ _=>trivial) fun _ i _ _=> .bind (h _) fun l k hl _=>(Wt.listGo hv h f (acc++l) _).mono fun j x hx=>by rw[hv] at hx;omega)
theorem Wt.list{cl:List UInt8}{one:PM (List Nd)}{V:List Nd->Nat}(hv:∀a b,V (a++b)=V a+V b)(h0:V []=0)(h:Wt (fun k l=>V l<=k) one):Wt (fun k l=>V l<=k) (Cx en cl one):=fun ts=>(Wt.listGo hv h _ [] ts).mono fun k x hx=>by omega
end
variable {en:Int×Int}
def vE(n:Nd):Nat:=Cz (exP n)+4
def vEs:List Nd->Nat
 | []=>0
 | x::r=>vE x+vEs r
theorem Yx(a b):vEs (a++b)=vEs a+vEs b:=by
 induction a with
 | nil=>simp[vEs]
 | cons x r ih=>rw[List.cons_append,vEs,vEs,ih];omega
theorem Je(sep)(hs:∀i,Cz (sep i)<=2):∀(l:List (List Pc)) (i:Nat),Cz (A9 sep i l)<=(l.map fun x=>Cz x+2).sum
 | [],_=>nlz _
 | x::r,i=>by
  have h1:=Je sep hs r (i+1);have h2:=hs i;rw[A9,Bn,Bn,List.map_cons,List.sum_cons];omega
theorem lenC(i):Cz (Ek i)<=2:=by
 unfold Ek;split
 ·exact nlz _
 ·exact nlr _
theorem lenD(i):Cz (Ga i)<=2:=by
 unfold Ga;split
 ·exact nlz _
 ·split<;>exact nlr _
theorem sum_vE(l):((exPs l).map fun x=>Cz x+2).sum<=vEs l:=by
 induction l with
 | nil=>exact nlr _
 | cons x r ih=>rw[exPs,List.map_cons,List.sum_cons,vEs];unfold vE;omega
def vA(n:Nd):Nat:=Cz (arP n)+4
def vAs:List Nd->Nat
 | []=>0
 | x::r=>vA x+vAs r
theorem vAs_app(a b):vAs (a++b)=vAs a+vAs b:=by
 induction a with
 | nil=>simp[vAs]
 | cons x r ih=>rw[List.cons_append,vAs,vAs,ih];omega
theorem sum_vA(l):((arPs l).map fun x=>Cz x+2).sum<=vAs l:=by
 induction l with
 | nil=>exact nlr _
 | cons x r ih=>rw[arPs,List.map_cons,List.sum_cons,vAs];unfold vA;omega
theorem Rz(l):(quoteL l).length<=2*l.length+2:=by
 unfold quoteL;split
 ·exact nlz _
 ·rw[lnA,lnC,List.length_singleton];have:=esc_len l;omega
theorem Ms(b x):Cz (brk b x)<=Cz x+2:=by
 unfold brk;split
 ·rw[Bi,Bn];show 1+(Cz x+1)<=_;omega
 ·omega
structure LWt(en:Int×Int)(L:Lvl):Prop where
 expr:Wt (fun k n=>vE n<=k) L.expr
 prim:Wt (fun k n=>vE n<=k) L.prim
section
variable {L:Lvl} (h:LWt en L)
include h
theorem LWt.arg:Wt (fun k n=>vA n<=k) (pArg en L):=fun ts=> .look (.ite
 (fun _=> .bind .take fun t k hk _=> .bind (Wt.eat _) fun _ j hj _=> .bind (h.expr _) fun x i hx _=> .pure (by
  show vA (Ak 15 (A1 en ts 0) (A1 en ts 0).text [x])<=k+(j+(i+0));have h1:=hk.1;rw[hk.2] at h1;unfold cK at h1;unfold vA Ak;rw[arP,fiP,Bn];unfold vE at hx;have h2:Cz (nameP (A1 en ts 0).text.data.toList)<=(A1 en ts 0).text.data.toList.length+3:=by
   unfold nameP;split
   ·exact nlz _
   ·rw[Bi];exact nlr _
  omega))
 fun _=> .bind (h.expr _) fun x i hx _=> .pure (by
  show vA (Ak 15 (A1 en ts 0) ⟨#[]⟩ [x])<=i+0;unfold vA Ak;rw[arP,fiP,Bn,show nameP (⟨#[]⟩:ByteArray).data.toList=[] from rfl,lenP_nil];unfold vE at hx;omega))
theorem LWt.call:Wt (fun k n=>vE n+63<=k) (pCall en L):=fun ts=> .look (.bind .take fun name k hk _=> .look (.bind .open fun o j hj _=> .bind
 (Wt.list vAs_app rfl (fun _=> .bind (h.arg _) fun x i hx _=> .pure (by show vAs [x]<=i+0;rw[vAs,vAs];omega)) _) fun kids i hi _=> .bind (Wt.close _) fun _ q hq _=> .pure (by
  show vE (Ak 14 name name.text kids)+63<=k+(j+(i+(q+0)));have h1:=hk.1;have h2:=hj.1;unfold cK at h1 h2;unfold vE Ak;rw[exP,if_neg (by decide),if_neg (by decide),if_neg (by decide),if_pos rfl,Bi,Bi,Bn];have h3:=Je Ek lenC (arPs kids) 0;have h4:=sum_vA kids;show name.text.data.toList.length+(1+(Cz (A9 Ek 0 (arPs kids))+1))+4+63<=_;omega)))
theorem LWt.entry:Wt (fun k l=>vEs l<=k) (pEntry en L):=fun ts=> .look (.bind .take fun t k hk _=> .bind (Wt.eat _) fun _ j hj _=> .bind (h.expr _) fun x i hx _=> .pure (by
 show vEs [Ak 11 t t.text [],x]<=k+(j+(i+0));have h1:=hk.1;unfold cK at h1;rw[vEs,vEs,vEs];have h2:vE (Ak 11 t t.text [])<=2*t.text.data.toList.length+2+4:=by
  unfold vE Ak;rw[exP,if_pos rfl,Bi];have:=Rz t.text.data.toList;show(quoteL t.text.data.toList).length+0+4<=_;omega
 omega))
end
variable {en:Int×Int}
theorem len_sepO(t i):Cz (Gv t i)<=t.length+2:=by
 unfold Gv opK;split
 ·exact nlz _
 ·split
  ·rw[Bi,Bi,Bi];show 1+(t.length+(1+0))<=_;omega
  ·rw[Bi,Bi,Bi];show 1+(t.length+(1+0))<=_;omega
theorem Yy(t a b x y):Cz (exP (.mk 16 t a b [x,y]))<=Cz (exP x)+Cz (exP y)+2*t.data.toList.length+10:=by
 rw[exP,if_neg (by decide),if_neg (by decide),if_neg (by decide),if_neg (by decide),if_pos rfl];split
 ·rw[Bi,Bi,onP];have:=Ms (F3 x) (exP x);show 3+(1+_)<=_;omega
 ·rw[opPs,opPs,opPs,A9,A9,A9,Bn,Bn,Bn,Bn,lenP_nil];have h1:=Ms (Cp t.data.toList 0 x) (exP x);have h2:=Ms (Cp t.data.toList (0+1) y) (exP y);have h3:=len_sepO t.data.toList (0+1);have h4:Cz (Gv t.data.toList 0)=0:=rfl;omega
theorem len_op1(t a b x):Cz (exP (.mk 16 t a b [x]))<=Cz (exP x)+10:=by
 rw[exP,if_neg (by decide),if_neg (by decide),if_neg (by decide),if_neg (by decide),if_pos rfl];split
 ·rw[Bi,Bi,onP];have:=Ms (F3 x) (exP x);show 3+(1+_)<=_;omega
 ·rw[opPs,opPs,A9,A9,Bn,Bn,lenP_nil];have h1:=Ms (Cp t.data.toList 0 x) (exP x);have h4:Cz (Gv t.data.toList 0)=0:=rfl;omega
section
variable {L:Lvl} (h:LWt en L)
include h
theorem LWt.prm:Wt (fun k n=>vE n<=k) (pPrim en L):=fun ts=> .look (.ite
 (fun hk3=> .bind .take fun t k hk _=> .pure (by
  show vE (Ak 11 (A1 en ts 0) (A1 en ts 0).text [])<=k+0;have h1:=hk.1;rw[hk.2] at h1;unfold cK at h1;unfold vE Ak;rw[exP,if_pos rfl,Bi,lenP_nil];have:=Rz (A1 en ts 0).text.data.toList;show(quoteL (A1 en ts 0).text.data.toList).length+0+4<=_;omega)) fun _=> .ite
 (fun _=> .bind .take fun t k hk _=> .pure (by
  show vE (Ak 10 (A1 en ts 0) (A1 en ts 0).text [])<=k+0;have h1:=hk.1;rw[hk.2] at h1;unfold cK at h1;unfold vE Ak;rw[exP,if_neg (by decide),if_neg (by decide),if_neg (by decide),if_neg (by decide),if_neg (by decide),Bi,lenP_nil];show(A1 en ts 0).text.data.toList.length+0+4<=_;omega)) fun _=> .ite
 (fun _=>(h.call ts).mono fun k x hx=>by omega) fun _=> .ite
 (fun _=> .bind .take fun t k hk _=> .pure (by
  show vE (Ak 9 (A1 en ts 0) (A1 en ts 0).text [])<=k+0;have h1:=hk.1;rw[hk.2] at h1;unfold cK at h1;unfold vE Ak;rw[exP,if_neg (by decide),if_neg (by decide),if_neg (by decide),if_neg (by decide),if_neg (by decide),Bi,lenP_nil];show(A1 en ts 0).text.data.toList.length+0+4<=_;omega)) fun _=> .ite
 (fun _=> .bind .open fun o k hk _=> .bind (h.prim _) fun x j hx _=> .bind (Wt.down _) fun _ i hi _=> .pure (by
  show vE (Ak 16 (A1 en ts 0) (bs [110,111,116]) [x])<=k+(j+(i+0));have h1:=hk.1;unfold cK at h1;unfold vE Ak;unfold vE at hx;have:=len_op1 (bs [110,111,116]) (A1 en ts 0).line (A1 en ts 0).col x;omega)) fun _=> .ite
 (fun _=> .bind .open fun o k hk _=> .bind (Wt.list Yx rfl (fun _=> .bind (h.expr _) fun x i hx _=> .pure (by show vEs [x]<=i+0;rw[vEs,vEs];omega)) _) fun kids j hj _=> .bind (Wt.close _) fun _ i hi _=> .pure (by
  show vE (Ak 12 (A1 en ts 0) ⟨#[]⟩ kids)<=k+(j+(i+0));unfold vE Ak;rw[exP,if_neg (by decide),if_pos rfl,Bi,Bn];have h3:=Je Ek lenC (exPs kids) 0;have h4:=sum_vE kids;show 1+(Cz (A9 Ek 0 (exPs kids))+1)+4<=_;omega)) fun _=> .ite
 (fun _=> .bind .open fun o k hk _=> .bind (Wt.list Yx rfl h.entry _) fun kids j hj _=> .bind (Wt.close _) fun _ i hi _=> .pure (by
  show vE (Ak 13 (A1 en ts 0) ⟨#[]⟩ kids)<=k+(j+(i+0));unfold vE Ak;rw[exP,if_neg (by decide),if_neg (by decide),if_pos rfl,Bi,Bn];have h3:=Je Ga lenD (exPs kids) 0;have h4:=sum_vE kids;show 1+(Cz (A9 Ga 0 (exPs kids))+1)+4<=_;omega)) fun _=>
 .bind .open fun o k hk _=> .bind (h.expr _) fun x j hx _=> .bind (Wt.close _) fun _ i hi _=> .pure (by show vE x<=k+(j+(i+0));omega))
theorem LWt.sumGo:∀(f:Nat) (x:Nd),Wt (fun k n=>vE n<=vE x+k) (pSumGo en L f x)
 | 0,_=>fun _ _=>trivial
 | f+1,x=>fun ts=> .look (.ite (fun _=> .bind .take fun t k hk _=> .bind (h.prm _) fun y j hy _=>(LWt.sumGo f (Ak 16 t (bs [43]) [x,y]) _).mono fun i n hn=>by
  have h1:=hk.1;unfold cK at h1;have h2:=Yy (bs [43]) t.line t.col x y;have h3:(bs [43]).data.toList.length=1:=rfl;have h4:vE (Ak 16 t (bs [43]) [x,y])=Cz (exP (.mk 16 (bs [43]) t.line t.col [x,y]))+4:=rfl;unfold vE at *;omega) fun _=> .pure (by show vE x<=vE x+0;omega))
theorem LWt.sum:Wt (fun k n=>vE n<=k) (pSum en L):=fun ts=> .bind (h.prm ts) fun x k hx ts d=>(((LWt.sumGo h _ x ts).mono fun j n hn=>by omega):WtA (fun j n=>vE n<=k+j) (pSumGo en L (ts.length+1) x) ts) d
theorem LWt.exp:Wt (fun k n=>vE n<=k) (De en L):=fun ts=> .bind (h.sum ts) fun x k hx ts=> .look (.ite (fun _=> .bind .take fun t i hi _=> .bind (h.sum _) fun y j hy _=> .pure (by
 show vE (Ak 16 t t.text [x,y])<=k+(i+(j+0));have h1:=hi.1;unfold cK at h1;have h2:=Yy t.text t.line t.col x y;unfold vE Ak;unfold vE at hx hy;omega)) fun _=> .pure (by show vE x<=k+0;omega))
end
def vP(n:Nd):Nat:=Cz (paP n)+4
def vPs:List Nd->Nat
 | []=>0
 | x::r=>vP x+vPs r
theorem vPs_app(a b):vPs (a++b)=vPs a+vPs b:=by
 induction a with
 | nil=>simp[vPs]
 | cons x r ih=>rw[List.cons_append,vPs,vPs,ih];omega
theorem sum_vP(l):((l.map paP).map fun x=>Cz x+2).sum<=vPs l:=by
 induction l with
 | nil=>exact nlr _
 | cons x r ih=>rw[List.map_cons,List.map_cons,List.sum_cons,vPs];unfold vP;omega
mutual
def wS:Nd->Nat
 | .mk k t a b l=>
  if k=2 then Cz (arP (.mk k t a b l))+63
  else if k=3 then Cz (fiP l)+63
  else if k=4 then t.data.toList.length+9+Cz (fiP l)+wLa l+62
  else if k=5 then 4+Cz (fiP l)+wIf 0 l+62
  else if k=6 then t.data.toList.length+8+vPs l.dropLast+wLa l+62
  else 62
def wLa:List Nd->Nat
 | []=>0
 | [x]=>wB x
 | _::r=>wLa r
def wIf:Nat->List Nd->Nat
 | _,[]=>0
 | i,x::r=>(if i=0 then 0 else wB x+6)+wIf (i+1) r
def wB:Nd->Nat
 | .mk _ _ _ _ l=>63+wSs l
def wSs:List Nd->Nat
 | []=>0
 | x::r=>wS x+wSs r
end
theorem wSs_app(a b):wSs (a++b)=wSs a+wSs b:=by
 induction a with
 | nil=>simp[wSs]
 | cons x r ih=>rw[List.cons_append,wSs,wSs,ih];omega
theorem wLa_snoc:∀(ps:List Nd) (b:Nd),wLa (ps++[b])=wB b
 | [],b=>by rw[List.nil_append,wLa]
 | [x],b=>by rw[List.singleton_append,wLa,wLa];simp
 | x::y::r,b=>by
  rw[List.cons_append,wLa]
  ·exact wLa_snoc (y::r) b
  ·simp
mutual
theorem len_st(d:Nat):∀(n:Nd) (dd:Nat),okS dd n->d+dd<=60->Cz (stP d n)+d+1<=wS n
 | .mk k t a b l,dd,h,hd=>by
  rw[okS] at h;rw[stP,wS];by_cases h2:k=2
  ·rw[if_pos h2,if_pos h2,Bn];show _+(1+0)+d+1<=_;omega
  rw[if_neg h2] at h |-;rw[if_neg h2];by_cases h3:k=3
  ·rw[if_pos h3,if_pos h3,Bn];show _+(1+0)+d+1<=_;omega
  rw[if_neg h3] at h |-;rw[if_neg h3];by_cases h4:k=4
  ·rw[if_pos h4] at h |-;rw[if_pos h4]
   match l,h with
   | [x,y],h=>
    have hi:=h.2.2;rw[D6,D6,if_pos rfl,if_neg (by omega)] at hi;have hb:=Xv d y dd hi.2.1 hd;rw[Bn,Bn,Bi sp (laP d [x,y]),show laP d [x,y]=blP d y from I4 d [x] y,show wLa [x,y]=wB y from wLa_snoc [x] y];have h9:Cz [pW forW,sp,pW t.data.toList,sp,pW inW,sp]=t.data.toList.length+8:=by
     simp[Cz,Aq,pW,sp,Pc.raw,forW,inW]<;>omega
    have h8:sp.raw.length=1:=rfl;omega
  rw[if_neg h4] at h |-;rw[if_neg h4];by_cases h5:k=5
  ·rw[if_pos h5] at h |-;rw[if_pos h5];have hb:=len_if d 0 l dd h.2.2 hd;rw[Bn,Bn,Bi sp (ifP d 0 l)];have h9:Cz [pW ifW,sp]=3:=rfl;have h8:sp.raw.length=1:=rfl;omega
  rw[if_neg h5] at h |-;rw[if_neg h5];by_cases h6:k=6
  ·rw[if_pos h6] at h |-;rw[if_pos h6];have hla:=h.2.2;have hb:=len_la d l dd hla hd;rw[Bn,Bn,Bn];have h3:=Je Ek lenC (l.dropLast.map paP) 0;have h4:=sum_vP l.dropLast;have h9:Cz [pW ruleW,sp,pW t.data.toList,pS 40]=t.data.toList.length+6:=by
    simp[Cz,Aq,pW,pS,sp,Pc.raw,ruleW]<;>omega
   have h8:Cz [pS 41,sp]=2:=rfl;omega
  ·rw[if_neg h6] at h;exact h.elim
theorem len_la(d:Nat):∀(l:List Nd) (dd:Nat),okLa dd l->d+dd<=60->Cz (laP d l)<=wLa l
 | [],_,h,_=>by rw[okLa] at h;exact h.elim
 | [x],dd,h,hd=>by rw[okLa] at h;rw[laP,wLa];exact Xv d x dd h hd
 | x::y::r,dd,h,hd=>by
  have h1:okLa dd (y::r):=by
   rw[okLa] at h
   ·exact h
   ·simp
  have h2:laP d (x::y::r)=laP d (y::r):=(by rw[laP];simp);have h3:wLa (x::y::r)=wLa (y::r):=(by rw[wLa];simp);rw[h2,h3];exact len_la d (y::r) dd h1 hd
theorem len_if(d:Nat):∀(i:Nat) (l:List Nd) (dd:Nat),D6 dd i l->d+dd<=60->Cz (ifP d i l)<=wIf i l
 | _,[],_,_,_=>nlz _
 | i,x::r,dd,h,hd=>by
  rw[D6] at h;have h1:=len_if d (i+1) r dd h.2 hd;rw[ifP,wIf,Bn];by_cases h0:i=0
  ·rw[if_pos h0,if_pos h0,lenP_nil];omega
  ·have h2:=h.1;rw[if_neg h0] at h2;have h3:=Xv d x dd h2 hd;rw[if_neg h0,if_neg h0];split
   ·omega
   ·rw[Bn];have h9:Cz [sp,pW elseW,sp]=6:=rfl;omega
theorem Xv(d:Nat):∀(n:Nd) (dd:Nat),okB dd n->d+dd<=60->Cz (blP d n)<=wB n
 | .mk k t a b l,dd,h,hd=>by
  rw[okB] at h;have h1:=S9 (d+1) l (dd - 1) h.2.2.2 (by omega);rw[blP,wB,Bi,Bi,Bn,Bi,Bi,lenP_nil];have e1:(pS 123).raw.length=1:=rfl;have e2:nl.raw.length=1:=rfl;have e3:(tabP d).raw.length=d:=(by show(List.replicate d (9:UInt8)).length=d;rw[List.length_replicate]);have e4:(pS 125).raw.length=1:=rfl;have:=h.2.2.1;omega
theorem S9(d:Nat):∀(l:List Nd) (dd:Nat),F9 dd l->d+dd<=60->Cz (Dy d l)<=wSs l
 | [],_,_,_=>nlz _
 | x::r,dd,h,hd=>by
  rw[F9] at h;have h1:=len_st d x dd h.1 hd;have h2:=S9 d r dd h.2 hd;rw[Dy,wSs,Bi,Bn,Bi];have e2:nl.raw.length=1:=rfl;have e3:(tabP d).raw.length=d:=(by show(List.replicate d (9:UInt8)).length=d;rw[List.length_replicate]);omega
end
structure LWs(en:Int×Int)(L:Lvl):Prop extends LWt en L where
 stmt:Wt (fun k n=>wS n<=k) L.stmt
section
variable {L:Lvl} (h:LWs en L)
include h
theorem LWs.stmtsGo{cl:List UInt8}:∀(f:Nat) (acc:List Nd),Wt (fun k l=>wSs l<=wSs acc+k) (Ck en L cl f acc)
 | 0,_=>fun _ _=>trivial
 | f+1,acc=>fun ts=> .look (.ite (fun _=> .bind (h.stmt _) fun x k hx _=>(LWs.stmtsGo f (acc++[x]) _).mono fun j l hl=>by rw[wSs_app,wSs,wSs] at hl;omega) fun _=> .pure (by show wSs acc<=wSs acc+0;omega))
theorem LWs.stmts{cl:List UInt8}:Wt (fun k l=>wSs l<=k) (Cs en L cl):=fun ts=>((LWs.stmtsGo h _ [] ts).mono fun k l hl=>by rw[wSs] at hl;omega:WtA (fun k l=>wSs l<=k) (Ck en L cl (ts.length+1) []) ts)
theorem LWs.block:Wt (fun k n=>wB n+63<=k) (B9 en L):=fun ts=> .look (.bind .open fun o k hk _=> .bind (h.stmts _) fun l j hl _=> .bind (Wt.close _) fun _ i hi _=> .pure (by
 show wB (Ak 8 o ⟨#[]⟩ l)+63<=k+(j+(i+0));have h1:=hk.1;unfold cK at h1;unfold Ak;rw[wB];omega))
theorem LWs.param:Wt (fun k n=>vP n<=k) (C7 en L):=fun ts=> .look (.bind .take fun name k hk _=> .bind (Wt.eat _) fun _ j hj _=> .look (.bind .take fun t i hi _=> .look (.ite
 (fun _=> .bind (Wt.eat _) fun _ q hq _=> .bind (h.toLWt.exp _) fun x p hx _=> .pure (by
  show vP (Ak 7 name name.text [Ak 9 t t.text [],x])<=k+(j+(i+(q+(p+0))));have h1:=hk.1;have h2:=hi.1;unfold cK at h1 h2;unfold vE at hx;unfold vP;have h9:paP (Ak 7 name name.text [Ak 9 t t.text [],x])=[pW name.text.data.toList,pS 58,sp,pW t.text.data.toList]++([sp,pS 61,sp]++exP x):=rfl;rw[h9,Bn,Bn];have e1:Cz [pW name.text.data.toList,pS 58,sp,pW t.text.data.toList]=name.text.data.toList.length+2+t.text.data.toList.length:=by
   simp[Cz,Aq,pW,pS,sp,Pc.raw]<;>omega
  have e2:Cz [sp,pS 61,sp]=3:=rfl;omega))
 fun _=> .pure (by
  show vP (Ak 7 name name.text [Ak 9 t t.text []])<=k+(j+(i+0));have h1:=hk.1;have h2:=hi.1;unfold cK at h1 h2;unfold vP;have h9:paP (Ak 7 name name.text [Ak 9 t t.text []])=[pW name.text.data.toList,pS 58,sp,pW t.text.data.toList]:=rfl;rw[h9];have e1:Cz [pW name.text.data.toList,pS 58,sp,pW t.text.data.toList]=name.text.data.toList.length+2+t.text.data.toList.length:=by
   simp[Cz,Aq,pW,pS,sp,Pc.raw]<;>omega
  omega))))
theorem LWs.rule:Wt (fun k n=>wS n<=k) (pRule en L):=fun ts=> .bind .take fun t k hk ts=> .look (.bind .take fun name j hj _=> .bind (Wt.eat _) fun _ i hi _=> .bind
 (Wt.list vPs_app rfl (fun _=> .bind (h.param _) fun x q hx _=> .pure (by show vPs [x]<=q+0;rw[vPs,vPs];omega)) _) fun kids q hq _=> .bind (Wt.eat _) fun _ p hp _=> .bind (h.block _) fun b r hb _=> .pure (by
  show wS (Ak 6 t name.text (kids++[b]))<=k+(j+(i+(q+(p+(r+0)))));have h1:=hk.1;have h2:=hj.1;unfold cK at h1 h2;unfold Ak;rw[wS,if_neg (by decide),if_neg (by decide),if_neg (by decide),if_neg (by decide),if_pos rfl,List.dropLast_concat,wLa_snoc];omega))
theorem LWs.stm:Wt (fun k n=>wS n<=k) (pStmt en L):=fun ts=> .look (.ite
 (fun _=> .bind .take fun _ k hk _=> .look (.bind .take fun name j hj _=> .look (.bind .take fun _ i hi _=> .bind (h.toLWt.exp _) fun x q hx _=> .bind (h.block _) fun b p hb _=> .pure (by
  show wS (Ak 4 (A1 en ts 0) name.text [x,b])<=k+(j+(i+(q+(p+0))));have h1:=hk.1;have h2:=hj.1;have h3:=hi.1;unfold cK at h1 h2 h3;unfold vE at hx;unfold Ak;rw[wS,if_neg (by decide),if_neg (by decide),if_pos rfl,fiP,show wLa [x,b]=wB b from wLa_snoc [x] b];omega)))) fun _=> .ite
 (fun _=> .bind .take fun _ k hk _=> .bind (h.toLWt.exp _) fun x j hx _=> .bind (h.block _) fun b i hb _=> .look (.ite
  (fun _=> .bind .take fun _ q hq _=> .bind (h.block _) fun c p hc _=> .pure (by
   show wS (Ak 5 (A1 en ts 0) ⟨#[]⟩ [x,b,c])<=k+(j+(i+(q+(p+0))));have h1:=hk.1;have h2:=hq.1;unfold cK at h1 h2;unfold vE at hx;unfold Ak;rw[wS,if_neg (by decide),if_neg (by decide),if_neg (by decide),if_pos rfl,fiP,wIf,wIf,wIf,wIf,if_pos rfl,if_neg (by omega),if_neg (by omega)];omega))
  fun _=> .pure (by
   show wS (Ak 5 (A1 en ts 0) ⟨#[]⟩ [x,b])<=k+(j+(i+0));have h1:=hk.1;unfold cK at h1;unfold vE at hx;unfold Ak;rw[wS,if_neg (by decide),if_neg (by decide),if_neg (by decide),if_pos rfl,fiP,wIf,wIf,wIf,if_pos rfl,if_neg (by omega)];omega))) fun _=> .ite
 (fun _=>h.rule ts) fun _=> .ite
 (fun _=> .bind (h.toLWt.call ts) fun c k hc _=> .bind (Wt.eat _) fun _ j hj _=> .pure (by
  show wS (Ak 3 (A1 en ts 0) ⟨#[]⟩ [c])<=k+(j+0);unfold vE at hc;unfold Ak;rw[wS,if_neg (by decide),if_pos rfl,fiP];omega))
 fun _=> .bind .take fun name k hk _=> .bind (Wt.eat _) fun _ j hj _=> .bind (h.toLWt.exp _) fun x i hx _=> .bind (Wt.eat _) fun _ q hq _=> .pure (by
  show wS (Ak 2 (A1 en ts 0) name.text [x])<=k+(j+(i+(q+0)));have h1:=hk.1;unfold cK at h1;unfold vE at hx;unfold Ak;rw[wS,if_pos rfl,arP,fiP,Bn];have h2:Cz (nameP name.text.data.toList)<=name.text.data.toList.length+3:=by
   unfold nameP;split
   ·exact nlz _
   ·rw[Bi];exact nlr _
  omega))
end
theorem lvl_ws:∀f,LWs en (lvl en f)
 | 0=>⟨⟨fun _ _=>trivial,fun _ _=>trivial⟩,fun _ _=>trivial⟩
 | f+1=>⟨⟨(lvl_ws f).toLWt.exp,(lvl_ws f).toLWt.prm⟩,(lvl_ws f).stm⟩
theorem quoted_sn:∀(m:Nat) (l:List UInt8),l.length<=m->∀r,Bt l=K r->r.1.length<=r.2
 | _,[],_,r,h=>by rw[Bt] at h;cases h
 | 0,c::t,hm,_,_=>absurd hm (by simp)
 | m+1,c::t,hm,r,h=>by
  rw[lnC] at hm;rw[Bt.eq_def] at h;simp only at h;split at h
  ·cases h;exact nlz _
  ·split at h
   ·cases h
   ·split at h
    ·cases t with
     | nil=>cases h
     | cons d t'=>
      rw[lnC] at hm;simp only at h;obtain⟨e,he,h⟩:=Option.bind_eq_some_iff.1 h;obtain⟨q,hq,rfl⟩:=Option.map_eq_some_iff.1 h;have:=quoted_sn m t' (by omega) q hq;show(e::q.1).length<=q.2+2;rw[lnC];omega
    ·obtain⟨q,hq,rfl⟩:=Option.map_eq_some_iff.1 h;have:=quoted_sn m t (by omega) q hq;show(c::q.1).length<=q.2+1;rw[lnC];omega
theorem nextL_sn{l k s n}(h:Bz l = .ok (k,s,n)):s.length<=n:=by
 unfold Bz at h;cases l with
 | nil=>cases h
 | cons c t=>
  simp only at h;split at h
  ·cases h;exact nlz _
  ·split at h
   ·cases h;exact nlz _
   ·split at h
    ·cases h;exact nlr _
    ·split at h
     ·unfold C9 at h;split at h
      ·cases h
      ·split at h
       ·cases h
       ·cases h;exact nlr _
     ·split at h
      ·split at h
       ·rename_i r hr
        cases h;have:=quoted_sn _ t (nlr _) r hr;omega
       ·cases h
      ·split at h
       ·cases h;rw[List.length_take];omega
       ·split at h
        ·cases h;exact nlr _
        ·cases h
theorem tokens_cT:∀(f:Nat) (p:Int×Int) (l:List UInt8) (ts:List Tok),Bu f p l = .ok ts->cT ts<=65*l.length
 | 0,p,l,ts,h=>by cases h;exact nlz _
 | f+1,p,l,ts,h=>by
  rw[Bu] at h;split at h
  ·cases h;exact nlz _
  ·split at h
   ·cases h
   ·next k s n hn=>
    split at h
    ·cases h
    ·next ts' hts=>
     have h1:=tokens_cT f (passL p (l.take n)) (l.drop n) ts' hts;have h2:=I7 hn;simp only at h2;have h3:=nextL_sn hn;rw[List.length_drop] at h1;cases h;by_cases hk:0<k
     ·rw[if_pos hk,cT_cons];unfold cK;show 2*s.length+63+cT ts'<=_;omega
     ·rw[if_neg hk];omega
theorem print_len{l kids}(h:readL l=K (.ok (.mk 1 ⟨#[]⟩ 1 1 kids))):(Dj kids).length<=65*l.length:=by
 obtain⟨kids',he,hok⟩:=read_okd h;cases he;unfold readL at h;cases hl:G1 l with
 | error e=>rw[hl] at h;cases h
 | ok ts=>
  rw[hl] at h;simp only at h;have hc:cT ts<=65*l.length:=by
   unfold G1 at hl;split at hl
   ·cases hl
   ·exact tokens_cT _ _ _ _ hl
  have hg:=(lvl_ws (en:=G8 l) (ts.length+2)).stmts (cl:=[]) ts 0;cases hm:Cs (G8 l) (lvl (G8 l) (ts.length+2)) [] ts 0 with
  | err a b c=>rw[hm] at h;cases h
  | out=>rw[hm] at h;cases h
  | ok x t1 d1=>
   rw[hm] at h hg;cases h;obtain⟨k,e1,e2⟩:=hg;have h3:=S9 0 kids 60 hok (by omega);show Cz (Dy 0 kids)<=_;omega
def Ly(w:World):Prop:=Lg w/\E3 w
theorem Ly.below{w w'}(h:Ly w)(hb:Below w.heap.size w w'):Ly w':=⟨h.1.below hb,h.2.below hb⟩
theorem A2.bel{F w w' n v}(h:A2 F w n v)(hb:Below w.heap.size w w'):A2 F w' n v:=h.mono fun b hF hl=>⟨hF,nll hl hb.size,hb.block b hl⟩
theorem word_lex{s}(h:Iq s)(hl:s.length<=65536):∃a b,G1 s = .ok [⟨1,bs s,a,b⟩]:=by
 have hr:Reads s [(1,s)]:=by
  have:=Reads.word h (.nil _) .nil;rw[List.append_nil] at this;exact this
 obtain⟨ts,h1,h2⟩:=hr.lex hl;obtain⟨a,b,r,rfl,h3⟩:=kts_cons h2;obtain rfl:=kts_nil h3;exact⟨a,b,h1⟩
theorem Wx(s)(hs:Iq s.data.toList)(hz:s.size<=65536)(w)(hP:Ly w):Calls Tryz.prog 83 #[I s] w (Ql w):=by
 obtain⟨x,y,hx⟩:=word_lex hs (by rw[Ai];exact hz);have HA:=Sx s w (by omega) hP.1;rw[hx,show bs s.data.toList=s from bytes_ext rfl] at HA;have aH:=Lq7 HA;clear HA hx hs hP;have aN:(s.toList==s.toList)=true:=(by simp);go_enter Tryz.func83,Tryz.ntmps83;go_wp2_with fail;refine aH.out.mono ?_;rintro e w1 ⟨aB,a,cap,rfl,hcap,aE⟩;obtain⟨b,off,rfl,hF,hbl,c0,c1,-,-⟩:=Xb aE (k:=0) (t:=⟨1,s,x,y⟩) rfl;simp only[nzm,naz] at c0 c1;have aA:=Lq7 aB;clear aE hcap aB hF;go_wp2_with fail;go_ret;exact⟨rfl,aA.out.alloc aA.out.size _⟩
theorem Fu(s)(hs:Ed s.data.toList)(hz:s.size<=65536)(w)(hP:Ly w):Calls Tryz.prog 43 #[I s] w (Ql w):=by
 have H1:=Lq7 (Wx s hs.1 hz w hP);have H2:=Lq7 (fun w1=>Mm s w1);rw[hs.2] at H2;clear hs hP;go_enter Tryz.func43,Tryz.ntmps43;go_wp2_with fail;refine H1.out.mono ?_;rintro e w1 ⟨rfl,aB⟩;have aA:=Lq7 aB;go_wp2_with fail;refine(H2.out w1).mono ?_;rintro e w2 ⟨rfl,aJ⟩;have aM:=Lq7 (aA.out.trans (aJ.mono aA.out.size));go_wp2_with fail;go_ret;exact⟨rfl,aM.out⟩
theorem S1(s)(hs:NumL s.data.toList)(hz:s.size<=65536)(w)(hP:Ly w):Calls Tryz.prog 85 #[I s] w (Ql w):=by
 have h:=Uh (s:=s) hs hz;have hv0:0<=(natOf s.data.toList:Int):=Int.natCast_nonneg _;generalize (natOf s.data.toList:Int)=v at h hv0;have hp:Lib.parseIntB 64 s.data.toList = .ok v/\inR v=true/\s.size<=65536/\Lib.itoa v=s.data.toList:=by
  unfold numOf at h;split at h
  ·rename_i v' hv'
   split at h
   ·rename_i hc
    cases h;exact⟨hv',hc⟩
   ·cases h
  ·cases h
 obtain⟨h1,h2,h4,h5⟩:=hp;unfold inR at h2;simp only[bAt,decide_eq_true_eq] at h2;have Hp:=Lq7 (Tryz.strconv_ParseInt_10_at64_ok s (by omega) v h1 w);have Hn:=Lq7 (fun(w1:World) (hT1:E3 w1)=>Tryz.strconv_FormatInt_10 v h2.1 h2.2 w1 hT1);have H5:=Lq7 h5;have HT:=Lq7 hP.2;clear h h1 h5 h2 hP hs;go_enter Tryz.func85,Tryz.ntmps85;go_wp2_with fail;refine Hp.out.mono ?_;rintro e w1 ⟨rfl,aQ⟩;have aB:Below w.heap.size w w1:=by
  rcases aQ with rfl|⟨t,rfl⟩
  ·exact bRf _ _
  ·exact Gf w _ t
 clear aQ;have aA:=Lq7 aB;clear aB;go_wp2_with fail;refine(Hn.out _ (HT.out.below aA.out)).mono ?_;rintro e w2 ⟨rfl,k,os,hw⟩;have Hb:Hid (Below w.heap.size w w2):=Lq7 (by
  rw[hw];exact(C0 aA.out k).trans ((below_grown (w1.drewN k) 0 os).mono (by have:=aA.out.size;simpa using this)))
 clear hw;have aN:(⟨(Lib.itoa v).toArray⟩:ByteArray)=s:=bytes_ext H5.out;rw[aN];have hst:(s.toList==s.toList)=true:=(by simp);go_wp2_with fail;go_ret;exact⟨rfl,Hb.out⟩
def D8(g:FuncId)(n:Nd):Prop:=∀(F:Nat->Prop) (v:Value) (w:World),A2 F w n v->Ly w->Calls Tryz.prog g #[v] w (Ql w)
def PNo(w:World)(e:Ending)(w':World):Prop:=e = .returned (.bool false)/\Below w.heap.size w w'
theorem all1_no(g)(eg:∀args w,(callFunc g args).run Tryz.prog w = .ok (.enter g args) w)(bx n)(h:D8 g n)(F v w)(hn:A2 F w n v)(hP:Ly w)(hb:w.heap[bx]? = K (J #[.func (.func g) #[] #[]] 86 (0,0))):
  Calls Tryz.prog 42 #[v,N (K ⟨bx,0,M⟩)] w (PNo w):=by
 obtain⟨k,t,l,c,kids⟩:=n;obtain⟨a,cap,rfl,-⟩:=hn.open;have aC:Below w.heap.size w (w.alloc (J #[A C k,I t,A C l,A C c,E a kids.length cap] 27)):=(bRf _ w).alloc (nlr _) _;have HC:=Lq7 (h F _ _ (hn.bel aC) (hP.below aC));have aF:=Lq7 aC;obtain⟨s0,s1⟩:=Bq hb;clear h hn hP hb aC;go_enter Tryz.func42,Tryz.ntmps42;go_wp2_with fail;refine HC.out.mono ?_;rintro e w1 ⟨rfl,aB⟩;have aA:=Lq7 (aF.out.trans (aB.mono aF.out.size));go_wp2_with fail;go_ret;exact⟨rfl,aA.out⟩
theorem On(g)(eg:∀args w,(callFunc g args).run Tryz.prog w = .ok (.enter g args) w)(bx F a cap l w)(hl:l.length<=140737488355328)(hr:Af F w a (Au l))(hP:Ly w)(h:∀x∈l,D8 g x)(hb:w.heap[bx]? = K (J #[.func (.func g) #[] #[]] 86 (0,0))):
  Calls Tryz.prog 82 #[E a l.length cap,.func (.func 42) #[] #[N (K ⟨bx,0,M⟩)]] w (fun e w'=>e = .returned (A C (-1))/\Below w.heap.size w w'):=by
 have eg1:∀args w,(callFunc 42 args).run Tryz.prog w = .ok (.enter 42 args) w:=enters_of Tryz.func42 (by kernel_rfl) rfl;have Hr:=Lq7 hr;have Hb:=Lq7 hb;have HP:=Lq7 hP;have HY:=Lq7 h;clear hr hb hP h;go_enter Tryz.func82,Tryz.ntmps82;go_wp2
 go_loopw [8] (fun i wr=>∃k:Nat,i = A C k/\k<=l.length/\Hid (Below w.heap.size w wr)) (fun i _=>l.length-(intOf i).toNat)
 case atStart=>exact⟨0,rfl,nlz _,Lq7 (bRf _ _)⟩
 case round=>
  obtain⟨k,rfl,hk,aD⟩:=hrel;by_cases hlt:k<l.length
  ·have aG:l[k]? = K l[k]:=lgE hlt;generalize l[k]=x at aG;have HX:=Lq7 (HY.out x (lgM aG));obtain⟨xk,xt,xl,xc,xs⟩:=x;obtain⟨b,off,a1,c1,rfl,hF,hbl,r0,r1,r2,r3,r4,h6,aR⟩:=(Hr.out.below aD.out).nodeK aG;have HC:=Lq7 (all1_no g eg bx _ HX.out F _ wr (A2.mk xk xt xl xc c1 aR h6.out) (HP.out.below aD.out) (stays Hb.out aD.out));clear aR hF h6 aG;go_wp2_with fail;refine HC.out.mono ?_;rintro e w2 ⟨rfl,aJ⟩;have aM:=Lq7 (aD.out.trans (aJ.mono aD.out.size));go_wp2;go_roundw
   case rel=>exact⟨k+1,by go_num,by omega,aM⟩
   case measure=>simp only[intOf];omega
  ·obtain rfl:k=l.length:=(by omega);go_wp2;go_ret;exact⟨rfl,aD.out⟩
theorem Lz(g)(eg:∀args w,(callFunc g args).run Tryz.prog w = .ok (.enter g args) w)(bx F a cap l w)(hl:l.length<=140737488355328)(hr:Af F w a (Au l))(hP:Ly w)(h:∀x∈l,D8 g x)(hb:w.heap[bx]? = K (J #[.func (.func g) #[] #[]] 86 (0,0))):
  Calls Tryz.prog 41 #[E a l.length cap,.func (.func 42) #[] #[N (K ⟨bx,0,M⟩)]] w (PNo w):=by
 have HI:=Lq7 (On g eg bx F a cap l w hl hr hP h hb);clear hr hP h hb;go_enter Tryz.func41,Tryz.ntmps41;go_wp2_with fail;refine HI.out.mono ?_;rintro e w1 ⟨rfl,aB⟩;have aA:=Lq7 aB;go_wp2;go_ret;exact⟨rfl,aA.out⟩
theorem G6(g)(eg:∀args w,(callFunc g args).run Tryz.prog w = .ok (.enter g args) w)(F a cap l w)(hl:l.length<=140737488355328)(hr:Af F w a (Au l))(hP:Ly w)(h:∀x∈l,D8 g x):
  Calls Tryz.prog 25 #[E a l.length cap,.func (.func g) #[] #[]] w (Ql w):=by
 have aC:Below w.heap.size w (w.alloc (J #[.func (.func g) #[] #[]] 86)):=(bRf _ w).alloc (nlr _) _;have HC:=Lq7 (Lz g eg w.heap.size F a cap l _ hl (hr.below aC) (hP.below aC) h (heap_alloc_new w (J #[.func (.func g) #[] #[]] 86)));have aF:=Lq7 aC;clear hr hP h aC;go_enter Tryz.func25,Tryz.ntmps25;go_wp2_with fail;refine HC.out.mono ?_;rintro e w1 ⟨rfl,aB⟩;have aA:=Lq7 (aF.out.trans (aB.mono aF.out.size));go_wp2_with fail;go_ret;exact⟨rfl,aA.out⟩
theorem egX:∀args w,(callFunc 44 args).run Tryz.prog w = .ok (.enter 44 args) w:=enters_of Tryz.func44 (by kernel_rfl) rfl
theorem egA:∀args w,(callFunc 87 args).run Tryz.prog w = .ok (.enter 87 args) w:=enters_of Tryz.func87 (by kernel_rfl) rfl
def bxN(w:World)(k:Int)(t:ByteArray)(l c:Int)(a:Option Addr)(n cap:Nat):World:=w.alloc (J #[A C k,I t,A C l,A C c,E a n cap] 27)
theorem Co(w k t l c a n cap):Below w.heap.size w (bxN w k t l c a n cap):=(bRf _ w).alloc (nlr _) _
theorem ne_of_list{t:ByteArray}(h:t.data.toList≠[]):(t.toList==([]:List UInt8))=false:=by
 rw[Lq8]
 simpa using h
theorem name_ne{s}(h:Ed s):s≠[]:=by obtain⟨⟨c,r,hc,-⟩,-⟩:=h;rw[hc];simp
section
variable {l c:Int}
theorem Zr(t:ByteArray)(ht:Ed t.data.toList)(hz:t.size<=65536):D8 44 (.mk 9 t l c []):=by
 intro F v w hn hP;obtain⟨a,cap,rfl,-⟩:=hn.open;have aA:=Co w 9 t l c a 0 cap;have H1:=Lq7 (Fu t ht hz _ (hP.below aA));have aB:=Lq7 aA;unfold bxN at H1 aB;clear aA ht hn hP;rw[lnN];go_enter Tryz.func44,Tryz.ntmps44;go_wp2_with fail;refine H1.out.mono ?_;rintro e w1 ⟨rfl,aC⟩;have aH:=Lq7 (aB.out.trans (aC.mono aB.out.size));go_wp2_with fail;go_ret;exact⟨rfl,aH.out⟩
theorem mayX_num(t:ByteArray)(ht:NumL t.data.toList)(hz:t.size<=65536):D8 44 (.mk 10 t l c []):=by
 intro F v w hn hP;obtain⟨a,cap,rfl,-⟩:=hn.open;have aA:=Co w 10 t l c a 0 cap;have H1:=Lq7 (S1 t ht hz _ (hP.below aA));have aB:=Lq7 aA;unfold bxN at H1 aB;clear aA ht hn hP;rw[lnN];go_enter Tryz.func44,Tryz.ntmps44;go_wp2_with fail;refine H1.out.mono ?_;rintro e w1 ⟨rfl,aC⟩;have aH:=Lq7 (aB.out.trans (aC.mono aB.out.size));go_wp2_with fail;go_ret;exact⟨rfl,aH.out⟩
theorem Zs(t:ByteArray)(ht:Ki t.data.toList)(hz:t.size<=65536):D8 44 (.mk 11 t l c []):=by
 intro F v w hn hP;obtain⟨a,cap,rfl,-⟩:=hn.open;have aA:=Co w 11 t l c a 0 cap;have H1:=Lq7 (Le t (bxN w 11 t l c a 0 cap) hz);have Hne:Hid (∀o:ByteArray,o.data.toList=quoteL t.data.toList->o.toList.isEmpty=false):=Lq7 fun o ho=>by
  rw[Lq8,ho,Kj ht];rfl
 have aB:=Lq7 aA;unfold bxN at H1 aB;clear aA ht hn hP;rw[lnN];go_enter Tryz.func44,Tryz.ntmps44;go_wp2_with fail;refine H1.out.mono ?_;rintro e w1 ⟨o,rfl,ho,aC⟩;have hne:=Hne.out o ho;have aH:=Lq7 (aB.out.trans (aC.mono aB.out.size));clear ho aC;go_wp2_with fail;go_ret;exact⟨rfl,aH.out⟩
theorem Zt(m:List Nd)(hl:m.length<=140737488355328)(hY:∀x∈m,D8 44 x):D8 44 (.mk 12 ⟨#[]⟩ l c m):=by
 intro F v w hn hP;obtain⟨a,cap,rfl,hr⟩:=hn.open;have aA:=Co w 12 ⟨#[]⟩ l c a m.length cap;have H1:=Lq7 (G6 _ egX F a cap m _ hl (hr.below aA) (hP.below aA) hY);have aB:=Lq7 aA;unfold bxN at H1 aB;clear aA hn hP hr hY;go_enter Tryz.func44,Tryz.ntmps44;go_wp2_with fail;refine H1.out.mono ?_;rintro e w1 ⟨rfl,aC⟩;have aH:=Lq7 (aB.out.trans (aC.mono aB.out.size));go_wp2_with fail;go_ret;exact⟨rfl,aH.out⟩
theorem Zu(t:ByteArray)(ht:Ed t.data.toList)(hz:t.size<=65536)(m:List Nd)(hl:m.length<=140737488355328)(hY:∀x∈m,D8 87 x):D8 44 (.mk 14 t l c m):=by
 intro F v w hn hP;obtain⟨a,cap,rfl,hr⟩:=hn.open;have aA:=Co w 14 t l c a m.length cap;have H1:=Lq7 (Fu t ht hz _ (hP.below aA));have H2:=Lq7 (fun w1 (h:Below w.heap.size w w1)=>G6 _ egA F a cap m w1 hl (hr.below h) (hP.below h) hY);have H0:=Lq7 (aIn (heap_alloc_new w (J #[A C 14,I t,A C l,A C c,E a m.length cap] 27)) aA);unfold bxN at H1 H0;clear aA hn hP hr hY ht;go_enter Tryz.func44,Tryz.ntmps44;go_wp2_with fail;refine H1.out.mono ?_;rintro e w1 ⟨rfl,aC⟩;have aE:=Lq7 (aIn (stays H0.out.1 aC) (H0.out.2.trans (aC.mono H0.out.2.size)));have HA:=Lq7 (H2.out w1 aE.out.2);obtain⟨q0,q1,q2,q3,q4,q5,-⟩:=Aa aE.out.1;go_wp2_with fail;refine HA.out.mono ?_;rintro e w2 ⟨rfl,aD⟩;have aF:=Lq7 (aE.out.2.trans (aD.mono aE.out.2.size));go_wp2_with fail;go_ret;exact⟨rfl,aF.out⟩
theorem mayX_op(t:ByteArray)(m:List Nd)(ht:(t.data.toList=notW/\m.length=1)\/(t.data.toList∈opsL/\m.length=2))(hY:∀x∈m,D8 44 x):D8 44 (.mk 16 t l c m):=by
 intro F v w hn hP;obtain⟨a,cap,rfl,hr⟩:=hn.open;have aA:=Co w 16 t l c a m.length cap;have hl:m.length<=140737488355328:=by rcases ht with h|h<;>omega
 have aN:([[61,61],[33,61],[105,110],[43],[110,111,116]]:List (List UInt8)).contains t.data.toList=true:=by
  rcases ht with h|h
  ·rw[h.1];decide
  ·have h1:=h.1;unfold opsL at h1;simp only[List.mem_cons,List.not_mem_nil,or_false] at h1;rcases h1 with e|e|e|e<;>rw[e]<;>decide
 have H0:=Lq7 (aIn (heap_alloc_new w (J #[A C 16,I t,A C l,A C c,E a m.length cap] 27)) aA);have H2:=Lq7 (fun w1 (h:Below w.heap.size w w1)=>G6 _ egX F a cap m w1 hl (hr.below h) (hP.below h) hY);have HC:=Lq7 (fun(W:World)=>Tryz.slices_Contains_string W.heap.size 0 5 5 (([[61,61],[33,61],[105,110],[43],[110,111,116]]:List (List UInt8)).map bs) t (W.alloc (.cells ((([[61,61],[33,61],[105,110],[43],[110,111,116]]:List (List UInt8)).map bs).map Value.string).toArray 9)) (by decide) (by omega) (Ns W 9 (([[61,61],[33,61],[105,110],[43],[110,111,116]]:List (List UInt8)).map bs)));have aQ:=Lq7 aN;unfold bxN at H0;clear aA hn hP hr hY aN hl;rcases ht with⟨hn,h1⟩|⟨hn,h1⟩
 ·obtain rfl:t=bs notW:=bytes_ext hn;have bB:(m.length:Int)=1:=(by omega);clear hn h1;generalize m.length=q at bB H0 H2 |-;obtain rfl:q=1:=(by omega);clear bB;have aJ:=HC.out (w.alloc (J #[A C 16,I (bs notW),A C l,A C c,E a 1 cap] 27));rw[show(w.alloc (J #[A C 16,I (bs notW),A C l,A C c,E a 1 cap] 27)).heap.size=w.heap.size+1 by simp] at aJ;have aZ:=Lq7 aJ;clear aJ;unfold notW at *;go_enter Tryz.func44,Tryz.ntmps44;go_wp2_with fail;refine aZ.out.mono ?_;rintro e w1 ⟨rfl,rfl⟩;rw[ltL (by decide),G7,aQ.out];have HA:=Lq7 (H2.out _ (H0.out.2.alloc H0.out.2.size (.cells ((([[61,61],[33,61],[105,110],[43],[110,111,116]]:List (List UInt8)).map bs).map Value.string).toArray 9)));go_wp2_with fail;refine HA.out.mono ?_;rintro e w2 ⟨rfl,aD⟩;have aF:=Lq7 ((H0.out.2.alloc H0.out.2.size (.cells ((([[61,61],[33,61],[105,110],[43],[110,111,116]]:List (List UInt8)).map bs).map Value.string).toArray 9)).trans (aD.mono (by have:=H0.out.2.size;simp;omega)));go_wp2_with fail;go_ret;exact⟨rfl,aF.out⟩
 ·have hnn:(t.toList==[110,111,116])=false:=by
   have:=opsL_not hn;unfold notW at this;rw[Lq8]
   simpa using this
  generalize m.length=q at h1 H0 H2 |-;subst h1;have aJ:=HC.out (w.alloc (J #[A C 16,I t,A C l,A C c,E a 2 cap] 27));rw[show(w.alloc (J #[A C 16,I t,A C l,A C c,E a 2 cap] 27)).heap.size=w.heap.size+1 by simp] at aJ;have aZ:=Lq7 aJ;clear aJ;clear hn;go_enter Tryz.func44,Tryz.ntmps44;go_wp2_with fail;refine aZ.out.mono ?_;rintro e w1 ⟨rfl,rfl⟩;rw[ltL (by decide),G7,aQ.out];have HA:=Lq7 (H2.out _ (H0.out.2.alloc H0.out.2.size (.cells ((([[61,61],[33,61],[105,110],[43],[110,111,116]]:List (List UInt8)).map bs).map Value.string).toArray 9)));go_wp2_with fail;refine HA.out.mono ?_;rintro e w2 ⟨rfl,aD⟩;have aF:=Lq7 ((H0.out.2.alloc H0.out.2.size (.cells ((([[61,61],[33,61],[105,110],[43],[110,111,116]]:List (List UInt8)).map bs).map Value.string).toArray 9)).trans (aD.mono (by have:=H0.out.2.size;simp;omega)));go_wp2_with fail;go_ret;exact⟨rfl,aF.out⟩
theorem Zv(m:List Nd)(hl:m.length<=65540)(hev:m.length % 2=0)(hk:∀j x,m[j]? = K x->j % 2=0->x.kind=11)(hY:∀x∈m,D8 44 x):D8 44 (.mk 13 ⟨#[]⟩ l c m):=by
 intro F v w hn hP;obtain⟨a,cap,rfl,hr⟩:=hn.open;have aA:=Co w 13 ⟨#[]⟩ l c a m.length cap;have H0:=Lq7 (aIn (heap_alloc_new w (J #[A C 13,I ⟨#[]⟩,A C l,A C c,E a m.length cap] 27)) aA);have Hr:=Lq7 hr;have HP:=Lq7 hP;have HY:=Lq7 hY;have Hk:=Lq7 hk;have hev2:((m.length:Int) % 2==0)=true:=by
  have:(m.length:Int) % 2=0:=(by omega);rw[this];rfl
 have Hev:=Lq7 hev;unfold bxN at H0;clear aA hn hP hr hY hk hev;go_enter Tryz.func44,Tryz.ntmps44;go_wp2_with fail;generalize World.alloc _ _=W0 at H0 |-
 go_loopw [55] (fun i wr=>∃j:Nat,i = A C j/\j<=m.length/\Hid (wr.heap[w.heap.size]? = K (J #[A C 13,I ⟨#[]⟩,A C l,A C c,E a m.length cap] 27 (0,0))/\Below w.heap.size w wr)) (fun i _=>m.length-(intOf i).toNat)
 case atStart=>exact⟨0,rfl,nlz _,H0⟩
 case round=>
  obtain⟨j,rfl,hj,aM⟩:=hrel;obtain⟨q0,q1,q2,q3,q4,q5,-⟩:=Aa aM.out.1;by_cases hlt:j<m.length
  ·have aR:m[j]? = K m[j]:=lgE hlt;generalize m[j]=x at aR;have HX:=Lq7 (HY.out x (lgM aR));have HK:=Lq7 (Hk.out j x aR);obtain⟨xk,xt,xl,xc,xs⟩:=x;obtain⟨b,off,a1,c1,rfl,hF,hbl,r0,r1,r2,r3,r4,h6,aV⟩:=(Hr.out.below aM.out.2).nodeK aR;have aW:Below wr.heap.size wr (wr.alloc (J #[A C xk,I xt,A C xl,A C xc,E a1 xs.length c1] 27)):=(bRf _ _).alloc (nlr _) _;have HC:=Lq7 (HX.out F _ _ (A2.mk xk xt xl xc c1 (aV.below aW) h6.out) ((HP.out.below aM.out.2).below aW));have HN:=Lq7 (aIn (heap_alloc_new wr (J #[A C xk,I xt,A C xl,A C xc,E a1 xs.length c1] 27)) aW);clear aV hF h6 aR aW;go_wp2_with fail;refine HC.out.mono ?_;rintro e w2 ⟨rfl,aD⟩;have aU:=Lq7 (aIn (stays (stays aM.out.1 HN.out.2) aD) (aM.out.2.trans ((HN.out.2.trans (aD.mono HN.out.2.size)).mono aM.out.2.size)));obtain⟨p0,p1,p2,p3,p4,p5,-⟩:=Aa (stays HN.out.1 aD);by_cases hpar:j % 2=0
   ·have hp2:((j:Int) % 2==0)=true:=by
     have:(j:Int) % 2=0:=(by omega);rw[this];rfl
    obtain rfl:xk=11:=HK.out hpar;clear hpar;go_wp2_with fail;go_roundw
    case rel=>exact⟨j+1,by go_num,by omega,aU⟩
    case measure=>simp only[intOf];omega
   ·have hp2:((j:Int) % 2==0)=false:=by
     have:(j:Int) % 2=1:=(by omega);rw[this];rfl
    clear hpar;go_wp2_with fail;go_roundw
    case rel=>exact⟨j+1,by go_num,by omega,aU⟩
    case measure=>simp only[intOf];omega
  ·obtain rfl:j=m.length:=(by omega);have Hb:=Lq7 aM.out.2;go_wp2_with fail;go_ret;exact⟨rfl,Hb.out⟩
theorem mayA_yes(t:ByteArray)(ht:t.data.toList=[]\/Ed t.data.toList)(hz:t.size<=65536)(x:Nd)(hY:D8 44 x):D8 87 (.mk 15 t l c [x]):=by
 intro F v w hn hP;obtain⟨a,cap,rfl,hr⟩:=hn.open;have aA:=Co w 15 t l c a 1 cap;have H0:=Lq7 (aIn (heap_alloc_new w (J #[A C 15,I t,A C l,A C c,E a 1 cap] 27)) aA);have HX:Hid (∀w1,Below w.heap.size w w1->∃b off k2 t2 l2 c2 a2 n2 p2,a=K ⟨b,off,M⟩/\b<w1.heap.size/\w1.cell? ⟨b,off,M⟩=K (A C k2)/\w1.cell? ⟨b,off+1,M⟩=K (I t2)/\w1.cell? ⟨b,off+2,M⟩=K (A C l2)/\w1.cell? ⟨b,off+3,M⟩=K (A C c2)/\w1.cell? ⟨b,off+4,M⟩=K (E a2 n2 p2)/\Calls Tryz.prog 44 #[.agg #[A C k2,I t2,A C l2,A C c2,E a2 n2 p2]] w1 (Ql w1)):=Lq7 fun w1 h=>by
  obtain⟨xk,xt,xl,xc,xs⟩:=x;obtain⟨b,off,a1,c1,rfl,hF,hbl,r0,r1,r2,r3,r4,h6,aV⟩:=(hr.below h).nodeK (j:=0) rfl;simp only[nzm,naz] at r0 r1 r2 r3 r4;exact⟨b,off,_,_,_,_,_,_,_,rfl,hbl,r0,r1,r2,r3,r4,hY F _ w1 (A2.mk xk xt xl xc c1 aV h6.out) (hP.below h)⟩
 unfold bxN at H0;rw[show [x].length=1 from rfl];rcases ht with ht|ht
 ·obtain rfl:t=⟨#[]⟩:=bytes_ext ht;clear hn hP hr hY aA ht;obtain⟨b,off,k2,t2,l2,c2,a2,n2,p2,rfl,hbl,r0,r1,r2,r3,r4,hc⟩:=HX.out _ H0.out.2;have HC:=Lq7 hc;have hbw:b<w.heap.size:=by
   by_cases h:b<w.heap.size
   ·exact h
   ·have h1:=HX.out w (bRf _ _);obtain⟨b',off',_,_,_,_,_,_,_,he,hb',-⟩:=h1;cases he;exact hb'
  clear hbl hc;go_enter Tryz.func87,Tryz.ntmps87;go_wp2_with fail;refine HC.out.mono ?_;rintro e w2 ⟨rfl,aD⟩;have aF:=Lq7 (H0.out.2.trans (aD.mono H0.out.2.size));go_wp2_with fail;go_ret;exact⟨rfl,aF.out⟩
 ·have hne:=ne_of_list (name_ne ht);have H1:=Lq7 (Fu t ht hz _ (hP.below aA));unfold bxN at H1;clear hn hP hr hY aA ht;go_enter Tryz.func87,Tryz.ntmps87;go_wp2_with fail;refine H1.out.mono ?_;rintro e w1 ⟨rfl,aC⟩;have aE:=Lq7 (aIn (stays H0.out.1 aC) (H0.out.2.trans (aC.mono H0.out.2.size)));obtain⟨q0,q1,q2,q3,q4,q5,-⟩:=Aa aE.out.1;obtain⟨b,off,k2,t2,l2,c2,a2,n2,p2,rfl,hbl,r0,r1,r2,r3,r4,hc⟩:=HX.out _ aE.out.2;have HC:=Lq7 hc;clear hc;go_wp2_with fail;refine HC.out.mono ?_;rintro e w2 ⟨rfl,aD⟩;have aF:=Lq7 (aE.out.2.trans (aD.mono aE.out.2.size));go_wp2_with fail;go_ret;exact⟨rfl,aF.out⟩
end
theorem Mj{d t}:∀{l:List Nd} {i:Nat} {x:Nd},G4 d t i l->x∈l->okX d x
 | y::l,i,x,h,hx=>by
  rw[G4] at h;rcases List.mem_cons.1 hx with rfl|hx
  ·have h1:=h.1;split at h1
   ·exact F4 (by omega) x h1.2
   ·exact h1
  ·exact Mj h.2 hx
theorem Rk{d}:∀{l:List Nd},Ff d l->l.length % 2=0
 | [],_=>rfl
 | [_],h=>by rw[Ff] at h;exact h.elim
 | x::y::r,h=>by rw[Ff] at h;have:=Rk h.2.2.2;rw[lnC,lnC];omega
theorem Nq{d}:∀{l:List Nd},Ff d l->(∀(j:Nat) x,l[j]? = K x->j % 2=0->x.kind=11)/\∀x∈l,okX d x
 | [],_=>⟨fun j x h=>by simp at h,fun x h=>by cases h⟩
 | [_],h=>by rw[Ff] at h;exact h.elim
 | x::y::r,h=>by
  rw[Ff] at h;obtain⟨h1,h2⟩:=Nq h.2.2.2;refine⟨fun j z hz hj=>?_,fun z hz=>?_⟩
  ·match j,hz with
   | 0,hz=>simp at hz;rw[<-hz];exact h.1
   | 1,_=>omega
   | j+2,hz=>exact h1 j z (by simpa using hz) (by omega)
  ·rcases List.mem_cons.1 hz with rfl|hz
   ·exact h.2.1
   ·rcases List.mem_cons.1 hz with rfl|hz
    ·exact h.2.2.1
    ·exact h2 z hz
theorem mayX:∀(m:Nat) (n:Nd) (d:Nat),ndH n<=m->okX d n->D9 65536 65540 n->D8 44 n
 | 0,n,_,h,_,_=>by have:=E8 n;omega
 | m+1,.mk k t a0 b0 l,d,hm,h,ho=>by
  have hh:ndH (.mk k t a0 b0 l)=ndHs l+2:=(by rw[ndH]);rw[hh] at hm;have aG:∀x∈l,ndH x<=m:=fun x hx=>(by have:=ndH_mem hx;omega);rw[D9] at ho;obtain⟨hz,hlen,-,-,hks⟩:=ho;have aY:=ndOks_iff.1 hks;rw[okX] at h;by_cases h9:k=9
  ·subst h9;rw[if_pos rfl] at h;obtain⟨hn,rfl⟩:=h;exact Zr t hn hz
  rw[if_neg h9] at h;by_cases h10:k=10
  ·subst h10;rw[if_pos rfl] at h;obtain⟨hn,rfl⟩:=h;exact mayX_num t hn hz
  rw[if_neg h10] at h;by_cases h11:k=11
  ·subst h11;rw[if_pos rfl] at h;obtain⟨hn,rfl⟩:=h;exact Zs t hn hz
  rw[if_neg h11] at h;by_cases h12:k=12
  ·subst h12;rw[if_pos rfl] at h;obtain⟨ht,-,hl⟩:=h;obtain rfl:t=⟨#[]⟩:=bytes_ext ht;exact Zt l (by omega) fun x hx=>mayX m x (d - 1) (aG x hx) (J3 hl hx) (aY x hx)
  rw[if_neg h12] at h;by_cases h13:k=13
  ·subst h13;rw[if_pos rfl] at h;obtain⟨ht,-,hl⟩:=h;obtain rfl:t=⟨#[]⟩:=bytes_ext ht;obtain⟨g1,g2⟩:=Nq hl;exact Zv l (by omega) (Rk hl) g1 fun x hx=>mayX m x (d - 1) (aG x hx) (g2 x hx) (aY x hx)
  rw[if_neg h13] at h;by_cases h14:k=14
  ·subst h14;rw[if_pos rfl] at h;obtain⟨hn,-,hl⟩:=h;refine Zu t hn hz l (by omega) fun x hx=>?_;have bC:=L9 hl hx;have bA:=aY x hx;have hxm:=aG x hx;obtain⟨k2,t2,c2,d2,l2⟩:=x;rw[okA] at bC;obtain⟨rfl,ht2,hl2,bD⟩:=bC;obtain⟨y,rfl⟩:=Gz hl2;rw[D9,Dn] at bA;rw[D7] at bD;rw[ndH,ndHs] at hxm;exact mayA_yes t2 ht2 bA.1 y (mayX m y (d - 1) (by omega) bD.1 bA.2.2.2.2.1)
  rw[if_neg h14] at h;by_cases h16:k=16
  ·subst h16;rw[if_pos rfl] at h;refine mayX_op t l ?_ fun x hx=>?_
   ·by_cases hn:t.data.toList=notW
    ·rw[if_pos hn] at h;exact .inl ⟨hn,h.1.2⟩
    ·rw[if_neg hn] at h;exact .inr h.1
   ·exact mayX m x _ (aG x hx) (Mj h.2 hx) (aY x hx)
  ·rw[if_neg h16] at h;exact h.elim
theorem Kd{n d}(h:okX d n)(ho:D9 65536 65540 n):D8 44 n:=mayX (ndH n) n d (nlr _) h ho
theorem egP:∀args w,(callFunc 46 args).run Tryz.prog w = .ok (.enter 46 args) w:=enters_of Tryz.func46 (by kernel_rfl) rfl
theorem egB:∀args w,(callFunc 45 args).run Tryz.prog w = .ok (.enter 45 args) w:=enters_of Tryz.func45 (by kernel_rfl) rfl
theorem egS:∀args w,(callFunc 26 args).run Tryz.prog w = .ok (.enter 26 args) w:=enters_of Tryz.func26 (by kernel_rfl) rfl
theorem Wy(n):(nodeD n).length=5:=by obtain⟨k,t,a,b,l⟩:=n;rw[nodeD];rfl
theorem Af.rest{F w b off l}(h:Af F w (K ⟨b,off,M⟩) (Au l)):Af F w (K ⟨b,off+5,M⟩) (Au l.tail):=by
 have:=Af.drop h (n:=5) (fun ds hd=>by
  rw[Cj] at hd;obtain⟨n,-,rfl⟩:=List.mem_map.1 hd;exact Wy n) 1
 rw[Nat.one_mul,Cj,List.drop_one,<-List.map_tail,<-Cj] at this;exact this
theorem Af.init{F w a l m}(h:Af F w a (Au (l++m))):Af F w a (Au l):=fun j ds hj=>h j ds (by
 rw[nodesD_append,List.getElem?_append_left (List.getElem?_eq_some_iff.1 hj).1];exact hj)
def KidY(g:FuncId)(F:Nat->Prop)(a:Option Addr)(j:Nat)(n:Nd)(w:World):Prop:=∃b off k2 t2 l2 c2 a2 n2 p2,a=K ⟨b,off,M⟩/\b<w.heap.size/\w.cell? ⟨b,off+j*5,M⟩=K (A C k2)/\w.cell? ⟨b,off+j*5+1,M⟩=K (I t2)/\w.cell? ⟨b,off+j*5+2,M⟩=K (A C l2)/\w.cell? ⟨b,off+j*5+3,M⟩=K (A C c2)/\w.cell? ⟨b,off+j*5+4,M⟩=K (E a2 n2 p2) /\
 k2=n.kind/\t2=n.text/\n2=n.kids.length/\Af F w a2 (Au n.kids)/\(Jw n.kind=true->n2<=p2)/\A2 F w n (.agg #[A C k2,I t2,A C l2,A C c2,E a2 n2 p2])/\(Ly w->D8 g n->Calls Tryz.prog g #[.agg #[A C k2,I t2,A C l2,A C c2,E a2 n2 p2]] w (Ql w))
theorem kidY{g F a m j x w}(hr:Af F w a (Au m))(hj:m[j]? = K x):KidY g F a j x w:=by
 obtain⟨xk,xt,xl,xc,xs⟩:=x;obtain⟨b,off,a1,c1,rfl,hF,hbl,r0,r1,r2,r3,r4,h6,hr1⟩:=hr.nodeK hj;have hv:=A2.mk xk xt xl xc c1 hr1 h6.out;exact⟨b,off,_,_,_,_,_,_,_,rfl,hbl,r0,r1,r2,r3,r4,rfl,rfl,rfl,hr1,h6.out,hv,fun hP hY=>hY F _ w hv hP⟩
section
variable {l c:Int}
theorem mayB_yes(m:List Nd)(hl:m.length<=140737488355328)(hY:∀x∈m,D8 26 x):D8 45 (.mk 8 ⟨#[]⟩ l c m):=by
 intro F v w hn hP;obtain⟨a,cap,rfl,hr⟩:=hn.open;have aA:=Co w 8 ⟨#[]⟩ l c a m.length cap;have H1:=Lq7 (G6 _ egS F a cap m _ hl (hr.below aA) (hP.below aA) hY);have aN:=Lq7 aA;unfold bxN at H1 aN;clear aA hn hP hr hY;go_enter Tryz.func45,Tryz.ntmps45;go_wp2_with fail;refine H1.out.mono ?_;rintro e w1 ⟨rfl,aE⟩;have Hb1:=Lq7 (aN.out.trans (aE.mono aN.out.size));go_wp2_with fail;go_ret;exact⟨rfl,Hb1.out⟩
theorem Ur(t:ByteArray)(ht:Ed t.data.toList)(hz:t.size<=65536)(x:Nd)(hY:D8 44 x):D8 26 (.mk 2 t l c [x]):=by
 intro F v w hn hP;obtain⟨a,cap,rfl,hr⟩:=hn.open;have aA:=Co w 2 t l c a 1 cap;have H0:=Lq7 (aIn (heap_alloc_new w (J #[A C 2,I t,A C l,A C c,E a 1 cap] 27)) aA);have H1:=Lq7 (Fu t ht hz _ (hP.below aA));have HX:=Lq7 (fun w1 (h:Below w.heap.size w w1)=>aIn (kidY (g:=44) (j:=0) (x:=x) (hr.below h) rfl) (hP.below h));have HY:=Lq7 hY;unfold bxN at H0 H1;rw[show [x].length=1 from rfl];clear hn hP hr hY aA ht;go_enter Tryz.func26,Tryz.ntmps26;go_wp2_with fail;refine H1.out.mono ?_;rintro e w1 ⟨rfl,aE⟩;have aB:=Lq7 (aIn (stays H0.out.1 aE) (H0.out.2.trans (aE.mono H0.out.2.size)));obtain⟨q0,q1,q2,q3,q4,q5,-⟩:=Aa aB.out.1;obtain⟨⟨b,off,k2,t2,l2,c2,a2,n2,p2,rfl,hbl,r0,r1,r2,r3,r4,-,-,-,-,-,-,hc⟩,aJ⟩:=HX.out _ aB.out.2;simp only[nzm,naz] at r0 r1 r2 r3 r4;have HC:=Lq7 (hc aJ HY.out);clear hc aJ;go_wp2_with fail;refine HC.out.mono ?_;rintro e w2 ⟨rfl,aG⟩;have aW:=Lq7 (aB.out.2.trans (aG.mono aB.out.2.size));go_wp2_with fail;go_ret;exact⟨rfl,aW.out⟩
theorem mayS_do(x:Nd)(hk:x.kind=14)(hY:D8 44 x):D8 26 (.mk 3 ⟨#[]⟩ l c [x]):=by
 intro F v w hn hP;obtain⟨a,cap,rfl,hr⟩:=hn.open;have aA:=Co w 3 ⟨#[]⟩ l c a 1 cap;obtain⟨b,off,k2,t2,l2,c2,a2,n2,p2,rfl,hbl,r0,r1,r2,r3,r4,aQ,-,-,-,-,-,-⟩:=kidY (g:=44) (j:=0) (x:=x) hr rfl;obtain⟨b',off',k3,t3,l3,c3,a3,n3,p3,he,-,s0,s1,s2,s3,s4,-,-,-,-,-,-,hc⟩:=kidY (g:=44) (j:=0) (x:=x) (hr.below aA) rfl;cases he;simp only[nzm,naz] at r0 r1 r2 r3 r4 s0 s1 s2 s3 s4;obtain rfl:k2=14:=aQ.trans hk;have aD:∀i,(bxN w 3 ⟨#[]⟩ l c (K ⟨b,off,M⟩) 1 cap).cell? ⟨b,i,M⟩=w.cell? ⟨b,i,M⟩:=fun i=>aA.cell (p:=⟨b,i,M⟩) hbl;rw[aD,r0] at s0;rw[aD,r1] at s1;rw[aD,r2] at s2;rw[aD,r3] at s3;rw[aD,r4] at s4;cases s0;cases s1;cases s2;cases s3;cases s4;have HC:=Lq7 (hc (hP.below aA) hY);have aN:=Lq7 aA;unfold bxN at HC aN;rw[show [x].length=1 from rfl];clear hn hP hr hY aA hc aD hk aQ;go_enter Tryz.func26,Tryz.ntmps26;go_wp2_with fail;refine HC.out.mono ?_;rintro e w2 ⟨rfl,aG⟩;have aW:=Lq7 (aN.out.trans (aG.mono aN.out.size));go_wp2_with fail;go_ret;exact⟨rfl,aW.out⟩
theorem mayS_for(t:ByteArray)(ht:Ed t.data.toList)(hz:t.size<=65536)(x y:Nd)(hX:D8 44 x)(hY:D8 45 y):D8 26 (.mk 4 t l c [x,y]):=by
 intro F v w hn hP;obtain⟨a,cap,rfl,hr⟩:=hn.open;have aA:=Co w 4 t l c a 2 cap;have H0:=Lq7 (aIn (heap_alloc_new w (J #[A C 4,I t,A C l,A C c,E a 2 cap] 27)) aA);have H1:=Lq7 (Fu t ht hz _ (hP.below aA));have HX:=Lq7 (fun w1 (h:Below w.heap.size w w1)=>aIn (kidY (g:=44) (j:=0) (x:=x) (hr.below h) rfl) (hP.below h));have HZ:=Lq7 (fun w1 (h:Below w.heap.size w w1)=>aIn (kidY (g:=45) (j:=1) (x:=y) (hr.below h) rfl) (hP.below h));have HY:=Lq7 (aIn hX hY);unfold bxN at H0 H1;rw[show [x,y].length=2 from rfl];clear hn hP hr hX hY aA ht;go_enter Tryz.func26,Tryz.ntmps26;go_wp2_with fail;refine H1.out.mono ?_;rintro e w1 ⟨rfl,aE⟩;have aB:=Lq7 (aIn (stays H0.out.1 aE) (H0.out.2.trans (aE.mono H0.out.2.size)));obtain⟨q0,q1,q2,q3,q4,q5,-⟩:=Aa aB.out.1;obtain⟨⟨b,off,k2,t2,l2,c2,a2,n2,p2,rfl,hbl,r0,r1,r2,r3,r4,-,-,-,-,-,-,hc⟩,aJ⟩:=HX.out _ aB.out.2;simp only[nzm,naz] at r0 r1 r2 r3 r4;have HC:=Lq7 (hc aJ HY.out.1);clear hc aJ;go_wp2_with fail;refine HC.out.mono ?_;rintro e w2 ⟨rfl,aG⟩;have aC:=Lq7 (aIn (stays aB.out.1 aG) (aB.out.2.trans (aG.mono aB.out.2.size)));clear r0 r1 r2 r3 r4 q0 q1 q2 q3 q4 q5 hbl;obtain⟨q0,q1,q2,q3,q4,q5,-⟩:=Aa aC.out.1;obtain⟨⟨b',off',k3,t3,l3,c3,a3,n3,p3,he,hbl,r0,r1,r2,r3,r4,-,-,-,-,-,-,hc⟩,aR⟩:=HZ.out _ aC.out.2;cases he;simp only[Nat.one_mul] at r0 r1 r2 r3 r4;have HD:=Lq7 (hc aR HY.out.2);clear hc aR;go_wp2_with fail;refine HD.out.mono ?_;rintro e w3 ⟨rfl,aF⟩;have aU:=Lq7 (aC.out.2.trans (aF.mono aC.out.2.size));go_wp2_with fail;go_ret;exact⟨rfl,aU.out⟩
theorem mayS_if(x:Nd)(r:List Nd)(hr2:r.length=1\/r.length=2)(hX:D8 44 x)(hY:∀y∈r,D8 45 y):D8 26 (.mk 5 ⟨#[]⟩ l c (x::r)):=by
 intro F v w hn hP;obtain⟨a,cap,rfl,hcap,hr⟩:=hn.openC;have hcap:=hcap (by decide);rw[lnC] at hcap;have aA:=Co w 5 ⟨#[]⟩ l c a (r.length+1) cap;have H0:=Lq7 (aIn (heap_alloc_new w (J #[A C 5,I ⟨#[]⟩,A C l,A C c,E a ((r.length+1:Nat)) cap] 27)) aA);have HX:=Lq7 (fun w1 (h:Below w.heap.size w w1)=>aIn (kidY (g:=44) (j:=0) (x:=x) (hr.below h) rfl) (hP.below h));have HR:=Lq7 (fun w1 (h:Below w.heap.size w w1) (b off:Nat) (ha:a=K ⟨b,off,M⟩)=>G6 _ egB F (K ⟨b,off+5,M⟩) (cap - 1) r w1 (by omega) (Af.rest (l:=x::r) (ha▸hr.below h)) (hP.below h) hY);have HY:=Lq7 hX;unfold bxN at H0;rw[lnC];clear hn hP hr hX hY aA;have bE:cap≠1:=(by omega);have hle:1<=cap:=(by omega);generalize r.length=q at hr2 H0 HR hcap |-;obtain⟨⟨b,off,k2,t2,l2,c2,a2,n2,p2,rfl,hbl,r0,r1,r2,r3,r4,-,-,-,-,-,-,hc⟩,aJ⟩:=HX.out _ H0.out.2;simp only[nzm,naz] at r0 r1 r2 r3 r4;have HC:=Lq7 (hc aJ HY.out);have hbw:b<w.heap.size:=by
  obtain⟨⟨b',off',_,_,_,_,_,_,_,he,hb',-⟩,-⟩:=HX.out w (bRf _ _);cases he;exact hb'
 clear hc aJ hbl;rcases hr2 with rfl|rfl
 all_goals
  go_enter Tryz.func26,Tryz.ntmps26;go_wp2_with fail;refine HC.out.mono ?_;rintro e w2 ⟨rfl,aG⟩;have aC:=Lq7 (aIn (stays H0.out.1 aG) (H0.out.2.trans (aG.mono H0.out.2.size)));have HA:=Lq7 (HR.out w2 aC.out.2 b off rfl);obtain⟨q0,q1,q2,q3,q4,q5,-⟩:=Aa aC.out.1;go_wp2_with fail;refine HA.out.mono ?_;rintro e w3 ⟨rfl,aF⟩;have aU:=Lq7 (aC.out.2.trans (aF.mono aC.out.2.size));go_wp2_with fail;go_ret;exact⟨rfl,aU.out⟩
theorem Zw(t:ByteArray)(ht:Ed t.data.toList)(hz:t.size<=65536)(ps:List Nd)(b:Nd)(hl:ps.length<=140737488355328)(hY:∀y∈ps,D8 46 y)(hB:D8 45 b):D8 26 (.mk 6 t l c (ps++[b])):=by
 intro F v w hn hP;obtain⟨a,cap,rfl,hcap,hr⟩:=hn.openC;have hcap:=hcap (by decide);have hlen:(ps++[b]).length=ps.length+1:=(by simp);rw[hlen] at hcap |-;have aA:=Co w 6 t l c a (ps.length+1) cap;have H0:=Lq7 (aIn (heap_alloc_new w (J #[A C 6,I t,A C l,A C c,E a ((ps.length+1:Nat)) cap] 27)) aA);have H1:=Lq7 (Fu t ht hz _ (hP.below aA));have HR:=Lq7 (fun w1 (h:Below w.heap.size w w1)=>G6 _ egP F a cap ps w1 hl (Af.init (hr.below h)) (hP.below h) hY);have HZ:=Lq7 (fun w1 (h:Below w.heap.size w w1)=>aIn (kidY (g:=45) (j:=ps.length) (x:=b) (hr.below h) (by simp)) (hP.below h));have HY:=Lq7 hB;unfold bxN at H0 H1;clear hn hP hr hY hB aA ht hlen;generalize ps.length=q at hl H0 H1 HR HZ hcap |-;go_enter Tryz.func26,Tryz.ntmps26;go_wp2_with fail;refine H1.out.mono ?_;rintro e w1 ⟨rfl,aE⟩;have aB:=Lq7 (aIn (stays H0.out.1 aE) (H0.out.2.trans (aE.mono H0.out.2.size)));have HA:=Lq7 (HR.out w1 aB.out.2);obtain⟨q0,q1,q2,q3,q4,q5,-⟩:=Aa aB.out.1;go_wp2_with fail;refine HA.out.mono ?_;rintro e w2 ⟨rfl,aG⟩;have aC:=Lq7 (aIn (stays aB.out.1 aG) (aB.out.2.trans (aG.mono aB.out.2.size)));clear q0 q1 q2 q3 q4 q5;obtain⟨q0,q1,q2,q3,q4,q5,-⟩:=Aa aC.out.1;obtain⟨⟨b',off',k3,t3,l3,c3,a3,n3,p3,rfl,hbl,r0,r1,r2,r3,r4,-,-,-,-,-,-,hc⟩,aR⟩:=HZ.out _ aC.out.2;have HD:=Lq7 (hc aR HY.out);clear hc aR;go_wp2_with fail;refine HD.out.mono ?_;rintro e w3 ⟨rfl,aF⟩;have aU:=Lq7 (aC.out.2.trans (aF.mono aC.out.2.size));go_wp2_with fail;go_ret;exact⟨rfl,aU.out⟩
theorem Us(t:ByteArray)(ht:Ed t.data.toList)(hz:t.size<=65536)(ty:ByteArray)(hty:typesL.contains ty.data.toList=true)(a1 b1:Int)(r:List Nd)(hr1:r.length<=1)(hY:∀y∈r,D8 44 y):D8 46 (.mk 7 t l c (.mk 9 ty a1 b1 []::r)):=by
 intro F v w hn hP;obtain⟨a,cap,rfl,hcap,hr⟩:=hn.openC;have hcap:=hcap (by decide);rw[lnC] at hcap |-;have aA:=Co w 7 t l c a (r.length+1) cap;have H0:=Lq7 (aIn (heap_alloc_new w (J #[A C 7,I t,A C l,A C c,E a ((r.length+1:Nat)) cap] 27)) aA);have H1:=Lq7 (Fu t ht hz _ (hP.below aA));have HT:=Lq7 (fun w1=>P2 ty w1);rw[hty] at HT;have HX:=Lq7 (fun w1 (h:Below w.heap.size w w1)=>kidY (g:=44) (j:=0) (x:=.mk 9 ty a1 b1 []) (hr.below h) rfl);have HR:=Lq7 (fun w1 (h:Below w.heap.size w w1) (b off:Nat) (ha:a=K ⟨b,off,M⟩)=>G6 _ egX F (K ⟨b,off+5,M⟩) (cap - 1) r w1 (by omega) (Af.rest (l:=.mk 9 ty a1 b1 []::r) (ha▸hr.below h)) (hP.below h) hY);have HN:=Lq7 (fun w1 (h:Below w.heap.size w w1) (x:Option Addr) (q:Nat)=>G6 _ egX F x q [] w1 (by simp) (Af.nil x) (hP.below h) (fun y hy=>by cases hy));unfold bxN at H0 H1;clear hn hP hr hY aA ht hty;by_cases hc1:cap=1
 ·subst hc1;have h0:r.length=0:=(by omega);rw[h0] at H0 H1 |-;clear hr1 hcap h0 HR;rw[lnN] at HN;go_enter Tryz.func46,Tryz.ntmps46;go_wp2_with fail;refine H1.out.mono ?_;rintro e w1 ⟨rfl,aE⟩;have aB:=Lq7 (aIn (stays H0.out.1 aE) (H0.out.2.trans (aE.mono H0.out.2.size)));obtain⟨q0,q1,q2,q3,q4,q5,-⟩:=Aa aB.out.1;obtain⟨b,off,k2,t2,l2,c2,a2,n2,p2,rfl,hbl,r0,r1,r2,r3,r4,aQ,aV,aY,-,-,-,-⟩:=HX.out _ aB.out.2;obtain rfl:k2=9:=aQ;obtain rfl:t2=ty:=aV;obtain rfl:n2=0:=aY;simp only[nzm,naz] at r0 r1 r2 r3 r4;have aC:=Lq7 (aIn (stays aB.out.1 ((bRf _ w1).alloc (nlr _) (J #[A C 9,I t2,A C l2,A C c2,E a2 0 p2] 27))) (aIn (heap_alloc_new w1 (J #[A C 9,I t2,A C l2,A C c2,E a2 0 p2] 27)) (aB.out.2.alloc aB.out.2.size (J #[A C 9,I t2,A C l2,A C c2,E a2 0 p2] 27))));go_wp2_with fail;refine(HT.out _).mono ?_;rintro e w3 ⟨rfl,aF⟩;have aH:=Lq7 (aIn (stays aC.out.1 aF) (aIn (stays aC.out.2.1 aF) (aC.out.2.2.trans (aF.mono aC.out.2.2.size))));clear q0 q1 q2 q3 q4 q5 r0 r1 r2 r3 r4 hbl;obtain⟨q0,q1,q2,q3,q4,q5,-⟩:=Aa aH.out.1;obtain⟨u0,u1,u2,u3,u4,u5,-⟩:=Aa aH.out.2.1;have HA:=Lq7 (HN.out w3 aH.out.2.2 (K ⟨b,off,M⟩) 0);go_wp2_with fail;refine HA.out.mono ?_;rintro e w4 ⟨rfl,aZ⟩;have bA:=Lq7 (aH.out.2.2.trans (aZ.mono aH.out.2.2.size));go_wp2_with fail;go_ret;exact⟨rfl,bA.out⟩
 ·have hr2:r.length=0\/r.length=1:=(by omega);have hle:1<=cap:=(by omega);clear hr1 hcap HN;generalize r.length=q at hr2 H0 H1 HR |-;rcases hr2 with rfl|rfl
  all_goals
   go_enter Tryz.func46,Tryz.ntmps46;go_wp2_with fail;refine H1.out.mono ?_;rintro e w1 ⟨rfl,aE⟩;have aB:=Lq7 (aIn (stays H0.out.1 aE) (H0.out.2.trans (aE.mono H0.out.2.size)));obtain⟨q0,q1,q2,q3,q4,q5,-⟩:=Aa aB.out.1;obtain⟨b,off,k2,t2,l2,c2,a2,n2,p2,rfl,hbl,r0,r1,r2,r3,r4,aQ,aV,aY,-,-,-,-⟩:=HX.out _ aB.out.2;obtain rfl:k2=9:=aQ;obtain rfl:t2=ty:=aV;obtain rfl:n2=0:=aY;simp only[nzm,naz] at r0 r1 r2 r3 r4;have aC:=Lq7 (aIn (stays aB.out.1 ((bRf _ w1).alloc (nlr _) (J #[A C 9,I t2,A C l2,A C c2,E a2 0 p2] 27))) (aIn (heap_alloc_new w1 (J #[A C 9,I t2,A C l2,A C c2,E a2 0 p2] 27)) (aB.out.2.alloc aB.out.2.size (J #[A C 9,I t2,A C l2,A C c2,E a2 0 p2] 27))));go_wp2_with fail;refine(HT.out _).mono ?_;rintro e w3 ⟨rfl,aF⟩;have aH:=Lq7 (aIn (stays aC.out.1 aF) (aIn (stays aC.out.2.1 aF) (aC.out.2.2.trans (aF.mono aC.out.2.2.size))));clear q0 q1 q2 q3 q4 q5 r0 r1 r2 r3 r4 hbl;obtain⟨q0,q1,q2,q3,q4,q5,-⟩:=Aa aH.out.1;obtain⟨u0,u1,u2,u3,u4,u5,-⟩:=Aa aH.out.2.1;have HA:=Lq7 (HR.out w3 aH.out.2.2 b off rfl);go_wp2_with fail;refine HA.out.mono ?_;rintro e w4 ⟨rfl,aZ⟩;have bA:=Lq7 (aH.out.2.2.trans (aZ.mono aH.out.2.2.size));go_wp2_with fail;go_ret;exact⟨rfl,bA.out⟩
end
theorem mayP{d n}(h:O5 d n)(ho:D9 65536 65540 n):D8 46 n:=by
 obtain⟨k,t,a,b,l⟩:=n;rw[D9] at ho
 match l,h,ho with
 | [.mk k1 t1 c1 e1 l1],h,ho=>
  obtain⟨rfl,hn,rfl,ht,rfl⟩:=h;exact Us t hn ho.1 t1 ht c1 e1 [] (by simp) (fun y hy=>by cases hy)
 | [.mk k1 t1 c1 e1 l1,x],h,ho=>
  obtain⟨rfl,hn,rfl,ht,rfl,hx⟩:=h;refine Us t hn ho.1 t1 ht c1 e1 [x] (by simp) (fun y hy=>?_);obtain rfl:=List.mem_singleton.1 hy;have h1:=ho.2.2.2.2;rw[Dn,Dn] at h1;exact Kd hx h1.2.1
theorem mayS:∀(m:Nat) (n:Nd) (d:Nat),ndH n<=m->okS d n->D9 65536 65540 n->D8 26 n
 | 0,n,_,h,_,_=>by have:=E8 n;omega
 | m+1,.mk k t a0 b0 l,d,hm,h,ho=>by
  have hh:ndH (.mk k t a0 b0 l)=ndHs l+2:=(by rw[ndH]);rw[hh] at hm;have bB:∀x∈l,ndH x<=m:=fun x hx=>(by have:=ndH_mem hx;omega);rw[D9] at ho;obtain⟨hz,hlen,-,-,hks⟩:=ho;have aM:=ndOks_iff.1 hks;have hbl:∀x∈l,okB d x->D8 45 x:=fun x hx bG=>by
   have bH:=aM x hx;have hxm:=bB x hx;obtain⟨k2,t2,c2,d2,l2⟩:=x;rw[okB] at bG;obtain⟨rfl,aV,-,hs2⟩:=bG;obtain rfl:t2=⟨#[]⟩:=bytes_ext aV;rw[D9] at bH;rw[ndH] at hxm;have bC:=ndOks_iff.1 bH.2.2.2.2;exact mayB_yes l2 (by omega) fun y hy=>mayS m y (d - 1) (by have:=ndH_mem hy;omega) (J4 hs2 hy) (bC y hy)
  rw[okS] at h;by_cases h2:k=2
  ·subst h2;rw[if_pos rfl] at h;obtain⟨hn,hl,hx⟩:=h;obtain⟨x,rfl⟩:=Gz hl;rw[D7] at hx;exact Ur t hn hz x (Kd hx.1 (aM x (by simp)))
  rw[if_neg h2] at h;by_cases h3:k=3
  ·subst h3;rw[if_pos rfl] at h;obtain⟨ht,hl,hk,hx⟩:=h;obtain rfl:t=⟨#[]⟩:=bytes_ext ht;obtain⟨x,rfl⟩:=Gz hl;rw[D7] at hx;exact mayS_do x (hk x (by simp)) (Kd hx.1 (aM x (by simp)))
  rw[if_neg h3] at h;by_cases h4:k=4
  ·subst h4;rw[if_pos rfl] at h;obtain⟨hn,hl,hi⟩:=h;obtain⟨x,y,rfl⟩:=Jk hl;rw[D6,D6,if_pos rfl,if_neg (by omega)] at hi;exact mayS_for t hn hz x y (Kd hi.1 (aM x (by simp))) (hbl y (by simp) hi.2.1)
  rw[if_neg h4] at h;by_cases h5:k=5
  ·subst h5;rw[if_pos rfl] at h;obtain⟨ht,hl,hi⟩:=h;obtain rfl:t=⟨#[]⟩:=bytes_ext ht
   match l,hl,hi,aM,hbl with
   | [],hl,_,_,_=>simp at hl
   | x::r,hl,hi,aM,hbl=>
    rw[D6,if_pos rfl] at hi;rw[lnC] at hl;exact mayS_if x r (by omega) (Kd hi.1 (aM x (by simp))) fun y hy=>hbl y (by simp[hy]) (Tz hi.2 hy)
  rw[if_neg h5] at h;by_cases h6:k=6
  ·subst h6;rw[if_pos rfl] at h;obtain⟨hn,bI,bD⟩:=h;have bE:l≠[]:=(by rintro rfl;rw[okLa] at bD;exact bD);obtain⟨ps,b,rfl⟩:=last_eq bE;rw[List.dropLast_concat] at bI;rw[lnA] at hlen;exact Zw t hn hz ps b (by omega) (fun y hy=>mayP (bI y hy) (aM y (by simp[hy]))) (hbl b (by simp) (Ks bD))
  ·rw[if_neg h6] at h;exact h.elim
theorem mayS_any{n d}(h:okS d n)(ho:D9 65536 65540 n):D8 26 n:=mayS (ndH n) n d (nlr _) h ho
def PPut(B b d:Nat)(l:List UInt8)(x:List Pc)(w:World)(e:Ending)(w':World):Prop:=e = .returned (.tuple #[])/\Bw B b d (Lib.byteCells (l++Aq x)) w'/\Kp B b w w'
def Dw(g:FuncId)(d:Nat)(pc:Nd->List Pc)(n:Nd):Prop:=∀(F:Nat->Prop) (v:Value) (w:World) (B b:Nat) (l:List UInt8),A2 F w n v->(∀x,F x->x<B)->Bw B b d (Lib.byteCells l) w->B<=w.heap.size->l.length+(Aq (pc n)).length<=1000000000 ->
 Calls Tryz.prog g #[N (K ⟨b,0,M⟩),v] w (PPut B b d l (pc n) w)
theorem Kp.alloc{B b w u}(h:Kp B b w u)(hB:B<=w.heap.size)(o):Kp B b w (u.alloc o):=h.later hB ((bRf _ _).alloc (nlr _) o)
theorem Kp.drew{B b w u}(h:Kp B b w u):Kp B b w u.drew:=⟨h.1.drew,h.2⟩
theorem Kp.size{B b w u}(h:Kp B b w u):w.heap.size<=u.heap.size:=h.1.size
theorem A2.kp{F B b w w' n v}(h:A2 F w n v)(hF:∀x,F x->x<B)(k:Kp B b w w'):A2 F w' n v:=h.mono fun i hi hl=>⟨hi,nll hl k.size,k.1.block i (hF i hi)⟩
theorem Af.kp{F B b w w' a l}(h:Af F w a l)(hF:∀x,F x->x<B)(k:Kp B b w w'):Af F w' a l:=h.mono fun i hi hl=>⟨hi,nll hl k.size,k.1.block i (hF i hi)⟩
theorem Ci(p x):Aq (p::x)=p.raw++Aq x:=List.flatMap_cons
theorem Vc(d):Lib.repeatL [9] d=List.replicate d 9:=by
 induction d with
 | zero=>rfl
 | succ d ih=>rw[List.replicate_succ,<-ih];rfl
theorem P9(B b d:Nat)(l)(w:World)(h:Bw B b d (Lib.byteCells l) w)(hB:B<=w.heap.size)(hlen:l.length+d<=1000000000):
  Calls Tryz.prog 47 #[N (K ⟨b,0,M⟩)] w (PPut B b d l [tabP d] w):=by
 have H:=Lq7 (aIn h (Kp.refl B b w));have hc:=h.facts.1;clear h;go_enter Tryz.func47,Tryz.ntmps47
 go_upto_region 0 with fail
 refine Ba (.s 0 (.s 1 (.s 2 (.s 3 (.s 4 (.s 5 (.s 6 (.h 7 (.h 8 .nil))))))))) 99 (fun W'=>W'.cell? ⟨b,2,M⟩=K (A C d)) hc ?_;clear hc;have H1:=Lq7 (aIn H.out.1.drew H.out.2.drew);generalize w.drew=W1 at H1 |-;refine Ag (N (K ⟨b,0,M⟩)) ?_;refine Ag (N (K ⟨b,0,M⟩)) ?_;refine Ag (N (K ⟨b,0,M⟩)) ?_;refine Ag (N (K ⟨b,0,M⟩)) ?_;refine Ag (N (K ⟨b,0,M⟩)) ?_;refine Ag (N (K ⟨b,2,M⟩)) ?_;refine Bl (A C d) (fun W' hS=>?_) ?_
 ·go_simp
 refine Ad rfl (fun Kx hKx=>?_);go_wp2_with fail;refine(Tryz.strings_Repeat ⟨#[9]⟩ d _ (by omega) (by show 1*d<=_;omega)).mono ?_;rintro e W2 ⟨rfl,aE⟩;have aG:Bw B b d (Lib.byteCells l) W2:=H1.out.1.below aE;have H2:=Lq7 (aIn aG (H1.out.2.later hB aE));have Hs:Hid ((⟨(Lib.repeatL (⟨#[9]⟩:ByteArray).data.toList d).toArray⟩:ByteArray).data.toList=List.replicate d 9):=Lq7 (by show Lib.repeatL [9] d=_;exact Vc d);clear aG aE;generalize (⟨(Lib.repeatL (⟨#[9]⟩:ByteArray).data.toList d).toArray⟩:ByteArray)=s at Hs |-;have hsz:s.size=d:=(by rw[<-Ai,Hs.out,List.length_replicate]);go_wp2_with fail;refine hKx _ _ (fun _=>H2.out.1.facts.1) ?_;(try simp only[gX,Act.put]);refine Ad rfl (fun Ky hKy=>?_);go_wp2_with fail;refine(Da s H2.out.1 (by omega) (nlt hB H2.out.2.size)).mono ?_;rintro e W3 ⟨rfl,h3,aB⟩;rw[Hs.out] at h3;have H3:=Lq7 (aIn h3 (H2.out.2.trans aB));clear h3 aB;go_wp2_with fail;refine hKy _ _ (fun _=>H3.out.1.facts.1) ?_;refine Ay ?_;(try simp only[gX,Act.put]);go_wp2_with fail
 go_end0
 refine⟨rfl,?_,H3.out.2⟩;have h9:=H3.out.1;have e9:Aq [tabP d]=List.replicate d 9:=(by unfold Aq tabP;simp[Pc.raw]);rw[e9];exact h9
theorem Yu(F n v w)(hn:A2 F w n v):Calls Tryz.prog 149 #[v] w (Rq (F3 n) w):=by
 obtain⟨k,t,l,c,kids⟩:=n;obtain⟨a,cap,rfl,-⟩:=hn.open;have aH:=Co w k t l c a kids.length cap;have aD:=Lq7 aH;have Ht:Hid (F3 (.mk k t l c kids)=(k==16 && !(t.toList==[110,111,116]))):=Lq7 (by rw[Lq8];rfl);unfold bxN at aD;clear aH hn;cases hk:k==16
 ·go_enter Tryz.func149,Tryz.ntmps149;go_wp2_with fail;go_ret;exact⟨Bb (by rw[Ht.out,hk];rfl),aD.out⟩
 ·cases ht:t.toList==[110,111,116]
  ·have ht2:(t.toList != [110,111,116])=true:=(by unfold bne;rw[ht];rfl);go_enter Tryz.func149,Tryz.ntmps149;go_wp2_with fail;go_ret;exact⟨Bb (by rw[Ht.out,hk,ht];rfl),aD.out⟩
  ·have ht2:(t.toList != [110,111,116])=false:=(by unfold bne;rw[ht];rfl);go_enter Tryz.func149,Tryz.ntmps149;go_wp2_with fail;go_ret;exact⟨Bb (by rw[Ht.out,hk,ht];rfl),aD.out⟩
theorem Yv(d n br)(hY:Dw 93 d exP n)(F v w B b l)(hn:A2 F w n v)(hF:∀x,F x->x<B)(hp:Bw B b d (Lib.byteCells l) w)(hB:B<=w.heap.size)(hlen:l.length+(Aq (brk br (exP n))).length<=1000000000):
  Calls Tryz.prog 148 #[N (K ⟨b,0,M⟩),v,.bool br] w (PPut B b d l (brk br (exP n)) w):=by
 obtain⟨k,t,ln,c,kids⟩:=n;obtain⟨a,cap,rfl,-⟩:=hn.open;have hlt:=hp.facts.2.2.2;have H0:=Lq7 (aIn (heap_alloc_new w (J #[A C k,I t,A C ln,A C c,E a kids.length cap] 27)) (aIn (hp.alloc (J #[A C k,I t,A C ln,A C c,E a kids.length cap] 27)) ((Kp.refl B b w).alloc hB (J #[A C k,I t,A C ln,A C c,E a kids.length cap] 27))));have HY:=Lq7 (fun(W:World) (l':List UInt8) (hk:Kp B b w W) (hpw:Bw B b d (Lib.byteCells l') W) (hl:l'.length+(Aq (exP (.mk k t ln c kids))).length<=1000000000)=>hY F _ W B b l' (hn.kp hF hk) hF hpw (nlt hB hk.size) hl);have HB:=Lq7 hB;generalize hx:exP (.mk k t ln c kids)=x at HY hlen |-;clear hn hY hF hp hx hB;cases br with
 | false=>
  have hlen:l.length+(Aq x).length<=1000000000:=hlen;have HC:=Lq7 (HY.out _ l H0.out.2.2 H0.out.2.1 hlen);clear hlen;go_enter Tryz.func148,Tryz.ntmps148;go_wp2_with fail;refine HC.out.mono ?_;rintro e w1 ⟨rfl,h1,aA⟩;have H1:=Lq7 (aIn h1 (H0.out.2.2.trans aA));clear h1 aA;go_wp2_with fail
  go_end0
  exact⟨rfl,H1.out.1,H1.out.2⟩
 | true=>
  have aF:Aq (brk true x)=40::(Aq x++[41]):=by
   show Aq (pS 40::(x++[pS 41]))=_;rw[Ci,Bk];rfl
  rw[aF,lnC,lnA,List.length_singleton] at hlen;have HP1:=Lq7 (Er (B:=B) (b:=b) (tb:=d) (l:=l) 40 40 rfl H0.out.2.1 (by omega) (nlt HB.out H0.out.2.2.size));have aC:=Lq7 hlen;have Hfl:=Lq7 aF;clear hlen aF;go_enter Tryz.func148,Tryz.ntmps148;go_wp2_with fail;refine HP1.out.mono ?_;rintro e w1 ⟨rfl,h1,aA⟩;have H1:=Lq7 (aIn (aA.stay H0.out.1 (by decide) (by omega)) (aIn h1 (H0.out.2.2.trans aA)));clear h1 aA;obtain⟨q0,q1,q2,q3,q4,q5,-⟩:=Aa H1.out.1;have HC:=Lq7 (HY.out w1 (l++[40]) H1.out.2.2 H1.out.2.1 (by rw[lnA,List.length_singleton];have:=aC.out;omega));go_wp2_with fail;refine HC.out.mono ?_;rintro e w2 ⟨rfl,h2,aJ⟩;have H2:=Lq7 (aIn h2 (H1.out.2.2.trans aJ));clear h2 aJ q0 q1 q2 q3 q4 q5;have HP2:=Lq7 (Er (B:=B) (b:=b) (tb:=d) 41 41 rfl H2.out.1 (by rw[lnA,lnA,List.length_singleton];have:=aC.out;omega) (nlt HB.out H2.out.2.size));go_wp2_with fail;refine HP2.out.mono ?_;rintro e w3 ⟨rfl,h3,aB⟩;have H3:=Lq7 (aIn h3 (H2.out.2.trans aB));clear h3 aB;go_wp2_with fail
  go_end0
  refine⟨rfl,?_,H3.out.2⟩;rw[Hfl.out];have:=H3.out.1
  simpa using this
end Go.Proofs.YtlbbbapiklendaaGreatDoor
