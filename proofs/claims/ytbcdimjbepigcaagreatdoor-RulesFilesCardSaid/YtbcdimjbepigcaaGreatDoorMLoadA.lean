/-
  Rules in memory;the walks of rules.typeOf,own,Find. (Printed by loada_gen.py.) (And what it stands on.)
-/
import Derived.Deep.DeepCutAuto
import Derived.Test.YtbcdimjbepigcaaGreatDoorMLoadGood
import Derived.Test.YtbcdimjbepigcaaGreatDoorRunN
import Derived.Test.YtbcdimjbepigcaaGreatDoorMHostK
import Derived.Test.YtbcdimjbepigcaaGreatDoorPlainOut
import Derived.Test.YtbcdimjbepigcaaGreatDoorMOpW
import Derived.Test.YtbcdimjbepigcaaGreatDoorMRegionHeldD
import Derived.Test.YtbcdimjbepigcaaGreatDoorMGet05
import Derived.Test.YtbcdimjbepigcaaGreatDoorMParseNz
import Derived.Test.YtbcdimjbepigcaaGreatDoorMCopyE
import Derived.Test.YtbcdimjbepigcaaGreatDoorMNumA
namespace Go.Proofs.YtbcdimjbepigcaaGreatDoor
open Go Go.RowKit
open Nat renaming zero_mul->nzm,le_refl->nlr,lt_of_lt_of_le->nll,le_trans->nlt,add_zero->naz
open Go.RowKit.Below renaming refl->bRf
open Go.Lib renaming hid->Lq7,toList_data->Lq8
open Go.Act renaming put->aP
open And renaming intro->aIn
open Go.World renaming setCell->wsC
open List renaming getElem?_map->lgP
set_option maxRecDepth 100000
set_option maxHeartbeats 16000000
theorem op_contract:OpC:=by
 intro t F k x s l ks k' y s' m ks' a1 c1 a2 c2 a3 c3 a4 c4 w ha hb hF hB hr1 aE hr3 hr4;exact opW_any t k k' x y s s' l m ks ks' ha hb F a1 c1 a2 c2 a3 c3 a4 c4 w hF hB hr1 aE hr3 hr4
theorem plain_all:Qc Cr:=fun _ _ h=>by cases h
theorem Ue(mp mb):Rj 288 (.agg #[]) mp mb (J8 Cr):=by
 intro c w st q a cap hm hr hc hs hl aF;obtain⟨hT,hB⟩:=hm.std;refine(Wo q c.F a cap w hr hm.ok.fl hT hB hl hs hc).mono ?_;rintro e w' ⟨hb,hq⟩;have hg:=T2 q.name.data.toList q.args hc;show ∃c',Mv c w c' w'/\MS c' w' mp mb (J8 Cr) { st with log:=st.log++[q]}/\match (some (G7 q.name.data.toList q.args):Option (Except Int Vl)) with
   | some (.ok x)=>∃cs:List Value,e = .returned (.tuple #[.agg cs.toArray,.int .i64 0])/\Am c'.F w' (valD x) cs/\A6 x
   | some (.error y)=>e = .returned (.tuple #[zeroV,.int .i64 y])/\y≠0
   | none=>True
 have hm':=(hm.below hb).with (g:=fun b=>w.heap.size<=b/\b<w'.heap.size) (fun b hb'=>⟨hb'.2,fun h=>by have:=hm.ok.ml b h;omega⟩);have hms:MS (c.with fun b=>w.heap.size<=b/\b<w'.heap.size) w' mp mb (J8 Cr) { st with log:=st.log++[q]}:=
  ⟨hm'.ok,hm'.head,hm'.hm,hm'.hb,hm'.names,hm'.uniq,hm'.left,hm'.few,by
   obtain⟨own,h1,h2⟩:=hm'.host;exact⟨own,h1,h2⟩⟩
 refine⟨_,(Mv.of_below c hb).with (fun b hb'=>hb'.1),hms,?_⟩;cases aE:G7 q.name.data.toList q.args with
 | ok x=>
  rw[aE] at hq hg;obtain⟨cs,rfl,hag⟩:=hq;exact⟨cs,rfl,hag.mono fun b hb' hl'=>⟨.inr ⟨hb',hl'⟩,hl',rfl⟩,hg⟩
 | error y=>
  rw[aE] at hq hg;exact⟨hq,hg⟩
def NzE(r:Except Int Vl):Prop:=∀y,r = .error y->y≠0
theorem NzE.err{n}(h:n≠0):NzE (.error n):=fun y e=>by cases e;exact h
theorem NzE.ok{v}:NzE (.ok v):=fun y e=>by cases e
theorem NzE.limited(s):NzE (B8 s):=by
 unfold B8;split
 ·exact .err (by decide)
 ·exact .ok
theorem NzE.args{n f}(h:∀l,NzE (f l))(l):NzE (Fx n f l):=by
 unfold Fx;split
 ·exact h _
 ·exact .err (by decide)
theorem NzE.one{f}(h:∀v,NzE (f v)):∀l,NzE (one f l)
 | [v]=>h v
 | []=> .err (by decide)
 | _::_::_=> .err (by decide)
theorem NzE.two{f}(h:∀u v,NzE (f u v)):∀l,NzE (two f l)
 | [u,v]=>h u v
 | []=> .err (by decide)
 | [_]=> .err (by decide)
 | _::_::_::_=> .err (by decide)
theorem NzE.part(of v):NzE (Jg of v):=by
 unfold Jg;split
 ·exact .err (by decide)
 ·split
  ·exact .err (by decide)
  ·exact .limited _
theorem Xr(nm l):NzE (G7 nm l):=by
 unfold G7;split
 ·refine .args (.one fun v=>?_) l;unfold F6
  repeat' split
  all_goals first|exact .ok|exact .err (by decide)
 split
 ·refine .args (.two fun u v=>?_) l;unfold joinL
  repeat' split
  all_goals first|exact .ok|exact .err (by decide)
 split
 ·refine .args (.one fun v=>?_) l;unfold linesL
  repeat' split
  all_goals first|exact .ok|exact .err (by decide)
 split
 ·refine .args (.one fun v=>?_) l;unfold sortedL
  repeat' split
  all_goals first|exact .ok|exact .err (by decide)
 split
 ·refine .args (.one fun v=>?_) l;unfold Le
  repeat' split
  all_goals first|exact .limited _|exact .err (by decide)
 split
 ·refine .args (fun l=>?_) l;unfold I3;split
  ·unfold Jj
   repeat' split
   all_goals first|exact .limited _|exact .err (by decide)|exact .ok
  ·exact .err (by decide)
 split
 ·exact .args (.one (.part _)) l
 split
 ·exact .args (.one (.part _)) l
 split
 ·exact .args (.one (.part _)) l
 ·exact .err (by decide)
theorem plain_nz:Ma Cr:=fun log q y h=>by
 unfold Cr at h;exact Xr _ _ y (by injection h)
def plainH:Value:=.iface 103 (.agg #[])
theorem G2(w):Calls Tryz.prog 20 #[] w (fun e w'=>e = .returned plainH/\Below w.heap.size w w'):=by
 go_enter Tryz.func20,Tryz.ntmps20;go_wp2_with fail;exact bodyPost_ret (v:=plainH) (by simp[plainH,results,Tryz.results20,go_sem]) rfl ⟨rfl,bRf _ _⟩
mutual
theorem smallN_ok:∀{n:Nd},D2 65536 65540 n->Ci n
 | .mk k t l c kids,h=>by
  rw[D2] at h;rw[Ci];exact⟨by unfold maxLen;omega,by omega,smallNs_ok h.2.2.2.2⟩
theorem smallNs_ok:∀{l:List Nd},Ed 65536 65540 l->smallNs l
 | [],_=>by rw[smallNs];trivial
 | x::t,h=>by
  rw[Ed] at h;rw[smallNs];exact⟨smallN_ok h.1,smallNs_ok h.2⟩
end
def Or(b:Nat):Prop:=b=1\/b=0
def Fj(w:World)(b:Nat):Prop:=Or b\/w.heap.size<=b
theorem Or.lt{w}(hT:Et w)(hB:StdB w):∀b,Or b->b<w.heap.size:=by
 obtain⟨m,hm⟩:=hB;rintro b (rfl|rfl)
 ·exact hT.here
 ·exact Au hm
theorem P5(s v):Cu [(s,v)]=[(s,v)]:=by
 have h:C9 [(s,v)] ⟨s.data.toList.toArray⟩=some v:=by
  unfold C9;simp
 simp[Cu,Eo,h]
theorem P6(s v):C9 [(s,v)] s=some v:=by
 unfold C9;simp
def ResW(F:Nat->Prop)(n:Nd)(w:World)(a:Option Addr)(len:Nat)(x l k:Int):Prop:=match workL Cr n with
 | .ok v=>x=0/\l=0/\k=0/\len=1/\Af F w a (Bv [(bs [120],v)])/\A0 v=true
 | .error f=>a=none/\len=0/\f=(x,l,k)/\x≠0
theorem ResW.mono{F G w w' n a len x l k}(h:ResW F n w a len x l k)(hk:∀b,F b->b<w.heap.size->G b/\b<w'.heap.size/\w'.heap[b]? = w.heap[b]?):ResW G n w' a len x l k:=by
 unfold ResW at *;cases hw:workL Cr n with
 | ok v=>rw[hw] at h;exact⟨h.1,h.2.1,h.2.2.1,h.2.2.2.1,h.2.2.2.2.1.mono hk,h.2.2.2.2.2⟩
 | error f=>rw[hw] at h;exact h
theorem ResW.below{F w w' n a len x l k}(h:ResW F n w a len x l k)(hb:Below w.heap.size w w'):ResW F n w' a len x l k:=h.mono (Gs _ hb)
def PGiven(n:Nd)(w:World)(e:Ending)(w':World):Prop:=Below w.heap.size w w'/\∃(a:Option Addr) (len cap:Nat) (x l k:Int),
 e = .returned (.tuple #[.slice a len cap,.int .i64 x,.agg #[.int .i64 l,.int .i64 k]])/\ResW (Fj w) n w' a len x l k
theorem Xs(n)(hok:D2 65536 65540 n)(G a cap w)(hG:∀b,G b->b<w.heap.size)(hr:Af G w a (A2 [Gh n]))(hT:Et w)(hB:StdB w):
  Calls Tryz.prog 19 #[.slice a 1 cap,.slice none 0 0,plainH,.int .i64 20000] w (PGiven n w):=by
 have hsn:smallNs [Gh n]:=by
  rw[smallNs,smallNs];refine⟨?_,trivial⟩;unfold Gh;rw[Ci,smallNs,smallNs];exact⟨by decide,by simp,smallN_ok hok,trivial⟩
 obtain⟨aF,aH⟩:=run_one (n:=n) plain_all hok;have hH:=runN_any (hv:=J8 Cr) op_contract Ue (Vm Cr) plain_nz (fun _=>False) Or (ndH n+1) G [Gh n] a cap 20000 w
  ⟨fun _ h=>h.elim,Or.lt hT hB,fun _ _ h=>h⟩ 103 (.agg #[]) rfl ⟨hT,hB,.inl rfl,.inr rfl⟩ (fun _ _ h=>h) (by decide) hG hr hsn (by simp) aF
  (fun st hst=>by obtain⟨v,hv⟩:=aH st hst;rw[hv];simp)
 refine hH.mono ?_;rintro e w' ⟨c',aC,hq⟩;have hb:Below w.heap.size w w':=⟨aC.os,aC.tape,aC.output,aC.size,fun b hb=>aC.block b hb (fun h=>h)⟩;refine⟨hb,?_⟩;show ∃(a:Option Addr) (len cap:Nat) (x l k:Int),e = .returned (.tuple #[.slice a len cap,.int .i64 x,.agg #[.int .i64 l,.int .i64 k]])/\ResW (Fj w) n w' a len x l k;have aG:(J8 Cr).ans=Cr:=rfl;rw[aG] at hq;unfold ResW workL;cases hres:eRun Cr (ndH n+1) [Gh n] 20000 with
 | out=>exact absurd hres aF
 | err x l k=>
  rw[hres] at hq;subst hq;exact⟨none,0,0,x,l,k,rfl,rfl,rfl,rfl,ENz.block (ENz.stmts plain_nz (ndH n+1)) _ _ _ _ _ hres⟩
 | ok u st=>
  rw[hres] at hq;obtain⟨-,-,aD,a',cap',rfl,aB⟩:=hq;obtain⟨v,hv⟩:=aH st hres;rw[hv] at aB aD;have hl1:(Cu st.names).length=1:=(by rw[hv,P5];rfl);refine⟨a',1,cap',0,0,0,by rw[hl1],rfl,rfl,rfl,rfl,?_,?_⟩
  ·rw[P5] at aB;rw[hv,P6];exact aB.mono fun b hb' hl=>⟨by
    rcases aC.f b hb' with h|h
    ·exact .inl h
    ·exact .inr h,hl,rfl⟩
  ·rw[hv,P6];exact(aD _ (List.mem_singleton.2 rfl)).1
theorem Af.one{F w b cs t ds}(hb:w.heap[b]? = some (.cells cs.toArray t (0,0)))(hF:F b)(ha:Am F w ds cs):Af F w (some ⟨b,0,none⟩) [ds]:=by
 intro j d hj;cases j with
 | succ j=>simp at hj
 | zero=>
  simp at hj;subst hj;obtain⟨h1,h2,-⟩:=A5 hb;exact⟨b,0,cs,rfl,hF,h1,ha,fun i u hu=>by
   rw[nzm,Nat.zero_add,h2]
   simpa using hu⟩
structure WK(w:World)(nv gv:Array Value)(W:World):Prop where
 n0:W.heap[w.heap.size]? = some (.cells nv 49 (0,0))
 v0:W.heap[w.heap.size+1]? = some (.cells #[.int .i64 0,.int .i64 0,.string ⟨#[]⟩,.slice none 0 0,.slice none 0 0] 42 (0,0))
 f0:W.heap[w.heap.size+1+1]? = some (.cells #[.int .i64 0,.int .i64 0,.int .i64 0] 67 (0,0))
 k0:W.heap[w.heap.size+1+1+1]? = some (.cells nv 49 (0,0))
 g0:W.heap[w.heap.size+1+1+1+1]? = some (.cells gv 49 (0,0))
 b:Below w.heap.size w W
theorem WK.below{w W W' nv gv}(h:WK w nv gv W)(k:Below W.heap.size W W'):WK w nv gv W':=
 ⟨stays h.n0 k,stays h.v0 k,stays h.f0 k,stays h.k0 k,stays h.g0 k,h.b.trans (k.mono h.b.size)⟩
structure WE(w:World)(v f:Array Value)(W:World):Prop where
 v0:W.heap[w.heap.size+1]? = some (.cells v 42 (0,0))
 f0:W.heap[w.heap.size+1+1]? = some (.cells f 67 (0,0))
 b:Below w.heap.size w W
theorem WK.we{w W nv gv}(h:WK w nv gv W):WE w #[.int .i64 0,.int .i64 0,.string ⟨#[]⟩,.slice none 0 0,.slice none 0 0] #[.int .i64 0,.int .i64 0,.int .i64 0] W:=⟨h.v0,h.f0,h.b⟩
theorem WE.below{w W W' v f}(h:WE w v f W)(k:Below W.heap.size W W'):WE w v f W':=⟨stays h.v0 k,stays h.f0 k,h.b.trans (k.mono h.b.size)⟩
theorem WE.setV{w W x0 x1 x2 x3 x4 f}(h:WE w #[x0,x1,x2,x3,x4] f W)(v0 v1 v2 v3 v4):WE w #[v0,v1,v2,v3,v4] f (Cb W (w.heap.size+1) v0 v1 v2 v3 v4):=by
 unfold Cb;have hb:=fun(o:Nat) (v:Value) (W:World) (h:Below w.heap.size w W)=>h.setCell (p:=⟨w.heap.size+1,o,none⟩) (by show _<=w.heap.size+1;omega) v;exact⟨by rw[Ag (Ag (Ag (Ag (Ag h.v0 0 _) 1 _) 2 _) 3 _) 4];rfl,(Ba (by omega) v0 v1 v2 v3 v4).trans h.f0,hb _ _ _ (hb _ _ _ (hb _ _ _ (hb _ _ _ (hb _ _ _ h.b))))⟩
theorem WE.setF{w W v x0 x1 x2}(h:WE w v #[x0,x1,x2] W)(v0 v1 v2):WE w v #[v0,v1,v2] (Bs W (w.heap.size+1+1) v0 v1 v2):=by
 unfold Bs;have hb:=fun(o:Nat) (v:Value) (W:World) (h:Below w.heap.size w W)=>h.setCell (p:=⟨w.heap.size+1+1,o,none⟩) (by show _<=w.heap.size+1+1;omega) v;exact⟨by rw[Ad (by omega),Ad (by omega),Ad (by omega)];exact h.v0,by rw[Ag (Ag (Ag h.f0 0 _) 1 _) 2];rfl,hb _ _ _ (hb _ _ _ (hb _ _ _ h.b))⟩
def WG(w:World)(G:Nat->Prop)(sb b:Nat):Prop:=G b\/b=w.heap.size+1+1+1\/b=sb
theorem WK.run{w W kk l k t kids a cap G}(h:WK w #[.int .i64 kk,.string t,.int .i64 l,.int .i64 k,.slice a kids.length cap] #[.int .i64 2,.string ⟨#[120]⟩,.int .i64 l,.int .i64 k,.slice (some ⟨w.heap.size+1+1+1,0,none⟩) 1 1] W)(hok:D2 65536 65540 (.mk kk t l k kids))(hG:∀b,G b->b<w.heap.size)(hn:A3 G w (.mk kk t l k kids) (.agg #[.int .i64 kk,.string t,.int .i64 l,.int .i64 k,.slice a kids.length cap]))(hT:Et w)(hB:StdB w){sb}(hs:W.heap[sb]? = some (.cells #[.int .i64 2,.string ⟨#[120]⟩,.int .i64 l,.int .i64 k,.slice (some ⟨w.heap.size+1+1+1,0,none⟩) 1 1] 49 (0,0))):
  Calls Tryz.prog 19 #[.slice (some ⟨sb,0,none⟩) 1 1,.slice none 0 0,plainH,.int .i64 20000] W (PGiven (.mk kk t l k kids) W):=by
 refine Xs _ hok (WG w G sb) _ 1 W (fun b hb=>?_) ?_ (hT.below h.b) (hB.below h.b)
 ·rcases hb with hb|rfl|rfl
  ·exact nll (hG b hb) h.b.size
  ·exact here h.k0
  ·exact here hs
 ·obtain⟨cs,bM,bN⟩:=hn;obtain rfl:cs=[.int .i64 kk,.string t,.int .i64 l,.int .i64 k,.slice a kids.length cap]:=(by simpa using bM.symm);have hk:Af (WG w G sb) W (some ⟨w.heap.size+1+1+1,0,none⟩) (A2 [.mk kk t l k kids]):=by
   rw[Cj];exact Af.one (cs:=[.int .i64 kk,.string t,.int .i64 l,.int .i64 k,.slice a kids.length cap]) h.k0 (.inr (.inl rfl)) (bN.mono fun b hb hl=>⟨.inl hb,nll hl h.b.size,h.b.block b hl⟩)
  have hv:=A3.mk (F:=WG w G sb) (w:=W) (kids:=[.mk kk t l k kids]) 2 ⟨#[120]⟩ l k 1 hk;obtain⟨cs,bM,bO⟩:=hv;obtain rfl:cs=[.int .i64 2,.string ⟨#[120]⟩,.int .i64 l,.int .i64 k,.slice (some ⟨w.heap.size+1+1+1,0,none⟩) 1 1]:=(by simpa using bM.symm);rw[Cj];exact Af.one (cs:=[.int .i64 2,.string ⟨#[120]⟩,.int .i64 l,.int .i64 k,.slice (some ⟨w.heap.size+1+1+1,0,none⟩) 1 1]) hs (.inr (.inr rfl)) bO
def G1(w:World)(b:Nat):Prop:=Or b\/w.heap.size+1+1+1<=b
theorem Fr{w W nv gv n a len x y z u v pb}(h:WK w nv gv W)(hr:ResW (fun b=>G1 w b/\b≠pb) n W a len x y z)(hp:W.heap[pb]? = some (.cells #[.int .i64 u,.int .i64 v] 28 (0,0)))(hb:w.heap.size+1+1+1+1<pb):
  WK w nv gv ((W.setCell ⟨pb,0,none⟩ (.int .i64 y)).setCell ⟨pb,1,none⟩ (.int .i64 z))/\ResW (G1 w) n ((W.setCell ⟨pb,0,none⟩ (.int .i64 y)).setCell ⟨pb,1,none⟩ (.int .i64 z)) a len x y z /\
   ((W.setCell ⟨pb,0,none⟩ (.int .i64 y)).setCell ⟨pb,1,none⟩ (.int .i64 z)).heap[pb]? = some (.cells #[.int .i64 y,.int .i64 z] 28 (0,0))/\w.heap.size+1+1+1+1<pb:=by
 have ho:∀b,b≠pb->((W.setCell ⟨pb,0,none⟩ (.int .i64 y)).setCell ⟨pb,1,none⟩ (.int .i64 z)).heap[b]? = W.heap[b]?:=fun b hb=>(Ad hb 1 _).trans (Ad hb 0 _);exact⟨⟨(ho _ (by omega)).trans h.n0,(ho _ (by omega)).trans h.v0,(ho _ (by omega)).trans h.f0,(ho _ (by omega)).trans h.k0,(ho _ (by omega)).trans h.g0,(h.b.setCell (p:=⟨pb,0,none⟩) (by show _<=pb;omega) _).setCell (p:=⟨pb,1,none⟩) (by show _<=pb;omega) _⟩,
  hr.mono fun b hb hl=>⟨hb.1,by simpa using hl,ho b hb.2⟩,by rw[Ag (Ag hp 0 _) 1];rfl,hb⟩
def PWork(w0:World)(n:Nd)(w:World)(e:Ending)(w':World):Prop:=Below w.heap.size w w'/\match workL Cr n with
 | .ok v=>∃cs:List Value,e = .returned (.tuple #[.agg cs.toArray,Ai 0 0 0])/\Am (Fj w0) w' (valD v) cs/\A0 v=true
 | .error f=>e = .returned (badV f.1 f.2.1 f.2.2)/\f.1≠0
theorem Ud(n)(hok:D2 65536 65540 n)(G v w)(hG:∀b,G b->b<w.heap.size)(hn:A3 G w n v)(hT:Et w)(hB:StdB w):
  Calls Tryz.prog 83 #[v] w (PWork w n w):=by
 obtain⟨kk,t,l,k,kids⟩:=n;obtain⟨a,cap,rfl,-⟩:=hn.open;obtain⟨h1,h2,h3,h4,h5⟩:=Ch w (.cells #[.int .i64 kk,.string t,.int .i64 l,.int .i64 k,.slice a kids.length cap] 49) (.cells #[.int .i64 0,.int .i64 0,.string ⟨#[]⟩,.slice none 0 0,.slice none 0 0] 42) (.cells #[.int .i64 0,.int .i64 0,.int .i64 0] 67);generalize hW3:((w.alloc (.cells #[.int .i64 kk,.string t,.int .i64 l,.int .i64 k,.slice a kids.length cap] 49)).alloc (.cells #[.int .i64 0,.int .i64 0,.string ⟨#[]⟩,.slice none 0 0,.slice none 0 0] 42)).alloc (.cells #[.int .i64 0,.int .i64 0,.int .i64 0] 67)=W3 at h1 h2 h3 h4 h5;have bC:W3.heap.size=w.heap.size+1+1+1:=h5;obtain⟨m1,m2,m3,m4⟩:=D5 W3 (.cells #[.int .i64 kk,.string t,.int .i64 l,.int .i64 k,.slice a kids.length cap] 49) (.cells #[.int .i64 2,.string ⟨#[120]⟩,.int .i64 l,.int .i64 k,.slice (some ⟨w.heap.size+1+1+1,0,none⟩) 1 1] 49);rw[bC] at m1 m2;have H0:Hid (WK w #[.int .i64 kk,.string t,.int .i64 l,.int .i64 k,.slice a kids.length cap] #[.int .i64 2,.string ⟨#[120]⟩,.int .i64 l,.int .i64 k,.slice (some ⟨w.heap.size+1+1+1,0,none⟩) 1 1] ((W3.alloc (.cells #[.int .i64 kk,.string t,.int .i64 l,.int .i64 k,.slice a kids.length cap] 49)).alloc (.cells #[.int .i64 2,.string ⟨#[120]⟩,.int .i64 l,.int .i64 k,.slice (some ⟨w.heap.size+1+1+1,0,none⟩) 1 1] 49))):=Lq7
  ⟨stays h1 m3,stays h2 m3,stays h3 m3,m1,m2,h4.trans (m3.mono h4.size)⟩
 subst hW3;have aZ:=Lq7 (fun(W:World) (h:WK w #[.int .i64 kk,.string t,.int .i64 l,.int .i64 k,.slice a kids.length cap] #[.int .i64 2,.string ⟨#[120]⟩,.int .i64 l,.int .i64 k,.slice (some ⟨w.heap.size+1+1+1,0,none⟩) 1 1] W) (sb:Nat) (hs:W.heap[sb]? = some (.cells #[.int .i64 2,.string ⟨#[120]⟩,.int .i64 l,.int .i64 k,.slice (some ⟨w.heap.size+1+1+1,0,none⟩) 1 1] 49 (0,0)))=>h.run hok hG hn hT hB hs);obtain⟨q0,q1,q2,q3,q4,q5,-⟩:=Aa h1;have bA:=Lq7 (Or.lt hT hB);clear h2 h3 h4 h5 m1 m2 m3 m4 bC hn hG hok hT hB;go_enter Tryz.func83,Tryz.ntmps83
 go_upto_region 2 with fail
 clear q0 q1 q2 q3 q4 q5 h1;generalize World.alloc _ _=W0 at H0 |-
 go_cut [5,6,7] from 15 to 22 (fun v5 v6 v7 wc=>∃(ra:Option Addr) (len rc:Nat) (x y z:Int) (pb:Nat),v5 = .slice ra len rc/\v6 = .int .i64 x/\v7 = .pointer (some ⟨pb,0,none⟩)/\Hid (WK w #[.int .i64 kk,.string t,.int .i64 l,.int .i64 k,.slice a kids.length cap] #[.int .i64 2,.string ⟨#[120]⟩,.int .i64 l,.int .i64 k,.slice (some ⟨w.heap.size+1+1+1,0,none⟩) 1 1] wc/\ResW (G1 w) (.mk kk t l k kids) wc ra len x y z/\wc.heap[pb]? = some (.cells #[.int .i64 y,.int .i64 z] 28 (0,0))/\w.heap.size+1+1+1+1<pb))
 case first=>
  obtain⟨Wd,bG⟩:∃Wd,Wd=W0.drew:=⟨_,rfl⟩;have H1:Hid (WK w #[.int .i64 kk,.string t,.int .i64 l,.int .i64 k,.slice a kids.length cap] #[.int .i64 2,.string ⟨#[120]⟩,.int .i64 l,.int .i64 k,.slice (some ⟨w.heap.size+1+1+1,0,none⟩) 1 1] Wd):=Lq7 (by rw[bG];exact H0.out.below ((bRf _ W0).drew));have bQ:=H1.out.g0;obtain⟨bd,bH⟩:∃bd,bd=Wd.heap.size:=⟨_,rfl⟩;clear H0;refine A4 (.s 0 (.c 1 (.b 2 (.b 3 (.s 4 (.s 5 (.s 6 (.s 7 (.h 8 (.s 9 (.s 10 (.h 11 .nil)))))))) 8 (.h 3 (.s 4 (.s 5 (.s 6 (.s 7 (.s 9 (.s 10 (.h 11 .nil))))))))) 8 (.h 2 (.h 3 (.s 4 (.s 5 (.s 6 (.s 7 (.s 9 (.s 10 (.h 11 .nil)))))))))) 2 (.b 1 (.b 3 (.s 4 (.s 5 (.s 6 (.s 7 (.h 8 (.s 9 (.s 10 (.h 11 .nil)))))))) 8 (.h 3 (.s 4 (.s 5 (.s 6 (.s 7 (.s 9 (.s 10 (.h 11 .nil))))))))) 8 (.h 1 (.h 3 (.s 4 (.s 5 (.s 6 (.s 7 (.s 9 (.s 10 (.h 11 .nil)))))))))) 8 (.b 1 (.h 2 (.h 3 (.s 4 (.s 5 (.s 6 (.s 7 (.s 9 (.s 10 (.h 11 .nil))))))))) 2 (.h 1 (.h 3 (.s 4 (.s 5 (.s 6 (.s 7 (.s 9 (.s 10 (.h 11 .nil)))))))))))) 11 (fun W'=>Below bd Wd W') (by rw[bH,bG];exact bRf _ _) ?_;rw[<-bG];clear bG;have aD:Hid (Below bd Wd Wd):=Lq7 (bRf _ _);refine A9 (.agg #[.int .i64 2,.string ⟨#[120]⟩,.int .i64 l,.int .i64 k,.slice (some ⟨w.heap.size+1+1+1,0,none⟩) 1 1]) (fun W' hS=>?_) ?_
  ·obtain⟨z0,z1,z2,z3,z4,z5,-⟩:=Aa (stays bQ (bH▸hS));clear hS;go_simp
  have aQ:Hid (bd<=Wd.heap.size):=Lq7 (by rw[bH];exact nlr _);clear bQ bH;refine T6 rfl rfl rfl (fun Kx aE=>?_) (fun Ky aY=>?_) (fun Kz bR=>?_)
  ·have aB:Below Wd.heap.size Wd (Wd.alloc (.cells #[.int .i64 2,.string ⟨#[120]⟩,.int .i64 l,.int .i64 k,.slice (some ⟨w.heap.size+1+1+1,0,none⟩) 1 1] 49)):=(bRf _ _).alloc (nlr _) _;have aJ:=heap_alloc_new Wd (.cells #[.int .i64 2,.string ⟨#[120]⟩,.int .i64 l,.int .i64 k,.slice (some ⟨w.heap.size+1+1+1,0,none⟩) 1 1] 49);have HN:=Lq7 (aIn aB (H1.out.below aB));have aF:=Lq7 aJ;have aC:=Lq7 (aD.out.trans (aB.mono (nlt aQ.out aD.out.size)));clear aB aJ H1 aD;go_wp2_with fail;refine aE _ _ (fun _=>aC.out) ?_;(try simp only[gX,aP]);generalize aR:Wd.heap.size=sb at aF |-;clear aR;generalize World.alloc _ _=W1 at HN aC aF |-;replace HN:=Lq7 HN.out.2;have Hs:=aF;clear aF;have aD:=aC;have H1:=HN;clear aC HN aE;refine Ca rfl rfl (fun Kx aE=>?_) (fun Ky aY=>?_)
   ·go_wp2_with fail;refine(G2 _).mono ?_;rintro e W2 ⟨rfl,aB⟩;have HN:=Lq7 (H1.out.below aB);have aF:=Lq7 (stays Hs.out aB);have aC:=Lq7 (aD.out.trans (aB.mono (nlt aQ.out aD.out.size)));clear aB H1 aD Hs;unfold plainH;go_wp2_with fail;refine aE _ _ (fun _=>aC.out) ?_;(try simp only[gX,aP]);have Hs:=aF;clear aF;have aD:=aC;have H1:=HN;clear aC HN aE;refine Ca rfl rfl (fun Kx aE=>?_) (fun Ky aY=>?_)
    ·have HR:=Lq7 (aZ.out _ H1.out _ Hs.out);unfold plainH at HR;go_wp2_with fail;refine HR.out.mono ?_;rintro e W3 ⟨aB,ra,len,rc,x,y,z,rfl,aH⟩;have HN:=Lq7 (H1.out.below aB);have aF:=Lq7 (stays Hs.out aB);have aM:Hid (ResW (fun b=>G1 w b/\b<W3.heap.size) (.mk kk t l k kids) W3 ra len x y z):=Lq7 (aH.mono fun b hb hl=>⟨⟨by rcases hb with hb|hb;exact .inl hb;exact .inr (by have:=here H1.out.g0;omega),hl⟩,hl,rfl⟩);have aC:=Lq7 (aD.out.trans (aB.mono (nlt aQ.out aD.out.size)));clear aB aH HR H1 aD Hs;go_wp2_with fail;refine aE _ _ (fun _=>aC.out) ?_;(try simp only[gX,aP]);have Hs:=aF;clear aF;have Hr:=aM;clear aM;have aD:=aC;have H1:=HN;clear aC HN aE;refine Aj (.tuple #[.slice ra len rc,.int .i64 x,.agg #[.int .i64 y,.int .i64 z]]) ?_;refine Aj (.slice ra len rc) ?_;refine Aj (.int .i64 x) ?_;refine Aj (.agg #[.int .i64 y,.int .i64 z]) ?_;refine Ac rfl (fun Kx aE=>?_);have aB:Below W3.heap.size W3 (W3.alloc (.cells #[.int .i64 0,.int .i64 0] 28)):=(bRf _ _).alloc (nlr _) _;have aJ:=heap_alloc_new W3 (.cells #[.int .i64 0,.int .i64 0] 28);have aN:w.heap.size+1+1+1+1<W3.heap.size:=here H1.out.g0;have HN:=Lq7 (aIn aB (H1.out.below aB));have aF:=Lq7 (stays Hs.out aB);have aM:=Lq7 ((Hr.out.mono fun b hb hl=>⟨⟨hb.1,by omega⟩,hl,rfl⟩:ResW (fun b=>G1 w b/\b≠W3.heap.size) _ W3 ra len x y z).below aB);have aG:=Lq7 aJ;have aC:=Lq7 (aD.out.trans (aB.mono (nlt aQ.out aD.out.size)));clear aB aJ H1 aD Hs Hr;go_wp2_with fail;refine aE _ _ (fun _=>aC.out) ?_;(try simp only[gX,aP]);generalize aR:W3.heap.size=pb at aG aN aM |-;clear aR;generalize World.alloc _ _=W4 at HN aC aF aM aG |-;replace HN:=Lq7 HN.out.2;have Hs:=aF;clear aF;have Hp:=aG;clear aG;have Hr:=aM;clear aM;have aD:=aC;have H1:=HN;clear aC HN aE;refine Aj (.slice ra len rc) ?_;refine Aj (.int .i64 x) ?_;obtain⟨q0,q1,q2,q3,q4⟩:=Av Hp.out;have aU:w.heap.size+1+1+1+1<pb:=aN;have HE:Hid (WK w #[.int .i64 kk,.string t,.int .i64 l,.int .i64 k,.slice a kids.length cap] #[.int .i64 2,.string ⟨#[120]⟩,.int .i64 l,.int .i64 k,.slice (some ⟨w.heap.size+1+1+1,0,none⟩) 1 1] ((W4.setCell ⟨pb,0,none⟩ (.int .i64 y)).setCell ⟨pb,1,none⟩ (.int .i64 z))/\ResW (G1 w) (.mk kk t l k kids) ((W4.setCell ⟨pb,0,none⟩ (.int .i64 y)).setCell ⟨pb,1,none⟩ (.int .i64 z)) ra len x y z/\((W4.setCell ⟨pb,0,none⟩ (.int .i64 y)).setCell ⟨pb,1,none⟩ (.int .i64 z)).heap[pb]? = some (.cells #[.int .i64 y,.int .i64 z] 28 (0,0))/\w.heap.size+1+1+1+1<pb):=Lq7 (Fr H1.out Hr.out Hp.out aU);clear H1 Hr Hp Hs aD aN aU;refine Ac rfl (fun Kx aE=>?_);go_wp2_with fail;refine aE _ _ (fun h=>absurd rfl h) ?_;generalize wsC _ _ _=WE at HE |-;clear q0 q1 q2 q3 q4 aE;refine Ak ?_;(try simp only[gX,aP]);go_wp2_with fail;go_meet
     case rel=>exact⟨ra,len,rc,x,y,z,pb,rfl,rfl,rfl,HE⟩
    ·have aB:Below W2.heap.size W2 (W2.alloc (.cells #[.int .i64 0,.int .i64 0] 28)):=(bRf _ _).alloc (nlr _) _;have aJ:=heap_alloc_new W2 (.cells #[.int .i64 0,.int .i64 0] 28);have aN:w.heap.size+1+1+1+1<W2.heap.size:=here H1.out.g0;have HN:=Lq7 (aIn aB (H1.out.below aB));have aF:=Lq7 (stays Hs.out aB);have aG:=Lq7 aJ;have aC:=Lq7 (aD.out.trans (aB.mono (nlt aQ.out aD.out.size)));clear aB aJ H1 aD Hs;go_wp2_with fail;refine aY _ _ (fun _=>aC.out) ?_;(try simp only[gX,aP]);generalize aR:W2.heap.size=pb at aG aN |-;clear aR;generalize World.alloc _ _=W3 at HN aC aF aG |-;replace HN:=Lq7 HN.out.2;have Hs:=aF;clear aF;have Hp:=aG;clear aG;have aD:=aC;have H1:=HN;clear aC HN aY;refine Ac rfl (fun Kx aE=>?_);have HR:=Lq7 (aZ.out _ H1.out _ Hs.out);unfold plainH at HR;go_wp2_with fail;refine HR.out.mono ?_;rintro e W4 ⟨aB,ra,len,rc,x,y,z,rfl,aH⟩;have HN:=Lq7 (H1.out.below aB);have aF:=Lq7 (stays Hs.out aB);have aG:=Lq7 (stays Hp.out aB);have aM:Hid (ResW (fun b=>G1 w b/\b≠pb) (.mk kk t l k kids) W4 ra len x y z):=Lq7 (aH.mono fun b hb hl=>⟨by rcases hb with hb|hb;exact⟨.inl hb,by have:=bA.out b hb;omega⟩;exact⟨.inr (by have:=here H1.out.g0;omega),by have:=here Hp.out;omega⟩,hl,rfl⟩);have aC:=Lq7 (aD.out.trans (aB.mono (nlt aQ.out aD.out.size)));clear aB aH HR H1 aD Hs Hp;go_wp2_with fail;refine aE _ _ (fun _=>aC.out) ?_;(try simp only[gX,aP]);have Hs:=aF;clear aF;have Hp:=aG;clear aG;have Hr:=aM;clear aM;have aD:=aC;have H1:=HN;clear aC HN aE;refine Aj (.tuple #[.slice ra len rc,.int .i64 x,.agg #[.int .i64 y,.int .i64 z]]) ?_;refine Aj (.slice ra len rc) ?_;refine Aj (.int .i64 x) ?_;refine Aj (.agg #[.int .i64 y,.int .i64 z]) ?_;refine Aj (.slice ra len rc) ?_;refine Aj (.int .i64 x) ?_;obtain⟨q0,q1,q2,q3,q4⟩:=Av Hp.out;have aU:w.heap.size+1+1+1+1<pb:=aN;have HE:Hid (WK w #[.int .i64 kk,.string t,.int .i64 l,.int .i64 k,.slice a kids.length cap] #[.int .i64 2,.string ⟨#[120]⟩,.int .i64 l,.int .i64 k,.slice (some ⟨w.heap.size+1+1+1,0,none⟩) 1 1] ((W4.setCell ⟨pb,0,none⟩ (.int .i64 y)).setCell ⟨pb,1,none⟩ (.int .i64 z))/\ResW (G1 w) (.mk kk t l k kids) ((W4.setCell ⟨pb,0,none⟩ (.int .i64 y)).setCell ⟨pb,1,none⟩ (.int .i64 z)) ra len x y z/\((W4.setCell ⟨pb,0,none⟩ (.int .i64 y)).setCell ⟨pb,1,none⟩ (.int .i64 z)).heap[pb]? = some (.cells #[.int .i64 y,.int .i64 z] 28 (0,0))/\w.heap.size+1+1+1+1<pb):=Lq7 (Fr H1.out Hr.out Hp.out aU);clear H1 Hr Hp Hs aD aN aU;refine Ac rfl (fun Kx aE=>?_);go_wp2_with fail;refine aE _ _ (fun h=>absurd rfl h) ?_;generalize wsC _ _ _=WE at HE |-;clear q0 q1 q2 q3 q4 aE;refine Ak ?_;(try simp only[gX,aP]);go_wp2_with fail;go_meet
     case rel=>exact⟨ra,len,rc,x,y,z,pb,rfl,rfl,rfl,HE⟩
   ·have aB:Below W1.heap.size W1 (W1.alloc (.cells #[.int .i64 0,.int .i64 0] 28)):=(bRf _ _).alloc (nlr _) _;have aJ:=heap_alloc_new W1 (.cells #[.int .i64 0,.int .i64 0] 28);have aN:w.heap.size+1+1+1+1<W1.heap.size:=here H1.out.g0;have HN:=Lq7 (aIn aB (H1.out.below aB));have aF:=Lq7 (stays Hs.out aB);have aG:=Lq7 aJ;have aC:=Lq7 (aD.out.trans (aB.mono (nlt aQ.out aD.out.size)));clear aB aJ H1 aD Hs;go_wp2_with fail;refine aY _ _ (fun _=>aC.out) ?_;(try simp only[gX,aP]);generalize aR:W1.heap.size=pb at aG aN |-;clear aR;generalize World.alloc _ _=W2 at HN aC aF aG |-;replace HN:=Lq7 HN.out.2;have Hs:=aF;clear aF;have Hp:=aG;clear aG;have aD:=aC;have H1:=HN;clear aC HN aY;refine Ac rfl (fun Kx aE=>?_);go_wp2_with fail;refine(G2 _).mono ?_;rintro e W3 ⟨rfl,aB⟩;have HN:=Lq7 (H1.out.below aB);have aF:=Lq7 (stays Hs.out aB);have aG:=Lq7 (stays Hp.out aB);have aC:=Lq7 (aD.out.trans (aB.mono (nlt aQ.out aD.out.size)));clear aB H1 aD Hs Hp;unfold plainH;go_wp2_with fail;refine aE _ _ (fun _=>aC.out) ?_;(try simp only[gX,aP]);have Hs:=aF;clear aF;have Hp:=aG;clear aG;have aD:=aC;have H1:=HN;clear aC HN aE;refine Ac rfl (fun Kx aE=>?_);have HR:=Lq7 (aZ.out _ H1.out _ Hs.out);unfold plainH at HR;go_wp2_with fail;refine HR.out.mono ?_;rintro e W4 ⟨aB,ra,len,rc,x,y,z,rfl,aH⟩;have HN:=Lq7 (H1.out.below aB);have aF:=Lq7 (stays Hs.out aB);have aG:=Lq7 (stays Hp.out aB);have aM:Hid (ResW (fun b=>G1 w b/\b≠pb) (.mk kk t l k kids) W4 ra len x y z):=Lq7 (aH.mono fun b hb hl=>⟨by rcases hb with hb|hb;exact⟨.inl hb,by have:=bA.out b hb;omega⟩;exact⟨.inr (by have:=here H1.out.g0;omega),by have:=here Hp.out;omega⟩,hl,rfl⟩);have aC:=Lq7 (aD.out.trans (aB.mono (nlt aQ.out aD.out.size)));clear aB aH HR H1 aD Hs Hp;go_wp2_with fail;refine aE _ _ (fun _=>aC.out) ?_;(try simp only[gX,aP]);have Hs:=aF;clear aF;have Hp:=aG;clear aG;have Hr:=aM;clear aM;have aD:=aC;have H1:=HN;clear aC HN aE;refine Aj (.tuple #[.slice ra len rc,.int .i64 x,.agg #[.int .i64 y,.int .i64 z]]) ?_;refine Aj (.slice ra len rc) ?_;refine Aj (.int .i64 x) ?_;refine Aj (.agg #[.int .i64 y,.int .i64 z]) ?_;refine Aj (.slice ra len rc) ?_;refine Aj (.int .i64 x) ?_;obtain⟨q0,q1,q2,q3,q4⟩:=Av Hp.out;have aU:w.heap.size+1+1+1+1<pb:=aN;have HE:Hid (WK w #[.int .i64 kk,.string t,.int .i64 l,.int .i64 k,.slice a kids.length cap] #[.int .i64 2,.string ⟨#[120]⟩,.int .i64 l,.int .i64 k,.slice (some ⟨w.heap.size+1+1+1,0,none⟩) 1 1] ((W4.setCell ⟨pb,0,none⟩ (.int .i64 y)).setCell ⟨pb,1,none⟩ (.int .i64 z))/\ResW (G1 w) (.mk kk t l k kids) ((W4.setCell ⟨pb,0,none⟩ (.int .i64 y)).setCell ⟨pb,1,none⟩ (.int .i64 z)) ra len x y z/\((W4.setCell ⟨pb,0,none⟩ (.int .i64 y)).setCell ⟨pb,1,none⟩ (.int .i64 z)).heap[pb]? = some (.cells #[.int .i64 y,.int .i64 z] 28 (0,0))/\w.heap.size+1+1+1+1<pb):=Lq7 (Fr H1.out Hr.out Hp.out aU);clear H1 Hr Hp Hs aD aN aU;refine Ac rfl (fun Kx aE=>?_);go_wp2_with fail;refine aE _ _ (fun h=>absurd rfl h) ?_;generalize wsC _ _ _=WE at HE |-;clear q0 q1 q2 q3 q4 aE;refine Ak ?_;(try simp only[gX,aP]);go_wp2_with fail;go_meet
    case rel=>exact⟨ra,len,rc,x,y,z,pb,rfl,rfl,rfl,HE⟩
  ·go_wp2_with fail;refine(G2 _).mono ?_;rintro e W1 ⟨rfl,aB⟩;have HN:=Lq7 (H1.out.below aB);have aC:=Lq7 (aD.out.trans (aB.mono (nlt aQ.out aD.out.size)));clear aB H1 aD;unfold plainH;go_wp2_with fail;refine aY _ _ (fun _=>aC.out) ?_;(try simp only[gX,aP]);have aD:=aC;have H1:=HN;clear aC HN aY;refine Ca rfl rfl (fun Kx aE=>?_) (fun Ky aY=>?_)
   ·have aB:Below W1.heap.size W1 (W1.alloc (.cells #[.int .i64 2,.string ⟨#[120]⟩,.int .i64 l,.int .i64 k,.slice (some ⟨w.heap.size+1+1+1,0,none⟩) 1 1] 49)):=(bRf _ _).alloc (nlr _) _;have aJ:=heap_alloc_new W1 (.cells #[.int .i64 2,.string ⟨#[120]⟩,.int .i64 l,.int .i64 k,.slice (some ⟨w.heap.size+1+1+1,0,none⟩) 1 1] 49);have HN:=Lq7 (aIn aB (H1.out.below aB));have aF:=Lq7 aJ;have aC:=Lq7 (aD.out.trans (aB.mono (nlt aQ.out aD.out.size)));clear aB aJ H1 aD;go_wp2_with fail;refine aE _ _ (fun _=>aC.out) ?_;(try simp only[gX,aP]);generalize aR:W1.heap.size=sb at aF |-;clear aR;generalize World.alloc _ _=W2 at HN aC aF |-;replace HN:=Lq7 HN.out.2;have Hs:=aF;clear aF;have aD:=aC;have H1:=HN;clear aC HN aE;refine Ca rfl rfl (fun Kx aE=>?_) (fun Ky aY=>?_)
    ·have HR:=Lq7 (aZ.out _ H1.out _ Hs.out);unfold plainH at HR;go_wp2_with fail;refine HR.out.mono ?_;rintro e W3 ⟨aB,ra,len,rc,x,y,z,rfl,aH⟩;have HN:=Lq7 (H1.out.below aB);have aF:=Lq7 (stays Hs.out aB);have aM:Hid (ResW (fun b=>G1 w b/\b<W3.heap.size) (.mk kk t l k kids) W3 ra len x y z):=Lq7 (aH.mono fun b hb hl=>⟨⟨by rcases hb with hb|hb;exact .inl hb;exact .inr (by have:=here H1.out.g0;omega),hl⟩,hl,rfl⟩);have aC:=Lq7 (aD.out.trans (aB.mono (nlt aQ.out aD.out.size)));clear aB aH HR H1 aD Hs;go_wp2_with fail;refine aE _ _ (fun _=>aC.out) ?_;(try simp only[gX,aP]);have Hs:=aF;clear aF;have Hr:=aM;clear aM;have aD:=aC;have H1:=HN;clear aC HN aE;refine Aj (.tuple #[.slice ra len rc,.int .i64 x,.agg #[.int .i64 y,.int .i64 z]]) ?_;refine Aj (.slice ra len rc) ?_;refine Aj (.int .i64 x) ?_;refine Aj (.agg #[.int .i64 y,.int .i64 z]) ?_;refine Ac rfl (fun Kx aE=>?_);have aB:Below W3.heap.size W3 (W3.alloc (.cells #[.int .i64 0,.int .i64 0] 28)):=(bRf _ _).alloc (nlr _) _;have aJ:=heap_alloc_new W3 (.cells #[.int .i64 0,.int .i64 0] 28);have aN:w.heap.size+1+1+1+1<W3.heap.size:=here H1.out.g0;have HN:=Lq7 (aIn aB (H1.out.below aB));have aF:=Lq7 (stays Hs.out aB);have aM:=Lq7 ((Hr.out.mono fun b hb hl=>⟨⟨hb.1,by omega⟩,hl,rfl⟩:ResW (fun b=>G1 w b/\b≠W3.heap.size) _ W3 ra len x y z).below aB);have aG:=Lq7 aJ;have aC:=Lq7 (aD.out.trans (aB.mono (nlt aQ.out aD.out.size)));clear aB aJ H1 aD Hs Hr;go_wp2_with fail;refine aE _ _ (fun _=>aC.out) ?_;(try simp only[gX,aP]);generalize aR:W3.heap.size=pb at aG aN aM |-;clear aR;generalize World.alloc _ _=W4 at HN aC aF aM aG |-;replace HN:=Lq7 HN.out.2;have Hs:=aF;clear aF;have Hp:=aG;clear aG;have Hr:=aM;clear aM;have aD:=aC;have H1:=HN;clear aC HN aE;refine Aj (.slice ra len rc) ?_;refine Aj (.int .i64 x) ?_;obtain⟨q0,q1,q2,q3,q4⟩:=Av Hp.out;have aU:w.heap.size+1+1+1+1<pb:=aN;have HE:Hid (WK w #[.int .i64 kk,.string t,.int .i64 l,.int .i64 k,.slice a kids.length cap] #[.int .i64 2,.string ⟨#[120]⟩,.int .i64 l,.int .i64 k,.slice (some ⟨w.heap.size+1+1+1,0,none⟩) 1 1] ((W4.setCell ⟨pb,0,none⟩ (.int .i64 y)).setCell ⟨pb,1,none⟩ (.int .i64 z))/\ResW (G1 w) (.mk kk t l k kids) ((W4.setCell ⟨pb,0,none⟩ (.int .i64 y)).setCell ⟨pb,1,none⟩ (.int .i64 z)) ra len x y z/\((W4.setCell ⟨pb,0,none⟩ (.int .i64 y)).setCell ⟨pb,1,none⟩ (.int .i64 z)).heap[pb]? = some (.cells #[.int .i64 y,.int .i64 z] 28 (0,0))/\w.heap.size+1+1+1+1<pb):=Lq7 (Fr H1.out Hr.out Hp.out aU);clear H1 Hr Hp Hs aD aN aU;refine Ac rfl (fun Kx aE=>?_);go_wp2_with fail;refine aE _ _ (fun h=>absurd rfl h) ?_;generalize wsC _ _ _=WE at HE |-;clear q0 q1 q2 q3 q4 aE;refine Ak ?_;(try simp only[gX,aP]);go_wp2_with fail;go_meet
     case rel=>exact⟨ra,len,rc,x,y,z,pb,rfl,rfl,rfl,HE⟩
    ·have aB:Below W2.heap.size W2 (W2.alloc (.cells #[.int .i64 0,.int .i64 0] 28)):=(bRf _ _).alloc (nlr _) _;have aJ:=heap_alloc_new W2 (.cells #[.int .i64 0,.int .i64 0] 28);have aN:w.heap.size+1+1+1+1<W2.heap.size:=here H1.out.g0;have HN:=Lq7 (aIn aB (H1.out.below aB));have aF:=Lq7 (stays Hs.out aB);have aG:=Lq7 aJ;have aC:=Lq7 (aD.out.trans (aB.mono (nlt aQ.out aD.out.size)));clear aB aJ H1 aD Hs;go_wp2_with fail;refine aY _ _ (fun _=>aC.out) ?_;(try simp only[gX,aP]);generalize aR:W2.heap.size=pb at aG aN |-;clear aR;generalize World.alloc _ _=W3 at HN aC aF aG |-;replace HN:=Lq7 HN.out.2;have Hs:=aF;clear aF;have Hp:=aG;clear aG;have aD:=aC;have H1:=HN;clear aC HN aY;refine Ac rfl (fun Kx aE=>?_);have HR:=Lq7 (aZ.out _ H1.out _ Hs.out);unfold plainH at HR;go_wp2_with fail;refine HR.out.mono ?_;rintro e W4 ⟨aB,ra,len,rc,x,y,z,rfl,aH⟩;have HN:=Lq7 (H1.out.below aB);have aF:=Lq7 (stays Hs.out aB);have aG:=Lq7 (stays Hp.out aB);have aM:Hid (ResW (fun b=>G1 w b/\b≠pb) (.mk kk t l k kids) W4 ra len x y z):=Lq7 (aH.mono fun b hb hl=>⟨by rcases hb with hb|hb;exact⟨.inl hb,by have:=bA.out b hb;omega⟩;exact⟨.inr (by have:=here H1.out.g0;omega),by have:=here Hp.out;omega⟩,hl,rfl⟩);have aC:=Lq7 (aD.out.trans (aB.mono (nlt aQ.out aD.out.size)));clear aB aH HR H1 aD Hs Hp;go_wp2_with fail;refine aE _ _ (fun _=>aC.out) ?_;(try simp only[gX,aP]);have Hs:=aF;clear aF;have Hp:=aG;clear aG;have Hr:=aM;clear aM;have aD:=aC;have H1:=HN;clear aC HN aE;refine Aj (.tuple #[.slice ra len rc,.int .i64 x,.agg #[.int .i64 y,.int .i64 z]]) ?_;refine Aj (.slice ra len rc) ?_;refine Aj (.int .i64 x) ?_;refine Aj (.agg #[.int .i64 y,.int .i64 z]) ?_;refine Aj (.slice ra len rc) ?_;refine Aj (.int .i64 x) ?_;obtain⟨q0,q1,q2,q3,q4⟩:=Av Hp.out;have aU:w.heap.size+1+1+1+1<pb:=aN;have HE:Hid (WK w #[.int .i64 kk,.string t,.int .i64 l,.int .i64 k,.slice a kids.length cap] #[.int .i64 2,.string ⟨#[120]⟩,.int .i64 l,.int .i64 k,.slice (some ⟨w.heap.size+1+1+1,0,none⟩) 1 1] ((W4.setCell ⟨pb,0,none⟩ (.int .i64 y)).setCell ⟨pb,1,none⟩ (.int .i64 z))/\ResW (G1 w) (.mk kk t l k kids) ((W4.setCell ⟨pb,0,none⟩ (.int .i64 y)).setCell ⟨pb,1,none⟩ (.int .i64 z)) ra len x y z/\((W4.setCell ⟨pb,0,none⟩ (.int .i64 y)).setCell ⟨pb,1,none⟩ (.int .i64 z)).heap[pb]? = some (.cells #[.int .i64 y,.int .i64 z] 28 (0,0))/\w.heap.size+1+1+1+1<pb):=Lq7 (Fr H1.out Hr.out Hp.out aU);clear H1 Hr Hp Hs aD aN aU;refine Ac rfl (fun Kx aE=>?_);go_wp2_with fail;refine aE _ _ (fun h=>absurd rfl h) ?_;generalize wsC _ _ _=WE at HE |-;clear q0 q1 q2 q3 q4 aE;refine Ak ?_;(try simp only[gX,aP]);go_wp2_with fail;go_meet
     case rel=>exact⟨ra,len,rc,x,y,z,pb,rfl,rfl,rfl,HE⟩
   ·have aB:Below W1.heap.size W1 (W1.alloc (.cells #[.int .i64 0,.int .i64 0] 28)):=(bRf _ _).alloc (nlr _) _;have aJ:=heap_alloc_new W1 (.cells #[.int .i64 0,.int .i64 0] 28);have aN:w.heap.size+1+1+1+1<W1.heap.size:=here H1.out.g0;have HN:=Lq7 (aIn aB (H1.out.below aB));have aG:=Lq7 aJ;have aC:=Lq7 (aD.out.trans (aB.mono (nlt aQ.out aD.out.size)));clear aB aJ H1 aD;go_wp2_with fail;refine aY _ _ (fun _=>aC.out) ?_;(try simp only[gX,aP]);generalize aR:W1.heap.size=pb at aG aN |-;clear aR;generalize World.alloc _ _=W2 at HN aC aG |-;replace HN:=Lq7 HN.out.2;have Hp:=aG;clear aG;have aD:=aC;have H1:=HN;clear aC HN aY;refine Ac rfl (fun Kx aE=>?_);have aB:Below W2.heap.size W2 (W2.alloc (.cells #[.int .i64 2,.string ⟨#[120]⟩,.int .i64 l,.int .i64 k,.slice (some ⟨w.heap.size+1+1+1,0,none⟩) 1 1] 49)):=(bRf _ _).alloc (nlr _) _;have aJ:=heap_alloc_new W2 (.cells #[.int .i64 2,.string ⟨#[120]⟩,.int .i64 l,.int .i64 k,.slice (some ⟨w.heap.size+1+1+1,0,none⟩) 1 1] 49);have HN:=Lq7 (aIn aB (H1.out.below aB));have aG:=Lq7 (stays Hp.out aB);have aF:=Lq7 aJ;have aC:=Lq7 (aD.out.trans (aB.mono (nlt aQ.out aD.out.size)));clear aB aJ H1 aD Hp;go_wp2_with fail;refine aE _ _ (fun _=>aC.out) ?_;(try simp only[gX,aP]);generalize aR:W2.heap.size=sb at aF |-;clear aR;generalize World.alloc _ _=W3 at HN aC aG aF |-;replace HN:=Lq7 HN.out.2;have Hs:=aF;clear aF;have Hp:=aG;clear aG;have aD:=aC;have H1:=HN;clear aC HN aE;refine Ac rfl (fun Kx aE=>?_);have HR:=Lq7 (aZ.out _ H1.out _ Hs.out);unfold plainH at HR;go_wp2_with fail;refine HR.out.mono ?_;rintro e W4 ⟨aB,ra,len,rc,x,y,z,rfl,aH⟩;have HN:=Lq7 (H1.out.below aB);have aF:=Lq7 (stays Hs.out aB);have aG:=Lq7 (stays Hp.out aB);have aM:Hid (ResW (fun b=>G1 w b/\b≠pb) (.mk kk t l k kids) W4 ra len x y z):=Lq7 (aH.mono fun b hb hl=>⟨by rcases hb with hb|hb;exact⟨.inl hb,by have:=bA.out b hb;omega⟩;exact⟨.inr (by have:=here H1.out.g0;omega),by have:=here Hp.out;omega⟩,hl,rfl⟩);have aC:=Lq7 (aD.out.trans (aB.mono (nlt aQ.out aD.out.size)));clear aB aH HR H1 aD Hs Hp;go_wp2_with fail;refine aE _ _ (fun _=>aC.out) ?_;(try simp only[gX,aP]);have Hs:=aF;clear aF;have Hp:=aG;clear aG;have Hr:=aM;clear aM;have aD:=aC;have H1:=HN;clear aC HN aE;refine Aj (.tuple #[.slice ra len rc,.int .i64 x,.agg #[.int .i64 y,.int .i64 z]]) ?_;refine Aj (.slice ra len rc) ?_;refine Aj (.int .i64 x) ?_;refine Aj (.agg #[.int .i64 y,.int .i64 z]) ?_;refine Aj (.slice ra len rc) ?_;refine Aj (.int .i64 x) ?_;obtain⟨q0,q1,q2,q3,q4⟩:=Av Hp.out;have aU:w.heap.size+1+1+1+1<pb:=aN;have HE:Hid (WK w #[.int .i64 kk,.string t,.int .i64 l,.int .i64 k,.slice a kids.length cap] #[.int .i64 2,.string ⟨#[120]⟩,.int .i64 l,.int .i64 k,.slice (some ⟨w.heap.size+1+1+1,0,none⟩) 1 1] ((W4.setCell ⟨pb,0,none⟩ (.int .i64 y)).setCell ⟨pb,1,none⟩ (.int .i64 z))/\ResW (G1 w) (.mk kk t l k kids) ((W4.setCell ⟨pb,0,none⟩ (.int .i64 y)).setCell ⟨pb,1,none⟩ (.int .i64 z)) ra len x y z/\((W4.setCell ⟨pb,0,none⟩ (.int .i64 y)).setCell ⟨pb,1,none⟩ (.int .i64 z)).heap[pb]? = some (.cells #[.int .i64 y,.int .i64 z] 28 (0,0))/\w.heap.size+1+1+1+1<pb):=Lq7 (Fr H1.out Hr.out Hp.out aU);clear H1 Hr Hp Hs aD aN aU;refine Ac rfl (fun Kx aE=>?_);go_wp2_with fail;refine aE _ _ (fun h=>absurd rfl h) ?_;generalize wsC _ _ _=WE at HE |-;clear q0 q1 q2 q3 q4 aE;refine Ak ?_;(try simp only[gX,aP]);go_wp2_with fail;go_meet
    case rel=>exact⟨ra,len,rc,x,y,z,pb,rfl,rfl,rfl,HE⟩
  ·have aB:Below Wd.heap.size Wd (Wd.alloc (.cells #[.int .i64 0,.int .i64 0] 28)):=(bRf _ _).alloc (nlr _) _;have aJ:=heap_alloc_new Wd (.cells #[.int .i64 0,.int .i64 0] 28);have aN:w.heap.size+1+1+1+1<Wd.heap.size:=here H1.out.g0;have HN:=Lq7 (aIn aB (H1.out.below aB));have aG:=Lq7 aJ;have aC:=Lq7 (aD.out.trans (aB.mono (nlt aQ.out aD.out.size)));clear aB aJ H1 aD;go_wp2_with fail;refine bR _ _ (fun _=>aC.out) ?_;(try simp only[gX,aP]);generalize aR:Wd.heap.size=pb at aG aN |-;clear aR;generalize World.alloc _ _=W1 at HN aC aG |-;replace HN:=Lq7 HN.out.2;have Hp:=aG;clear aG;have aD:=aC;have H1:=HN;clear aC HN bR;refine Ca rfl rfl (fun Kx aE=>?_) (fun Ky aY=>?_)
   ·have aB:Below W1.heap.size W1 (W1.alloc (.cells #[.int .i64 2,.string ⟨#[120]⟩,.int .i64 l,.int .i64 k,.slice (some ⟨w.heap.size+1+1+1,0,none⟩) 1 1] 49)):=(bRf _ _).alloc (nlr _) _;have aJ:=heap_alloc_new W1 (.cells #[.int .i64 2,.string ⟨#[120]⟩,.int .i64 l,.int .i64 k,.slice (some ⟨w.heap.size+1+1+1,0,none⟩) 1 1] 49);have HN:=Lq7 (aIn aB (H1.out.below aB));have aG:=Lq7 (stays Hp.out aB);have aF:=Lq7 aJ;have aC:=Lq7 (aD.out.trans (aB.mono (nlt aQ.out aD.out.size)));clear aB aJ H1 aD Hp;go_wp2_with fail;refine aE _ _ (fun _=>aC.out) ?_;(try simp only[gX,aP]);generalize aR:W1.heap.size=sb at aF |-;clear aR;generalize World.alloc _ _=W2 at HN aC aG aF |-;replace HN:=Lq7 HN.out.2;have Hs:=aF;clear aF;have Hp:=aG;clear aG;have aD:=aC;have H1:=HN;clear aC HN aE;refine Ac rfl (fun Kx aE=>?_);go_wp2_with fail;refine(G2 _).mono ?_;rintro e W3 ⟨rfl,aB⟩;have HN:=Lq7 (H1.out.below aB);have aF:=Lq7 (stays Hs.out aB);have aG:=Lq7 (stays Hp.out aB);have aC:=Lq7 (aD.out.trans (aB.mono (nlt aQ.out aD.out.size)));clear aB H1 aD Hs Hp;unfold plainH;go_wp2_with fail;refine aE _ _ (fun _=>aC.out) ?_;(try simp only[gX,aP]);have Hs:=aF;clear aF;have Hp:=aG;clear aG;have aD:=aC;have H1:=HN;clear aC HN aE;refine Ac rfl (fun Kx aE=>?_);have HR:=Lq7 (aZ.out _ H1.out _ Hs.out);unfold plainH at HR;go_wp2_with fail;refine HR.out.mono ?_;rintro e W4 ⟨aB,ra,len,rc,x,y,z,rfl,aH⟩;have HN:=Lq7 (H1.out.below aB);have aF:=Lq7 (stays Hs.out aB);have aG:=Lq7 (stays Hp.out aB);have aM:Hid (ResW (fun b=>G1 w b/\b≠pb) (.mk kk t l k kids) W4 ra len x y z):=Lq7 (aH.mono fun b hb hl=>⟨by rcases hb with hb|hb;exact⟨.inl hb,by have:=bA.out b hb;omega⟩;exact⟨.inr (by have:=here H1.out.g0;omega),by have:=here Hp.out;omega⟩,hl,rfl⟩);have aC:=Lq7 (aD.out.trans (aB.mono (nlt aQ.out aD.out.size)));clear aB aH HR H1 aD Hs Hp;go_wp2_with fail;refine aE _ _ (fun _=>aC.out) ?_;(try simp only[gX,aP]);have Hs:=aF;clear aF;have Hp:=aG;clear aG;have Hr:=aM;clear aM;have aD:=aC;have H1:=HN;clear aC HN aE;refine Aj (.tuple #[.slice ra len rc,.int .i64 x,.agg #[.int .i64 y,.int .i64 z]]) ?_;refine Aj (.slice ra len rc) ?_;refine Aj (.int .i64 x) ?_;refine Aj (.agg #[.int .i64 y,.int .i64 z]) ?_;refine Aj (.slice ra len rc) ?_;refine Aj (.int .i64 x) ?_;obtain⟨q0,q1,q2,q3,q4⟩:=Av Hp.out;have aU:w.heap.size+1+1+1+1<pb:=aN;have HE:Hid (WK w #[.int .i64 kk,.string t,.int .i64 l,.int .i64 k,.slice a kids.length cap] #[.int .i64 2,.string ⟨#[120]⟩,.int .i64 l,.int .i64 k,.slice (some ⟨w.heap.size+1+1+1,0,none⟩) 1 1] ((W4.setCell ⟨pb,0,none⟩ (.int .i64 y)).setCell ⟨pb,1,none⟩ (.int .i64 z))/\ResW (G1 w) (.mk kk t l k kids) ((W4.setCell ⟨pb,0,none⟩ (.int .i64 y)).setCell ⟨pb,1,none⟩ (.int .i64 z)) ra len x y z/\((W4.setCell ⟨pb,0,none⟩ (.int .i64 y)).setCell ⟨pb,1,none⟩ (.int .i64 z)).heap[pb]? = some (.cells #[.int .i64 y,.int .i64 z] 28 (0,0))/\w.heap.size+1+1+1+1<pb):=Lq7 (Fr H1.out Hr.out Hp.out aU);clear H1 Hr Hp Hs aD aN aU;refine Ac rfl (fun Kx aE=>?_);go_wp2_with fail;refine aE _ _ (fun h=>absurd rfl h) ?_;generalize wsC _ _ _=WE at HE |-;clear q0 q1 q2 q3 q4 aE;refine Ak ?_;(try simp only[gX,aP]);go_wp2_with fail;go_meet
    case rel=>exact⟨ra,len,rc,x,y,z,pb,rfl,rfl,rfl,HE⟩
   ·go_wp2_with fail;refine(G2 _).mono ?_;rintro e W2 ⟨rfl,aB⟩;have HN:=Lq7 (H1.out.below aB);have aG:=Lq7 (stays Hp.out aB);have aC:=Lq7 (aD.out.trans (aB.mono (nlt aQ.out aD.out.size)));clear aB H1 aD Hp;unfold plainH;go_wp2_with fail;refine aY _ _ (fun _=>aC.out) ?_;(try simp only[gX,aP]);have Hp:=aG;clear aG;have aD:=aC;have H1:=HN;clear aC HN aY;refine Ac rfl (fun Kx aE=>?_);have aB:Below W2.heap.size W2 (W2.alloc (.cells #[.int .i64 2,.string ⟨#[120]⟩,.int .i64 l,.int .i64 k,.slice (some ⟨w.heap.size+1+1+1,0,none⟩) 1 1] 49)):=(bRf _ _).alloc (nlr _) _;have aJ:=heap_alloc_new W2 (.cells #[.int .i64 2,.string ⟨#[120]⟩,.int .i64 l,.int .i64 k,.slice (some ⟨w.heap.size+1+1+1,0,none⟩) 1 1] 49);have HN:=Lq7 (aIn aB (H1.out.below aB));have aG:=Lq7 (stays Hp.out aB);have aF:=Lq7 aJ;have aC:=Lq7 (aD.out.trans (aB.mono (nlt aQ.out aD.out.size)));clear aB aJ H1 aD Hp;go_wp2_with fail;refine aE _ _ (fun _=>aC.out) ?_;(try simp only[gX,aP]);generalize aR:W2.heap.size=sb at aF |-;clear aR;generalize World.alloc _ _=W3 at HN aC aG aF |-;replace HN:=Lq7 HN.out.2;have Hs:=aF;clear aF;have Hp:=aG;clear aG;have aD:=aC;have H1:=HN;clear aC HN aE;refine Ac rfl (fun Kx aE=>?_);have HR:=Lq7 (aZ.out _ H1.out _ Hs.out);unfold plainH at HR;go_wp2_with fail;refine HR.out.mono ?_;rintro e W4 ⟨aB,ra,len,rc,x,y,z,rfl,aH⟩;have HN:=Lq7 (H1.out.below aB);have aF:=Lq7 (stays Hs.out aB);have aG:=Lq7 (stays Hp.out aB);have aM:Hid (ResW (fun b=>G1 w b/\b≠pb) (.mk kk t l k kids) W4 ra len x y z):=Lq7 (aH.mono fun b hb hl=>⟨by rcases hb with hb|hb;exact⟨.inl hb,by have:=bA.out b hb;omega⟩;exact⟨.inr (by have:=here H1.out.g0;omega),by have:=here Hp.out;omega⟩,hl,rfl⟩);have aC:=Lq7 (aD.out.trans (aB.mono (nlt aQ.out aD.out.size)));clear aB aH HR H1 aD Hs Hp;go_wp2_with fail;refine aE _ _ (fun _=>aC.out) ?_;(try simp only[gX,aP]);have Hs:=aF;clear aF;have Hp:=aG;clear aG;have Hr:=aM;clear aM;have aD:=aC;have H1:=HN;clear aC HN aE;refine Aj (.tuple #[.slice ra len rc,.int .i64 x,.agg #[.int .i64 y,.int .i64 z]]) ?_;refine Aj (.slice ra len rc) ?_;refine Aj (.int .i64 x) ?_;refine Aj (.agg #[.int .i64 y,.int .i64 z]) ?_;refine Aj (.slice ra len rc) ?_;refine Aj (.int .i64 x) ?_;obtain⟨q0,q1,q2,q3,q4⟩:=Av Hp.out;have aU:w.heap.size+1+1+1+1<pb:=aN;have HE:Hid (WK w #[.int .i64 kk,.string t,.int .i64 l,.int .i64 k,.slice a kids.length cap] #[.int .i64 2,.string ⟨#[120]⟩,.int .i64 l,.int .i64 k,.slice (some ⟨w.heap.size+1+1+1,0,none⟩) 1 1] ((W4.setCell ⟨pb,0,none⟩ (.int .i64 y)).setCell ⟨pb,1,none⟩ (.int .i64 z))/\ResW (G1 w) (.mk kk t l k kids) ((W4.setCell ⟨pb,0,none⟩ (.int .i64 y)).setCell ⟨pb,1,none⟩ (.int .i64 z)) ra len x y z/\((W4.setCell ⟨pb,0,none⟩ (.int .i64 y)).setCell ⟨pb,1,none⟩ (.int .i64 z)).heap[pb]? = some (.cells #[.int .i64 y,.int .i64 z] 28 (0,0))/\w.heap.size+1+1+1+1<pb):=Lq7 (Fr H1.out Hr.out Hp.out aU);clear H1 Hr Hp Hs aD aN aU;refine Ac rfl (fun Kx aE=>?_);go_wp2_with fail;refine aE _ _ (fun h=>absurd rfl h) ?_;generalize wsC _ _ _=WE at HE |-;clear q0 q1 q2 q3 q4 aE;refine Ak ?_;(try simp only[gX,aP]);go_wp2_with fail;go_meet
    case rel=>exact⟨ra,len,rc,x,y,z,pb,rfl,rfl,rfl,HE⟩
 case rest=>
  obtain⟨ra,len,rc,x,y,z,pb,rfl,rfl,rfl,bI⟩:=hcut;cases hw:workL Cr (.mk kk t l k kids) with
  | error f=>
   obtain⟨bD,aH,hp,hpb⟩:=bI.out;unfold ResW at aH;rw[hw] at aH;obtain⟨rfl,rfl,rfl,hx⟩:=aH;have bB:Hid (∀(w':World),Below w.heap.size w w'->PWork w (.mk kk t l k kids) w (.returned (badV x y z)) w'):=Lq7 (fun w' hb=>⟨hb,by rw[hw];exact⟨rfl,hx⟩⟩);have hx1:(x==0)=false:=(by simpa using hx);have hx2:(x != 0)=true:=(by simpa using hx);have H1:=Lq7 bD;have Hp:=Lq7 hp;clear bD hp hw bI hx
   go_upto_region 4 with fail
   refine A4 (.s 0 (.s 1 (.s 2 (.s 3 (.h 4 (.h 5 .nil)))))) 99 (fun W'=>W'.heap[pb]? = some (.cells #[.int .i64 y,.int .i64 z] 28 (0,0))) Hp.out ?_;have H2:=Lq7 (H1.out.below ((bRf _ wc).drew));have bP:Hid (wc.drew.heap[pb]? = some (.cells #[.int .i64 y,.int .i64 z] 28 (0,0))):=Lq7 Hp.out;generalize wc.drew=Wd at H2 bP |-;clear H1 Hp hx1 hx2;refine Aj (.agg #[.int .i64 0,.int .i64 0,.string ⟨#[]⟩,.slice none 0 0,.slice none 0 0]) ?_;refine Aj (.int .i64 x) ?_;refine Ap (.agg #[.int .i64 y,.int .i64 z]) ?_;refine Aj (.agg #[.int .i64 x,.int .i64 y,.int .i64 z]) ?_;refine Ac rfl (fun Kx aE=>?_);obtain⟨s0,s1,s2,s3,s4,s5,s6,s7,s8,s9,bS⟩:=Aa H2.out.v0;go_wp2_with fail;have H3:=Lq7 (H2.out.we.setV (.int .i64 0) (.int .i64 0) (.string ⟨#[]⟩) (.slice none 0 0) (.slice none 0 0));have bJ:=Lq7 ((Ba (W:=Wd) (b:=w.heap.size+1) (k:=pb) (by omega) (.int .i64 0) (.int .i64 0) (.string ⟨#[]⟩) (.slice none 0 0) (.slice none 0 0)).trans bP.out);unfold Cb at H3;refine aE _ _ (fun _=>bJ.out) ?_;generalize wsC _ _ _=W8 at H3 bJ |-;clear s0 s1 s2 s3 s4 s5 s6 s7 s8 s9 bS aE H2 bP;(try simp only[gX,aP]);refine Ac rfl (fun Ky aY=>?_);obtain⟨d0,d1,d2,d3,d4,d5,d6⟩:=Ah H3.out.f0;go_wp2_with fail;have H4:=Lq7 (H3.out.setF (.int .i64 x) (.int .i64 y) (.int .i64 z));unfold Bs at H4;refine aY _ _ (fun _=>(((Ad (by omega) 2 _).trans (Ad (by omega) 1 _)).trans (Ad (by omega) 0 _)).trans bJ.out) ?_;generalize wsC _ _ _=W9 at H4 |-;refine Ak ?_;(try simp only[gX,aP]);clear d0 d1 d2 d3 d4 d5 d6 aY H3 bJ;obtain⟨s0,s1,s2,s3,s4,s5,-⟩:=Aa H4.out.v0;obtain⟨d0,d1,d2,d3,-⟩:=Ah H4.out.f0;go_wp2_with fail;exact bodyPost_ret (v:=badV x y z) (by simp[badV,zeroV,Ai,results,Tryz.results83,go_sem,s1,s2,s3,s4,s5,d1,d2,d3]) rfl (bB.out _ H4.out.b)
  | ok v=>
   obtain⟨bD,aH,-,-⟩:=bI.out;unfold ResW at aH;rw[hw] at aH;obtain⟨rfl,rfl,rfl,rfl,bE,bT⟩:=aH;obtain⟨vk,vn,vs,vl,vks⟩:=v;have bB:Hid (∀(w':World) (cs:List Value),Below w.heap.size w w'->Am (Fj w) w' (valD (.mk vk vn vs vl vks)) cs->PWork w (.mk kk t l k kids) w (.returned (.tuple #[.agg cs.toArray,Ai 0 0 0])) w'):=Lq7 (fun w' cs hb bN=>⟨hb,by rw[hw];exact⟨cs,rfl,bN,bT⟩⟩);have H1:=Lq7 bD;have bF:=Lq7 bE;clear bD bI bE hw bT;go_wp2_with fail
   go_loopw [31] (fun i wr=>i = .int .i64 0/\wr=wc) (fun _ _=>0)
   case atStart=>exact⟨rfl,rfl⟩
   case round=>
    obtain⟨rfl,hwr⟩:=hrel;subst hwr;obtain⟨b,off,a1,c1,a2,c2,rfl,hFb,hbl,r0,r1,r2,r3,r4,r5,bU,bV⟩:=bF.out.named (j:=0) rfl;have aB:Below wr.heap.size wr (wr.alloc (.cells #[.string ⟨#[120]⟩,.int .i64 vk,.int .i64 vn,.string vs,.slice a1 vl.length c1,.slice a2 vks.length c2] 75)):=(bRf _ _).alloc (nlr _) _;have H2:=Lq7 (H1.out.we.below aB);have bW:Hid (Am (G1 w) (wr.alloc (.cells #[.string ⟨#[120]⟩,.int .i64 vk,.int .i64 vn,.string vs,.slice a1 vl.length c1,.slice a2 vks.length c2] 75)) (valD (.mk vk vn vs vl vks)) [.int .i64 vk,.int .i64 vn,.string vs,.slice a1 vl.length c1,.slice a2 vks.length c2]):=Lq7 ((Am.val_mk vk vn vs c1 c2 bU bV).below aB);have bX:bs [120]=⟨#[120]⟩:=rfl;rw[bX] at r0;simp only[nzm,naz] at r0 r1 r2 r3 r4 r5;have bL:=heap_alloc_new wr (.cells #[.string ⟨#[120]⟩,.int .i64 vk,.int .i64 vn,.string vs,.slice a1 vl.length c1,.slice a2 vks.length c2] 75);clear bX aB bU bV H1 bF
    go_upto_region 9 with fail
    clear r0 r1 r2 r3 r4 r5;generalize World.alloc _ _=WA at H2 bW bL |-;obtain⟨-,aW,-⟩:=A5 bL;have r0:=aW 0;have r1:=aW 1;have r2:=aW 2;have r3:=aW 3;have r4:=aW 4;have r5:=aW 5;have rb:=here bL;simp at r0 r1 r2 r3 r4 r5;obtain⟨s0,s1,s2,s3,s4,s5,s6,s7,s8,s9,bS⟩:=Aa H2.out.v0;obtain⟨d0,d1,d2,d3,d4,d5,d6⟩:=Ah H2.out.f0;clear aW bL;go_wp2_with fail;have H4:=(H2.out.setV (.int .i64 vk) (.int .i64 vn) (.string vs) (.slice a1 vl.length c1) (.slice a2 vks.length c2)).setF (.int .i64 0) (.int .i64 0) (.int .i64 0);have hx:∀b,G1 w b->b≠w.heap.size+1/\b≠w.heap.size+1+1:=fun b hb=>by
     rcases hb with hb|hb
     ·have:=bA.out b hb;omega
     ·omega
    have bY:Am (Fj w) (Bs (Cb _ (w.heap.size+1) (.int .i64 vk) (.int .i64 vn) (.string vs) (.slice a1 vl.length c1) (.slice a2 vks.length c2)) (w.heap.size+1+1) (.int .i64 0) (.int .i64 0) (.int .i64 0)) _ _:=bW.out.mono fun b hb hl=>⟨by
     rcases hb with hb|hb
     ·exact .inl hb
     ·exact .inr (by omega),by simpa[Bs,Cb] using hl,by unfold Bs Cb;rw[Ad (hx b hb).2,Ad (hx b hb).2,Ad (hx b hb).2,Ad (hx b hb).1,Ad (hx b hb).1,Ad (hx b hb).1,Ad (hx b hb).1,Ad (hx b hb).1]⟩
    unfold Bs Cb at H4 bY;have HE:=bB.out _ _ H4.b bY;obtain⟨s0,s1,s2,s3,s4,s5,-⟩:=Aa H4.v0;obtain⟨d0,d1,d2,d3,-⟩:=Ah H4.f0;exact bodyPost_ret (v:=.tuple #[.agg #[.int .i64 vk,.int .i64 vn,.string vs,.slice a1 vl.length c1,.slice a2 vks.length c2],Ai 0 0 0]) (by simp[Ai,results,Tryz.results83,go_sem,s1,s2,s3,s4,s5,d1,d2,d3]) rfl HE
theorem infoAttr:(Tryz.prog.info? 47).map (fun i=>(i.zero,i.size,i.bytes))=some (some (.agg #[.string ByteArray.empty,.int .i64 0,.bool false,.int .i64 0,.int .i64 0,.string ByteArray.empty,.slice none 0 0,.slice none 0 0]),8,112):=by kernel_rfl
theorem typesAt0(W):(Instr.index 177 (.agg #[.string ⟨#[]⟩,.string ⟨#[116,101,120,116]⟩,.string ⟨#[98,111,111,108]⟩,.string ⟨#[105,110,116]⟩,.string ⟨#[116,101,120,116,115]⟩,.string ⟨#[102,105,108,101,115]⟩,.string ⟨#[108,97,98,101,108,115]⟩]) (.int .i64 0)).run Tryz.prog W = .ok (.string ⟨#[]⟩) W:=by kernel_rfl
theorem typesAt1(W):(Instr.index 177 (.agg #[.string ⟨#[]⟩,.string ⟨#[116,101,120,116]⟩,.string ⟨#[98,111,111,108]⟩,.string ⟨#[105,110,116]⟩,.string ⟨#[116,101,120,116,115]⟩,.string ⟨#[102,105,108,101,115]⟩,.string ⟨#[108,97,98,101,108,115]⟩]) (.int .i64 1)).run Tryz.prog W = .ok (.string ⟨#[116,101,120,116]⟩) W:=by kernel_rfl
theorem typesAt2(W):(Instr.index 177 (.agg #[.string ⟨#[]⟩,.string ⟨#[116,101,120,116]⟩,.string ⟨#[98,111,111,108]⟩,.string ⟨#[105,110,116]⟩,.string ⟨#[116,101,120,116,115]⟩,.string ⟨#[102,105,108,101,115]⟩,.string ⟨#[108,97,98,101,108,115]⟩]) (.int .i64 2)).run Tryz.prog W = .ok (.string ⟨#[98,111,111,108]⟩) W:=by kernel_rfl
theorem typesAt3(W):(Instr.index 177 (.agg #[.string ⟨#[]⟩,.string ⟨#[116,101,120,116]⟩,.string ⟨#[98,111,111,108]⟩,.string ⟨#[105,110,116]⟩,.string ⟨#[116,101,120,116,115]⟩,.string ⟨#[102,105,108,101,115]⟩,.string ⟨#[108,97,98,101,108,115]⟩]) (.int .i64 3)).run Tryz.prog W = .ok (.string ⟨#[105,110,116]⟩) W:=by kernel_rfl
theorem typesAt4(W):(Instr.index 177 (.agg #[.string ⟨#[]⟩,.string ⟨#[116,101,120,116]⟩,.string ⟨#[98,111,111,108]⟩,.string ⟨#[105,110,116]⟩,.string ⟨#[116,101,120,116,115]⟩,.string ⟨#[102,105,108,101,115]⟩,.string ⟨#[108,97,98,101,108,115]⟩]) (.int .i64 4)).run Tryz.prog W = .ok (.string ⟨#[116,101,120,116,115]⟩) W:=by kernel_rfl
theorem typesAt5(W):(Instr.index 177 (.agg #[.string ⟨#[]⟩,.string ⟨#[116,101,120,116]⟩,.string ⟨#[98,111,111,108]⟩,.string ⟨#[105,110,116]⟩,.string ⟨#[116,101,120,116,115]⟩,.string ⟨#[102,105,108,101,115]⟩,.string ⟨#[108,97,98,101,108,115]⟩]) (.int .i64 5)).run Tryz.prog W = .ok (.string ⟨#[102,105,108,101,115]⟩) W:=by kernel_rfl
theorem typesAt6(W):(Instr.index 177 (.agg #[.string ⟨#[]⟩,.string ⟨#[116,101,120,116]⟩,.string ⟨#[98,111,111,108]⟩,.string ⟨#[105,110,116]⟩,.string ⟨#[116,101,120,116,115]⟩,.string ⟨#[102,105,108,101,115]⟩,.string ⟨#[108,97,98,101,108,115]⟩]) (.int .i64 6)).run Tryz.prog W = .ok (.string ⟨#[108,97,98,101,108,115]⟩) W:=by kernel_rfl
theorem Ko{n b w W c0 c1 c2 c3 c4 t}(hn:n<=b)(hb:Below n w W)(hr:W.heap[b]? = some (.cells #[c0,c1,c2,c3,c4] t (0,0)))(v0 v1 v2 v3 v4):
  (Cb W b v0 v1 v2 v3 v4).heap[b]? = some (.cells #[v0,v1,v2,v3,v4] t (0,0))/\Below n w (Cb W b v0 v1 v2 v3 v4):=by
 unfold Cb;exact⟨by rw[Ag (Ag (Ag (Ag (Ag hr 0 _) 1 _) 2 _) 3 _) 4];rfl,((((hb.setCell (p:=⟨b,0,none⟩) hn _).setCell (p:=⟨b,1,none⟩) hn _).setCell (p:=⟨b,2,none⟩) hn _).setCell (p:=⟨b,3,none⟩) hn _).setCell (p:=⟨b,4,none⟩) hn _⟩
theorem Rq{n b w W c0 c1 c2 t}(hn:n<=b)(hb:Below n w W)(hr:W.heap[b]? = some (.cells #[c0,c1,c2] t (0,0)))(v0 v1 v2):
  (Bs W b v0 v1 v2).heap[b]? = some (.cells #[v0,v1,v2] t (0,0))/\Below n w (Bs W b v0 v1 v2):=by
 unfold Bs;exact⟨by rw[Ag (Ag (Ag hr 0 _) 1 _) 2];rfl,((hb.setCell (p:=⟨b,0,none⟩) hn _).setCell (p:=⟨b,1,none⟩) hn _).setCell (p:=⟨b,2,none⟩) hn _⟩
def Je(r:RuleP):List Dat:=[.one (.string r.name),.row (Cz r.attrs),.row (ndsD r.body),.one (.int .i64 r.ln),.one (.int .i64 r.cl)]
def Ds(l:List RuleP):List (List Dat):=l.map Je
theorem Kb(l):(Ds l).length=l.length:=by simp[Ds]
theorem Vu(r):(Je r).length=5:=rfl
section
variable {F:Nat->Prop} {w:World}
theorem Am.rule{r:RuleP}{cs:List Value}(h:Am F w (Je r) cs):∃a c a' c',cs=[.string r.name,.slice a r.attrs.length c,.slice a' r.body.length c',.int .i64 r.ln,.int .i64 r.cl]/\Af F w a (Cz r.attrs)/\Af F w a' (ndsD r.body):=by
 unfold Je at h;obtain⟨c0,cs,rfl,h0,h⟩:=h.cons_inv;obtain⟨c1,cs,rfl,h1,h⟩:=h.cons_inv;obtain⟨c2,cs,rfl,h2,h⟩:=h.cons_inv;obtain⟨c3,cs,rfl,h3,h⟩:=h.cons_inv;obtain⟨c4,cs,rfl,h4,h⟩:=h.cons_inv;obtain rfl:=h.nil_inv;obtain rfl:=h0.one_inv;obtain rfl:=h3.one_inv;obtain rfl:=h4.one_inv;obtain⟨a,c,rfl,hr⟩:=h1.row_inv;obtain⟨a',c',rfl,hr'⟩:=h2.row_inv;exact⟨a,c,a',c',by rw[Fz,Ks],hr,hr'⟩
theorem Am.rule_mk(nm:ByteArray){l:List AttrP}{body:List Nd}(x y:Int){a a':Option Addr}(c c':Nat)(h:Af F w a (Cz l))(h':Af F w a' (ndsD body)):
  Am F w (Je ⟨nm,l,body,x,y⟩) [.string nm,.slice a l.length c,.slice a' body.length c',.int .i64 x,.int .i64 y]:=by
 unfold Je;exact .cons (.one _) (.cons (by rw[<-Fz l];exact Dk.row_mk c h) (.cons (by rw[<-Ks body];exact Dk.row_mk c' h') (.cons (.one _) (.cons (.one _) .nil))))
theorem Af.rule{a:Option Addr}{l:List RuleP}(h:Af F w a (Ds l)){j:Nat}{r:RuleP}(hj:l[j]? = some r):
  ∃b off a1 c1 a2 c2,a=some ⟨b,off,none⟩/\F b/\b<w.heap.size/\w.cell? ⟨b,off+j*5,none⟩=some (.string r.name)/\w.cell? ⟨b,off+j*5+1,none⟩=some (.slice a1 r.attrs.length c1)/\w.cell? ⟨b,off+j*5+2,none⟩=some (.slice a2 r.body.length c2) /\
   w.cell? ⟨b,off+j*5+3,none⟩=some (.int .i64 r.ln)/\w.cell? ⟨b,off+j*5+4,none⟩=some (.int .i64 r.cl)/\Af F w a1 (Cz r.attrs)/\Af F w a2 (ndsD r.body):=by
 obtain⟨b,off,cs,ha,hF,hb,hd,hc⟩:=h j (Je r) (by rw[Ds,lgP,hj];rfl);obtain⟨a1,c1,a2,c2,rfl,h1,h2⟩:=hd.rule;rw[Vu] at hc;exact⟨b,off,a1,c1,a2,c2,ha,hF,hb,hc 0 _ rfl,hc 1 _ rfl,hc 2 _ rfl,hc 3 _ rfl,hc 4 _ rfl,h1,h2⟩
theorem Am.nd_of{n:Nd}:∀{cs:List Value},Am F w (nodeD n) cs->Am F w (ndD n) cs:=
 Nd.rec (motive_1:=fun n=>∀{cs:List Value},Am F w (nodeD n) cs->Am F w (ndD n) cs) (motive_2:=fun l=>∀x∈l,∀{cs:List Value},Am F w (nodeD x) cs->Am F w (ndD x) cs)
  (fun k t l c kids ih cs h=>by
   have hv:A3 F w (.mk k t l c kids) (.agg cs.toArray):=⟨cs,rfl,h⟩;obtain⟨a,cap,he,hr⟩:=hv.open;obtain rfl:cs=[.int .i64 k,.string t,.int .i64 l,.int .i64 c,.slice a kids.length cap]:=(by simpa using he);rw[ndD];refine .cons (.one _) (.cons (.one _) (.cons (.one _) (.cons (.one _) (.cons ?_ .nil))));rw[<-Ks kids];refine Dk.row_mk cap (fun j d hj=>?_);rw[Kr,lgP] at hj;cases hx:kids[j]? with
   | none=>rw[hx] at hj;cases hj
   | some x=>
    rw[hx] at hj;cases hj;obtain⟨b,off,cs,ha,hF,hb,hd,hc⟩:=hr j (nodeD x) (by rw[Cj,lgP,hx];rfl);refine⟨b,off,cs,ha,hF,hb,ih x (List.mem_of_getElem? hx) hd,?_⟩;obtain⟨k,t,l,c,m⟩:=x;rw[Dy] at hc;exact hc)
  (fun x hx=>by cases hx)
  (fun v t hv ht x hx=>by
   rcases List.mem_cons.1 hx with rfl|hx
   ·exact hv
   ·exact ht x hx) n
theorem Af.nds_of{a:Option Addr}{l:List Nd}(h:Af F w a (A2 l)):Af F w a (ndsD l):=by
 intro j d hj;rw[Kr,lgP] at hj;cases hx:l[j]? with
 | none=>rw[hx] at hj;cases hj
 | some x=>
  rw[hx] at hj;cases hj;obtain⟨b,off,cs,ha,hF,hb,hd,hc⟩:=h j (nodeD x) (by rw[Cj,lgP,hx];rfl);refine⟨b,off,cs,ha,hF,hb,hd.nd_of,?_⟩;obtain⟨k,t,l,c,m⟩:=x;rw[Dy] at hc;exact hc
end
def tyName:Nat->List UInt8
 | 1=>[116,101,120,116]
 | 2=>[98,111,111,108]
 | 3=>[105,110,116]
 | 4=>[116,101,120,116,115]
 | 5=>[102,105,108,101,115]
 | 6=>[108,97,98,101,108,115]
 | _=>[]
def Kc(k:Nat)(s:List UInt8):Prop:=∀j,1<=j->j<k->¬s=tyName j
theorem Kc.one(s):Kc 1 s:=fun j h1 h2=>by omega
theorem Kc.step{k s}(h:Kc k s)(hk:¬s=tyName k):Kc (k+1) s:=fun j h1 h2=>by
 by_cases e:j=k
 ·rw[e];exact hk
 ·exact h j h1 (by omega)
theorem Kc.none{s}(h:Kc 7 s):typeL s=0:=by
 unfold typeL;rw[if_neg (show ¬s=[116,101,120,116] from h 1 (by decide) (by decide)),if_neg (show ¬s=[98,111,111,108] from h 2 (by decide) (by decide)),if_neg (show ¬s=[105,110,116] from h 3 (by decide) (by decide)),if_neg (show ¬s=[116,101,120,116,115] from h 4 (by decide) (by decide)),if_neg (show ¬s=[102,105,108,101,115] from h 5 (by decide) (by decide)),if_neg (show ¬s=[108,97,98,101,108,115] from h 6 (by decide) (by decide))]
theorem Th(s w):Calls Tryz.prog 81 #[.string s] w (fun e w'=>e = .returned (.int .i64 (typeL s.data.toList))/\Below w.heap.size w w'):=by
 have hb:=Lq7 ((bRf _ w).alloc (nlr _) (.cells #[.string ⟨#[]⟩,.string ⟨#[116,101,120,116]⟩,.string ⟨#[98,111,111,108]⟩,.string ⟨#[105,110,116]⟩,.string ⟨#[116,101,120,116,115]⟩,.string ⟨#[102,105,108,101,115]⟩,.string ⟨#[108,97,98,101,108,115]⟩] 177));have Hd:=Lq7 (Lq8 s);go_enter Tryz.func81,Tryz.ntmps81;go_wp2_with fail
 go_loop [8] (fun i=>i = .int .i64 0\/(i = .int .i64 1/\Hid (Kc 1 s.data.toList))\/(i = .int .i64 2/\Hid (Kc 2 s.data.toList))\/(i = .int .i64 3/\Hid (Kc 3 s.data.toList))\/(i = .int .i64 4/\Hid (Kc 4 s.data.toList))\/(i = .int .i64 5/\Hid (Kc 5 s.data.toList))\/(i = .int .i64 6/\Hid (Kc 6 s.data.toList))\/(i = .int .i64 7/\Hid (Kc 7 s.data.toList))) (fun i=>8-(intOf i).toNat)
 case atStart=>exact .inl rfl
 case round=>
  rcases hrel with rfl|⟨rfl,hk⟩|⟨rfl,hk⟩|⟨rfl,hk⟩|⟨rfl,hk⟩|⟨rfl,hk⟩|⟨rfl,hk⟩|⟨rfl,hk⟩
  ·have aD:=typesAt0;have HK:=Lq7 (Kc.one s.data.toList);cases h0:([]==s.toList)
   all_goals
    go_wp2_with fail;go_round
    case rel=>exact .inr (.inl ⟨by go_num,HK⟩)
    case measure=>simp[intOf]
  ·have aD:=typesAt1;cases h1:([116,101,120,116]==s.toList)
   ·have HK:=Lq7 (hk.out.step (by rw[<-Hd.out];intro e;rw[e] at h1;exact absurd h1 (by decide)));clear hk;go_wp2_with fail;go_round
    case rel=>exact .inr (.inr (.inl ⟨by go_num,HK⟩))
    case measure=>simp[intOf]
   ·have he:s.data.toList=[116,101,120,116]:=(by rw[<-Hd.out];exact(beq_iff_eq.1 h1).symm);have Ht:Hid (typeL s.data.toList=1):=Lq7 (by rw[he];rfl);clear he hk;go_wp2_with fail;go_ret;exact⟨by rw[Ht.out];rfl,hb.out⟩
  ·have aD:=typesAt2;cases h2:([98,111,111,108]==s.toList)
   ·have HK:=Lq7 (hk.out.step (by rw[<-Hd.out];intro e;rw[e] at h2;exact absurd h2 (by decide)));clear hk;go_wp2_with fail;go_round
    case rel=>exact .inr (.inr (.inr (.inl ⟨by go_num,HK⟩)))
    case measure=>simp[intOf]
   ·have he:s.data.toList=[98,111,111,108]:=(by rw[<-Hd.out];exact(beq_iff_eq.1 h2).symm);have Ht:Hid (typeL s.data.toList=2):=Lq7 (by rw[he];rfl);clear he hk;go_wp2_with fail;go_ret;exact⟨by rw[Ht.out];rfl,hb.out⟩
  ·have aD:=typesAt3;cases h3:([105,110,116]==s.toList)
   ·have HK:=Lq7 (hk.out.step (by rw[<-Hd.out];intro e;rw[e] at h3;exact absurd h3 (by decide)));clear hk;go_wp2_with fail;go_round
    case rel=>exact .inr (.inr (.inr (.inr (.inl ⟨by go_num,HK⟩))))
    case measure=>simp[intOf]
   ·have he:s.data.toList=[105,110,116]:=(by rw[<-Hd.out];exact(beq_iff_eq.1 h3).symm);have Ht:Hid (typeL s.data.toList=3):=Lq7 (by rw[he];rfl);clear he hk;go_wp2_with fail;go_ret;exact⟨by rw[Ht.out];rfl,hb.out⟩
  ·have aD:=typesAt4;cases h4:([116,101,120,116,115]==s.toList)
   ·have HK:=Lq7 (hk.out.step (by rw[<-Hd.out];intro e;rw[e] at h4;exact absurd h4 (by decide)));clear hk;go_wp2_with fail;go_round
    case rel=>exact .inr (.inr (.inr (.inr (.inr (.inl ⟨by go_num,HK⟩)))))
    case measure=>simp[intOf]
   ·have he:s.data.toList=[116,101,120,116,115]:=(by rw[<-Hd.out];exact(beq_iff_eq.1 h4).symm);have Ht:Hid (typeL s.data.toList=4):=Lq7 (by rw[he];rfl);clear he hk;go_wp2_with fail;go_ret;exact⟨by rw[Ht.out];rfl,hb.out⟩
  ·have aD:=typesAt5;cases h5:([102,105,108,101,115]==s.toList)
   ·have HK:=Lq7 (hk.out.step (by rw[<-Hd.out];intro e;rw[e] at h5;exact absurd h5 (by decide)));clear hk;go_wp2_with fail;go_round
    case rel=>exact .inr (.inr (.inr (.inr (.inr (.inr (.inl ⟨by go_num,HK⟩))))))
    case measure=>simp[intOf]
   ·have he:s.data.toList=[102,105,108,101,115]:=(by rw[<-Hd.out];exact(beq_iff_eq.1 h5).symm);have Ht:Hid (typeL s.data.toList=5):=Lq7 (by rw[he];rfl);clear he hk;go_wp2_with fail;go_ret;exact⟨by rw[Ht.out];rfl,hb.out⟩
  ·have aD:=typesAt6;cases h6:([108,97,98,101,108,115]==s.toList)
   ·have HK:=Lq7 (hk.out.step (by rw[<-Hd.out];intro e;rw[e] at h6;exact absurd h6 (by decide)));clear hk;go_wp2_with fail;go_round
    case rel=>exact .inr (.inr (.inr (.inr (.inr (.inr (.inr ⟨by go_num,HK⟩))))))
    case measure=>simp[intOf]
   ·have he:s.data.toList=[108,97,98,101,108,115]:=(by rw[<-Hd.out];exact(beq_iff_eq.1 h6).symm);have Ht:Hid (typeL s.data.toList=6):=Lq7 (by rw[he];rfl);clear he hk;go_wp2_with fail;go_ret;exact⟨by rw[Ht.out];rfl,hb.out⟩
  ·have Ht:=Lq7 hk.out.none;clear hk;go_wp2_with fail;go_ret;exact⟨by rw[Ht.out];rfl,hb.out⟩
def POwn(w:World)(e:Ending)(w':World):Prop:=Below w.heap.size w w'/\∃b:Nat,w.heap.size<=b/\e = .returned (.slice (some ⟨b,0,none⟩) 2 2)/\OwnD (fun k=>w.heap.size<=k) w' w.heap.size 47 8 (.slice (some ⟨b,0,none⟩) 2 2) (Cz ownL)
theorem Uk(w):Calls Tryz.prog 51 #[] w (POwn w):=by
 obtain⟨h1,h2,h3,h4,h5⟩:=Ch w (.cells #[.int .i64 3,.int .i64 0,.string ⟨#[58,104,101,114,101]⟩,.slice none 0 0,.slice none 0 0] 42) (.cells #[.int .i64 4,.int .i64 0,.string ⟨#[]⟩,.slice (some ⟨w.heap.size,0,none⟩) 1 1,.slice none 0 0] 42)
  (.cells #[.string ⟨#[110,97,109,101]⟩,.int .i64 1,.bool true,.int .i64 0,.int .i64 0,.string ⟨#[]⟩,.slice none 0 0,.slice none 0 0,.string ⟨#[115,101,101,110]⟩,.int .i64 4,.bool false,.int .i64 4,.int .i64 0,.string ⟨#[]⟩,.slice (some ⟨w.heap.size,0,none⟩) 1 1,.slice none 0 0] 47)
 have H:=Lq7 (aIn h1 (aIn h3 h4));go_enter Tryz.func51,Tryz.ntmps51;go_wp2_with fail;generalize World.alloc _ _=W at H |-;refine bodyPost_ret (v:=.slice (some ⟨w.heap.size+1+1,0,none⟩) 2 2) (by simp[results,Tryz.results51,go_sem]) rfl ?_;refine⟨H.out.2.2,_,by omega,rfl,[[.string ⟨#[110,97,109,101]⟩,.int .i64 1,.bool true,.int .i64 0,.int .i64 0,.string ⟨#[]⟩,.slice none 0 0,.slice none 0 0],[.string ⟨#[115,101,101,110]⟩,.int .i64 4,.bool false,.int .i64 4,.int .i64 0,.string ⟨#[]⟩,.slice (some ⟨w.heap.size,0,none⟩) 1 1,.slice none 0 0]],rfl,?_,?_,?_⟩
 ·intro cs aM;simp at aM;rcases aM with rfl|rfl<;>rfl
 ·refine⟨rfl,.inr ⟨w.heap.size+1+1,2,_,rfl,by omega,H.out.2.1,by decide,by unfold maxLen;decide,rfl,rfl⟩⟩
 ·intro j ds cs h1 h2;have aH:Af (fun b=>w.heap.size<=b/\(Value.slice (some ⟨w.heap.size+1+1,0,none⟩) 2 2).ownBlock≠some b) W (some ⟨w.heap.size,0,none⟩) (Ar [.mk 3 0 ⟨#[58,104,101,114,101]⟩ [] []]):=by
   intro i d hi;obtain⟨aG,hc,-⟩:=A5 H.out.1;cases i with
   | zero=>
    simp[Ar] at hi;subst hi;refine⟨w.heap.size,0,[.int .i64 3,.int .i64 0,.string ⟨#[58,104,101,114,101]⟩,.slice none 0 0,.slice none 0 0],rfl,⟨nlr _,fun e=>by
     have:w.heap.size+1+1=w.heap.size:=(by simpa[Value.ownBlock] using e);omega⟩,aG,Am.val_mk (l:=[]) (ks:=[]) _ _ _ _ _ (Af.nil _) (Af.nil _),fun k u hu=>?_⟩
    simp only[nzm,Nat.zero_add,naz];rw[hc]
    simpa using hu
   | succ i=>simp[Ar] at hi
  match j,h1,h2 with
  | 0,h1,h2=>
   simp[Cz,ownL] at h1 h2;subst h1;subst h2;exact Am.attr_mk (l:=[]) (ks:=[]) _ _ _ _ _ _ _ _ (Af.nil _) (Af.nil _)
  | 1,h1,h2=>
   simp[Cz,ownL] at h1 h2;subst h1;subst h2;exact Am.attr_mk (l:=[.mk 3 0 ⟨#[58,104,101,114,101]⟩ [] []]) (ks:=[]) _ _ _ _ _ _ 1 0 aH (Af.nil _)
  | j+2,h1,_=>simp[Cz,ownL] at h1
def PFindR(b:Bool)(w:World)(e:Ending)(w':World):Prop:=Below w.heap.size w w'/\∃(s:ByteArray) (a1:Option Addr) (l1 c1:Nat) (a2:Option Addr) (l2 c2:Nat) (x y:Int),e = .returned (.tuple #[.agg #[.string s,.slice a1 l1 c1,.slice a2 l2 c2,.int .i64 x,.int .i64 y],.bool b])
theorem find_any(F l a cap name w)(hl:l.length<=140737488355328)(hr:Af F w a (Ds l)):
  Calls Tryz.prog 50 #[.slice a l.length cap,.string name] w (PFindR (l.any fun r=>Eb r.name name) w):=by
 have hw0:=heap_alloc_new w (.cells #[.string ⟨#[]⟩,.slice none 0 0,.slice none 0 0,.int .i64 0,.int .i64 0] 38);have aN:Below w.heap.size w (w.alloc (.cells #[.string ⟨#[]⟩,.slice none 0 0,.slice none 0 0,.int .i64 0,.int .i64 0] 38)):=(bRf _ w).alloc (nlr _) _;have H:=Lq7 (aIn hw0 (aIn aN (hr.below aN)));go_enter Tryz.func50,Tryz.ntmps50;go_wp2_with fail;generalize World.alloc _ _=W at H |-
 go_loopw [10] (fun i wr=>∃j:Nat,i = .int .i64 j/\j<=l.length/\Hid (wr.heap[w.heap.size]? = some (.cells #[.string ⟨#[]⟩,.slice none 0 0,.slice none 0 0,.int .i64 0,.int .i64 0] 38 (0,0))/\Below w.heap.size w wr/\Af F wr a (Ds l))/\Hid ((l.any fun r=>Eb r.name name)=((l.drop j).any fun r=>Eb r.name name))) (fun i _=>l.length-(intOf i).toNat)
 case atStart=>exact⟨0,rfl,Nat.zero_le _,H,Lq7 rfl⟩
 case round=>
  obtain⟨j,rfl,hj,aB,aE⟩:=hrel;by_cases aG:j<l.length
  ·have aQ:l[j]? = some l[j]:=List.getElem?_eq_getElem aG;have aC:l.drop j=l[j]::l.drop (j+1):=List.drop_eq_getElem_cons aG;generalize l[j]=r at aQ aC;obtain⟨b,off,a1,c1,a2,c2,rfl,-,hbl,r0,r1,r2,r3,r4,-,-⟩:=aB.out.2.2.rule aQ;obtain⟨rn,ra,rb,rx,ry⟩:=r;have aJ:Below wr.heap.size wr (wr.alloc (.cells #[.string rn,.slice a1 ra.length c1,.slice a2 rb.length c2,.int .i64 rx,.int .i64 ry] 38)):=(bRf _ _).alloc (nlr _) _;have HA:=Lq7 (aIn (stays aB.out.1 aJ) (aIn (aB.out.2.1.trans (aJ.mono aB.out.2.1.size)) (aB.out.2.2.below aJ)));have aF:=Lq7 (aE.out.trans (by rw[aC,List.any_cons]));cases hs:(rn.toList==name.toList)
   ·have Hn:Hid ((l.any fun r=>Eb r.name name)=((l.drop (j+1)).any fun r=>Eb r.name name)):=Lq7 (by rw[aF.out,show Eb rn name=false by unfold Eb;rw[<-Lq8,<-Lq8];exact hs,Bool.false_or]);go_wp2_with fail;go_roundw
    case rel=>exact⟨j+1,by go_num,by omega,HA,Hn⟩
    case measure=>simp only[intOf];omega
   ·have Hn:Hid ((l.any fun r=>Eb r.name name)=true):=Lq7 (by rw[aF.out,show Eb rn name=true by unfold Eb;rw[<-Lq8,<-Lq8];exact hs,Bool.true_or]);have aR:=heap_alloc_new wr (.cells #[.string rn,.slice a1 ra.length c1,.slice a2 rb.length c2,.int .i64 rx,.int .i64 ry] 38)
    go_upto_region 5 with fail
    generalize World.alloc _ _=WA at HA aR |-;obtain⟨q0,q1,q2,q3,q4,q5,q6,q7,q8,q9,q10⟩:=Aa HA.out.1;obtain⟨p0,p1,p2,p3,p4,p5,-⟩:=Aa aR;go_wp2_with fail;have hE:=Ko (n:=w.heap.size) (b:=w.heap.size) (nlr _) HA.out.2.1 HA.out.1 (.string rn) (.slice a1 ra.length c1) (.slice a2 rb.length c2) (.int .i64 rx) (.int .i64 ry);unfold Cb at hE;obtain⟨t0,t1,t2,t3,t4,t5,-⟩:=Aa hE.1;refine bodyPost_ret (v:=.tuple #[.agg #[.string rn,.slice a1 ra.length c1,.slice a2 rb.length c2,.int .i64 rx,.int .i64 ry],.bool true]) (by simp[results,Tryz.results50,go_sem,t1,t2,t3,t4,t5]) rfl ?_;rw[Hn.out];exact⟨hE.2,rn,a1,_,c1,a2,_,c2,rx,ry,rfl⟩
  ·have Hn:Hid ((l.any fun r=>Eb r.name name)=false):=Lq7 (by rw[aE.out,List.drop_eq_nil_of_le (by omega)];rfl);obtain⟨q0,q1,q2,q3,q4,q5,q6,q7,q8,q9,q10⟩:=Aa aB.out.1;go_wp2_with fail;have hE:=Ko (n:=w.heap.size) (b:=w.heap.size) (nlr _) aB.out.2.1 aB.out.1 (.string ⟨#[]⟩) (.slice none 0 0) (.slice none 0 0) (.int .i64 0) (.int .i64 0);unfold Cb at hE;obtain⟨t0,t1,t2,t3,t4,t5,-⟩:=Aa hE.1;refine bodyPost_ret (v:=.tuple #[.agg #[.string ⟨#[]⟩,.slice none 0 0,.slice none 0 0,.int .i64 0,.int .i64 0],.bool false]) (by simp[results,Tryz.results50,go_sem,t1,t2,t3,t4,t5]) rfl ?_;rw[Hn.out];exact⟨hE.2,_,none,0,0,none,0,0,0,0,rfl⟩
end Go.Proofs.YtbcdimjbepigcaaGreatDoor
