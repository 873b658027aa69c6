/-
  The walk of eval.copied (as that of rules.copied):a value that shares nothing is the same value. (And what it stands on.)
-/
import Derived.Test.YtlbbbapiklendaaGreatDoorMParseNz
import Derived.Test.YtlbbbapiklendaaGreatDoorMSameG
import Derived.Test.YtlbbbapiklendaaGreatDoorShelf
namespace Go.Proofs.YtlbbbapiklendaaGreatDoor
open Go.IntKind renaming i64->D
open Go.Value renaming int->C,string->B,slice->A
open Go.Obj renaming cells->I
open Option renaming some->H,none->E
open Go Go.RowKit
open List renaming getElem?_eq_getElem->lgE,length_nil->lnN,getElem?_map->lgP,mem_of_getElem? -> lgM,getElem?_eq_some_iff->lgS
open Nat renaming le_refl->nlr,lt_of_lt_of_le->nll,le_trans->nlt,add_zero->naz
open Go.Lib renaming hid->Lq7
open And renaming intro->aIn
set_option maxRecDepth 100000
set_option maxHeartbeats 16000000
theorem J6{w base v l}(h:w.ownsRow base 9 1 v l.length (l.map Value.string)):∃a cap,v = A a l.length cap/\Ac (fun b=>base<=b) w a (Bn l):=by
 have hd:OwnD (fun _=>True) w base 9 1 v (Bn l):=by
  refine⟨l.map fun s=>[B s],by simp[Bn],fun cs hcs=>?_,?_,fun j ds cs h1 h2=>?_⟩
  ·obtain⟨s,-,rfl⟩:=List.mem_map.1 hcs;rfl
  ·have:(l.map fun s=>[Value.string s]).flatten=l.map Value.string:=by
    clear h
    induction l with
    | nil=>rfl
    | cons x t ih=>simp only[List.map_cons,List.flatten_cons,ih];rfl
   rw[this,Lk];exact h
  ·unfold Bn at h1;rw[lgP] at h1 h2;cases hl:l[j]? with
   | none=>rw[hl] at h1;cases h1
   | some s=>
    rw[hl] at h1 h2;cases h1;cases h2;exact .cons (.one _) .nil
 obtain⟨a,cap,hv,hr⟩:=hd.rowAt (fun _ _=>trivial);rw[Lk] at hv;refine⟨a,cap,hv,fun j ds hj=>?_⟩;obtain⟨b,off,cs,ha,-,hb,aH,hc⟩:=hr j ds hj;subst hv;subst ha;obtain⟨-,⟨h1,-⟩|⟨g,cap',cur,h1,h2,-⟩⟩:=h
 ·cases h1
 ·cases h1;refine⟨b,0,cs,rfl,h2,hb,⟨aH.1,fun i u d h3 h4=>?_⟩,hc⟩;unfold Bn at hj;rw[lgP] at hj;cases hl:l[j]? with
  | none=>rw[hl] at hj;cases hj
  | some s=>
   rw[hl] at hj;cases hj;cases i with
   | zero=>
    have:=aH.2 0 u d h3 h4;simp at h4;subst h4;obtain rfl:=this.one_inv;exact .one _
   | succ i=>simp at h4
theorem OwnD.shape{F w base e size v l}(h:OwnD F w base e size v l):∃a cap,v = A a l.length cap/\l.length<=cap:=by
 obtain⟨css,-,-,⟨-,⟨rfl,h⟩|⟨g,cap,cur,rfl,-,-,h,-⟩⟩,-⟩:=h
 ·exact⟨E,0,by rw[h],by omega⟩
 ·exact⟨_,cap,rfl,h⟩
def PStrsC(l:List ByteArray)(w:World)(e:Ending)(w':World):Prop:=∃a c,e = .returned (A a l.length c)/\Ac (fun b=>w.heap.size<=b) w' a (Bn l)/\Below w.heap.size w w'
theorem Td(a c l F w)(hl:l.length<=1000)(hr:Ac F w a (Bn l)):
  Calls Tryz.prog 39 #[A a l.length c] w (PStrsC l w):=by
 cases l with
 | nil=>
  cases a with
  | none=>
   refine(Tryz.slices_Clone_string_nil 0 c w).mono ?_;rintro e w' ⟨rfl,rfl⟩;exact⟨E,0,rfl,Ac.nil _,Below.refl _ _⟩
  | some ad=>
   refine(Tryz.slices_Clone_string_zero ad c w).mono ?_;rintro e w' ⟨v',rfl,hown,-,hb⟩;obtain⟨a',cap,rfl,aB⟩:=J6 (l:=[]) hown;exact⟨a',cap,rfl,aB,hb⟩
 | cons x t=>
  have aJ:=hr.strs;obtain⟨b,off,rfl,-⟩:=aJ 0 x rfl;refine(Tryz.slices_Clone_string b off (x::t).length c (x::t) w (nlr _) (by omega) (fun j hj=>?_)).mono ?_
  ·obtain⟨b',off',hbe,hc⟩:=aJ j _ (lgE hj);cases hbe;rw[hc,List.getD_eq_getElem?_getD,lgE hj];rfl
  ·rintro e w' ⟨v',rfl,hown,-,hb⟩;rw[List.take_length] at hown;obtain⟨a',cap,rfl,aB⟩:=J6 hown;exact⟨a',cap,rfl,aB,hb⟩
def PVals(F:Nat->Prop)(l:List Vl)(w:World)(e:Ending)(w':World):Prop:=∃a c,e = .returned (A a l.length c)/\OwnD F w' w.heap.size 53 5 (A a l.length c) (Ar l)/\Below w.heap.size w w'/\l.length<=c
theorem U1{w:World}(F e)(size:Nat):OwnD F (w.alloc (I #[] e)) w.heap.size e size (A (H ⟨w.heap.size,0,E⟩) 0 0) []:=by
 refine⟨[],rfl,by simp,⟨by simp,.inr ⟨w.heap.size,0,#[],rfl,nlr _,heap_alloc_new w _,nlr _,by simp,by simp,by simp⟩⟩,by simp⟩
theorem Te(a c l F w)(hl:l.length<=1000)(hF:∀b,F b->b<w.heap.size)(hr:Ac F w a (Ar l)):
  Calls Tryz.prog 40 #[A a l.length c] w (PVals F l w):=by
 have hq:∀n w,(binOp .eql 50 (A a n c) (A E 0 0)).run Tryz.prog w = .ok (.bool a.isNone) w:=fun n w=>Lib.run_eql_slice_nil w 50 53 a n c 0 0 Tryz.underlying50;cases l with
 | nil=>
  have hq0:=hq 0;cases a with
  | none=>
   go_enter Tryz.func40,Tryz.ntmps40;go_wp2_with fail;refine bodyPost_ret (v:=A E 0 0) (by simp[results,Tryz.results40,go_sem]) rfl ?_;exact⟨_,_,rfl,OwnD.nil _ _ _ _ _,Below.refl _ _,nlr _⟩
  | some ad=>
   go_enter Tryz.func40,Tryz.ntmps40;go_wp2_with fail;refine bodyPost_ret (v:=A (H ⟨w.heap.size,0,E⟩) 0 0) (by simp[results,Tryz.results40,go_sem]) rfl ?_;exact⟨_,_,rfl,U1 F _ 5,(Below.refl _ w).alloc (nlr _) _,nlr _⟩
 | cons x t=>
  obtain⟨b,off,cs,rfl,-⟩:=hr 0 (valD x) (by rw[Fh];rfl);obtain⟨i0,hi,hz0,hz1,hz2⟩:=info_parts infoVal;have hq1:=hq (x::t).length;generalize hxt:x::t=l at hl hr hq1 |-;have aM:Below w.heap.size w (w.alloc (I #[] 53)):=(Below.refl _ w).alloc (nlr _) _;have aE:=Lq7 (U1 (w:=w) F 53 5);have aF:Hid (Ac (fun b'=>F b'/\(Value.slice (H ⟨w.heap.size,0,E⟩) 0 0).ownBlock≠H b') (w.alloc (I #[] 53)) (H ⟨b,off,E⟩) (Ar l)):=Lq7 ((hr.below aM).wider (fun b' h _=>⟨h,fun e=>by
   have h1:=hF b' h;have h2:w.heap.size=b':=(by simpa[Value.ownBlock] using e);omega⟩))
  have Hba:=Lq7 aM;go_enter Tryz.func40,Tryz.ntmps40
  go_wp2_with (at_builtin;refine Bv rfl _ _ 50 rfl w.heap.size 53 i0 _ 5 80 Tryz.underlying50 hi hz0 hz1 hz2 rfl (by decide) (A (H ⟨w.heap.size,0,E⟩) 0 0) F [] rfl aE.out b off c (Ar l) ?_ aF.out (valsD_all valD_len l) (valsD_all L4 l) ?_ ?_ ?_ ?_)
  ·rw[Bi];rfl
  ·rw[Bi,lnN];unfold maxLen;omega
  ·rw[Bi,lnN];omega
  ·simp
  intro v2 w2 aA aC _;have aG:∀g,(Value.slice (H ⟨w.heap.size,0,E⟩) 0 0).ownBlock=H g->w.heap.size<=g:=fun g hg=>by
   have h2:w.heap.size=g:=(by simpa[Value.ownBlock] using hg);omega
  have Hb2:=Lq7 (Hba.out.trans (Cz aC aG (by simp)));obtain⟨aO,cO,hv,hc⟩:=aA.shape;rw[Bi] at hv hc;subst hv;have aD:=Lq7 aA;go_wp2_with fail;refine bodyPost_ret (v:=A aO l.length cO) (by simp[results,Tryz.results40,go_sem]) rfl ?_;exact⟨_,_,rfl,aD.out,Hb2.out,hc⟩
def PCopy(F:Nat->Prop)(v:Vl)(w:World)(e:Ending)(w':World):Prop:=Below w.heap.size w w'/\∃cs:List Value,e = .returned (.agg cs.toArray)/\Ai (fun b=>F b\/w.heap.size<=b) w' (valD v) cs
theorem OwnD.blk{F w base e size a n c l}(h:OwnD F w base e size (A a n c) l)(hl:l≠[])(hn:n=l.length)(_hsz:∀ds∈l,ds.length=size):
  ∃g,a=H ⟨g,0,E⟩/\base<=g/\g<w.heap.size/\∀j,j<l.length->∀i,i<size->(∃u,w.cell? ⟨g,j*size+i,E⟩=H u)/\w.frozen? ⟨g,j*size+i,E⟩=false:=by
 obtain⟨css,h1,h2,⟨h3,⟨h4,h5⟩|⟨g,cap,cur,hv,hg,hb,hc,-,hs,-⟩⟩,-⟩:=h
 ·cases h4;exact absurd (List.length_eq_zero_iff.1 h5) hl
 ·cases hv;obtain⟨hlt,aA,hfz⟩:=Ao hb;refine⟨g,rfl,hg,hlt,fun j hj i hi=>⟨?_,hfz _⟩⟩;rw[aA];have:j*size+i<cur.size:=by
   rw[hs];have h1:(j+1)*size<=c*size:=Nat.mul_le_mul_right _ (by omega);rw[Nat.add_mul] at h1;omega
  exact⟨cur[j*size+i],Array.getElem?_eq_getElem this⟩
theorem OwnD.wider{F G w base e size v l}(h:OwnD F w base e size v l)(hg:∀b,F b->G b):OwnD G w base e size v l:=by
 obtain⟨css,h1,h2,h3,h4⟩:=h;exact⟨css,h1,h2,h3,fun j ds cs h5 h6=>(h4 j ds cs h5 h6).wider fun b hb _=>⟨hg b hb.1,hb.2⟩⟩
theorem OwnD.elt{F:Nat->Prop}{w:World}{base:Nat}{e:TypeId}{size g n c:Nat}{l:List (List Dat)}(h:OwnD F w base e size (A (H ⟨g,0,E⟩) n c) l){j:Nat}{ds:List Dat}(hj:l[j]? = H ds){s:Option Addr}(_hs:s=H ⟨g,0,E⟩):
  ∃cs,Ai (fun b=>F b/\(Value.slice (H ⟨g,0,E⟩) n c).ownBlock≠H b) w ds cs/\∀(i:Nat) u,cs[i]? = H u->w.cell? ⟨g,j*ds.length+i,E⟩=H u:=by
 have h0:=h;obtain⟨css,h1,h2,h3,h4⟩:=h;have hjl:=(lgS.1 hj).1;have aB:css[j]? = H (css[j]'(by omega)):=lgE (by omega);have aC:=h4 j _ _ hj aB;refine⟨_,aC,fun i u hu=>?_⟩;have hrow:OwnD (fun _=>True) w base e size (A (H ⟨g,0,E⟩) n c) l:=h0.wider fun _ _=>trivial;obtain⟨h5,⟨h6,-⟩|⟨g',cap,cur,h6,-,hb,hc,-,hs',ht⟩⟩:=h3
 ·cases h6
 ·cases h6;obtain⟨-,aA,-⟩:=Ao hb;rw[aA];have hds:ds.length=size:=(by rw[<-aC.1];exact h2 _ (lgM aB));have hi:=(lgS.1 hu).1;have h9:=Fy h2 aB hu;rw[<-ht,List.getElem?_take_of_lt (by
   have:(j+1)*size<=l.length*size:=Nat.mul_le_mul_right _ (by omega);rw[Nat.add_mul] at this;have:=h2 _ (lgM aB);omega),Array.getElem?_toList] at h9
  rw[hds];exact h9
theorem val_set{n b w W c0 c1 c2 c3 c4 t}(hn:n<=b)(hb:Below n w W)(hr:W.heap[b]? = H (I #[c0,c1,c2,c3,c4] t (0,0)))(v0 v1 v2 v3 v4):
  (W.setCells b 0 [v0,v1,v2,v3,v4]).heap[b]? = H (I #[v0,v1,v2,v3,v4] t (0,0))/\Below n w (W.setCells b 0 [v0,v1,v2,v3,v4]):=
 ⟨by
  show(((((W.setCell ⟨b,0,E⟩ v0).setCell ⟨b,1,E⟩ v1).setCell ⟨b,2,E⟩ v2).setCell ⟨b,3,E⟩ v3).setCell ⟨b,4,E⟩ v4).heap[b]? = _;rw[Af (Af (Af (Af (Af hr 0 _) 1 _) 2 _) 3 _) 4];rfl,
 by
  show Below n w (((((W.setCell ⟨b,0,E⟩ v0).setCell ⟨b,1,E⟩ v1).setCell ⟨b,2,E⟩ v2).setCell ⟨b,3,E⟩ v3).setCell ⟨b,4,E⟩ v4);exact((((hb.setCell (p:=⟨b,0,E⟩) hn _).setCell (p:=⟨b,1,E⟩) hn _).setCell (p:=⟨b,2,E⟩) hn _).setCell (p:=⟨b,3,E⟩) hn _).setCell (p:=⟨b,4,E⟩) hn _⟩
theorem set_self{α:Type}{l:List α}{j:Nat}{x:α}(h:l[j]? = H x):l.set j x=l:=by
 apply List.ext_getElem?;intro i;by_cases hij:j=i
 ·subst hij;rw[List.getElem?_set_self (lgS.1 h).1,h]
 ·rw[List.getElem?_set_ne hij]
theorem Kj{n g w}(hn:n<=g):∀(vs:List Value) (o:Nat) (W:World),Below n w W->Below n w (W.setCells g o vs)
 | [],_,_,h=>h
 | v::r,o,W,h=>by rw[World.setCells];exact Kj hn r (o+1) _ (h.setCell (p:=⟨g,o,E⟩) hn v)
def Tb(v:Vl):Prop:=∀(F:Nat->Prop) (a1:Option Addr) (c1:Nat) (a2:Option Addr) (c2:Nat) (w:World),(∀b,F b->b<w.heap.size)->Ac F w a1 (Ar v.items)->Ac F w a2 (Bn v.keys) ->
 Calls Tryz.prog 23 #[.agg #[C D v.kind,C D v.num,B v.str,A a1 v.items.length c1,A a2 v.keys.length c2]] w (PCopy F v w)
theorem Tc(k n s l ks)(hck:Am (.mk k n s l ks)=true)(hit:∀x∈l,Tb x)(F a1 c1 a2 c2 w)(hF:∀b,F b->b<w.heap.size)(hr1:Ac F w a1 (Ar l))(hr2:Ac F w a2 (Bn ks)):
  Calls Tryz.prog 23 #[.agg #[C D k,C D n,B s,A a1 l.length c1,A a2 ks.length c2]] w (PCopy F (.mk k n s l ks) w):=by
 obtain⟨-,hll,hkl⟩:=check_len hck;obtain⟨h1,h2,h3,h4⟩:=Cl w (I #[C D k,C D n,B s,A a1 l.length c1,A a2 ks.length c2] 53) (I #[C D 0,C D 0,B ⟨#[]⟩,A E 0 0,A E 0 0] 53);have H0:=Lq7 (aIn h1 (aIn h2 (aIn h3 (aIn (hr1.below h3) (hr2.below h3)))));have h4':=h4;have HF:=Lq7 hF;have Hit:=Lq7 hit;have HK:=Lq7 (fun W (h:Ac F W a2 (Bn ks))=>Td a2 c2 ks F W hkl h);have HV:=Lq7 (fun W (h0:∀b,F b->b<W.heap.size) (h:Ac F W a1 (Ar l))=>Te a1 c1 l F W hll h0 h);have hb2:w.heap.size+2<=((w.alloc (I #[C D k,C D n,B s,A a1 l.length c1,A a2 ks.length c2] 53)).alloc (I #[C D 0,C D 0,B ⟨#[]⟩,A E 0 0,A E 0 0] 53)).heap.size:=(by rw[h4];exact nlr _);have bD:=Lq7 hb2;go_enter Tryz.func23,Tryz.ntmps23;go_wp2_with fail;refine(HK.out _ H0.out.2.2.2.2).mono ?_;rintro e w1 ⟨aK,cK,rfl,hrK,aH⟩;have hz1:w.heap.size+2<=w1.heap.size:=nlt bD.out aH.size;have H1:=Lq7 (aIn (stays H0.out.1 aH) (aIn (stays H0.out.2.1 aH) (aIn (H0.out.2.2.1.trans (aH.mono H0.out.2.2.1.size)) (aIn (H0.out.2.2.2.1.below aH) (hrK.wider (G:=fun b=>w.heap.size+2<=b) fun b hb _=>nlt bD.out hb)))));obtain⟨q0,q1,q2,q3,q4,q5,q6,q7,q8,q9,bE⟩:=Aa H1.out.1;go_wp2_with fail;have H2:Hid ((w1.setCell ⟨w.heap.size,4,E⟩ (A aK ks.length cK)).heap[w.heap.size]? = H (I #[C D k,C D n,B s,A a1 l.length c1,A aK ks.length cK] 53 (0,0))/\(w1.setCell ⟨w.heap.size,4,E⟩ (A aK ks.length cK)).heap[w.heap.size+1]? = H (I #[C D 0,C D 0,B ⟨#[]⟩,A E 0 0,A E 0 0] 53 (0,0))/\Below w.heap.size w (w1.setCell ⟨w.heap.size,4,E⟩ (A aK ks.length cK))/\Ac F (w1.setCell ⟨w.heap.size,4,E⟩ (A aK ks.length cK)) a1 (Ar l)/\Ac (fun b=>w.heap.size+2<=b) (w1.setCell ⟨w.heap.size,4,E⟩ (A aK ks.length cK)) aK (Bn ks)/\w.heap.size+2<=(w1.setCell ⟨w.heap.size,4,E⟩ (A aK ks.length cK)).heap.size):=Lq7
  ⟨by rw[Af H1.out.1 4];rfl,(Ad (by omega) 4 _).trans H1.out.2.1,H1.out.2.2.1.setCell (p:=⟨w.heap.size,4,E⟩) (nlr _) _,H1.out.2.2.2.1.mono (fun b hb hl=>⟨hb,by simpa using hl,Ad (by have:=HF.out b hb;omega) 4 _⟩),H1.out.2.2.2.2.mono (fun b hb hl=>⟨hb,by simpa using hl,Ad (by have:w.heap.size+2<=b:=hb;omega) 4 _⟩),by simpa using hz1⟩
 generalize World.setCell _ _ _=W2 at H2 |-;obtain⟨m,hm⟩:∃m,m=W2.heap.size:=⟨_,rfl⟩;have hm2:w.heap.size+2<=m:=(by rw[hm];exact H2.out.2.2.2.2.2);refine(HV.out _ (fun b hb=>by have:=HF.out b hb;have:=H2.out.2.2.2.2.2;omega) H2.out.2.2.2.1).mono ?_;rintro e w3 ⟨aO,cO,rfl,aJ,aM,hcO⟩;have hz3:w.heap.size+2<=w3.heap.size:=nlt H2.out.2.2.2.2.2 aM.size;have aF:OwnD (fun b=>F b\/m<=b) w3 m 53 5 (A aO l.length cO) (Ar l):=(aJ.wider (fun b hb=> .inl hb)).lower (Nat.le_of_eq hm);have H3:=Lq7 (aIn (stays H2.out.1 aM) (aIn (stays H2.out.2.1 aM) (aIn (H2.out.2.2.1.trans (aM.mono H2.out.2.2.1.size)) (aIn aF ((H2.out.2.2.2.2.1.here.wider (G:=fun b=>w.heap.size+2<=b/\b<m) fun b hb _=>⟨hb.1,by rw[hm];exact hb.2⟩).below aM)))));obtain⟨q0,q1,q2,q3,q4,q5,q6,q7,q8,q9,bE⟩:=Aa H3.out.1;go_wp2_with fail;have H4:Hid ((w3.setCell ⟨w.heap.size,3,E⟩ (A aO l.length cO)).heap[w.heap.size]? = H (I #[C D k,C D n,B s,A aO l.length cO,A aK ks.length cK] 53 (0,0))/\(w3.setCell ⟨w.heap.size,3,E⟩ (A aO l.length cO)).heap[w.heap.size+1]? = H (I #[C D 0,C D 0,B ⟨#[]⟩,A E 0 0,A E 0 0] 53 (0,0))/\Below w.heap.size w (w3.setCell ⟨w.heap.size,3,E⟩ (A aO l.length cO))/\OwnD (fun b=>F b\/m<=b) (w3.setCell ⟨w.heap.size,3,E⟩ (A aO l.length cO)) m 53 5 (A aO l.length cO) (Ar l)/\Ac (fun b=>w.heap.size+2<=b/\b<m) (w3.setCell ⟨w.heap.size,3,E⟩ (A aO l.length cO)) aK (Bn ks)/\w.heap.size+2<=(w3.setCell ⟨w.heap.size,3,E⟩ (A aO l.length cO)).heap.size):=Lq7
  ⟨by rw[Af H3.out.1 3];rfl,(Ad (by omega) 3 _).trans H3.out.2.1,H3.out.2.2.1.setCell (p:=⟨w.heap.size,3,E⟩) (nlr _) _,H3.out.2.2.2.1.keep (fun b hb hx=>Ad (by
   rcases hx with (hx|hx)|hx
   ·have:=HF.out b hx;omega
   ·omega
   ·have:=(H3.out.2.2.2.1.block_lt hx).1;omega) 3 _) (by simp),H3.out.2.2.2.2.mono (fun b hb hl=>⟨hb,by simpa using hl,Ad (by have:w.heap.size+2<=b:=hb.1;omega) 3 _⟩),by simpa using hz3⟩
 generalize World.setCell _ _ _=W4 at H4 |-;have hlc:=hcO;obtain⟨q0,q1,q2,q3,q4,q5,q6,q7,q8,q9,bE⟩:=Aa H4.out.1;go_wp2_with fail
 go_loopw [16] (fun i wr=>∃j:Nat,i = C D j/\j<=l.length/\Hid (wr.heap[w.heap.size]? = H (I #[C D k,C D n,B s,A aO l.length cO,A aK ks.length cK] 53 (0,0))/\wr.heap[w.heap.size+1]? = H (I #[C D 0,C D 0,B ⟨#[]⟩,A E 0 0,A E 0 0] 53 (0,0))/\Below w.heap.size w wr/\OwnD (fun b=>F b\/m<=b) wr m 53 5 (A aO l.length cO) (Ar l)/\Ac (fun b=>w.heap.size+2<=b/\b<m) wr aK (Bn ks)/\w.heap.size+2<=wr.heap.size)) (fun i _=>l.length-(intOf i).toNat)
 case atStart=>exact⟨0,rfl,Nat.zero_le _,H4⟩
 case round=>
  obtain⟨j,rfl,hj,aA⟩:=hrel;by_cases hlt:j<l.length
  ·have aU:l[j]? = H l[j]:=lgE hlt;generalize l[j]=x at aU;have HC:=Hit.out x (lgM aU);obtain⟨xk,xn,xs,xl,xks⟩:=x;have aN:(Ar l).length=l.length:=Bi l;obtain⟨g,rfl,hg1,hg2,aC⟩:=aA.out.2.2.2.1.blk (by intro e;rw[<-aN,e] at hlt;simp at hlt) aN.symm (valsD_all valD_len l);obtain⟨u0,v0⟩:=aC j (by omega) 0 (by omega);obtain⟨u1,v1⟩:=aC j (by omega) 1 (by omega);obtain⟨u2,v2⟩:=aC j (by omega) 2 (by omega);obtain⟨u3,v3⟩:=aC j (by omega) 3 (by omega);obtain⟨u4,v4⟩:=aC j (by omega) 4 (by omega);rw[naz] at u0 v0;have aV:=aA.out.2.2.2.1.elt (j:=j) (by rw[Fh,lgP,aU];rfl) rfl;obtain⟨cs0,aW,aB⟩:=aV;obtain⟨b1,e1,b2,e2,rfl,hs1,hs2⟩:=aW.val;rw[valD_len] at aB;have r0:=aB 0 _ rfl;have r1:=aB 1 _ rfl;have r2:=aB 2 _ rfl;have r3:=aB 3 _ rfl;have r4:=aB 4 _ rfl;rw[naz] at r0;have aD:Below wr.heap.size wr (wr.alloc (I #[C D xk,C D xn,B xs,A b1 xl.length e1,A b2 xks.length e2] 53)).drew:=((Below.refl _ wr).alloc (nlr _) _).drew;have hxb:(wr.alloc (I #[C D xk,C D xn,B xs,A b1 xl.length e1,A b2 xks.length e2] 53)).drew.heap[wr.heap.size]? = H (I #[C D xk,C D xn,B xs,A b1 xl.length e1,A b2 xks.length e2] 53 (0,0)):=heap_alloc_new wr _;have H5:=Lq7 (aIn hxb (aIn (stays aA.out.1 aD) (aIn (stays aA.out.2.1 aD) (aIn (aA.out.2.2.1.trans (aD.mono aA.out.2.2.1.size)) (aIn (aA.out.2.2.2.1.below aD) (aIn (aA.out.2.2.2.2.1.below aD) (aIn (hs1.below aD) (hs2.below aD))))))));have bG:w.heap.size+2<=(wr.alloc (I #[C D xk,C D xn,B xs,A b1 xl.length e1,A b2 xks.length e2] 53)).drew.heap.size:=nlt aA.out.2.2.2.2.2 aD.size;have aY:g<(wr.alloc (I #[C D xk,C D xn,B xs,A b1 xl.length e1,A b2 xks.length e2] 53)).drew.heap.size:=nll hg2 aD.size;have hx0':=Lq7 aU;have hzr:=aA.out.2.2.2.2.2;have HC':=Lq7 HC;go_wp2_with fail;refine Bm (.s 0 (.s 1 (.s 2 (.s 3 (.h 4 (.s 5 (.h 6 .nil))))))) 6 (fun W'=>W'.heap[w.heap.size]? = H (I #[C D k,C D n,B s,A (H ⟨g,0,E⟩) l.length cO,A aK ks.length cK] 53 (0,0))/\W'.heap[wr.heap.size]? = H (I #[C D xk,C D xn,B xs,A b1 xl.length e1,A b2 xks.length e2] 53 (0,0))) ⟨H5.out.2.1,H5.out.1⟩ ?_;generalize World.drew _=W5 at H5 bG aY |-;refine Aw (.pointer (H ⟨w.heap.size,3,E⟩)) ?_;refine Bp (A (H ⟨g,0,E⟩) l.length cO) (fun W' hS=>?_) ?_
   ·obtain⟨z0,z1,z2,z3,z4,z5,z6,z7,z8,z9,bH⟩:=Aa hS.1;go_simp
   refine Aw (C D j) ?_;refine Bp (.agg #[C D xk,C D xn,B xs,A b1 xl.length e1,A b2 xks.length e2]) (fun W' hS=>?_) ?_
   ·obtain⟨z0,z1,z2,z3,z4,z5,z6,z7,z8,z9,bH⟩:=Aa hS.2;go_simp
   refine Ae rfl (fun K4 hK4=>?_);go_wp2_with fail;refine(HC'.out (fun b=>((F b\/m<=b)/\(Value.slice (H ⟨g,0,E⟩) l.length cO).ownBlock≠H b)/\b<W5.heap.size) b1 e1 b2 e2 W5 (fun b hb=>hb.2) H5.out.2.2.2.2.2.2.1.here H5.out.2.2.2.2.2.2.2.here).mono ?_;rintro e w6 ⟨aE,cs,rfl,bI⟩;have hgo:∀b,(Value.slice (H ⟨g,0,E⟩) l.length cO).ownBlock≠H b->b≠g:=fun b h e=>h (by rw[e];rfl);have aZ:Ai (fun b=>(F b\/m<=b)/\b≠g) w6 (valD (.mk xk xn xs xl xks)) cs:=bI.wider (fun b hb _=>by
    rcases hb with hb|hb
    ·exact⟨hb.1.1,hgo b hb.1.2⟩
    ·exact⟨.inr (by have:=aY;omega),by omega⟩)
   obtain⟨b3,e3,b4,e4,rfl,-,-⟩:=bI.val;have Hag:=Lq7 aZ;have H6:=Lq7 (aIn (stays H5.out.1 aE) (aIn (stays H5.out.2.1 aE) (aIn (stays H5.out.2.2.1 aE) (aIn (H5.out.2.2.2.1.trans (aE.mono H5.out.2.2.2.1.size)) (aIn (H5.out.2.2.2.2.1.below aE) (H5.out.2.2.2.2.2.1.below aE))))));have hz6:w.heap.size+2<=w6.heap.size:=nlt bG aE.size;have hg6:g<w6.heap.size:=nll aY aE.size;go_wp2_with fail;refine hK4 _ _ (fun _=>⟨H6.out.2.1,H6.out.1⟩) ?_;(try simp only[gX,Act.put]);refine Aw (.pointer (H ⟨g,j*5,E⟩)) ?_;have aN:(Ar l).length=l.length:=Bi l;obtain⟨g',hge,-,-,aC⟩:=H6.out.2.2.2.2.1.blk (by intro e;rw[<-aN,e] at hlt;simp at hlt) aN.symm (valsD_all valD_len l);cases hge;obtain⟨⟨u0,p0⟩,v0⟩:=aC j (by omega) 0 (by omega);obtain⟨⟨u1,p1⟩,v1⟩:=aC j (by omega) 1 (by omega);obtain⟨⟨u2,p2⟩,v2⟩:=aC j (by omega) 2 (by omega);obtain⟨⟨u3,p3⟩,v3⟩:=aC j (by omega) 3 (by omega);obtain⟨⟨u4,p4⟩,v4⟩:=aC j (by omega) 4 (by omega);rw[naz] at p0 v0;have aQ:=H6.out.2.2.2.2.1.put (by decide) (j:=j) (by omega) (cs:=[C D xk,C D xn,B xs,A b3 xl.length e3,A b4 xks.length e4]) rfl Hag.out;have bA:(Ar l).set j (valD (.mk xk xn xs xl xks))=Ar l:=by
    rw[Fh,<-List.map_set]
    congr 1
    exact set_self hx0'.out
   rw[bA] at aQ;have bB:=Lq7 aQ;refine Ae rfl (fun K6 hK6=>?_);go_wp2_with fail;have H7:Hid ((w6.setCells g (j*5) [C D xk,C D xn,B xs,A b3 xl.length e3,A b4 xks.length e4]).heap[w.heap.size]? = H (I #[C D k,C D n,B s,A (H ⟨g,0,E⟩) l.length cO,A aK ks.length cK] 53 (0,0))/\(w6.setCells g (j*5) [C D xk,C D xn,B xs,A b3 xl.length e3,A b4 xks.length e4]).heap[w.heap.size+1]? = H (I #[C D 0,C D 0,B ⟨#[]⟩,A E 0 0,A E 0 0] 53 (0,0))/\Below w.heap.size w (w6.setCells g (j*5) [C D xk,C D xn,B xs,A b3 xl.length e3,A b4 xks.length e4])/\OwnD (fun b=>F b\/m<=b) (w6.setCells g (j*5) [C D xk,C D xn,B xs,A b3 xl.length e3,A b4 xks.length e4]) m 53 5 (A (H ⟨g,0,E⟩) l.length cO) (Ar l)/\Ac (fun b=>w.heap.size+2<=b/\b<m) (w6.setCells g (j*5) [C D xk,C D xn,B xs,A b3 xl.length e3,A b4 xks.length e4]) aK (Bn ks)/\w.heap.size+2<=(w6.setCells g (j*5) [C D xk,C D xn,B xs,A b3 xl.length e3,A b4 xks.length e4]).heap.size):=Lq7
    ⟨(Db g _ (by omega) _ _ _).trans H6.out.2.1,(Db g _ (by omega) _ _ _).trans H6.out.2.2.1,Kj (by omega) _ _ _ H6.out.2.2.2.1,bB.out,H6.out.2.2.2.2.2.mono (fun b hb hl=>⟨hb,by rw[D6];exact hl,Db g _ (by have:=hb.2;omega) _ _ _⟩),by rw[D6];exact hz6⟩
   refine hK6 _ (w6.setCells g (j*5) [C D xk,C D xn,B xs,A b3 xl.length e3,A b4 xks.length e4]) (fun h=>absurd rfl h) ?_;generalize World.setCells _ _ _ _=W7 at H7 |-;refine A2 ?_;(try simp only[gX,Act.put]);go_wp2_with fail;go_roundw
   case rel=>exact⟨j+1,by go_num,by omega,H7⟩
   case measure=>simp only[intOf];omega
  ·have hje:j=l.length:=(by omega);obtain⟨z0,z1,z2,z3,z4,z5,z6,z7,z8,z9,bH⟩:=Aa aA.out.1;obtain⟨r0,r1,r2,r3,r4,r5,r6,r7,r8,r9,r10⟩:=Aa aA.out.2.1;obtain⟨aO2,cO2,bJ,hrO⟩:=(aA.out.2.2.2.1.wider (G:=fun b=>F b\/m<=b) fun b hb=>hb).rowAt (fun g hg=> .inr (aA.out.2.2.2.1.block_lt hg).1);rw[Bi] at bJ;injection bJ with e1 e2 e3;subst e1;subst e3;have HO:=Lq7 hrO;have HF2:=HF;go_wp2_with fail;have aG:=val_set (n:=w.heap.size) (b:=w.heap.size+1) (by omega) aA.out.2.2.1 aA.out.2.1 (C D k) (C D n) (B s) (A aO l.length cO) (A aK ks.length cK);have bC:=HO.out.mono (w':=wr.setCells (w.heap.size+1) 0 [C D k,C D n,B s,A aO l.length cO,A aK ks.length cK]) (G:=fun b=>F b\/w.heap.size<=b) (fun b hb hl=>⟨by rcases hb with h|h;exact .inl h;exact .inr (by omega),by rw[D6];exact hl,Db _ _ (by rcases hb with h|h;(have:=HF.out b h;omega);omega) _ _ _⟩);have aR:=aA.out.2.2.2.2.1.mono (w':=wr.setCells (w.heap.size+1) 0 [C D k,C D n,B s,A aO l.length cO,A aK ks.length cK]) (G:=fun b=>F b\/w.heap.size<=b) (fun b hb hl=>⟨.inr (by have:=hb.1;omega),by rw[D6];exact hl,Db _ _ (by have:=hb.1;omega) _ _ _⟩);refine bodyPost_ret (w:=wr.setCells (w.heap.size+1) 0 [C D k,C D n,B s,A aO l.length cO,A aK ks.length cK]) (v:=.agg #[C D k,C D n,B s,A aO l.length cO,A aK ks.length cK]) ?_ rfl ?_
   ·generalize World.setCells _ _ _ _=W9 at aG |-;obtain⟨t0,t1,t2,t3,t4,t5,t6,t7,t8,t9,t10⟩:=Aa aG.1;simp[results,Tryz.results23,go_sem,t1,t2,t3,t4,t5]
   ·exact⟨aG.2,_,rfl,Ai.val_mk k n s cO cK bC aR⟩
theorem U0(v):Am v=true->Tb v:=
 Vl.rec (motive_1:=fun v=>Am v=true->Tb v) (motive_2:=fun l=>∀x∈l,Am x=true->Tb x)
  (fun k n s l ks ih h F a1 c1 a2 c2 w hF hr1 hr2=>Tc k n s l ks h (fun x hx=>ih x hx (On h x hx)) F a1 c1 a2 c2 w hF hr1 hr2)
  (fun x hx=>by cases hx)
  (fun v t hv ht x hx h=>by
   rcases List.mem_cons.1 hx with rfl|hx
   ·exact hv h
   ·exact ht x hx h) v
end Go.Proofs.YtlbbbapiklendaaGreatDoor
