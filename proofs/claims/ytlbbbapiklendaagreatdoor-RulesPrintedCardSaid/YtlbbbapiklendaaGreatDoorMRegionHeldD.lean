/-
  The law of a region by turns,where what stands behind a break may hang on the frame,but not on what the region's operations write. (And what it stands on.)
-/
import Derived.BigQuiet
import Derived.StillTail
import Derived.OrdersHeld
import Derived.Test.YtlbbbapiklendaaGreatDoorGx
namespace Go.Proofs.YtlbbbapiklendaaGreatDoor
open Option renaming some->A
open Go Go.RowKit
open Bool renaming and_eq_true->bAt
section
variable {P:Program} {ops:Array Oper} {md:Region.Mode} {hs:List Nat} {Q:Exit->Act->World->Prop}
def Cls(w:World):World->Prop:=fun w'=>∃n,w'=w.drewN n
def Su(P:Program)(ops:Array Oper)(hs:List Nat)(Q:Exit->Act->World->Prop)(i:Nat)(K:Act->World->Prop)(a:Act)(w:World):Prop:=
 if hs.contains i then ∀n,wpOp P ops Q i K a (w.drewN n) else qOp P ops (Cls w) i (fun a'=>K a' w) a
def Mf(P:Program)(md:Region.Mode)(ops:Array Oper)(hs:List Nat)(Q:Exit->Act->World->Prop):Nat->Array Bool->Act->World->Prop
 | 0,listed,a,w=>Region.ready md ops listed=[]/\∀n,Q .normal a (w.drewN n)
 | f+1,listed,a,w=>(Region.ready md ops listed=[]->∀n,Q .normal a (w.drewN n))/\∀i∈Region.ready md ops listed,Su P ops hs Q i (Mf P md ops hs Q f (listed.setIfInBounds i true)) a w
theorem wpAny_of_mix:∀(f:Nat) (listed:Array Bool) (a:Act) (w:World),Mf P md ops hs Q f listed a w->∀n,wpAny P md ops Q f listed a (w.drewN n)
 | 0,_,_,_,h,n=>⟨h.1,h.2 n⟩
 | f+1,listed,a,w,h,n=>by
  refine⟨fun h0=>h.1 h0 n,fun i hi=>?_⟩;have hm:=h.2 i hi;unfold Su at hm;split at hm
  ·exact wpOp_mono (fun a' w' h'=>wpAny_of_mix f _ a' w' h' 0) (hm n)
  ·exact wpOp_of_qOp (C:=Cls w) ⟨n,rfl⟩ (fun a' w' hw' h'=>by obtain⟨m,rfl⟩:=hw';exact wpAny_of_mix f _ a' w h' m) hm
def I7(md:Region.Mode)(ops:Array Oper):Nat->Nat->Nat->Bool
 | 0,_,_=>false
 | f+1,h,i=>Region.waitsFor md ops h i||(List.range ops.size).any fun j=>Region.waitsFor md ops h j&&I7 md ops f j i
def Ia(md:Region.Mode)(ops:Array Oper)(listed:Array Bool):Prop:=
 ∀(j:Nat) oj,ops[j]? = A oj->listed.getD j false=true->∀e∈oj.after,Region.binds md e=true->listed.getD e.on false=true
theorem Ia.set{listed:Array Bool}(hc:Ia md ops listed){i:Nat}(hi:i∈Region.ready md ops listed):Ia md ops (listed.setIfInBounds i true):=by
 obtain⟨_,oi,hoi,aA⟩:=mem_ready.1 hi;intro j oj hj hl e he hb;by_cases hij:i=j
 ·subst hij;obtain rfl:oj=oi:=Option.some.inj (hj.symm.trans hoi);exact getD_set_true (aA e he hb)
 ·rw[getD_set_ne false hij] at hl;exact getD_set_true (hc j oj hj hl e he hb)
theorem L2{listed:Array Bool}(hc:Ia md ops listed):∀(f h i:Nat),I7 md ops f h i=true->listed.getD h false=true->listed.getD i false=true
 | 0,_,_,hw,_=>by cases hw
 | f+1,h,i,hw,hl=>by
  simp only[I7,Bool.or_eq_true,List.any_eq_true,bAt] at hw;rcases hw with hw|⟨j,_,hw,hr⟩
  ·obtain⟨o,ho,e,he,hb,hon⟩:=Region.waitsFor_spec hw;have:=hc h o ho hl e he hb
   rwa [hon] at this
  ·obtain⟨o,ho,e,he,hb,hon⟩:=Region.waitsFor_spec hw;have:=hc h o ho hl e he hb;rw[hon] at this;exact L2 hc f j i hr this
theorem Jm{listed:Array Bool}(hc:Ia md ops listed){f h i:Nat}(hw:I7 md ops f h i=true)(hi:listed.getD i false=false):h∉Region.ready md ops listed:=by
 intro hr;obtain⟨_,o,ho,aA⟩:=mem_ready.1 hr;have aF:listed.getD i false=true:=by
  cases f with
  | zero=>cases hw
  | succ f=>
   simp only[I7,Bool.or_eq_true,List.any_eq_true,bAt] at hw;rcases hw with hw|⟨j,_,hw,hr⟩
   ·obtain⟨o',ho',e,he,hb,hon⟩:=Region.waitsFor_spec hw;obtain rfl:o'=o:=Option.some.inj (ho'.symm.trans ho);have:=aA e he hb
    rwa [hon] at this
   ·obtain⟨o',ho',e,he,hb,hon⟩:=Region.waitsFor_spec hw;obtain rfl:o'=o:=Option.some.inj (ho'.symm.trans ho);have:=aA e he hb;rw[hon] at this;exact L2 hc f j i hr this
 rw[hi] at aF;cases aF
theorem T4{i:Nat}{oi:Oper}{v:Value}{w:World}(hi:ops[i]? = A oi)(hni:hs.contains i=false)(hsel:∀(j:Nat) (o:Oper) cs b,ops[j]? = A o->o.op ≠ .select cs b):
  ∀(f:Nat) (listed:Array Bool) (a:Act),Ia md ops listed ->
   (∀j oj,ops[j]? = A oj->j≠i->listed.getD j true=false->(∀e∈oj.after,Region.binds md e=true->e.on≠i)->oi.apart ops oj=true) ->
   (∀h,hs.contains h=true->listed.getD h true=false->I7 md ops ops.size h i=true) ->
   i∈Region.ready md ops listed->YieldsIn P ops (Cls w) oi v a ->
   Mf P md ops hs Q f (listed.setIfInBounds i true) (a.put oi.dst v) w->Mf P md ops hs Q (f+1) listed a w:=by
 have quietTurn:∀(f:Nat) (listed:Array Bool) (a:Act),YieldsIn P ops (Cls w) oi v a->Mf P md ops hs Q f (listed.setIfInBounds i true) (a.put oi.dst v) w->Su P ops hs Q i (Mf P md ops hs Q f (listed.setIfInBounds i true)) a w:=by
  intro f listed a hy H;unfold Su;rw[hni,if_neg Bool.false_ne_true];exact hy.qOp hi H
 -- an operation that is ready beside i is quiet, too
 have quietJ:∀(listed:Array Bool),Ia md ops listed->(∀h,hs.contains h=true->listed.getD h true=false->I7 md ops ops.size h i=true)->i∈Region.ready md ops listed->∀j∈Region.ready md ops listed,hs.contains j=false:=by
  intro listed hc hh hr j hj;cases hcj:hs.contains j with
  | false=>rfl
  | true=>exact absurd hj (Jm hc (hh j hcj (mem_ready.1 hj).1) (getD_both (mem_ready.1 hr).1))
 intro f
 induction f with
 | zero=>
  intro listed a hc aB hh hr hy H;refine⟨fun h=>(by rw[h] at hr;cases hr),fun j hj=>?_⟩;by_cases hji:j=i
  ·subst hji;exact quietTurn 0 listed a hy H
  ·have:=ready_mono hj hji;rw[H.1] at this;cases this
 | succ f ih=>
  intro listed a hc aB hh hr hy H;refine⟨fun h=>(by rw[h] at hr;cases hr),fun j hj=>?_⟩;by_cases hji:j=i
  ·subst hji;exact quietTurn (f+1) listed a hy H
  ·have hnj:=quietJ listed hc hh hr j hj;have h1:=H.2 j (ready_mono hj hji);unfold Su at h1 |-;rw[hnj,if_neg Bool.false_ne_true] at h1 |-;obtain⟨aC,oj,aD,aA⟩:=mem_ready.1 hj;have aE:∀e∈oj.after,Region.binds md e=true->e.on≠i:=fun e he hb heq=>by
    have h2:=aA e he hb;rw[heq,getD_both (mem_ready.1 hr).1] at h2;cases h2
   have h2:=qOp_put aD (aB j oj aD hji aC aE) (fun cs b=>hsel i oi cs b hi) (fun cs b=>hsel j oj cs b aD) hy h1;refine qOp_mono (fun a' h3=>ih (listed.setIfInBounds j true) a' (hc.set hj) ?_ ?_ (ready_mono hr (Ne.symm hji)) h3.1 ?_) h2
   ·intro k ok hk hki hun hno;refine aB k ok hk hki ?_ hno;by_cases hjk:j=k
    ·subst hjk;exact aC
    ·rw[getD_set_ne true hjk] at hun;exact hun
   ·intro h hch hun;refine hh h hch ?_;by_cases hjh:j=h
    ·subst hjh;exact aC
    ·rw[getD_set_ne true hjh] at hun;exact hun
   ·rw[Array.setIfInBounds_comm _ _ hji];exact h3.2
def Et(P:Program)(ops:Array Oper)(hs:List Nat)(Q:Exit->Act->World->Prop):List Oper->Nat->Act->World->Prop
 | [],_,a,w=>∀n,Q .normal a (w.drewN n)
 | o::l,k,a,w=>
  if hs.contains k then ∀n,(if Region.wanted o (yielded ops a.tmps) then o.wp P a (w.drewN n) (Et P ops hs Q l (k+1)) Q\/(o.asks P a (w.drewN n)/\LetsOut Q) else Et P ops hs Q l (k+1) (a.put o.dst undef) (w.drewN n))
  else if Region.wanted o (yielded ops a.tmps) then o.quiet P a (Cls w) (fun a'=>Et P ops hs Q l (k+1) a' w) else Et P ops hs Q l (k+1) (a.put o.dst undef) w
def Qz(md:Region.Mode)(ops:Array Oper)(hs:List Nat):Nat->Nat->Array Bool->Bool
 | 0,_,listed=>(Region.ready md ops listed).isEmpty
 | f+1,k,listed=>
  (if hs.contains k then decide (Region.ready md ops listed=[k])
   else(Region.ready md ops listed).contains k&&Region.free md ops listed k&&hs.all fun h=>listed.getD h true||I7 md ops ops.size h k) &&
  Qz md ops hs f (k+1) (listed.setIfInBounds k true)
theorem Mg(hsel:Region.noSelect ops=true):∀(l:List Oper) (k:Nat) (listed:Array Bool) (a:Act) (w:World),(∀j,l[j]? = ops[k+j]?)->Ia md ops listed ->
  Qz md ops hs l.length k listed=true->Et P ops hs Q l k a w->Mf P md ops hs Q l.length listed a w
 | [],_,_,_,_,_,_,hB,h=>⟨by simpa[Qz] using hB,h⟩
 | o::l,k,listed,a,w,hl,hc,hB,h=>by
  have h0:ops[k]? = A o:=(by simpa using(hl 0).symm);have hl':∀j,l[j]? = ops[k+1+j]?:=fun j=>(by have:=hl (j+1);simpa[Nat.add_assoc,Nat.add_comm 1 j] using this);simp only[List.length_cons,Qz,bAt] at hB;obtain⟨hA,hB'⟩:=hB;simp only[Et] at h;by_cases hk:hs.contains k=true
  ·rw[if_pos hk] at hA h;have hr:Region.ready md ops listed=[k]:=of_decide_eq_true hA;refine⟨fun h1=>(by rw[hr] at h1;cases h1),fun i hi=>?_⟩;have hik:i=k:=(by rw[hr] at hi;simpa using hi);subst hik;unfold Su;rw[if_pos hk];intro n;refine wpOp_mono (fun a' w' h'=>Mg hsel l (i+1) _ a' w' hl' (hc.set hi) hB' h') (K:=Et P ops hs Q l (i+1)) ?_;unfold wpOp;simp only[h0];exact h n
  ·rw[if_neg hk] at hA h;simp only[bAt] at hA;obtain⟨⟨hr,hf⟩,hw⟩:=hA;have hr':k∈Region.ready md ops listed:=(by simpa using hr);have hq:qOp P ops (Cls w) k (fun a'=>Et P ops hs Q l (k+1) a' w) a:=(by unfold qOp;simp only[h0];exact h);obtain⟨v,hy,hK⟩:=yieldsIn_of_qOp h0 hq;refine T4 h0 (by simpa using hk) (Region.noSelect_spec hsel) l.length listed a hc (Region.free_spec h0 hf) ?_ hr' hy (Mg hsel l (k+1) _ _ w hl' (hc.set hr') hB' hK);intro j hj hun;have:=List.all_eq_true.1 hw j (List.contains_iff_mem.1 hj);rw[hun,Bool.false_or] at this;exact this
theorem Rf{id:Nat}{a:Act}{w:World}{l:List Oper}(hs:List Nat)(hm:P.follows .mixedOrders=true)(hB:(Region.noSelect l.toArray&&Qz .any l.toArray hs l.length 0 (Array.replicate l.length false))=true)
  (h:Et P l.toArray hs Q l 0 a w):(Code.region id l.toArray true).wp P Q a w:=by
 simp only[bAt] at hB;refine wp_region_any hm ?_;have hc:Ia .any l.toArray (Array.replicate l.length false):=fun j oj _ hl=>(by rw[getD_replicate_false] at hl;cases hl);have:=wpAny_of_mix _ _ _ _ (Mg (md:=.any) hB.1 l 0 (Array.replicate l.length false) a w (by simp) hc hB.2 h) 1;rw[show l.toArray.size=l.length from by simp];exact this
theorem Ab6(m:Nat):∀{l:List Oper} {k:Nat} {a:Act} {w:World},((List.range m).all fun i=> !hs.contains (k+i))=true ->
  wpQuiet P ops (fun w'=>∃n,w'=w.drewN n) (fun a'=>Et P ops hs Q (l.drop m) (k+m) a' w) (l.take m) a->Et P ops hs Q l k a w:=by
 induction m with
 | zero=>intro l k a w _ h;simpa[wpQuiet] using h
 | succ m ih=>
  intro l k a w hk h;cases l with
  | nil=>simpa[wpQuiet,Et] using h
  | cons o l=>
   have hk0:hs.contains k=false:=by
    have:=List.all_eq_true.1 hk 0 (List.mem_range.2 (Nat.succ_pos m))
    simpa using this
   have hk':((List.range m).all fun i=> !hs.contains (k+1+i))=true:=by
    rw[List.all_eq_true];intro i hi;have:=List.all_eq_true.1 hk (i+1) (List.mem_range.2 (by have:=List.mem_range.1 hi;omega))
    rwa [show k+(i+1)=k+1+i by omega] at this
   simp only[List.take_succ_cons,List.drop_succ_cons,wpQuiet] at h;simp only[Et];rw[hk0,if_neg Bool.false_ne_true];split
   ·rename_i hw
    rw[if_pos hw] at h;refine Oper.quiet_mono (fun a' h'=>ih hk' ?_) h
    rwa [show k+(m+1)=k+1+m by omega] at h'
   ·rename_i hw
    rw[if_neg hw] at h;refine ih hk' ?_
    rwa [show k+(m+1)=k+1+m by omega] at h
theorem Ab7{o:Oper}{l:List Oper}{k:Nat}{a:Act}{w:World}(hk:hs.contains k=true)
  (h:∀(n:Nat) (K:Act->World->Prop),(∀a2 w2,Et P ops hs Q l (k+1) a2 w2->K a2 w2)->wpList P ops (Exit.then K Q) [o] a (w.drewN n)):Et P ops hs Q (o::l) k a w:=by
 simp only[Et];rw[if_pos hk];intro n;have h1:=h n (Et P ops hs Q l (k+1)) (fun _ _ h=>h);simp only[wpList] at h1;split
 ·rename_i hw
  rw[if_pos hw] at h1;rcases h1 with h1|⟨h1,h2⟩
  ·left
   unfold Oper.wp at *;generalize (execOp a.eval o).run P (w.drewN n)=r at *;cases r with
   | ok x w'=>
    cases x<;>simp only[Oper.upon,Exit.then] at h1 |- <;> first
     | exact h1
     | exact Calls.mono h1 (fun e w'' he=>by cases e<;>first|exact he|(obtain⟨a0,w0,q⟩:=he;exact⟨a0,w0,q⟩))
   | halt x w'=>cases x<;>simp only[Oper.upon,Exit.then] at h1 |- <;> exact h1
  ·right
   obtain⟨a0,w0,q⟩:=h2;exact⟨h1,a0,w0,q⟩
 ·rename_i hw
  rw[if_neg hw] at h1;exact h1
theorem mix_end{k:Nat}{a:Act}{w:World}(h:∀n,Q .normal a (w.drewN n)):Et P ops hs Q [] k a w:=h
end
section
variable {P:Program} {ops:Array Oper} {md:Region.Mode} {fin:Nat} {S:World->Prop} {Q:Exit->Act->World->Prop}
inductive Tu where
 | nil
 | s (i:Nat) (t:Tu)
 | h (i:Nat) (t:Tu)
 | b (i:Nat) (t:Tu) (j:Nat) (u:Tu)
 | c (i:Nat) (t:Tu) (j:Nat) (u:Tu) (k:Nat) (v:Tu)
def Tu.isNil:Tu->Bool | .nil=>true|_=>false
def Tu.deep:Tu->Nat | .nil=>0 | .s _ t=>t.deep+1 | .h _ t=>t.deep+1 | .b _ t _ u=>max t.deep u.deep+1 | .c _ t _ u _ v=>max t.deep (max u.deep v.deep)+1
def Ak(P:Program)(ops:Array Oper)(S:World->Prop)(Q:Exit->Act->World->Prop)(fin:Nat):Tu->Act->World->Prop
 | .nil,a,w=>Q .normal a w
 | .h i rest,a,w=>wpOp P ops Q i (fun a' w'=>(i≠fin->S w')/\Ak P ops S Q fin rest a' w') a w
 | .s i rest,a,w=>∃o v,ops[i]? = A o/\YieldsIf P ops S o v a/\Ak P ops S Q fin rest (a.put o.dst v) w
 | .b i t j u,a,w=>wpOp P ops Q i (fun a' w'=>(i≠fin->S w')/\Ak P ops S Q fin t a' w') a w/\wpOp P ops Q j (fun a' w'=>(j≠fin->S w')/\Ak P ops S Q fin u a' w') a w
 | .c i t j u k v,a,w=>wpOp P ops Q i (fun a' w'=>(i≠fin->S w')/\Ak P ops S Q fin t a' w') a w/\wpOp P ops Q j (fun a' w'=>(j≠fin->S w')/\Ak P ops S Q fin u a' w') a w/\wpOp P ops Q k (fun a' w'=>(k≠fin->S w')/\Ak P ops S Q fin v a' w') a w
def Cu(md:Region.Mode)(ops:Array Oper)(fin:Nat):Tu->Array Bool->Bool
 | .nil,listed=>(Region.ready md ops listed).isEmpty
 | .h i rest,listed=>Region.ready md ops listed==[i]&&(rest.isNil||decide (i≠fin))&&Cu md ops fin rest (listed.setIfInBounds i true)
 | .s i rest,listed=>Region.free md ops listed i&&(Region.ready md ops listed).contains i&&(decide (ops.size<=fin)||I7 md ops ops.size fin i)&&Cu md ops fin rest (listed.setIfInBounds i true)
 | .b i t j u,listed=>Region.ready md ops listed==[i,j]&&(t.isNil||decide (i≠fin))&&(u.isNil||decide (j≠fin))&&Cu md ops fin t (listed.setIfInBounds i true)&&Cu md ops fin u (listed.setIfInBounds j true)
 | .c i t j u k v,listed=>Region.ready md ops listed==[i,j,k]&&(t.isNil||decide (i≠fin))&&(u.isNil||decide (j≠fin))&&(v.isNil||decide (k≠fin))&&Cu md ops fin t (listed.setIfInBounds i true)&&Cu md ops fin u (listed.setIfInBounds j true)&&Cu md ops fin v (listed.setIfInBounds k true)
def Od(P:Program)(md:Region.Mode)(ops:Array Oper)(Q:Exit->Act->World->Prop)(S:World->Prop)(fin:Nat):Nat->Array Bool->Act->World->Prop
 | 0,listed,a,w=>Region.ready md ops listed=[]/\Q .normal a w
 | f+1,listed,a,w=>(Region.ready md ops listed=[]->Q .normal a w) /\
  ∀i∈Region.ready md ops listed,wpOp P ops Q i (fun a' w'=>(i≠fin->S w')/\Od P md ops Q S fin f (listed.setIfInBounds i true) a' w') a w
theorem wpAny_of_turns:∀(f:Nat) (listed:Array Bool) (a:Act) (w:World),Od P md ops Q S fin f listed a w->wpAny P md ops Q f listed a w
 | 0,_,_,_,h=>h
 | f+1,_,_,_,h=>⟨h.1,fun i hi=>wpOp_mono (fun a' w' h'=>wpAny_of_turns f _ a' w' h'.2) (h.2 i hi)⟩
theorem L1{i:Nat}{o:Oper}{v:Value}(ho:ops[i]? = A o)(hs:Region.noSelect ops=true)(hQ:∀c a w,Q (.panic c) (a.put o.dst v) w->Q (.panic c) a w)
  (hfin:ops.size<=fin\/I7 md ops ops.size fin i=true):
  ∀(f:Nat) (listed:Array Bool) (a:Act) (w:World),Ia md ops listed->(∀j oj,ops[j]? = A oj->j≠i->listed.getD j true=false->(∀e∈oj.after,Region.binds md e=true->e.on≠i)->o.apart ops oj=true) ->
   i∈Region.ready md ops listed->YieldsIf P ops S o v a->S w->Od P md ops Q S fin f (listed.setIfInBounds i true) (a.put o.dst v) w->Od P md ops Q S fin (f+1) listed a w:=by
 have aA:=Region.noSelect_spec hs;intro f
 induction f with
 | zero=>
  intro listed a w _ _ hr hy hS H;refine⟨fun h=>absurd (h▸hr) (by simp),fun j hj=>?_⟩;by_cases e:j=i
  ·cases e;exact hy.wpOp ho hS ⟨fun _=>hS,H⟩
  ·exact absurd (H.1▸ready_mono hj e) (by simp)
 | succ f ih=>
  intro listed a w hc aD hr hy hS H;refine⟨fun h=>absurd (h▸hr) (by simp),fun j hj=>?_⟩;by_cases e:j=i
  ·cases e;exact hy.wpOp ho hS ⟨fun _=>hS,H⟩
  ·have hir:i∈Region.ready md ops (listed.setIfInBounds j true):=ready_mono hr (Ne.symm e);have h0:=(mem_ready.1 hr).1;obtain⟨aE,oj,aB,aC⟩:=mem_ready.1 hj;have hjf:j≠fin:=fun q=>by
    rcases hfin with h9|h9
    ·have:=(Array.getElem?_eq_some_iff.1 aB).1;omega
    ·exact Jm hc h9 (getD_both h0) (q▸hj)
   have hno:∀d∈oj.after,Region.binds md d=true->d.on≠i:=fun d hd hb hq=>by
    have h1:=aC d hd hb;rw[hq,getD_both h0] at h1;cases h1
   refine wpOp_mono (fun a' w' h3=>⟨h3.2.1,ih _ a' w' (hc.set hj) (fun k ok hk hki hun hn=>aD k ok hk hki ?_ hn) hir h3.1 (h3.2.1 hjf) ?_⟩)
    (wpOp_putIf aB (aD j oj aB e aE hno) (fun cs b=>aA i o cs b ho) (fun cs b=>aA j oj cs b aB) hQ hy (H.2 j (ready_mono hj e)))
   ·by_cases hjk:j=k
    ·cases hjk;exact aE
    ·rwa [getD_set_ne true hjk] at hun
   ·rw[Array.setIfInBounds_comm _ _ e];exact h3.2.2
theorem Eh(hs:Region.noSelect ops=true)(hQ:∀c a d v w,Q (.panic c) (a.put d v) w->Q (.panic c) a w):
  ∀(l:Tu) (f:Nat) (listed:Array Bool) (a:Act) (w:World),Ia md ops listed->Cu md ops fin l listed=true->l.deep<=f->(l.isNil=false->S w)->Ak P ops S Q fin l a w->Od P md ops Q S fin f listed a w
 | .nil,0,listed,a,w,_,hk,_,_,h=>⟨by simpa[Cu] using hk,h⟩
 | .nil,f+1,listed,a,w,_,hk,_,_,h=>⟨fun _=>h,fun i hi=>by
  have:Region.ready md ops listed=[]:=(by simpa[Cu] using hk);rw[this] at hi;cases hi⟩
 | .h i rest,0,_,_,_,_,_,hl,_,_=>by simp[Tu.deep] at hl
 | .h i rest,f+1,listed,a,w,hc,hk,hl,_,h=>by
  simp only[Cu,bAt,beq_iff_eq,Bool.or_eq_true,decide_eq_true_eq] at hk;refine⟨fun h0=>absurd (hk.1.1▸h0) (by simp),fun j hj=>?_⟩;have hj2:=hj;rw[hk.1.1] at hj2;obtain rfl:j=i:=(by simpa using hj2);refine wpOp_mono (fun a' w' h'=>⟨h'.1,Eh hs hQ rest f _ a' w' (hc.set hj) hk.2 (by simpa[Tu.deep] using hl) (fun hne=>?_) h'.2⟩) h;rcases hk.1.2 with h9|h9
  ·rw[h9] at hne;cases hne
  ·exact h'.1 h9
 | .b i t k u,0,_,_,_,_,_,hl,_,_=>by simp[Tu.deep] at hl
 | .b i t k u,f+1,listed,a,w,hc,hk,hl,_,h=>by
  simp only[Cu,bAt,beq_iff_eq,Bool.or_eq_true,decide_eq_true_eq] at hk;obtain⟨⟨⟨⟨hk1,hk2⟩,hk3⟩,hk4⟩,hk5⟩:=hk;have hl1:max t.deep u.deep<=f:=(by simpa[Tu.deep] using hl);refine⟨fun h0=>absurd (hk1▸h0) (by simp),fun j hj=>?_⟩;have hj2:=hj;rw[hk1] at hj2;obtain rfl|rfl:j=i\/j=k:=by simpa using hj2
  ·refine wpOp_mono (fun a' w' h'=>⟨h'.1,Eh hs hQ t f _ a' w' (hc.set hj) hk4 (by omega) (fun hne=>?_) h'.2⟩) h.1;rcases hk2 with h9|h9
   ·rw[h9] at hne;cases hne
   ·exact h'.1 h9
  ·refine wpOp_mono (fun a' w' h'=>⟨h'.1,Eh hs hQ u f _ a' w' (hc.set hj) hk5 (by omega) (fun hne=>?_) h'.2⟩) h.2;rcases hk3 with h9|h9
   ·rw[h9] at hne;cases hne
   ·exact h'.1 h9
 | .c i t k u l v,0,_,_,_,_,_,hl,_,_=>by simp[Tu.deep] at hl
 | .c i t k u l v,f+1,listed,a,w,hc,hk,hl,_,h=>by
  simp only[Cu,bAt,beq_iff_eq,Bool.or_eq_true,decide_eq_true_eq] at hk;obtain⟨⟨⟨⟨⟨⟨hk1,hk2⟩,hk3⟩,hk6⟩,hk4⟩,hk5⟩,hk7⟩:=hk;have hl1:max t.deep (max u.deep v.deep)<=f:=(by simpa[Tu.deep] using hl);refine⟨fun h0=>absurd (hk1▸h0) (by simp),fun j hj=>?_⟩;have hj2:=hj;rw[hk1] at hj2;obtain rfl|rfl|rfl:j=i\/j=k\/j=l:=by simpa using hj2
  ·refine wpOp_mono (fun a' w' h'=>⟨h'.1,Eh hs hQ t f _ a' w' (hc.set hj) hk4 (by omega) (fun hne=>?_) h'.2⟩) h.1;rcases hk2 with h9|h9
   ·rw[h9] at hne;cases hne
   ·exact h'.1 h9
  ·refine wpOp_mono (fun a' w' h'=>⟨h'.1,Eh hs hQ u f _ a' w' (hc.set hj) hk5 (by omega) (fun hne=>?_) h'.2⟩) h.2.1;rcases hk3 with h9|h9
   ·rw[h9] at hne;cases hne
   ·exact h'.1 h9
  ·refine wpOp_mono (fun a' w' h'=>⟨h'.1,Eh hs hQ v f _ a' w' (hc.set hj) hk7 (by omega) (fun hne=>?_) h'.2⟩) h.2.2;rcases hk6 with h9|h9
   ·rw[h9] at hne;cases hne
   ·exact h'.1 h9
 | .s i rest,0,_,_,_,_,_,hl,_,_=>by simp[Tu.deep] at hl
 | .s i rest,f+1,listed,a,w,hc,hk,hl,hS,h=>by
  simp only[Cu,bAt,Bool.or_eq_true,decide_eq_true_eq] at hk;obtain⟨o,v,ho,hy,h⟩:=h;have hr:i∈Region.ready md ops listed:=(by simpa using hk.1.1.2);exact L1 ho hs (fun c a w=>hQ c a o.dst v w) hk.1.2 f listed a w hc (Region.free_spec ho hk.1.1.1) hr hy (hS rfl) (Eh hs hQ rest f _ _ w (hc.set hr) hk.2 (by simpa[Tu.deep] using hl) (fun _=>hS rfl) h)
theorem O5{id:Nat}{a:Act}{w:World}(l:Tu)(fin:Nat)(S:World->Prop)(hm:P.follows .mixedOrders=true)
  (hB:(Region.noSelect ops&&Cu .any ops fin l (Array.replicate ops.size false)&&decide (l.deep<=ops.size))=true)
  (hQ:∀c a d v w,Q (.panic c) (a.put d v) w->Q (.panic c) a w) (hS:S w.drew) (h:Ak P ops S Q fin l a w.drew):(Code.region id ops true).wp P Q a w:=by
 simp only[bAt,decide_eq_true_eq] at hB;refine wp_region_any hm (wpAny_of_turns _ _ _ _ (Eh hB.1.1 hQ l _ _ a w.drew (fun j oj hj hl=>?_) hB.1.2 hB.2 (fun _=>hS) h));rw[Array.getD_eq_getD_getElem?] at hl;by_cases hjl:j<ops.size
 ·simp[hjl] at hl
 ·simp[hjl] at hl
theorem Bm{id:Nat}{a:Act}{w:World}(l:Tu)(fin:Nat)(S:World->Prop)(hS:S w.drew)(h:Ak P ops S Q fin l a w.drew)(hm:P.follows .mixedOrders=true:=by kernel_rfl)
  (hB:(Region.noSelect ops&&Cu .any ops fin l (Array.replicate ops.size false)&&decide (l.deep<=ops.size))=true:=by kernel_rfl)
  (hQ:∀c a d v w,Q (.panic c) (a.put d v) w->Q (.panic c) a w:=by intro c a d v w h;cases d<;>exact h):(Code.region id ops true).wp P Q a w:=O5 l fin S hm hB hQ hS h
theorem E8{i:Nat}{o:Oper}{rest:Tu}{a:Act}{w:World}(v:Value)(ho:ops[i]? = A o)(hw:Region.wanted o (yielded ops a.tmps)=true)(hv:∀w,S w->(execOp a.eval o).run P w = .ok (.value v) w)
  (h:Ak P ops S Q fin rest (a.put o.dst v) w):Ak P ops S Q fin (.s i rest) a w:=⟨o,v,ho,.inl ⟨hw,hv⟩,h⟩
theorem Bp{i:Nat}{o:Oper}{rest:Tu}{a a':Act}{w:World}(v:Value)(hv:∀w,S w->(execOp a.eval o).run P w = .ok (.value v) w)(h:Ak P ops S Q fin rest a' w)(ho:ops[i]? = A o:=by rfl)(hw:Region.wanted o (yielded ops a.tmps)=true:=by rfl)
  (ha:a.put o.dst v=a':=by(try simp only[gX,Act.put]);rfl):Ak P ops S Q fin (.s i rest) a w:=⟨o,v,ho,.inl ⟨hw,hv⟩,by rw[ha];exact h⟩
theorem Aw{i:Nat}{o:Oper}{rest:Tu}{a a':Act}{w:World}(v:Value)(h:Ak P ops S Q fin rest a' w)(ho:ops[i]? = A o:=by rfl)(hw:Region.wanted o (yielded ops a.tmps)=true:=by rfl)(hv:∀w,S w->(execOp a.eval o).run P w = .ok (.value v) w:=by intro W' hS;go_simp)
  (ha:a.put o.dst v=a':=by(try simp only[gX,Act.put]);rfl):Ak P ops S Q fin (.s i rest) a w:=Bp v hv h ho hw ha
theorem A9{i:Nat}{o:Oper}{rest:Tu}{a a':Act}{w:World}(v:Value)(h:Ak P ops S Q fin rest a' w)(ho:ops[i]? = A o:=by rfl)(hw:Region.wanted o (yielded ops a.tmps)=true:=by rfl)
  (hv:∀w,S w->(execOp a.eval o).run P w = .ok (.value v) w:=by intro W' hS;first|(obtain⟨s0,s1,s2,s3,s4,s5,s6,s7,s8,s9,s10⟩:=Aa hS;clear hS;go_simp)|(obtain⟨s0,s1,s2,s3,s4,s5,s6⟩:=Bh hS;clear hS;go_simp)|(obtain⟨s0,s1,s2,s3,s4⟩:=B3 hS;clear hS;go_simp)|(obtain⟨s0,s1,s2,s3,s4⟩:=A8 hS;clear hS;go_simp)|(clear hS;go_simp))
  (ha:a.put o.dst v=a':=by(try simp only[gX,Act.put]);rfl):Ak P ops S Q fin (.s i rest) a w:=Bp v hv h ho hw ha
theorem Ae{i:Nat}{o:Oper}{rest:Tu}{a:Act}{w:World}(ho:ops[i]? = A o)
  (h:∀K:Act->World->Prop,(∀a2 w2,(i≠fin->S w2)->Ak P ops S Q fin rest a2 w2->K a2 w2)->wpList P ops (Exit.then K Q) [o] a w):Ak P ops S Q fin (.h i rest) a w:=by
 have h1:=h (fun a' w'=>(i≠fin->S w')/\Ak P ops S Q fin rest a' w') (fun _ _ h h'=>⟨h,h'⟩);show wpOp P ops Q i _ a w;unfold wpOp;rw[ho];show if Region.wanted o (yielded ops a.tmps)=true then _ else _;simp only[wpList] at h1;split
 ·rename_i hw
  rw[if_pos hw] at h1;rcases h1 with h1|⟨h1,h2⟩
  ·left
   unfold Oper.wp at *;generalize (execOp a.eval o).run P w=r at *;cases r with
   | ok x w'=>
    cases x<;>simp only[Oper.upon,Exit.then] at h1 |- <;> first
     | exact h1
     | exact Calls.mono h1 (fun e w'' he=>by cases e<;>first|exact he|(obtain⟨a0,w0,q⟩:=he;exact⟨a0,w0,q⟩))
   | halt x w'=>cases x<;>simp only[Oper.upon,Exit.then] at h1 |- <;> exact h1
  ·right
   obtain⟨a0,w0,q⟩:=h2;exact⟨h1,a0,w0,q⟩
 ·rename_i hw
  rw[if_neg hw] at h1;exact h1
theorem Ik{i:Nat}{o:Oper}{rest:Tu}{a:Act}{w:World}(ho:ops[i]? = A o)(hw:Region.wanted o (yielded ops a.tmps)=false)(h:Ak P ops S Q fin rest (a.put o.dst undef) w):Ak P ops S Q fin (.s i rest) a w:=⟨o,undef,ho,.inr ⟨hw,rfl⟩,h⟩
theorem A2{a:Act}{w:World}(h:Q .normal a w):Ak P ops S Q fin .nil a w:=h
theorem Dz{i j:Nat}{o o':Oper}{t u:Tu}{a:Act}{w:World}(ho:ops[i]? = A o)(ho':ops[j]? = A o')
  (h:∀K:Act->World->Prop,(∀a2 w2,(i≠fin->S w2)->Ak P ops S Q fin t a2 w2->K a2 w2)->wpList P ops (Exit.then K Q) [o] a w)
  (h':∀K:Act->World->Prop,(∀a2 w2,(j≠fin->S w2)->Ak P ops S Q fin u a2 w2->K a2 w2)->wpList P ops (Exit.then K Q) [o'] a w):Ak P ops S Q fin (.b i t j u) a w:=
 ⟨Ae (rest:=t) ho h,Ae (rest:=u) ho' h'⟩
theorem Y5{i j k:Nat}{o o' o2:Oper}{t u v:Tu}{a:Act}{w:World}(ho:ops[i]? = A o)(ho':ops[j]? = A o')(ho2:ops[k]? = A o2)
  (h:∀K:Act->World->Prop,(∀a2 w2,(i≠fin->S w2)->Ak P ops S Q fin t a2 w2->K a2 w2)->wpList P ops (Exit.then K Q) [o] a w)
  (h':∀K:Act->World->Prop,(∀a2 w2,(j≠fin->S w2)->Ak P ops S Q fin u a2 w2->K a2 w2)->wpList P ops (Exit.then K Q) [o'] a w)
  (h2:∀K:Act->World->Prop,(∀a2 w2,(k≠fin->S w2)->Ak P ops S Q fin v a2 w2->K a2 w2)->wpList P ops (Exit.then K Q) [o2] a w):Ak P ops S Q fin (.c i t j u k v) a w:=
 ⟨Ae (rest:=t) ho h,Ae (rest:=u) ho' h',Ae (rest:=v) ho2 h2⟩
end
section
variable {P:Program} {ops:Array Oper} {fin:Nat} {S:World->Prop} {Q:Exit->Act->World->Prop}
end
section
variable {P:Program} {ops:Array Oper} {md:Region.Mode} {fin:Nat} {S:World->Prop} {Q:Exit->Act->World->Prop}
theorem D4(hs:Region.noSelect ops=true)(hQ:∀(i:Nat) (o:Oper),ops[i]? = A o->∀c a v w,Q (.panic c) (a.put o.dst v) w->Q (.panic c) a w):
  ∀(l:Tu) (f:Nat) (listed:Array Bool) (a:Act) (w:World),Ia md ops listed->Cu md ops fin l listed=true->l.deep<=f->(l.isNil=false->S w)->Ak P ops S Q fin l a w->Od P md ops Q S fin f listed a w
 | .nil,0,listed,a,w,_,hk,_,_,h=>⟨by simpa[Cu] using hk,h⟩
 | .nil,f+1,listed,a,w,_,hk,_,_,h=>⟨fun _=>h,fun i hi=>by
  have:Region.ready md ops listed=[]:=(by simpa[Cu] using hk);rw[this] at hi;cases hi⟩
 | .h i rest,0,_,_,_,_,_,hl,_,_=>by simp[Tu.deep] at hl
 | .h i rest,f+1,listed,a,w,hc,hk,hl,_,h=>by
  simp only[Cu,bAt,beq_iff_eq,Bool.or_eq_true,decide_eq_true_eq] at hk;refine⟨fun h0=>absurd (hk.1.1▸h0) (by simp),fun j hj=>?_⟩;have hj2:=hj;rw[hk.1.1] at hj2;obtain rfl:j=i:=(by simpa using hj2);refine wpOp_mono (fun a' w' h'=>⟨h'.1,D4 hs hQ rest f _ a' w' (hc.set hj) hk.2 (by simpa[Tu.deep] using hl) (fun hne=>?_) h'.2⟩) h;rcases hk.1.2 with h9|h9
  ·rw[h9] at hne;cases hne
  ·exact h'.1 h9
 | .b i t k u,0,_,_,_,_,_,hl,_,_=>by simp[Tu.deep] at hl
 | .b i t k u,f+1,listed,a,w,hc,hk,hl,_,h=>by
  simp only[Cu,bAt,beq_iff_eq,Bool.or_eq_true,decide_eq_true_eq] at hk;obtain⟨⟨⟨⟨hk1,hk2⟩,hk3⟩,hk4⟩,hk5⟩:=hk;have hl1:max t.deep u.deep<=f:=(by simpa[Tu.deep] using hl);refine⟨fun h0=>absurd (hk1▸h0) (by simp),fun j hj=>?_⟩;have hj2:=hj;rw[hk1] at hj2;obtain rfl|rfl:j=i\/j=k:=by simpa using hj2
  ·refine wpOp_mono (fun a' w' h'=>⟨h'.1,D4 hs hQ t f _ a' w' (hc.set hj) hk4 (by omega) (fun hne=>?_) h'.2⟩) h.1;rcases hk2 with h9|h9
   ·rw[h9] at hne;cases hne
   ·exact h'.1 h9
  ·refine wpOp_mono (fun a' w' h'=>⟨h'.1,D4 hs hQ u f _ a' w' (hc.set hj) hk5 (by omega) (fun hne=>?_) h'.2⟩) h.2;rcases hk3 with h9|h9
   ·rw[h9] at hne;cases hne
   ·exact h'.1 h9
 | .c i t k u l v,0,_,_,_,_,_,hl,_,_=>by simp[Tu.deep] at hl
 | .c i t k u l v,f+1,listed,a,w,hc,hk,hl,_,h=>by
  simp only[Cu,bAt,beq_iff_eq,Bool.or_eq_true,decide_eq_true_eq] at hk;obtain⟨⟨⟨⟨⟨⟨hk1,hk2⟩,hk3⟩,hk6⟩,hk4⟩,hk5⟩,hk7⟩:=hk;have hl1:max t.deep (max u.deep v.deep)<=f:=(by simpa[Tu.deep] using hl);refine⟨fun h0=>absurd (hk1▸h0) (by simp),fun j hj=>?_⟩;have hj2:=hj;rw[hk1] at hj2;obtain rfl|rfl|rfl:j=i\/j=k\/j=l:=by simpa using hj2
  ·refine wpOp_mono (fun a' w' h'=>⟨h'.1,D4 hs hQ t f _ a' w' (hc.set hj) hk4 (by omega) (fun hne=>?_) h'.2⟩) h.1;rcases hk2 with h9|h9
   ·rw[h9] at hne;cases hne
   ·exact h'.1 h9
  ·refine wpOp_mono (fun a' w' h'=>⟨h'.1,D4 hs hQ u f _ a' w' (hc.set hj) hk5 (by omega) (fun hne=>?_) h'.2⟩) h.2.1;rcases hk3 with h9|h9
   ·rw[h9] at hne;cases hne
   ·exact h'.1 h9
  ·refine wpOp_mono (fun a' w' h'=>⟨h'.1,D4 hs hQ v f _ a' w' (hc.set hj) hk7 (by omega) (fun hne=>?_) h'.2⟩) h.2.2;rcases hk6 with h9|h9
   ·rw[h9] at hne;cases hne
   ·exact h'.1 h9
 | .s i rest,0,_,_,_,_,_,hl,_,_=>by simp[Tu.deep] at hl
 | .s i rest,f+1,listed,a,w,hc,hk,hl,hS,h=>by
  simp only[Cu,bAt,Bool.or_eq_true,decide_eq_true_eq] at hk;obtain⟨o,v,ho,hy,h⟩:=h;have hr:i∈Region.ready md ops listed:=(by simpa using hk.1.1.2);exact L1 ho hs (fun c a w=>hQ i o ho c a v w) hk.1.2 f listed a w hc (Region.free_spec ho hk.1.1.1) hr hy (hS rfl) (D4 hs hQ rest f _ _ w (hc.set hr) hk.2 (by simpa[Tu.deep] using hl) (fun _=>hS rfl) h)
theorem Jl{id:Nat}{a:Act}{w:World}(l:Tu)(fin:Nat)(S:World->Prop)(hm:P.follows .mixedOrders=true)
  (hB:(Region.noSelect ops&&Cu .any ops fin l (Array.replicate ops.size false)&&decide (l.deep<=ops.size))=true)
  (hQ:∀(i:Nat) (o:Oper),ops[i]? = A o->∀c a v w,Q (.panic c) (a.put o.dst v) w->Q (.panic c) a w) (hS:S w.drew) (h:Ak P ops S Q fin l a w.drew):(Code.region id ops true).wp P Q a w:=by
 simp only[bAt,decide_eq_true_eq] at hB;refine wp_region_any hm (wpAny_of_turns _ _ _ _ (D4 hB.1.1 hQ l _ _ a w.drew (fun j oj hj hl=>?_) hB.1.2 hB.2 (fun _=>hS) h));rw[Array.getD_eq_getD_getElem?] at hl;by_cases hjl:j<ops.size
 ·simp[hjl] at hl
 ·simp[hjl] at hl
end
theorem Lb{P fn tmps tmps' R}(hr:∀w,(results fn tmps).run P w=(results fn tmps').run P w):
  ∀(ds:List Deferred) (u:FrameMode) (w:World),Leaves P fn tmps R ds u w->Leaves P fn tmps' R ds u w
 | [],.returning,w,h=>by obtain⟨v,h1,h2⟩:=h;exact⟨v,(hr w).symm.trans h1,h2⟩
 | [],.panicking _,_,h=>h
 | [],.run,_,h=>h
 | d::ds,u,w,h=>by
  obtain⟨h0,fv,cap,f,args,h1,h2,h3⟩:=h;refine⟨h0,fv,cap,f,args,h1,h2,h3.mono fun e u' w' h4=>?_⟩;cases e with
  | returned v=>exact Lb hr ds _ _ h4
  | panicked chain=>exact Lb hr ds _ _ h4
  | outgrown=>exact h4
end Go.Proofs.YtlbbbapiklendaaGreatDoor
