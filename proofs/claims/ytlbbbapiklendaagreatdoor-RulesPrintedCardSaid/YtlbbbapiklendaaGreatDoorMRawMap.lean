/-
  A map that the program makes,told as the list of its entries:what a look-up finds,what a store leaves. The elements may be any values. (And what it stands on.)
-/
import Derived.RangeFuncNested
import Derived.RangeFuncBound
import Derived.DeepKeys4
import Derived.Test.YtlbbbapiklendaaGreatDoorMOwnLow
namespace Go.Proofs.YtlbbbapiklendaaGreatDoor
open Option renaming some->E
open Go Go.RowKit
def Zz{α:Type}(P:Program)(g:Nat)(lb:Array Value)(encs:α->Array Value)(Ab Kp:World->World->Prop)(Nx:List α->α->Prop)(S Sp:List α->Prop)(W:World):Prop:=
 ∀(l:Nat) (J Jx:List α->World->Prop),(∀s A B,J s A->Ab A B->J s B)->(∀s A B,Jx s A->Ab A B->Jx s B) ->
  (∀pre x A,J pre A->Nx pre x->YieldAt Fence.wide 0 P l (encs x) A fun e B=>(e = .returned (.bool true)/\J (pre++[x]) B/\Kp A B)\/(e = .returned (.bool false)/\Jx (pre++[x]) B)) ->
  J [] W ->
  CallsIn Fence.wide 0 P g (#[.func (.yield l) #[] #[]]++lb) W fun e B=>(∃v,e = .returned v)/\((∃xs,S xs/\J xs B)\/(∃pre,Sp pre/\Jx pre B))
def Two(D:Nat)(A B:World):Prop:=∀k o,(k=D\/k=D+1)->A.heap[k]? = E o->B.heap[k]? = E o
def overPost{α:Type}(D:Nat)(Kp:World->World->Prop)(I:List α->World->Prop)(Ix:Code->List α->World->Prop)(xs:List α)(W:World):Exit->Act->World->Prop
 | .normal,_,W'=>Two D W W'/\Kp W W'/\I xs W'
 | .ret,_,W'=>Two D W W'/\Ix .ret xs W'
 | .exit id,_,W'=>Two D W W'/\Ix (.exit id) xs W'
 | _,_,_=>False
theorem T0{P:Program}{α:Type}{g:Operand}{ps:Array Tmp}{assign body:Code}{Q:Exit->Act->World->Prop}{a:Act}{w:World}{gf:Nat}{lb:Array Value}
  (hg:a.eval g = .func (.func gf) #[] lb) (eg:∀args w,(callFunc gf args).run P w = .ok (.enter gf args) w)
  {encs:α->Array Value} {Ab Kp:World->World->Prop} {Nx:List α->α->Prop} {S Sp:List α->Prop}
  (hseq:∀W,Below w.heap.size w W->Zz P gf lb encs Ab Kp Nx S Sp W)
  (hKt:∀A B C,Kp A B->Kp B C->Kp A C) (hKb:∀(A:World) k o,w.heap.size<=k->Kp A (A.putObj k o))
  (hAb:∀A B,Ab A B->Two w.heap.size A B) (hps:∀x,(encs x).size=ps.size)
  (I:List α->World->Prop) (Ix:Code->List α->World->Prop) (hI:∀s (A:World) k o,I s A->w.heap.size<=k->I s (A.putObj k o)) (hIx:∀c s (A:World) k o,Ix c s A->w.heap.size<=k->Ix c s (A.putObj k o))
  (hIA:∀s A B,I s A->Ab A B->I s B) (hIxA:∀c s A B,Ix c s A->Ab A B->Ix c s B) (h0:∀W,Below w.heap.size w W->I [] W) (a₁:α->Act)
  (hassign:∀(l:Nat) (x:α) (W:World) (K:Act->World->Prop),K (a₁ x) W ->
   assign.wpIn (Fence.wide.inRound l) 0 P (Exit.then K (fun _ _ _=>False)) { tmps:=(ps.zip (encs x)).foldl (fun t (p,v)=>t.setIfInBounds p v) a.tmps,defers:=[]} W)
  (hbody:∀(l:Nat) (pre:List α) (x:α) (W:World),I pre W->Nx pre x->w.heap.size+1<W.heap.size->body.wpIn (Fence.wide.inRound l) 0 P (overPost w.heap.size Kp I Ix (pre++[x]) W) (a₁ x) W)
  (hdone:∀(D:Nat) (xs:List α) (W:World),w.heap.size<=D->S xs->I xs W->W.heap[D]? = E (.deferred (E []))->Q .normal { a with defers:={ target:=.collected D,args:=#[]}::a.defers} W)
  (hstop:∀(D:Nat) (c:Code) (pre:List α) (W:World),w.heap.size<=D->Sp pre->Ix c pre W->W.heap[D]? = E (.deferred (E []))->c.wpIn Fence.wide 1 P Q { a with defers:={ target:=.collected D,args:=#[]}::a.defers} W):
  (Code.rangeFunc g ps assign body).wpIn Fence.wide 1 P Q a w:=by
 refine wpIn_rangeFunc ?_;intro fn hfn;obtain⟨D,hD⟩:∃D,D=w.heap.size:=⟨_,rfl⟩
 -- the record, by its state and its jump
 let rec_:LoopState->Option Code->Obj:=fun st pe=> .loop { state:=st,pending:=pe,fn,tmps:=a.tmps,params:=ps,assign,body,defers:=w.heap.size}
 obtain⟨W1,aG⟩:∃W1,W1=(w.alloc (.deferred (E []))).alloc (rec_ .ready none):=⟨_,rfl⟩;have hL1:W1.heap[w.heap.size+1]? = E (rec_ .ready none):=by
  have h:=World.alloc_heap_new (w.alloc (.deferred (E []))) (rec_ .ready none);rw[World.size_alloc] at h;rw[aG];exact h
 have hK1:W1.heap[w.heap.size]? = E (.deferred (E [])):=by
  rw[aG];exact(Below.heap_alloc _ _ _ (by simp)).trans (World.alloc_heap_new w _)
 have aM:Below w.heap.size w W1:=by
  rw[aG];exact((Below.refl _ w).alloc (Nat.le_refl _) _).alloc (by simp) _
 refine⟨w.heap.size+1,[{ target:=.collected w.heap.size,args:=#[]}],W1,{ target:=.fn (.func gf) lb,args:=#[.func (.yield (w.heap.size+1)) #[] #[]]},W1,gf,
  #[.func (.yield (w.heap.size+1)) #[] #[]]++lb,W1,by rw[aG];exact run_enterLoop_outer _ _ _ _ _,by simp only[resolve,hg];simp[go_sem],fun _ _=>trivial,by simp[invoke,go_sem,eg],fun _=>Nat.le_refl _,?_⟩
 -- what a step leaves of the two blocks
 have two:∀{A B:World} {o:Obj},Two w.heap.size A B->A.heap[w.heap.size+1]? = E o->A.heap[w.heap.size]? = E (.deferred (E []))->B.heap[w.heap.size+1]? = E o/\B.heap[w.heap.size]? = E (.deferred (E [])):=
  fun ht hl hk=>⟨ht _ _ (.inr rfl) hl,ht _ _ (.inl rfl) hk⟩
 have put:∀{A:World} {o:Obj} (o':Obj),A.heap[w.heap.size+1]? = E o->A.heap[w.heap.size]? = E (.deferred (E [])) ->
   (A.putObj (w.heap.size+1) o').heap[w.heap.size+1]? = E o'/\(A.putObj (w.heap.size+1) o').heap[w.heap.size]? = E (.deferred (E [])):=
  fun o' hl hk=>⟨World.putObj_heap_same (Array.getElem?_eq_some_iff.1 hl).1,(World.putObj_heap_other (by omega)).trans hk⟩
 refine(hseq W1 aM (w.heap.size+1)
  (fun pre W=>I pre W/\W.heap[w.heap.size+1]? = E (rec_ .ready none)/\W.heap[w.heap.size]? = E (.deferred (E [])))
  (fun pre W=>∃c,Ix c pre W/\W.heap[w.heap.size+1]? = E (rec_ .done (E c))/\W.heap[w.heap.size]? = E (.deferred (E [])))
  (fun s A B h aB=>⟨hIA _ _ _ h.1 aB,two (hAb _ _ aB) h.2.1 h.2.2⟩)
  (fun s A B h aB=>let ⟨c,h1,h2,h3⟩:=h;⟨c,hIxA _ _ _ _ h1 aB,two (hAb _ _ aB) h2 h3⟩)
  ?round ⟨h0 W1 aM,hL1,hK1⟩).mono ?behind
 case round=>
  rintro pre x W ⟨hi,hl,hk⟩ hnx;refine⟨fn,_,assign,body,run_yield (P:=P) (args:=encs x) hl (hps x),roundIn_of_wpIn hfn (hassign _ x W _ ⟨_,run_beginRound hl rfl,?_⟩)⟩;obtain⟨aH,aJ⟩:=put (rec_ .busy none) hl hk;have hw2:Kp W (W.putObj (w.heap.size+1) (rec_ .busy none)):=hKb _ _ _ (by omega);refine wpIn_mono (hbody _ pre x _ (hI _ _ _ _ hi (by omega)) hnx (Array.getElem?_eq_some_iff.1 aH).1) ?_;intro e a3 W3 hp;cases e with
  | normal=>
   obtain⟨ht,hkp,aC⟩:=hp;obtain⟨aA,aD⟩:=two ht aH aJ;obtain⟨aE,aF⟩:=put (rec_ .ready none) aA aD;exact⟨_,_,run_endRound (P:=P) none aA,.inl ⟨rfl,⟨hI _ _ _ _ aC (by omega),aE,aF⟩,hKt _ _ _ hw2 (hKt _ _ _ hkp (hKb _ _ _ (by omega)))⟩⟩
  | ret=>
   obtain⟨ht,aC⟩:=hp;obtain⟨aA,aD⟩:=two ht aH aJ;obtain⟨aE,aF⟩:=put (rec_ .done (E .ret)) aA aD;exact⟨_,_,run_endRound (P:=P) (E .ret) aA,.inr ⟨rfl,.ret,hIx _ _ _ _ _ aC (by omega),aE,aF⟩⟩
  | exit id=>
   obtain⟨ht,aC⟩:=hp;obtain⟨aA,aD⟩:=two ht aH aJ;obtain⟨aE,aF⟩:=put (rec_ .done (E (.exit id))) aA aD;exact⟨_,_,run_endRound (P:=P) (E (.exit id)) aA,.inr ⟨rfl,.exit id,hIx _ _ _ _ _ aC (by omega),aE,aF⟩⟩
  | goto t=>exact hp.elim
  | panic ch=>exact hp.elim
  | outgrown=>exact hp.elim
 case behind=>
  rintro e W2 ⟨⟨v,rfl⟩,(⟨xs,hS,hi,hl,hk⟩|⟨pre,hSp,c,hi,hl,hk⟩)⟩
  ·exact⟨none,_,run_endLoop (P:=P) hl (by simp),hdone _ xs _ (Nat.le_refl _) hS (hI _ _ _ _ hi (by omega)) (put _ hl hk).2⟩
  ·exact⟨E c,_,run_endLoop (P:=P) hl (by simp),hstop _ c pre _ (Nat.le_refl _) hSp (hIx _ _ _ _ _ hi (by omega)) (put _ hl hk).2⟩
end Go.Proofs.YtlbbbapiklendaaGreatDoor
namespace Go.Proofs.YtlbbbapiklendaaGreatDoor
open Option renaming some->E
open Go Go.RowKit Go.Maps Go.MapKept
open List renaming getElem?_map->lgP
def Cq(w:World)(b:Nat)(m:List (Value×Value)):Prop:=∃es clock,w.heap[b]? = E (.map es clock)/\Stamped es clock/\es.toList.map (fun e=>(e.key,e.val))=m
def J0(P:Program)(k:TypeId)(m:List (Value×Value)):Prop:=∀p∈m,∃l,keyOf P k p.1=E l
theorem Cq.made(w:World):Cq (w.alloc (.map #[] 0)) w.heap.size []:=⟨#[],0,World.alloc_heap_new w _,stamped_empty 0,rfl⟩
theorem Cq.lt{w b m}(h:Cq w b m):b<w.heap.size:=let ⟨_,_,h,_⟩:=h;(Array.getElem?_eq_some_iff.1 h).1
theorem Cq.of_block{w w' b m}(h:Cq w b m)(he:w'.heap[b]? = w.heap[b]?):Cq w' b m:=let ⟨es,c,h1,h2⟩:=h;⟨es,c,he.trans h1,h2⟩
theorem Cq.below{w w' b m}(h:Cq w b m)(hb:Below w.heap.size w w'):Cq w' b m:=h.of_block (hb.block b h.lt)
section
variable {P:Program} {k e t:TypeId}
theorem Cq.look{w:World}{b:Nat}{m:List (Value×Value)}(h:Cq w b m)(c:Bool)(K:Keyed P k)(ht:P.underlying t=E (.map k e)){z:Value}(hz:(zeroValue e).run P w = .ok z w)(hk:J0 P k m){key:Value}{kl:Lit}(hkey:keyOf P k key=E kl):
  ((∀p∈m,p.1≠key)/\(Instr.lookup t (.map (E b)) key c).run P w = .ok (if c then .tuple #[z,.bool false] else z) w) \/
   ∃(j:Nat) (v:Value),m[j]? = E (key,v)/\(Instr.lookup t (.map (E b)) key c).run P w = .ok (if c then .tuple #[v,.bool true] else v) w:=by
 obtain⟨es,clock,hb,-,rfl⟩:=h;have aB:∀x∈es.toList,∃l,keyOf P k x.key=E l:=fun x hx=>hk _ (List.mem_map_of_mem hx);rcases K.find w hkey es.toList aB with⟨h1,h2⟩|⟨j,e0,h1,h2,h3⟩
 ·left
  refine⟨?_,by simp[Instr.lookup,run_underlying ht,MapKept.run_getObj_map hb,K.check w _ hkey,h1,hz,Result.andThen]⟩;intro p hp;obtain⟨x,hx,rfl⟩:=List.mem_map.1 hp;exact h2 x hx
 ·right
  refine⟨j,e0.val,by rw[lgP,h2];simp[h3],by simp[Instr.lookup,run_underlying ht,MapKept.run_getObj_map hb,K.check w _ hkey,h1,Result.andThen]⟩
def Y1(key val:Value)(m m':List (Value×Value)):Prop:=((∀p∈m,p.1≠key)/\m'=m++[(key,val)])\/∃(j:Nat) (v:Value),m[j]? = E (key,v)/\m'=m.set j (key,val)
theorem Cq.store{w:World}{b:Nat}{m:List (Value×Value)}(h:Cq w b m)(K:Keyed P k)(ht:P.underlying t=E (.map k e))(hk:J0 P k m){key:Value}{kl:Lit}(hkey:keyOf P k key=E kl)(val:Value):
  ∃o m',(Instr.mapUpdate t (.map (E b)) key val).run P w = .ok () (w.putObj b o)/\Cq (w.putObj b o) b m'/\Y1 key val m m':=by
 have aC:=h.lt;obtain⟨es,clock,hb,aD,rfl⟩:=h;have aB:∀x∈es.toList,∃l,keyOf P k x.key=E l:=fun x hx=>hk _ (List.mem_map_of_mem hx);have aA:∀o,(setObj b o).run P w = .ok () (w.putObj b o):=fun o=>(by simp[setObj,Sem.run,hb,World.putObj]);rcases K.find w hkey es.toList aB with⟨h1,h2⟩|⟨j,e0,h1,h2,h3⟩
 ·refine⟨.map (es.push { key,val,born:=clock}) (clock+1),_,?_,⟨_,_,World.putObj_heap_same aC,stamped_push aD (fun x hx=>h2 x hx),rfl⟩,.inl ⟨?_,by simp⟩⟩
  ·simp[Instr.mapUpdate,run_underlying ht,MapKept.run_getObj_map hb,K.check w _ hkey,h1,aA,Result.andThen]
  ·intro p hp;obtain⟨x,hx,rfl⟩:=List.mem_map.1 hp;exact h2 x hx
 ·have hj:es[j]? = E e0:=(by rw[<-Array.getElem?_toList];exact h2);refine⟨.map (es.modify j fun e=>{ e with key,val:=val}) clock,_,?_,⟨_,_,World.putObj_heap_same aC,stamped_modify aD j _ (fun _ _=>rfl) (fun e _ he=>by rw[hj] at he;cases he;exact h3.symm),rfl⟩,.inr ⟨j,e0.val,by rw[lgP,h2];simp[h3],?_⟩⟩
  ·simp[Instr.mapUpdate,run_underlying ht,MapKept.run_getObj_map hb,K.check w _ hkey,h1,aA,Result.andThen,hj,h3,K.stays w hkey]
  ·apply List.ext_getElem?;intro i;rw[lgP,Array.getElem?_toList,Array.getElem?_modify,List.getElem?_set];by_cases hij:j=i
   ·subst hij;have hjl:j<es.size:=(Array.getElem?_eq_some_iff.1 hj).1;simp[hjl]
   ·simp[hij]
theorem Y1.keys{key val:Value}{m m':List (Value×Value)}(h:Y1 key val m m')(hk:J0 P k m){kl:Lit}(hkey:keyOf P k key=E kl):J0 P k m':=by
 intro p hp;rcases h with⟨-,rfl⟩|⟨j,v,hj,rfl⟩
 ·rcases List.mem_append.1 hp with h|h
  ·exact hk p h
  ·rw[List.mem_singleton.1 h];exact⟨_,hkey⟩
 ·rcases List.mem_or_eq_of_mem_set hp with h|h
  ·exact hk p h
  ·rw[h];exact⟨_,hkey⟩
end
end Go.Proofs.YtlbbbapiklendaaGreatDoor
