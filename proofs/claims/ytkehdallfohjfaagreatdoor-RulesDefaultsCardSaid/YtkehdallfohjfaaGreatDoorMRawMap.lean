/-
  A map that the program makes,told as the list of its entries:what a look-up finds,what a store leaves. The elements may be any values. (And what it stands on.)
-/
import Derived.RangeFuncNested
import Derived.RangeFuncBound
import Derived.RangeFuncCalls
import Derived.RangeFuncLeaves
import Derived.Maps.Keyed
import Derived.Maps.Own
import Derived.DeepKeys4
import Derived.WideKeyPair
import Derived.Test.YtkehdallfohjfaaGreatDoorMOwnLow
namespace Go.Proofs.YtkehdallfohjfaaGreatDoor
open Go Go.RowKit

end Go.Proofs.YtkehdallfohjfaaGreatDoor
namespace Go.Proofs.YtkehdallfohjfaaGreatDoor
open Go Go.RowKit Go.Maps Go.MapKept
open List renaming getElem?_map->lgP
def Eu(w:World)(b:Nat)(m:List (Value×Value)):Prop:=∃es clock,w.heap[b]? = some (.map es clock)/\Stamped es clock/\es.toList.map (fun e=>(e.key,e.val))=m
def Qw(P:Program)(k:TypeId)(m:List (Value×Value)):Prop:=∀p∈m,∃l,keyOf P k p.1=some l
theorem Eu.lt{w b m}(h:Eu w b m):b<w.heap.size:=let ⟨_,_,h,_⟩:=h;(Array.getElem?_eq_some_iff.1 h).1
theorem Eu.of_block{w w' b m}(h:Eu w b m)(he:w'.heap[b]? = w.heap[b]?):Eu w' b m:=let ⟨es,c,h1,h2⟩:=h;⟨es,c,he.trans h1,h2⟩
theorem Eu.below{w w' b m}(h:Eu w b m)(hb:Below w.heap.size w w'):Eu w' b m:=h.of_block (hb.block b h.lt)
section
variable {P:Program} {k e t:TypeId}
theorem Eu.look{w:World}{b:Nat}{m:List (Value×Value)}(h:Eu w b m)(c:Bool)(K:Keyed P k)(ht:P.underlying t=some (.map k e)){z:Value}(hz:(zeroValue e).run P w = .ok z w)(hk:Qw P k m){key:Value}{kl:Lit}(hkey:keyOf P k key=some kl):
  ((∀p∈m,p.1≠key)/\(Instr.lookup t (.map (some b)) key c).run P w = .ok (if c then .tuple #[z,.bool false] else z) w) \/
   ∃(j:Nat) (v:Value),m[j]? = some (key,v)/\(Instr.lookup t (.map (some b)) key c).run P w = .ok (if c then .tuple #[v,.bool true] else v) w:=by
 obtain⟨es,clock,hb,-,rfl⟩:=h;have aB:∀x∈es.toList,∃l,keyOf P k x.key=some l:=fun x hx=>hk _ (List.mem_map_of_mem hx);rcases K.find w hkey es.toList aB with⟨h1,h2⟩|⟨j,e0,h1,h2,h3⟩
 ·left
  refine⟨?_,by simp[Instr.lookup,run_underlying ht,MapKept.run_getObj_map hb,K.check w _ hkey,h1,hz,Result.andThen]⟩;intro p hp;obtain⟨x,hx,rfl⟩:=List.mem_map.1 hp;exact h2 x hx
 ·right
  refine⟨j,e0.val,by rw[lgP,h2];simp[h3],by simp[Instr.lookup,run_underlying ht,MapKept.run_getObj_map hb,K.check w _ hkey,h1,Result.andThen]⟩
def Stored(key val:Value)(m m':List (Value×Value)):Prop:=((∀p∈m,p.1≠key)/\m'=m++[(key,val)])\/∃(j:Nat) (v:Value),m[j]? = some (key,v)/\m'=m.set j (key,val)
theorem Eu.store{w:World}{b:Nat}{m:List (Value×Value)}(h:Eu w b m)(K:Keyed P k)(ht:P.underlying t=some (.map k e))(hk:Qw P k m){key:Value}{kl:Lit}(hkey:keyOf P k key=some kl)(val:Value):
  ∃o m',(Instr.mapUpdate t (.map (some b)) key val).run P w = .ok () (w.putObj b o)/\Eu (w.putObj b o) b m'/\Stored key val m m':=by
 have aC:=h.lt;obtain⟨es,clock,hb,aD,rfl⟩:=h;have aB:∀x∈es.toList,∃l,keyOf P k x.key=some l:=fun x hx=>hk _ (List.mem_map_of_mem hx);have aA:∀o,(setObj b o).run P w = .ok () (w.putObj b o):=fun o=>(by simp[setObj,Sem.run,hb,World.putObj]);rcases K.find w hkey es.toList aB with⟨h1,h2⟩|⟨j,e0,h1,h2,h3⟩
 ·refine⟨.map (es.push { key,val,born:=clock}) (clock+1),_,?_,⟨_,_,World.putObj_heap_same aC,stamped_push aD (fun x hx=>h2 x hx),rfl⟩,.inl ⟨?_,by simp⟩⟩
  ·simp[Instr.mapUpdate,run_underlying ht,MapKept.run_getObj_map hb,K.check w _ hkey,h1,aA,Result.andThen]
  ·intro p hp;obtain⟨x,hx,rfl⟩:=List.mem_map.1 hp;exact h2 x hx
 ·have hj:es[j]? = some e0:=(by rw[<-Array.getElem?_toList];exact h2);refine⟨.map (es.modify j fun e=>{ e with key,val:=val}) clock,_,?_,⟨_,_,World.putObj_heap_same aC,stamped_modify aD j _ (fun _ _=>rfl) (fun e _ he=>by rw[hj] at he;cases he;exact h3.symm),rfl⟩,.inr ⟨j,e0.val,by rw[lgP,h2];simp[h3],?_⟩⟩
  ·simp[Instr.mapUpdate,run_underlying ht,MapKept.run_getObj_map hb,K.check w _ hkey,h1,aA,Result.andThen,hj,h3,K.stays w hkey]
  ·apply List.ext_getElem?;intro i;rw[lgP,Array.getElem?_toList,Array.getElem?_modify,List.getElem?_set];by_cases hij:j=i
   ·subst hij;have hjl:j<es.size:=(Array.getElem?_eq_some_iff.1 hj).1;simp[hjl]
   ·simp[hij]
end
end Go.Proofs.YtkehdallfohjfaaGreatDoor
