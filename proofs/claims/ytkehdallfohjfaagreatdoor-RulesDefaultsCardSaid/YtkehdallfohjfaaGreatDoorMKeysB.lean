/-
  The sorted names of a map,as they lie in memory. (And what it stands on.)
-/
import Derived.Shelf.Abstract
import Derived.Shelf.RegionOpen
import Derived.OwnWalkIn
import Derived.TacticsInMore
import Derived.LoopNIn
import Derived.LoopIn
import Derived.Lib.IndexMore
import Derived.Lib.Strings
import Derived.Lib.Bytealg
import Derived.Test.YtkehdallfohjfaaGreatDoorMRawMap
import Derived.Test.YtkehdallfohjfaaGreatDoorCut
import Derived.Test.YtkehdallfohjfaaGreatDoorShelf
import Derived.Test.YtkehdallfohjfaaGreatDoorMPathPart
import Derived.Test.YtkehdallfohjfaaGreatDoorMOwnsN
import Derived.Test.YtkehdallfohjfaaGreatDoorMOpPlain
namespace Go.Proofs.YtkehdallfohjfaaGreatDoor
open Go Go.RowKit Go.Shelf
attribute [local go_sem] Oper.semAt_some
attribute [local go_sem] Oper.semAt_some
end Go.Proofs.YtkehdallfohjfaaGreatDoor
namespace Go.Proofs.YtkehdallfohjfaaGreatDoor
open Go Go.RowKit
structure LabelP where
 pkg:List UInt8
 name:List UInt8
def cutColon:List UInt8->Option (List UInt8×List UInt8)
 | []=>none
 | c::t=>if c=58 then some ([],t) else(cutColon t).map fun r=>(c::r.1,r.2)
def takenT:List UInt8:=[32,110,97,109,101,32,112,107,103,32,108,101,110,32,106,111,105,110,32,108,105,110,101,115,32,115,111,114,116,101,100,32,115,116,114,32,114,101,112,108,97,99,101,32,115,116,101,109,32,101,120,116,32,98,97,115,101,32,103,108,111,98,32,115,101,108,101,99,116,32,97,99,116,105,111,110,32,102,105,108,101,115,32,112,97,116,104,32,111,117,116,32,103,105,118,101,32,116,114,117,101,32,102,97,108,115,101,32,110,111,110,101,32]
def hasIn(p:List UInt8):List UInt8->Bool
 | []=>p.isEmpty
 | c::t=>p.isPrefixOf (c::t)||hasIn p t
def Dr(s:List UInt8):Bool:=hasIn (32::s++[32]) takenT
theorem Nk(s p):Lib.contains s p=hasIn p s:=by
 unfold Lib.contains
 induction s with
 | nil=>
  unfold Lib.index hasIn;cases p.isEmpty<;>rfl
 | cons c t ih=>
  unfold Lib.index hasIn;cases h:p.isPrefixOf (c::t) with
  | true=>simp
  | false=>
   rw[if_neg (by simp),Bool.false_or,<-ih];have hg:=Lib.index_ge t p;by_cases h1:Lib.index t p = -1
   ·rw[if_pos (by rw[h1];rfl),h1]
   ·rw[if_neg (by simpa using h1)];have:0<=Lib.index t p:=(by omega);rw[decide_eq_true this,decide_eq_true (by omega)]
end Go.Proofs.YtkehdallfohjfaaGreatDoor
namespace Go.Proofs.YtkehdallfohjfaaGreatDoor
open Go Go.RowKit Go.Maps
def Ek(m:List (ByteArray×Vl)):List ByteArray:=(Ec m).map fun b=>⟨b.toArray⟩
theorem Mi(m):(Ek m).length=m.length:=by
 simp[Ek,Ec]
theorem R0{m s}(h:s∈Ek m):∃q∈m,q.1=s:=by
 obtain⟨b,hb,rfl⟩:=List.mem_map.1 h;have:=(List.mergeSort_perm (m.map (·.1.data.toList)) leB).mem_iff.1 hb;obtain⟨q,hq,rfl⟩:=List.mem_map.1 this;exact⟨q,hq,by simp⟩
theorem R1{m:List (ByteArray×Vl)}{j:Nat}{s}(h:(Ek m)[j]? = some s):(Eq m)[j]? = some (s,(Ej m s).getD vZero):=by
 unfold Ek at h;unfold Eq;rw[List.getElem?_map] at h |-;cases hb:(Ec m)[j]? with
 | none=>rw[hb] at h;cases h
 | some b=>rw[hb] at h;simp only[Option.map_some,Option.some.injEq] at h;subst h;rfl
theorem R2{w:World}{base:Nat}{v}{ss:List (List UInt8)}{m:List (ByteArray×Vl)}(hp:ss.Perm (m.map (·.1.data.toList)))(h:w.ownsRow base 9 1 v ss.length ((ss.mergeSort (fun x y=>decide (x<=y))).map Go.Proofs.encStr)):OwnS w base v (Ek m):=by
 have he:ss.mergeSort (fun x y=>decide (x<=y))=Ec m:=mergeSort_of_perm hp;have hl:ss.length=(Ek m).length:=(by rw[Mi,hp.length_eq,List.length_map]);unfold OwnS;rw[<-hl];rw[he] at h;have:(Ec m).map Go.Proofs.encStr=(Ek m).map Value.string:=(by simp[Ek,List.map_map,Function.comp_def])
 rwa [this] at h
end Go.Proofs.YtkehdallfohjfaaGreatDoor
