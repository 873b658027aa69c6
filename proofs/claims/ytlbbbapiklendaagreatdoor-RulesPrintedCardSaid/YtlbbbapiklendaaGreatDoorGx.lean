/-
  The walks' own rules about small rows,put together;and short words for values and addresses:coercions,which Lean writes out where it reads them.
-/
import Derived.WalkKit
namespace Go.Proofs.YtlbbbapiklendaaGreatDoor
open Go
theorem gX:(∀{α:Type} {xs:List α} {i:Nat} (h:i<xs.toArray.size),xs.toArray[i]=xs[i]'(by simpa using h))/\(∀{α:Type} {a:α} {as:List α} {i:Nat} (h:i+1<(a::as).length),(a::as)[i+1]=as[i]'(Nat.lt_of_succ_lt_succ h))/\(∀{α:Type} {a:α} {as:List α} (h:0<(a::as).length),(a::as)[0]=a)/\(∀{α:Type} (l:List α) (i:Nat) (a:α),l.toArray.setIfInBounds i a=(l.set i a).toArray)/\(∀{α:Type} {x a:α} {xs:List α},(x::xs).set 0 a=a::xs)/\(∀{α:Type} {x a:α} {xs:List α} {n:Nat},(x::xs).set (n+1) a=x::xs.set n a):=by
 simp
instance:Coe Int Value:=⟨fun n=> .int .i64 n⟩
instance:Coe Nat Value:=⟨fun n=> .int .i64 n⟩
instance:Coe ByteArray Value:=⟨fun s=> .string s⟩
instance:Coe Bool Value:=⟨fun s=> .bool s⟩
instance:Coe Nat Addr:=⟨fun b=>⟨b,0,none⟩⟩
instance:Coe World Nat:=⟨fun w=>w.heap.size⟩
instance (b o:Nat):CoeDep (Nat×Nat) (b,o) Addr:=⟨⟨b,o,none⟩⟩
instance {α:Type} (a:Option Addr) (l:List α) (c:Nat):CoeDep (Option Addr×List α×Nat) (a,l,c) Value:=⟨.slice a l.length c⟩
instance (a:Option Addr) (l:Nat) (c:Nat):CoeDep (Option Addr×Nat×Nat) (a,l,c) Value:=⟨.slice a l c⟩
instance:Coe Unit Value:=⟨fun _=> .int .i64 0⟩
instance:Coe Unit (Array Value):=⟨fun _=>#[.int .i64 0,.int .i64 0,.string ⟨#[]⟩,.slice none 0 0,.slice none 0 0]⟩
instance:Coe (Unit×Unit) Value:=⟨fun _=> .slice none 0 0⟩
end Go.Proofs.YtlbbbapiklendaaGreatDoor