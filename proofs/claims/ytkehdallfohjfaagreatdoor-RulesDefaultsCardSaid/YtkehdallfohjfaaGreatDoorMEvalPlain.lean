/-
  What the evaluator makes of nodes,in plain words:a value,and what the names mean then and how many steps are left;or an error and its place;or no word (of what isn't told here). (And what it stands on.)
-/
import Derived.Test.YtkehdallfohjfaaGreatDoorProg
import Derived.Lib.LaidTab
import Derived.Lib.ItoaNum
import Derived.Lib.ParseIntB
import Derived.Test.YtkehdallfohjfaaGreatDoorMOwnLow
namespace Go.Proofs.YtkehdallfohjfaaGreatDoor
open Go Go.RowKit
def Jq(l:List UInt8)(w:World)(e:Ending)(w':World):Prop:=∃o:ByteArray,e = .returned (.string o)/\o.data.toList=l/\Below w.heap.size w w'
def Gj(w:World):Prop:=∃m,w.cell? ⟨0,0,none⟩=some (.int .i64 m)
theorem Gj.below{w w'}(h:Gj w)(hb:Below w.heap.size w w'):Gj w':=by
 obtain⟨m,h1⟩:=h;exact⟨m,(hb.cell (p:=⟨0,0,none⟩) (Ar h1)).trans h1⟩
def Ea(w:World):Prop:=Lib.TabIs Tryz.prog w "internal/strconv.uint64pow10" .u64 Lib.pow10Tab
theorem Ea.keep{w w'}(h:Ea w)(hk:w'.heap[1]? = w.heap[1]?):Ea w':=by
 unfold Ea Lib.TabIs World.var? at *;have hg:Tryz.prog.globalNamed "internal/strconv.uint64pow10" = some 1:=(by kernel_rfl);rw[hg,Option.bind_some] at h |-;rw[hk];exact h
theorem Ea.here{w}(h:Ea w):1<w.heap.size:=by
 unfold Ea Lib.TabIs World.var? at h;have hg:Tryz.prog.globalNamed "internal/strconv.uint64pow10" = some 1:=(by kernel_rfl);rw[hg,Option.bind_some] at h;by_cases hl:1<w.heap.size
 ·exact hl
 ·rw[Array.getElem?_eq_none (by omega)] at h;cases h
theorem Ea.below{w w'}(h:Ea w)(hb:Below w.heap.size w w'):Ea w':=h.keep (hb.block _ h.here)
structure Ask where
 name:ByteArray
 args:List (ByteArray×Vl)
 ln:Int
 cl:Int
abbrev Ans:=List Ask->Ask->Option (Except Int Vl)
structure St where
 names:List (ByteArray×Vl)
 left:Int
 log:List Ask
inductive ER(α:Type) where
 | ok (x:α) (st:St)
 | err (e l c:Int)
 | out
def EM(α:Type):=St->ER α
namespace EM
def pure{α:Type}(x:α):EM α:=fun st=> .ok x st
def bind{α β:Type}(m:EM α)(f:α->EM β):EM β:=fun st=>match m st with | .ok x st'=>f x st' | .err a b c=> .err a b c | .out=> .out
end EM
theorem Cf{α β}{m:EM α}{f:α->EM β}{st st'}{x:α}(h:m st = .ok x st'):EM.bind m f st=f x st':=by unfold EM.bind;rw[h]
theorem Dg{α β}{m:EM α}{f:α->EM β}{st a b c}(h:m st = .err a b c):EM.bind m f st = .err a b c:=by unfold EM.bind;rw[h]
theorem Ds{α β}{m:EM α}{f:α->EM β}{st}(h:m st = .out):EM.bind m f st = .out:=by unfold EM.bind;rw[h]
def Ej(m:List (ByteArray×Vl))(s:ByteArray):Option Vl:=(m.find? fun p=>p.1.data.toList==s.data.toList).map (·.2)
def putN:List (ByteArray×Vl)->ByteArray->Vl->List (ByteArray×Vl)
 | [],s,v=>[(s,v)]
 | p::t,s,v=>if p.1.data.toList==s.data.toList then(s,v)::t else p::putN t s v
def ndZero:Nd:=.mk 0 ⟨#[]⟩ 0 0 []
def Ff(n:Nd)(i:Nat):Nd:=(n.kids[i]?).getD ndZero
def Nd.ln:Nd->Int | .mk _ _ l _ _=>l
def Nd.cl:Nd->Int | .mk _ _ _ c _=>c
def Cr(s:ByteArray):Option Vl:=
 if s.data.toList=[116,114,117,101] then some (.mk 1 1 ⟨#[]⟩ [] []) else if s.data.toList=[102,97,108,115,101] then some (.mk 1 0 ⟨#[]⟩ [] []) else if s.data.toList=[110,111,110,101] then some vZero else none
def F3(s:ByteArray):Option Int:=
 match Lib.parseIntB 64 s.data.toList with
 | .ok v=>if inR v=true/\s.size<=65536/\Lib.itoa v=s.data.toList then some v else none
 | _=>none
theorem numOf_in{s v}(h:F3 s=some v):inR v=true:=by
 unfold F3 at h;split at h
 ·split at h
  ·rename_i hc
   cases h;exact hc.1
  ·cases h
 ·cases h
def eFail{α:Type}(e l c:Int):EM α:=fun _=> .err e l c
def eOut{α:Type}:EM α:=fun _=> .out
def Da(l c:Int):EM Unit:=fun st=>if st.left<=0 then .err 12 l c else .ok () { st with left:=st.left - 1}
def F4(s:ByteArray)(v:Vl)(l c:Int):EM Unit:=fun st=>if(Cr s).isSome then .err 7 l c else .ok () { st with names:=putN st.names s v}
def Dh(v:Vl)(l c:Int):EM Vl:=if A7 v then EM.pure v else eFail 6 l c
def Ep(ex:Nd->EM Vl):List Nd->List Vl->EM (List Vl)
 | [],acc=>EM.pure acc
 | k::t,acc=>EM.bind (ex k) fun x=>Ep ex t (acc++[x])
def Ec(m:List (ByteArray×Vl)):List (List UInt8):=(m.map (·.1.data.toList)).mergeSort fun x y=>decide (x<=y)
def Eq(m:List (ByteArray×Vl)):List (ByteArray×Vl):=(Ec m).map fun s=>(⟨s.toArray⟩,(Ej m ⟨s.toArray⟩).getD vZero)
def La(_:Ans)(ex:Nd->EM Vl)(n:Nd):EM Vl:=EM.bind (Da n.ln n.cl) fun _=>fun st=>
 if n.kind=9 then
  match Cr n.text with
  | some v=> .ok v st
  | none=>match Ej st.names n.text with
   | some v=> .ok v st
   | none=> .err 7 n.ln n.cl
 else if n.kind=10 then match F3 n.text with
  | some x=> .ok (.mk 2 x ⟨#[]⟩ [] []) st
  | none=> .out
 else if n.kind=12 then EM.bind (Ep ex n.kids []) (fun l=>Dh (.mk 4 0 ⟨#[]⟩ l []) n.ln n.cl) st
 else if n.kind=11 then Dh (.mk 3 0 n.text [] []) n.ln n.cl st
 else if n.kind=13\/n.kind=14\/n.kind=16 then .out
 else .err 3 n.ln n.cl
def Ew(sm:Nd->EM Unit):List Nd->EM Unit
 | []=>EM.pure ()
 | n::t=>EM.bind (sm n) fun _=>Ew sm t
def Ov(ex:Nd->EM Vl)(_:Nd->EM Unit)(n:Nd):EM Unit:=EM.bind (Da n.ln n.cl) fun _=>
 if n.kind=2 then EM.bind (ex (Ff n 0)) fun v=>F4 n.text v n.ln n.cl
 else eOut
def Eg(ans:Ans):Nat->Nd->EM Vl
 | 0,_=>eOut
 | f+1,n=>La ans (Eg ans f) n
def Ip(ans:Ans):Nat->Nd->EM Unit
 | 0,_=>eOut
 | f+1,n=>Ov (Eg ans f) (Ip ans f) n
def eRun(ans:Ans)(f:Nat)(l:List Nd)(steps:Int):ER Unit:=Ew (Ip ans f) l ⟨[],steps,[]⟩
end Go.Proofs.YtkehdallfohjfaaGreatDoor
