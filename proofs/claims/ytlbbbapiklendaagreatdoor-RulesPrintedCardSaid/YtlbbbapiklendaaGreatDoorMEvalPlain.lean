/-
  What the evaluator makes of nodes,in plain words:a value,and what the names mean then and how many steps are left;or an error and its place;or no word (of what isn't told here). (And what it stands on.)
-/
import Derived.Lib.LaidTab
import Derived.Lib.ItoaNum
import Derived.Lib.ParseIntB
import Derived.Test.YtlbbbapiklendaaGreatDoorMOwnLow
namespace Go.Proofs.YtlbbbapiklendaaGreatDoor
open Go Go.RowKit
def Le(l:List UInt8)(w:World)(e:Ending)(w':World):Prop:=∃o:ByteArray,e = .returned (.string o)/\o.data.toList=l/\Below w.heap.size w w'
def StdB(w:World):Prop:=∃m,w.cell? ⟨0,0,none⟩=some (.int .i64 m)
theorem StdB.below{w w'}(h:StdB w)(hb:Below w.heap.size w w'):StdB w':=by
 obtain⟨m,h1⟩:=h;exact⟨m,(hb.cell (p:=⟨0,0,none⟩) (Ax h1)).trans h1⟩
def Em(w:World):Prop:=Lib.TabIs Tryz.prog w "internal/strconv.uint64pow10" .u64 Lib.pow10Tab
theorem Em.keep{w w'}(h:Em w)(hk:w'.heap[3]? = w.heap[3]?):Em w':=by
 unfold Em Lib.TabIs World.var? at *;have hg:Tryz.prog.globalNamed "internal/strconv.uint64pow10" = some 3:=(by kernel_rfl);rw[hg,Option.bind_some] at h |-;rw[hk];exact h
theorem Em.here{w}(h:Em w):3<w.heap.size:=by
 unfold Em Lib.TabIs World.var? at h;have hg:Tryz.prog.globalNamed "internal/strconv.uint64pow10" = some 3:=(by kernel_rfl);rw[hg,Option.bind_some] at h;by_cases hl:3<w.heap.size
 ·exact hl
 ·rw[Array.getElem?_eq_none (by omega)] at h;cases h
theorem Em.below{w w'}(h:Em w)(hb:Below w.heap.size w w'):Em w':=h.keep (hb.block _ h.here)
structure Ask where
 name:ByteArray
 args:List (ByteArray×Vl)
 ln:Int
 cl:Int
abbrev Ans:=List Ask->Ask->Option (Except Int Vl)
structure St where
 names:List (ByteArray×Vl)
 left:Int
 log:List Ask
inductive ER(α:Type) where
 | ok (x:α) (st:St)
 | err (e l c:Int)
 | out
def EM(α:Type):=St->ER α
namespace EM
def pure{α:Type}(x:α):EM α:=fun st=> .ok x st
def bind{α β:Type}(m:EM α)(f:α->EM β):EM β:=fun st=>match m st with | .ok x st'=>f x st' | .err a b c=> .err a b c | .out=> .out
end EM
theorem Gx{α β}{m:EM α}{f:α->EM β}{st st'}{x:α}(h:m st = .ok x st'):EM.bind m f st=f x st':=by unfold EM.bind;rw[h]
theorem ebind_err{α β}{m:EM α}{f:α->EM β}{st a b c}(h:m st = .err a b c):EM.bind m f st = .err a b c:=by unfold EM.bind;rw[h]
theorem Eo{α β}{m:EM α}{f:α->EM β}{st}(h:m st = .out):EM.bind m f st = .out:=by unfold EM.bind;rw[h]
def lookN(m:List (ByteArray×Vl))(s:ByteArray):Option Vl:=(m.find? fun p=>p.1.data.toList==s.data.toList).map (·.2)
def putN:List (ByteArray×Vl)->ByteArray->Vl->List (ByteArray×Vl)
 | [],s,v=>[(s,v)]
 | p::t,s,v=>if p.1.data.toList==s.data.toList then(s,v)::t else p::putN t s v
def ndZero:Nd:=.mk 0 ⟨#[]⟩ 0 0 []
def kidN(n:Nd)(i:Nat):Nd:=(n.kids[i]?).getD ndZero
def Nd.ln:Nd->Int | .mk _ _ l _ _=>l
def Nd.cl:Nd->Int | .mk _ _ _ c _=>c
def fixedV(s:ByteArray):Option Vl:=
 if s.data.toList=[116,114,117,101] then some (.mk 1 1 ⟨#[]⟩ [] []) else if s.data.toList=[102,97,108,115,101] then some (.mk 1 0 ⟨#[]⟩ [] []) else if s.data.toList=[110,111,110,101] then some vZero else none
def numOf(s:ByteArray):Option Int:=
 match Lib.parseIntB 64 s.data.toList with
 | .ok v=>if inR v=true/\s.size<=65536/\Lib.itoa v=s.data.toList then some v else none
 | _=>none
theorem numOf_in{s v}(h:numOf s=some v):inR v=true:=by
 unfold numOf at h;split at h
 ·split at h
  ·rename_i hc
   cases h;exact hc.1
  ·cases h
 ·cases h
def eFail{α:Type}(e l c:Int):EM α:=fun _=> .err e l c
def eOut{α:Type}:EM α:=fun _=> .out
def De(l c:Int):EM Unit:=fun st=>if st.left<=0 then .err 12 l c else .ok () { st with left:=st.left - 1}
def Kc(s:ByteArray)(v:Vl)(l c:Int):EM Unit:=fun st=>if(fixedV s).isSome then .err 7 l c else .ok () { st with names:=putN st.names s v}
def D8(v:Vl)(l c:Int):EM Vl:=if Am v then EM.pure v else eFail 6 l c
def Ip(ex:Nd->EM Vl):List Nd->List Vl->EM (List Vl)
 | [],acc=>EM.pure acc
 | k::t,acc=>EM.bind (ex k) fun x=>Ip ex t (acc++[x])
def Ez(m:List (ByteArray×Vl)):List (List UInt8):=(m.map (·.1.data.toList)).mergeSort fun x y=>decide (x<=y)
def C5(m:List (ByteArray×Vl)):List (ByteArray×Vl):=(Ez m).map fun s=>(⟨s.toArray⟩,(lookN m ⟨s.toArray⟩).getD vZero)
def Fw(ex:Nd->EM Vl):List Nd->List (ByteArray×Vl)->EM (List (ByteArray×Vl))
 | k::n::t,acc=>if(lookN acc k.text).isSome then eFail 8 k.ln k.cl else EM.bind (ex n) fun x=>Fw ex t (acc++[(k.text,x)])
 | _,acc=>EM.pure acc
def J7(m:List (ByteArray×Vl)):Vl:=.mk 5 0 ⟨#[]⟩ ((C5 m).map (·.2)) ((C5 m).map (·.1))
def P5(ex:Nd->EM Vl)(n:Nd):EM Vl:=EM.bind (Fw ex n.kids []) fun m=>D8 (J7 m) n.ln n.cl
def eRes(r:Except Int Vl)(l c:Int):EM Vl:=match r with | .ok v=>EM.pure v | .error e=>eFail e l c
def eOp(ex:Nd->EM Vl)(n:Nd):EM Vl:=EM.bind (ex (kidN n 0)) fun a=>
 if n.text.data.toList=[110,111,116] then EM.pure (truthL (!Gs a)) else EM.bind (ex (kidN n 1)) fun b=>eRes (opL n.text.data.toList a b) n.ln n.cl
def J8(ex:Nd->EM Vl):List Nd->List (ByteArray×Vl)->EM (List (ByteArray×Vl))
 | [],acc=>EM.pure acc
 | n::t,acc=>EM.bind (ex (kidN n 0)) fun x=>J8 ex t (acc++[(n.text,x)])
def Jv(ans:Ans)(q:Ask):EM Vl:=fun st=>match ans st.log q with
 | none=> .out
 | some (.error y)=> .err y q.ln q.cl
 | some (.ok x)=>if Am x then .ok x { st with log:=st.log++[q]} else .err 1 q.ln q.cl
def Mo(ans:Ans)(ex:Nd->EM Vl)(n:Nd):EM Vl:=EM.bind (J8 ex n.kids []) fun l=>Jv ans ⟨n.text,l,n.ln,n.cl⟩
def Jc(ans:Ans)(ex:Nd->EM Vl)(n:Nd):EM Vl:=EM.bind (De n.ln n.cl) fun _=>fun st=>
 if n.kind=9 then
  match fixedV n.text with
  | some v=> .ok v st
  | none=>match lookN st.names n.text with
   | some v=> .ok v st
   | none=> .err 7 n.ln n.cl
 else if n.kind=10 then match numOf n.text with
  | some x=> .ok (.mk 2 x ⟨#[]⟩ [] []) st
  | none=> .out
 else if n.kind=12 then EM.bind (Ip ex n.kids []) (fun l=>D8 (.mk 4 0 ⟨#[]⟩ l []) n.ln n.cl) st
 else if n.kind=16 then eOp ex n st
 else if n.kind=11 then D8 (.mk 3 0 n.text [] []) n.ln n.cl st
 else if n.kind=14 then Mo ans ex n st
 else if n.kind=13 then P5 ex n st
 else .err 3 n.ln n.cl
def Dk(sm:Nd->EM Unit):List Nd->EM Unit
 | []=>EM.pure ()
 | n::t=>EM.bind (sm n) fun _=>Dk sm t
def Km(sm:Nd->EM Unit)(n:Nd)(body:List Nd):List Vl->EM Unit
 | []=>EM.pure ()
 | x::t=>EM.bind (Kc n.text x n.ln n.cl) fun _=>EM.bind (Dk sm body) fun _=>Km sm n body t
def eFor(ex:Nd->EM Vl)(sm:Nd->EM Unit)(n:Nd):EM Unit:=EM.bind (ex (kidN n 0)) fun v=>
 if v.kind=4 then Km sm n (kidN n 1).kids v.items else eFail 9 (kidN n 0).ln (kidN n 0).cl
def Rs(ex:Nd->EM Vl)(sm:Nd->EM Unit)(n:Nd):EM Unit:=EM.bind (De n.ln n.cl) fun _=>
 if n.kind=2 then EM.bind (ex (kidN n 0)) fun v=>Kc n.text v n.ln n.cl
 else if n.kind=4 then eFor ex sm n
 else if n.kind=3 then EM.bind (ex (kidN n 0)) fun _=>EM.pure ()
 else if n.kind=5 then EM.bind (ex (kidN n 0)) fun v=>if Gs v then Dk sm (kidN n 1).kids else Dk sm (kidN n 2).kids
 else eFail 3 n.ln n.cl
def Cr(ans:Ans):Nat->Nd->EM Vl
 | 0,_=>eOut
 | f+1,n=>Jc ans (Cr ans f) n
def Fs(ans:Ans):Nat->Nd->EM Unit
 | 0,_=>eOut
 | f+1,n=>Rs (Cr ans f) (Fs ans f) n
def L6(ans:Ans)(f:Nat)(l:List Nd)(steps:Int):ER Unit:=Dk (Fs ans f) l ⟨[],steps,[]⟩
end Go.Proofs.YtlbbbapiklendaaGreatDoor
