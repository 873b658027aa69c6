/-
  What the rules of a text are like:defaults that may be,bodies as the parser reads them. No program in sight. (And what it stands on.)
-/
import Derived.Test.YtbcdimjbepigcaaGreatDoorEvTot
import Derived.Test.YtbcdimjbepigcaaGreatDoorMGet05
import Derived.Test.YtbcdimjbepigcaaGreatDoorPlainA
import Derived.Test.YtbcdimjbepigcaaGreatDoorMParseNz
namespace Go.Proofs.YtbcdimjbepigcaaGreatDoor
open Go Go.RowKit
def Cr:Ans:=fun _ q=>some (G7 q.name.data.toList q.args)
abbrev Flt:=Int×Int×Int
structure RuleP where
 name:ByteArray
 attrs:List AttrP
 body:List Nd
 ln:Int
 cl:Int
def typeL(s:List UInt8):Int:=
 if s=[116,101,120,116] then 1 else if s=[98,111,111,108] then 2 else if s=[105,110,116] then 3 else if s=[116,101,120,116,115] then 4
 else if s=[102,105,108,101,115] then 5 else if s=[108,97,98,101,108,115] then 6 else 0
def Nv(n:Nd)(ty:Int):Except Flt AttrP:=
 match workL Cr (kidN n 1) with
 | .error f=> .error f
 | .ok v=>if M3 ty v=true then .ok ⟨n.text,ty,false,v⟩ else .error (9,n.ln,n.cl)
def Kq(n:Nd)(ahead:List AttrP):Except Flt AttrP:=
 if Fd n.text.data.toList=true/\¬n.text.data.toList=[110,97,109,101] then .error (7,n.ln,n.cl)
 else if(idxA ahead n.text).isSome=true then .error (8,n.ln,n.cl)
 else if typeL (kidN n 0).text.data.toList=0 then .error (9,(kidN n 0).ln,(kidN n 0).cl)
 else if n.kids.length=1 then .ok ⟨n.text,typeL (kidN n 0).text.data.toList,true,vZero⟩
 else Nv n (typeL (kidN n 0).text.data.toList)
def ownL:List AttrP:=[⟨⟨#[110,97,109,101]⟩,1,true,vZero⟩,⟨⟨#[115,101,101,110]⟩,4,false,.mk 4 0 ⟨#[]⟩ [.mk 3 0 ⟨#[58,104,101,114,101]⟩ [] []] []⟩]
def attrsGo:List Nd->List AttrP->Except Flt (List AttrP)
 | [],acc=> .ok acc
 | p::t,acc=>match Kq p acc with | .error f=> .error f | .ok a=>attrsGo t (acc++[a])
def I2(n:Nd)(ahead:List RuleP):Except Flt RuleP:=
 if ¬n.kind=6 then .error (3,n.ln,n.cl)
 else if Fd n.text.data.toList=true then .error (7,n.ln,n.cl)
 else if(ahead.any fun r=>Eb r.name n.text)=true then .error (8,n.ln,n.cl)
 else match attrsGo n.kids.dropLast ownL with
  | .error f=> .error f
  | .ok l=> .ok ⟨n.text,l,(kidN n (n.kids.length - 1)).kids,n.ln,n.cl⟩
def rulesGo:List Nd->List RuleP->Except Flt (List RuleP)
 | [],acc=> .ok acc
 | n::t,acc=>match I2 n acc with | .error f=> .error f | .ok r=>rulesGo t (acc++[r])
def loadL(s:List UInt8):Except Flt (List RuleP):=
 match readL s with
 | some (.ok n)=>rulesGo n.kids []
 | some (.error f)=> .error f
 | none=> .ok []
def Nu(r:RuleP):Prop:=(∀x∈r.attrs,A6 x.dflt)/\fewNs r.body/\r.body.length<=65540/\r.attrs.length<=65550
mutual
theorem fewN_ok:∀{n:Nd},D2 65536 65540 n->fewN n
 | .mk k t l c kids,h=>by
  rw[D2] at h;rw[fewN];exact⟨by omega,fewNs_ok h.2.2.2.2⟩
theorem fewNs_ok:∀{l:List Nd},Ed 65536 65540 l->fewNs l
 | [],_=>by rw[fewNs];trivial
 | x::t,h=>by
  rw[Ed] at h;rw[fewNs];exact⟨fewN_ok h.1,fewNs_ok h.2⟩
end
theorem Ti{t v}(h:M3 t v=true):A6 v:=by
 unfold M3 at h;rw[Bool.and_eq_true] at h;exact Br h.1
theorem small_zero:A6 vZero:=by
 unfold vZero;rw[A6];exact⟨⟨by decide,rfl⟩,by simp,by simp,by simp,by rw[B4];trivial⟩
theorem Rr{n ahead a}(h:Kq n ahead = .ok a):A6 a.dflt:=by
 unfold Kq at h;split at h
 ·cases h
 split at h
 ·cases h
 split at h
 ·cases h
 split at h
 ·cases h;exact small_zero
 ·unfold Nv at h;split at h
  ·cases h
  ·split at h
   ·rename_i hf
    cases h;exact Ti hf
   ·cases h
theorem attrsGo_ok:∀(l:List Nd) (acc out:List AttrP),attrsGo l acc = .ok out->(∀x∈acc,A6 x.dflt)->(∀x∈out,A6 x.dflt)/\out.length=acc.length+l.length
 | [],acc,out,h,ha=>by rw[attrsGo] at h;cases h;exact⟨ha,by simp⟩
 | p::t,acc,out,h,ha=>by
  rw[attrsGo] at h;cases hp:Kq p acc with
  | error f=>rw[hp] at h;cases h
  | ok a=>
   rw[hp] at h;have:=attrsGo_ok t (acc++[a]) out h (fun x hx=>by
    rcases List.mem_append.1 hx with hx|hx
    ·exact ha x hx
    ·rw[List.mem_singleton.1 hx];exact Rr hp)
   refine⟨this.1,?_⟩;rw[this.2,List.length_append,List.length_singleton,List.length_cons];omega
theorem own_small:∀x∈ownL,A6 x.dflt:=by
 intro x hx;unfold ownL at hx;rcases List.mem_cons.1 hx with rfl|hx
 ·exact small_zero
 ·rw[List.mem_singleton.1 hx];show A6 (.mk 4 0 ⟨#[]⟩ [.mk 3 0 ⟨#[58,104,101,114,101]⟩ [] []] []);simp[A6,B4,inR]
  decide
theorem ruleL_ok{n ahead r}(hok:D2 65536 65540 n)(h:I2 n ahead = .ok r):Nu r:=by
 unfold I2 at h;split at h
 ·cases h
 split at h
 ·cases h
 split at h
 ·cases h
 split at h
 ·cases h
 ·next l hl=>
  cases h;obtain⟨h1,h2⟩:=attrsGo_ok _ _ _ hl own_small;obtain⟨k,t,ln,cl,kids⟩:=n;have hl2:kids.length<=65540:=(by rw[D2] at hok;exact hok.2.1);have hk:D2 65536 65540 (kidN (.mk k t ln cl kids) (kids.length - 1))\/kidN (.mk k t ln cl kids) (kids.length - 1)=ndZero:=by
   unfold kidN;cases hi:(Nd.kids (.mk k t ln cl kids))[kids.length - 1]? with
   | none=>exact .inr rfl
   | some x=>exact .inl (J6 hok hi)
  refine⟨h1,?_,?_,?_⟩
  ·show fewNs (kidN (.mk k t ln cl kids) (kids.length - 1)).kids;rcases hk with hk|hk
   ·generalize kidN (.mk k t ln cl kids) (kids.length - 1)=x at hk;obtain⟨a,b,c,d,e⟩:=x;rw[D2] at hk;exact fewNs_ok hk.2.2.2.2
   ·rw[hk];show fewNs [];rw[fewNs];trivial
  ·show(kidN (.mk k t ln cl kids) (kids.length - 1)).kids.length<=65540;rcases hk with hk|hk
   ·generalize kidN (.mk k t ln cl kids) (kids.length - 1)=x at hk;obtain⟨a,b,c,d,e⟩:=x;rw[D2] at hk;exact hk.2.1
   ·rw[hk];show(0:Nat)<=65540;omega
  ·show l.length<=65550;rw[h2];show 2+(kids.dropLast).length<=65550;rw[List.length_dropLast];omega
theorem rulesGo_ok:∀(l:List Nd) (acc out:List RuleP),Ed 65536 65540 l->rulesGo l acc = .ok out->(∀r∈acc,Nu r)->(∀r∈out,Nu r)/\out.length=acc.length+l.length
 | [],acc,out,_,h,ha=>by rw[rulesGo] at h;cases h;exact⟨ha,by simp⟩
 | n::t,acc,out,hk,h,ha=>by
  rw[Ed] at hk;rw[rulesGo] at h;cases hr:I2 n acc with
  | error f=>rw[hr] at h;cases h
  | ok r=>
   rw[hr] at h;have:=rulesGo_ok t (acc++[r]) out hk.2 h (fun x hx=>by
    rcases List.mem_append.1 hx with hx|hx
    ·exact ha x hx
    ·rw[List.mem_singleton.1 hx];exact ruleL_ok hk.1 hr)
   refine⟨this.1,?_⟩;rw[this.2,List.length_append,List.length_singleton,List.length_cons];omega
theorem loadL_ok{s l}(h:loadL s = .ok l):(∀r∈l,Nu r)/\l.length<=65540:=by
 unfold loadL at h;cases hr:readL s with
 | none=>exact absurd hr (Gy s).1
 | some r=>
  rw[hr] at h;cases r with
  | error f=>cases h
  | ok n=>
   obtain⟨kids,rfl,hkl,hko⟩:=(Gy s).2 _ hr;obtain⟨h1,h2⟩:=rulesGo_ok kids [] l hko h (fun r hr=>by cases hr);exact⟨h1,by rw[h2];simpa using hkl⟩
end Go.Proofs.YtbcdimjbepigcaaGreatDoor
