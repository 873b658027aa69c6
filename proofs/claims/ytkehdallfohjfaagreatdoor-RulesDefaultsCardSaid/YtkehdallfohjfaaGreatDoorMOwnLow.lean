/-
  An own row,told from further down. (And what it stands on.)
-/
import Derived.Test.YtkehdallfohjfaaGreatDoorProg
import Derived.WalkKit
import Derived.WalkSpells
import Derived.WalkLawsBesides
import Derived.Deep.QuietTactic
import Derived.BigQuiet
import Derived.Outline
import Derived.Lib.Hide
import Derived.Lib.TrimByte
import Derived.Deep.RegionWith
import Derived.Laws.OwnMore
import Derived.Laws.Rows
import Derived.ChangeArms
namespace Go.Proofs.YtkehdallfohjfaaGreatDoor
open Go.RowKit
theorem Bs{a b}(h:a=b):Ending.returned (.bool a) = .returned (.bool b):=by rw[h]
theorem Kh{k a b}(h:a=b):Ending.returned (.int k a) = .returned (.int k b):=by rw[h]
theorem F0(p:ByteArray)(i:Nat)(h:i<p.size):p.data.toList[i]? = some p[i]:=by
 rw[Array.getElem?_toList,Array.getElem?_eq_getElem h];rfl
theorem Av(p:ByteArray):p.data.toList.length=p.size:=Array.length_toList
theorem L6(p:ByteArray)(i:Nat):(p.extract i p.size).data.toList=p.data.toList.drop i:=by
 rw[Lib.extract_data,List.take_of_length_le (by rw[List.length_drop,Av];omega)]
theorem Rh{a:UInt8}{n:Nat}(hn:n<256):((a.toNat:Int)==(n:Int))=(a==UInt8.ofNat n):=by
 rw[Bool.eq_iff_iff,beq_iff_eq,beq_iff_eq,Int.ofNat_inj,<-UInt8.toNat_inj,UInt8.toNat_ofNat',Nat.mod_eq_of_lt hn]
theorem bytes_ext{a b:ByteArray}(h:a.data.toList=b.data.toList):a=b:=by
 cases a;cases b;simp only[ByteArray.mk.injEq];exact Array.toList_inj.1 h
theorem Dy{B w w'}(h:Below B w w')(n):Below B w (w'.drewN n):=⟨h.os,h.tape,h.output,h.size,h.block⟩
def B9(w:World)(a:Option Addr)(l:List ByteArray):Prop:=
 ∀(j:Nat) x,l[j]? = some x->∃b off,a=some ⟨b,off,none⟩/\w.cell? ⟨b,off+j,none⟩=some (.string x)
theorem Ar{w:World}{b off:Nat}{v}(h:w.cell? ⟨b,off,none⟩=some v):b<w.heap.size:=by
 unfold World.cell? at h;by_cases hb:b<w.heap.size
 ·exact hb
 ·rw[Array.getElem?_eq_none (by simpa using hb)] at h;cases h
theorem B9.below{w w' a l}(h:B9 w a l)(hb:Below w.heap.size w w'):B9 w' a l:=by
 intro j x hx;obtain⟨b,off,ha,hc⟩:=h j x hx;exact⟨b,off,ha,by rw[hb.cell (p:=⟨b,off+j,none⟩) (Ar hc)];exact hc⟩
theorem B9.at{w a l}(h:B9 w a l){k}(hk:k<l.length):
  ∃b off,a=some ⟨b,off,none⟩/\w.cell? ⟨b,off+k,none⟩=some (.string l[k]):=h k _ (List.getElem?_eq_getElem hk)
def Found(q:Nat->Bool)(n:Nat)(I:Nat->World->Prop)(e:Ending)(w:World):Prop:=
 (∃i,i<n/\q i=true/\(∀j,j<i->q j=false)/\e = .returned (.int .i64 (i:Nat))/\I (i+1) w) \/
  ((∀j,j<n->q j=false)/\e = .returned (.int .i64 (-1))/\I n w)
def FoundB(q:Nat->Bool)(n:Nat)(I:Nat->World->Prop)(e:Ending)(w:World):Prop:=
 (∃i,i<n/\q i=true/\(∀j,j<i->q j=false)/\e = .returned (.bool true)/\I (i+1) w) \/
  ((∀j,j<n->q j=false)/\e = .returned (.bool false)/\I n w)
end Go.Proofs.YtkehdallfohjfaaGreatDoor
namespace Go.Proofs.YtkehdallfohjfaaGreatDoor
open Go Go.RowKit
open List renaming length_cons->lnC,getElem?_eq_getElem->lgE,mem_of_getElem? -> lgM,getElem?_eq_some_iff->lgS,length_map->lnM,getElem?_map->lgP,length_append->lnA,mem_cons_self->lmS,mem_cons_of_mem->lmO
open Nat renaming zero_le->nlz,le_refl->nlr,lt_of_lt_of_le->nll,le_trans->nlt
open Go.Lib renaming hid->Lq7
open _root_.Array renaming getElem?_eq_some_iff->agS
open Bool renaming and_eq_true->bAt
set_option maxRecDepth 100000
set_option maxHeartbeats 16000000
def isGap(c:UInt8):Bool:=((c.toNat:Int)==32)||((c.toNat:Int)==9)||((c.toNat:Int)==10)||((c.toNat:Int)==13)
def A9(c:UInt8):Bool:=decide ((48:Int)<=c.toNat)&&decide ((c.toNat:Int)<=57)
def C1(c:UInt8):Bool:=(decide ((97:Int)<=c.toNat)&&decide ((c.toNat:Int)<=122))||(decide ((65:Int)<=c.toNat)&&decide ((c.toNat:Int)<=90))||((c.toNat:Int)==95)
def isLine(c:UInt8):Bool:=(c.toNat:Int) != 10
def Cm(c:UInt8):Bool:=C1 c||A9 c
def runL(p:UInt8->Bool)(l:List UInt8):Nat:=(l.takeWhile p).length
def Er(c:UInt8):Option UInt8:=if c=34 then some 34 else if c=92 then some 92 else if c=110 then some 10 else none
def By:List UInt8->Option (List UInt8×Nat)
 | []=>none
 | c::t=>
  if c=34 then some ([],1)
  else if c<32\/c=127 then none
  else if c=92 then
   match t with
   | []=>none
   | d::t'=>(Er d).bind fun e=>(By t').map fun r=>(e::r.1,r.2+2)
  else(By t).map fun r=>(c::r.1,r.2+1)
def natOf(l:List UInt8):Nat:=l.foldl (fun n c=>10*n+(c.toNat - 48)) 0
structure Tok where
 kind:Int
 text:ByteArray
 line:Int
 col:Int
def C7(l:List UInt8):Except Int (Int×List UInt8×Nat):=
 if 1<runL A9 l/\l.head? = some 48 then .error 3
 else if 9223372036854775807<natOf (l.takeWhile A9) then .error 2
 else .ok (2,l.takeWhile A9,runL A9 l)
def Bz(l:List UInt8):Except Int (Int×List UInt8×Nat):=
 match l with
 | []=> .error 3
 | c::t=>
  if isGap c then .ok (0,[],runL isGap l)
  else if c=35 then .ok (0,[],runL isLine l)
  else if C1 c then .ok (1,l.takeWhile Cm,runL Cm l)
  else if A9 c then C7 l
  else if c=34 then
   match By t with
   | some r=> .ok (3,r.1,r.2+1)
   | none=> .error 3
  else if l.take 2=[61,61]\/l.take 2=[33,61] then .ok (4,l.take 2,2)
  else if c∈([61,43,40,41,91,93,123,125,44,58,59]:List UInt8) then .ok (4,[c],1)
  else .error 3
def behindLast(l:List UInt8):Nat:=(l.reverse.takeWhile (· ≠ 10)).length
def passL(p:Int×Int)(l:List UInt8):Int×Int:=
 if 0<l.count 10 then(p.1+l.count 10,behindLast l+1) else(p.1,p.2+l.length)
def Bt:Nat->Int×Int->List UInt8->Except (Int×Int×Int) (List Tok)
 | 0,_,_=> .ok []
 | f+1,p,l=>
  if l=[] then .ok []
  else match Bz l with
   | .error e=> .error (e,p.1,p.2)
   | .ok (k,s,n)=>
    match Bt f (passL p (l.take n)) (l.drop n) with
    | .error e=> .error e
    | .ok ts=> .ok (if 0<k then ⟨k,⟨s.toArray⟩,p.1,p.2⟩::ts else ts)
def F7(l:List UInt8):Except (Int×Int×Int) (List Tok):=
 if 65536<l.length then .error (6,1,1) else Bt (l.length+1) (1,1) l
def RetB(b:Bool)(w:World)(e:Ending)(w':World):Prop:=e = .returned (.bool b)/\w=w'
theorem Q7(c w):Calls Tryz.prog 71 #[.int .u8 c.toNat] w (RetB (isGap c) w):=by
 go_enter Tryz.func71,Tryz.ntmps71;go_wp2_with fail
 all_goals
  go_ret;exact⟨Bs (by first|(simp[isGap, *];done)|(simp_all [isGap];done)|(rw[Bool.eq_iff_iff];simp[isGap];omega)),rfl⟩
theorem Jf(c w):Calls Tryz.prog 76 #[.int .u8 c.toNat] w (RetB (A9 c) w):=by
 go_enter Tryz.func76,Tryz.ntmps76;go_wp2_with fail
 all_goals
  go_ret;exact⟨Bs (by first|(simp[A9, *];done)|(simp_all [A9];done)|(rw[Bool.eq_iff_iff];simp[A9];omega)),rfl⟩
theorem Iq(c w):Calls Tryz.prog 74 #[.int .u8 c.toNat] w (RetB (C1 c) w):=by
 go_enter Tryz.func74,Tryz.ntmps74;go_wp2_with fail
 all_goals
  go_ret;exact⟨Bs (by first|(simp[C1, *];done)|(simp_all [C1];done)|(rw[Bool.eq_iff_iff];simp[C1];omega)),rfl⟩
theorem line_any(c w):Calls Tryz.prog 73 #[.int .u8 c.toNat] w (RetB (isLine c) w):=by
 go_enter Tryz.func73,Tryz.ntmps73;go_wp2_with fail;go_ret;exact⟨rfl,rfl⟩
theorem R6(c w):Calls Tryz.prog 75 #[.int .u8 c.toNat] w (RetB (Cm c) w):=by
 cases h1:C1 c
 ·cases h2:A9 c
  all_goals
   have H1:=Lq7 h1;have H2:=Lq7 h2;clear h1 h2;go_enter Tryz.func75,Tryz.ntmps75;go_wp2_with fail;refine(Iq c _).mono ?_;rintro e w' ⟨rfl,rfl⟩;rw[H1.out];go_wp2_with fail;refine(Jf c _).mono ?_;rintro e w' ⟨rfl,rfl⟩;rw[H2.out];go_wp2_with fail;go_ret;exact⟨by unfold Cm;rw[H1.out,H2.out];rfl,rfl⟩
 ·have H1:=Lq7 h1;clear h1;go_enter Tryz.func75,Tryz.ntmps75;go_wp2_with fail;refine(Iq c _).mono ?_;rintro e w' ⟨rfl,rfl⟩;rw[H1.out];go_wp2_with fail;go_ret;exact⟨by unfold Cm;rw[H1.out];rfl,rfl⟩
theorem Lc{p l k}(h:∀j,j<k->∀y,l[j]? = some y->p y=true)(hk:k<=l.length):runL p l=k+runL p (l.drop k):=by
 induction k generalizing l with
 | zero=>simp[runL]
 | succ k ih=>
  cases l with
  | nil=>simp at hk
  | cons x t=>
   have hx:=h 0 (by omega) x rfl;have:=ih (l:=t) (fun j hj y hy=>h (j+1) (by omega) y (by simpa using hy)) (by simpa using hk);unfold runL at this |-;rw[List.takeWhile_cons_of_pos hx,lnC,this,List.drop_succ_cons];omega
theorem runL_le(p l):runL p l<=l.length:=by
 unfold runL
 induction l with
 | nil=>simp
 | cons x t ih=>rw[List.takeWhile_cons];split<;>simp<;>omega
theorem Mk(p:UInt8->Bool)(l:List UInt8):l.take (runL p l)=l.takeWhile p:=by
 unfold runL
 induction l with
 | nil=>rfl
 | cons x t ih=>
  rw[List.takeWhile_cons];split
  ·rw[lnC,List.take_succ_cons,ih]
  ·rfl
theorem Kj(p f)(hf:∀(c:UInt8) (w:World),Calls Tryz.prog f #[.int .u8 c.toNat] w (RetB (p c) w))(henter:∀(args:Array Value) (w:World),(callFunc f args).run Tryz.prog w = .ok (.enter f args) w)(s w)(hs:s.size<=9223372036854775807):
  Calls Tryz.prog 72 #[.string s,.func (.func f) #[] #[]] w (fun e w'=>e = .returned (.int .i64 (runL p s.data.toList))/\w=w'):=by
 have Hf:=Lq7 hf;clear hf;go_enter Tryz.func72,Tryz.ntmps72;go_wp2_with fail
 go_loopw [5] (fun i wr=>∃k:Nat,i = .int .i64 k/\k<=s.size/\wr=w/\Hid (∀j,j<k->∀y,s.data.toList[j]? = some y->p y=true)) (fun i _=>s.size-(intOf i).toNat)
 case atStart=>exact⟨0,rfl,nlz _,rfl,Lq7 (fun j hj=>by omega)⟩
 case round=>
  obtain⟨k,rfl,hk,rfl,aA⟩:=hrel;by_cases hlt:k<s.size
  ·have Hk:=Lq7 (F0 s k hlt);have hd:decide ((k:Int)<(s.size:Int))=true:=(by simp;omega);cases hp:p s[k]
   ·have Hp:=Lq7 hp;clear hp;have Hr:Hid (runL p s.data.toList=k):=Lq7 (by
     rw[Lc aA.out (by rw[Av];omega),List.drop_eq_getElem_cons (by rw[Av];exact hlt)];have:s.data.toList[k]'(by rw[Av];exact hlt)=s[k]:=rfl;rw[this,runL,List.takeWhile_cons_of_neg (by rw[Hp.out];simp)];rfl)
    go_wp2_with fail;refine(Hf.out s[k] _).mono ?_;rintro e w' ⟨rfl,rfl⟩;rw[Hp.out];go_wp2_with fail;go_ret;exact⟨Kh (by rw[Hr.out]),rfl⟩
   ·have Hp:=Lq7 hp;clear hp;have Hn:Hid (∀j,j<k+1->∀y,s.data.toList[j]? = some y->p y=true):=Lq7 (fun j hj y hy=>by
     by_cases hjk:j<k
     ·exact aA.out j hjk y hy
     ·obtain rfl:j=k:=(by omega);rw[Hk.out] at hy;cases hy;exact Hp.out)
    go_wp2_with fail;refine(Hf.out s[k] _).mono ?_;rintro e w' ⟨rfl,rfl⟩;rw[Hp.out];go_wp2_with fail;go_roundw
    case rel=>exact⟨k+1,by go_num,by omega,by trivial,Hn⟩
    case measure=>simp only[intOf];omega
  ·have Hr:Hid (runL p s.data.toList=k):=Lq7 (by
    rw[Lc aA.out (by rw[Av];omega),List.drop_of_length_le (by rw[Av];omega)];rfl)
   have hd:decide ((k:Int)<(s.size:Int))=false:=(by simp;omega);go_wp2_with fail;go_ret;exact⟨Kh (by rw[Hr.out]),rfl⟩
theorem A3{w:World}{b:Nat}{cs t}(h:w.heap[b]? = some (.cells cs t (0,0))):
  b<w.heap.size/\(∀j,w.cell? ⟨b,j,none⟩=cs[j]?)/\∀j,w.frozen? ⟨b,j,none⟩=false:=by
 refine⟨(agS.1 h).1,fun j=>?_,fun j=>?_⟩
 ·unfold World.cell?;rw[h];rfl
 ·unfold World.frozen?;rw[h];simp
theorem D2{w w2:World}{cs t}(hb:Below (w.alloc (.cells cs t)).heap.size (w.alloc (.cells cs t)) w2):w2.heap[w.heap.size]? = some (.cells cs t (0,0)):=
 (hb.block _ (by simp)).trans (heap_alloc_new w _)
theorem A1{w:World}{b:Nat}{x y t}(h:w.heap[b]? = some (.cells #[x,y] t (0,0))):
  b<w.heap.size/\w.cell? ⟨b,0,none⟩=some x/\w.cell? ⟨b,1,none⟩=some y/\w.frozen? ⟨b,0,none⟩=false/\w.frozen? ⟨b,1,none⟩=false:=by
 obtain⟨h1,h2,h3⟩:=A3 h;exact⟨h1,h2 0,h2 1,h3 0,h3 1⟩
theorem Al{w:World}{b:Nat}{cs t}(h:w.heap[b]? = some (.cells cs t (0,0)))(i:Nat)(v):(w.setCell ⟨b,i,none⟩ v).heap[b]? = some (.cells (cs.setIfInBounds i v) t (0,0)):=by
 unfold World.setCell;show(Array.modify _ _ _)[b]? = _;rw[Array.getElem?_modify,if_pos rfl,h];rfl
theorem Af{w:World}{b k:Nat}(h:k≠b)(i:Nat)(v):(w.setCell ⟨b,i,none⟩ v).heap[k]? = w.heap[k]?:=Below.heap_setCell _ _ _ _ (fun e=>h e)
theorem Dd(w:World)(row:Option Nat):w.grownBy w row:=⟨rfl,rfl,rfl,nlr _,fun _ _ _=>rfl⟩
theorem Ae{a b c:World}{row:Option Nat}(h:a.grownBy b row)(k:b.grownBy c row):a.grownBy c row:=
 ⟨k.os.trans h.os,k.tape.trans h.tape,k.output.trans h.output,nlt h.size k.size,fun i hi hn=>(k.block i (nll hi h.size) hn).trans (h.block i hi hn)⟩
theorem Bh{a b row}(h:Below a.heap.size a b):a.grownBy b row:=⟨h.os,h.tape,h.output,h.size,fun i hi _=>h.block i hi⟩
theorem D3{a b:World}{g:Nat}(h:a.grownBy b (some g))(i:Nat)(v):a.grownBy (b.setCell ⟨g,i,none⟩ v) (some g):=
 ⟨h.os,h.tape,h.output,by simpa using h.size,fun k hk hn=>(Af (fun e=>hn (by rw[e])) i v).trans (h.block k hk hn)⟩
theorem Ef{a b:World}{row:Option Nat}(h:a.grownBy b row)(o:Obj):a.grownBy (b.alloc o) row:=
 ⟨h.os,h.tape,h.output,nlt h.size (by simp),fun k hk hn=>(Below.heap_alloc b o k (nll hk h.size)).trans (h.block k hk hn)⟩
theorem De{a b:World}{row:Option Nat}(h:a.grownBy b row){g:Nat}(hg:a.heap.size<=g)(i:Nat)(v):a.grownBy (b.setCell ⟨g,i,none⟩ v) row:=
 ⟨h.os,h.tape,h.output,by simpa using h.size,fun k hk hn=>(Af (by omega) i v).trans (h.block k hk hn)⟩
theorem Fe{a b c:World}{bp:Nat}{v:Value}(h:a.grownBy b (some bp))(k:b.grownBy c v.ownBlock)(hv:∀g,v.ownBlock=some g->a.heap.size<=g):a.grownBy c (some bp):=
 ⟨k.os.trans h.os,k.tape.trans h.tape,k.output.trans h.output,nlt h.size k.size,fun i hi hn=>(k.block i (nll hi h.size) (fun e=>by have:=hv i e.symm;omega)).trans (h.block i hi hn)⟩
theorem Ak{w:World}{b:Nat}{x y z u t}(h:w.heap[b]? = some (.cells #[x,y,z,u] t (0,0))):
  b<w.heap.size/\w.cell? ⟨b,0,none⟩=some x/\w.cell? ⟨b,1,none⟩=some y/\w.cell? ⟨b,2,none⟩=some z/\w.cell? ⟨b,3,none⟩=some u:=by
 obtain⟨h1,h2,h3⟩:=A3 h;exact⟨h1,h2 0,h2 1,h2 2,h2 3⟩
theorem Aa{w:World}{b:Nat}{x y z u v t}(h:w.heap[b]? = some (.cells #[x,y,z,u,v] t (0,0))):
  b<w.heap.size/\w.cell? ⟨b,0,none⟩=some x/\w.cell? ⟨b,1,none⟩=some y/\w.cell? ⟨b,2,none⟩=some z/\w.cell? ⟨b,3,none⟩=some u/\w.cell? ⟨b,4,none⟩=some v /\
  w.frozen? ⟨b,0,none⟩=false/\w.frozen? ⟨b,1,none⟩=false/\w.frozen? ⟨b,2,none⟩=false/\w.frozen? ⟨b,3,none⟩=false/\w.frozen? ⟨b,4,none⟩=false:=by
 obtain⟨h1,h2,h3⟩:=A3 h;exact⟨h1,h2 0,h2 1,h2 2,h2 3,h2 4,h3 0,h3 1,h3 2,h3 3,h3 4⟩
theorem Ap{w:World}{b:Nat}{x t}(h:w.heap[b]? = some (.cells #[x] t (0,0))):b<w.heap.size/\w.cell? ⟨b,0,none⟩=some x:=by
 obtain⟨h1,h2,h3⟩:=A3 h;exact⟨h1,h2 0⟩
theorem D4{w:World}{b:Nat}{x y z u t}(h:w.heap[b]? = some (.cells #[x,y,z,u] t (0,0))):
  b<w.heap.size/\w.cell? ⟨b,0,none⟩=some x/\w.cell? ⟨b,1,none⟩=some y/\w.cell? ⟨b,2,none⟩=some z/\w.cell? ⟨b,3,none⟩=some u /\
  w.frozen? ⟨b,0,none⟩=false/\w.frozen? ⟨b,1,none⟩=false/\w.frozen? ⟨b,2,none⟩=false/\w.frozen? ⟨b,3,none⟩=false:=by
 obtain⟨h1,h2,h3⟩:=A3 h;exact⟨h1,h2 0,h2 1,h2 2,h2 3,h3 0,h3 1,h3 2,h3 3⟩
theorem Aj{w:World}{b:Nat}{x y z t}(h:w.heap[b]? = some (.cells #[x,y,z] t (0,0))):
  b<w.heap.size/\w.cell? ⟨b,0,none⟩=some x/\w.cell? ⟨b,1,none⟩=some y/\w.cell? ⟨b,2,none⟩=some z /\
  w.frozen? ⟨b,0,none⟩=false/\w.frozen? ⟨b,1,none⟩=false/\w.frozen? ⟨b,2,none⟩=false:=by
 obtain⟨h1,h2,h3⟩:=A3 h;exact⟨h1,h2 0,h2 1,h2 2,h3 0,h3 1,h3 2⟩
inductive Dat where
 | one (v:Value)
 | rowb (b:Bool) (l:List (List Dat))
abbrev Dat.row(l:List (List Dat)):Dat:=.rowb false l
inductive C9(F:Nat->Prop)(w:World):Dat->Value->Prop
 | one (v:Value):C9 F w (.one v) v
 | rowb (b:Bool) (l:List (List Dat)) (a:Option Addr) (cap:Nat) (hcap:b=true->l.length<=cap) (vs:List (List Value)) (hlen:vs.length=l.length)
   (hcell:∀(j:Nat) cs,vs[j]? = some cs->∃b off,a=some ⟨b,off,none⟩/\F b/\b<w.heap.size/\∀(i:Nat) u,cs[i]? = some u->w.cell? ⟨b,off+j*cs.length+i,none⟩=some u)
   (hsz:∀(j:Nat) cs ds,vs[j]? = some cs->l[j]? = some ds->cs.length=ds.length)
   (hsub:∀(j:Nat) cs ds (i:Nat) u d,vs[j]? = some cs->l[j]? = some ds->cs[i]? = some u->ds[i]? = some d->C9 F w d u):C9 F w (.rowb b l) (.slice a l.length cap)
def Ay(F:Nat->Prop)(w:World)(ds:List Dat)(cs:List Value):Prop:=
 cs.length=ds.length/\∀(i:Nat) u d,cs[i]? = some u->ds[i]? = some d->C9 F w d u
def Ag(F:Nat->Prop)(w:World)(a:Option Addr)(l:List (List Dat)):Prop:=
 ∀(j:Nat) ds,l[j]? = some ds->∃b off cs,a=some ⟨b,off,none⟩/\F b/\b<w.heap.size/\Ay F w ds cs/\∀(i:Nat) u,cs[i]? = some u->w.cell? ⟨b,off+j*ds.length+i,none⟩=some u
section
variable {F G:Nat->Prop} {w w':World}
theorem C9.mono{d:Dat}{v:Value}(h:C9 F w d v)(hk:∀b,F b->b<w.heap.size->G b/\b<w'.heap.size/\w'.heap[b]? = w.heap[b]?):C9 G w' d v:=by
 induction h with
 | one v=>exact .one v
 | rowb bo l a cap hcap vs hlen hcell hsz hsub ih=>
  refine .rowb bo l a cap hcap vs hlen (fun j cs hj=>?_) hsz ih;obtain⟨b,off,ha,hF,hb,hc⟩:=hcell j cs hj;obtain⟨h1,h2,h3⟩:=hk b hF hb;exact⟨b,off,ha,h1,h2,fun i u hu=>(World.cell?_of_block h3).trans (hc i u hu)⟩
theorem Ay.mono{ds:List Dat}{cs:List Value}(h:Ay F w ds cs)(hk:∀b,F b->b<w.heap.size->G b/\b<w'.heap.size/\w'.heap[b]? = w.heap[b]?):Ay G w' ds cs:=
 ⟨h.1,fun i u d h1 h2=>(h.2 i u d h1 h2).mono hk⟩
theorem Ag.mono{a:Option Addr}{l:List (List Dat)}(h:Ag F w a l)(hk:∀b,F b->b<w.heap.size->G b/\b<w'.heap.size/\w'.heap[b]? = w.heap[b]?):Ag G w' a l:=by
 intro j ds hj;obtain⟨b,off,cs,ha,hF,hb,hd,hc⟩:=h j ds hj;obtain⟨h1,h2,h3⟩:=hk b hF hb;exact⟨b,off,cs,ha,h1,h2,hd.mono hk,fun i u hu=>(World.cell?_of_block h3).trans (hc i u hu)⟩
theorem C9.one_inv{v u:Value}(h:C9 F w (.one v) u):u=v:=by cases h;rfl
theorem C9.rowb_inv{bo:Bool}{l:List (List Dat)}{u:Value}(h:C9 F w (.rowb bo l) u):∃a cap,u = .slice a l.length cap/\(bo=true->l.length<=cap)/\Ag F w a l:=by
 cases h with
 | rowb bo l a cap hcap vs hlen hcell hsz hsub=>
  refine⟨a,cap,rfl,hcap,fun j ds hj=>?_⟩;have aA:=(lgS.1 hj).1;have aC:vs[j]? = some (vs[j]'(by omega)):=lgE (by omega);obtain⟨b,off,ha,hF,hb,hc⟩:=hcell j _ aC;refine⟨b,off,_,ha,hF,hb,⟨hsz j _ _ aC hj,fun i u d h1 h2=>hsub j _ _ i u d aC hj h1 h2⟩,fun i u hu=>?_⟩;rw[<-hsz j _ _ aC hj];exact hc i u hu
theorem C9.row_inv{l:List (List Dat)}{u:Value}(h:C9 F w (.row l) u):∃a cap,u = .slice a l.length cap/\Ag F w a l:=by
 obtain⟨a,cap,h1,-,h2⟩:=h.rowb_inv;exact⟨a,cap,h1,h2⟩
theorem C9.rowb_mk{bo:Bool}{l:List (List Dat)}{a:Option Addr}(cap:Nat)(hcap:bo=true->l.length<=cap)(h:Ag F w a l):C9 F w (.rowb bo l) (.slice a l.length cap):=by
 have hex:∀j:Fin l.length,∃cs:List Value,Ay F w l[j] cs/\∃b off,a=some ⟨b,off,none⟩/\F b/\b<w.heap.size/\∀(i:Nat) u,cs[i]? = some u->w.cell? ⟨b,off+j*(l[j]).length+i,none⟩=some u:=by
  intro j;obtain⟨b,off,cs,ha,hF,hb,hd,hc⟩:=h j _ (lgE j.2);exact⟨cs,hd,b,off,ha,hF,hb,hc⟩
 obtain⟨f,hf⟩:=Classical.axiomOfChoice hex;have aB:∀(j:Nat) cs,(List.ofFn f)[j]? = some cs->∃hj:j<l.length,cs=f ⟨j,hj⟩:=by
  intro j cs hj;obtain⟨h1,h2⟩:=lgS.1 hj;rw[List.length_ofFn] at h1;exact⟨h1,by rw[<-h2,List.getElem_ofFn]⟩
 refine .rowb bo l a cap hcap (List.ofFn f) (by simp) ?_ ?_ ?_
 ·intro j cs hj;obtain⟨aA,rfl⟩:=aB j cs hj;obtain⟨hd,b,off,ha,hF,hb,hc⟩:=hf ⟨j,aA⟩;refine⟨b,off,ha,hF,hb,fun i u hu=>?_⟩;rw[hd.1];exact hc i u hu
 ·intro j cs ds hj hl;obtain⟨aA,rfl⟩:=aB j cs hj;rw[lgE aA] at hl;cases hl;exact(hf ⟨j,aA⟩).1.1
 ·intro j cs ds i u d hj hl hu hd;obtain⟨aA,rfl⟩:=aB j cs hj;rw[lgE aA] at hl;cases hl;exact(hf ⟨j,aA⟩).1.2 i u d hu hd
theorem C9.row_mk{l:List (List Dat)}{a:Option Addr}(cap:Nat)(h:Ag F w a l):C9 F w (.row l) (.slice a l.length cap):=C9.rowb_mk cap (fun h=>by cases h) h
theorem Ay.nil:Ay F w [] []:=⟨rfl,fun i u d h _=>by simp at h⟩
theorem Ay.cons_inv{d:Dat}{ds:List Dat}{cs:List Value}(h:Ay F w (d::ds) cs):∃c cs',cs=c::cs'/\C9 F w d c/\Ay F w ds cs':=by
 obtain⟨h1,h2⟩:=h;cases cs with
 | nil=>simp at h1
 | cons c cs'=>exact⟨c,cs',rfl,h2 0 c d rfl rfl,by simpa using h1,fun i u d' hu hd=>h2 (i+1) u d' (by simpa using hu) (by simpa using hd)⟩
theorem Ay.nil_inv{cs:List Value}(h:Ay F w [] cs):cs=[]:=List.length_eq_zero_iff.1 h.1
theorem Ay.cons{d:Dat}{ds:List Dat}{c:Value}{cs:List Value}(h1:C9 F w d c)(h2:Ay F w ds cs):Ay F w (d::ds) (c::cs):=by
 refine⟨by simp[h2.1],fun i u d' hu hd=>?_⟩;cases i with
 | zero=>simp at hu hd;rw[<-hu,<-hd];exact h1
 | succ i=>exact h2.2 i u d' (by simpa using hu) (by simpa using hd)
theorem Ag.nil(a:Option Addr):Ag F w a []:=fun j ds h=>by simp at h
theorem Gm(F:Nat->Prop)(hb:Below w.heap.size w w'):∀b,F b->b<w.heap.size->F b/\b<w'.heap.size/\w'.heap[b]? = w.heap[b]?:=
 fun b hF hl=>⟨hF,nll hl hb.size,hb.block b hl⟩
theorem Ag.below{a:Option Addr}{l:List (List Dat)}(h:Ag F w a l)(hb:Below w.heap.size w w'):Ag F w' a l:=h.mono (Gm F hb)
theorem Ay.below{ds:List Dat}{cs:List Value}(h:Ay F w ds cs)(hb:Below w.heap.size w w'):Ay F w' ds cs:=h.mono (Gm F hb)
theorem Ag.here{a:Option Addr}{l:List (List Dat)}(h:Ag F w a l):Ag (fun b=>F b/\b<w.heap.size) w a l:=h.mono fun _b h1 h2=>⟨⟨h1,h2⟩,h2,rfl⟩
theorem Ag.wider{a:Option Addr}{l:List (List Dat)}(h:Ag F w a l)(hg:∀b,F b->b<w.heap.size->G b):Ag G w a l:=h.mono fun b h1 h2=>⟨hg b h1 h2,h2,rfl⟩
theorem Ay.wider{ds:List Dat}{cs:List Value}(h:Ay F w ds cs)(hg:∀b,F b->b<w.heap.size->G b):Ay G w ds cs:=h.mono fun b h1 h2=>⟨hg b h1 h2,h2,rfl⟩
theorem Ag.drop{b off n:Nat}{l:List (List Dat)}(h:Ag F w (some ⟨b,off,none⟩) l)(hn:∀ds∈l,ds.length=n)(k:Nat):Ag F w (some ⟨b,off+k*n,none⟩) (l.drop k):=by
 intro j ds hj;rw[List.getElem?_drop] at hj;obtain⟨b',off',cs,ha,hF,hb,hd,hc⟩:=h (k+j) ds hj;cases ha;refine⟨b,off+k*n,cs,rfl,hF,hb,hd,fun i u hu=>?_⟩;have:=hc i u hu;rw[hn ds (lgM hj)] at this |-;rw[show off+k*n+j*n+i=off+(k+j)*n+i by rw[Nat.add_mul];omega];exact this
end
def Bc(l:List ByteArray):List (List Dat):=l.map fun s=>[.one (.string s)]
theorem Hy(l):(Bc l).length=l.length:=by simp[Bc]
theorem Ag.strs{F w a l}(h:Ag F w a (Bc l)):B9 w a l:=by
 intro j x hj;obtain⟨b,off,cs,ha,hF,hb,hd,hc⟩:=h j [.one (.string x)] (by simp[Bc,hj]);obtain⟨c,cs',rfl,h1,h2⟩:=hd.cons_inv;obtain rfl:=h1.one_inv;exact⟨b,off,ha,by have:=hc 0 _ rfl;simpa using this⟩
mutual
def toDat{H:Type}:DataW H->List Dat
 | .lit (.int q n)=>[.one (.int q n)]
 | .lit (.bool b)=>[.one (.bool b)]
 | .lit (.string bs)=>[.one (.string ⟨bs.toArray⟩)]
 | .nil=>[.row []]
 | .slice es _=>[.row (Jk es)]
 | .agg ps=>Jl ps
 | _=>[]
def Jk{H:Type}:List (DataW H)->List (List Dat)
 | []=>[]
 | d::t=>toDat d::Jk t
def Jl{H:Type}:List (DataW H)->List Dat
 | []=>[]
 | d::t=>toDat d++Jl t
end
theorem Ix{H}(l:List (DataW H)):Jk l=l.map toDat:=by
 induction l with
 | nil=>simp[Jk]
 | cons n t ih=>simp[Jk,ih]
theorem Ay.append{F w ds es cs us}(h:Ay F w ds cs)(k:Ay F w es us):Ay F w (ds++es) (cs++us):=by
 induction ds generalizing cs with
 | nil=>rw[h.nil_inv];exact k
 | cons d t ih=>
  obtain⟨c,cs',rfl,h1,h2⟩:=h.cons_inv;exact .cons h1 (ih h2)
section
variable {H:Type} {enc:TypeId×Value->H} {P:Program} {W:World}
def offsOk(P:Program):List Field->Nat->Nat->Bool
 | [],o,n=>o==n
 | f::r,o,n=>f.offset==o&&offsOk P r (o+P.cellsOf f.type) n
def okT(P:Program)(T:List TypeId)(t:TypeId):Bool:=
 match P.underlying t with
 | some (.int _)=>true
 | some .bool=>true
 | some .string=>true
 | some (.slice e)=>T.contains e&&decide (0<P.cellsOf e)
 | some (.struct fs)=>fs.toList.all (fun f=>T.contains f.type)&&offsOk P fs.toList 0 (P.cellsOf t)
 | _=>false
theorem O6{α β:Type}{f:α->Option β}:∀{l:List α} {r:List β},l.mapM f=some r->r.length=l.length/\∀(i:Nat) x,l[i]? = some x->f x=r[i]?
 | [],r,h=>by
  simp at h;subst h;exact⟨rfl,fun i x hx=>by simp at hx⟩
 | a::t,r,h=>by
  rw[List.mapM_cons] at h;cases ha:f a with
  | none=>rw[ha] at h;simp at h
  | some b=>
   rw[ha] at h;cases ht:t.mapM f with
   | none=>rw[ht] at h;simp at h
   | some r'=>
    rw[ht] at h;simp at h;subst h;obtain⟨h1,h2⟩:=O6 ht;refine⟨by simp[h1],fun i x hx=>?_⟩;cases i with
    | zero=>simp at hx;subst hx;simpa using ha
    | succ i=>simpa using h2 i x (by simpa using hx)
theorem Ms{w:World}{a:Addr}{n:Nat}{cs:List Value}(h:w.cells? 0 a n=some cs):cs.length=n/\∀(i:Nat) u,cs[i]? = some u->w.cell? (a.add i)=some u:=by
 unfold World.cells? at h;rw[if_pos (nlz _)] at h;obtain⟨h1,h2⟩:=O6 h;rw[List.length_range] at h1;refine⟨h1,fun i u hu=>?_⟩;have hi:=(lgS.1 hu).1;have hr:(List.range n)[i]? = some i:=List.getElem?_range (by omega);rw[h2 i i hr,hu]
theorem Nu{w:World}{a:Addr}{v:Value}(h:w.cell? a=some v):a.spot=none:=by
 unfold World.cell? at h;split at h
 ·split at h
  ·cases h
  ·rename_i hs;simpa using hs
 ·cases h
theorem Jm{w:World}{a:Addr}{v:Value}(h:w.cell? a=some v):a.block<w.heap.size:=by
 unfold World.cell? at h;split at h
 ·rename_i hb
  exact(agS.1 hb).1
 ·cases h
theorem O7{T:List TypeId}(hT:T.all (okT P T)=true):∀(fuel:Nat) (t:TypeId) (cs:List Value) (d:DataW H) (ps:List MemPlace),t∈T->DataW.trod enc P W 0 (fun _=>true) true fuel t cs=some (d,ps)->Ay (fun b=>b<W.heap.size) W (toDat d) cs:=by
 intro fuel
 induction fuel with
 | zero=>intro t cs d ps _ h;simp[DataW.trod] at h
 | succ fuel ih=>
  intro t cs d ps ht h;have aA:=List.all_eq_true.1 hT t ht;unfold okT at aA;split at aA
  ·rename_i q hu
   obtain⟨n,rfl,hx,-⟩:=DataW.trod_int hu h;cases hx;rw[toDat];exact .cons (.one _) .nil
  ·rename_i hu
   obtain⟨n,rfl,hx⟩:=DataW.trod_bool hu h;cases hx;rw[toDat];exact .cons (.one _) .nil
  ·rename_i hu
   obtain⟨s,rfl,hx,-⟩:=DataW.trod_string hu h;cases hx;rw[toDat];exact .cons (.one _) .nil
  ·rename_i e hu
   simp only[bAt,decide_eq_true_eq,List.contains_iff_mem] at aA;obtain⟨he,hsz⟩:=aA;rcases DataW.trod_slice hu h with⟨rfl,hx⟩|⟨a,len,cap,elems,rest,n,hn,rfl,hx,-,hl,hm,hlen,hel,-,-⟩
   ·cases hx;rw[toDat];exact .cons (C9.row_mk (l:=[]) 0 (Ag.nil none)) .nil
   ·cases hx;cases hn;rw[toDat];have hrl:(Jk (elems.map (·.1))).length=len:=(by rw[Ix,lnM,lnM,hlen]);refine .cons ?_ .nil;rw[<-hrl];refine C9.row_mk cap (fun j ds hj=>?_);rw[Ix,lgP,lgP] at hj;cases hej:elems[j]? with
    | none=>rw[hej] at hj;cases hj
    | some y=>
     rw[hej] at hj;simp only[Option.map_some,Option.some.injEq] at hj;subst hj;have hjl:j<len:=(by rw[<-hlen];exact(lgS.1 hej).1);have h1:=hel j hjl;rw[hej] at h1;cases hcs:W.cells? 0 (a.add (j*P.cellsOf e)) (P.cellsOf e) with
     | none=>rw[hcs] at h1;cases h1
     | some us=>
      rw[hcs] at h1;have h2:=ih e us y.1 y.2 he h1;obtain⟨h3,h4⟩:=Ms hcs;have h5:=h4 0 (us[0]'(by omega)) (lgE (by omega));have h0l:0<len:=(by omega);have aD:=hel 0 h0l;have he0:elems[0]? = some (elems[0]'(by omega)):=lgE _;rw[he0] at aD;obtain⟨b,off,spot⟩:=a;have hsp:spot=none:=by
       cases hc0:W.cells? 0 ((⟨b,off,spot⟩:Addr).add (0*P.cellsOf e)) (P.cellsOf e) with
       | none=>rw[hc0] at aD;cases aD
       | some vs=>
        obtain⟨h30,h40⟩:=Ms hc0;have h50:=h40 0 (vs[0]'(by omega)) (lgE (by omega));have:=Nu h50
        simpa[Addr.add] using this
      subst hsp;have aC:∀k,(⟨b,off,none⟩:Addr).add k=⟨b,off+k,none⟩:=fun k=>by unfold Addr.add;split<;>simp_all
      have hbl:b<W.heap.size:=by
       have:=Jm h5;rw[aC,show ∀o k,(⟨b,o,none⟩:Addr).add k=⟨b,o+k,none⟩ from fun o k=>by unfold Addr.add;split<;>simp_all] at this
       exact this
      refine⟨b,off,us,rfl,hbl,hbl,h2,fun i u hu=>?_⟩;have h6:=h4 i u hu;rw[aC,show ∀o k,(⟨b,o,none⟩:Addr).add k=⟨b,o+k,none⟩ from fun o k=>by unfold Addr.add;split<;>simp_all] at h6
      rw[<-h2.1,h3];exact h6
  ·rename_i fs hu
   simp only[bAt] at aA;obtain⟨aE,aF⟩:=aA;obtain⟨xs,n,hn,hx,hl,hxl,hf⟩:=DataW.trod_struct hu h;cases hx;cases hn;rw[toDat];have key:∀(fl:List Field) (ys:List (DataW H×List MemPlace)) (o:Nat),ys.length=fl.length->fl.all (fun f=>T.contains f.type)=true->offsOk P fl o (P.cellsOf t)=true ->
     (∀(i:Nat) f,fl[i]? = some f->DataW.trod enc P W 0 (fun _=>true) true fuel f.type ((cs.drop f.offset).take (P.cellsOf f.type))=ys[i]?)->o<=cs.length->Ay (fun b=>b<W.heap.size) W (Jl (ys.map (·.1))) (cs.drop o):=by
    intro fl
    induction fl with
    | nil=>
     intro ys o hy _ ho _ hle;have:ys=[]:=List.length_eq_zero_iff.1 hy;subst this;simp only[offsOk,beq_iff_eq] at ho;rw[List.drop_of_length_le (by omega)];simp only[List.map_nil,Jl];exact .nil
    | cons f r ih2=>
     intro ys o hy ha ho hg hle;cases ys with
     | nil=>simp at hy
     | cons y yr=>
      simp only[offsOk,bAt,beq_iff_eq] at ho;obtain⟨ho1,aH⟩:=ho;simp only[List.all_cons,bAt,List.contains_iff_mem] at ha;have h1:=hg 0 f rfl;rw[ho1] at h1;have h2:=ih f.type _ y.1 y.2 ha.1 h1;have hsz:((cs.drop o).take (P.cellsOf f.type)).length=(toDat y.1).length:=h2.1;have aG:o+P.cellsOf f.type<=cs.length:=by
       have mono:∀(l:List Field) (o n:Nat),offsOk P l o n=true->o<=n:=by
        intro l
        induction l with
        | nil=>intro o n h;simp only[offsOk,beq_iff_eq] at h;omega
        | cons g r ih3=>
         intro o n h;simp only[offsOk,bAt,beq_iff_eq] at h;have:=ih3 _ _ h.2;omega
       have:=mono _ _ _ aH;omega
      have h3:=ih2 yr (o+P.cellsOf f.type) (by simpa using hy) ha.2 aH (fun i g hgi=>by simpa using hg (i+1) g (by simpa using hgi)) aG;have aB:cs.drop o=(cs.drop o).take (P.cellsOf f.type)++cs.drop (o+P.cellsOf f.type):=by
       rw[<-List.drop_drop,List.take_append_drop]
      rw[aB,List.map_cons,Jl];exact h2.append h3
   have:=key fs.toList xs 0 (by simpa using hxl) aE aF (fun i f hfi=>hf i f (by simpa using hfi)) (nlz _)
   simpa using this
  ·cases aA
end
inductive Vl where
 | mk (kind n:Int) (s:ByteArray) (l:List Vl) (ks:List ByteArray)
namespace Vl
def kind:Vl->Int | .mk k _ _ _ _=>k
def num:Vl->Int | .mk _ n _ _ _=>n
def str:Vl->ByteArray | .mk _ _ s _ _=>s
def items:Vl->List Vl | .mk _ _ _ l _=>l
def keys:Vl->List ByteArray | .mk _ _ _ _ ks=>ks
end Vl
def vZero:Vl:=.mk 0 0 ⟨#[]⟩ [] []
mutual
def valD:Vl->List Dat
 | .mk k n s l ks=>[.one (.int .i64 k),.one (.int .i64 n),.one (.string s),.row (A5 l),.row (Bc ks)]
def A5:List Vl->List (List Dat)
 | []=>[]
 | v::t=>valD v::A5 t
end
theorem Dt(l):A5 l=l.map valD:=by
 induction l with
 | nil=>simp[A5]
 | cons n t ih=>simp[A5,ih]
theorem Cq(l):(A5 l).length=l.length:=by rw[Dt,lnM]
theorem N9(l m):A5 (l++m)=A5 l++A5 m:=by rw[Dt,Dt,Dt,List.map_append]
theorem valD_len(v):(valD v).length=5:=by obtain⟨k,n,s,l,ks⟩:=v;rfl
section
variable {F:Nat->Prop} {w:World}
theorem Ay.val{k n:Int}{s:ByteArray}{l:List Vl}{ks:List ByteArray}{cs:List Value}(h:Ay F w (valD (.mk k n s l ks)) cs):
  ∃a c a' c',cs=[.int .i64 k,.int .i64 n,.string s,.slice a l.length c,.slice a' ks.length c']/\Ag F w a (A5 l)/\Ag F w a' (Bc ks):=by
 rw[valD] at h;obtain⟨c0,cs,rfl,h0,h⟩:=h.cons_inv;obtain⟨c1,cs,rfl,h1,h⟩:=h.cons_inv;obtain⟨c2,cs,rfl,h2,h⟩:=h.cons_inv;obtain⟨c3,cs,rfl,h3,h⟩:=h.cons_inv;obtain⟨c4,cs,rfl,h4,h⟩:=h.cons_inv;obtain rfl:=h.nil_inv;obtain rfl:=h0.one_inv;obtain rfl:=h1.one_inv;obtain rfl:=h2.one_inv;obtain⟨a,cap,rfl,hr⟩:=h3.row_inv;obtain⟨a',cap',rfl,hr'⟩:=h4.row_inv;exact⟨a,cap,a',cap',by rw[Cq,Hy],hr,hr'⟩
theorem Ay.val_mk(k n:Int)(s:ByteArray){l:List Vl}{ks:List ByteArray}{a a':Option Addr}(c c':Nat)(h:Ag F w a (A5 l))(h':Ag F w a' (Bc ks)):
  Ay F w (valD (.mk k n s l ks)) [.int .i64 k,.int .i64 n,.string s,.slice a l.length c,.slice a' ks.length c']:=by
 rw[valD];exact .cons (.one _) (.cons (.one _) (.cons (.one _) (.cons (by rw[<-Cq l];exact C9.row_mk c h) (.cons (by rw[<-Hy ks];exact C9.row_mk c' h') .nil))))
theorem Ag.val{a:Option Addr}{l:List Vl}(h:Ag F w a (A5 l)){j:Nat}{k n:Int}{s:ByteArray}{m:List Vl}{ks:List ByteArray}(hj:l[j]? = some (.mk k n s m ks)):
  ∃b off a1 c1 a2 c2,a=some ⟨b,off,none⟩/\F b/\b<w.heap.size/\w.cell? ⟨b,off+j*5,none⟩=some (.int .i64 k)/\w.cell? ⟨b,off+j*5+1,none⟩=some (.int .i64 n)/\w.cell? ⟨b,off+j*5+2,none⟩=some (.string s) /\
   w.cell? ⟨b,off+j*5+3,none⟩=some (.slice a1 m.length c1)/\w.cell? ⟨b,off+j*5+4,none⟩=some (.slice a2 ks.length c2)/\Ag F w a1 (A5 m)/\Ag F w a2 (Bc ks):=by
 obtain⟨b,off,cs,ha,hF,hb,hd,hc⟩:=h j (valD (.mk k n s m ks)) (by rw[Dt,lgP,hj];rfl);obtain⟨a1,c1,a2,c2,rfl,hr,hr'⟩:=hd.val;rw[valD_len] at hc;exact⟨b,off,a1,c1,a2,c2,ha,hF,hb,hc 0 _ rfl,hc 1 _ rfl,hc 2 _ rfl,hc 3 _ rfl,hc 4 _ rfl,hr,hr'⟩
end
def risesGo:Option ByteArray->List ByteArray->Bool
 | _,[]=>true
 | p,s::t=>decide (s.size<=65536)&&(match p with|none=>true|some q=>Op.bytesLess q.toList s.toList)&&risesGo (some s) t
def risesL(l:List ByteArray):Bool:=risesGo none l&&decide (l.length<=1000)
def inR(n:Int):Bool:=decide (-9223372036854775808<=n)&&decide (n<=9223372036854775807)
def Bf(k n:Int)(s:ByteArray)(l:List Vl)(ks:List ByteArray):Bool:=
 if k=0 then n==0&&s.toList.isEmpty&&l.isEmpty&&ks.isEmpty
 else if k=1 then(n==0||n==1)&&s.toList.isEmpty&&l.isEmpty&&ks.isEmpty
 else if k=2 then inR n&&s.toList.isEmpty&&l.isEmpty&&ks.isEmpty
 else if k=3 then n==0&&decide (s.size<=65536)&&l.isEmpty&&ks.isEmpty
 else if k=4 then n==0&&s.toList.isEmpty&&decide (l.length<=1000)&&ks.isEmpty
 else if k=5 then n==0&&s.toList.isEmpty&&l.length==ks.length&&risesL ks
 else false
mutual
def mayV:Vl->Int->Int->Bool×Int
 | .mk k n s l ks,d,m=>if 60<d\/m - 1<0 then(false,m - 1) else if Bf k n s l ks=true then B4 l (d+1) (m - 1) else(false,m - 1)
def B4:List Vl->Int->Int->Bool×Int
 | [],_,m=>(true,m)
 | v::t,d,m=>if(mayV v d m).1=true then B4 t d (mayV v d m).2 else(false,(mayV v d m).2)
end
def A7(v:Vl):Bool:=(mayV v 1 20000).1
mutual
def sameV:Vl->Vl->Bool
 | .mk k n s l ks,.mk k' n' s' l' ks'=>k==k'&&n==n'&&s.toList==s'.toList&&ks.map (·.toList)==ks'.map (·.toList)&&sameVs l l'
def sameVs:List Vl->List Vl->Bool
 | [],[]=>true
 | v::t,v'::t'=>sameV v v'&&sameVs t t'
 | _,_=>false
end
theorem valsD_all{p:List Dat->Prop}(hp:∀v,p (valD v))(l):∀ds∈A5 l,p ds:=by
 rw[Dt];intro ds h;obtain⟨v,-,rfl⟩:=List.mem_map.1 h;exact hp v
def B7(k n:Int)(s:ByteArray)(a1:Option Addr)(l1 c1:Nat)(a2:Option Addr)(l2 c2:Nat):Value:=.agg #[.int .i64 k,.int .i64 n,.string s,.slice a1 l1 c1,.slice a2 l2 c2]
theorem Lb(F g fa lb)(eg:∀args w,(callFunc g args).run Tryz.prog w = .ok (.enter g args) w)(a cap l q I w)(hl:l.length<=9223372036854775807)(h0:I 0 w)(hI:∀k w',I k w'->Ag F w' a (A5 l))(hg:∀k kk n s m ks a1 c1 a2 c2 w1,l[k]? = some (.mk kk n s m ks)->I k w1->(∀j,j<k->q j=false)->Ag F w1 a1 (A5 m)->Ag F w1 a2 (Bc ks) ->
   Calls Tryz.prog g ((fa++#[B7 kk n s a1 m.length c1 a2 ks.length c2])++lb) w1 fun e w2=>e = .returned (.bool (q k))/\I (k+1) w2):
  Calls Tryz.prog 112 #[.slice a l.length cap,.func (.func g) fa lb] w (Found q l.length I):=by
 go_enter Tryz.func112,Tryz.ntmps112;go_wp2
 go_loopw [8] (fun i wr=>∃k:Nat,i = .int .i64 k/\k<=l.length/\I k wr/\∀j,j<k->q j=false) (fun i _=>l.length-(intOf i).toNat)
 case atStart=>exact⟨0,rfl,nlz _,h0,fun j h=>absurd h (Nat.not_lt_zero _)⟩
 case round=>
  obtain⟨k,rfl,hk,aD,hq⟩:=hrel;by_cases hlt:k<l.length
  ·cases hx:l[k] with
   | mk kk n s m ks=>
    have hj:l[k]? = some (.mk kk n s m ks):=(by rw[lgE hlt,hx]);obtain⟨b,off,a1,c1,a2,c2,rfl,hF,hbl,r0,r1,r2,r3,r4,hr1,hr2⟩:=(hI k wr aD).val hj;have aA:=hg k _ _ _ _ _ a1 c1 a2 c2 wr hj aD hq hr1 hr2;unfold B7 at aA;have HC:=Lq7 aA;cases hqk:q k
    ·have aC:=Lq7 hqk;have Hq:=Lq7 hq;go_wp2_with fail;refine HC.out.mono ?_;rintro e w2 ⟨rfl,aB⟩;rw[aC.out];go_wp2;go_roundw
     case rel=>exact⟨k+1,by go_num,by omega,aB,fun j hj=>by by_cases h:j=k;(rw[h];exact aC.out);exact Hq.out j (by omega)⟩
     case measure=>simp only[intOf];omega
    ·have aC:=Lq7 hqk;have Hq:=Lq7 hq;go_wp2_with fail;refine HC.out.mono ?_;rintro e w2 ⟨rfl,aB⟩;rw[aC.out];go_wp2;go_ret;exact .inl ⟨k,hlt,aC.out,Hq.out,rfl,aB⟩
  ·obtain rfl:k=l.length:=(by omega);have Hq:=Lq7 hq;go_wp2;go_ret;exact .inr ⟨Hq.out,rfl,aD⟩
theorem I3(F g fa lb)(eg:∀args w,(callFunc g args).run Tryz.prog w = .ok (.enter g args) w)(a cap l q I w)(hl:l.length<=9223372036854775807)(h0:I 0 w)(hI:∀k w',I k w'->Ag F w' a (A5 l))(hg:∀k kk n s m ks a1 c1 a2 c2 w1,l[k]? = some (.mk kk n s m ks)->I k w1->(∀j,j<k->q j=false)->Ag F w1 a1 (A5 m)->Ag F w1 a2 (Bc ks) ->
   Calls Tryz.prog g ((fa++#[B7 kk n s a1 m.length c1 a2 ks.length c2])++lb) w1 fun e w2=>e = .returned (.bool (q k))/\I (k+1) w2):
  Calls Tryz.prog 64 #[.slice a l.length cap,.func (.func g) fa lb] w (FoundB q l.length I):=by
 go_enter Tryz.func64,Tryz.ntmps64;go_wp2_with fail;refine(Lb F g fa lb eg a cap l q I w hl h0 hI hg).mono ?_;rintro e w2 (⟨i,hi,hqi,hq,rfl,aB⟩|⟨hq,rfl,aB⟩)
 ·have Hq:=Lq7 hq;have Hqi:=Lq7 hqi;go_wp2;go_ret;exact .inl ⟨i,hi,Hqi.out,Hq.out,rfl,aB⟩
 ·have Hq:=Lq7 hq;go_wp2;go_ret;exact .inr ⟨Hq.out,rfl,aB⟩
mutual
theorem F9(v:Vl)(d m:Int)(hm:0<=m): -1<=(mayV v d m).2/\(mayV v d m).2<=m - 1/\((mayV v d m).1=true->0<=(mayV v d m).2):=by
 obtain⟨k,n,s,l,ks⟩:=v;rw[mayV];split
 ·exact⟨by simp;omega,by simp,fun h=>by cases h⟩
 ·split
  ·obtain⟨h1,h2,h3⟩:=Lg l (d+1) (m - 1) (by omega);exact⟨h1,h2,h3⟩
  ·exact⟨by simp;omega,by simp,fun h=>by cases h⟩
theorem Lg(l:List Vl)(d m:Int)(hm:0<=m): -1<=(B4 l d m).2/\(B4 l d m).2<=m/\((B4 l d m).1=true->0<=(B4 l d m).2):=by
 cases l with
 | nil=>rw[B4];exact⟨by simp;omega,by simp,fun _=>hm⟩
 | cons v t=>
  rw[B4];obtain⟨h1,h2,h3⟩:=F9 v d m hm;split
  ·rename_i h
   obtain⟨h4,h5,h6⟩:=Lg t d (mayV v d m).2 (h3 h);exact⟨h4,by omega,h6⟩
  ·exact⟨h1,by simp;omega,fun h=>by cases h⟩
end
def Du(d:Int):List Vl->Int->Nat->Int
 | [],m,_=>m
 | _::_,m,0=>m
 | v::t,m,k+1=>Du d t (mayV v d m).2 k
theorem D1(d l m):Du d l m 0=m:=by cases l<;>rfl
theorem J1(d):∀(l:List Vl) (m:Int) (k:Nat) (v:Vl),l[k]? = some v->Du d l m (k+1)=(mayV v d (Du d l m k)).2
 | [],_,_,_,h=>by simp at h
 | x::t,m,0,v,h=>by simp at h;subst h;show Du d t (mayV x d m).2 0=(mayV x d m).2;exact D1 d t _
 | x::t,m,k+1,v,h=>by
  rw[Du,J1 d t _ k v (by simpa using h)];rfl
def mayQ(d:Int)(l:List Vl)(m:Int)(k:Nat):Bool:=match l[k]? with|some v=> !(mayV v d (Du d l m k)).1|none=>false
theorem Jj(d v t m k):mayQ d (v::t) m (k+1)=mayQ d t (mayV v d m).2 k:=rfl
theorem Mn(d):∀(l:List Vl) (m:Int),(∀j,j<l.length->mayQ d l m j=false)->B4 l d m=(true,Du d l m l.length)
 | [],m,_=>rfl
 | v::t,m,h=>by
  have h0:=h 0 (by simp);have hv:(mayV v d m).1=true:=(by simpa[mayQ,D1] using h0);rw[B4,if_pos hv,Mn d t _ (fun j hj=>by rw[<-Jj];exact h (j+1) (by simp;omega))];rfl
theorem Mo(d):∀(l:List Vl) (m:Int) (i:Nat),i<l.length->mayQ d l m i=true->(∀j,j<i->mayQ d l m j=false)->B4 l d m=(false,Du d l m (i+1))
 | [],_,_,h,_,_=>by simp at h
 | v::t,m,0,_,h,_=>by
  have hv:(mayV v d m).1=false:=(by simpa[mayQ,D1] using h);rw[B4,if_neg (by simp[hv]),Du,D1]
 | v::t,m,i+1,hi,h,hj=>by
  have h0:=hj 0 (by omega);have hv:(mayV v d m).1=true:=(by simpa[mayQ,D1] using h0);rw[B4,if_pos hv,Mo d t _ i (by simpa using hi) h (fun j hj'=>by rw[<-Jj];exact hj (j+1) (by omega))];rfl
theorem Mp(d):∀(l:List Vl) (m:Int) (k:Nat),0<=m->(∀j,j<k->j<l.length->mayQ d l m j=false)->0<=Du d l m k/\Du d l m k<=m
 | [],m,_,hm,_=>⟨hm,Int.le_refl _⟩
 | _::_,m,0,hm,_=>⟨hm,Int.le_refl _⟩
 | v::t,m,k+1,hm,h=>by
  have h0:=h 0 (by omega) (by simp);have hv:(mayV v d m).1=true:=(by simpa[mayQ,D1] using h0);obtain⟨h1,h2,h3⟩:=F9 v d m hm;obtain⟨h4,h5⟩:=Mp d t (mayV v d m).2 k (h3 hv) (fun j hj hl=>by rw[<-Jj];exact h (j+1) (by omega) (by simp;omega));exact⟨h4,by rw[Du];omega⟩
theorem D9(p s t):risesGo p (s::t)=(decide (s.size<=65536)&&(match p with|none=>true|some q=>Op.bytesLess q.toList s.toList)&&risesGo (some s) t):=by cases p<;>rfl
def Hi(ks:List ByteArray)(k:Nat):Option ByteArray:=if k=0 then none else ks[k - 1]?
theorem S8(a cap ks w)(hr:B9 w a ks)(hl:ks.length<=140737488355328)(hsz:∀s∈ks,s.size<=9223372036854775807):
  Calls Tryz.prog 63 #[.slice a ks.length cap] w (fun e w'=>e = .returned (.bool (risesL ks))/\w=w'):=by
 have Hr:=Lq7 hr;have Hsz:=Lq7 hsz;clear hr hsz;go_enter Tryz.func63,Tryz.ntmps63;go_wp2
 go_loop [7] (fun i=>∃k:Nat,i = .int .i64 k/\k<=ks.length/\Hid (risesGo none ks=risesGo (Hi ks k) (ks.drop k))) (fun i=>ks.length-(intOf i).toNat)
 case atStart=>exact⟨0,rfl,nlz _,Lq7 rfl⟩
 case round=>
  obtain⟨k,rfl,hk,aB⟩:=hrel;by_cases hlt:k<ks.length
  ·obtain⟨b,off,rfl,hc⟩:=Hr.out.at hlt;have hs0:=Hsz.out _ (List.getElem_mem hlt);have hd:ks.drop k=ks[k]::ks.drop (k+1):=List.drop_eq_getElem_cons hlt;have aA:Hid (risesGo none ks=(decide (ks[k].size<=65536)&&(match Hi ks k with|none=>true|some q=>Op.bytesLess q.toList ks[k].toList)&&risesGo (some ks[k]) (ks.drop (k+1)))):=Lq7 (by rw[aB.out,hd,D9]);have Hp:Hid (Hi ks (k+1)=some ks[k]):=Lq7 (by unfold Hi;rw[if_neg (by omega),Nat.add_sub_cancel];exact lgE hlt);clear aB hd;by_cases hbig:(65536:Int)<ks[k].size
   ·have Hf:Hid (risesL ks=false):=Lq7 (by unfold risesL;rw[aA.out,decide_eq_false (by omega)];rfl);go_wp2;go_ret;exact⟨Bs Hf.out.symm,rfl⟩
   ·have aC:Hid (decide (ks[k].size<=65536)=true):=Lq7 (decide_eq_true (by omega));cases k with
    | zero=>
     have Hn:Hid (risesGo none ks=risesGo (Hi ks (0+1)) (ks.drop (0+1))):=Lq7 (by rw[aA.out,aC.out,Hp.out];rfl);rw[Nat.add_zero] at hc;go_wp2;go_round
     case rel=>exact⟨0+1,by go_num,by omega,Hn⟩
     case measure=>simp[intOf];omega
    | succ j=>
     obtain⟨b',off',hb',hc'⟩:=Hr.out.at (k:=j) (by omega);cases hb';have Hq:Hid (Hi ks (j+1)=some ks[j]):=Lq7 (by unfold Hi;rw[if_neg (by omega),Nat.add_sub_cancel];exact lgE _);have hjn:((j+1:Nat):Int) - 1=(j:Int):=(by omega);cases hless:Op.bytesLess ks[j].toList ks[j+1].toList
     ·have Hf:Hid (risesL ks=false):=Lq7 (by unfold risesL;rw[aA.out,aC.out,Hq.out];simp only[hless,Bool.and_false,Bool.false_and]);go_wp2;go_ret;exact⟨Bs Hf.out.symm,rfl⟩
     ·have Hn:Hid (risesGo none ks=risesGo (Hi ks (j+1+1)) (ks.drop (j+1+1))):=Lq7 (by rw[aA.out,aC.out,Hq.out,Hp.out];simp only[hless,Bool.true_and]);go_wp2;go_round
      case rel=>exact⟨j+1+1,by go_num,by omega,Hn⟩
      case measure=>simp[intOf];omega
  ·have Hf:Hid (risesL ks=decide (ks.length<=1000)):=Lq7 (by unfold risesL;rw[aB.out,List.drop_eq_nil_of_le (by omega)];rfl);go_wp2;go_ret;refine⟨Bs ?_,rfl⟩;rw[Hf.out,Bool.eq_iff_iff,decide_eq_true_eq,decide_eq_true_eq];omega
theorem infoVal:(Tryz.prog.info? 25).map (fun i=>(i.zero,i.size,i.bytes))=some (some (.agg #[.int .i64 0,.int .i64 0,.string ByteArray.empty,.slice none 0 0,.slice none 0 0]),5,80):=by kernel_rfl
def Gr(q:ByteArray×Vl):List Dat:=.one (.string q.1)::valD q.2
def C8(l:List (ByteArray×Vl)):List (List Dat):=l.map Gr
theorem Ql(q):(Gr q).length=6:=by simp[Gr,valD_len]
theorem J2(l):(C8 l).length=l.length:=by simp[C8]
theorem Lh(l m):C8 (l++m)=C8 l++C8 m:=by simp[C8]
section
variable {F:Nat->Prop} {w:World}
theorem Ay.named{nm:ByteArray}{k n:Int}{s:ByteArray}{l:List Vl}{ks:List ByteArray}{cs:List Value}(h:Ay F w (Gr (nm,.mk k n s l ks)) cs):
  ∃a c a' c',cs=[.string nm,.int .i64 k,.int .i64 n,.string s,.slice a l.length c,.slice a' ks.length c']/\Ag F w a (A5 l)/\Ag F w a' (Bc ks):=by
 obtain⟨c0,cs',rfl,h0,h'⟩:=Ay.cons_inv (d:=.one (.string nm)) (ds:=valD (.mk k n s l ks)) h;obtain rfl:=h0.one_inv;obtain⟨a,c,a',c',rfl,h1,h2⟩:=Ay.val h';exact⟨a,c,a',c',rfl,h1,h2⟩
theorem Ay.named_mk(nm:ByteArray)(k n:Int)(s:ByteArray){l:List Vl}{ks:List ByteArray}{a a':Option Addr}(c c':Nat)(h:Ag F w a (A5 l))(h':Ag F w a' (Bc ks)):
  Ay F w (Gr (nm,.mk k n s l ks)) [.string nm,.int .i64 k,.int .i64 n,.string s,.slice a l.length c,.slice a' ks.length c']:=
 .cons (.one _) (Ay.val_mk k n s c c' h h')
theorem Ag.named{a:Option Addr}{l:List (ByteArray×Vl)}(h:Ag F w a (C8 l)){j:Nat}{nm:ByteArray}{k n:Int}{s:ByteArray}{m:List Vl}{ks:List ByteArray}(hj:l[j]? = some (nm,.mk k n s m ks)):
  ∃b off a1 c1 a2 c2,a=some ⟨b,off,none⟩/\F b/\b<w.heap.size/\w.cell? ⟨b,off+j*6,none⟩=some (.string nm)/\w.cell? ⟨b,off+j*6+1,none⟩=some (.int .i64 k)/\w.cell? ⟨b,off+j*6+2,none⟩=some (.int .i64 n)/\w.cell? ⟨b,off+j*6+3,none⟩=some (.string s) /\
   w.cell? ⟨b,off+j*6+4,none⟩=some (.slice a1 m.length c1)/\w.cell? ⟨b,off+j*6+5,none⟩=some (.slice a2 ks.length c2)/\Ag F w a1 (A5 m)/\Ag F w a2 (Bc ks):=by
 obtain⟨b,off,cs,ha,hF,hb,hd,hc⟩:=h j (Gr (nm,.mk k n s m ks)) (by rw[C8,lgP,hj];rfl);obtain⟨a1,c1,a2,c2,rfl,hr,hr'⟩:=Ay.named hd;rw[Ql] at hc;exact⟨b,off,a1,c1,a2,c2,ha,hF,hb,hc 0 _ rfl,hc 1 _ rfl,hc 2 _ rfl,hc 3 _ rfl,hc 4 _ rfl,hc 5 _ rfl,hr,hr'⟩
end
inductive Nd where
 | mk (kind:Int) (text:ByteArray) (line col:Int) (kids:List Nd)
def Nd.kids:Nd->List Nd | .mk _ _ _ _ l=>l
def Nd.text:Nd->ByteArray | .mk _ t _ _ _=>t
def Nd.kind:Nd->Int | .mk k _ _ _ _=>k
inductive PR(α:Type) where
 | ok (x:α) (ts:List Tok) (dp:Int)
 | err (e l c:Int)
 | out
def PM(α:Type):=List Tok->Int->PR α
namespace PM
def pure{α:Type}(x:α):PM α:=fun ts d=> .ok x ts d
def bind{α β:Type}(m:PM α)(f:α->PM β):PM β:=fun ts d=>match m ts d with | .ok x ts' d'=>f x ts' d' | .err a b c=> .err a b c | .out=> .out
end PM
abbrev bs(l:List UInt8):ByteArray:=⟨l.toArray⟩
section
variable (en:Int×Int)
def Bd(ts:List Tok)(n:Nat):Tok:=(ts[n]?).getD ⟨0,⟨#[]⟩,en.1,en.2⟩
def Be(ts:List Tok)(n:Nat)(s:List UInt8):Bool:=(Bd en ts n).kind==4&&(Bd en ts n).text.data.toList==s
def Bq(ts:List Tok)(s:List UInt8):Bool:=(Bd en ts 0).kind==1&&(Bd en ts 0).text.data.toList==s
def reservedL:List (List UInt8):=[[102,111,114],[105,110],[105,102],[101,108,115,101],[114,117,108,101],[110,111,116]]
def typesL:List (List UInt8):=[[116,101,120,116],[98,111,111,108],[105,110,116],[116,101,120,116,115],[102,105,108,101,115],[108,97,98,101,108,115]]
def Bj(ts:List Tok):Bool:=(Bd en ts 0).kind==1 && !reservedL.contains (Bd en ts 0).text.data.toList
def pFail{α:Type}(e:Int):PM α:=fun ts _=> .err e (Bd en ts 0).line (Bd en ts 0).col
def Bb(is:Bool):PM Tok:=fun ts d=>if is then(match ts with|[]=> .out|t::r=> .ok t r d) else pFail en 3 ts d
def Cs(s:List UInt8):PM Unit:=fun ts d=>PM.bind (Bb en (Be en ts 0 s)) (fun _=>PM.pure ()) ts d
def Cn(is:Bool):PM Tok:=fun ts d=>if is&&decide (60<=d) then pFail en 6 ts d else Bb en is ts (d+1)
def pDown:PM Unit:=fun ts d=> .ok () ts (d - 1)
def Cj(s:List UInt8):PM Unit:=PM.bind (Cs en s) fun _=>pDown
def B3{α:Type}(f:List Tok->PM α):PM α:=fun ts d=>f ts ts d
def Ax(kind:Int)(t:Tok)(text:ByteArray)(kids:List Nd):Nd:=.mk kind text t.line t.col kids
def Cd(to:List UInt8)(one:PM (List Nd)):Nat->List Nd->PM (List Nd)
 | 0,_=>fun _ _=> .out
 | f+1,acc=>B3 fun ts=>
  if Be en ts 0 to then PM.pure acc
  else PM.bind (if acc=[] then PM.pure () else Cs en [44]) fun _=>PM.bind one fun l=>Cd to one f (acc++l)
def Ck(to:List UInt8)(one:PM (List Nd)):PM (List Nd):=fun ts d=>Cd en to one (ts.length+1) [] ts d
structure Lvl where
 expr:PM Nd
 prim:PM Nd
 stmt:PM Nd
variable (L:Lvl)
def pArg:PM Nd:=B3 fun ts=>
 if Bj en ts&&Be en ts 1 [61] then
  PM.bind (Bb en true) fun _=>PM.bind (Cs en [61]) fun _=>PM.bind L.expr fun x=>PM.pure (Ax 15 (Bd en ts 0) (Bd en ts 0).text [x])
 else PM.bind L.expr fun x=>PM.pure (Ax 15 (Bd en ts 0) ⟨#[]⟩ [x])
def pCall:PM Nd:=B3 fun ts=>
 PM.bind (Bb en (Bj en ts)) fun name=>B3 fun ts=>
 PM.bind (Cn en (Be en ts 0 [40])) fun _=>
 PM.bind (Ck en [41] (PM.bind (pArg en L) fun x=>PM.pure [x])) fun kids=>
 PM.bind (Cj en [41]) fun _=>PM.pure (Ax 14 name name.text kids)
def pEntry:PM (List Nd):=B3 fun ts=>
 PM.bind (Bb en ((Bd en ts 0).kind==3)) fun t=>PM.bind (Cs en [58]) fun _=>PM.bind L.expr fun x=>PM.pure [Ax 11 t t.text [],x]
def pPrim:PM Nd:=B3 fun ts=>
 let t:=Bd en ts 0
 if t.kind==3 then PM.bind (Bb en true) fun _=>PM.pure (Ax 11 t t.text [])
 else if t.kind==2 then PM.bind (Bb en true) fun _=>PM.pure (Ax 10 t t.text [])
 else if Bj en ts&&Be en ts 1 [40] then pCall en L
 else if Bj en ts then PM.bind (Bb en true) fun _=>PM.pure (Ax 9 t t.text [])
 else if Bq en ts [110,111,116] then
  PM.bind (Cn en true) fun _=>PM.bind L.prim fun x=>PM.bind pDown fun _=>PM.pure (Ax 16 t (bs [110,111,116]) [x])
 else if Be en ts 0 [91] then
  PM.bind (Cn en true) fun _=>PM.bind (Ck en [93] (PM.bind L.expr fun x=>PM.pure [x])) fun l=>PM.bind (Cj en [93]) fun _=>PM.pure (Ax 12 t ⟨#[]⟩ l)
 else if Be en ts 0 [123] then
  PM.bind (Cn en true) fun _=>PM.bind (Ck en [125] (pEntry en L)) fun l=>PM.bind (Cj en [125]) fun _=>PM.pure (Ax 13 t ⟨#[]⟩ l)
 else PM.bind (Cn en (Be en ts 0 [40])) fun _=>PM.bind L.expr fun x=>PM.bind (Cj en [41]) fun _=>PM.pure x
def pSumGo:Nat->Nd->PM Nd
 | 0,_=>fun _ _=> .out
 | f+1,x=>B3 fun ts=>
  if Be en ts 0 [43] then PM.bind (Bb en true) fun t=>PM.bind (pPrim en L) fun y=>pSumGo f (Ax 16 t (bs [43]) [x,y])
  else PM.pure x
def pSum:PM Nd:=PM.bind (pPrim en L) fun x ts d=>pSumGo en L (ts.length+1) x ts d
def Co:PM Nd:=PM.bind (pSum en L) fun x=>B3 fun ts=>
 if Be en ts 0 [61,61]||Be en ts 0 [33,61]||Bq en ts [105,110] then
  PM.bind (Bb en true) fun t=>PM.bind (pSum en L) fun y=>PM.pure (Ax 16 t t.text [x,y])
 else PM.pure x
def Cl(to:List UInt8):Nat->List Nd->PM (List Nd)
 | 0,_=>fun _ _=> .out
 | f+1,acc=>B3 fun ts=>
  if !ts.isEmpty&&(to.isEmpty || !Be en ts 0 to) then PM.bind L.stmt fun x=>Cl to f (acc++[x])
  else PM.pure acc
def C4(to:List UInt8):PM (List Nd):=fun ts d=>Cl en L to (ts.length+1) [] ts d
def Ct:PM Nd:=B3 fun ts=>
 PM.bind (Cn en (Be en ts 0 [123])) fun t=>PM.bind (C4 en L [125]) fun l=>PM.bind (Cj en [125]) fun _=>PM.pure (Ax 8 t ⟨#[]⟩ l)
def B6:PM Nd:=B3 fun ts=>
 PM.bind (Bb en (Bj en ts)) fun name=>PM.bind (Cs en [58]) fun _=>B3 fun ts=>
 PM.bind (Bb en ((Bd en ts 0).kind==1&&typesL.contains (Bd en ts 0).text.data.toList)) fun t=>B3 fun ts=>
 if Be en ts 0 [61] then PM.bind (Cs en [61]) fun _=>PM.bind (Co en L) fun x=>PM.pure (Ax 7 name name.text [Ax 9 t t.text [],x])
 else PM.pure (Ax 7 name name.text [Ax 9 t t.text []])
def pRule:PM Nd:=PM.bind (Bb en true) fun t=>B3 fun ts=>
 PM.bind (Bb en (Bj en ts)) fun name=>PM.bind (Cs en [40]) fun _=>
 PM.bind (Ck en [41] (PM.bind (B6 en L) fun x=>PM.pure [x])) fun kids=>
 PM.bind (Cs en [41]) fun _=>PM.bind (Ct en L) fun b=>PM.pure (Ax 6 t name.text (kids++[b]))
def pStmt:PM Nd:=B3 fun ts=>
 let t:=Bd en ts 0
 if Bq en ts [102,111,114] then
  PM.bind (Bb en true) fun _=>B3 fun ts=>PM.bind (Bb en (Bj en ts)) fun name=>B3 fun ts=>PM.bind (Bb en (Bq en ts [105,110])) fun _=>
  PM.bind (Co en L) fun x=>PM.bind (Ct en L) fun b=>PM.pure (Ax 4 t name.text [x,b])
 else if Bq en ts [105,102] then
  PM.bind (Bb en true) fun _=>PM.bind (Co en L) fun x=>PM.bind (Ct en L) fun b=>B3 fun ts=>
  if Bq en ts [101,108,115,101] then PM.bind (Bb en true) fun _=>PM.bind (Ct en L) fun c=>PM.pure (Ax 5 t ⟨#[]⟩ [x,b,c])
  else PM.pure (Ax 5 t ⟨#[]⟩ [x,b])
 else if Bq en ts [114,117,108,101] then pRule en L
 else if Bj en ts&&Be en ts 1 [40] then PM.bind (pCall en L) fun c=>PM.bind (Cs en [59]) fun _=>PM.pure (Ax 3 t ⟨#[]⟩ [c])
 else PM.bind (Bb en (Bj en ts)) fun name=>PM.bind (Cs en [61]) fun _=>PM.bind (Co en L) fun x=>PM.bind (Cs en [59]) fun _=>PM.pure (Ax 2 t name.text [x])
def lvl:Nat->Lvl
 | 0=>⟨fun _ _=> .out,fun _ _=> .out,fun _ _=> .out⟩
 | f+1=>⟨Co en (lvl f),pPrim en (lvl f),pStmt en (lvl f)⟩
end
def Jo(l:List UInt8):Int×Int:=l.foldl (fun p c=>if c=10 then(p.1+1,1) else(p.1,p.2+1)) (1,1)
def readL(l:List UInt8):Option (Except (Int×Int×Int) Nd):=
 match F7 l with
 | .error e=>some (.error e)
 | .ok ts=>
  match C4 (Jo l) (lvl (Jo l) (ts.length+2)) [] ts 0 with
  | .ok x _ _=>some (.ok (.mk 1 ⟨#[]⟩ 1 1 x))
  | .err e a b=>some (.error (e,a,b))
  | .out=>none
section
variable {P:Program} {w:World}
theorem I8(base:Nat)(t ty e:TypeId)(i:TypeInfo)(z:Value)(size bytes:Nat)(ht:P.underlying t=some (.slice e))(hi:P.info? e=some i)(hz:i.zero=some z)
  (hsize:i.size=size) (hby:i.bytes=bytes) (hzs:z.cells.size=size) (hsz:0<size)
  (v:Value) (n:Nat) (xs:List Value) (hown:w.ownsRow base e size v n xs)
  (a:Addr) (m c:Nat) (news:List Value) (hl:news.length=m*size) (hnews:∀j u,news[j]? = some u->w.cell? (a.add j)=some u) (h1:∀u∈news,u.oneCell'=true)
  (h63:n+m<=maxLen) (hbytes:(n+m)*bytes<=140737488355328) (hbase:base<=w.heap.size):
  ∃v' w',(Builtin.append_ #[t,t] ty #[v,.slice (some a) m c]).run P w = .ok v' w'/\w'.ownsRow base e size v' (n+m) (xs++news)/\w.grownBy w' v.ownBlock /\
   ∀g,v'.ownBlock=some g->v.ownBlock=some g\/w.heap.size<=g:=by
 obtain⟨v',w',hr,h2,h3,h4⟩:=run_append_own w base t ty e i z size bytes ht hi hz hsize hby hzs hsz v n xs hown a m c news hl hnews h1 h63 hbytes hbase;refine⟨v',w',hr,h2,h3,fun g hg=>?_⟩;rcases hown.2 with⟨hv,hn⟩|⟨g0,cap,cur,hv,hbg,hg0,hnc,hcm,aB,htake⟩
 ·subst hv;have hxs:xs=[]:=List.eq_nil_of_length_eq_zero (by rw[hown.1,hn];simp);obtain⟨v2,w2,aA,h22,-,-⟩:=run_append_own w w.heap.size t ty e i z size bytes ht hi hz hsize hby hzs hsz (.slice none 0 0) n xs ⟨hown.1,.inl ⟨rfl,hn⟩⟩ a m c news hl hnews h1 h63 hbytes (nlr _);rw[hr] at aA;cases aA;rcases h22.2 with⟨hv',-⟩|⟨g',cap',cur',hv',hb',-⟩
  ·rw[hv'] at hg;cases hg
  ·rw[hv'] at hg;cases hg;exact .inr hb'
 ·subst hv;by_cases hroom:n+m<=cap
  ·have aA:=run_append_room (P:=P) w t ty e i ht hi g0 n cap cur hg0 a m c news (by rw[hl,hsize]) hnews h1 hroom (by rw[hl,aB,hsize,<-Nat.add_mul];exact Nat.mul_le_mul_right _ hroom);rw[hr] at aA;cases aA;exact .inl hg
  ·subst hsize;have aC:∀j u,xs[j]? = some u->w.cell? ((⟨g0,0,none⟩:Addr).add j)=some u:=hown.cells (g:=g0) rfl;have aA:=run_append_grow (P:=P) w t ty e i z ht hi hz ⟨g0,0,none⟩ n cap xs hown.1 aC a m c news hl hnews (by omega) (by simp only[maxLen] at h63;omega) (growslice_fits (by omega) (by rw[hby];exact hbytes));rw[hr] at aA;cases aA;cases hg;exact .inr (nlr _)
theorem Ca{ops:Array Oper}{rest:List Oper}{o:Oper}{a:Act}{Q:Exit->Act->World->Prop}(hgd:o.guard=none)(s x:Operand)(t:TypeId)
  (ho:o.op = .call { callee:=.builtin .append,args:=#[s,x],argTypes:=#[t,t]})
  (base:Nat) (e:TypeId) (i:TypeInfo) (z:Value) (size bytes:Nat) (ht:P.underlying t=some (.slice e)) (hi:P.info? e=some i) (hz:i.zero=some z)
  (hsize:i.size=size) (hby:i.bytes=bytes) (hzs:z.cells.size=size) (hsz:0<size)
  (v:Value) (n:Nat) (xs:List Value) (hs:a.eval s=v) (hown:w.ownsRow base e size v n xs)
  (ad:Addr) (m c:Nat) (news:List Value) (hx:a.eval x = .slice (some ad) m c) (hl:news.length=m*size) (hnews:∀j u,news[j]? = some u->w.cell? (ad.add j)=some u) (h1:∀u∈news,u.oneCell'=true)
  (h63:n+m<=maxLen) (hbytes:(n+m)*bytes<=140737488355328) (hbase:base<=w.heap.size)
  (h:∀v' w',w'.ownsRow base e size v' (n+m) (xs++news)->w.grownBy w' v.ownBlock->(∀g,v'.ownBlock=some g->v.ownBlock=some g\/w.heap.size<=g)->wpList P ops Q rest (a.put o.dst v') w'):wpList P ops Q (o::rest) a w:=by
 refine wpList_plain hgd fun K hK=>?_;obtain⟨v',w',hr,h2,h3,h4⟩:=I8 (P:=P) base t o.type e i z size bytes ht hi hz hsize hby hzs hsz v n xs hown ad m c news hl hnews h1 h63 hbytes hbase;unfold Oper.wp execOp;simp only[ho,resolve,invoke,builtin,Sem.run_bind,Sem.run_pure,Result.andThen_ok,List.map_toArray,List.map_cons,List.map_nil,hs,hx,hr];exact hK _ _ (h v' w' h2 h3 h4)
end
def Bp(F:Nat->Prop)(w:World)(base:Nat)(e:TypeId)(size:Nat)(v:Value)(l:List (List Dat)):Prop:=
 ∃css:List (List Value),css.length=l.length/\(∀cs∈css,cs.length=size)/\w.ownsRow base e size v l.length css.flatten /\
  ∀(j:Nat) ds cs,l[j]? = some ds->css[j]? = some cs->Ay (fun b=>F b/\v.ownBlock≠some b) w ds cs
section
variable {F:Nat->Prop} {w w':World} {base:Nat} {e:TypeId} {size:Nat} {v:Value} {l:List (List Dat)}
theorem Bp.nil(F:Nat->Prop)(w:World)(base:Nat)(e:TypeId)(size:Nat):Bp F w base e size (.slice none 0 0) []:=
 ⟨[],rfl,by simp,⟨by simp,.inl ⟨rfl,rfl⟩⟩,by simp⟩
theorem El{css:List (List Value)}{size:Nat}(hsz:∀cs∈css,cs.length=size):∀{j:Nat} {cs:List Value} {i:Nat} {u:Value},css[j]? = some cs->cs[i]? = some u->css.flatten[j*size+i]? = some u:=by
 induction css with
 | nil=>intro j cs i u h;simp at h
 | cons c t ih=>
  intro j cs i u hj hi;have hc:=hsz c (lmS ..);rw[List.flatten_cons];cases j with
  | zero=>
   simp at hj;subst hj;have:=(lgS.1 hi).1;rw[List.getElem?_append_left (by omega)]
   simpa using hi
  | succ j=>
   simp at hj;have:=(lgS.1 hi).1;rw[List.getElem?_append_right (by rw[hc,Nat.add_mul];omega),hc,show(j+1)*size+i-size=j*size+i by rw[Nat.add_mul];omega];exact ih (fun cs h=>hsz cs (lmO _ h)) hj hi
theorem Bp.rowAt(h:Bp F w base e size v l)(hF:∀g,v.ownBlock=some g->F g):∃a cap,v = .slice a l.length cap/\Ag F w a l:=by
 obtain⟨css,hlen,hsz,hown,hd⟩:=h;obtain⟨h1,⟨rfl,h2⟩|⟨g,cap,cur,rfl,h3,h4,h5,h6,h7,h8⟩⟩:=hown
 ·obtain rfl:l=[]:=List.length_eq_zero_iff.1 h2;exact⟨none,0,rfl,Ag.nil _⟩
 ·refine⟨_,cap,rfl,fun j ds hj=>?_⟩;have aF:=(lgS.1 hj).1;have aD:css[j]? = some (css[j]'(by omega)):=lgE (by omega);have aB:=hsz _ (List.getElem_mem (by omega:j<css.length));refine⟨g,0,_,rfl,hF g rfl,(agS.1 h4).1,(hd j _ _ hj aD).wider (fun b h _=>h.1),fun i u hu=>?_⟩;have hi:=(lgS.1 hu).1;have h9:=El hsz aD hu;rw[<-h8] at h9;have hds:ds.length=size:=(by rw[<-(hd j _ _ hj aD).1];exact aB);rw[List.getElem?_take_of_lt (by
   have:(j+1)*size<=l.length*size:=Nat.mul_le_mul_right _ (by omega);rw[Nat.add_mul] at this;omega),Array.getElem?_toList] at h9
  unfold World.cell?;rw[h4,hds,Nat.zero_add];exact h9
theorem Bp.rowAtC(h:Bp F w base e size v l)(hF:∀g,v.ownBlock=some g->F g):∃a cap,v = .slice a l.length cap/\(l.length<=cap/\cap<=maxLen)/\Ag F w a l:=by
 obtain⟨a,cap,hv,hr⟩:=h.rowAt hF;refine⟨a,cap,hv,?_,hr⟩;obtain⟨css,hlen,hsz,⟨h1,⟨h2,h3⟩|⟨g,cap',cur,h2,h3,h4,h5,h6,h7⟩⟩,hd⟩:=h
 ·rw[h2] at hv;injection hv with e1 e2 e3;exact⟨by omega,by rw[<-e3];exact nlz _⟩
 ·rw[h2] at hv;injection hv with e1 e2 e3;subst e3;exact⟨h5,h6⟩
theorem Bp.keep(h:Bp F w base e size v l)(hk:∀b,b<w.heap.size->F b\/v.ownBlock=some b->w'.heap[b]? = w.heap[b]?)(hs:w.heap.size<=w'.heap.size):Bp F w' base e size v l:=by
 obtain⟨css,hlen,hsz,hown,hd⟩:=h;refine⟨css,hlen,hsz,?_,fun j ds cs h1 h2=>(hd j ds cs h1 h2).mono fun b hb hl=>⟨hb,by omega,hk b hl (.inl hb.1)⟩⟩;obtain⟨h1,h2|⟨g,cap,cur,rfl,h3,h4,h5⟩⟩:=hown
 ·exact⟨h1,.inl h2⟩
 ·exact⟨h1,.inr ⟨g,cap,cur,rfl,h3,by rw[hk g (agS.1 h4).1 (.inr rfl)];exact h4,h5⟩⟩
theorem Bp.below(h:Bp F w base e size v l)(hb:Below w.heap.size w w'):Bp F w' base e size v l:=h.keep (fun b hl _=>hb.block b hl) hb.size
theorem Bp.block_lt(h:Bp F w base e size v l){g:Nat}(hg:v.ownBlock=some g):base<=g/\g<w.heap.size:=by
 obtain⟨css,-,-,⟨-,⟨rfl,-⟩|⟨g',cap,cur,rfl,h3,h4,-⟩⟩,-⟩:=h
 ·cases hg
 ·cases hg;exact⟨h3,(agS.1 h4).1⟩
theorem Db{P:Program}{ops:Array Oper}{rest:List Oper}{o:Oper}{a:Act}{Q:Exit->Act->World->Prop}(hgd:o.guard=none)(s x:Operand)(t:TypeId)
  (ho:o.op = .call { callee:=.builtin .append,args:=#[s,x],argTypes:=#[t,t]})
  (base:Nat) (e:TypeId) (i:TypeInfo) (z:Value) (size bytes:Nat) (ht:P.underlying t=some (.slice e)) (hi:P.info? e=some i) (hz:i.zero=some z)
  (hsize:i.size=size) (hby:i.bytes=bytes) (hzs:z.cells.size=size) (hsz:0<size)
  (v:Value) (F:Nat->Prop) (l:List (List Dat)) (hs:a.eval s=v) (hown:Bp F w base e size v l)
  (ad:Addr) (c:Nat) (ds:List Dat) (cs:List Value) (hx:a.eval x = .slice (some ad) 1 c) (hl:cs.length=size) (hnews:∀j u,cs[j]? = some u->w.cell? (ad.add j)=some u) (h1:∀u∈cs,u.oneCell'=true)
  (hd:Ay (fun b=>F b/\v.ownBlock≠some b) w ds cs)
  (h63:l.length+1<=maxLen) (hbytes:(l.length+1)*bytes<=140737488355328) (hbase:base<=w.heap.size)
  (h:∀v' w',Bp F w' base e size v' (l++[ds])->w.grownBy w' v.ownBlock->(∀g,v'.ownBlock=some g->v.ownBlock=some g\/w.heap.size<=g)->wpList P ops Q rest (a.put o.dst v') w'):wpList P ops Q (o::rest) a w:=by
 obtain⟨css,hlen,aB,aE,hel⟩:=hown;refine Ca hgd s x t ho base e i z size bytes ht hi hz hsize hby hzs hsz v l.length css.flatten hs aE ad 1 c cs hx (by rw[hl];omega) hnews h1 h63 hbytes hbase fun v' w' h2 h3 h4=>h v' w' ⟨css++[cs],?_,?_,?_,?_⟩ h3 h4
 ·simp[hlen]
 ·intro cs' hc;rcases List.mem_append.1 hc with hc|hc
  ·exact aB _ hc
  ·rw[List.mem_singleton.1 hc];exact hl
 ·rw[List.flatten_append,lnA]
  simpa using h2
 ·have step:∀b,F b/\v.ownBlock≠some b->b<w.heap.size->(F b/\v'.ownBlock≠some b)/\b<w'.heap.size/\w'.heap[b]? = w.heap[b]?:=fun b hb aG=>
   ⟨⟨hb.1,fun he=>by rcases h4 b he with h|h;exact hb.2 h;omega⟩,nll aG h3.size,h3.block b aG (fun he=>hb.2 he.symm)⟩
  intro j ds' cs' hj hc;by_cases aF:j<l.length
  ·rw[List.getElem?_append_left aF] at hj;rw[List.getElem?_append_left (by omega)] at hc;exact(hel j _ _ hj hc).mono step
  ·have hje:j=l.length:=by
    have:=(lgS.1 hj).1;simp at this;omega
   subst hje;rw[List.getElem?_append_right (nlr _),Nat.sub_self] at hj;rw[List.getElem?_append_right (by omega),hlen,Nat.sub_self] at hc;simp at hj hc;subst hj hc;exact hd.mono step
end
def capK(k:Int):Bool:=k==5||k==6||k==7
mutual
def nodeD:Nd->List Dat
 | .mk k t l c kids=>[.one (.int .i64 k),.one (.string t),.one (.int .i64 l),.one (.int .i64 c),.rowb (capK k) (Az kids)]
def Az:List Nd->List (List Dat)
 | []=>[]
 | n::t=>nodeD n::Az t
end
theorem B5(l):Az l=l.map nodeD:=by
 induction l with
 | nil=>simp[Az]
 | cons n t ih=>simp[Az,ih]
theorem Am(l):(Az l).length=l.length:=by rw[B5,lnM]
theorem nodesD_append(l m):Az (l++m)=Az l++Az m:=by rw[B5,B5,B5,List.map_append]
def A0(F:Nat->Prop)(w:World)(n:Nd)(v:Value):Prop:=∃cs:List Value,v = .agg cs.toArray/\Ay F w (nodeD n) cs
theorem A0.openC{F w k l c t kids v}(h:A0 F w (.mk k t l c kids) v):
  ∃a cap,v = .agg #[.int .i64 k,.string t,.int .i64 l,.int .i64 c,.slice a kids.length cap]/\(capK k=true->kids.length<=cap)/\Ag F w a (Az kids):=by
 obtain⟨cs,rfl,h⟩:=h;rw[nodeD] at h;obtain⟨c0,cs,rfl,h0,h⟩:=h.cons_inv;obtain⟨c1,cs,rfl,h1,h⟩:=h.cons_inv;obtain⟨c2,cs,rfl,h2,h⟩:=h.cons_inv;obtain⟨c3,cs,rfl,h3,h⟩:=h.cons_inv;obtain⟨c4,cs,rfl,h4,h⟩:=h.cons_inv;obtain rfl:=h.nil_inv;obtain rfl:=h0.one_inv;obtain rfl:=h1.one_inv;obtain rfl:=h2.one_inv;obtain rfl:=h3.one_inv;obtain⟨a,cap,rfl,hc,hr⟩:=h4.rowb_inv;rw[Am] at hc;exact⟨a,cap,by rw[Am],hc,hr⟩
theorem A0.open{F w k l c t kids v}(h:A0 F w (.mk k t l c kids) v):
  ∃a cap,v = .agg #[.int .i64 k,.string t,.int .i64 l,.int .i64 c,.slice a kids.length cap]/\Ag F w a (Az kids):=by
 obtain⟨a,cap,h1,-,h2⟩:=h.openC;exact⟨a,cap,h1,h2⟩
theorem A0.cap{F w k l c t kids a n cap}(h:A0 F w (.mk k t l c kids) (.agg #[.int .i64 k,.string t,.int .i64 l,.int .i64 c,.slice a n cap])):capK k=true->kids.length<=cap:=by
 obtain⟨a',cap',he,hc,-⟩:=h.openC;have h9:=congrArg (fun v=>match v with|Value.agg x=>x.toList|_=>[]) he;simp only[List.cons.injEq,Value.slice.injEq,and_true,true_and] at h9;rw[h9.2.2];exact hc
theorem A0.mk{F:Nat->Prop}{w:World}(k:Int)(t:ByteArray)(l c:Int){kids:List Nd}{a:Option Addr}(cap:Nat)(h:Ag F w a (Az kids))(hk:capK k=true->kids.length<=cap:=by first|exact trivial|(refine Hid.out ?_;assumption)|assumption|(intro _;exact Nat.zero_le _)|(intro h6;exact absurd h6 (by decide))):
  A0 F w (.mk k t l c kids) (.agg #[.int .i64 k,.string t,.int .i64 l,.int .i64 c,.slice a kids.length cap]):=by
 refine⟨[.int .i64 k,.string t,.int .i64 l,.int .i64 c,.slice a kids.length cap],rfl,?_⟩;rw[nodeD];exact .cons (.one _) (.cons (.one _) (.cons (.one _) (.cons (.one _) (.cons (by rw[<-Am kids];exact C9.rowb_mk cap (fun h6=>by rw[Am];exact hk h6) h) .nil))))
theorem infoNode:(Tryz.prog.info? 43).map (fun i=>(i.zero,i.size,i.bytes))=some (some (.agg #[.int .i64 0,.string ByteArray.empty,.int .i64 0,.int .i64 0,.slice none 0 0]),5,64):=by kernel_rfl
def Inc{α:Type}(k:Int)(m:PM α):Prop:=∀ts d x ts' d',m ts d = .ok x ts' d'->d'=d+k
section
variable {α β:Type} {en:Int×Int}
theorem Inc.pure(x:α):Inc 0 (PM.pure x):=fun ts d y ts' d' h=>by cases h;omega
theorem Inc.bind{j k n:Int}{m:PM α}{f:α->PM β}(h1:Inc j m)(h2:∀x,Inc k (f x))(hn:j+k=n):Inc n (PM.bind m f):=by
 intro ts d y ts' d' h;unfold PM.bind at h;cases hm:m ts d with
 | ok x t1 d1=>
  rw[hm] at h;have e1:=h1 _ _ _ _ _ hm;have e2:=h2 x _ _ _ _ _ h;omega
 | err a b c=>rw[hm] at h;cases h
 | out=>rw[hm] at h;cases h
theorem Inc.look{k:Int}{f:List Tok->PM α}(h:∀ts,Inc k (f ts)):Inc k (B3 f):=fun ts d x ts' d' e=>h ts ts d x ts' d' e
theorem Inc.ite{k:Int}{c:Prop}[Decidable c]{m m':PM α}(h1:Inc k m)(h2:Inc k m'):Inc k (if c then m else m'):=by split;exact h1;exact h2
theorem Inc.out{k:Int}:Inc k (fun _ _=>(.out:PR α)):=fun ts d x ts' d' h=>by cases h
theorem Inc.take(b:Bool):Inc 0 (Bb en b):=by
 intro ts d x ts' d' h;unfold Bb at h;split at h
 ·split at h
  ·cases h
  ·cases h;omega
 ·cases h
theorem Inc.open(b:Bool):Inc 1 (Cn en b):=by
 intro ts d x ts' d' h;unfold Cn at h;split at h
 ·cases h
 ·have:=Inc.take _ _ _ _ _ _ h;omega
theorem Inc.eat(s:List UInt8):Inc 0 (Cs en s):=fun ts d x ts' d' h=>Inc.bind (Inc.take _) (fun _=>Inc.pure _) rfl ts d x ts' d' h
theorem Inc.down:Inc (-1) pDown:=fun ts d x ts' d' h=>by cases h;omega
theorem Inc.close(s:List UInt8):Inc (-1) (Cj en s):=Inc.bind (Inc.eat s) (fun _=>Inc.down) rfl
theorem Inc.listGo{to:List UInt8}{one:PM (List Nd)}(h:Inc 0 one):∀f acc,Inc 0 (Cd en to one f acc)
 | 0,_=>Inc.out
 | f+1,_acc=>Inc.look fun _=>Inc.ite (Inc.pure _) (Inc.bind (Inc.ite (Inc.pure _) (Inc.eat _)) (fun _=>Inc.bind h (fun _=>Inc.listGo h f _) rfl) rfl)
theorem Inc.list{to:List UInt8}{one:PM (List Nd)}(h:Inc 0 one):Inc 0 (Ck en to one):=fun ts d x ts' d' e=>Inc.listGo h _ _ ts d x ts' d' e
structure Gz(L:Lvl):Prop where
 expr:Inc 0 L.expr
 prim:Inc 0 L.prim
 stmt:Inc 0 L.stmt
variable {L:Lvl} (hL:Gz L)
include hL
theorem Inc.arg:Inc 0 (pArg en L):=Inc.look fun _=>Inc.ite (Inc.bind (Inc.take _) (fun _=>Inc.bind (Inc.eat _) (fun _=>Inc.bind hL.expr (fun _=>Inc.pure _) rfl) rfl) rfl) (Inc.bind hL.expr (fun _=>Inc.pure _) rfl)
theorem Inc.call:Inc 0 (pCall en L):=Inc.look fun _=>Inc.bind (Inc.take _) (fun _=>Inc.look fun _=>Inc.bind (Inc.open _) (fun _=>Inc.bind (Inc.list (Inc.bind (Inc.arg hL) (fun _=>Inc.pure _) rfl)) (fun _=>Inc.bind (Inc.close _) (fun _=>Inc.pure _) rfl) rfl) rfl) rfl
theorem Inc.entry:Inc 0 (pEntry en L):=Inc.look fun _=>Inc.bind (Inc.take _) (fun _=>Inc.bind (Inc.eat _) (fun _=>Inc.bind hL.expr (fun _=>Inc.pure _) rfl) rfl) rfl
theorem Inc.prim:Inc 0 (pPrim en L):=Inc.look fun _=>
 Inc.ite (Inc.bind (Inc.take _) (fun _=>Inc.pure _) rfl)<|Inc.ite (Inc.bind (Inc.take _) (fun _=>Inc.pure _) rfl)<|Inc.ite (Inc.call hL)<|Inc.ite (Inc.bind (Inc.take _) (fun _=>Inc.pure _) rfl) <|
 Inc.ite (Inc.bind (Inc.open _) (fun _=>Inc.bind hL.prim (fun _=>Inc.bind Inc.down (fun _=>Inc.pure _) rfl) rfl) rfl) <|
 Inc.ite (Inc.bind (Inc.open _) (fun _=>Inc.bind (Inc.list (Inc.bind hL.expr (fun _=>Inc.pure _) rfl)) (fun _=>Inc.bind (Inc.close _) (fun _=>Inc.pure _) rfl) rfl) rfl) <|
 Inc.ite (Inc.bind (Inc.open _) (fun _=>Inc.bind (Inc.list (Inc.entry hL)) (fun _=>Inc.bind (Inc.close _) (fun _=>Inc.pure _) rfl) rfl) rfl) <|
 Inc.bind (Inc.open _) (fun _=>Inc.bind hL.expr (fun _=>Inc.bind (Inc.close _) (fun _=>Inc.pure _) rfl) rfl) rfl
theorem Inc.sumGo:∀f x,Inc 0 (pSumGo en L f x)
 | 0,_=>Inc.out
 | f+1,_=>Inc.look fun _=>Inc.ite (Inc.bind (Inc.take _) (fun _=>Inc.bind (Inc.prim hL) (fun _=>Inc.sumGo f _) rfl) rfl) (Inc.pure _)
theorem Inc.sum:Inc 0 (pSum en L):=Inc.bind (Inc.prim hL) (fun _x ts d y ts' d' e=>Inc.sumGo hL _ _ ts d y ts' d' e) rfl
theorem Inc.expr:Inc 0 (Co en L):=Inc.bind (Inc.sum hL) (fun _=>Inc.look fun _=>Inc.ite (Inc.bind (Inc.take _) (fun _=>Inc.bind (Inc.sum hL) (fun _=>Inc.pure _) rfl) rfl) (Inc.pure _)) rfl
theorem Inc.stmtsGo(to:List UInt8):∀f acc,Inc 0 (Cl en L to f acc)
 | 0,_=>Inc.out
 | f+1,_=>Inc.look fun _=>Inc.ite (Inc.bind hL.stmt (fun _=>Inc.stmtsGo to f _) rfl) (Inc.pure _)
theorem Inc.stmts(to:List UInt8):Inc 0 (C4 en L to):=fun ts d x ts' d' e=>Inc.stmtsGo hL to _ _ ts d x ts' d' e
theorem Inc.block:Inc 0 (Ct en L):=Inc.look fun _=>Inc.bind (Inc.open _) (fun _=>Inc.bind (Inc.stmts hL _) (fun _=>Inc.bind (Inc.close _) (fun _=>Inc.pure _) rfl) rfl) rfl
theorem Inc.param:Inc 0 (B6 en L):=Inc.look fun _=>Inc.bind (Inc.take _) (fun _=>Inc.bind (Inc.eat _) (fun _=>Inc.look fun _=>Inc.bind (Inc.take _) (fun _=>Inc.look fun _=>
 Inc.ite (Inc.bind (Inc.eat _) (fun _=>Inc.bind (Inc.expr hL) (fun _=>Inc.pure _) rfl) rfl) (Inc.pure _)) rfl) rfl) rfl
theorem Inc.rule:Inc 0 (pRule en L):=Inc.bind (Inc.take _) (fun _=>Inc.look fun _=>Inc.bind (Inc.take _) (fun _=>Inc.bind (Inc.eat _) (fun _=>Inc.bind (Inc.list (Inc.bind (Inc.param hL) (fun _=>Inc.pure _) rfl)) (fun _=>
 Inc.bind (Inc.eat _) (fun _=>Inc.bind (Inc.block hL) (fun _=>Inc.pure _) rfl) rfl) rfl) rfl) rfl) rfl
theorem Inc.stmt:Inc 0 (pStmt en L):=Inc.look fun _=>
 Inc.ite (Inc.bind (Inc.take _) (fun _=>Inc.look fun _=>Inc.bind (Inc.take _) (fun _=>Inc.look fun _=>Inc.bind (Inc.take _) (fun _=>Inc.bind (Inc.expr hL) (fun _=>Inc.bind (Inc.block hL) (fun _=>Inc.pure _) rfl) rfl) rfl) rfl) rfl) <|
 Inc.ite (Inc.bind (Inc.take _) (fun _=>Inc.bind (Inc.expr hL) (fun _=>Inc.bind (Inc.block hL) (fun _=>Inc.look fun _=>Inc.ite (Inc.bind (Inc.take _) (fun _=>Inc.bind (Inc.block hL) (fun _=>Inc.pure _) rfl) rfl) (Inc.pure _)) rfl) rfl) rfl) <|
 Inc.ite (Inc.rule hL) <|
 Inc.ite (Inc.bind (Inc.call hL) (fun _=>Inc.bind (Inc.eat _) (fun _=>Inc.pure _) rfl) rfl) <|
 Inc.bind (Inc.take _) (fun _=>Inc.bind (Inc.eat _) (fun _=>Inc.bind (Inc.expr hL) (fun _=>Inc.bind (Inc.eat _) (fun _=>Inc.pure _) rfl) rfl) rfl) rfl
end
theorem Gz.lvl(en):∀f,Gz (lvl en f)
 | 0=>⟨Inc.out,Inc.out,Inc.out⟩
 | f+1=>⟨Inc.expr (Gz.lvl en f),Inc.prim (Gz.lvl en f),Inc.stmt (Gz.lvl en f)⟩
def Nw(ds:List Dat):Prop:=∀v,Dat.one v∈ds->v.oneCell'=true
section
variable {F G:Nat->Prop} {w:World}
theorem Ay.oneCells{ds:List Dat}{cs:List Value}(h:Ay F w ds cs)(hp:Nw ds):∀u∈cs,u.oneCell'=true:=by
 intro u hu;obtain⟨i,hi⟩:=List.getElem?_of_mem hu;have aM:=(lgS.1 hi).1;have hd:ds[i]? = some (ds[i]'(by rw[<-h.1];exact aM)):=lgE _;have:=h.2 i u _ hi hd;cases hdd:ds[i]'(by rw[<-h.1];exact aM) with
 | one v=>
  rw[hdd] at this hd;obtain rfl:=this.one_inv;exact hp _ (lgM hd)
 | rowb bo l=>
  rw[hdd] at this;obtain⟨a,cap,rfl,-⟩:=this.rowb_inv;rfl
theorem Ag.cells{b off size:Nat}{l:List (List Dat)}(h:Ag F w (some ⟨b,off,none⟩) l)(hsz:∀ds∈l,ds.length=size):
  ∃css:List (List Value),css.length=l.length/\(∀cs∈css,cs.length=size)/\(∀(j:Nat) ds cs,l[j]? = some ds->css[j]? = some cs->Ay F w ds cs) /\
   ∀(j:Nat) cs,css[j]? = some cs->∀(i:Nat) u,cs[i]? = some u->w.cell? ⟨b,off+j*size+i,none⟩=some u:=by
 have hex:∀j:Fin l.length,∃cs:List Value,Ay F w l[j] cs/\∀(i:Nat) u,cs[i]? = some u->w.cell? ⟨b,off+j*size+i,none⟩=some u:=by
  intro j;obtain⟨b',off',cs,ha,hF,hb,hd,hc⟩:=h j _ (lgE j.2);cases ha;refine⟨cs,hd,fun i u hu=>?_⟩;have:=hc i u hu;rw[hsz _ (List.getElem_mem j.2)] at this;exact this
 obtain⟨f,hf⟩:=Classical.axiomOfChoice hex;have aG:∀(j:Nat) cs,(List.ofFn f)[j]? = some cs->∃hj:j<l.length,cs=f ⟨j,hj⟩:=by
  intro j cs hj;obtain⟨h1,h2⟩:=lgS.1 hj;rw[List.length_ofFn] at h1;exact⟨h1,by rw[<-h2,List.getElem_ofFn]⟩
 refine⟨List.ofFn f,by simp,?_,?_,?_⟩
 ·intro cs aJ;obtain⟨j,hj⟩:=List.getElem?_of_mem aJ;obtain⟨aC,rfl⟩:=aG j cs hj;rw[(hf ⟨j,aC⟩).1.1];exact hsz _ (List.getElem_mem aC)
 ·intro j ds cs hj hc;obtain⟨aC,rfl⟩:=aG j cs hc;rw[lgE aC] at hj;cases hj;exact(hf ⟨j,aC⟩).1
 ·intro j cs hc i u hu;obtain⟨aC,rfl⟩:=aG j cs hc;exact(hf ⟨j,aC⟩).2 i u hu
theorem O9{css:List (List Value)}{size:Nat}(h0:0<size)(hsz:∀cs∈css,cs.length=size){k:Nat}{u:Value}(h:css.flatten[k]? = some u):
  ∃cs,css[k / size]? = some cs/\cs[k % size]? = some u:=by
 induction css generalizing k with
 | nil=>simp at h
 | cons c t ih=>
  have hc:=hsz c (lmS ..);rw[List.flatten_cons] at h;by_cases hk:k<size
  ·rw[List.getElem?_append_left (by omega)] at h;refine⟨c,by rw[Nat.div_eq_of_lt hk];rfl,by rw[Nat.mod_eq_of_lt hk];exact h⟩
  ·rw[List.getElem?_append_right (by omega),hc] at h;obtain⟨cs,h1,h2⟩:=ih (fun cs h=>hsz cs (lmO _ h)) h;refine⟨cs,?_,?_⟩
   ·rw[Nat.div_eq_sub_div h0 (by omega),List.getElem?_cons_succ];exact h1
   ·rw[Nat.mod_eq_sub_mod (by omega)];exact h2
theorem Bv{P:Program}{ops:Array Oper}{rest:List Oper}{o:Oper}{a:Act}{Q:Exit->Act->World->Prop}(hgd:o.guard=none)(s x:Operand)(t:TypeId)
  (ho:o.op = .call { callee:=.builtin .append,args:=#[s,x],argTypes:=#[t,t]})
  (base:Nat) (e:TypeId) (i:TypeInfo) (z:Value) (size bytes:Nat) (ht:P.underlying t=some (.slice e)) (hi:P.info? e=some i) (hz:i.zero=some z)
  (hsize:i.size=size) (hby:i.bytes=bytes) (hzs:z.cells.size=size) (hsz:0<size)
  (v:Value) (F:Nat->Prop) (l:List (List Dat)) (hs:a.eval s=v) (hown:Bp F w base e size v l)
  (b off c:Nat) (l2:List (List Dat)) (hx:a.eval x = .slice (some ⟨b,off,none⟩) l2.length c) (hrow:Ag (fun b=>F b/\v.ownBlock≠some b) w (some ⟨b,off,none⟩) l2) (hlen:∀ds∈l2,ds.length=size) (hpl:∀ds∈l2,Nw ds)
  (h63:l.length+l2.length<=maxLen) (hbytes:(l.length+l2.length)*bytes<=140737488355328) (hbase:base<=w.heap.size)
  (h:∀v' w',Bp F w' base e size v' (l++l2)->w.grownBy w' v.ownBlock->(∀g,v'.ownBlock=some g->v.ownBlock=some g\/w.heap.size<=g)->wpList P ops Q rest (a.put o.dst v') w'):wpList P ops Q (o::rest) a w:=by
 obtain⟨css,aF,aJ,hrw,hel⟩:=hown;obtain⟨aD,aA,aE,aH,aB⟩:=hrow.cells hlen;have aI:aD.flatten.length=l2.length*size:=by
  rw[<-aA];clear aA aH aB
  induction aD with
  | nil=>simp
  | cons cs t ih=>
   rw[List.flatten_cons,lnA,aE cs (lmS ..),ih (fun c h=>aE c (lmO _ h)),lnC,Nat.add_mul];omega
 refine Ca hgd s x t ho base e i z size bytes ht hi hz hsize hby hzs hsz v l.length css.flatten hs hrw ⟨b,off,none⟩ l2.length c aD.flatten hx aI ?_ ?_ h63 hbytes hbase fun v' w' h2 h3 h4=>h v' w' ⟨css++aD,?_,?_,?_,?_⟩ h3 h4
 ·intro k u hu;obtain⟨cs,h5,h6⟩:=O9 hsz aE hu;have h7:=aB _ cs h5 _ u h6;have h8:((⟨b,off,none⟩:Addr).add k)=⟨b,off+k,none⟩:=by unfold Addr.add;split<;>simp_all
  rw[h8,show off+k=off+k / size*size+k % size by rw[Nat.add_assoc,Nat.mul_comm (k / size),Nat.div_add_mod]];exact h7
 ·intro u hu;obtain⟨cs,hcs',hu'⟩:=List.mem_flatten.1 hu;obtain⟨j,hj⟩:=List.getElem?_of_mem hcs';have aC:=(lgS.1 hj).1;have aN:l2[j]? = some (l2[j]'(by omega)):=lgE _;exact(aH j _ _ aN hj).oneCells (hpl _ (lgM aN)) u hu'
 ·simp[aF,aA]
 ·intro cs' hc;rcases List.mem_append.1 hc with hc|hc
  ·exact aJ _ hc
  ·exact aE _ hc
 ·rw[List.flatten_append,lnA];exact h2
 ·have step:∀b,F b/\v.ownBlock≠some b->b<w.heap.size->(F b/\v'.ownBlock≠some b)/\b<w'.heap.size/\w'.heap[b]? = w.heap[b]?:=fun b hb aQ=>
   ⟨⟨hb.1,fun he=>by rcases h4 b he with h|h;exact hb.2 h;omega⟩,nll aQ h3.size,h3.block b aQ (fun he=>hb.2 he.symm)⟩
  intro j ds' cs' hj hc;by_cases aC:j<l.length
  ·rw[List.getElem?_append_left aC] at hj;rw[List.getElem?_append_left (by omega)] at hc;exact(hel j _ _ hj hc).mono step
  ·rw[List.getElem?_append_right (by omega)] at hj;rw[List.getElem?_append_right (by omega),aF] at hc;exact(aH _ _ _ hj hc).mono step
end
theorem Di(n):(nodeD n).length=5:=by obtain⟨k,t,l,c,kids⟩:=n;rfl
theorem Dk(n):Nw (nodeD n):=by
 obtain⟨k,t,l,c,kids⟩:=n;intro v hv;rw[nodeD] at hv;simp at hv;rcases hv with rfl|rfl|rfl|rfl<;>rfl
theorem B1{p:List Dat->Prop}(h:∀n,p (nodeD n))(l):∀ds∈Az l,p ds:=by
 intro ds aR;rw[B5] at aR;obtain⟨n,-,rfl⟩:=List.mem_map.1 aR;exact h n
theorem G0(w o1 o2):((w.alloc o1).alloc o2).heap[w.heap.size]? = some o1/\((w.alloc o1).alloc o2).heap[w.heap.size+1]? = some o2/\Below w.heap.size w ((w.alloc o1).alloc o2)/\((w.alloc o1).alloc o2).heap.size=w.heap.size+2:=by
 refine⟨?_,?_,((Below.refl _ w).alloc (nlr _) _).alloc (by simp) _,by simp⟩
 ·rw[Below.heap_alloc _ _ _ (by simp)];exact heap_alloc_new w _
 ·have:=heap_alloc_new (w.alloc o1) o2
  simpa using this
theorem Dm(w o1 o2 o3):(((w.alloc o1).alloc o2).alloc o3).heap[w.heap.size]? = some o1/\(((w.alloc o1).alloc o2).alloc o3).heap[w.heap.size+1]? = some o2/\(((w.alloc o1).alloc o2).alloc o3).heap[w.heap.size+1+1]? = some o3/\Below w.heap.size w (((w.alloc o1).alloc o2).alloc o3)/\(((w.alloc o1).alloc o2).alloc o3).heap.size=w.heap.size+3:=by
 obtain⟨h1,h2,h3,h4⟩:=G0 w o1 o2;refine⟨?_,?_,?_,h3.alloc (by rw[h4];omega) _,by simp⟩
 ·rw[Below.heap_alloc _ _ _ (by rw[h4];omega)];exact h1
 ·rw[Below.heap_alloc _ _ _ (by rw[h4];omega)];exact h2
 ·have:=heap_alloc_new ((w.alloc o1).alloc o2) o3
  simpa using this
theorem alloc4(w o1 o2 o3 o4):((((w.alloc o1).alloc o2).alloc o3).alloc o4).heap[w.heap.size]? = some o1/\((((w.alloc o1).alloc o2).alloc o3).alloc o4).heap[w.heap.size+1]? = some o2/\((((w.alloc o1).alloc o2).alloc o3).alloc o4).heap[w.heap.size+1+1]? = some o3/\((((w.alloc o1).alloc o2).alloc o3).alloc o4).heap[w.heap.size+1+1+1]? = some o4 /\
  Below w.heap.size w ((((w.alloc o1).alloc o2).alloc o3).alloc o4)/\((((w.alloc o1).alloc o2).alloc o3).alloc o4).heap.size=w.heap.size+4:=by
 obtain⟨h1,h2,h3,h4,h5⟩:=Dm w o1 o2 o3;refine⟨?_,?_,?_,?_,h4.alloc (by rw[h5];omega) _,by simp⟩
 ·rw[Below.heap_alloc _ _ _ (by rw[h5];omega)];exact h1
 ·rw[Below.heap_alloc _ _ _ (by rw[h5];omega)];exact h2
 ·rw[Below.heap_alloc _ _ _ (by rw[h5];omega)];exact h3
 ·have:=heap_alloc_new (((w.alloc o1).alloc o2).alloc o3) o4
  simpa using this
theorem stays{w w':World}{b:Nat}{o:Obj}(h:w.heap[b]? = some o)(hb:Below w.heap.size w w'):w'.heap[b]? = some o:=(hb.block _ (agS.1 h).1).trans h
theorem here{w:World}{b:Nat}{o:Obj}(h:w.heap[b]? = some o):b<w.heap.size:=(agS.1 h).1
def Mu(s:ByteArray):Prop:=s.data.toList≠[]/\(∀c∈s.data.toList,A9 c=true)/\¬(1<s.data.toList.length/\s.data.toList.head? = some 48)/\natOf s.data.toList<=9223372036854775807
def tokOk(B:Nat)(t:Tok):Prop:=t.text.size<=B/\(t.kind=2->Mu t.text)
mutual
def If(B K:Nat):Nd->Prop
 | .mk k t _ _ l=>t.size<=B/\l.length<=K/\(k=10->Mu t)/\(k=6->∃ps b,l=ps++[b]/\∀x∈ps,1<=x.kids.length/\x.kids.length<=2)/\Ed B K l
def Ed(B K:Nat):List Nd->Prop
 | []=>True
 | x::t=>If B K x/\Ed B K t
end
section
variable {B K:Nat}
theorem ndOks_iff:∀{l:List Nd},Ed B K l↔∀x∈l,If B K x
 | []=>by simp[Ed]
 | x::t=>by rw[Ed,ndOks_iff,List.forall_mem_cons]
theorem Et{l m:List Nd}(h:Ed B K l)(h':Ed B K m):Ed B K (l++m):=by
 rw[ndOks_iff] at *;intro x hx;rcases List.mem_append.1 hx with hx|hx
 ·exact h x hx
 ·exact h' x hx
theorem Ee{x:Nd}(h:If B K x):Ed B K [x]:=⟨h,trivial⟩
theorem Gc{x y:Nd}(h:If B K x)(h':If B K y):Ed B K [x,y]:=⟨h,h',trivial⟩
theorem Bm{k:Int}{t:Tok}{s:ByteArray}{l:List Nd}(hs:s.size<=B)(hl:l.length<=K)(h10:k≠10)(h6:k≠6)(hk:Ed B K l):If B K (Ax k t s l):=by
 unfold Ax;rw[If];exact⟨hs,hl,fun e=>absurd e h10,fun e=>absurd e h6,hk⟩
variable {en:Int×Int}
def Pd(B:Nat)(ts:List Tok):Prop:=∀t∈ts,tokOk B t
theorem Ge{ts:List Tok}(h:Pd B ts)(i:Nat):tokOk B (Bd en ts i):=by
 unfold Bd;cases hi:ts[i]? with
 | none=>exact⟨nlz _,fun e=>by cases e⟩
 | some t=>exact h t (lgM hi)
theorem Fp{ts:List Tok}{k:Int}(hk:k≠0)(h:(Bd en ts 0).kind=k):ts≠[]:=by
 rintro rfl;exact hk h.symm
theorem D8{ts:List Tok}{s:List UInt8}(h:Be en ts 0 s=true):ts≠[]:=by
 unfold Be at h;rw[bAt,beq_iff_eq] at h;exact Fp (by decide) h.1
theorem Ex{ts:List Tok}{s:List UInt8}(h:Bq en ts s=true):ts≠[]:=by
 unfold Bq at h;rw[bAt,beq_iff_eq] at h;exact Fp (by decide) h.1
theorem Ey{ts:List Tok}(h:Bj en ts=true):ts≠[]:=by
 unfold Bj at h;rw[bAt,beq_iff_eq] at h;exact Fp (by decide) h.1
variable {α β:Type}
def Aw(B n k:Nat)(P:Nat->α->Prop)(m:PM α)(ts:List Tok):Prop:=
 ∀d,ts.length<=n->Pd B ts->match m ts d with
  | .ok x ts' _=>ts'.length+k<=ts.length/\Pd B ts'/\P (ts.length-ts'.length) x
  | .err _ _ _=>True
  | .out=>False
def Gd(B n k:Nat)(P:Nat->α->Prop)(m:PM α):Prop:=∀ts,Aw B n k P m ts
variable {n j k:Nat} {P:Nat->α->Prop} {Q:Nat->β->Prop} {m:PM α} {ts:List Tok}
theorem Aw.pure{x:α}(h:P 0 x):Aw B n 0 P (PM.pure x) ts:=fun d _ ht=>⟨nlr _,ht,by rw[Nat.sub_self];exact h⟩
theorem Aw.bind{f:α->PM β}{r:Nat}(h1:Aw B n j P m ts)(h2:∀x c,j<=c->c<=n->P c x->Gd B (n-j) k (fun c' y=>Q (c+c') y) (f x))(hr:r<=j+k):Aw B n r Q (PM.bind m f) ts:=by
 intro d hn ht;have g1:=h1 d hn ht;unfold PM.bind;cases hm:m ts d with
 | err a b c=>exact trivial
 | out=>rw[hm] at g1;exact g1.elim
 | ok x t1 d1=>
  rw[hm] at g1;obtain⟨e1,e2,e3⟩:=g1;have g2:=h2 x _ (by omega) (by omega) e3 t1 d1 (by omega) e2;show match f x t1 d1 with | .ok x ts' _=>_ | .err _ _ _=>_ | .out=>_;cases hf:f x t1 d1 with
  | err a b c=>exact trivial
  | out=>rw[hf] at g2;exact g2.elim
  | ok y t2 d2=>
   rw[hf] at g2;obtain⟨f1,f2,f3⟩:=g2;refine⟨by omega,f2,?_⟩;rw[show ts.length-t2.length=(ts.length-t1.length)+(t1.length-t2.length) by omega];exact f3
theorem Aw.look{f:List Tok->PM α}(h:ts.length<=n->Pd B ts->Aw B n k P (f ts) ts):Aw B n k P (B3 f) ts:=fun d hn ht=>h hn ht d hn ht
theorem Aw.ite{c:Prop}[Decidable c]{m m':PM α}(h1:c->Aw B n k P m ts)(h2:¬c->Aw B n k P m' ts):Aw B n k P (if c then m else m') ts:=by
 by_cases h:c
 ·rw[if_pos h];exact h1 h
 ·rw[if_neg h];exact h2 h
theorem Aw.mono{P':Nat->α->Prop}(h:Aw B n k P m ts)(hp:∀c x,c<=n->k<=c->P c x->P' c x){r:Nat}(hr:r<=k):Aw B n r P' m ts:=by
 intro d hn ht;have g:=h d hn ht;cases hm:m ts d with
 | err a b c=>exact trivial
 | out=>rw[hm] at g;exact g.elim
 | ok x t1 d1=>
  rw[hm] at g;exact⟨by omega,g.2.1,hp _ _ (by omega) (by omega) g.2.2⟩
theorem Aw.less{n':Nat}(h:Aw B n k P m ts)(hn:n'<=n):Aw B n' k P m ts:=fun d hl ht=>h d (nlt hl hn) ht
theorem Aw.take{b:Bool}(hb:b=true->ts≠[]):Aw B n 1 (fun c t=>c=1/\tokOk B t) (Bb en b) ts:=by
 intro d hn ht;unfold Bb;cases b with
 | false=>exact trivial
 | true=>
  cases ts with
  | nil=>exact absurd rfl (hb rfl)
  | cons t r=>exact⟨nlr _,fun x hx=>ht x (lmO _ hx),by show r.length+1-r.length=1;omega,ht t (lmS ..)⟩
theorem Aw.open{b:Bool}(hb:b=true->ts≠[]):Aw B n 1 (fun c t=>c=1/\tokOk B t) (Cn en b) ts:=by
 intro d hn ht;unfold Cn;by_cases h:(b&&decide (60<=d))=true
 ·rw[if_pos h];exact trivial
 ·rw[if_neg h];exact Aw.take hb (d+1) hn ht
theorem Gd.eat(s:List UInt8):Gd B n 1 (fun c _=>c=1) (Cs en s):=fun ts=>by
 intro d hn ht;exact Aw.bind (k:=0) (Q:=fun c _=>c=1) (Aw.take D8) (fun x c _ _ h ts=>Aw.pure h.1) (nlr _) d hn ht
theorem Gd.down:Gd B n 0 (fun c _=>c=0) pDown:=fun _ts _d _ ht=>⟨nlr _,ht,Nat.sub_self _⟩
theorem Gd.close(s:List UInt8):Gd B n 1 (fun c _=>c=1) (Cj en s):=fun ts=>Aw.bind (k:=0) (Gd.eat s ts) (fun _ c _ _ h=>fun ts=>Aw.mono (Gd.down ts) (fun c' _ _ _ h'=>by omega) (nlr _)) (nlr _)
def PN(B K:Nat)(_:Nat)(x:Nd):Prop:=If B K x
theorem Gd.listGo{to:List UInt8}{one:PM (List Nd)}{R:List Nd->Prop}(ho:∀n',n'<=n->Gd B n' 1 (fun c l=>l.length<=c/\R l) one)(hR:∀l m,R l->R m->R (l++m)):
  ∀f acc (n':Nat),n'<=n->n'<f->R acc->Gd B n' 0 (fun c l=>l.length<=acc.length+c/\R l) (Cd en to one f acc)
 | 0,_,_,_,h,_=>absurd h (Nat.not_lt_zero _)
 | f+1,acc,n',hn',hf,hR0=>fun ts=>Aw.look fun hn ht=>Aw.ite (fun _=>Aw.pure ⟨nlr _,hR0⟩) fun _=>
   Aw.bind (j:=0) (k:=0) (P:=fun _ _=>True) (Aw.ite (fun _=>Aw.pure trivial) (fun _=>Aw.mono (Gd.eat _ ts) (fun _ _ _ _ _=>trivial) (nlz _)))
    (fun _ c _ hc _=>fun ts1=>Aw.bind (j:=1) (k:=0) (ho (n' - 0) (by omega) ts1) (fun l c1 hj1 hc1 h1=>fun ts2=>by
     by_cases hz:n' - 0 - 1<f
     ·refine Aw.mono (Gd.listGo ho hR f (acc++l) (n' - 0 - 1) (by omega) hz (hR _ _ hR0 h1.2) ts2) (fun c2 x _ _ h2=>⟨?_,h2.2⟩) (nlr _);have h3:=h2.1;have h4:=h1.1;rw[lnA] at h3;omega
     ·exfalso;omega) (nlz _)) (nlz _)
theorem Gd.list{to:List UInt8}{one:PM (List Nd)}{R:List Nd->Prop}(ho:∀n',n'<=n->Gd B n' 1 (fun c l=>l.length<=c/\R l) one)(hR:∀l m,R l->R m->R (l++m))(hR0:R []):Gd B n 0 (fun c l=>l.length<=c/\R l) (Ck en to one):=fun ts d hn ht=>by
 have:=Gd.listGo (en:=en) (to:=to) (n:=ts.length) (fun n' h'=>ho n' (by omega)) hR (ts.length+1) [] ts.length (nlr _) (by omega) hR0 ts d (nlr _) ht;unfold Ck;cases hm:Cd en to one (ts.length+1) [] ts d with
 | err a b c=>exact trivial
 | out=>rw[hm] at this;exact this.elim
 | ok x t1 d1=>
  rw[hm] at this;exact⟨this.1,this.2.1,by have:=this.2.2.1;simpa using this,this.2.2.2⟩
structure LGd(B K n:Nat)(L:Lvl):Prop where
 expr:Gd B n 1 (PN B K) L.expr
 prim:Gd B n 1 (PN B K) L.prim
 stmt:Gd B n 1 (PN B K) L.stmt
theorem LGd.less{n n':Nat}{L:Lvl}(h:LGd B K n L)(hn:n'<=n):LGd B K n' L:=⟨fun ts=>(h.expr ts).less hn,fun ts=>(h.prim ts).less hn,fun ts=>(h.stmt ts).less hn⟩
variable {L:Lvl}
theorem Gd.arg(hK:n+3<=K)(hL:LGd B K n L):Gd B n 1 (PN B K) (pArg en L):=fun ts=>Aw.look fun hn ht=>
 Aw.ite (fun hc=>Aw.bind (j:=1) (k:=0) (Aw.take fun _=>Ey (en:=en) (by rw[bAt] at hc;exact hc.1)) (fun _ _ _ _ _=>fun _=>
  Aw.bind (j:=1) (k:=0) (Gd.eat _ _) (fun _ _ _ _ _=>fun _=>Aw.bind (j:=1) (k:=0) ((hL.less (by omega)).expr _) (fun x _ _ _ hx=>fun _=>Aw.pure (Bm (Ge ht 0).1 (by show 1<=K;omega) (by decide) (by decide) (Ee hx))) (nlz _)) (nlz _)) (Nat.le_add_right _ _))
 (fun _=>Aw.bind (j:=1) (k:=0) (hL.expr _) (fun x _ _ _ hx=>fun _=>Aw.pure (Bm (nlz _) (by show 1<=K;omega) (by decide) (by decide) (Ee hx))) (nlr _))
theorem Gd.call(hK:n+3<=K)(hL:0<n->LGd B K (n - 1) L):Gd B n 1 (PN B K) (pCall en L):=fun ts=>Aw.look fun hn ht=>
 Aw.bind (j:=1) (k:=0) (Aw.take Ey) (fun nm c0 hj0 hc0 hnm=>fun ts1=>Aw.look fun hn1 ht1=>
  Aw.bind (j:=1) (k:=0) (Aw.open D8) (fun _ c1 _ _ _=>fun ts2=>
   Aw.bind (j:=0) (k:=0) (Gd.list (R:=Ed B K) (fun n' hn' ts3=>Aw.bind (j:=1) (k:=0) (Gd.arg (by omega) ((hL (by omega)).less (by omega)) ts3) (fun x c hj _ hx=>fun _=>Aw.pure ⟨by show 1<=c+0;omega,Ee hx⟩) (nlr _)) (fun _ _=>Et) trivial ts2)
    (fun kids c2 _ hc2 hk=>fun ts4=>Aw.bind (j:=1) (k:=0) (Gd.close _ _) (fun _ _ _ _ _=>fun _=>Aw.pure (Bm hnm.2.1 (by have:=hk.1;omega) (by decide) (by decide) hk.2)) (nlz _)) (nlz _)) (nlz _)) (Nat.le_add_right _ _)
theorem Gd.entry(_hK:n+3<=K)(hL:LGd B K n L):Gd B n 1 (fun c l=>l.length<=c/\Ed B K l) (pEntry en L):=fun ts=>Aw.look fun hn ht=>
 Aw.bind (j:=1) (k:=0) (Aw.take fun h=>Fp (en:=en) (k:=3) (by decide) (by simpa using h)) (fun t c0 hj0 _ ht0=>fun ts1=>Aw.bind (j:=1) (k:=0) (Gd.eat _ _) (fun _ c1 hj1 _ _=>fun ts2=>
  Aw.bind (j:=1) (k:=0) ((hL.less (by omega)).expr _) (fun x c2 hj2 _ hx=>fun _=>Aw.pure ⟨by show 2<=_;omega,Gc (Bm ht0.2.1 (nlz _) (by decide) (by decide) trivial) hx⟩) (nlz _)) (nlz _)) (Nat.le_add_right _ _)
theorem Gd.prim(hK:n+3<=K)(hL:0<n->LGd B K (n - 1) L):Gd B n 1 (PN B K) (pPrim en L):=fun ts=>Aw.look fun hn ht=>
 Aw.ite (fun hc=>Aw.bind (j:=1) (k:=0) (Aw.take fun _=>Fp (en:=en) (k:=3) (by decide) (by simpa using hc)) (fun _ _ _ _ _=>fun _=>Aw.pure (Bm (Ge ht 0).1 (nlz _) (by decide) (by decide) trivial)) (Nat.le_add_right _ _)) fun _=>
 Aw.ite (fun hc=>Aw.bind (j:=1) (k:=0) (Aw.take fun _=>Fp (en:=en) (k:=2) (by decide) (by simpa using hc)) (fun _ _ _ _ _=>fun _=>Aw.pure (by
  show If B K (.mk 10 _ _ _ []);rw[If];exact⟨(Ge ht 0).1,nlz _,fun _=>(Ge ht 0).2 (by simpa using hc),fun e=>absurd e (by decide),trivial⟩)) (Nat.le_add_right _ _)) fun _=>
 Aw.ite (fun _=>Gd.call hK hL ts) fun _=>
 Aw.ite (fun hc=>Aw.bind (j:=1) (k:=0) (Aw.take fun _=>Ey hc) (fun _ _ _ _ _=>fun _=>Aw.pure (Bm (Ge ht 0).1 (nlz _) (by decide) (by decide) trivial)) (Nat.le_add_right _ _)) fun _=>
 Aw.ite (fun hc=>Aw.bind (j:=1) (k:=0) (Aw.open fun _=>Ex hc) (fun _ c0 hj0 hc0 _=>fun _=>Aw.bind (j:=1) (k:=0) ((hL (by omega)).prim _) (fun x _ _ _ hx=>fun _=>Aw.bind (j:=0) (k:=0) (Gd.down _) (fun _ _ _ _ _=>fun _=>Aw.pure (Bm (by
  have:=(Ge (en:=en) ht 0).1;have hw:=hc;unfold Bq at hw;rw[bAt,beq_iff_eq,beq_iff_eq] at hw;have h3:(Bd en ts 0).text.size=3:=(by rw[<-Av,hw.2];rfl);show 3<=B;omega) (by show 1<=K;omega) (by decide) (by decide) (Ee hx))) (nlz _)) (nlz _)) (Nat.le_add_right _ _)) fun _=>
 Aw.ite (fun hc=>Aw.bind (j:=1) (k:=0) (Aw.open fun _=>D8 hc) (fun _ c0 hj0 hc0 _=>fun ts2=>
   Aw.bind (j:=0) (k:=0) (Gd.list (R:=Ed B K) (fun n' hn' ts3=>Aw.bind (j:=1) (k:=0) (((hL (by omega)).less (by omega)).expr ts3) (fun x c hj _ hx=>fun _=>Aw.pure ⟨by show 1<=c+0;omega,Ee hx⟩) (nlr _)) (fun _ _=>Et) trivial ts2)
    (fun kids c2 _ hc2 hk=>fun ts4=>Aw.bind (j:=1) (k:=0) (Gd.close _ _) (fun _ _ _ _ _=>fun _=>Aw.pure (Bm (nlz _) (by have:=hk.1;omega) (by decide) (by decide) hk.2)) (nlz _)) (nlz _)) (Nat.le_add_right _ _)) fun _=>
 Aw.ite (fun hc=>Aw.bind (j:=1) (k:=0) (Aw.open fun _=>D8 hc) (fun _ c0 hj0 hc0 _=>fun ts2=>
   Aw.bind (j:=0) (k:=0) (Gd.list (R:=Ed B K) (fun n' hn'=>Gd.entry (by omega) ((hL (by omega)).less (by omega))) (fun _ _=>Et) trivial ts2)
    (fun kids c2 _ hc2 hk=>fun ts4=>Aw.bind (j:=1) (k:=0) (Gd.close _ _) (fun _ _ _ _ _=>fun _=>Aw.pure (Bm (nlz _) (by have:=hk.1;omega) (by decide) (by decide) hk.2)) (nlz _)) (nlz _)) (Nat.le_add_right _ _)) fun _=>
 Aw.bind (j:=1) (k:=0) (Aw.open D8) (fun _ c0 hj0 hc0 _=>fun _=>Aw.bind (j:=1) (k:=0) ((hL (by omega)).expr _) (fun x _ _ _ hx=>fun _=>Aw.bind (j:=1) (k:=0) (Gd.close _ _) (fun _ _ _ _ _=>fun _=>Aw.pure hx) (nlz _)) (nlz _)) (Nat.le_add_right _ _)
theorem Gd.sumGo(hB:1<=B)(hK:n+3<=K)(hL:0<n->LGd B K (n - 1) L):∀(f:Nat) (n':Nat),n'<=n->n'<f->∀x,If B K x->Gd B n' 0 (PN B K) (pSumGo en L f x)
 | 0,_,_,h,_,_=>absurd h (Nat.not_lt_zero _)
 | f+1,n',hn',hf,x,hx=>fun ts=>Aw.look fun hn ht=>Aw.ite (fun hc=>
   Aw.bind (j:=1) (k:=0) (Aw.take fun _=>D8 hc) (fun t _ hj1 hc1 _=>fun ts1=>Aw.bind (j:=1) (k:=0) (Gd.prim (by omega) (fun h0=>(hL (by omega)).less (by omega)) ts1) (fun y _ _ _ hy=>fun ts2=>
    Gd.sumGo hB hK hL f (n' - 1 - 1) (by omega) (by omega) _ (Bm (s:=bs [43]) (show(bs [43]).size<=B from hB) (by show 2<=K;omega) (by decide) (by decide) (Gc hx hy)) ts2) (nlz _)) (nlz _)) fun _=>Aw.pure hx
theorem Gd.sum(hB:1<=B)(hK:n+3<=K)(hL:0<n->LGd B K (n - 1) L):Gd B n 1 (PN B K) (pSum en L):=fun ts=>
 Aw.bind (j:=1) (k:=0) (Gd.prim hK hL ts) (fun x _ _ _ hx=>fun ts1 d hn ht=>by
  have:=Gd.sumGo (en:=en) hB hK hL (ts1.length+1) ts1.length (by omega) (by omega) x hx ts1 d (nlr _) ht;exact this) (Nat.le_add_right _ _)
theorem Gd.expr(hB:1<=B)(hK:n+3<=K)(hL:0<n->LGd B K (n - 1) L):Gd B n 1 (PN B K) (Co en L):=fun ts=>
 Aw.bind (j:=1) (k:=0) (Gd.sum hB hK hL ts) (fun x _ hj0 hc0 hx=>fun ts1=>Aw.look fun hn ht=>Aw.ite (fun hc=>
  Aw.bind (j:=1) (k:=0) (Aw.take fun _=>by
   rw[Bool.or_eq_true,Bool.or_eq_true] at hc;rcases hc with (hc|hc)|hc
   ·exact D8 hc
   ·exact D8 hc
   ·exact Ex hc) (fun t _ _ _ ht0=>fun ts2=>Aw.bind (j:=1) (k:=0) (Gd.sum hB (by omega) (fun h0=>(hL (by omega)).less (by omega)) ts2) (fun y _ _ _ hy=>fun _=>
    Aw.pure (Bm ht0.2.1 (by show 2<=K;omega) (by decide) (by decide) (Gc hx hy))) (nlz _)) (nlz _)) fun _=>Aw.pure hx) (Nat.le_add_right _ _)
theorem Gd.stmtsGo(to:List UInt8)(hL:LGd B K n L):∀(f:Nat) (acc:List Nd) (n':Nat),n'<=n->n'<f->Ed B K acc->Gd B n' 0 (fun c l=>l.length<=acc.length+c/\Ed B K l) (Cl en L to f acc)
 | 0,_,_,_,h,_=>absurd h (Nat.not_lt_zero _)
 | f+1,acc,n',hn',hf,ha=>fun ts=>Aw.look fun hn ht=>Aw.ite (fun hc=>
   Aw.bind (j:=1) (k:=0) ((hL.less hn').stmt ts) (fun x c hj1 hc1 hx=>fun ts1=>Aw.mono (Gd.stmtsGo to hL f (acc++[x]) (n' - 1) (by omega) (by omega) (Et ha (Ee hx)) ts1) (fun c2 y _ _ h2=>⟨by have h3:=h2.1;rw[lnA,List.length_singleton] at h3;omega,h2.2⟩) (nlr _)) (nlz _)) fun _=>Aw.pure ⟨nlr _,ha⟩
theorem Gd.stmts(to:List UInt8)(hL:LGd B K n L):Gd B n 0 (fun c l=>l.length<=c/\Ed B K l) (C4 en L to):=fun ts d hn ht=>by
 have:=Gd.stmtsGo (en:=en) to (hL.less hn) (ts.length+1) [] ts.length (nlr _) (by omega) trivial ts d (nlr _) ht;unfold C4;cases hm:Cl en L to (ts.length+1) [] ts d with
 | err a b c=>exact trivial
 | out=>rw[hm] at this;exact this.elim
 | ok x t1 d1=>
  rw[hm] at this;exact⟨this.1,this.2.1,by have:=this.2.2.1;simpa using this,this.2.2.2⟩
theorem Gd.block(hK:n+3<=K)(hL:0<n->LGd B K (n - 1) L):Gd B n 2 (PN B K) (Ct en L):=fun ts=>Aw.look fun hn ht=>
 Aw.bind (j:=1) (k:=1) (Aw.open D8) (fun t _ hj0 hc0 _=>fun ts1=>Aw.bind (j:=0) (k:=1) (Gd.stmts _ (hL (by omega)) ts1) (fun l c _ hc1 hl=>fun ts2=>
  Aw.bind (j:=1) (k:=0) (Gd.close _ _) (fun _ _ _ _ _=>fun _=>Aw.pure (Bm (nlz _) (by have:=hl.1;omega) (by decide) (by decide) hl.2)) (nlr _)) (nlr _)) (nlr _)
def Rd(B K:Nat)(x:Nd):Prop:=If B K x/\1<=x.kids.length/\x.kids.length<=2
theorem Gd.param(hB:1<=B)(hK:n+3<=K)(hL:0<n->LGd B K (n - 1) L):Gd B n 1 (fun _ x=>Rd B K x) (B6 en L):=fun ts=>Aw.look fun hn ht=>
 Aw.bind (j:=1) (k:=0) (Aw.take Ey) (fun nm _ hj0 hc0 hnm=>fun ts1=>Aw.bind (j:=1) (k:=0) (Gd.eat _ _) (fun _ _ hj1 hc1 _=>fun ts2=>Aw.look fun hn2 ht2=>
  Aw.bind (j:=1) (k:=0) (Aw.take fun h=>Fp (en:=en) (k:=1) (by decide) (by rw[bAt] at h;simpa using h.1)) (fun t _ _ _ ht0=>fun ts3=>Aw.look fun hn3 ht3=>
   Aw.ite (fun _=>Aw.bind (j:=1) (k:=0) (Gd.eat _ _) (fun _ _ _ _ _=>fun ts4=>Aw.bind (j:=1) (k:=0) (Gd.expr hB (by omega) (fun h0=>(hL (by omega)).less (by omega)) ts4) (fun x _ _ _ hx=>fun _=>Aw.pure
     ⟨Bm hnm.2.1 (by show 2<=K;omega) (by decide) (by decide) (Gc (Bm ht0.2.1 (nlz _) (by decide) (by decide) trivial) hx),(by show 1<=2;decide),(by show 2<=2;decide)⟩) (nlz _)) (nlz _)) fun _=>
    Aw.pure ⟨Bm hnm.2.1 (by show 1<=K;omega) (by decide) (by decide) (Ee (Bm ht0.2.1 (nlz _) (by decide) (by decide) trivial)),(by show 1<=1;decide),(by show 1<=2;decide)⟩) (nlz _)) (nlz _)) (Nat.le_add_right _ _)
theorem Gd.rule(hB:1<=B)(hK:n+3<=K)(hL:0<n->LGd B K (n - 1) L)(hts:ts≠[]):Aw B n 1 (PN B K) (pRule en L) ts:=
 Aw.bind (j:=1) (k:=0) (Aw.take fun _=>hts) (fun t _ hj0 hc0 _=>fun ts1=>Aw.look fun hn1 ht1=>
  Aw.bind (j:=1) (k:=0) (Aw.take Ey) (fun nm _ _ _ hnm=>fun ts2=>Aw.bind (j:=1) (k:=0) (Gd.eat _ _) (fun _ _ _ _ _=>fun ts3=>
   Aw.bind (j:=0) (k:=0) (Gd.list (R:=fun l=>∀x∈l,Rd B K x) (fun n' hn' ts4=>Aw.bind (j:=1) (k:=0) (Gd.param hB (by omega) (fun h0=>(hL (by omega)).less (by omega)) ts4) (fun x c hj _ hx=>fun _=>Aw.pure ⟨by show 1<=c+0;omega,fun y hy=>by rw[List.mem_singleton.1 hy];exact hx⟩) (nlr _))
     (fun l m hl hm x hx=>by
      rcases List.mem_append.1 hx with hx|hx
      ·exact hl x hx
      ·exact hm x hx) (fun x hx=>by cases hx) ts3)
    (fun kids c2 _ hc2 hk=>fun ts4=>Aw.bind (j:=1) (k:=0) (Gd.eat _ _) (fun _ _ _ _ _=>fun ts5=>Aw.bind (j:=2) (k:=0) (Gd.block (by omega) (fun h0=>(hL (by omega)).less (by omega)) ts5) (fun b _ _ _ hb=>fun _=>Aw.pure (by
     show If B K (.mk 6 _ _ _ (kids++[b]));rw[If];refine⟨hnm.2.1,?_,fun e=>absurd e (by decide),fun _=>⟨kids,b,rfl,fun x hx=>(hk.2 x hx).2⟩,Et (ndOks_iff.2 fun x hx=>(hk.2 x hx).1) (Ee hb)⟩;have:=hk.1;rw[lnA,List.length_singleton];omega)) (nlz _)) (nlz _)) (nlz _)) (nlz _)) (nlz _)) (Nat.le_add_right _ _)
theorem Gd.stmt(hB:1<=B)(hK:n+3<=K)(hL:0<n->LGd B K (n - 1) L):Gd B n 1 (PN B K) (pStmt en L):=fun ts=>Aw.look fun hn ht=>
 Aw.ite (fun hc=>Aw.bind (j:=1) (k:=0) (Aw.take fun _=>Ex hc) (fun _ _ hj0 hc0 _=>fun ts1=>Aw.look fun _ _=>Aw.bind (j:=1) (k:=0) (Aw.take Ey) (fun nm _ _ _ hnm=>fun ts2=>Aw.look fun _ _=>
   Aw.bind (j:=1) (k:=0) (Aw.take Ex) (fun _ _ _ _ _=>fun ts3=>Aw.bind (j:=1) (k:=0) (Gd.expr hB (by omega) (fun h0=>(hL (by omega)).less (by omega)) ts3) (fun x _ _ _ hx=>fun ts4=>
    Aw.bind (j:=2) (k:=0) (Gd.block (by omega) (fun h0=>(hL (by omega)).less (by omega)) ts4) (fun b _ _ _ hb=>fun _=>Aw.pure (Bm hnm.2.1 (by show 2<=K;omega) (by decide) (by decide) (Gc hx hb))) (nlz _)) (nlz _)) (nlz _)) (nlz _)) (Nat.le_add_right _ _)) fun _=>
 Aw.ite (fun hc=>Aw.bind (j:=1) (k:=0) (Aw.take fun _=>Ex hc) (fun _ _ hj0 hc0 _=>fun ts1=>Aw.bind (j:=1) (k:=0) (Gd.expr hB (by omega) (fun h0=>(hL (by omega)).less (by omega)) ts1) (fun x _ _ _ hx=>fun ts2=>
   Aw.bind (j:=2) (k:=0) (Gd.block (by omega) (fun h0=>(hL (by omega)).less (by omega)) ts2) (fun b _ _ _ hb=>fun ts3=>Aw.look fun _ _=>Aw.ite (fun hc2=>
    Aw.bind (j:=1) (k:=0) (Aw.take fun _=>Ex hc2) (fun _ _ _ _ _=>fun ts4=>Aw.bind (j:=2) (k:=0) (Gd.block (by omega) (fun h0=>(hL (by omega)).less (by omega)) ts4) (fun c _ _ _ hc3=>fun _=>
     Aw.pure (Bm (nlz _) (by show 3<=K;omega) (by decide) (by decide) ⟨hx,hb,hc3,trivial⟩)) (nlz _)) (nlz _)) fun _=>Aw.pure (Bm (nlz _) (by show 2<=K;omega) (by decide) (by decide) (Gc hx hb))) (nlz _)) (nlz _)) (Nat.le_add_right _ _)) fun _=>
 Aw.ite (fun hc=>Gd.rule hB hK hL (Ex hc)) fun _=>
 Aw.ite (fun _=>Aw.bind (j:=1) (k:=0) (Gd.call hK hL ts) (fun c _ _ _ hc=>fun ts1=>Aw.bind (j:=1) (k:=0) (Gd.eat _ _) (fun _ _ _ _ _=>fun _=>Aw.pure (Bm (nlz _) (by show 1<=K;omega) (by decide) (by decide) (Ee hc))) (nlz _)) (Nat.le_add_right _ _)) fun _=>
 Aw.bind (j:=1) (k:=0) (Aw.take Ey) (fun nm _ hj0 hc0 hnm=>fun ts1=>Aw.bind (j:=1) (k:=0) (Gd.eat _ _) (fun _ _ _ _ _=>fun ts2=>Aw.bind (j:=1) (k:=0) (Gd.expr hB (by omega) (fun h0=>(hL (by omega)).less (by omega)) ts2) (fun x _ _ _ hx=>fun ts3=>
  Aw.bind (j:=1) (k:=0) (Gd.eat _ _) (fun _ _ _ _ _=>fun _=>Aw.pure (Bm hnm.2.1 (by show 1<=K;omega) (by decide) (by decide) (Ee hx))) (nlz _)) (nlz _)) (nlz _)) (Nat.le_add_right _ _)
end
theorem LGd.lvl{B K}(en)(hB:1<=B):∀(f n:Nat),n<f->n+3<=K->LGd B K n (lvl en f)
 | 0,_,h,_=>absurd h (Nat.not_lt_zero _)
 | f+1,n,h,hK=>
  have ih:0<n->LGd B K (n - 1) (Go.Proofs.YtkehdallfohjfaaGreatDoor.lvl en f):=fun h0=>LGd.lvl en hB f (n - 1) (by omega) (by omega)
  ⟨Gd.expr hB hK ih,Gd.prim hK ih,Gd.stmt hB hK ih⟩
/-! What the lexer hands on. -/
theorem quotedL_len:∀(l:List UInt8) r,By l=some r->r.1.length<=l.length
 | [],r,h=>by simp[By] at h
 | c::t,r,h=>by
  rw[By.eq_def] at h
  dsimp only at h
  split at h
  ·cases h;exact nlz _
  ·split at h
   ·cases h
   ·split at h
    ·cases t with
     | nil=>cases h
     | cons d t'=>
      simp only[Option.bind_eq_some_iff,Option.map_eq_some_iff] at h;obtain⟨e,-,q,hq,rfl⟩:=h;have:=quotedL_len t' q hq;simp only[lnC];omega
    ·simp only[Option.map_eq_some_iff] at h;obtain⟨q,hq,rfl⟩:=h;have:=quotedL_len t q hq;simp only[lnC];omega
theorem takeWhile_le{p:UInt8->Bool}(l:List UInt8):(l.takeWhile p).length<=l.length:=(List.takeWhile_prefix p).length_le
theorem nextL_ok{l k s n}(h:Bz l = .ok (k,s,n)):s.length<=l.length/\(k=2->Mu ⟨s.toArray⟩):=by
 cases l with
 | nil=>cases h
 | cons c t=>
  rw[Bz] at h;split at h
  ·cases h;exact⟨nlz _,fun e=>absurd e (by decide)⟩
  ·split at h
   ·cases h;exact⟨nlz _,fun e=>absurd e (by decide)⟩
   ·split at h
    ·cases h;exact⟨takeWhile_le _,fun e=>absurd e (by decide)⟩
    ·split at h
     ·next hd=>
      unfold C7 at h;split at h
      ·cases h
      ·next h1=>
       split at h
       ·cases h
       ·next h2=>
        cases h;refine⟨takeWhile_le _,fun _=>⟨?_,?_,?_,by simpa using h2⟩⟩
        ·show(c::t).takeWhile A9≠[];rw[List.takeWhile_cons_of_pos hd];simp
        ·intro x hx;have:x∈(c::t).takeWhile A9:=hx;exact List.all_eq_true.1 (List.all_takeWhile) x this
        ·rintro⟨g1,g2⟩;refine h1 ⟨g1,?_⟩;have:((c::t).takeWhile A9).head? = some 48:=g2;rw[List.takeWhile_cons_of_pos hd] at this
         simpa using this
     ·split at h
      ·split at h
       ·next r hr=>
        cases h;refine⟨?_,fun e=>absurd e (by decide)⟩;have:=quotedL_len _ _ hr;simp only[lnC];omega
       ·cases h
      ·split at h
       ·cases h;exact⟨by rw[List.length_take];omega,fun e=>absurd e (by decide)⟩
       ·split at h
        ·cases h;exact⟨by simp,fun e=>absurd e (by decide)⟩
        ·cases h
theorem Lo{B}:∀(f:Nat) (p:Int×Int) (l:List UInt8) (ts:List Tok),l.length<=B->Bt f p l = .ok ts->ts.length<=f/\Pd B ts
 | 0,p,l,ts,_,h=>by cases h;exact⟨nlr _,fun x hx=>by cases hx⟩
 | f+1,p,l,ts,hB,h=>by
  rw[Bt] at h;split at h
  ·cases h;exact⟨nlz _,fun x hx=>by cases hx⟩
  ·split at h
   ·cases h
   ·next k s n hn=>
    split at h
    ·cases h
    ·next ts' hts=>
     obtain⟨h1,h2⟩:=Lo (B:=B) f (passL p (l.take n)) (l.drop n) ts' (by rw[List.length_drop];omega) hts;obtain⟨g1,g2⟩:=nextL_ok hn;cases h;by_cases hk:0<k
     ·rw[if_pos hk];refine⟨by rw[lnC];omega,fun x hx=>?_⟩;rcases List.mem_cons.1 hx with rfl|hx
      ·exact⟨by show s.toArray.size<=B;rw[List.size_toArray];omega,g2⟩
      ·exact h2 x hx
     ·rw[if_neg hk];exact⟨by omega,h2⟩
theorem Fq(l):readL l≠none/\∀n,readL l=some (.ok n)->∃kids,n = .mk 1 ⟨#[]⟩ 1 1 kids/\kids.length<=65540/\Ed 65536 65540 kids:=by
 unfold readL;cases hl:F7 l with
 | error e=>exact⟨fun h=>(by cases h),fun n h=>(by cases h)⟩
 | ok ts=>
  unfold F7 at hl;split at hl
  ·cases hl
  ·next hlen=>
   obtain⟨h1,h2⟩:=Lo (B:=65536) _ _ _ _ (by omega) hl;have hg:=Gd.stmts (B:=65536) (K:=65540) (n:=ts.length) (en:=Jo l) [] (LGd.lvl (Jo l) (by decide) (ts.length+2) ts.length (by omega) (by omega)) ts 0 (nlr _) h2;cases hm:C4 (Jo l) (lvl (Jo l) (ts.length+2)) [] ts 0 with
   | err a b c=>
    simp only[hm];exact⟨fun h=>(by cases h),fun n h=>(by cases h)⟩
   | out=>rw[hm] at hg;exact hg.elim
   | ok x t1 d1=>
    rw[hm] at hg;simp only[hm];refine⟨fun h=>(by cases h),fun n h=>?_⟩;cases h;exact⟨x,rfl,by have:=hg.2.2.1;omega,hg.2.2.2⟩

theorem Bp.lower{F w base base' e size v l}(h:Bp F w base e size v l)(hb:base'<=base):Bp F w base' e size v l:=by
 obtain⟨css,h1,h2,⟨h3,h4⟩,h5⟩:=h;refine⟨css,h1,h2,⟨h3,?_⟩,h5⟩;rcases h4 with h|⟨g,cap,cur,hv,hg,h⟩
 ·exact .inl h
 ·exact .inr ⟨g,cap,cur,hv,by omega,h⟩
end Go.Proofs.YtkehdallfohjfaaGreatDoor
