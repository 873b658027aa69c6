/-
  The parser's errors have a number;the lexer's too:in plain words. (And what it stands on.)
-/
import Derived.Test.YtbcdimjbepigcaaGreatDoorProg
import Derived.WalkKit
import Derived.WalkSpells
import Derived.WalkLawsBesides
import Derived.Deep.QuietTactic
import Derived.BigQuiet
import Derived.Outline
import Derived.Lib.Hide
import Derived.Lib.TrimByte
import Derived.Deep.RegionWith
import Derived.Laws.OwnMore
import Derived.Laws.Rows
import Derived.ChangeArms
import Derived.Lib.IndexMore
import Derived.Lib.SlicesS
import Derived.Laws.IdiomCopy
namespace Go.Proofs.YtbcdimjbepigcaaGreatDoor
open Go.RowKit
theorem A7{a b}(h:a=b):Ending.returned (.bool a) = .returned (.bool b):=by rw[h]
theorem My{k a b}(h:a=b):Ending.returned (.int k a) = .returned (.int k b):=by rw[h]
theorem I6(p:ByteArray)(i:Nat)(h:i<p.size):p.data.toList[i]? = some p[i]:=by
 rw[Array.getElem?_toList,Array.getElem?_eq_getElem h];rfl
theorem Ax(p:ByteArray):p.data.toList.length=p.size:=Array.length_toList
theorem Hi(p:ByteArray)(i:Nat):(p.extract i p.size).data.toList=p.data.toList.drop i:=by
 rw[Lib.extract_data,List.take_of_length_le (by rw[List.length_drop,Ax];omega)]
theorem Ux{a:UInt8}{n:Nat}(hn:n<256):((a.toNat:Int)==(n:Int))=(a==UInt8.ofNat n):=by
 rw[Bool.eq_iff_iff,beq_iff_eq,beq_iff_eq,Int.ofNat_inj,<-UInt8.toNat_inj,UInt8.toNat_ofNat',Nat.mod_eq_of_lt hn]
theorem bytes_ext{a b:ByteArray}(h:a.data.toList=b.data.toList):a=b:=by
 cases a;cases b;simp only[ByteArray.mk.injEq];exact Array.toList_inj.1 h
theorem Cv{B w w'}(h:Below B w w')(n):Below B w (w'.drewN n):=⟨h.os,h.tape,h.output,h.size,h.block⟩
def Dj(w:World)(a:Option Addr)(l:List ByteArray):Prop:=
 ∀(j:Nat) x,l[j]? = some x->∃b off,a=some ⟨b,off,none⟩/\w.cell? ⟨b,off+j,none⟩=some (.string x)
theorem Au{w:World}{b off:Nat}{v}(h:w.cell? ⟨b,off,none⟩=some v):b<w.heap.size:=by
 unfold World.cell? at h;by_cases hb:b<w.heap.size
 ·exact hb
 ·rw[Array.getElem?_eq_none (by simpa using hb)] at h;cases h
theorem Dj.below{w w' a l}(h:Dj w a l)(hb:Below w.heap.size w w'):Dj w' a l:=by
 intro j x hx;obtain⟨b,off,ha,hc⟩:=h j x hx;exact⟨b,off,ha,by rw[hb.cell (p:=⟨b,off+j,none⟩) (Au hc)];exact hc⟩
theorem Dj.at{w a l}(h:Dj w a l){k}(hk:k<l.length):
  ∃b off,a=some ⟨b,off,none⟩/\w.cell? ⟨b,off+k,none⟩=some (.string l[k]):=h k _ (List.getElem?_eq_getElem hk)
def Found(q:Nat->Bool)(n:Nat)(I:Nat->World->Prop)(e:Ending)(w:World):Prop:=
 (∃i,i<n/\q i=true/\(∀j,j<i->q j=false)/\e = .returned (.int .i64 (i:Nat))/\I (i+1) w) \/
  ((∀j,j<n->q j=false)/\e = .returned (.int .i64 (-1))/\I n w)
def Sy(q:Nat->Bool)(n:Nat)(I:Nat->World->Prop)(e:Ending)(w:World):Prop:=
 (∃i,i<n/\q i=true/\(∀j,j<i->q j=false)/\e = .returned (.bool true)/\I (i+1) w) \/
  ((∀j,j<n->q j=false)/\e = .returned (.bool false)/\I n w)
end Go.Proofs.YtbcdimjbepigcaaGreatDoor
namespace Go.Proofs.YtbcdimjbepigcaaGreatDoor
open Go Go.RowKit
open List renaming length_cons->lnC,getElem?_eq_getElem->lgE,mem_of_getElem? -> lgM,getElem?_eq_some_iff->lgS,length_map->lnM,getElem?_map->lgP,length_append->lnA,mem_cons_self->lmS,mem_cons_of_mem->lmO
open Nat renaming zero_le->nlz,le_refl->nlr,lt_of_lt_of_le->nll,le_trans->nlt
open Go.Lib renaming hid->Lq7
open _root_.Array renaming getElem?_eq_some_iff->agS
open Bool renaming and_eq_true->bAt
set_option maxRecDepth 100000
set_option maxHeartbeats 16000000
def isGap(c:UInt8):Bool:=((c.toNat:Int)==32)||((c.toNat:Int)==9)||((c.toNat:Int)==10)||((c.toNat:Int)==13)
def Bi(c:UInt8):Bool:=decide ((48:Int)<=c.toNat)&&decide ((c.toNat:Int)<=57)
def Fu(c:UInt8):Bool:=(decide ((97:Int)<=c.toNat)&&decide ((c.toNat:Int)<=122))||(decide ((65:Int)<=c.toNat)&&decide ((c.toNat:Int)<=90))||((c.toNat:Int)==95)
def isLine(c:UInt8):Bool:=(c.toNat:Int) != 10
def D7(c:UInt8):Bool:=Fu c||Bi c
def runL(p:UInt8->Bool)(l:List UInt8):Nat:=(l.takeWhile p).length
def F8(c:UInt8):Option UInt8:=if c=34 then some 34 else if c=92 then some 92 else if c=110 then some 10 else none
def Cd:List UInt8->Option (List UInt8×Nat)
 | []=>none
 | c::t=>
  if c=34 then some ([],1)
  else if c<32\/c=127 then none
  else if c=92 then
   match t with
   | []=>none
   | d::t'=>(F8 d).bind fun e=>(Cd t').map fun r=>(e::r.1,r.2+2)
  else(Cd t).map fun r=>(c::r.1,r.2+1)
def natOf(l:List UInt8):Nat:=l.foldl (fun n c=>10*n+(c.toNat - 48)) 0
structure Tok where
 kind:Int
 text:ByteArray
 line:Int
 col:Int
def Dn(l:List UInt8):Except Int (Int×List UInt8×Nat):=
 if 1<runL Bi l/\l.head? = some 48 then .error 3
 else if 9223372036854775807<natOf (l.takeWhile Bi) then .error 2
 else .ok (2,l.takeWhile Bi,runL Bi l)
def C1(l:List UInt8):Except Int (Int×List UInt8×Nat):=
 match l with
 | []=> .error 3
 | c::t=>
  if isGap c then .ok (0,[],runL isGap l)
  else if c=35 then .ok (0,[],runL isLine l)
  else if Fu c then .ok (1,l.takeWhile D7,runL D7 l)
  else if Bi c then Dn l
  else if c=34 then
   match Cd t with
   | some r=> .ok (3,r.1,r.2+1)
   | none=> .error 3
  else if l.take 2=[61,61]\/l.take 2=[33,61] then .ok (4,l.take 2,2)
  else if c∈([61,43,40,41,91,93,123,125,44,58,59]:List UInt8) then .ok (4,[c],1)
  else .error 3
def behindLast(l:List UInt8):Nat:=(l.reverse.takeWhile (· ≠ 10)).length
def passL(p:Int×Int)(l:List UInt8):Int×Int:=
 if 0<l.count 10 then(p.1+l.count 10,behindLast l+1) else(p.1,p.2+l.length)
def Cg:Nat->Int×Int->List UInt8->Except (Int×Int×Int) (List Tok)
 | 0,_,_=> .ok []
 | f+1,p,l=>
  if l=[] then .ok []
  else match C1 l with
   | .error e=> .error (e,p.1,p.2)
   | .ok (k,s,n)=>
    match Cg f (passL p (l.take n)) (l.drop n) with
    | .error e=> .error e
    | .ok ts=> .ok (if 0<k then ⟨k,⟨s.toArray⟩,p.1,p.2⟩::ts else ts)
def I4(l:List UInt8):Except (Int×Int×Int) (List Tok):=
 if 65536<l.length then .error (6,1,1) else Cg (l.length+1) (1,1) l
def RetB(b:Bool)(w:World)(e:Ending)(w':World):Prop:=e = .returned (.bool b)/\w=w'
theorem Uh(c w):Calls Tryz.prog 94 #[.int .u8 c.toNat] w (RetB (isGap c) w):=by
 go_enter Tryz.func94,Tryz.ntmps94;go_wp2_with fail
 all_goals
  go_ret;exact⟨A7 (by first|(simp[isGap, *];done)|(simp_all [isGap];done)|(rw[Bool.eq_iff_iff];simp[isGap];omega)),rfl⟩
theorem Lq(c w):Calls Tryz.prog 99 #[.int .u8 c.toNat] w (RetB (Bi c) w):=by
 go_enter Tryz.func99,Tryz.ntmps99;go_wp2_with fail
 all_goals
  go_ret;exact⟨A7 (by first|(simp[Bi, *];done)|(simp_all [Bi];done)|(rw[Bool.eq_iff_iff];simp[Bi];omega)),rfl⟩
theorem J9(c w):Calls Tryz.prog 97 #[.int .u8 c.toNat] w (RetB (Fu c) w):=by
 go_enter Tryz.func97,Tryz.ntmps97;go_wp2_with fail
 all_goals
  go_ret;exact⟨A7 (by first|(simp[Fu, *];done)|(simp_all [Fu];done)|(rw[Bool.eq_iff_iff];simp[Fu];omega)),rfl⟩
theorem line_any(c w):Calls Tryz.prog 96 #[.int .u8 c.toNat] w (RetB (isLine c) w):=by
 go_enter Tryz.func96,Tryz.ntmps96;go_wp2_with fail;go_ret;exact⟨rfl,rfl⟩
theorem Vq(c w):Calls Tryz.prog 98 #[.int .u8 c.toNat] w (RetB (D7 c) w):=by
 cases h1:Fu c
 ·cases h2:Bi c
  all_goals
   have H1:=Lq7 h1;have H2:=Lq7 h2;clear h1 h2;go_enter Tryz.func98,Tryz.ntmps98;go_wp2_with fail;refine(J9 c _).mono ?_;rintro e w' ⟨rfl,rfl⟩;rw[H1.out];go_wp2_with fail;refine(Lq c _).mono ?_;rintro e w' ⟨rfl,rfl⟩;rw[H2.out];go_wp2_with fail;go_ret;exact⟨by unfold D7;rw[H1.out,H2.out];rfl,rfl⟩
 ·have H1:=Lq7 h1;clear h1;go_enter Tryz.func98,Tryz.ntmps98;go_wp2_with fail;refine(J9 c _).mono ?_;rintro e w' ⟨rfl,rfl⟩;rw[H1.out];go_wp2_with fail;go_ret;exact⟨by unfold D7;rw[H1.out];rfl,rfl⟩
theorem Np{p l k}(h:∀j,j<k->∀y,l[j]? = some y->p y=true)(hk:k<=l.length):runL p l=k+runL p (l.drop k):=by
 induction k generalizing l with
 | zero=>simp[runL]
 | succ k ih=>
  cases l with
  | nil=>simp at hk
  | cons x t=>
   have hx:=h 0 (by omega) x rfl;have:=ih (l:=t) (fun j hj y hy=>h (j+1) (by omega) y (by simpa using hy)) (by simpa using hk);unfold runL at this |-;rw[List.takeWhile_cons_of_pos hx,lnC,this,List.drop_succ_cons];omega
theorem runL_le(p l):runL p l<=l.length:=by
 unfold runL
 induction l with
 | nil=>simp
 | cons x t ih=>rw[List.takeWhile_cons];split<;>simp<;>omega
theorem Pe(p:UInt8->Bool)(l:List UInt8):l.take (runL p l)=l.takeWhile p:=by
 unfold runL
 induction l with
 | nil=>rfl
 | cons x t ih=>
  rw[List.takeWhile_cons];split
  ·rw[lnC,List.take_succ_cons,ih]
  ·rfl
theorem M0(p f)(hf:∀(c:UInt8) (w:World),Calls Tryz.prog f #[.int .u8 c.toNat] w (RetB (p c) w))(henter:∀(args:Array Value) (w:World),(callFunc f args).run Tryz.prog w = .ok (.enter f args) w)(s w)(hs:s.size<=9223372036854775807):
  Calls Tryz.prog 95 #[.string s,.func (.func f) #[] #[]] w (fun e w'=>e = .returned (.int .i64 (runL p s.data.toList))/\w=w'):=by
 have Hf:=Lq7 hf;clear hf;go_enter Tryz.func95,Tryz.ntmps95;go_wp2_with fail
 go_loopw [5] (fun i wr=>∃k:Nat,i = .int .i64 k/\k<=s.size/\wr=w/\Hid (∀j,j<k->∀y,s.data.toList[j]? = some y->p y=true)) (fun i _=>s.size-(intOf i).toNat)
 case atStart=>exact⟨0,rfl,nlz _,rfl,Lq7 (fun j hj=>by omega)⟩
 case round=>
  obtain⟨k,rfl,hk,rfl,aB⟩:=hrel;by_cases hlt:k<s.size
  ·have Hk:=Lq7 (I6 s k hlt);have hd:decide ((k:Int)<(s.size:Int))=true:=(by simp;omega);cases hp:p s[k]
   ·have Hp:=Lq7 hp;clear hp;have Hr:Hid (runL p s.data.toList=k):=Lq7 (by
     rw[Np aB.out (by rw[Ax];omega),List.drop_eq_getElem_cons (by rw[Ax];exact hlt)];have:s.data.toList[k]'(by rw[Ax];exact hlt)=s[k]:=rfl;rw[this,runL,List.takeWhile_cons_of_neg (by rw[Hp.out];simp)];rfl)
    go_wp2_with fail;refine(Hf.out s[k] _).mono ?_;rintro e w' ⟨rfl,rfl⟩;rw[Hp.out];go_wp2_with fail;go_ret;exact⟨My (by rw[Hr.out]),rfl⟩
   ·have Hp:=Lq7 hp;clear hp;have Hn:Hid (∀j,j<k+1->∀y,s.data.toList[j]? = some y->p y=true):=Lq7 (fun j hj y hy=>by
     by_cases hjk:j<k
     ·exact aB.out j hjk y hy
     ·obtain rfl:j=k:=(by omega);rw[Hk.out] at hy;cases hy;exact Hp.out)
    go_wp2_with fail;refine(Hf.out s[k] _).mono ?_;rintro e w' ⟨rfl,rfl⟩;rw[Hp.out];go_wp2_with fail;go_roundw
    case rel=>exact⟨k+1,by go_num,by omega,by trivial,Hn⟩
    case measure=>simp only[intOf];omega
  ·have Hr:Hid (runL p s.data.toList=k):=Lq7 (by
    rw[Np aB.out (by rw[Ax];omega),List.drop_of_length_le (by rw[Ax];omega)];rfl)
   have hd:decide ((k:Int)<(s.size:Int))=false:=(by simp;omega);go_wp2_with fail;go_ret;exact⟨My (by rw[Hr.out]),rfl⟩
theorem A5{w:World}{b:Nat}{cs t}(h:w.heap[b]? = some (.cells cs t (0,0))):
  b<w.heap.size/\(∀j,w.cell? ⟨b,j,none⟩=cs[j]?)/\∀j,w.frozen? ⟨b,j,none⟩=false:=by
 refine⟨(agS.1 h).1,fun j=>?_,fun j=>?_⟩
 ·unfold World.cell?;rw[h];rfl
 ·unfold World.frozen?;rw[h];simp
theorem Ev{w w2:World}{cs t}(hb:Below (w.alloc (.cells cs t)).heap.size (w.alloc (.cells cs t)) w2):w2.heap[w.heap.size]? = some (.cells cs t (0,0)):=
 (hb.block _ (by simp)).trans (heap_alloc_new w _)
theorem Av{w:World}{b:Nat}{x y t}(h:w.heap[b]? = some (.cells #[x,y] t (0,0))):
  b<w.heap.size/\w.cell? ⟨b,0,none⟩=some x/\w.cell? ⟨b,1,none⟩=some y/\w.frozen? ⟨b,0,none⟩=false/\w.frozen? ⟨b,1,none⟩=false:=by
 obtain⟨h1,h2,h3⟩:=A5 h;exact⟨h1,h2 0,h2 1,h3 0,h3 1⟩
theorem Ag{w:World}{b:Nat}{cs t}(h:w.heap[b]? = some (.cells cs t (0,0)))(i:Nat)(v):(w.setCell ⟨b,i,none⟩ v).heap[b]? = some (.cells (cs.setIfInBounds i v) t (0,0)):=by
 unfold World.setCell;show(Array.modify _ _ _)[b]? = _;rw[Array.getElem?_modify,if_pos rfl,h];rfl
theorem Ad{w:World}{b k:Nat}(h:k≠b)(i:Nat)(v):(w.setCell ⟨b,i,none⟩ v).heap[k]? = w.heap[k]?:=Below.heap_setCell _ _ _ _ (fun e=>h e)
theorem C5(w:World)(row:Option Nat):w.grownBy w row:=⟨rfl,rfl,rfl,nlr _,fun _ _ _=>rfl⟩
theorem Ae{a b c:World}{row:Option Nat}(h:a.grownBy b row)(k:b.grownBy c row):a.grownBy c row:=
 ⟨k.os.trans h.os,k.tape.trans h.tape,k.output.trans h.output,nlt h.size k.size,fun i hi hn=>(k.block i (nll hi h.size) hn).trans (h.block i hi hn)⟩
theorem Bg{a b row}(h:Below a.heap.size a b):a.grownBy b row:=⟨h.os,h.tape,h.output,h.size,fun i hi _=>h.block i hi⟩
theorem Ew{a b:World}{g:Nat}(h:a.grownBy b (some g))(i:Nat)(v):a.grownBy (b.setCell ⟨g,i,none⟩ v) (some g):=
 ⟨h.os,h.tape,h.output,by simpa using h.size,fun k hk hn=>(Ad (fun e=>hn (by rw[e])) i v).trans (h.block k hk hn)⟩
theorem Fg{a b:World}{row:Option Nat}(h:a.grownBy b row)(o:Obj):a.grownBy (b.alloc o) row:=
 ⟨h.os,h.tape,h.output,nlt h.size (by simp),fun k hk hn=>(Below.heap_alloc b o k (nll hk h.size)).trans (h.block k hk hn)⟩
theorem Dr{a b:World}{row:Option Nat}(h:a.grownBy b row){g:Nat}(hg:a.heap.size<=g)(i:Nat)(v):a.grownBy (b.setCell ⟨g,i,none⟩ v) row:=
 ⟨h.os,h.tape,h.output,by simpa using h.size,fun k hk hn=>(Ad (by omega) i v).trans (h.block k hk hn)⟩
theorem Gc{a b c:World}{bp:Nat}{v:Value}(h:a.grownBy b (some bp))(k:b.grownBy c v.ownBlock)(hv:∀g,v.ownBlock=some g->a.heap.size<=g):a.grownBy c (some bp):=
 ⟨k.os.trans h.os,k.tape.trans h.tape,k.output.trans h.output,nlt h.size k.size,fun i hi hn=>(k.block i (nll hi h.size) (fun e=>by have:=hv i e.symm;omega)).trans (h.block i hi hn)⟩
theorem Al{w:World}{b:Nat}{x y z u t}(h:w.heap[b]? = some (.cells #[x,y,z,u] t (0,0))):
  b<w.heap.size/\w.cell? ⟨b,0,none⟩=some x/\w.cell? ⟨b,1,none⟩=some y/\w.cell? ⟨b,2,none⟩=some z/\w.cell? ⟨b,3,none⟩=some u:=by
 obtain⟨h1,h2,h3⟩:=A5 h;exact⟨h1,h2 0,h2 1,h2 2,h2 3⟩
theorem Aa{w:World}{b:Nat}{x y z u v t}(h:w.heap[b]? = some (.cells #[x,y,z,u,v] t (0,0))):
  b<w.heap.size/\w.cell? ⟨b,0,none⟩=some x/\w.cell? ⟨b,1,none⟩=some y/\w.cell? ⟨b,2,none⟩=some z/\w.cell? ⟨b,3,none⟩=some u/\w.cell? ⟨b,4,none⟩=some v /\
  w.frozen? ⟨b,0,none⟩=false/\w.frozen? ⟨b,1,none⟩=false/\w.frozen? ⟨b,2,none⟩=false/\w.frozen? ⟨b,3,none⟩=false/\w.frozen? ⟨b,4,none⟩=false:=by
 obtain⟨h1,h2,h3⟩:=A5 h;exact⟨h1,h2 0,h2 1,h2 2,h2 3,h2 4,h3 0,h3 1,h3 2,h3 3,h3 4⟩
theorem Aq{w:World}{b:Nat}{x t}(h:w.heap[b]? = some (.cells #[x] t (0,0))):b<w.heap.size/\w.cell? ⟨b,0,none⟩=some x:=by
 obtain⟨h1,h2,h3⟩:=A5 h;exact⟨h1,h2 0⟩
theorem Ex{w:World}{b:Nat}{x y z u t}(h:w.heap[b]? = some (.cells #[x,y,z,u] t (0,0))):
  b<w.heap.size/\w.cell? ⟨b,0,none⟩=some x/\w.cell? ⟨b,1,none⟩=some y/\w.cell? ⟨b,2,none⟩=some z/\w.cell? ⟨b,3,none⟩=some u /\
  w.frozen? ⟨b,0,none⟩=false/\w.frozen? ⟨b,1,none⟩=false/\w.frozen? ⟨b,2,none⟩=false/\w.frozen? ⟨b,3,none⟩=false:=by
 obtain⟨h1,h2,h3⟩:=A5 h;exact⟨h1,h2 0,h2 1,h2 2,h2 3,h3 0,h3 1,h3 2,h3 3⟩
theorem Ah{w:World}{b:Nat}{x y z t}(h:w.heap[b]? = some (.cells #[x,y,z] t (0,0))):
  b<w.heap.size/\w.cell? ⟨b,0,none⟩=some x/\w.cell? ⟨b,1,none⟩=some y/\w.cell? ⟨b,2,none⟩=some z /\
  w.frozen? ⟨b,0,none⟩=false/\w.frozen? ⟨b,1,none⟩=false/\w.frozen? ⟨b,2,none⟩=false:=by
 obtain⟨h1,h2,h3⟩:=A5 h;exact⟨h1,h2 0,h2 1,h2 2,h3 0,h3 1,h3 2⟩
inductive Dat where
 | one (v:Value)
 | rowb (b:Bool) (l:List (List Dat))
abbrev Dat.row(l:List (List Dat)):Dat:=.rowb false l
inductive Dk(F:Nat->Prop)(w:World):Dat->Value->Prop
 | one (v:Value):Dk F w (.one v) v
 | rowb (b:Bool) (l:List (List Dat)) (a:Option Addr) (cap:Nat) (hcap:b=true->l.length<=cap) (vs:List (List Value)) (hlen:vs.length=l.length)
   (hcell:∀(j:Nat) cs,vs[j]? = some cs->∃b off,a=some ⟨b,off,none⟩/\F b/\b<w.heap.size/\∀(i:Nat) u,cs[i]? = some u->w.cell? ⟨b,off+j*cs.length+i,none⟩=some u)
   (hsz:∀(j:Nat) cs ds,vs[j]? = some cs->l[j]? = some ds->cs.length=ds.length)
   (hsub:∀(j:Nat) cs ds (i:Nat) u d,vs[j]? = some cs->l[j]? = some ds->cs[i]? = some u->ds[i]? = some d->Dk F w d u):Dk F w (.rowb b l) (.slice a l.length cap)
def Am(F:Nat->Prop)(w:World)(ds:List Dat)(cs:List Value):Prop:=
 cs.length=ds.length/\∀(i:Nat) u d,cs[i]? = some u->ds[i]? = some d->Dk F w d u
def Af(F:Nat->Prop)(w:World)(a:Option Addr)(l:List (List Dat)):Prop:=
 ∀(j:Nat) ds,l[j]? = some ds->∃b off cs,a=some ⟨b,off,none⟩/\F b/\b<w.heap.size/\Am F w ds cs/\∀(i:Nat) u,cs[i]? = some u->w.cell? ⟨b,off+j*ds.length+i,none⟩=some u
section
variable {F G:Nat->Prop} {w w':World}
theorem Dk.mono{d:Dat}{v:Value}(h:Dk F w d v)(hk:∀b,F b->b<w.heap.size->G b/\b<w'.heap.size/\w'.heap[b]? = w.heap[b]?):Dk G w' d v:=by
 induction h with
 | one v=>exact .one v
 | rowb bo l a cap hcap vs hlen hcell hsz hsub ih=>
  refine .rowb bo l a cap hcap vs hlen (fun j cs hj=>?_) hsz ih;obtain⟨b,off,ha,hF,hb,hc⟩:=hcell j cs hj;obtain⟨h1,h2,h3⟩:=hk b hF hb;exact⟨b,off,ha,h1,h2,fun i u hu=>(World.cell?_of_block h3).trans (hc i u hu)⟩
theorem Am.mono{ds:List Dat}{cs:List Value}(h:Am F w ds cs)(hk:∀b,F b->b<w.heap.size->G b/\b<w'.heap.size/\w'.heap[b]? = w.heap[b]?):Am G w' ds cs:=
 ⟨h.1,fun i u d h1 h2=>(h.2 i u d h1 h2).mono hk⟩
theorem Af.mono{a:Option Addr}{l:List (List Dat)}(h:Af F w a l)(hk:∀b,F b->b<w.heap.size->G b/\b<w'.heap.size/\w'.heap[b]? = w.heap[b]?):Af G w' a l:=by
 intro j ds hj;obtain⟨b,off,cs,ha,hF,hb,hd,hc⟩:=h j ds hj;obtain⟨h1,h2,h3⟩:=hk b hF hb;exact⟨b,off,cs,ha,h1,h2,hd.mono hk,fun i u hu=>(World.cell?_of_block h3).trans (hc i u hu)⟩
theorem Dk.one_inv{v u:Value}(h:Dk F w (.one v) u):u=v:=by cases h;rfl
theorem Dk.rowb_inv{bo:Bool}{l:List (List Dat)}{u:Value}(h:Dk F w (.rowb bo l) u):∃a cap,u = .slice a l.length cap/\(bo=true->l.length<=cap)/\Af F w a l:=by
 cases h with
 | rowb bo l a cap hcap vs hlen hcell hsz hsub=>
  refine⟨a,cap,rfl,hcap,fun j ds hj=>?_⟩;have aB:=(lgS.1 hj).1;have aD:vs[j]? = some (vs[j]'(by omega)):=lgE (by omega);obtain⟨b,off,ha,hF,hb,hc⟩:=hcell j _ aD;refine⟨b,off,_,ha,hF,hb,⟨hsz j _ _ aD hj,fun i u d h1 h2=>hsub j _ _ i u d aD hj h1 h2⟩,fun i u hu=>?_⟩;rw[<-hsz j _ _ aD hj];exact hc i u hu
theorem Dk.row_inv{l:List (List Dat)}{u:Value}(h:Dk F w (.row l) u):∃a cap,u = .slice a l.length cap/\Af F w a l:=by
 obtain⟨a,cap,h1,-,h2⟩:=h.rowb_inv;exact⟨a,cap,h1,h2⟩
theorem Dk.rowb_mk{bo:Bool}{l:List (List Dat)}{a:Option Addr}(cap:Nat)(hcap:bo=true->l.length<=cap)(h:Af F w a l):Dk F w (.rowb bo l) (.slice a l.length cap):=by
 have hex:∀j:Fin l.length,∃cs:List Value,Am F w l[j] cs/\∃b off,a=some ⟨b,off,none⟩/\F b/\b<w.heap.size/\∀(i:Nat) u,cs[i]? = some u->w.cell? ⟨b,off+j*(l[j]).length+i,none⟩=some u:=by
  intro j;obtain⟨b,off,cs,ha,hF,hb,hd,hc⟩:=h j _ (lgE j.2);exact⟨cs,hd,b,off,ha,hF,hb,hc⟩
 obtain⟨f,hf⟩:=Classical.axiomOfChoice hex;have aC:∀(j:Nat) cs,(List.ofFn f)[j]? = some cs->∃hj:j<l.length,cs=f ⟨j,hj⟩:=by
  intro j cs hj;obtain⟨h1,h2⟩:=lgS.1 hj;rw[List.length_ofFn] at h1;exact⟨h1,by rw[<-h2,List.getElem_ofFn]⟩
 refine .rowb bo l a cap hcap (List.ofFn f) (by simp) ?_ ?_ ?_
 ·intro j cs hj;obtain⟨aB,rfl⟩:=aC j cs hj;obtain⟨hd,b,off,ha,hF,hb,hc⟩:=hf ⟨j,aB⟩;refine⟨b,off,ha,hF,hb,fun i u hu=>?_⟩;rw[hd.1];exact hc i u hu
 ·intro j cs ds hj hl;obtain⟨aB,rfl⟩:=aC j cs hj;rw[lgE aB] at hl;cases hl;exact(hf ⟨j,aB⟩).1.1
 ·intro j cs ds i u d hj hl hu hd;obtain⟨aB,rfl⟩:=aC j cs hj;rw[lgE aB] at hl;cases hl;exact(hf ⟨j,aB⟩).1.2 i u d hu hd
theorem Dk.row_mk{l:List (List Dat)}{a:Option Addr}(cap:Nat)(h:Af F w a l):Dk F w (.row l) (.slice a l.length cap):=Dk.rowb_mk cap (fun h=>by cases h) h
theorem Am.nil:Am F w [] []:=⟨rfl,fun i u d h _=>by simp at h⟩
theorem Am.cons_inv{d:Dat}{ds:List Dat}{cs:List Value}(h:Am F w (d::ds) cs):∃c cs',cs=c::cs'/\Dk F w d c/\Am F w ds cs':=by
 obtain⟨h1,h2⟩:=h;cases cs with
 | nil=>simp at h1
 | cons c cs'=>exact⟨c,cs',rfl,h2 0 c d rfl rfl,by simpa using h1,fun i u d' hu hd=>h2 (i+1) u d' (by simpa using hu) (by simpa using hd)⟩
theorem Am.nil_inv{cs:List Value}(h:Am F w [] cs):cs=[]:=List.length_eq_zero_iff.1 h.1
theorem Am.cons{d:Dat}{ds:List Dat}{c:Value}{cs:List Value}(h1:Dk F w d c)(h2:Am F w ds cs):Am F w (d::ds) (c::cs):=by
 refine⟨by simp[h2.1],fun i u d' hu hd=>?_⟩;cases i with
 | zero=>simp at hu hd;rw[<-hu,<-hd];exact h1
 | succ i=>exact h2.2 i u d' (by simpa using hu) (by simpa using hd)
theorem Af.nil(a:Option Addr):Af F w a []:=fun j ds h=>by simp at h
theorem Gs(F:Nat->Prop)(hb:Below w.heap.size w w'):∀b,F b->b<w.heap.size->F b/\b<w'.heap.size/\w'.heap[b]? = w.heap[b]?:=
 fun b hF hl=>⟨hF,nll hl hb.size,hb.block b hl⟩
theorem Af.below{a:Option Addr}{l:List (List Dat)}(h:Af F w a l)(hb:Below w.heap.size w w'):Af F w' a l:=h.mono (Gs F hb)
theorem Am.below{ds:List Dat}{cs:List Value}(h:Am F w ds cs)(hb:Below w.heap.size w w'):Am F w' ds cs:=h.mono (Gs F hb)
theorem Af.here{a:Option Addr}{l:List (List Dat)}(h:Af F w a l):Af (fun b=>F b/\b<w.heap.size) w a l:=h.mono fun _b h1 h2=>⟨⟨h1,h2⟩,h2,rfl⟩
theorem Af.wider{a:Option Addr}{l:List (List Dat)}(h:Af F w a l)(hg:∀b,F b->b<w.heap.size->G b):Af G w a l:=h.mono fun b h1 h2=>⟨hg b h1 h2,h2,rfl⟩
theorem Am.wider{ds:List Dat}{cs:List Value}(h:Am F w ds cs)(hg:∀b,F b->b<w.heap.size->G b):Am G w ds cs:=h.mono fun b h1 h2=>⟨hg b h1 h2,h2,rfl⟩
theorem Af.drop{b off n:Nat}{l:List (List Dat)}(h:Af F w (some ⟨b,off,none⟩) l)(hn:∀ds∈l,ds.length=n)(k:Nat):Af F w (some ⟨b,off+k*n,none⟩) (l.drop k):=by
 intro j ds hj;rw[List.getElem?_drop] at hj;obtain⟨b',off',cs,ha,hF,hb,hd,hc⟩:=h (k+j) ds hj;cases ha;refine⟨b,off+k*n,cs,rfl,hF,hb,hd,fun i u hu=>?_⟩;have:=hc i u hu;rw[hn ds (lgM hj)] at this |-;rw[show off+k*n+j*n+i=off+(k+j)*n+i by rw[Nat.add_mul];omega];exact this
end
def Bl(l:List ByteArray):List (List Dat):=l.map fun s=>[.one (.string s)]
theorem Jm(l):(Bl l).length=l.length:=by simp[Bl]
theorem Af.strs{F w a l}(h:Af F w a (Bl l)):Dj w a l:=by
 intro j x hj;obtain⟨b,off,cs,ha,hF,hb,hd,hc⟩:=h j [.one (.string x)] (by simp[Bl,hj]);obtain⟨c,cs',rfl,h1,h2⟩:=hd.cons_inv;obtain rfl:=h1.one_inv;exact⟨b,off,ha,by have:=hc 0 _ rfl;simpa using this⟩
mutual
def toDat{H:Type}:DataW H->List Dat
 | .lit (.int q n)=>[.one (.int q n)]
 | .lit (.bool b)=>[.one (.bool b)]
 | .lit (.string bs)=>[.one (.string ⟨bs.toArray⟩)]
 | .nil=>[.row []]
 | .slice es _=>[.row (Lx es)]
 | .agg ps=>Ly ps
 | _=>[]
def Lx{H:Type}:List (DataW H)->List (List Dat)
 | []=>[]
 | d::t=>toDat d::Lx t
def Ly{H:Type}:List (DataW H)->List Dat
 | []=>[]
 | d::t=>toDat d++Ly t
end
theorem Kd{H}(l:List (DataW H)):Lx l=l.map toDat:=by
 induction l with
 | nil=>simp[Lx]
 | cons n t ih=>simp[Lx,ih]
theorem Am.append{F w ds es cs us}(h:Am F w ds cs)(k:Am F w es us):Am F w (ds++es) (cs++us):=by
 induction ds generalizing cs with
 | nil=>rw[h.nil_inv];exact k
 | cons d t ih=>
  obtain⟨c,cs',rfl,h1,h2⟩:=h.cons_inv;exact .cons h1 (ih h2)
section
variable {H:Type} {enc:TypeId×Value->H} {P:Program} {W:World}
def offsOk(P:Program):List Field->Nat->Nat->Bool
 | [],o,n=>o==n
 | f::r,o,n=>f.offset==o&&offsOk P r (o+P.cellsOf f.type) n
def okT(P:Program)(T:List TypeId)(t:TypeId):Bool:=
 match P.underlying t with
 | some (.int _)=>true
 | some .bool=>true
 | some .string=>true
 | some (.slice e)=>T.contains e&&decide (0<P.cellsOf e)
 | some (.struct fs)=>fs.toList.all (fun f=>T.contains f.type)&&offsOk P fs.toList 0 (P.cellsOf t)
 | _=>false
theorem Rv{α β:Type}{f:α->Option β}:∀{l:List α} {r:List β},l.mapM f=some r->r.length=l.length/\∀(i:Nat) x,l[i]? = some x->f x=r[i]?
 | [],r,h=>by
  simp at h;subst h;exact⟨rfl,fun i x hx=>by simp at hx⟩
 | a::t,r,h=>by
  rw[List.mapM_cons] at h;cases ha:f a with
  | none=>rw[ha] at h;simp at h
  | some b=>
   rw[ha] at h;cases ht:t.mapM f with
   | none=>rw[ht] at h;simp at h
   | some r'=>
    rw[ht] at h;simp at h;subst h;obtain⟨h1,h2⟩:=Rv ht;refine⟨by simp[h1],fun i x hx=>?_⟩;cases i with
    | zero=>simp at hx;subst hx;simpa using ha
    | succ i=>simpa using h2 i x (by simpa using hx)
theorem Pm{w:World}{a:Addr}{n:Nat}{cs:List Value}(h:w.cells? 0 a n=some cs):cs.length=n/\∀(i:Nat) u,cs[i]? = some u->w.cell? (a.add i)=some u:=by
 unfold World.cells? at h;rw[if_pos (nlz _)] at h;obtain⟨h1,h2⟩:=Rv h;rw[List.length_range] at h1;refine⟨h1,fun i u hu=>?_⟩;have hi:=(lgS.1 hu).1;have hr:(List.range n)[i]? = some i:=List.getElem?_range (by omega);rw[h2 i i hr,hu]
theorem Qj{w:World}{a:Addr}{v:Value}(h:w.cell? a=some v):a.spot=none:=by
 unfold World.cell? at h;split at h
 ·split at h
  ·cases h
  ·rename_i hs;simpa using hs
 ·cases h
theorem Lz{w:World}{a:Addr}{v:Value}(h:w.cell? a=some v):a.block<w.heap.size:=by
 unfold World.cell? at h;split at h
 ·rename_i hb
  exact(agS.1 hb).1
 ·cases h
theorem Rw{T:List TypeId}(hT:T.all (okT P T)=true):∀(fuel:Nat) (t:TypeId) (cs:List Value) (d:DataW H) (ps:List MemPlace),t∈T->DataW.trod enc P W 0 (fun _=>true) true fuel t cs=some (d,ps)->Am (fun b=>b<W.heap.size) W (toDat d) cs:=by
 intro fuel
 induction fuel with
 | zero=>intro t cs d ps _ h;simp[DataW.trod] at h
 | succ fuel ih=>
  intro t cs d ps ht h;have aB:=List.all_eq_true.1 hT t ht;unfold okT at aB;split at aB
  ·rename_i q hu
   obtain⟨n,rfl,hx,-⟩:=DataW.trod_int hu h;cases hx;rw[toDat];exact .cons (.one _) .nil
  ·rename_i hu
   obtain⟨n,rfl,hx⟩:=DataW.trod_bool hu h;cases hx;rw[toDat];exact .cons (.one _) .nil
  ·rename_i hu
   obtain⟨s,rfl,hx,-⟩:=DataW.trod_string hu h;cases hx;rw[toDat];exact .cons (.one _) .nil
  ·rename_i e hu
   simp only[bAt,decide_eq_true_eq,List.contains_iff_mem] at aB;obtain⟨he,hsz⟩:=aB;rcases DataW.trod_slice hu h with⟨rfl,hx⟩|⟨a,len,cap,elems,rest,n,hn,rfl,hx,-,hl,hm,hlen,hel,-,-⟩
   ·cases hx;rw[toDat];exact .cons (Dk.row_mk (l:=[]) 0 (Af.nil none)) .nil
   ·cases hx;cases hn;rw[toDat];have hrl:(Lx (elems.map (·.1))).length=len:=(by rw[Kd,lnM,lnM,hlen]);refine .cons ?_ .nil;rw[<-hrl];refine Dk.row_mk cap (fun j ds hj=>?_);rw[Kd,lgP,lgP] at hj;cases hej:elems[j]? with
    | none=>rw[hej] at hj;cases hj
    | some y=>
     rw[hej] at hj;simp only[Option.map_some,Option.some.injEq] at hj;subst hj;have hjl:j<len:=(by rw[<-hlen];exact(lgS.1 hej).1);have h1:=hel j hjl;rw[hej] at h1;cases hcs:W.cells? 0 (a.add (j*P.cellsOf e)) (P.cellsOf e) with
     | none=>rw[hcs] at h1;cases h1
     | some us=>
      rw[hcs] at h1;have h2:=ih e us y.1 y.2 he h1;obtain⟨h3,h4⟩:=Pm hcs;have h5:=h4 0 (us[0]'(by omega)) (lgE (by omega));have h0l:0<len:=(by omega);have aE:=hel 0 h0l;have he0:elems[0]? = some (elems[0]'(by omega)):=lgE _;rw[he0] at aE;obtain⟨b,off,spot⟩:=a;have hsp:spot=none:=by
       cases hc0:W.cells? 0 ((⟨b,off,spot⟩:Addr).add (0*P.cellsOf e)) (P.cellsOf e) with
       | none=>rw[hc0] at aE;cases aE
       | some vs=>
        obtain⟨h30,h40⟩:=Pm hc0;have h50:=h40 0 (vs[0]'(by omega)) (lgE (by omega));have:=Qj h50
        simpa[Addr.add] using this
      subst hsp;have aD:∀k,(⟨b,off,none⟩:Addr).add k=⟨b,off+k,none⟩:=fun k=>by unfold Addr.add;split<;>simp_all
      have hbl:b<W.heap.size:=by
       have:=Lz h5;rw[aD,show ∀o k,(⟨b,o,none⟩:Addr).add k=⟨b,o+k,none⟩ from fun o k=>by unfold Addr.add;split<;>simp_all] at this
       exact this
      refine⟨b,off,us,rfl,hbl,hbl,h2,fun i u hu=>?_⟩;have h6:=h4 i u hu;rw[aD,show ∀o k,(⟨b,o,none⟩:Addr).add k=⟨b,o+k,none⟩ from fun o k=>by unfold Addr.add;split<;>simp_all] at h6
      rw[<-h2.1,h3];exact h6
  ·rename_i fs hu
   simp only[bAt] at aB;obtain⟨aF,aG⟩:=aB;obtain⟨xs,n,hn,hx,hl,hxl,hf⟩:=DataW.trod_struct hu h;cases hx;cases hn;rw[toDat];have key:∀(fl:List Field) (ys:List (DataW H×List MemPlace)) (o:Nat),ys.length=fl.length->fl.all (fun f=>T.contains f.type)=true->offsOk P fl o (P.cellsOf t)=true ->
     (∀(i:Nat) f,fl[i]? = some f->DataW.trod enc P W 0 (fun _=>true) true fuel f.type ((cs.drop f.offset).take (P.cellsOf f.type))=ys[i]?)->o<=cs.length->Am (fun b=>b<W.heap.size) W (Ly (ys.map (·.1))) (cs.drop o):=by
    intro fl
    induction fl with
    | nil=>
     intro ys o hy _ ho _ hle;have:ys=[]:=List.length_eq_zero_iff.1 hy;subst this;simp only[offsOk,beq_iff_eq] at ho;rw[List.drop_of_length_le (by omega)];simp only[List.map_nil,Ly];exact .nil
    | cons f r ih2=>
     intro ys o hy ha ho hg hle;cases ys with
     | nil=>simp at hy
     | cons y yr=>
      simp only[offsOk,bAt,beq_iff_eq] at ho;obtain⟨ho1,aJ⟩:=ho;simp only[List.all_cons,bAt,List.contains_iff_mem] at ha;have h1:=hg 0 f rfl;rw[ho1] at h1;have h2:=ih f.type _ y.1 y.2 ha.1 h1;have hsz:((cs.drop o).take (P.cellsOf f.type)).length=(toDat y.1).length:=h2.1;have aH:o+P.cellsOf f.type<=cs.length:=by
       have mono:∀(l:List Field) (o n:Nat),offsOk P l o n=true->o<=n:=by
        intro l
        induction l with
        | nil=>intro o n h;simp only[offsOk,beq_iff_eq] at h;omega
        | cons g r ih3=>
         intro o n h;simp only[offsOk,bAt,beq_iff_eq] at h;have:=ih3 _ _ h.2;omega
       have:=mono _ _ _ aJ;omega
      have h3:=ih2 yr (o+P.cellsOf f.type) (by simpa using hy) ha.2 aJ (fun i g hgi=>by simpa using hg (i+1) g (by simpa using hgi)) aH;have aC:cs.drop o=(cs.drop o).take (P.cellsOf f.type)++cs.drop (o+P.cellsOf f.type):=by
       rw[<-List.drop_drop,List.take_append_drop]
      rw[aC,List.map_cons,Ly];exact h2.append h3
   have:=key fs.toList xs 0 (by simpa using hxl) aF aG (fun i f hfi=>hf i f (by simpa using hfi)) (nlz _)
   simpa using this
  ·cases aB
end
inductive Vl where
 | mk (kind n:Int) (s:ByteArray) (l:List Vl) (ks:List ByteArray)
namespace Vl
def kind:Vl->Int | .mk k _ _ _ _=>k
def num:Vl->Int | .mk _ n _ _ _=>n
def str:Vl->ByteArray | .mk _ _ s _ _=>s
def items:Vl->List Vl | .mk _ _ _ l _=>l
def keys:Vl->List ByteArray | .mk _ _ _ _ ks=>ks
end Vl
def vZero:Vl:=.mk 0 0 ⟨#[]⟩ [] []
mutual
def valD:Vl->List Dat
 | .mk k n s l ks=>[.one (.int .i64 k),.one (.int .i64 n),.one (.string s),.row (Ar l),.row (Bl ks)]
def Ar:List Vl->List (List Dat)
 | []=>[]
 | v::t=>valD v::Ar t
end
theorem E9(l):Ar l=l.map valD:=by
 induction l with
 | nil=>simp[Ar]
 | cons n t ih=>simp[Ar,ih]
theorem Bd(l):(Ar l).length=l.length:=by rw[E9,lnM]
theorem Ea(l m):Ar (l++m)=Ar l++Ar m:=by rw[E9,E9,E9,List.map_append]
theorem valD_len(v):(valD v).length=5:=by obtain⟨k,n,s,l,ks⟩:=v;rfl
section
variable {F:Nat->Prop} {w:World}
theorem Am.val{k n:Int}{s:ByteArray}{l:List Vl}{ks:List ByteArray}{cs:List Value}(h:Am F w (valD (.mk k n s l ks)) cs):
  ∃a c a' c',cs=[.int .i64 k,.int .i64 n,.string s,.slice a l.length c,.slice a' ks.length c']/\Af F w a (Ar l)/\Af F w a' (Bl ks):=by
 rw[valD] at h;obtain⟨c0,cs,rfl,h0,h⟩:=h.cons_inv;obtain⟨c1,cs,rfl,h1,h⟩:=h.cons_inv;obtain⟨c2,cs,rfl,h2,h⟩:=h.cons_inv;obtain⟨c3,cs,rfl,h3,h⟩:=h.cons_inv;obtain⟨c4,cs,rfl,h4,h⟩:=h.cons_inv;obtain rfl:=h.nil_inv;obtain rfl:=h0.one_inv;obtain rfl:=h1.one_inv;obtain rfl:=h2.one_inv;obtain⟨a,cap,rfl,hr⟩:=h3.row_inv;obtain⟨a',cap',rfl,hr'⟩:=h4.row_inv;exact⟨a,cap,a',cap',by rw[Bd,Jm],hr,hr'⟩
theorem Am.val_mk(k n:Int)(s:ByteArray){l:List Vl}{ks:List ByteArray}{a a':Option Addr}(c c':Nat)(h:Af F w a (Ar l))(h':Af F w a' (Bl ks)):
  Am F w (valD (.mk k n s l ks)) [.int .i64 k,.int .i64 n,.string s,.slice a l.length c,.slice a' ks.length c']:=by
 rw[valD];exact .cons (.one _) (.cons (.one _) (.cons (.one _) (.cons (by rw[<-Bd l];exact Dk.row_mk c h) (.cons (by rw[<-Jm ks];exact Dk.row_mk c' h') .nil))))
theorem Af.val{a:Option Addr}{l:List Vl}(h:Af F w a (Ar l)){j:Nat}{k n:Int}{s:ByteArray}{m:List Vl}{ks:List ByteArray}(hj:l[j]? = some (.mk k n s m ks)):
  ∃b off a1 c1 a2 c2,a=some ⟨b,off,none⟩/\F b/\b<w.heap.size/\w.cell? ⟨b,off+j*5,none⟩=some (.int .i64 k)/\w.cell? ⟨b,off+j*5+1,none⟩=some (.int .i64 n)/\w.cell? ⟨b,off+j*5+2,none⟩=some (.string s) /\
   w.cell? ⟨b,off+j*5+3,none⟩=some (.slice a1 m.length c1)/\w.cell? ⟨b,off+j*5+4,none⟩=some (.slice a2 ks.length c2)/\Af F w a1 (Ar m)/\Af F w a2 (Bl ks):=by
 obtain⟨b,off,cs,ha,hF,hb,hd,hc⟩:=h j (valD (.mk k n s m ks)) (by rw[E9,lgP,hj];rfl);obtain⟨a1,c1,a2,c2,rfl,hr,hr'⟩:=hd.val;rw[valD_len] at hc;exact⟨b,off,a1,c1,a2,c2,ha,hF,hb,hc 0 _ rfl,hc 1 _ rfl,hc 2 _ rfl,hc 3 _ rfl,hc 4 _ rfl,hr,hr'⟩
end
def risesGo:Option ByteArray->List ByteArray->Bool
 | _,[]=>true
 | p,s::t=>decide (s.size<=65536)&&(match p with|none=>true|some q=>Op.bytesLess q.toList s.toList)&&risesGo (some s) t
def risesL(l:List ByteArray):Bool:=risesGo none l&&decide (l.length<=1000)
def inR(n:Int):Bool:=decide (-9223372036854775808<=n)&&decide (n<=9223372036854775807)
def By(k n:Int)(s:ByteArray)(l:List Vl)(ks:List ByteArray):Bool:=
 if k=0 then n==0&&s.toList.isEmpty&&l.isEmpty&&ks.isEmpty
 else if k=1 then(n==0||n==1)&&s.toList.isEmpty&&l.isEmpty&&ks.isEmpty
 else if k=2 then inR n&&s.toList.isEmpty&&l.isEmpty&&ks.isEmpty
 else if k=3 then n==0&&decide (s.size<=65536)&&l.isEmpty&&ks.isEmpty
 else if k=4 then n==0&&s.toList.isEmpty&&decide (l.length<=1000)&&ks.isEmpty
 else if k=5 then n==0&&s.toList.isEmpty&&l.length==ks.length&&risesL ks
 else false
mutual
def mayV:Vl->Int->Int->Bool×Int
 | .mk k n s l ks,d,m=>if 60<d\/m - 1<0 then(false,m - 1) else if By k n s l ks=true then Ck l (d+1) (m - 1) else(false,m - 1)
def Ck:List Vl->Int->Int->Bool×Int
 | [],_,m=>(true,m)
 | v::t,d,m=>if(mayV v d m).1=true then Ck t d (mayV v d m).2 else(false,(mayV v d m).2)
end
def A0(v:Vl):Bool:=(mayV v 1 20000).1
mutual
def sameV:Vl->Vl->Bool
 | .mk k n s l ks,.mk k' n' s' l' ks'=>k==k'&&n==n'&&s.toList==s'.toList&&ks.map (·.toList)==ks'.map (·.toList)&&sameVs l l'
def sameVs:List Vl->List Vl->Bool
 | [],[]=>true
 | v::t,v'::t'=>sameV v v'&&sameVs t t'
 | _,_=>false
end
def Eu(v:Vl):Bool:=A0 v&&(v.num != 0 || !v.str.toList.isEmpty || !v.items.isEmpty)
theorem valsD_all{p:List Dat->Prop}(hp:∀v,p (valD v))(l):∀ds∈Ar l,p ds:=by
 rw[E9];intro ds h;obtain⟨v,-,rfl⟩:=List.mem_map.1 h;exact hp v
def A8(k n:Int)(s:ByteArray)(a1:Option Addr)(l1 c1:Nat)(a2:Option Addr)(l2 c2:Nat):Value:=.agg #[.int .i64 k,.int .i64 n,.string s,.slice a1 l1 c1,.slice a2 l2 c2]
theorem Nm(F g fa lb)(eg:∀args w,(callFunc g args).run Tryz.prog w = .ok (.enter g args) w)(a cap l q I w)(hl:l.length<=9223372036854775807)(h0:I 0 w)(hI:∀k w',I k w'->Af F w' a (Ar l))(hg:∀k kk n s m ks a1 c1 a2 c2 w1,l[k]? = some (.mk kk n s m ks)->I k w1->(∀j,j<k->q j=false)->Af F w1 a1 (Ar m)->Af F w1 a2 (Bl ks) ->
   Calls Tryz.prog g ((fa++#[A8 kk n s a1 m.length c1 a2 ks.length c2])++lb) w1 fun e w2=>e = .returned (.bool (q k))/\I (k+1) w2):
  Calls Tryz.prog 143 #[.slice a l.length cap,.func (.func g) fa lb] w (Found q l.length I):=by
 go_enter Tryz.func143,Tryz.ntmps143;go_wp2
 go_loopw [8] (fun i wr=>∃k:Nat,i = .int .i64 k/\k<=l.length/\I k wr/\∀j,j<k->q j=false) (fun i _=>l.length-(intOf i).toNat)
 case atStart=>exact⟨0,rfl,nlz _,h0,fun j h=>absurd h (Nat.not_lt_zero _)⟩
 case round=>
  obtain⟨k,rfl,hk,aE,hq⟩:=hrel;by_cases hlt:k<l.length
  ·cases hx:l[k] with
   | mk kk n s m ks=>
    have hj:l[k]? = some (.mk kk n s m ks):=(by rw[lgE hlt,hx]);obtain⟨b,off,a1,c1,a2,c2,rfl,hF,hbl,r0,r1,r2,r3,r4,hr1,hr2⟩:=(hI k wr aE).val hj;have aB:=hg k _ _ _ _ _ a1 c1 a2 c2 wr hj aE hq hr1 hr2;unfold A8 at aB;have HC:=Lq7 aB;cases hqk:q k
    ·have aD:=Lq7 hqk;have Hq:=Lq7 hq;go_wp2_with fail;refine HC.out.mono ?_;rintro e w2 ⟨rfl,aC⟩;rw[aD.out];go_wp2;go_roundw
     case rel=>exact⟨k+1,by go_num,by omega,aC,fun j hj=>by by_cases h:j=k;(rw[h];exact aD.out);exact Hq.out j (by omega)⟩
     case measure=>simp only[intOf];omega
    ·have aD:=Lq7 hqk;have Hq:=Lq7 hq;go_wp2_with fail;refine HC.out.mono ?_;rintro e w2 ⟨rfl,aC⟩;rw[aD.out];go_wp2;go_ret;exact .inl ⟨k,hlt,aD.out,Hq.out,rfl,aC⟩
  ·obtain rfl:k=l.length:=(by omega);have Hq:=Lq7 hq;go_wp2;go_ret;exact .inr ⟨Hq.out,rfl,aE⟩
theorem G3(F g fa lb)(eg:∀args w,(callFunc g args).run Tryz.prog w = .ok (.enter g args) w)(a cap l q I w)(hl:l.length<=9223372036854775807)(h0:I 0 w)(hI:∀k w',I k w'->Af F w' a (Ar l))(hg:∀k kk n s m ks a1 c1 a2 c2 w1,l[k]? = some (.mk kk n s m ks)->I k w1->(∀j,j<k->q j=false)->Af F w1 a1 (Ar m)->Af F w1 a2 (Bl ks) ->
   Calls Tryz.prog g ((fa++#[A8 kk n s a1 m.length c1 a2 ks.length c2])++lb) w1 fun e w2=>e = .returned (.bool (q k))/\I (k+1) w2):
  Calls Tryz.prog 87 #[.slice a l.length cap,.func (.func g) fa lb] w (Sy q l.length I):=by
 go_enter Tryz.func87,Tryz.ntmps87;go_wp2_with fail;refine(Nm F g fa lb eg a cap l q I w hl h0 hI hg).mono ?_;rintro e w2 (⟨i,hi,hqi,hq,rfl,aC⟩|⟨hq,rfl,aC⟩)
 ·have Hq:=Lq7 hq;have Hqi:=Lq7 hqi;go_wp2;go_ret;exact .inl ⟨i,hi,Hqi.out,Hq.out,rfl,aC⟩
 ·have Hq:=Lq7 hq;go_wp2;go_ret;exact .inr ⟨Hq.out,rfl,aC⟩
mutual
theorem Jo(v:Vl)(d m:Int)(hm:0<=m): -1<=(mayV v d m).2/\(mayV v d m).2<=m - 1/\((mayV v d m).1=true->0<=(mayV v d m).2):=by
 obtain⟨k,n,s,l,ks⟩:=v;rw[mayV];split
 ·exact⟨by simp;omega,by simp,fun h=>by cases h⟩
 ·split
  ·obtain⟨h1,h2,h3⟩:=Nw l (d+1) (m - 1) (by omega);exact⟨h1,h2,h3⟩
  ·exact⟨by simp;omega,by simp,fun h=>by cases h⟩
theorem Nw(l:List Vl)(d m:Int)(hm:0<=m): -1<=(Ck l d m).2/\(Ck l d m).2<=m/\((Ck l d m).1=true->0<=(Ck l d m).2):=by
 cases l with
 | nil=>rw[Ck];exact⟨by simp;omega,by simp,fun _=>hm⟩
 | cons v t=>
  rw[Ck];obtain⟨h1,h2,h3⟩:=Jo v d m hm;split
  ·rename_i h
   obtain⟨h4,h5,h6⟩:=Nw t d (mayV v d m).2 (h3 h);exact⟨h4,by omega,h6⟩
  ·exact⟨h1,by simp;omega,fun h=>by cases h⟩
end
def Ef(d:Int):List Vl->Int->Nat->Int
 | [],m,_=>m
 | _::_,m,0=>m
 | v::t,m,k+1=>Ef d t (mayV v d m).2 k
theorem Eq(d l m):Ef d l m 0=m:=by cases l<;>rfl
theorem Mf(d):∀(l:List Vl) (m:Int) (k:Nat) (v:Vl),l[k]? = some v->Ef d l m (k+1)=(mayV v d (Ef d l m k)).2
 | [],_,_,_,h=>by simp at h
 | x::t,m,0,v,h=>by simp at h;subst h;show Ef d t (mayV x d m).2 0=(mayV x d m).2;exact Eq d t _
 | x::t,m,k+1,v,h=>by
  rw[Ef,Mf d t _ k v (by simpa using h)];rfl
def mayQ(d:Int)(l:List Vl)(m:Int)(k:Nat):Bool:=match l[k]? with|some v=> !(mayV v d (Ef d l m k)).1|none=>false
theorem Lw(d v t m k):mayQ d (v::t) m (k+1)=mayQ d t (mayV v d m).2 k:=rfl
theorem Ph(d):∀(l:List Vl) (m:Int),(∀j,j<l.length->mayQ d l m j=false)->Ck l d m=(true,Ef d l m l.length)
 | [],m,_=>rfl
 | v::t,m,h=>by
  have h0:=h 0 (by simp);have hv:(mayV v d m).1=true:=(by simpa[mayQ,Eq] using h0);rw[Ck,if_pos hv,Ph d t _ (fun j hj=>by rw[<-Lw];exact h (j+1) (by simp;omega))];rfl
theorem Pi(d):∀(l:List Vl) (m:Int) (i:Nat),i<l.length->mayQ d l m i=true->(∀j,j<i->mayQ d l m j=false)->Ck l d m=(false,Ef d l m (i+1))
 | [],_,_,h,_,_=>by simp at h
 | v::t,m,0,_,h,_=>by
  have hv:(mayV v d m).1=false:=(by simpa[mayQ,Eq] using h);rw[Ck,if_neg (by simp[hv]),Ef,Eq]
 | v::t,m,i+1,hi,h,hj=>by
  have h0:=hj 0 (by omega);have hv:(mayV v d m).1=true:=(by simpa[mayQ,Eq] using h0);rw[Ck,if_pos hv,Pi d t _ i (by simpa using hi) h (fun j hj'=>by rw[<-Lw];exact hj (j+1) (by omega))];rfl
theorem Pj(d):∀(l:List Vl) (m:Int) (k:Nat),0<=m->(∀j,j<k->j<l.length->mayQ d l m j=false)->0<=Ef d l m k/\Ef d l m k<=m
 | [],m,_,hm,_=>⟨hm,Int.le_refl _⟩
 | _::_,m,0,hm,_=>⟨hm,Int.le_refl _⟩
 | v::t,m,k+1,hm,h=>by
  have h0:=h 0 (by omega) (by simp);have hv:(mayV v d m).1=true:=(by simpa[mayQ,Eq] using h0);obtain⟨h1,h2,h3⟩:=Jo v d m hm;obtain⟨h4,h5⟩:=Pj d t (mayV v d m).2 k (h3 hv) (fun j hj hl=>by rw[<-Lw];exact h (j+1) (by omega) (by simp;omega));exact⟨h4,by rw[Ef];omega⟩
theorem Lc(p s t):risesGo p (s::t)=(decide (s.size<=65536)&&(match p with|none=>true|some q=>Op.bytesLess q.toList s.toList)&&risesGo (some s) t):=by cases p<;>rfl
def Jk(ks:List ByteArray)(k:Nat):Option ByteArray:=if k=0 then none else ks[k - 1]?
theorem Xh(a cap ks w)(hr:Dj w a ks)(hl:ks.length<=140737488355328)(hsz:∀s∈ks,s.size<=9223372036854775807):
  Calls Tryz.prog 86 #[.slice a ks.length cap] w (fun e w'=>e = .returned (.bool (risesL ks))/\w=w'):=by
 have Hr:=Lq7 hr;have Hsz:=Lq7 hsz;clear hr hsz;go_enter Tryz.func86,Tryz.ntmps86;go_wp2
 go_loop [7] (fun i=>∃k:Nat,i = .int .i64 k/\k<=ks.length/\Hid (risesGo none ks=risesGo (Jk ks k) (ks.drop k))) (fun i=>ks.length-(intOf i).toNat)
 case atStart=>exact⟨0,rfl,nlz _,Lq7 rfl⟩
 case round=>
  obtain⟨k,rfl,hk,aC⟩:=hrel;by_cases hlt:k<ks.length
  ·obtain⟨b,off,rfl,hc⟩:=Hr.out.at hlt;have hs0:=Hsz.out _ (List.getElem_mem hlt);have hd:ks.drop k=ks[k]::ks.drop (k+1):=List.drop_eq_getElem_cons hlt;have aB:Hid (risesGo none ks=(decide (ks[k].size<=65536)&&(match Jk ks k with|none=>true|some q=>Op.bytesLess q.toList ks[k].toList)&&risesGo (some ks[k]) (ks.drop (k+1)))):=Lq7 (by rw[aC.out,hd,Lc]);have Hp:Hid (Jk ks (k+1)=some ks[k]):=Lq7 (by unfold Jk;rw[if_neg (by omega),Nat.add_sub_cancel];exact lgE hlt);clear aC hd;by_cases hbig:(65536:Int)<ks[k].size
   ·have Hf:Hid (risesL ks=false):=Lq7 (by unfold risesL;rw[aB.out,decide_eq_false (by omega)];rfl);go_wp2;go_ret;exact⟨A7 Hf.out.symm,rfl⟩
   ·have aD:Hid (decide (ks[k].size<=65536)=true):=Lq7 (decide_eq_true (by omega));cases k with
    | zero=>
     have Hn:Hid (risesGo none ks=risesGo (Jk ks (0+1)) (ks.drop (0+1))):=Lq7 (by rw[aB.out,aD.out,Hp.out];rfl);rw[Nat.add_zero] at hc;go_wp2;go_round
     case rel=>exact⟨0+1,by go_num,by omega,Hn⟩
     case measure=>simp[intOf];omega
    | succ j=>
     obtain⟨b',off',hb',hc'⟩:=Hr.out.at (k:=j) (by omega);cases hb';have Hq:Hid (Jk ks (j+1)=some ks[j]):=Lq7 (by unfold Jk;rw[if_neg (by omega),Nat.add_sub_cancel];exact lgE _);have hjn:((j+1:Nat):Int) - 1=(j:Int):=(by omega);cases hless:Op.bytesLess ks[j].toList ks[j+1].toList
     ·have Hf:Hid (risesL ks=false):=Lq7 (by unfold risesL;rw[aB.out,aD.out,Hq.out];simp only[hless,Bool.and_false,Bool.false_and]);go_wp2;go_ret;exact⟨A7 Hf.out.symm,rfl⟩
     ·have Hn:Hid (risesGo none ks=risesGo (Jk ks (j+1+1)) (ks.drop (j+1+1))):=Lq7 (by rw[aB.out,aD.out,Hq.out,Hp.out];simp only[hless,Bool.true_and]);go_wp2;go_round
      case rel=>exact⟨j+1+1,by go_num,by omega,Hn⟩
      case measure=>simp[intOf];omega
  ·have Hf:Hid (risesL ks=decide (ks.length<=1000)):=Lq7 (by unfold risesL;rw[aC.out,List.drop_eq_nil_of_le (by omega)];rfl);go_wp2;go_ret;refine⟨A7 ?_,rfl⟩;rw[Hf.out,Bool.eq_iff_iff,decide_eq_true_eq,decide_eq_true_eq];omega
theorem infoVal:(Tryz.prog.info? 42).map (fun i=>(i.zero,i.size,i.bytes))=some (some (.agg #[.int .i64 0,.int .i64 0,.string ByteArray.empty,.slice none 0 0,.slice none 0 0]),5,80):=by kernel_rfl
def Ge(q:ByteArray×Vl):List Dat:=.one (.string q.1)::valD q.2
def Bv(l:List (ByteArray×Vl)):List (List Dat):=l.map Ge
theorem Tj(q):(Ge q).length=6:=by simp[Ge,valD_len]
theorem Er(l):(Bv l).length=l.length:=by simp[Bv]
theorem Jf(l m):Bv (l++m)=Bv l++Bv m:=by simp[Bv]
section
variable {F:Nat->Prop} {w:World}
theorem Am.named{nm:ByteArray}{k n:Int}{s:ByteArray}{l:List Vl}{ks:List ByteArray}{cs:List Value}(h:Am F w (Ge (nm,.mk k n s l ks)) cs):
  ∃a c a' c',cs=[.string nm,.int .i64 k,.int .i64 n,.string s,.slice a l.length c,.slice a' ks.length c']/\Af F w a (Ar l)/\Af F w a' (Bl ks):=by
 obtain⟨c0,cs',rfl,h0,h'⟩:=Am.cons_inv (d:=.one (.string nm)) (ds:=valD (.mk k n s l ks)) h;obtain rfl:=h0.one_inv;obtain⟨a,c,a',c',rfl,h1,h2⟩:=Am.val h';exact⟨a,c,a',c',rfl,h1,h2⟩
theorem Am.named_mk(nm:ByteArray)(k n:Int)(s:ByteArray){l:List Vl}{ks:List ByteArray}{a a':Option Addr}(c c':Nat)(h:Af F w a (Ar l))(h':Af F w a' (Bl ks)):
  Am F w (Ge (nm,.mk k n s l ks)) [.string nm,.int .i64 k,.int .i64 n,.string s,.slice a l.length c,.slice a' ks.length c']:=
 .cons (.one _) (Am.val_mk k n s c c' h h')
theorem Af.named{a:Option Addr}{l:List (ByteArray×Vl)}(h:Af F w a (Bv l)){j:Nat}{nm:ByteArray}{k n:Int}{s:ByteArray}{m:List Vl}{ks:List ByteArray}(hj:l[j]? = some (nm,.mk k n s m ks)):
  ∃b off a1 c1 a2 c2,a=some ⟨b,off,none⟩/\F b/\b<w.heap.size/\w.cell? ⟨b,off+j*6,none⟩=some (.string nm)/\w.cell? ⟨b,off+j*6+1,none⟩=some (.int .i64 k)/\w.cell? ⟨b,off+j*6+2,none⟩=some (.int .i64 n)/\w.cell? ⟨b,off+j*6+3,none⟩=some (.string s) /\
   w.cell? ⟨b,off+j*6+4,none⟩=some (.slice a1 m.length c1)/\w.cell? ⟨b,off+j*6+5,none⟩=some (.slice a2 ks.length c2)/\Af F w a1 (Ar m)/\Af F w a2 (Bl ks):=by
 obtain⟨b,off,cs,ha,hF,hb,hd,hc⟩:=h j (Ge (nm,.mk k n s m ks)) (by rw[Bv,lgP,hj];rfl);obtain⟨a1,c1,a2,c2,rfl,hr,hr'⟩:=Am.named hd;rw[Tj] at hc;exact⟨b,off,a1,c1,a2,c2,ha,hF,hb,hc 0 _ rfl,hc 1 _ rfl,hc 2 _ rfl,hc 3 _ rfl,hc 4 _ rfl,hc 5 _ rfl,hr,hr'⟩
end
theorem D5(w o1 o2):((w.alloc o1).alloc o2).heap[w.heap.size]? = some o1/\((w.alloc o1).alloc o2).heap[w.heap.size+1]? = some o2/\Below w.heap.size w ((w.alloc o1).alloc o2)/\((w.alloc o1).alloc o2).heap.size=w.heap.size+2:=by
 refine⟨?_,?_,((Below.refl _ w).alloc (nlr _) _).alloc (by simp) _,by simp⟩
 ·rw[Below.heap_alloc _ _ _ (by simp)];exact heap_alloc_new w _
 ·have:=heap_alloc_new (w.alloc o1) o2
  simpa using this
theorem Ch(w o1 o2 o3):(((w.alloc o1).alloc o2).alloc o3).heap[w.heap.size]? = some o1/\(((w.alloc o1).alloc o2).alloc o3).heap[w.heap.size+1]? = some o2/\(((w.alloc o1).alloc o2).alloc o3).heap[w.heap.size+1+1]? = some o3/\Below w.heap.size w (((w.alloc o1).alloc o2).alloc o3)/\(((w.alloc o1).alloc o2).alloc o3).heap.size=w.heap.size+3:=by
 obtain⟨h1,h2,h3,h4⟩:=D5 w o1 o2;refine⟨?_,?_,?_,h3.alloc (by rw[h4];omega) _,by simp⟩
 ·rw[Below.heap_alloc _ _ _ (by rw[h4];omega)];exact h1
 ·rw[Below.heap_alloc _ _ _ (by rw[h4];omega)];exact h2
 ·have:=heap_alloc_new ((w.alloc o1).alloc o2) o3
  simpa using this
theorem alloc4(w o1 o2 o3 o4):((((w.alloc o1).alloc o2).alloc o3).alloc o4).heap[w.heap.size]? = some o1/\((((w.alloc o1).alloc o2).alloc o3).alloc o4).heap[w.heap.size+1]? = some o2/\((((w.alloc o1).alloc o2).alloc o3).alloc o4).heap[w.heap.size+1+1]? = some o3/\((((w.alloc o1).alloc o2).alloc o3).alloc o4).heap[w.heap.size+1+1+1]? = some o4 /\
  Below w.heap.size w ((((w.alloc o1).alloc o2).alloc o3).alloc o4)/\((((w.alloc o1).alloc o2).alloc o3).alloc o4).heap.size=w.heap.size+4:=by
 obtain⟨h1,h2,h3,h4,h5⟩:=Ch w o1 o2 o3;refine⟨?_,?_,?_,?_,h4.alloc (by rw[h5];omega) _,by simp⟩
 ·rw[Below.heap_alloc _ _ _ (by rw[h5];omega)];exact h1
 ·rw[Below.heap_alloc _ _ _ (by rw[h5];omega)];exact h2
 ·rw[Below.heap_alloc _ _ _ (by rw[h5];omega)];exact h3
 ·have:=heap_alloc_new (((w.alloc o1).alloc o2).alloc o3) o4
  simpa using this
theorem stays{w w':World}{b:Nat}{o:Obj}(h:w.heap[b]? = some o)(hb:Below w.heap.size w w'):w'.heap[b]? = some o:=(hb.block _ (agS.1 h).1).trans h
theorem here{w:World}{b:Nat}{o:Obj}(h:w.heap[b]? = some o):b<w.heap.size:=(agS.1 h).1
section
variable {P:Program} {w:World}
theorem Kt(base:Nat)(t ty e:TypeId)(i:TypeInfo)(z:Value)(size bytes:Nat)(ht:P.underlying t=some (.slice e))(hi:P.info? e=some i)(hz:i.zero=some z)
  (hsize:i.size=size) (hby:i.bytes=bytes) (hzs:z.cells.size=size) (hsz:0<size)
  (v:Value) (n:Nat) (xs:List Value) (hown:w.ownsRow base e size v n xs)
  (a:Addr) (m c:Nat) (news:List Value) (hl:news.length=m*size) (hnews:∀j u,news[j]? = some u->w.cell? (a.add j)=some u) (h1:∀u∈news,u.oneCell'=true)
  (h63:n+m<=maxLen) (hbytes:(n+m)*bytes<=140737488355328) (hbase:base<=w.heap.size):
  ∃v' w',(Builtin.append_ #[t,t] ty #[v,.slice (some a) m c]).run P w = .ok v' w'/\w'.ownsRow base e size v' (n+m) (xs++news)/\w.grownBy w' v.ownBlock /\
   ∀g,v'.ownBlock=some g->v.ownBlock=some g\/w.heap.size<=g:=by
 obtain⟨v',w',hr,h2,h3,h4⟩:=run_append_own w base t ty e i z size bytes ht hi hz hsize hby hzs hsz v n xs hown a m c news hl hnews h1 h63 hbytes hbase;refine⟨v',w',hr,h2,h3,fun g hg=>?_⟩;rcases hown.2 with⟨hv,hn⟩|⟨g0,cap,cur,hv,hbg,hg0,hnc,hcm,aC,htake⟩
 ·subst hv;have hxs:xs=[]:=List.eq_nil_of_length_eq_zero (by rw[hown.1,hn];simp);obtain⟨v2,w2,aB,h22,-,-⟩:=run_append_own w w.heap.size t ty e i z size bytes ht hi hz hsize hby hzs hsz (.slice none 0 0) n xs ⟨hown.1,.inl ⟨rfl,hn⟩⟩ a m c news hl hnews h1 h63 hbytes (nlr _);rw[hr] at aB;cases aB;rcases h22.2 with⟨hv',-⟩|⟨g',cap',cur',hv',hb',-⟩
  ·rw[hv'] at hg;cases hg
  ·rw[hv'] at hg;cases hg;exact .inr hb'
 ·subst hv;by_cases hroom:n+m<=cap
  ·have aB:=run_append_room (P:=P) w t ty e i ht hi g0 n cap cur hg0 a m c news (by rw[hl,hsize]) hnews h1 hroom (by rw[hl,aC,hsize,<-Nat.add_mul];exact Nat.mul_le_mul_right _ hroom);rw[hr] at aB;cases aB;exact .inl hg
  ·subst hsize;have aD:∀j u,xs[j]? = some u->w.cell? ((⟨g0,0,none⟩:Addr).add j)=some u:=hown.cells (g:=g0) rfl;have aB:=run_append_grow (P:=P) w t ty e i z ht hi hz ⟨g0,0,none⟩ n cap xs hown.1 aD a m c news hl hnews (by omega) (by simp only[maxLen] at h63;omega) (growslice_fits (by omega) (by rw[hby];exact hbytes));rw[hr] at aB;cases aB;cases hg;exact .inr (nlr _)
theorem Ct{ops:Array Oper}{rest:List Oper}{o:Oper}{a:Act}{Q:Exit->Act->World->Prop}(hgd:o.guard=none)(s x:Operand)(t:TypeId)
  (ho:o.op = .call { callee:=.builtin .append,args:=#[s,x],argTypes:=#[t,t]})
  (base:Nat) (e:TypeId) (i:TypeInfo) (z:Value) (size bytes:Nat) (ht:P.underlying t=some (.slice e)) (hi:P.info? e=some i) (hz:i.zero=some z)
  (hsize:i.size=size) (hby:i.bytes=bytes) (hzs:z.cells.size=size) (hsz:0<size)
  (v:Value) (n:Nat) (xs:List Value) (hs:a.eval s=v) (hown:w.ownsRow base e size v n xs)
  (ad:Addr) (m c:Nat) (news:List Value) (hx:a.eval x = .slice (some ad) m c) (hl:news.length=m*size) (hnews:∀j u,news[j]? = some u->w.cell? (ad.add j)=some u) (h1:∀u∈news,u.oneCell'=true)
  (h63:n+m<=maxLen) (hbytes:(n+m)*bytes<=140737488355328) (hbase:base<=w.heap.size)
  (h:∀v' w',w'.ownsRow base e size v' (n+m) (xs++news)->w.grownBy w' v.ownBlock->(∀g,v'.ownBlock=some g->v.ownBlock=some g\/w.heap.size<=g)->wpList P ops Q rest (a.put o.dst v') w'):wpList P ops Q (o::rest) a w:=by
 refine wpList_plain hgd fun K hK=>?_;obtain⟨v',w',hr,h2,h3,h4⟩:=Kt (P:=P) base t o.type e i z size bytes ht hi hz hsize hby hzs hsz v n xs hown ad m c news hl hnews h1 h63 hbytes hbase;unfold Oper.wp execOp;simp only[ho,resolve,invoke,builtin,Sem.run_bind,Sem.run_pure,Result.andThen_ok,List.map_toArray,List.map_cons,List.map_nil,hs,hx,hr];exact hK _ _ (h v' w' h2 h3 h4)
end
def OwnD(F:Nat->Prop)(w:World)(base:Nat)(e:TypeId)(size:Nat)(v:Value)(l:List (List Dat)):Prop:=
 ∃css:List (List Value),css.length=l.length/\(∀cs∈css,cs.length=size)/\w.ownsRow base e size v l.length css.flatten /\
  ∀(j:Nat) ds cs,l[j]? = some ds->css[j]? = some cs->Am (fun b=>F b/\v.ownBlock≠some b) w ds cs
section
variable {F:Nat->Prop} {w w':World} {base:Nat} {e:TypeId} {size:Nat} {v:Value} {l:List (List Dat)}
theorem OwnD.nil(F:Nat->Prop)(w:World)(base:Nat)(e:TypeId)(size:Nat):OwnD F w base e size (.slice none 0 0) []:=
 ⟨[],rfl,by simp,⟨by simp,.inl ⟨rfl,rfl⟩⟩,by simp⟩
theorem Fl{css:List (List Value)}{size:Nat}(hsz:∀cs∈css,cs.length=size):∀{j:Nat} {cs:List Value} {i:Nat} {u:Value},css[j]? = some cs->cs[i]? = some u->css.flatten[j*size+i]? = some u:=by
 induction css with
 | nil=>intro j cs i u h;simp at h
 | cons c t ih=>
  intro j cs i u hj hi;have hc:=hsz c (lmS ..);rw[List.flatten_cons];cases j with
  | zero=>
   simp at hj;subst hj;have:=(lgS.1 hi).1;rw[List.getElem?_append_left (by omega)]
   simpa using hi
  | succ j=>
   simp at hj;have:=(lgS.1 hi).1;rw[List.getElem?_append_right (by rw[hc,Nat.add_mul];omega),hc,show(j+1)*size+i-size=j*size+i by rw[Nat.add_mul];omega];exact ih (fun cs h=>hsz cs (lmO _ h)) hj hi
theorem OwnD.rowAt(h:OwnD F w base e size v l)(hF:∀g,v.ownBlock=some g->F g):∃a cap,v = .slice a l.length cap/\Af F w a l:=by
 obtain⟨css,hlen,hsz,hown,hd⟩:=h;obtain⟨h1,⟨rfl,h2⟩|⟨g,cap,cur,rfl,h3,h4,h5,h6,h7,h8⟩⟩:=hown
 ·obtain rfl:l=[]:=List.length_eq_zero_iff.1 h2;exact⟨none,0,rfl,Af.nil _⟩
 ·refine⟨_,cap,rfl,fun j ds hj=>?_⟩;have aG:=(lgS.1 hj).1;have aE:css[j]? = some (css[j]'(by omega)):=lgE (by omega);have aC:=hsz _ (List.getElem_mem (by omega:j<css.length));refine⟨g,0,_,rfl,hF g rfl,(agS.1 h4).1,(hd j _ _ hj aE).wider (fun b h _=>h.1),fun i u hu=>?_⟩;have hi:=(lgS.1 hu).1;have h9:=Fl hsz aE hu;rw[<-h8] at h9;have hds:ds.length=size:=(by rw[<-(hd j _ _ hj aE).1];exact aC);rw[List.getElem?_take_of_lt (by
   have:(j+1)*size<=l.length*size:=Nat.mul_le_mul_right _ (by omega);rw[Nat.add_mul] at this;omega),Array.getElem?_toList] at h9
  unfold World.cell?;rw[h4,hds,Nat.zero_add];exact h9
theorem OwnD.rowAtC(h:OwnD F w base e size v l)(hF:∀g,v.ownBlock=some g->F g):∃a cap,v = .slice a l.length cap/\(l.length<=cap/\cap<=maxLen)/\Af F w a l:=by
 obtain⟨a,cap,hv,hr⟩:=h.rowAt hF;refine⟨a,cap,hv,?_,hr⟩;obtain⟨css,hlen,hsz,⟨h1,⟨h2,h3⟩|⟨g,cap',cur,h2,h3,h4,h5,h6,h7⟩⟩,hd⟩:=h
 ·rw[h2] at hv;injection hv with e1 e2 e3;exact⟨by omega,by rw[<-e3];exact nlz _⟩
 ·rw[h2] at hv;injection hv with e1 e2 e3;subst e3;exact⟨h5,h6⟩
theorem OwnD.keep(h:OwnD F w base e size v l)(hk:∀b,b<w.heap.size->F b\/v.ownBlock=some b->w'.heap[b]? = w.heap[b]?)(hs:w.heap.size<=w'.heap.size):OwnD F w' base e size v l:=by
 obtain⟨css,hlen,hsz,hown,hd⟩:=h;refine⟨css,hlen,hsz,?_,fun j ds cs h1 h2=>(hd j ds cs h1 h2).mono fun b hb hl=>⟨hb,by omega,hk b hl (.inl hb.1)⟩⟩;obtain⟨h1,h2|⟨g,cap,cur,rfl,h3,h4,h5⟩⟩:=hown
 ·exact⟨h1,.inl h2⟩
 ·exact⟨h1,.inr ⟨g,cap,cur,rfl,h3,by rw[hk g (agS.1 h4).1 (.inr rfl)];exact h4,h5⟩⟩
theorem OwnD.below(h:OwnD F w base e size v l)(hb:Below w.heap.size w w'):OwnD F w' base e size v l:=h.keep (fun b hl _=>hb.block b hl) hb.size
theorem OwnD.block_lt(h:OwnD F w base e size v l){g:Nat}(hg:v.ownBlock=some g):base<=g/\g<w.heap.size:=by
 obtain⟨css,-,-,⟨-,⟨rfl,-⟩|⟨g',cap,cur,rfl,h3,h4,-⟩⟩,-⟩:=h
 ·cases hg
 ·cases hg;exact⟨h3,(agS.1 h4).1⟩
theorem Bw{P:Program}{ops:Array Oper}{rest:List Oper}{o:Oper}{a:Act}{Q:Exit->Act->World->Prop}(hgd:o.guard=none)(s x:Operand)(t:TypeId)
  (ho:o.op = .call { callee:=.builtin .append,args:=#[s,x],argTypes:=#[t,t]})
  (base:Nat) (e:TypeId) (i:TypeInfo) (z:Value) (size bytes:Nat) (ht:P.underlying t=some (.slice e)) (hi:P.info? e=some i) (hz:i.zero=some z)
  (hsize:i.size=size) (hby:i.bytes=bytes) (hzs:z.cells.size=size) (hsz:0<size)
  (v:Value) (F:Nat->Prop) (l:List (List Dat)) (hs:a.eval s=v) (hown:OwnD F w base e size v l)
  (ad:Addr) (c:Nat) (ds:List Dat) (cs:List Value) (hx:a.eval x = .slice (some ad) 1 c) (hl:cs.length=size) (hnews:∀j u,cs[j]? = some u->w.cell? (ad.add j)=some u) (h1:∀u∈cs,u.oneCell'=true)
  (hd:Am (fun b=>F b/\v.ownBlock≠some b) w ds cs)
  (h63:l.length+1<=maxLen) (hbytes:(l.length+1)*bytes<=140737488355328) (hbase:base<=w.heap.size)
  (h:∀v' w',OwnD F w' base e size v' (l++[ds])->w.grownBy w' v.ownBlock->(∀g,v'.ownBlock=some g->v.ownBlock=some g\/w.heap.size<=g)->wpList P ops Q rest (a.put o.dst v') w'):wpList P ops Q (o::rest) a w:=by
 obtain⟨css,hlen,aC,aF,hel⟩:=hown;refine Ct hgd s x t ho base e i z size bytes ht hi hz hsize hby hzs hsz v l.length css.flatten hs aF ad 1 c cs hx (by rw[hl];omega) hnews h1 h63 hbytes hbase fun v' w' h2 h3 h4=>h v' w' ⟨css++[cs],?_,?_,?_,?_⟩ h3 h4
 ·simp[hlen]
 ·intro cs' hc;rcases List.mem_append.1 hc with hc|hc
  ·exact aC _ hc
  ·rw[List.mem_singleton.1 hc];exact hl
 ·rw[List.flatten_append,lnA]
  simpa using h2
 ·have step:∀b,F b/\v.ownBlock≠some b->b<w.heap.size->(F b/\v'.ownBlock≠some b)/\b<w'.heap.size/\w'.heap[b]? = w.heap[b]?:=fun b hb aH=>
   ⟨⟨hb.1,fun he=>by rcases h4 b he with h|h;exact hb.2 h;omega⟩,nll aH h3.size,h3.block b aH (fun he=>hb.2 he.symm)⟩
  intro j ds' cs' hj hc;by_cases aG:j<l.length
  ·rw[List.getElem?_append_left aG] at hj;rw[List.getElem?_append_left (by omega)] at hc;exact(hel j _ _ hj hc).mono step
  ·have hje:j=l.length:=by
    have:=(lgS.1 hj).1;simp at this;omega
   subst hje;rw[List.getElem?_append_right (nlr _),Nat.sub_self] at hj;rw[List.getElem?_append_right (by omega),hlen,Nat.sub_self] at hc;simp at hj hc;subst hj hc;exact hd.mono step
end
theorem infoStr:(Tryz.prog.info? 9).map (fun i=>(i.zero,i.size,i.bytes))=some (some (.string ByteArray.empty),1,16):=by kernel_rfl
def OwnS(w:World)(base:Nat)(v:Value)(l:List ByteArray):Prop:=w.ownsRow base 9 1 v l.length (l.map Value.string)
section
variable {w w':World} {base:Nat} {v:Value} {l:List ByteArray}
theorem OwnS.nil(w:World)(base:Nat):OwnS w base (.slice none 0 0) []:=⟨by simp,.inl ⟨rfl,rfl⟩⟩
theorem OwnS.strsAt(h:OwnS w base v l):∃a cap,v = .slice a l.length cap/\Dj w a l/\l.length<=cap:=by
 obtain⟨h1,⟨rfl,h2⟩|⟨g,cap,cur,rfl,h3,h4,h5,h6,h7,h8⟩⟩:=h
 ·refine⟨none,0,by rw[h2],?_,by omega⟩;intro j x hx;have:=(lgS.1 hx).1;omega
 ·refine⟨_,cap,rfl,?_,h5⟩;intro j x hx;have hj:=(lgS.1 hx).1;refine⟨g,0,rfl,?_⟩;have h9:(cur.toList.take (l.length*1))[j]? = some (.string x):=(by rw[h8,lgP,hx];rfl);rw[List.getElem?_take_of_lt (by omega),Array.getElem?_toList] at h9;unfold World.cell?;simp only[h4,Nat.zero_add,Option.isSome_none,Bool.false_eq_true,if_false];exact h9
theorem OwnS.below(h:OwnS w base v l)(hb:Below w.heap.size w w'):OwnS w' base v l:=by
 obtain⟨h1,h2|⟨g,cap,cur,rfl,h3,h4,h5⟩⟩:=h
 ·exact⟨h1,.inl h2⟩
 ·exact⟨h1,.inr ⟨g,cap,cur,rfl,h3,(hb.block g (agS.1 h4).1).trans h4,h5⟩⟩
theorem OwnS.lower{base':Nat}(h:OwnS w base v l)(hb:base'<=base):OwnS w base' v l:=by
 obtain⟨h1,h2|⟨g,cap,cur,h2,h3,h4⟩⟩:=h
 ·exact⟨h1,.inl h2⟩
 ·exact⟨h1,.inr ⟨g,cap,cur,h2,by omega,h4⟩⟩
theorem OwnS.block(h:OwnS w base v l){g:Nat}(hg:v.ownBlock=some g):base<=g/\g<w.heap.size:=by
 obtain⟨-,⟨rfl,-⟩|⟨g',cap,cur,rfl,h3,h4,-⟩⟩:=h
 ·cases hg
 ·cases hg;exact⟨h3,(agS.1 h4).1⟩
end
theorem lit_one(w:World)(x t):∀(j:Nat) u,[x][j]? = some u->(w.alloc (.cells #[x] t)).cell? ((⟨w.heap.size,0,none⟩:Addr).add j)=some u:=by
 intro j u h;cases j with
 | zero=>
  simp at h;subst h;show(w.alloc (.cells #[x] t)).cell? ⟨w.heap.size,0,none⟩=some x;unfold World.cell?;rw[heap_alloc_new];rfl
 | succ j=>simp at h
theorem B5{w w':World}{v:Value}(h:w.grownBy w' v.ownBlock){n:Nat}(hv:∀g,v.ownBlock=some g->n<=g)(hn:n<=w.heap.size):Below n w w':=
 ⟨h.os,h.tape,h.output,h.size,fun b hb=>h.block b (by omega) (fun e=>by have:=hv b e.symm;omega)⟩
inductive Nd where
 | mk (kind:Int) (text:ByteArray) (line col:Int) (kids:List Nd)
def Nd.kids:Nd->List Nd | .mk _ _ _ _ l=>l
def Nd.text:Nd->ByteArray | .mk _ t _ _ _=>t
def Nd.kind:Nd->Int | .mk k _ _ _ _=>k
inductive PR(α:Type) where
 | ok (x:α) (ts:List Tok) (dp:Int)
 | err (e l c:Int)
 | out
def PM(α:Type):=List Tok->Int->PR α
namespace PM
def pure{α:Type}(x:α):PM α:=fun ts d=> .ok x ts d
def bind{α β:Type}(m:PM α)(f:α->PM β):PM β:=fun ts d=>match m ts d with | .ok x ts' d'=>f x ts' d' | .err a b c=> .err a b c | .out=> .out
end PM
abbrev bs(l:List UInt8):ByteArray:=⟨l.toArray⟩
section
variable (en:Int×Int)
def Be(ts:List Tok)(n:Nat):Tok:=(ts[n]?).getD ⟨0,⟨#[]⟩,en.1,en.2⟩
def Bf(ts:List Tok)(n:Nat)(s:List UInt8):Bool:=(Be en ts n).kind==4&&(Be en ts n).text.data.toList==s
def Bt(ts:List Tok)(s:List UInt8):Bool:=(Be en ts 0).kind==1&&(Be en ts 0).text.data.toList==s
def reservedL:List (List UInt8):=[[102,111,114],[105,110],[105,102],[101,108,115,101],[114,117,108,101],[110,111,116]]
def typesL:List (List UInt8):=[[116,101,120,116],[98,111,111,108],[105,110,116],[116,101,120,116,115],[102,105,108,101,115],[108,97,98,101,108,115]]
def Bk(ts:List Tok):Bool:=(Be en ts 0).kind==1 && !reservedL.contains (Be en ts 0).text.data.toList
def pFail{α:Type}(e:Int):PM α:=fun ts _=> .err e (Be en ts 0).line (Be en ts 0).col
def Bc(is:Bool):PM Tok:=fun ts d=>if is then(match ts with|[]=> .out|t::r=> .ok t r d) else pFail en 3 ts d
def C8(s:List UInt8):PM Unit:=fun ts d=>PM.bind (Bc en (Bf en ts 0 s)) (fun _=>PM.pure ()) ts d
def Db(is:Bool):PM Tok:=fun ts d=>if is&&decide (60<=d) then pFail en 6 ts d else Bc en is ts (d+1)
def pDown:PM Unit:=fun ts d=> .ok () ts (d - 1)
def C2(s:List UInt8):PM Unit:=PM.bind (C8 en s) fun _=>pDown
def Ce{α:Type}(f:List Tok->PM α):PM α:=fun ts d=>f ts ts d
def A1(kind:Int)(t:Tok)(text:ByteArray)(kids:List Nd):Nd:=.mk kind text t.line t.col kids
def Ej(to:List UInt8)(one:PM (List Nd)):Nat->List Nd->PM (List Nd)
 | 0,_=>fun _ _=> .out
 | f+1,acc=>Ce fun ts=>
  if Bf en ts 0 to then PM.pure acc
  else PM.bind (if acc=[] then PM.pure () else C8 en [44]) fun _=>PM.bind one fun l=>Ej to one f (acc++l)
def Dc(to:List UInt8)(one:PM (List Nd)):PM (List Nd):=fun ts d=>Ej en to one (ts.length+1) [] ts d
structure Lvl where
 expr:PM Nd
 prim:PM Nd
 stmt:PM Nd
variable (L:Lvl)
def pArg:PM Nd:=Ce fun ts=>
 if Bk en ts&&Bf en ts 1 [61] then
  PM.bind (Bc en true) fun _=>PM.bind (C8 en [61]) fun _=>PM.bind L.expr fun x=>PM.pure (A1 15 (Be en ts 0) (Be en ts 0).text [x])
 else PM.bind L.expr fun x=>PM.pure (A1 15 (Be en ts 0) ⟨#[]⟩ [x])
def pCall:PM Nd:=Ce fun ts=>
 PM.bind (Bc en (Bk en ts)) fun name=>Ce fun ts=>
 PM.bind (Db en (Bf en ts 0 [40])) fun _=>
 PM.bind (Dc en [41] (PM.bind (pArg en L) fun x=>PM.pure [x])) fun kids=>
 PM.bind (C2 en [41]) fun _=>PM.pure (A1 14 name name.text kids)
def pEntry:PM (List Nd):=Ce fun ts=>
 PM.bind (Bc en ((Be en ts 0).kind==3)) fun t=>PM.bind (C8 en [58]) fun _=>PM.bind L.expr fun x=>PM.pure [A1 11 t t.text [],x]
def pPrim:PM Nd:=Ce fun ts=>
 let t:=Be en ts 0
 if t.kind==3 then PM.bind (Bc en true) fun _=>PM.pure (A1 11 t t.text [])
 else if t.kind==2 then PM.bind (Bc en true) fun _=>PM.pure (A1 10 t t.text [])
 else if Bk en ts&&Bf en ts 1 [40] then pCall en L
 else if Bk en ts then PM.bind (Bc en true) fun _=>PM.pure (A1 9 t t.text [])
 else if Bt en ts [110,111,116] then
  PM.bind (Db en true) fun _=>PM.bind L.prim fun x=>PM.bind pDown fun _=>PM.pure (A1 16 t (bs [110,111,116]) [x])
 else if Bf en ts 0 [91] then
  PM.bind (Db en true) fun _=>PM.bind (Dc en [93] (PM.bind L.expr fun x=>PM.pure [x])) fun l=>PM.bind (C2 en [93]) fun _=>PM.pure (A1 12 t ⟨#[]⟩ l)
 else if Bf en ts 0 [123] then
  PM.bind (Db en true) fun _=>PM.bind (Dc en [125] (pEntry en L)) fun l=>PM.bind (C2 en [125]) fun _=>PM.pure (A1 13 t ⟨#[]⟩ l)
 else PM.bind (Db en (Bf en ts 0 [40])) fun _=>PM.bind L.expr fun x=>PM.bind (C2 en [41]) fun _=>PM.pure x
def pSumGo:Nat->Nd->PM Nd
 | 0,_=>fun _ _=> .out
 | f+1,x=>Ce fun ts=>
  if Bf en ts 0 [43] then PM.bind (Bc en true) fun t=>PM.bind (pPrim en L) fun y=>pSumGo f (A1 16 t (bs [43]) [x,y])
  else PM.pure x
def pSum:PM Nd:=PM.bind (pPrim en L) fun x ts d=>pSumGo en L (ts.length+1) x ts d
def Dd:PM Nd:=PM.bind (pSum en L) fun x=>Ce fun ts=>
 if Bf en ts 0 [61,61]||Bf en ts 0 [33,61]||Bt en ts [105,110] then
  PM.bind (Bc en true) fun t=>PM.bind (pSum en L) fun y=>PM.pure (A1 16 t t.text [x,y])
 else PM.pure x
def Dp(to:List UInt8):Nat->List Nd->PM (List Nd)
 | 0,_=>fun _ _=> .out
 | f+1,acc=>Ce fun ts=>
  if !ts.isEmpty&&(to.isEmpty || !Bf en ts 0 to) then PM.bind L.stmt fun x=>Dp to f (acc++[x])
  else PM.pure acc
def Du(to:List UInt8):PM (List Nd):=fun ts d=>Dp en L to (ts.length+1) [] ts d
def C3:PM Nd:=Ce fun ts=>
 PM.bind (Db en (Bf en ts 0 [123])) fun t=>PM.bind (Du en L [125]) fun l=>PM.bind (C2 en [125]) fun _=>PM.pure (A1 8 t ⟨#[]⟩ l)
def De:PM Nd:=Ce fun ts=>
 PM.bind (Bc en (Bk en ts)) fun name=>PM.bind (C8 en [58]) fun _=>Ce fun ts=>
 PM.bind (Bc en ((Be en ts 0).kind==1&&typesL.contains (Be en ts 0).text.data.toList)) fun t=>Ce fun ts=>
 if Bf en ts 0 [61] then PM.bind (C8 en [61]) fun _=>PM.bind (Dd en L) fun x=>PM.pure (A1 7 name name.text [A1 9 t t.text [],x])
 else PM.pure (A1 7 name name.text [A1 9 t t.text []])
def pRule:PM Nd:=PM.bind (Bc en true) fun t=>Ce fun ts=>
 PM.bind (Bc en (Bk en ts)) fun name=>PM.bind (C8 en [40]) fun _=>
 PM.bind (Dc en [41] (PM.bind (De en L) fun x=>PM.pure [x])) fun kids=>
 PM.bind (C8 en [41]) fun _=>PM.bind (C3 en L) fun b=>PM.pure (A1 6 t name.text (kids++[b]))
def pStmt:PM Nd:=Ce fun ts=>
 let t:=Be en ts 0
 if Bt en ts [102,111,114] then
  PM.bind (Bc en true) fun _=>Ce fun ts=>PM.bind (Bc en (Bk en ts)) fun name=>Ce fun ts=>PM.bind (Bc en (Bt en ts [105,110])) fun _=>
  PM.bind (Dd en L) fun x=>PM.bind (C3 en L) fun b=>PM.pure (A1 4 t name.text [x,b])
 else if Bt en ts [105,102] then
  PM.bind (Bc en true) fun _=>PM.bind (Dd en L) fun x=>PM.bind (C3 en L) fun b=>Ce fun ts=>
  if Bt en ts [101,108,115,101] then PM.bind (Bc en true) fun _=>PM.bind (C3 en L) fun c=>PM.pure (A1 5 t ⟨#[]⟩ [x,b,c])
  else PM.pure (A1 5 t ⟨#[]⟩ [x,b])
 else if Bt en ts [114,117,108,101] then pRule en L
 else if Bk en ts&&Bf en ts 1 [40] then PM.bind (pCall en L) fun c=>PM.bind (C8 en [59]) fun _=>PM.pure (A1 3 t ⟨#[]⟩ [c])
 else PM.bind (Bc en (Bk en ts)) fun name=>PM.bind (C8 en [61]) fun _=>PM.bind (Dd en L) fun x=>PM.bind (C8 en [59]) fun _=>PM.pure (A1 2 t name.text [x])
def lvl:Nat->Lvl
 | 0=>⟨fun _ _=> .out,fun _ _=> .out,fun _ _=> .out⟩
 | f+1=>⟨Dd en (lvl f),pPrim en (lvl f),pStmt en (lvl f)⟩
end
def Mu(l:List UInt8):Int×Int:=l.foldl (fun p c=>if c=10 then(p.1+1,1) else(p.1,p.2+1)) (1,1)
def readL(l:List UInt8):Option (Except (Int×Int×Int) Nd):=
 match I4 l with
 | .error e=>some (.error e)
 | .ok ts=>
  match Du (Mu l) (lvl (Mu l) (ts.length+2)) [] ts 0 with
  | .ok x _ _=>some (.ok (.mk 1 ⟨#[]⟩ 1 1 x))
  | .err e a b=>some (.error (e,a,b))
  | .out=>none
def Fk(s:ByteArray):Vl:=.mk 3 0 s [] []
def truthL(b:Bool):Vl:=.mk 1 (if b then 1 else 0) ⟨#[]⟩ [] []
def intL(n:Int):Vl:=.mk 2 n ⟨#[]⟩ [] []
def Ic(l:List Vl):Vl:=.mk 4 0 ⟨#[]⟩ l []
def N2(a b:Vl):Except Int Vl:=
 if ¬a.kind=b.kind then .error 9
 else if a.kind=2 then(if inR (a.num+b.num)=true then .ok (intL (a.num+b.num)) else .error 2)
 else if a.kind=3 then(if 65536<a.str.size+b.str.size then .error 6 else .ok (Fk (a.str++b.str)))
 else if a.kind=4 then(if 1000<a.items.length+b.items.length then .error 6 else if A0 (Ic (a.items++b.items))=true then .ok (Ic (a.items++b.items)) else .error 6)
 else .error 9
def inL(a b:Vl):Except Int Vl:=
 if b.kind=4 then .ok (truthL (b.items.any fun x=>sameV x a))
 else if b.kind=5/\a.kind=3 then .ok (truthL (Lib.containsS b.keys a.str))
 else if b.kind=3/\a.kind=3 then .ok (truthL (Lib.contains b.str.data.toList a.str.data.toList))
 else .error 9
def opL(op:List UInt8)(a b:Vl):Except Int Vl:=
 if op=[61,61] then .ok (truthL (sameV a b))
 else if op=[33,61] then .ok (truthL (!sameV a b))
 else if op=[43] then N2 a b
 else if op=[105,110] then inL a b
 else .error 7
mutual
def nodeD:Nd->List Dat
 | .mk k t l c kids=>[.one (.int .i64 k),.one (.string t),.one (.int .i64 l),.one (.int .i64 c),.rowb (k==6) (A2 kids)]
def A2:List Nd->List (List Dat)
 | []=>[]
 | n::t=>nodeD n::A2 t
end
theorem Cj(l):A2 l=l.map nodeD:=by
 induction l with
 | nil=>simp[A2]
 | cons n t ih=>simp[A2,ih]
theorem Ao(l):(A2 l).length=l.length:=by rw[Cj,lnM]
theorem nodesD_append(l m):A2 (l++m)=A2 l++A2 m:=by rw[Cj,Cj,Cj,List.map_append]
def A3(F:Nat->Prop)(w:World)(n:Nd)(v:Value):Prop:=∃cs:List Value,v = .agg cs.toArray/\Am F w (nodeD n) cs
theorem A3.openC{F w k l c t kids v}(h:A3 F w (.mk k t l c kids) v):
  ∃a cap,v = .agg #[.int .i64 k,.string t,.int .i64 l,.int .i64 c,.slice a kids.length cap]/\(k=6->kids.length<=cap)/\Af F w a (A2 kids):=by
 obtain⟨cs,rfl,h⟩:=h;rw[nodeD] at h;obtain⟨c0,cs,rfl,h0,h⟩:=h.cons_inv;obtain⟨c1,cs,rfl,h1,h⟩:=h.cons_inv;obtain⟨c2,cs,rfl,h2,h⟩:=h.cons_inv;obtain⟨c3,cs,rfl,h3,h⟩:=h.cons_inv;obtain⟨c4,cs,rfl,h4,h⟩:=h.cons_inv;obtain rfl:=h.nil_inv;obtain rfl:=h0.one_inv;obtain rfl:=h1.one_inv;obtain rfl:=h2.one_inv;obtain rfl:=h3.one_inv;obtain⟨a,cap,rfl,hc,hr⟩:=h4.rowb_inv;rw[Ao] at hc;exact⟨a,cap,by rw[Ao],fun h6=>hc (by simpa using h6),hr⟩
theorem A3.open{F w k l c t kids v}(h:A3 F w (.mk k t l c kids) v):
  ∃a cap,v = .agg #[.int .i64 k,.string t,.int .i64 l,.int .i64 c,.slice a kids.length cap]/\Af F w a (A2 kids):=by
 obtain⟨a,cap,h1,-,h2⟩:=h.openC;exact⟨a,cap,h1,h2⟩
theorem A3.cap{F w k l c t kids a n cap}(h:A3 F w (.mk k t l c kids) (.agg #[.int .i64 k,.string t,.int .i64 l,.int .i64 c,.slice a n cap])):k=6->kids.length<=cap:=by
 obtain⟨a',cap',he,hc,-⟩:=h.openC;have h9:=congrArg (fun v=>match v with|Value.agg x=>x.toList|_=>[]) he;simp only[List.cons.injEq,Value.slice.injEq,and_true,true_and] at h9;rw[h9.2.2];exact hc
theorem A3.mk{F:Nat->Prop}{w:World}(k:Int)(t:ByteArray)(l c:Int){kids:List Nd}{a:Option Addr}(cap:Nat)(h:Af F w a (A2 kids))(hk:k=6->kids.length<=cap:=by first|exact trivial|(refine Hid.out ?_;assumption)|assumption|(intro _;exact Nat.zero_le _)|(intro h6;exact absurd h6 (by decide))):
  A3 F w (.mk k t l c kids) (.agg #[.int .i64 k,.string t,.int .i64 l,.int .i64 c,.slice a kids.length cap]):=by
 refine⟨[.int .i64 k,.string t,.int .i64 l,.int .i64 c,.slice a kids.length cap],rfl,?_⟩;rw[nodeD];exact .cons (.one _) (.cons (.one _) (.cons (.one _) (.cons (.one _) (.cons (by rw[<-Ao kids];exact Dk.rowb_mk cap (fun h6=>by rw[Ao];exact hk (by simpa using h6)) h) .nil))))
theorem infoNode:(Tryz.prog.info? 49).map (fun i=>(i.zero,i.size,i.bytes))=some (some (.agg #[.int .i64 0,.string ByteArray.empty,.int .i64 0,.int .i64 0,.slice none 0 0]),5,64):=by kernel_rfl
def Inc{α:Type}(k:Int)(m:PM α):Prop:=∀ts d x ts' d',m ts d = .ok x ts' d'->d'=d+k
section
variable {α β:Type} {en:Int×Int}
theorem Inc.pure(x:α):Inc 0 (PM.pure x):=fun ts d y ts' d' h=>by cases h;omega
theorem Inc.bind{j k n:Int}{m:PM α}{f:α->PM β}(h1:Inc j m)(h2:∀x,Inc k (f x))(hn:j+k=n):Inc n (PM.bind m f):=by
 intro ts d y ts' d' h;unfold PM.bind at h;cases hm:m ts d with
 | ok x t1 d1=>
  rw[hm] at h;have e1:=h1 _ _ _ _ _ hm;have e2:=h2 x _ _ _ _ _ h;omega
 | err a b c=>rw[hm] at h;cases h
 | out=>rw[hm] at h;cases h
theorem Inc.look{k:Int}{f:List Tok->PM α}(h:∀ts,Inc k (f ts)):Inc k (Ce f):=fun ts d x ts' d' e=>h ts ts d x ts' d' e
theorem Inc.ite{k:Int}{c:Prop}[Decidable c]{m m':PM α}(h1:Inc k m)(h2:Inc k m'):Inc k (if c then m else m'):=by split;exact h1;exact h2
theorem Inc.out{k:Int}:Inc k (fun _ _=>(.out:PR α)):=fun ts d x ts' d' h=>by cases h
theorem Inc.take(b:Bool):Inc 0 (Bc en b):=by
 intro ts d x ts' d' h;unfold Bc at h;split at h
 ·split at h
  ·cases h
  ·cases h;omega
 ·cases h
theorem Inc.open(b:Bool):Inc 1 (Db en b):=by
 intro ts d x ts' d' h;unfold Db at h;split at h
 ·cases h
 ·have:=Inc.take _ _ _ _ _ _ h;omega
theorem Inc.eat(s:List UInt8):Inc 0 (C8 en s):=fun ts d x ts' d' h=>Inc.bind (Inc.take _) (fun _=>Inc.pure _) rfl ts d x ts' d' h
theorem Inc.down:Inc (-1) pDown:=fun ts d x ts' d' h=>by cases h;omega
theorem Inc.close(s:List UInt8):Inc (-1) (C2 en s):=Inc.bind (Inc.eat s) (fun _=>Inc.down) rfl
theorem Inc.listGo{to:List UInt8}{one:PM (List Nd)}(h:Inc 0 one):∀f acc,Inc 0 (Ej en to one f acc)
 | 0,_=>Inc.out
 | f+1,_acc=>Inc.look fun _=>Inc.ite (Inc.pure _) (Inc.bind (Inc.ite (Inc.pure _) (Inc.eat _)) (fun _=>Inc.bind h (fun _=>Inc.listGo h f _) rfl) rfl)
theorem Inc.list{to:List UInt8}{one:PM (List Nd)}(h:Inc 0 one):Inc 0 (Dc en to one):=fun ts d x ts' d' e=>Inc.listGo h _ _ ts d x ts' d' e
structure I5(L:Lvl):Prop where
 expr:Inc 0 L.expr
 prim:Inc 0 L.prim
 stmt:Inc 0 L.stmt
variable {L:Lvl} (hL:I5 L)
include hL
theorem Inc.arg:Inc 0 (pArg en L):=Inc.look fun _=>Inc.ite (Inc.bind (Inc.take _) (fun _=>Inc.bind (Inc.eat _) (fun _=>Inc.bind hL.expr (fun _=>Inc.pure _) rfl) rfl) rfl) (Inc.bind hL.expr (fun _=>Inc.pure _) rfl)
theorem Inc.call:Inc 0 (pCall en L):=Inc.look fun _=>Inc.bind (Inc.take _) (fun _=>Inc.look fun _=>Inc.bind (Inc.open _) (fun _=>Inc.bind (Inc.list (Inc.bind (Inc.arg hL) (fun _=>Inc.pure _) rfl)) (fun _=>Inc.bind (Inc.close _) (fun _=>Inc.pure _) rfl) rfl) rfl) rfl
theorem Inc.entry:Inc 0 (pEntry en L):=Inc.look fun _=>Inc.bind (Inc.take _) (fun _=>Inc.bind (Inc.eat _) (fun _=>Inc.bind hL.expr (fun _=>Inc.pure _) rfl) rfl) rfl
theorem Inc.prim:Inc 0 (pPrim en L):=Inc.look fun _=>
 Inc.ite (Inc.bind (Inc.take _) (fun _=>Inc.pure _) rfl)<|Inc.ite (Inc.bind (Inc.take _) (fun _=>Inc.pure _) rfl)<|Inc.ite (Inc.call hL)<|Inc.ite (Inc.bind (Inc.take _) (fun _=>Inc.pure _) rfl) <|
 Inc.ite (Inc.bind (Inc.open _) (fun _=>Inc.bind hL.prim (fun _=>Inc.bind Inc.down (fun _=>Inc.pure _) rfl) rfl) rfl) <|
 Inc.ite (Inc.bind (Inc.open _) (fun _=>Inc.bind (Inc.list (Inc.bind hL.expr (fun _=>Inc.pure _) rfl)) (fun _=>Inc.bind (Inc.close _) (fun _=>Inc.pure _) rfl) rfl) rfl) <|
 Inc.ite (Inc.bind (Inc.open _) (fun _=>Inc.bind (Inc.list (Inc.entry hL)) (fun _=>Inc.bind (Inc.close _) (fun _=>Inc.pure _) rfl) rfl) rfl) <|
 Inc.bind (Inc.open _) (fun _=>Inc.bind hL.expr (fun _=>Inc.bind (Inc.close _) (fun _=>Inc.pure _) rfl) rfl) rfl
theorem Inc.sumGo:∀f x,Inc 0 (pSumGo en L f x)
 | 0,_=>Inc.out
 | f+1,_=>Inc.look fun _=>Inc.ite (Inc.bind (Inc.take _) (fun _=>Inc.bind (Inc.prim hL) (fun _=>Inc.sumGo f _) rfl) rfl) (Inc.pure _)
theorem Inc.sum:Inc 0 (pSum en L):=Inc.bind (Inc.prim hL) (fun _x ts d y ts' d' e=>Inc.sumGo hL _ _ ts d y ts' d' e) rfl
theorem Inc.expr:Inc 0 (Dd en L):=Inc.bind (Inc.sum hL) (fun _=>Inc.look fun _=>Inc.ite (Inc.bind (Inc.take _) (fun _=>Inc.bind (Inc.sum hL) (fun _=>Inc.pure _) rfl) rfl) (Inc.pure _)) rfl
theorem Inc.stmtsGo(to:List UInt8):∀f acc,Inc 0 (Dp en L to f acc)
 | 0,_=>Inc.out
 | f+1,_=>Inc.look fun _=>Inc.ite (Inc.bind hL.stmt (fun _=>Inc.stmtsGo to f _) rfl) (Inc.pure _)
theorem Inc.stmts(to:List UInt8):Inc 0 (Du en L to):=fun ts d x ts' d' e=>Inc.stmtsGo hL to _ _ ts d x ts' d' e
theorem Inc.block:Inc 0 (C3 en L):=Inc.look fun _=>Inc.bind (Inc.open _) (fun _=>Inc.bind (Inc.stmts hL _) (fun _=>Inc.bind (Inc.close _) (fun _=>Inc.pure _) rfl) rfl) rfl
theorem Inc.param:Inc 0 (De en L):=Inc.look fun _=>Inc.bind (Inc.take _) (fun _=>Inc.bind (Inc.eat _) (fun _=>Inc.look fun _=>Inc.bind (Inc.take _) (fun _=>Inc.look fun _=>
 Inc.ite (Inc.bind (Inc.eat _) (fun _=>Inc.bind (Inc.expr hL) (fun _=>Inc.pure _) rfl) rfl) (Inc.pure _)) rfl) rfl) rfl
theorem Inc.rule:Inc 0 (pRule en L):=Inc.bind (Inc.take _) (fun _=>Inc.look fun _=>Inc.bind (Inc.take _) (fun _=>Inc.bind (Inc.eat _) (fun _=>Inc.bind (Inc.list (Inc.bind (Inc.param hL) (fun _=>Inc.pure _) rfl)) (fun _=>
 Inc.bind (Inc.eat _) (fun _=>Inc.bind (Inc.block hL) (fun _=>Inc.pure _) rfl) rfl) rfl) rfl) rfl) rfl
theorem Inc.stmt:Inc 0 (pStmt en L):=Inc.look fun _=>
 Inc.ite (Inc.bind (Inc.take _) (fun _=>Inc.look fun _=>Inc.bind (Inc.take _) (fun _=>Inc.look fun _=>Inc.bind (Inc.take _) (fun _=>Inc.bind (Inc.expr hL) (fun _=>Inc.bind (Inc.block hL) (fun _=>Inc.pure _) rfl) rfl) rfl) rfl) rfl) <|
 Inc.ite (Inc.bind (Inc.take _) (fun _=>Inc.bind (Inc.expr hL) (fun _=>Inc.bind (Inc.block hL) (fun _=>Inc.look fun _=>Inc.ite (Inc.bind (Inc.take _) (fun _=>Inc.bind (Inc.block hL) (fun _=>Inc.pure _) rfl) rfl) (Inc.pure _)) rfl) rfl) rfl) <|
 Inc.ite (Inc.rule hL) <|
 Inc.ite (Inc.bind (Inc.call hL) (fun _=>Inc.bind (Inc.eat _) (fun _=>Inc.pure _) rfl) rfl) <|
 Inc.bind (Inc.take _) (fun _=>Inc.bind (Inc.eat _) (fun _=>Inc.bind (Inc.expr hL) (fun _=>Inc.bind (Inc.eat _) (fun _=>Inc.pure _) rfl) rfl) rfl) rfl
end
theorem I5.lvl(en):∀f,I5 (lvl en f)
 | 0=>⟨Inc.out,Inc.out,Inc.out⟩
 | f+1=>⟨Inc.expr (I5.lvl en f),Inc.prim (I5.lvl en f),Inc.stmt (I5.lvl en f)⟩
def Ke(ds:List Dat):Prop:=∀v,Dat.one v∈ds->v.oneCell'=true
section
variable {F G:Nat->Prop} {w:World}
theorem Am.oneCells{ds:List Dat}{cs:List Value}(h:Am F w ds cs)(hp:Ke ds):∀u∈cs,u.oneCell'=true:=by
 intro u hu;obtain⟨i,hi⟩:=List.getElem?_of_mem hu;have aQ:=(lgS.1 hi).1;have hd:ds[i]? = some (ds[i]'(by rw[<-h.1];exact aQ)):=lgE _;have:=h.2 i u _ hi hd;cases hdd:ds[i]'(by rw[<-h.1];exact aQ) with
 | one v=>
  rw[hdd] at this hd;obtain rfl:=this.one_inv;exact hp _ (lgM hd)
 | rowb bo l=>
  rw[hdd] at this;obtain⟨a,cap,rfl,-⟩:=this.rowb_inv;rfl
theorem Af.cells{b off size:Nat}{l:List (List Dat)}(h:Af F w (some ⟨b,off,none⟩) l)(hsz:∀ds∈l,ds.length=size):
  ∃css:List (List Value),css.length=l.length/\(∀cs∈css,cs.length=size)/\(∀(j:Nat) ds cs,l[j]? = some ds->css[j]? = some cs->Am F w ds cs) /\
   ∀(j:Nat) cs,css[j]? = some cs->∀(i:Nat) u,cs[i]? = some u->w.cell? ⟨b,off+j*size+i,none⟩=some u:=by
 have hex:∀j:Fin l.length,∃cs:List Value,Am F w l[j] cs/\∀(i:Nat) u,cs[i]? = some u->w.cell? ⟨b,off+j*size+i,none⟩=some u:=by
  intro j;obtain⟨b',off',cs,ha,hF,hb,hd,hc⟩:=h j _ (lgE j.2);cases ha;refine⟨cs,hd,fun i u hu=>?_⟩;have:=hc i u hu;rw[hsz _ (List.getElem_mem j.2)] at this;exact this
 obtain⟨f,hf⟩:=Classical.axiomOfChoice hex;have aH:∀(j:Nat) cs,(List.ofFn f)[j]? = some cs->∃hj:j<l.length,cs=f ⟨j,hj⟩:=by
  intro j cs hj;obtain⟨h1,h2⟩:=lgS.1 hj;rw[List.length_ofFn] at h1;exact⟨h1,by rw[<-h2,List.getElem_ofFn]⟩
 refine⟨List.ofFn f,by simp,?_,?_,?_⟩
 ·intro cs aN;obtain⟨j,hj⟩:=List.getElem?_of_mem aN;obtain⟨aD,rfl⟩:=aH j cs hj;rw[(hf ⟨j,aD⟩).1.1];exact hsz _ (List.getElem_mem aD)
 ·intro j ds cs hj hc;obtain⟨aD,rfl⟩:=aH j cs hc;rw[lgE aD] at hj;cases hj;exact(hf ⟨j,aD⟩).1
 ·intro j cs hc i u hu;obtain⟨aD,rfl⟩:=aH j cs hc;exact(hf ⟨j,aD⟩).2 i u hu
theorem Rx{css:List (List Value)}{size:Nat}(h0:0<size)(hsz:∀cs∈css,cs.length=size){k:Nat}{u:Value}(h:css.flatten[k]? = some u):
  ∃cs,css[k / size]? = some cs/\cs[k % size]? = some u:=by
 induction css generalizing k with
 | nil=>simp at h
 | cons c t ih=>
  have hc:=hsz c (lmS ..);rw[List.flatten_cons] at h;by_cases hk:k<size
  ·rw[List.getElem?_append_left (by omega)] at h;refine⟨c,by rw[Nat.div_eq_of_lt hk];rfl,by rw[Nat.mod_eq_of_lt hk];exact h⟩
  ·rw[List.getElem?_append_right (by omega),hc] at h;obtain⟨cs,h1,h2⟩:=ih (fun cs h=>hsz cs (lmO _ h)) h;refine⟨cs,?_,?_⟩
   ·rw[Nat.div_eq_sub_div h0 (by omega),List.getElem?_cons_succ];exact h1
   ·rw[Nat.mod_eq_sub_mod (by omega)];exact h2
theorem Bx{P:Program}{ops:Array Oper}{rest:List Oper}{o:Oper}{a:Act}{Q:Exit->Act->World->Prop}(hgd:o.guard=none)(s x:Operand)(t:TypeId)
  (ho:o.op = .call { callee:=.builtin .append,args:=#[s,x],argTypes:=#[t,t]})
  (base:Nat) (e:TypeId) (i:TypeInfo) (z:Value) (size bytes:Nat) (ht:P.underlying t=some (.slice e)) (hi:P.info? e=some i) (hz:i.zero=some z)
  (hsize:i.size=size) (hby:i.bytes=bytes) (hzs:z.cells.size=size) (hsz:0<size)
  (v:Value) (F:Nat->Prop) (l:List (List Dat)) (hs:a.eval s=v) (hown:OwnD F w base e size v l)
  (b off c:Nat) (l2:List (List Dat)) (hx:a.eval x = .slice (some ⟨b,off,none⟩) l2.length c) (hrow:Af (fun b=>F b/\v.ownBlock≠some b) w (some ⟨b,off,none⟩) l2) (hlen:∀ds∈l2,ds.length=size) (hpl:∀ds∈l2,Ke ds)
  (h63:l.length+l2.length<=maxLen) (hbytes:(l.length+l2.length)*bytes<=140737488355328) (hbase:base<=w.heap.size)
  (h:∀v' w',OwnD F w' base e size v' (l++l2)->w.grownBy w' v.ownBlock->(∀g,v'.ownBlock=some g->v.ownBlock=some g\/w.heap.size<=g)->wpList P ops Q rest (a.put o.dst v') w'):wpList P ops Q (o::rest) a w:=by
 obtain⟨css,aG,aN,hrw,hel⟩:=hown;obtain⟨aE,aB,aF,aJ,aC⟩:=hrow.cells hlen;have aM:aE.flatten.length=l2.length*size:=by
  rw[<-aB];clear aB aJ aC
  induction aE with
  | nil=>simp
  | cons cs t ih=>
   rw[List.flatten_cons,lnA,aF cs (lmS ..),ih (fun c h=>aF c (lmO _ h)),lnC,Nat.add_mul];omega
 refine Ct hgd s x t ho base e i z size bytes ht hi hz hsize hby hzs hsz v l.length css.flatten hs hrw ⟨b,off,none⟩ l2.length c aE.flatten hx aM ?_ ?_ h63 hbytes hbase fun v' w' h2 h3 h4=>h v' w' ⟨css++aE,?_,?_,?_,?_⟩ h3 h4
 ·intro k u hu;obtain⟨cs,h5,h6⟩:=Rx hsz aF hu;have h7:=aC _ cs h5 _ u h6;have h8:((⟨b,off,none⟩:Addr).add k)=⟨b,off+k,none⟩:=by unfold Addr.add;split<;>simp_all
  rw[h8,show off+k=off+k / size*size+k % size by rw[Nat.add_assoc,Nat.mul_comm (k / size),Nat.div_add_mod]];exact h7
 ·intro u hu;obtain⟨cs,hcs',hu'⟩:=List.mem_flatten.1 hu;obtain⟨j,hj⟩:=List.getElem?_of_mem hcs';have aD:=(lgS.1 hj).1;have aR:l2[j]? = some (l2[j]'(by omega)):=lgE _;exact(aJ j _ _ aR hj).oneCells (hpl _ (lgM aR)) u hu'
 ·simp[aG,aB]
 ·intro cs' hc;rcases List.mem_append.1 hc with hc|hc
  ·exact aN _ hc
  ·exact aF _ hc
 ·rw[List.flatten_append,lnA];exact h2
 ·have step:∀b,F b/\v.ownBlock≠some b->b<w.heap.size->(F b/\v'.ownBlock≠some b)/\b<w'.heap.size/\w'.heap[b]? = w.heap[b]?:=fun b hb aU=>
   ⟨⟨hb.1,fun he=>by rcases h4 b he with h|h;exact hb.2 h;omega⟩,nll aU h3.size,h3.block b aU (fun he=>hb.2 he.symm)⟩
  intro j ds' cs' hj hc;by_cases aD:j<l.length
  ·rw[List.getElem?_append_left aD] at hj;rw[List.getElem?_append_left (by omega)] at hc;exact(hel j _ _ hj hc).mono step
  ·rw[List.getElem?_append_right (by omega)] at hj;rw[List.getElem?_append_right (by omega),aG] at hc;exact(aJ _ _ _ hj hc).mono step
end
theorem Dy(n):(nodeD n).length=5:=by obtain⟨k,t,l,c,kids⟩:=n;rfl
theorem D3(n):Ke (nodeD n):=by
 obtain⟨k,t,l,c,kids⟩:=n;intro v hv;rw[nodeD] at hv;simp at hv;rcases hv with rfl|rfl|rfl|rfl<;>rfl
theorem Cc{p:List Dat->Prop}(h:∀n,p (nodeD n))(l):∀ds∈A2 l,p ds:=by
 intro ds aW;rw[Cj] at aW;obtain⟨n,-,rfl⟩:=List.mem_map.1 aW;exact h n
mutual
def cntV:Vl->Int | .mk _ _ _ l _=>1+cntVs l
def cntVs:List Vl->Int
 | []=>0
 | v::t=>cntV v+cntVs t
end
mutual
def dpV:Vl->Int | .mk _ _ _ l _=>1+dpVs l
def dpVs:List Vl->Int
 | []=>0
 | v::t=>max (dpV v) (dpVs t)
end
mutual
def manyR:Vl->Int->Int | .mk _ _ _ l _,m=>manyRs l m 1
def manyRs:List Vl->Int->Int->Int
 | [],_,n=>n
 | v::t,m,n=>if n<=m then manyRs t m (n+manyR v (m-n)) else n
end
mutual
def deepR:Vl->Int->Int | .mk _ _ _ l _,m=>(if 0<m then deepRs l m 0 else 0)+1
def deepRs:List Vl->Int->Int->Int
 | [],_,n=>n
 | v::t,m,n=>deepRs t m (if n<deepR v (m - 1) then deepR v (m - 1) else n)
end
mutual
def nodesR:Vl->Bool | .mk k n s l ks=>nodesRs l&&By k n s l ks
def nodesRs:List Vl->Bool
 | []=>true
 | v::t=>nodesR v&&nodesRs t
end
mutual
theorem cntV_pos(v:Vl):1<=cntV v:=by
 obtain⟨k,n,s,l,ks⟩:=v;rw[cntV];have:=Li l;omega
theorem Li(l:List Vl):0<=cntVs l:=by
 cases l with
 | nil=>rw[cntVs];omega
 | cons v t=>
  rw[cntVs];have:=cntV_pos v;have:=Li t;omega
end
mutual
theorem Lj(v:Vl)(d m:Int)(h:(mayV v d m).1=true):(mayV v d m).2=m-cntV v/\nodesR v=true/\d+dpV v<=61:=by
 obtain⟨k,n,s,l,ks⟩:=v;rw[mayV] at h |-;split at h
 ·cases h
 ·rename_i h1
  split at h
  ·rename_i h2
   rw[if_neg h1,if_pos h2];obtain⟨g1,g2,g3⟩:=M7 l (d+1) (m - 1) (by omega) h;rw[cntV,nodesR,dpV];exact⟨by omega,by rw[g2,h2];rfl,by omega⟩
  ·cases h
theorem M7(l:List Vl)(d m:Int)(hd:d<=61)(h:(Ck l d m).1=true):(Ck l d m).2=m-cntVs l/\nodesRs l=true/\d+dpVs l<=61:=by
 cases l with
 | nil=>rw[Ck,cntVs,nodesRs,dpVs];exact⟨by simp,rfl,by omega⟩
 | cons v t=>
  rw[Ck] at h |-;split at h
  ·rename_i h1
   rw[if_pos h1];obtain⟨g1,g2,g3⟩:=Lj v d m h1;obtain⟨k1,k2,k3⟩:=M7 t d _ hd h;rw[cntVs,nodesRs,dpVs];exact⟨by omega,by rw[g2,k2];rfl,by omega⟩
  ·cases h
end
def wrote:Array Value->Nat->List Value->Array Value
 | c,_,[]=>c
 | c,o,v::r=>wrote (c.setIfInBounds o v) (o+1) r
theorem wrote_size:∀(vs:List Value) (c:Array Value) (o:Nat),(wrote c o vs).size=c.size
 | [],_,_=>rfl
 | v::r,c,o=>by rw[wrote,wrote_size r,Array.size_setIfInBounds]
theorem wrote_get:∀(vs:List Value) (c:Array Value) (o k:Nat),o+vs.length<=c.size->(wrote c o vs)[k]? = if o<=k/\k<o+vs.length then vs[k-o]? else c[k]?
 | [],c,o,k,_=>by
  rw[wrote,if_neg (by simp only[List.length_nil];omega)]
 | v::r,c,o,k,h=>by
  rw[lnC] at h;rw[wrote,wrote_get r _ _ _ (by rw[Array.size_setIfInBounds];omega),lnC];by_cases h1:o+1<=k/\k<o+1+r.length
  ·rw[if_pos h1,if_pos (by omega),show k-o=k-(o+1)+1 by omega,List.getElem?_cons_succ]
  ·rw[if_neg h1];by_cases h2:k=o
   ·subst h2;rw[if_pos (by omega),Nat.sub_self,List.getElem?_cons_zero,Array.getElem?_setIfInBounds_self_of_lt (by omega)]
   ·rw[if_neg (by omega),Array.getElem?_setIfInBounds_ne (fun e=>h2 e.symm)]
theorem setCells_block(g):∀(vs:List Value) (o:Nat) (w:World) (cur:Array Value) (e:TypeId) (fz:Nat×Nat),w.heap[g]? = some (.cells cur e fz)->(w.setCells g o vs).heap[g]? = some (.cells (wrote cur o vs) e fz)
 | [],_,_,_,_,_,h=>h
 | v::r,o,w,cur,e,fz,h=>by
  rw[World.setCells,wrote];refine setCells_block g r (o+1) _ _ e fz ?_;simp[World.setCell,Array.getElem?_modify,h]
theorem Cw(g k)(hk:k≠g):∀(vs:List Value) (o:Nat) (w:World),(w.setCells g o vs).heap[k]? = w.heap[k]?
 | [],_,_=>rfl
 | v::r,o,w=>by rw[World.setCells,Cw g k hk r,Below.heap_setCell _ _ _ _ hk]
theorem Dt(g):∀(vs:List Value) (o:Nat) (w:World),(w.setCells g o vs).heap.size=w.heap.size
 | [],_,_=>rfl
 | v::r,o,w=>by rw[World.setCells,Dt g r];simp[World.setCell]
theorem Mi{css:List (List Value)}{size:Nat}(hsz:∀cs∈css,cs.length=size):css.flatten.length=css.length*size:=by
 induction css with
 | nil=>simp
 | cons c t ih=>
  rw[List.flatten_cons,lnA,ih fun cs h=>hsz cs (lmO _ h),hsz c (lmS ..),lnC,Nat.add_mul];omega
theorem OwnD.put{F w base e size g n cap l}(h:OwnD F w base e size (.slice (some ⟨g,0,none⟩) n cap) l)(h0:0<size){j}(hj:j<l.length){ds cs}(hcs:cs.length=size)(hd:Am (fun b=>F b/\b≠g) w ds cs):OwnD F (w.setCells g (j*size) cs) base e size (.slice (some ⟨g,0,none⟩) n cap) (l.set j ds):=by
 obtain⟨css,hlen,hsz,⟨h1,⟨h2,-⟩|⟨g',cap',cur,h2,h3,h4,h5,h6,h7,h8⟩⟩,aC⟩:=h
 ·cases h2
 ·injection h2 with e1 e2 e3;injection e1 with e1;injection e1 with e1;subst e1;subst e3;have hst:∀b,(F b/\b≠g)->b<w.heap.size->(F b/\b≠g)/\b<(w.setCells g (j*size) cs).heap.size/\(w.setCells g (j*size) cs).heap[b]? = w.heap[b]?:=
   fun b hb hl=>⟨hb,by rw[Dt];exact hl,Cw g b hb.2 _ _ _⟩
  have hjn:(j+1)*size<=l.length*size:=Nat.mul_le_mul_right _ (by omega);have hcn:l.length*size<=cap*size:=Nat.mul_le_mul_right _ h5;have aB:j*size+cs.length<=cur.size:=(by rw[hcs,h7];rw[Nat.add_mul] at hjn;omega);have hsz':∀c∈css.set j cs,c.length=size:=fun c hc=>by
   rcases List.mem_or_eq_of_mem_set hc with h|rfl
   ·exact hsz c h
   ·exact hcs
  refine⟨css.set j cs,by rw[List.length_set,List.length_set,hlen],hsz',⟨?_,.inr ⟨g,cap,wrote cur (j*size) cs,by rw[List.length_set,<-e2],h3,setCells_block g cs _ w cur e _ h4,by rw[List.length_set];exact h5,h6,by rw[wrote_size,h7],?_⟩⟩,?_⟩
  ·rw[Mi hsz',List.length_set,List.length_set,hlen]
  ·apply List.ext_getElem?;intro k;rw[List.length_set];by_cases hk:k<l.length*size
   ·rw[List.getElem?_take_of_lt hk,Array.getElem?_toList,wrote_get _ _ _ _ aB,hcs];have hq:k / size<l.length:=(Nat.div_lt_iff_lt_mul h0).2 hk;have hr:k % size<size:=Nat.mod_lt _ h0;have aD:k=k / size*size+k % size:=(by rw[Nat.mul_comm];exact(Nat.div_add_mod k size).symm);by_cases hqj:k / size=j
    ·have hs1:(css.set j cs)[j]? = some cs:=(by rw[List.getElem?_set_self (by omega)]);have aE:cs[k % size]? = some (cs[k % size]'(by omega)):=lgE (by omega);have aF:=Fl hsz' hs1 aE;rw[hqj] at aD;rw[<-aD] at aF;rw[if_pos (by omega),aF,show k-j*size=k % size by omega,aE]
    ·have aG:css[k / size]? = some (css[k / size]'(by omega)):=lgE (by omega);have hcl:=hsz _ (List.getElem_mem (by omega:k / size<css.length));have aH:(css[k / size]'(by omega))[k % size]? = some ((css[k / size]'(by omega))[k % size]'(by omega)):=lgE (by omega);have aJ:=Fl hsz aG aH;have aM:=Fl hsz' (css:=css.set j cs) (j:=k / size) (by rw[List.getElem?_set_ne (fun h=>hqj h.symm)];exact aG) aH;rw[<-aD] at aJ aM;have hno:¬(j*size<=k/\k<j*size+size):=by
      rintro⟨a1,a2⟩;apply hqj;have:k<(j+1)*size:=(by rw[Nat.add_mul];omega);exact Nat.le_antisymm (Nat.lt_succ_iff.1 ((Nat.div_lt_iff_lt_mul h0).2 this)) ((Nat.le_div_iff_mul_le h0).2 a1)
     rw[if_neg hno,aM,<-aJ,<-h8,List.getElem?_take_of_lt hk];exact(Array.getElem?_toList ..).symm
   ·rw[List.getElem?_eq_none (by rw[List.length_take];omega),List.getElem?_eq_none (by rw[Mi hsz',List.length_set,hlen];omega)]
  ·intro i ds' cs' hi hc;by_cases hij:j=i
   ·subst hij;rw[List.getElem?_set_self hj] at hi;rw[List.getElem?_set_self (by omega)] at hc;cases hi;cases hc;refine(hd.mono hst).wider fun b hb _=>⟨hb.1,fun e=>hb.2 (by injection e with e;exact e.symm)⟩
   ·rw[List.getElem?_set_ne hij] at hi hc;exact(aC i ds' cs' hi hc).mono fun b hb hl=>⟨hb,by rw[Dt];exact hl,Cw g b (fun e=>hb.2 (by rw[e];rfl)) _ _ _⟩
theorem J3(v):Ke (valD v):=by
 obtain⟨k,n,s,l,ks⟩:=v;intro u hu;simp only[valD,List.mem_cons,List.not_mem_nil,or_false,Dat.one.injEq,reduceCtorEq] at hu;rcases hu with rfl|rfl|rfl<;>rfl

theorem OwnD.lower{F w base base' e size v l}(h:OwnD F w base e size v l)(hb:base'<=base):OwnD F w base' e size v l:=by
 obtain⟨css,h1,h2,⟨h3,h4⟩,h5⟩:=h;refine⟨css,h1,h2,⟨h3,?_⟩,h5⟩;rcases h4 with h|⟨g,cap,cur,hv,hg,h⟩
 ·exact .inl h
 ·exact .inr ⟨g,cap,cur,hv,by omega,h⟩
mutual
def ndD:Nd->List Dat
 | .mk k t l c kids=>[.one (.int .i64 k),.one (.string t),.one (.int .i64 l),.one (.int .i64 c),.row (ndsD kids)]
def ndsD:List Nd->List (List Dat)
 | []=>[]
 | n::t=>ndD n::ndsD t
end
theorem Kr(l):ndsD l=l.map ndD:=by
 induction l with
 | nil=>simp[ndsD]
 | cons n t ih=>simp[ndsD,ih]
theorem Ks(l):(ndsD l).length=l.length:=by rw[Kr,lnM]
mutual
def fewN:Nd->Prop | .mk _ _ _ _ kids=>kids.length<=140737488355328/\fewNs kids
def fewNs:List Nd->Prop
 | []=>True
 | n::t=>fewN n/\fewNs t
end
theorem Af.nd{F w a l}(h:Af F w a (ndsD l)){j k ln cl t m}(hj:l[j]? = some (.mk k t ln cl m)):
  ∃b off a1 c1,a=some ⟨b,off,none⟩/\F b/\b<w.heap.size/\w.cell? ⟨b,off+j*5,none⟩=some (.int .i64 k)/\w.cell? ⟨b,off+j*5+1,none⟩=some (.string t)/\w.cell? ⟨b,off+j*5+2,none⟩=some (.int .i64 ln) /\
   w.cell? ⟨b,off+j*5+3,none⟩=some (.int .i64 cl)/\w.cell? ⟨b,off+j*5+4,none⟩=some (.slice a1 m.length c1)/\Af F w a1 (ndsD m):=by
 obtain⟨b,off,cs,ha,hF,hb,hd,hc⟩:=h j (ndD (.mk k t ln cl m)) (by rw[Kr,lgP,hj];rfl);rw[ndD] at hd hc;obtain⟨c0,cs,rfl,h0,hd⟩:=hd.cons_inv;obtain⟨c1,cs,rfl,h1,hd⟩:=hd.cons_inv;obtain⟨c2,cs,rfl,h2,hd⟩:=hd.cons_inv;obtain⟨c3,cs,rfl,h3,hd⟩:=hd.cons_inv;obtain⟨c4,cs,rfl,h4,hd⟩:=hd.cons_inv;obtain rfl:=hd.nil_inv;obtain rfl:=h0.one_inv;obtain rfl:=h1.one_inv;obtain rfl:=h2.one_inv;obtain rfl:=h3.one_inv;obtain⟨a1,cap,rfl,hr⟩:=h4.row_inv;rw[Ks] at hc;exact⟨b,off,a1,cap,ha,hF,hb,hc 0 _ rfl,hc 1 _ rfl,hc 2 _ rfl,hc 3 _ rfl,hc 4 _ rfl,hr⟩
def Nd.lnN:Nd->Int | .mk _ _ l _ _=>l
def Nd.clN:Nd->Int | .mk _ _ _ c _=>c
def Nz{α:Type}(m:PM α):Prop:=∀ts d e l c,m ts d = .err e l c->e≠0
section
variable {α β:Type} {en:Int×Int}
theorem Nz.pure(x:α):Nz (PM.pure x):=fun ts d e l c h=>by cases h
theorem Nz.bind{m:PM α}{f:α->PM β}(h1:Nz m)(h2:∀x,Nz (f x)):Nz (PM.bind m f):=by
 intro ts d e l c h;unfold PM.bind at h;cases hm:m ts d with
 | ok x t1 d1=>rw[hm] at h;exact h2 x _ _ _ _ _ h
 | err a b k=>rw[hm] at h;cases h;exact h1 _ _ _ _ _ hm
 | out=>rw[hm] at h;cases h
theorem Nz.look{f:List Tok->PM α}(h:∀ts,Nz (f ts)):Nz (Ce f):=fun ts d e l c h'=>h ts ts d e l c h'
theorem Nz.ite{c:Prop}[Decidable c]{m m':PM α}(h1:Nz m)(h2:Nz m'):Nz (if c then m else m'):=by split;exact h1;exact h2
theorem Nz.out:Nz (fun _ _=>(.out:PR α)):=fun ts d e l c h=>by cases h
theorem Nz.take(b:Bool):Nz (Bc en b):=by
 intro ts d e l c h;unfold Bc at h;split at h
 ·split at h<;>cases h
 ·unfold pFail at h;cases h
  decide
theorem Nz.open(b:Bool):Nz (Db en b):=by
 intro ts d e l c h;unfold Db at h;split at h
 ·unfold pFail at h;cases h
  decide
 ·exact Nz.take _ _ _ _ _ _ h
theorem Nz.eat(s:List UInt8):Nz (C8 en s):=fun ts d e l c h=>Nz.bind (Nz.take _) (fun _=>Nz.pure _) ts d e l c h
theorem Nz.down:Nz pDown:=fun ts d e l c h=>by cases h
theorem Nz.close(s:List UInt8):Nz (C2 en s):=Nz.bind (Nz.eat s) (fun _=>Nz.down)
theorem Nz.listGo{to:List UInt8}{one:PM (List Nd)}(h:Nz one):∀f acc,Nz (Ej en to one f acc)
 | 0,_=>Nz.out
 | f+1,_acc=>Nz.look fun _=>Nz.ite (Nz.pure _) (Nz.bind (Nz.ite (Nz.pure _) (Nz.eat _)) (fun _=>Nz.bind h (fun _=>Nz.listGo h f _)))
theorem Nz.list{to:List UInt8}{one:PM (List Nd)}(h:Nz one):Nz (Dc en to one):=fun ts d e l c h'=>Nz.listGo h _ _ ts d e l c h'
structure LNz(L:Lvl):Prop where
 expr:Nz L.expr
 prim:Nz L.prim
 stmt:Nz L.stmt
variable {L:Lvl} (hL:LNz L)
include hL
theorem Nz.arg:Nz (pArg en L):=Nz.look fun _=>Nz.ite (Nz.bind (Nz.take _) (fun _=>Nz.bind (Nz.eat _) (fun _=>Nz.bind hL.expr (fun _=>Nz.pure _)))) (Nz.bind hL.expr (fun _=>Nz.pure _))
theorem Nz.call:Nz (pCall en L):=Nz.look fun _=>Nz.bind (Nz.take _) (fun _=>Nz.look fun _=>Nz.bind (Nz.open _) (fun _=>Nz.bind (Nz.list (Nz.bind (Nz.arg hL) (fun _=>Nz.pure _))) (fun _=>Nz.bind (Nz.close _) (fun _=>Nz.pure _))))
theorem Nz.entry:Nz (pEntry en L):=Nz.look fun _=>Nz.bind (Nz.take _) (fun _=>Nz.bind (Nz.eat _) (fun _=>Nz.bind hL.expr (fun _=>Nz.pure _)))
theorem Nz.prim:Nz (pPrim en L):=Nz.look fun _=>
 Nz.ite (Nz.bind (Nz.take _) (fun _=>Nz.pure _))<|Nz.ite (Nz.bind (Nz.take _) (fun _=>Nz.pure _))<|Nz.ite (Nz.call hL)<|Nz.ite (Nz.bind (Nz.take _) (fun _=>Nz.pure _)) <|
 Nz.ite (Nz.bind (Nz.open _) (fun _=>Nz.bind hL.prim (fun _=>Nz.bind Nz.down (fun _=>Nz.pure _)))) <|
 Nz.ite (Nz.bind (Nz.open _) (fun _=>Nz.bind (Nz.list (Nz.bind hL.expr (fun _=>Nz.pure _))) (fun _=>Nz.bind (Nz.close _) (fun _=>Nz.pure _)))) <|
 Nz.ite (Nz.bind (Nz.open _) (fun _=>Nz.bind (Nz.list (Nz.entry hL)) (fun _=>Nz.bind (Nz.close _) (fun _=>Nz.pure _)))) <|
 Nz.bind (Nz.open _) (fun _=>Nz.bind hL.expr (fun _=>Nz.bind (Nz.close _) (fun _=>Nz.pure _)))
theorem Nz.sumGo:∀f x,Nz (pSumGo en L f x)
 | 0,_=>Nz.out
 | f+1,_=>Nz.look fun _=>Nz.ite (Nz.bind (Nz.take _) (fun _=>Nz.bind (Nz.prim hL) (fun _=>Nz.sumGo f _))) (Nz.pure _)
theorem Nz.sum:Nz (pSum en L):=Nz.bind (Nz.prim hL) (fun _x ts d y ts' d' e=>Nz.sumGo hL _ _ ts d y ts' d' e)
theorem Nz.expr:Nz (Dd en L):=Nz.bind (Nz.sum hL) (fun _=>Nz.look fun _=>Nz.ite (Nz.bind (Nz.take _) (fun _=>Nz.bind (Nz.sum hL) (fun _=>Nz.pure _))) (Nz.pure _))
theorem Nz.stmtsGo(to:List UInt8):∀f acc,Nz (Dp en L to f acc)
 | 0,_=>Nz.out
 | f+1,_=>Nz.look fun _=>Nz.ite (Nz.bind hL.stmt (fun _=>Nz.stmtsGo to f _)) (Nz.pure _)
theorem Nz.stmts(to:List UInt8):Nz (Du en L to):=fun ts d e l c h'=>Nz.stmtsGo hL to _ _ ts d e l c h'
theorem Nz.block:Nz (C3 en L):=Nz.look fun _=>Nz.bind (Nz.open _) (fun _=>Nz.bind (Nz.stmts hL _) (fun _=>Nz.bind (Nz.close _) (fun _=>Nz.pure _)))
theorem Nz.param:Nz (De en L):=Nz.look fun _=>Nz.bind (Nz.take _) (fun _=>Nz.bind (Nz.eat _) (fun _=>Nz.look fun _=>Nz.bind (Nz.take _) (fun _=>Nz.look fun _=>
 Nz.ite (Nz.bind (Nz.eat _) (fun _=>Nz.bind (Nz.expr hL) (fun _=>Nz.pure _))) (Nz.pure _))))
theorem Nz.rule:Nz (pRule en L):=Nz.bind (Nz.take _) (fun _=>Nz.look fun _=>Nz.bind (Nz.take _) (fun _=>Nz.bind (Nz.eat _) (fun _=>Nz.bind (Nz.list (Nz.bind (Nz.param hL) (fun _=>Nz.pure _))) (fun _=>
 Nz.bind (Nz.eat _) (fun _=>Nz.bind (Nz.block hL) (fun _=>Nz.pure _))))))
theorem Nz.stmt:Nz (pStmt en L):=Nz.look fun _=>
 Nz.ite (Nz.bind (Nz.take _) (fun _=>Nz.look fun _=>Nz.bind (Nz.take _) (fun _=>Nz.look fun _=>Nz.bind (Nz.take _) (fun _=>Nz.bind (Nz.expr hL) (fun _=>Nz.bind (Nz.block hL) (fun _=>Nz.pure _)))))) <|
 Nz.ite (Nz.bind (Nz.take _) (fun _=>Nz.bind (Nz.expr hL) (fun _=>Nz.bind (Nz.block hL) (fun _=>Nz.look fun _=>Nz.ite (Nz.bind (Nz.take _) (fun _=>Nz.bind (Nz.block hL) (fun _=>Nz.pure _))) (Nz.pure _))))) <|
 Nz.ite (Nz.rule hL) <|
 Nz.ite (Nz.bind (Nz.call hL) (fun _=>Nz.bind (Nz.eat _) (fun _=>Nz.pure _))) <|
 Nz.bind (Nz.take _) (fun _=>Nz.bind (Nz.eat _) (fun _=>Nz.bind (Nz.expr hL) (fun _=>Nz.bind (Nz.eat _) (fun _=>Nz.pure _))))
end
theorem LNz.lvl(en):∀f,LNz (lvl en f)
 | 0=>⟨Nz.out,Nz.out,Nz.out⟩
 | f+1=>⟨Nz.expr (LNz.lvl en f),Nz.prim (LNz.lvl en f),Nz.stmt (LNz.lvl en f)⟩
theorem next_nz{l e}(h:C1 l = .error e):e≠0:=by
 unfold C1 at h;split at h
 ·cases h;decide
 ·split at h
  ·cases h
  split at h
  ·cases h
  split at h
  ·cases h
  split at h
  ·unfold Dn at h;split at h
   ·cases h;decide
   split at h
   ·cases h;decide
   ·cases h
  split at h
  ·split at h
   ·cases h
   ·cases h;decide
  split at h
  ·cases h
  split at h
  ·cases h
  ·cases h;decide
theorem tokens_nz:∀(f:Nat) (p:Int×Int) (l:List UInt8) (e:Int×Int×Int),Cg f p l = .error e->e.1≠0
 | 0,_,_,_,h=>by rw[Cg] at h;cases h
 | f+1,p,l,e,h=>by
  rw[Cg] at h;split at h
  ·cases h
  ·split at h
   ·next hn=>cases h;exact next_nz hn
   ·split at h
    ·next ht=>cases h;exact tokens_nz f _ _ _ ht
    ·cases h
theorem read_nz{l e}(h:readL l=some (.error e)):e.1≠0:=by
 unfold readL at h;split at h
 ·next hl=>
  cases h;unfold I4 at hl;split at hl
  ·cases hl;decide
  ·exact tokens_nz _ _ _ _ hl
 ·split at h
  ·cases h
  ·next hs=>cases h;exact Nz.stmts (LNz.lvl _ _) _ _ _ _ _ _ hs
  ·cases h
end Go.Proofs.YtbcdimjbepigcaaGreatDoor
