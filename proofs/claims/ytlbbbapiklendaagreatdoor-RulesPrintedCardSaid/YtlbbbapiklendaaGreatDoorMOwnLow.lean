/-
  An own row,told from further down. (And what it stands on.)
-/
import Derived.Test.YtlbbbapiklendaaGreatDoorProg
import Derived.WalkSpells
import Derived.WalkLawsBesides
import Derived.BigQuiet
import Derived.Lib.Hide
import Derived.Lib.TrimByte
import Derived.Deep.RegionWith
import Derived.Lib.IndexMore
import Derived.Lib.SlicesS
namespace Go.Proofs.YtlbbbapiklendaaGreatDoor
open Go.IntKind renaming i64->M
open Go.Value renaming int->J,string->E,slice->D
open Option renaming some->A,none->C
open Go.RowKit
theorem A0{a b}(h:a=b):Ending.returned (.bool a) = .returned (.bool b):=by rw[h]
theorem O8{k a b}(h:a=b):Ending.returned (.int k a) = .returned (.int k b):=by rw[h]
theorem Ki(p:ByteArray)(i:Nat)(h:i<p.size):p.data.toList[i]? = A p[i]:=by
 rw[Array.getElem?_toList,Array.getElem?_eq_getElem h];rfl
theorem Al(p:ByteArray):p.data.toList.length=p.size:=Array.length_toList
theorem Ja(p:ByteArray)(i:Nat):(p.extract i p.size).data.toList=p.data.toList.drop i:=by
 rw[Lib.extract_data,List.take_of_length_le (by rw[List.length_drop,Al];omega)]
theorem Z8{a:UInt8}{n:Nat}(hn:n<256):((a.toNat:Int)==(n:Int))=(a==UInt8.ofNat n):=by
 rw[Bool.eq_iff_iff,beq_iff_eq,beq_iff_eq,Int.ofNat_inj,<-UInt8.toNat_inj,UInt8.toNat_ofNat',Nat.mod_eq_of_lt hn]
theorem bytes_ext{a b:ByteArray}(h:a.data.toList=b.data.toList):a=b:=by
 cases a;cases b;simp only[ByteArray.mk.injEq];exact Array.toList_inj.1 h
theorem Cy{B w w'}(h:Below B w w')(n):Below B w (w'.drewN n):=⟨h.os,h.tape,h.output,h.size,h.block⟩
def Dx(w:World)(a:Option Addr)(l:List ByteArray):Prop:=
 ∀(j:Nat) x,l[j]? = A x->∃b off,a=A ⟨b,off,C⟩/\w.cell? ⟨b,off+j,C⟩=A (E x)
theorem Ax{w:World}{b off:Nat}{v}(h:w.cell? ⟨b,off,C⟩=A v):b<w.heap.size:=by
 unfold World.cell? at h;by_cases hb:b<w.heap.size
 ·exact hb
 ·rw[Array.getElem?_eq_none (by simpa using hb)] at h;cases h
theorem Dx.below{w w' a l}(h:Dx w a l)(hb:Below w.heap.size w w'):Dx w' a l:=by
 intro j x hx;obtain⟨b,off,ha,hc⟩:=h j x hx;exact⟨b,off,ha,by rw[hb.cell (p:=⟨b,off+j,C⟩) (Ax hc)];exact hc⟩
theorem Dx.at{w a l}(h:Dx w a l){k}(hk:k<l.length):
  ∃b off,a=A ⟨b,off,C⟩/\w.cell? ⟨b,off+k,C⟩=A (E l[k]):=h k _ (List.getElem?_eq_getElem hk)
def Found(q:Nat->Bool)(n:Nat)(I:Nat->World->Prop)(e:Ending)(w:World):Prop:=
 (∃i,i<n/\q i=true/\(∀j,j<i->q j=false)/\e = .returned (J M (i:Nat))/\I (i+1) w) \/
  ((∀j,j<n->q j=false)/\e = .returned (J M (-1))/\I n w)
def Xo(q:Nat->Bool)(n:Nat)(I:Nat->World->Prop)(e:Ending)(w:World):Prop:=
 (∃i,i<n/\q i=true/\(∀j,j<i->q j=false)/\e = .returned (.bool true)/\I (i+1) w) \/
  ((∀j,j<n->q j=false)/\e = .returned (.bool false)/\I n w)
end Go.Proofs.YtlbbbapiklendaaGreatDoor
namespace Go.Proofs.YtlbbbapiklendaaGreatDoor
open Go.IntKind renaming i64->M
open Go.Value renaming int->J,string->E,slice->D
open Option renaming some->A,none->C
open Go Go.RowKit
open List renaming length_cons->lnC,getElem?_eq_getElem->lgE,mem_of_getElem? -> lgM,getElem?_eq_some_iff->lgS,length_map->lnM,getElem?_map->lgP,length_append->lnA,mem_cons_self->lmS,mem_cons_of_mem->lmO
open Nat renaming zero_le->nlz,le_refl->nlr,lt_of_lt_of_le->nll,le_trans->nlt
open Go.Lib renaming hid->Lq7
open _root_.Array renaming getElem?_eq_some_iff->agS
open Bool renaming and_eq_true->bAt
set_option maxRecDepth 100000
set_option maxHeartbeats 16000000
def isGap(c:UInt8):Bool:=((c.toNat:Int)==32)||((c.toNat:Int)==9)||((c.toNat:Int)==10)||((c.toNat:Int)==13)
def Ba(c:UInt8):Bool:=decide ((48:Int)<=c.toNat)&&decide ((c.toNat:Int)<=57)
def Di(c:UInt8):Bool:=(decide ((97:Int)<=c.toNat)&&decide ((c.toNat:Int)<=122))||(decide ((65:Int)<=c.toNat)&&decide ((c.toNat:Int)<=90))||((c.toNat:Int)==95)
def isLine(c:UInt8):Bool:=(c.toNat:Int) != 10
def Cd(c:UInt8):Bool:=Di c||Ba c
def runL(p:UInt8->Bool)(l:List UInt8):Nat:=(l.takeWhile p).length
def Fo(c:UInt8):Option UInt8:=if c=34 then A 34 else if c=92 then A 92 else if c=110 then A 10 else C
def Bs:List UInt8->Option (List UInt8×Nat)
 | []=>C
 | c::t=>
  if c=34 then A ([],1)
  else if c<32\/c=127 then C
  else if c=92 then
   match t with
   | []=>C
   | d::t'=>(Fo d).bind fun e=>(Bs t').map fun r=>(e::r.1,r.2+2)
  else(Bs t).map fun r=>(c::r.1,r.2+1)
def natOf(l:List UInt8):Nat:=l.foldl (fun n c=>10*n+(c.toNat - 48)) 0
structure Tok where
 kind:Int
 text:ByteArray
 line:Int
 col:Int
def C8(l:List UInt8):Except Int (Int×List UInt8×Nat):=
 if 1<runL Ba l/\l.head? = A 48 then .error 3
 else if 9223372036854775807<natOf (l.takeWhile Ba) then .error 2
 else .ok (2,l.takeWhile Ba,runL Ba l)
def Bu(l:List UInt8):Except Int (Int×List UInt8×Nat):=
 match l with
 | []=> .error 3
 | c::t=>
  if isGap c then .ok (0,[],runL isGap l)
  else if c=35 then .ok (0,[],runL isLine l)
  else if Di c then .ok (1,l.takeWhile Cd,runL Cd l)
  else if Ba c then C8 l
  else if c=34 then
   match Bs t with
   | some r=> .ok (3,r.1,r.2+1)
   | none=> .error 3
  else if l.take 2=[61,61]\/l.take 2=[33,61] then .ok (4,l.take 2,2)
  else if c∈([61,43,40,41,91,93,123,125,44,58,59]:List UInt8) then .ok (4,[c],1)
  else .error 3
def behindLast(l:List UInt8):Nat:=(l.reverse.takeWhile (· ≠ 10)).length
def passL(p:Int×Int)(l:List UInt8):Int×Int:=
 if 0<l.count 10 then(p.1+l.count 10,behindLast l+1) else(p.1,p.2+l.length)
def Bt:Nat->Int×Int->List UInt8->Except (Int×Int×Int) (List Tok)
 | 0,_,_=> .ok []
 | f+1,p,l=>
  if l=[] then .ok []
  else match Bu l with
   | .error e=> .error (e,p.1,p.2)
   | .ok (k,s,n)=>
    match Bt f (passL p (l.take n)) (l.drop n) with
    | .error e=> .error e
    | .ok ts=> .ok (if 0<k then ⟨k,⟨s.toArray⟩,p.1,p.2⟩::ts else ts)
def G6(l:List UInt8):Except (Int×Int×Int) (List Tok):=
 if 65536<l.length then .error (6,1,1) else Bt (l.length+1) (1,1) l
def RetB(b:Bool)(w:World)(e:Ending)(w':World):Prop:=e = .returned (.bool b)/\w=w'
theorem Zn(c w):Calls Tryz.prog 52 #[.int .u8 c.toNat] w (RetB (isGap c) w):=by
 go_enter Tryz.func52,Tryz.ntmps52;go_wp2_with fail
 all_goals
  go_ret;exact⟨A0 (by first|(simp[isGap, *];done)|(simp_all [isGap];done)|(rw[Bool.eq_iff_iff];simp[isGap];omega)),rfl⟩
theorem N0(c w):Calls Tryz.prog 57 #[.int .u8 c.toNat] w (RetB (Ba c) w):=by
 go_enter Tryz.func57,Tryz.ntmps57;go_wp2_with fail
 all_goals
  go_ret;exact⟨A0 (by first|(simp[Ba, *];done)|(simp_all [Ba];done)|(rw[Bool.eq_iff_iff];simp[Ba];omega)),rfl⟩
theorem L8(c w):Calls Tryz.prog 55 #[.int .u8 c.toNat] w (RetB (Di c) w):=by
 go_enter Tryz.func55,Tryz.ntmps55;go_wp2_with fail
 all_goals
  go_ret;exact⟨A0 (by first|(simp[Di, *];done)|(simp_all [Di];done)|(rw[Bool.eq_iff_iff];simp[Di];omega)),rfl⟩
theorem line_any(c w):Calls Tryz.prog 54 #[.int .u8 c.toNat] w (RetB (isLine c) w):=by
 go_enter Tryz.func54,Tryz.ntmps54;go_wp2_with fail;go_ret;exact⟨rfl,rfl⟩
theorem Aap(c w):Calls Tryz.prog 56 #[.int .u8 c.toNat] w (RetB (Cd c) w):=by
 cases h1:Di c
 ·cases h2:Ba c
  all_goals
   have H1:=Lq7 h1;have H2:=Lq7 h2;clear h1 h2;go_enter Tryz.func56,Tryz.ntmps56;go_wp2_with fail;refine(L8 c _).mono ?_;rintro e w' ⟨rfl,rfl⟩;rw[H1.out];go_wp2_with fail;refine(N0 c _).mono ?_;rintro e w' ⟨rfl,rfl⟩;rw[H2.out];go_wp2_with fail;go_ret;exact⟨by unfold Cd;rw[H1.out,H2.out];rfl,rfl⟩
 ·have H1:=Lq7 h1;clear h1;go_enter Tryz.func56,Tryz.ntmps56;go_wp2_with fail;refine(L8 c _).mono ?_;rintro e w' ⟨rfl,rfl⟩;rw[H1.out];go_wp2_with fail;go_ret;exact⟨by unfold Cd;rw[H1.out];rfl,rfl⟩
theorem P8{p l k}(h:∀j,j<k->∀y,l[j]? = A y->p y=true)(hk:k<=l.length):runL p l=k+runL p (l.drop k):=by
 induction k generalizing l with
 | zero=>simp[runL]
 | succ k ih=>
  cases l with
  | nil=>simp at hk
  | cons x t=>
   have hx:=h 0 (by omega) x rfl;have:=ih (l:=t) (fun j hj y hy=>h (j+1) (by omega) y (by simpa using hy)) (by simpa using hk);unfold runL at this |-;rw[List.takeWhile_cons_of_pos hx,lnC,this,List.drop_succ_cons];omega
theorem runL_le(p l):runL p l<=l.length:=by
 unfold runL
 induction l with
 | nil=>simp
 | cons x t ih=>rw[List.takeWhile_cons];split<;>simp<;>omega
theorem Ry(p:UInt8->Bool)(l:List UInt8):l.take (runL p l)=l.takeWhile p:=by
 unfold runL
 induction l with
 | nil=>rfl
 | cons x t ih=>
  rw[List.takeWhile_cons];split
  ·rw[lnC,List.take_succ_cons,ih]
  ·rfl
theorem Pa(p f)(hf:∀(c:UInt8) (w:World),Calls Tryz.prog f #[.int .u8 c.toNat] w (RetB (p c) w))(henter:∀(args:Array Value) (w:World),(callFunc f args).run Tryz.prog w = .ok (.enter f args) w)(s w)(hs:s.size<=9223372036854775807):
  Calls Tryz.prog 53 #[E s,.func (.func f) #[] #[]] w (fun e w'=>e = .returned (J M (runL p s.data.toList))/\w=w'):=by
 have Hf:=Lq7 hf;clear hf;go_enter Tryz.func53,Tryz.ntmps53;go_wp2_with fail
 go_loopw [5] (fun i wr=>∃k:Nat,i = J M k/\k<=s.size/\wr=w/\Hid (∀j,j<k->∀y,s.data.toList[j]? = A y->p y=true)) (fun i _=>s.size-(intOf i).toNat)
 case atStart=>exact⟨0,rfl,nlz _,rfl,Lq7 (fun j hj=>by omega)⟩
 case round=>
  obtain⟨k,rfl,hk,rfl,aA⟩:=hrel;by_cases hlt:k<s.size
  ·have Hk:=Lq7 (Ki s k hlt);have hd:decide ((k:Int)<(s.size:Int))=true:=(by simp;omega);cases hp:p s[k]
   ·have Hp:=Lq7 hp;clear hp;have Hr:Hid (runL p s.data.toList=k):=Lq7 (by
     rw[P8 aA.out (by rw[Al];omega),List.drop_eq_getElem_cons (by rw[Al];exact hlt)];have:s.data.toList[k]'(by rw[Al];exact hlt)=s[k]:=rfl;rw[this,runL,List.takeWhile_cons_of_neg (by rw[Hp.out];simp)];rfl)
    go_wp2_with fail;refine(Hf.out s[k] _).mono ?_;rintro e w' ⟨rfl,rfl⟩;rw[Hp.out];go_wp2_with fail;go_ret;exact⟨O8 (by rw[Hr.out]),rfl⟩
   ·have Hp:=Lq7 hp;clear hp;have Hn:Hid (∀j,j<k+1->∀y,s.data.toList[j]? = A y->p y=true):=Lq7 (fun j hj y hy=>by
     by_cases hjk:j<k
     ·exact aA.out j hjk y hy
     ·obtain rfl:j=k:=(by omega);rw[Hk.out] at hy;cases hy;exact Hp.out)
    go_wp2_with fail;refine(Hf.out s[k] _).mono ?_;rintro e w' ⟨rfl,rfl⟩;rw[Hp.out];go_wp2_with fail;go_roundw
    case rel=>exact⟨k+1,by go_num,by omega,by trivial,Hn⟩
    case measure=>simp only[intOf];omega
  ·have Hr:Hid (runL p s.data.toList=k):=Lq7 (by
    rw[P8 aA.out (by rw[Al];omega),List.drop_of_length_le (by rw[Al];omega)];rfl)
   have hd:decide ((k:Int)<(s.size:Int))=false:=(by simp;omega);go_wp2_with fail;go_ret;exact⟨O8 (by rw[Hr.out]),rfl⟩
theorem Ao{w:World}{b:Nat}{cs t}(h:w.heap[b]? = A (.cells cs t (0,0))):
  b<w.heap.size/\(∀j,w.cell? ⟨b,j,C⟩=cs[j]?)/\∀j,w.frozen? ⟨b,j,C⟩=false:=by
 refine⟨(agS.1 h).1,fun j=>?_,fun j=>?_⟩
 ·unfold World.cell?;rw[h];rfl
 ·unfold World.frozen?;rw[h];simp
theorem Fa{w w2:World}{cs t}(hb:Below (w.alloc (.cells cs t)).heap.size (w.alloc (.cells cs t)) w2):w2.heap[w.heap.size]? = A (.cells cs t (0,0)):=
 (hb.block _ (by simp)).trans (heap_alloc_new w _)
theorem A8{w:World}{b:Nat}{x y t}(h:w.heap[b]? = A (.cells #[x,y] t (0,0))):
  b<w.heap.size/\w.cell? ⟨b,0,C⟩=A x/\w.cell? ⟨b,1,C⟩=A y/\w.frozen? ⟨b,0,C⟩=false/\w.frozen? ⟨b,1,C⟩=false:=by
 obtain⟨h1,h2,h3⟩:=Ao h;exact⟨h1,h2 0,h2 1,h3 0,h3 1⟩
theorem Af{w:World}{b:Nat}{cs t}(h:w.heap[b]? = A (.cells cs t (0,0)))(i:Nat)(v):(w.setCell ⟨b,i,C⟩ v).heap[b]? = A (.cells (cs.setIfInBounds i v) t (0,0)):=by
 unfold World.setCell;show(Array.modify _ _ _)[b]? = _;rw[Array.getElem?_modify,if_pos rfl,h];rfl
theorem Ad{w:World}{b k:Nat}(h:k≠b)(i:Nat)(v):(w.setCell ⟨b,i,C⟩ v).heap[k]? = w.heap[k]?:=Below.heap_setCell _ _ _ _ (fun e=>h e)
theorem Dn(w:World)(row:Option Nat):w.grownBy w row:=⟨rfl,rfl,rfl,nlr _,fun _ _ _=>rfl⟩
theorem Ag{a b c:World}{row:Option Nat}(h:a.grownBy b row)(k:b.grownBy c row):a.grownBy c row:=
 ⟨k.os.trans h.os,k.tape.trans h.tape,k.output.trans h.output,nlt h.size k.size,fun i hi hn=>(k.block i (nll hi h.size) hn).trans (h.block i hi hn)⟩
theorem Bc{a b row}(h:Below a.heap.size a b):a.grownBy b row:=⟨h.os,h.tape,h.output,h.size,fun i hi _=>h.block i hi⟩
theorem Fb{a b:World}{g:Nat}(h:a.grownBy b (A g))(i:Nat)(v):a.grownBy (b.setCell ⟨g,i,C⟩ v) (A g):=
 ⟨h.os,h.tape,h.output,by simpa using h.size,fun k hk hn=>(Ad (fun e=>hn (by rw[e])) i v).trans (h.block k hk hn)⟩
theorem Fq{a b:World}{row:Option Nat}(h:a.grownBy b row)(o:Obj):a.grownBy (b.alloc o) row:=
 ⟨h.os,h.tape,h.output,nlt h.size (by simp),fun k hk hn=>(Below.heap_alloc b o k (nll hk h.size)).trans (h.block k hk hn)⟩
theorem D5{a b:World}{row:Option Nat}(h:a.grownBy b row){g:Nat}(hg:a.heap.size<=g)(i:Nat)(v):a.grownBy (b.setCell ⟨g,i,C⟩ v) row:=
 ⟨h.os,h.tape,h.output,by simpa using h.size,fun k hk hn=>(Ad (by omega) i v).trans (h.block k hk hn)⟩
theorem G2{a b c:World}{bp:Nat}{v:Value}(h:a.grownBy b (A bp))(k:b.grownBy c v.ownBlock)(hv:∀g,v.ownBlock=A g->a.heap.size<=g):a.grownBy c (A bp):=
 ⟨k.os.trans h.os,k.tape.trans h.tape,k.output.trans h.output,nlt h.size k.size,fun i hi hn=>(k.block i (nll hi h.size) (fun e=>by have:=hv i e.symm;omega)).trans (h.block i hi hn)⟩
theorem B3{w:World}{b:Nat}{x y z u t}(h:w.heap[b]? = A (.cells #[x,y,z,u] t (0,0))):
  b<w.heap.size/\w.cell? ⟨b,0,C⟩=A x/\w.cell? ⟨b,1,C⟩=A y/\w.cell? ⟨b,2,C⟩=A z/\w.cell? ⟨b,3,C⟩=A u:=by
 obtain⟨h1,h2,h3⟩:=Ao h;exact⟨h1,h2 0,h2 1,h2 2,h2 3⟩
theorem Aa{w:World}{b:Nat}{x y z u v t}(h:w.heap[b]? = A (.cells #[x,y,z,u,v] t (0,0))):
  b<w.heap.size/\w.cell? ⟨b,0,C⟩=A x/\w.cell? ⟨b,1,C⟩=A y/\w.cell? ⟨b,2,C⟩=A z/\w.cell? ⟨b,3,C⟩=A u/\w.cell? ⟨b,4,C⟩=A v /\
  w.frozen? ⟨b,0,C⟩=false/\w.frozen? ⟨b,1,C⟩=false/\w.frozen? ⟨b,2,C⟩=false/\w.frozen? ⟨b,3,C⟩=false/\w.frozen? ⟨b,4,C⟩=false:=by
 obtain⟨h1,h2,h3⟩:=Ao h;exact⟨h1,h2 0,h2 1,h2 2,h2 3,h2 4,h3 0,h3 1,h3 2,h3 3,h3 4⟩
theorem Bj{w:World}{b:Nat}{x t}(h:w.heap[b]? = A (.cells #[x] t (0,0))):b<w.heap.size/\w.cell? ⟨b,0,C⟩=A x:=by
 obtain⟨h1,h2,h3⟩:=Ao h;exact⟨h1,h2 0⟩
theorem Lf{w:World}{b:Nat}{x y z u t}(h:w.heap[b]? = A (.cells #[x,y,z,u] t (0,0))):
  b<w.heap.size/\w.cell? ⟨b,0,C⟩=A x/\w.cell? ⟨b,1,C⟩=A y/\w.cell? ⟨b,2,C⟩=A z/\w.cell? ⟨b,3,C⟩=A u /\
  w.frozen? ⟨b,0,C⟩=false/\w.frozen? ⟨b,1,C⟩=false/\w.frozen? ⟨b,2,C⟩=false/\w.frozen? ⟨b,3,C⟩=false:=by
 obtain⟨h1,h2,h3⟩:=Ao h;exact⟨h1,h2 0,h2 1,h2 2,h2 3,h3 0,h3 1,h3 2,h3 3⟩
theorem Bh{w:World}{b:Nat}{x y z t}(h:w.heap[b]? = A (.cells #[x,y,z] t (0,0))):
  b<w.heap.size/\w.cell? ⟨b,0,C⟩=A x/\w.cell? ⟨b,1,C⟩=A y/\w.cell? ⟨b,2,C⟩=A z /\
  w.frozen? ⟨b,0,C⟩=false/\w.frozen? ⟨b,1,C⟩=false/\w.frozen? ⟨b,2,C⟩=false:=by
 obtain⟨h1,h2,h3⟩:=Ao h;exact⟨h1,h2 0,h2 1,h2 2,h3 0,h3 1,h3 2⟩
inductive Dat where
 | one (v:Value)
 | rowb (b:Bool) (l:List (List Dat))
abbrev Dat.row(l:List (List Dat)):Dat:=.rowb false l
inductive D7(F:Nat->Prop)(w:World):Dat->Value->Prop
 | one (v:Value):D7 F w (.one v) v
 | rowb (b:Bool) (l:List (List Dat)) (a:Option Addr) (cap:Nat) (hcap:b=true->l.length<=cap) (vs:List (List Value)) (hlen:vs.length=l.length)
   (hcell:∀(j:Nat) cs,vs[j]? = A cs->∃b off,a=A ⟨b,off,C⟩/\F b/\b<w.heap.size/\∀(i:Nat) u,cs[i]? = A u->w.cell? ⟨b,off+j*cs.length+i,C⟩=A u)
   (hsz:∀(j:Nat) cs ds,vs[j]? = A cs->l[j]? = A ds->cs.length=ds.length)
   (hsub:∀(j:Nat) cs ds (i:Nat) u d,vs[j]? = A cs->l[j]? = A ds->cs[i]? = A u->ds[i]? = A d->D7 F w d u):D7 F w (.rowb b l) (D a l.length cap)
def Ai(F:Nat->Prop)(w:World)(ds:List Dat)(cs:List Value):Prop:=
 cs.length=ds.length/\∀(i:Nat) u d,cs[i]? = A u->ds[i]? = A d->D7 F w d u
def Ac(F:Nat->Prop)(w:World)(a:Option Addr)(l:List (List Dat)):Prop:=
 ∀(j:Nat) ds,l[j]? = A ds->∃b off cs,a=A ⟨b,off,C⟩/\F b/\b<w.heap.size/\Ai F w ds cs/\∀(i:Nat) u,cs[i]? = A u->w.cell? ⟨b,off+j*ds.length+i,C⟩=A u
section
variable {F G:Nat->Prop} {w w':World}
theorem D7.mono{d:Dat}{v:Value}(h:D7 F w d v)(hk:∀b,F b->b<w.heap.size->G b/\b<w'.heap.size/\w'.heap[b]? = w.heap[b]?):D7 G w' d v:=by
 induction h with
 | one v=>exact .one v
 | rowb bo l a cap hcap vs hlen hcell hsz hsub ih=>
  refine .rowb bo l a cap hcap vs hlen (fun j cs hj=>?_) hsz ih;obtain⟨b,off,ha,hF,hb,hc⟩:=hcell j cs hj;obtain⟨h1,h2,h3⟩:=hk b hF hb;exact⟨b,off,ha,h1,h2,fun i u hu=>(World.cell?_of_block h3).trans (hc i u hu)⟩
theorem Ai.mono{ds:List Dat}{cs:List Value}(h:Ai F w ds cs)(hk:∀b,F b->b<w.heap.size->G b/\b<w'.heap.size/\w'.heap[b]? = w.heap[b]?):Ai G w' ds cs:=
 ⟨h.1,fun i u d h1 h2=>(h.2 i u d h1 h2).mono hk⟩
theorem Ac.mono{a:Option Addr}{l:List (List Dat)}(h:Ac F w a l)(hk:∀b,F b->b<w.heap.size->G b/\b<w'.heap.size/\w'.heap[b]? = w.heap[b]?):Ac G w' a l:=by
 intro j ds hj;obtain⟨b,off,cs,ha,hF,hb,hd,hc⟩:=h j ds hj;obtain⟨h1,h2,h3⟩:=hk b hF hb;exact⟨b,off,cs,ha,h1,h2,hd.mono hk,fun i u hu=>(World.cell?_of_block h3).trans (hc i u hu)⟩
theorem D7.one_inv{v u:Value}(h:D7 F w (.one v) u):u=v:=by cases h;rfl
theorem D7.rowb_inv{bo:Bool}{l:List (List Dat)}{u:Value}(h:D7 F w (.rowb bo l) u):∃a cap,u = D a l.length cap/\(bo=true->l.length<=cap)/\Ac F w a l:=by
 cases h with
 | rowb bo l a cap hcap vs hlen hcell hsz hsub=>
  refine⟨a,cap,rfl,hcap,fun j ds hj=>?_⟩;have aA:=(lgS.1 hj).1;have aC:vs[j]? = A (vs[j]'(by omega)):=lgE (by omega);obtain⟨b,off,ha,hF,hb,hc⟩:=hcell j _ aC;refine⟨b,off,_,ha,hF,hb,⟨hsz j _ _ aC hj,fun i u d h1 h2=>hsub j _ _ i u d aC hj h1 h2⟩,fun i u hu=>?_⟩;rw[<-hsz j _ _ aC hj];exact hc i u hu
theorem D7.row_inv{l:List (List Dat)}{u:Value}(h:D7 F w (.row l) u):∃a cap,u = D a l.length cap/\Ac F w a l:=by
 obtain⟨a,cap,h1,-,h2⟩:=h.rowb_inv;exact⟨a,cap,h1,h2⟩
theorem D7.rowb_mk{bo:Bool}{l:List (List Dat)}{a:Option Addr}(cap:Nat)(hcap:bo=true->l.length<=cap)(h:Ac F w a l):D7 F w (.rowb bo l) (D a l.length cap):=by
 have hex:∀j:Fin l.length,∃cs:List Value,Ai F w l[j] cs/\∃b off,a=A ⟨b,off,C⟩/\F b/\b<w.heap.size/\∀(i:Nat) u,cs[i]? = A u->w.cell? ⟨b,off+j*(l[j]).length+i,C⟩=A u:=by
  intro j;obtain⟨b,off,cs,ha,hF,hb,hd,hc⟩:=h j _ (lgE j.2);exact⟨cs,hd,b,off,ha,hF,hb,hc⟩
 obtain⟨f,hf⟩:=Classical.axiomOfChoice hex;have aB:∀(j:Nat) cs,(List.ofFn f)[j]? = A cs->∃hj:j<l.length,cs=f ⟨j,hj⟩:=by
  intro j cs hj;obtain⟨h1,h2⟩:=lgS.1 hj;rw[List.length_ofFn] at h1;exact⟨h1,by rw[<-h2,List.getElem_ofFn]⟩
 refine .rowb bo l a cap hcap (List.ofFn f) (by simp) ?_ ?_ ?_
 ·intro j cs hj;obtain⟨aA,rfl⟩:=aB j cs hj;obtain⟨hd,b,off,ha,hF,hb,hc⟩:=hf ⟨j,aA⟩;refine⟨b,off,ha,hF,hb,fun i u hu=>?_⟩;rw[hd.1];exact hc i u hu
 ·intro j cs ds hj hl;obtain⟨aA,rfl⟩:=aB j cs hj;rw[lgE aA] at hl;cases hl;exact(hf ⟨j,aA⟩).1.1
 ·intro j cs ds i u d hj hl hu hd;obtain⟨aA,rfl⟩:=aB j cs hj;rw[lgE aA] at hl;cases hl;exact(hf ⟨j,aA⟩).1.2 i u d hu hd
theorem D7.row_mk{l:List (List Dat)}{a:Option Addr}(cap:Nat)(h:Ac F w a l):D7 F w (.row l) (D a l.length cap):=D7.rowb_mk cap (fun h=>by cases h) h
theorem Ai.nil:Ai F w [] []:=⟨rfl,fun i u d h _=>by simp at h⟩
theorem Ai.cons_inv{d:Dat}{ds:List Dat}{cs:List Value}(h:Ai F w (d::ds) cs):∃c cs',cs=c::cs'/\D7 F w d c/\Ai F w ds cs':=by
 obtain⟨h1,h2⟩:=h;cases cs with
 | nil=>simp at h1
 | cons c cs'=>exact⟨c,cs',rfl,h2 0 c d rfl rfl,by simpa using h1,fun i u d' hu hd=>h2 (i+1) u d' (by simpa using hu) (by simpa using hd)⟩
theorem Ai.nil_inv{cs:List Value}(h:Ai F w [] cs):cs=[]:=List.length_eq_zero_iff.1 h.1
theorem Ai.cons{d:Dat}{ds:List Dat}{c:Value}{cs:List Value}(h1:D7 F w d c)(h2:Ai F w ds cs):Ai F w (d::ds) (c::cs):=by
 refine⟨by simp[h2.1],fun i u d' hu hd=>?_⟩;cases i with
 | zero=>simp at hu hd;rw[<-hu,<-hd];exact h1
 | succ i=>exact h2.2 i u d' (by simpa using hu) (by simpa using hd)
theorem Ac.nil(a:Option Addr):Ac F w a []:=fun j ds h=>by simp at h
theorem Jr(F:Nat->Prop)(hb:Below w.heap.size w w'):∀b,F b->b<w.heap.size->F b/\b<w'.heap.size/\w'.heap[b]? = w.heap[b]?:=
 fun b hF hl=>⟨hF,nll hl hb.size,hb.block b hl⟩
theorem Ac.below{a:Option Addr}{l:List (List Dat)}(h:Ac F w a l)(hb:Below w.heap.size w w'):Ac F w' a l:=h.mono (Jr F hb)
theorem Ai.below{ds:List Dat}{cs:List Value}(h:Ai F w ds cs)(hb:Below w.heap.size w w'):Ai F w' ds cs:=h.mono (Jr F hb)
theorem Ac.here{a:Option Addr}{l:List (List Dat)}(h:Ac F w a l):Ac (fun b=>F b/\b<w.heap.size) w a l:=h.mono fun _b h1 h2=>⟨⟨h1,h2⟩,h2,rfl⟩
theorem Ac.wider{a:Option Addr}{l:List (List Dat)}(h:Ac F w a l)(hg:∀b,F b->b<w.heap.size->G b):Ac G w a l:=h.mono fun b h1 h2=>⟨hg b h1 h2,h2,rfl⟩
theorem Ai.wider{ds:List Dat}{cs:List Value}(h:Ai F w ds cs)(hg:∀b,F b->b<w.heap.size->G b):Ai G w ds cs:=h.mono fun b h1 h2=>⟨hg b h1 h2,h2,rfl⟩
theorem Ac.drop{b off n:Nat}{l:List (List Dat)}(h:Ac F w (A ⟨b,off,C⟩) l)(hn:∀ds∈l,ds.length=n)(k:Nat):Ac F w (A ⟨b,off+k*n,C⟩) (l.drop k):=by
 intro j ds hj;rw[List.getElem?_drop] at hj;obtain⟨b',off',cs,ha,hF,hb,hd,hc⟩:=h (k+j) ds hj;cases ha;refine⟨b,off+k*n,cs,rfl,hF,hb,hd,fun i u hu=>?_⟩;have:=hc i u hu;rw[hn ds (lgM hj)] at this |-;rw[show off+k*n+j*n+i=off+(k+j)*n+i by rw[Nat.add_mul];omega];exact this
end
def Bn(l:List ByteArray):List (List Dat):=l.map fun s=>[.one (E s)]
theorem Lk(l):(Bn l).length=l.length:=by simp[Bn]
theorem Ac.strs{F w a l}(h:Ac F w a (Bn l)):Dx w a l:=by
 intro j x hj;obtain⟨b,off,cs,ha,hF,hb,hd,hc⟩:=h j [.one (E x)] (by simp[Bn,hj]);obtain⟨c,cs',rfl,h1,h2⟩:=hd.cons_inv;obtain rfl:=h1.one_inv;exact⟨b,off,ha,by have:=hc 0 _ rfl;simpa using this⟩
mutual
def toDat{H:Type}:DataW H->List Dat
 | .lit (.int q n)=>[.one (.int q n)]
 | .lit (.bool b)=>[.one (.bool b)]
 | .lit (.string bs)=>[.one (E ⟨bs.toArray⟩)]
 | .nil=>[.row []]
 | .slice es _=>[.row (toDatR es)]
 | .agg ps=>toDatC ps
 | _=>[]
def toDatR{H:Type}:List (DataW H)->List (List Dat)
 | []=>[]
 | d::t=>toDat d::toDatR t
def toDatC{H:Type}:List (DataW H)->List Dat
 | []=>[]
 | d::t=>toDat d++toDatC t
end
section
variable {H:Type} {enc:TypeId×Value->H} {P:Program} {W:World}
end
inductive Vl where
 | mk (kind n:Int) (s:ByteArray) (l:List Vl) (ks:List ByteArray)
namespace Vl
def kind:Vl->Int | .mk k _ _ _ _=>k
def num:Vl->Int | .mk _ n _ _ _=>n
def str:Vl->ByteArray | .mk _ _ s _ _=>s
def items:Vl->List Vl | .mk _ _ _ l _=>l
def keys:Vl->List ByteArray | .mk _ _ _ _ ks=>ks
end Vl
def vZero:Vl:=.mk 0 0 ⟨#[]⟩ [] []
mutual
def valD:Vl->List Dat
 | .mk k n s l ks=>[.one (J M k),.one (J M n),.one (E s),.row (Ar l),.row (Bn ks)]
def Ar:List Vl->List (List Dat)
 | []=>[]
 | v::t=>valD v::Ar t
end
theorem Fh(l):Ar l=l.map valD:=by
 induction l with
 | nil=>simp[Ar]
 | cons n t ih=>simp[Ar,ih]
theorem Bi(l):(Ar l).length=l.length:=by rw[Fh,lnM]
theorem Fi(l m):Ar (l++m)=Ar l++Ar m:=by rw[Fh,Fh,Fh,List.map_append]
theorem valD_len(v):(valD v).length=5:=by obtain⟨k,n,s,l,ks⟩:=v;rfl
section
variable {F:Nat->Prop} {w:World}
theorem Ai.val{k n:Int}{s:ByteArray}{l:List Vl}{ks:List ByteArray}{cs:List Value}(h:Ai F w (valD (.mk k n s l ks)) cs):
  ∃a c a' c',cs=[J M k,J M n,E s,D a l.length c,D a' ks.length c']/\Ac F w a (Ar l)/\Ac F w a' (Bn ks):=by
 rw[valD] at h;obtain⟨c0,cs,rfl,h0,h⟩:=h.cons_inv;obtain⟨c1,cs,rfl,h1,h⟩:=h.cons_inv;obtain⟨c2,cs,rfl,h2,h⟩:=h.cons_inv;obtain⟨c3,cs,rfl,h3,h⟩:=h.cons_inv;obtain⟨c4,cs,rfl,h4,h⟩:=h.cons_inv;obtain rfl:=h.nil_inv;obtain rfl:=h0.one_inv;obtain rfl:=h1.one_inv;obtain rfl:=h2.one_inv;obtain⟨a,cap,rfl,hr⟩:=h3.row_inv;obtain⟨a',cap',rfl,hr'⟩:=h4.row_inv;exact⟨a,cap,a',cap',by rw[Bi,Lk],hr,hr'⟩
theorem Ai.val_mk(k n:Int)(s:ByteArray){l:List Vl}{ks:List ByteArray}{a a':Option Addr}(c c':Nat)(h:Ac F w a (Ar l))(h':Ac F w a' (Bn ks)):
  Ai F w (valD (.mk k n s l ks)) [J M k,J M n,E s,D a l.length c,D a' ks.length c']:=by
 rw[valD];exact .cons (.one _) (.cons (.one _) (.cons (.one _) (.cons (by rw[<-Bi l];exact D7.row_mk c h) (.cons (by rw[<-Lk ks];exact D7.row_mk c' h') .nil))))
theorem Ac.val{a:Option Addr}{l:List Vl}(h:Ac F w a (Ar l)){j:Nat}{k n:Int}{s:ByteArray}{m:List Vl}{ks:List ByteArray}(hj:l[j]? = A (.mk k n s m ks)):
  ∃b off a1 c1 a2 c2,a=A ⟨b,off,C⟩/\F b/\b<w.heap.size/\w.cell? ⟨b,off+j*5,C⟩=A (J M k)/\w.cell? ⟨b,off+j*5+1,C⟩=A (J M n)/\w.cell? ⟨b,off+j*5+2,C⟩=A (E s) /\
   w.cell? ⟨b,off+j*5+3,C⟩=A (D a1 m.length c1)/\w.cell? ⟨b,off+j*5+4,C⟩=A (D a2 ks.length c2)/\Ac F w a1 (Ar m)/\Ac F w a2 (Bn ks):=by
 obtain⟨b,off,cs,ha,hF,hb,hd,hc⟩:=h j (valD (.mk k n s m ks)) (by rw[Fh,lgP,hj];rfl);obtain⟨a1,c1,a2,c2,rfl,hr,hr'⟩:=hd.val;rw[valD_len] at hc;exact⟨b,off,a1,c1,a2,c2,ha,hF,hb,hc 0 _ rfl,hc 1 _ rfl,hc 2 _ rfl,hc 3 _ rfl,hc 4 _ rfl,hr,hr'⟩
end
def risesGo:Option ByteArray->List ByteArray->Bool
 | _,[]=>true
 | p,s::t=>decide (s.size<=65536)&&(match p with|none=>true|some q=>Op.bytesLess q.toList s.toList)&&risesGo (A s) t
def risesL(l:List ByteArray):Bool:=risesGo C l&&decide (l.length<=1000)
def inR(n:Int):Bool:=decide (-9223372036854775808<=n)&&decide (n<=9223372036854775807)
def Bz(k n:Int)(s:ByteArray)(l:List Vl)(ks:List ByteArray):Bool:=
 if k=0 then n==0&&s.toList.isEmpty&&l.isEmpty&&ks.isEmpty
 else if k=1 then(n==0||n==1)&&s.toList.isEmpty&&l.isEmpty&&ks.isEmpty
 else if k=2 then inR n&&s.toList.isEmpty&&l.isEmpty&&ks.isEmpty
 else if k=3 then n==0&&decide (s.size<=65536)&&l.isEmpty&&ks.isEmpty
 else if k=4 then n==0&&s.toList.isEmpty&&decide (l.length<=1000)&&ks.isEmpty
 else if k=5 then n==0&&s.toList.isEmpty&&l.length==ks.length&&risesL ks
 else false
mutual
def mayV:Vl->Int->Int->Bool×Int
 | .mk k n s l ks,d,m=>if 60<d\/m - 1<0 then(false,m - 1) else if Bz k n s l ks=true then Co l (d+1) (m - 1) else(false,m - 1)
def Co:List Vl->Int->Int->Bool×Int
 | [],_,m=>(true,m)
 | v::t,d,m=>if(mayV v d m).1=true then Co t d (mayV v d m).2 else(false,(mayV v d m).2)
end
def Am(v:Vl):Bool:=(mayV v 1 20000).1
mutual
def sameV:Vl->Vl->Bool
 | .mk k n s l ks,.mk k' n' s' l' ks'=>k==k'&&n==n'&&s.toList==s'.toList&&ks.map (·.toList)==ks'.map (·.toList)&&sameVs l l'
def sameVs:List Vl->List Vl->Bool
 | [],[]=>true
 | v::t,v'::t'=>sameV v v'&&sameVs t t'
 | _,_=>false
end
def Gs(v:Vl):Bool:=Am v&&(v.num != 0 || !v.str.toList.isEmpty || !v.items.isEmpty)
theorem valsD_all{p:List Dat->Prop}(hp:∀v,p (valD v))(l):∀ds∈Ar l,p ds:=by
 rw[Fh];intro ds h;obtain⟨v,-,rfl⟩:=List.mem_map.1 h;exact hp v
def A4(k n:Int)(s:ByteArray)(a1:Option Addr)(l1 c1:Nat)(a2:Option Addr)(l2 c2:Nat):Value:=.agg #[J M k,J M n,E s,D a1 l1 c1,D a2 l2 c2]
theorem P6(F g fa lb)(eg:∀args w,(callFunc g args).run Tryz.prog w = .ok (.enter g args) w)(a cap l q I w)(hl:l.length<=9223372036854775807)(h0:I 0 w)(hI:∀k w',I k w'->Ac F w' a (Ar l))(hg:∀k kk n s m ks a1 c1 a2 c2 w1,l[k]? = A (.mk kk n s m ks)->I k w1->(∀j,j<k->q j=false)->Ac F w1 a1 (Ar m)->Ac F w1 a2 (Bn ks) ->
   Calls Tryz.prog g ((fa++#[A4 kk n s a1 m.length c1 a2 ks.length c2])++lb) w1 fun e w2=>e = .returned (.bool (q k))/\I (k+1) w2):
  Calls Tryz.prog 216 #[D a l.length cap,.func (.func g) fa lb] w (Found q l.length I):=by
 go_enter Tryz.func216,Tryz.ntmps216;go_wp2
 go_loopw [8] (fun i wr=>∃k:Nat,i = J M k/\k<=l.length/\I k wr/\∀j,j<k->q j=false) (fun i _=>l.length-(intOf i).toNat)
 case atStart=>exact⟨0,rfl,nlz _,h0,fun j h=>absurd h (Nat.not_lt_zero _)⟩
 case round=>
  obtain⟨k,rfl,hk,aD,hq⟩:=hrel;by_cases hlt:k<l.length
  ·cases hx:l[k] with
   | mk kk n s m ks=>
    have hj:l[k]? = A (.mk kk n s m ks):=(by rw[lgE hlt,hx]);obtain⟨b,off,a1,c1,a2,c2,rfl,hF,hbl,r0,r1,r2,r3,r4,hr1,hr2⟩:=(hI k wr aD).val hj;have aA:=hg k _ _ _ _ _ a1 c1 a2 c2 wr hj aD hq hr1 hr2;unfold A4 at aA;have HC:=Lq7 aA;cases hqk:q k
    ·have aC:=Lq7 hqk;have Hq:=Lq7 hq;go_wp2_with fail;refine HC.out.mono ?_;rintro e w2 ⟨rfl,aB⟩;rw[aC.out];go_wp2;go_roundw
     case rel=>exact⟨k+1,by go_num,by omega,aB,fun j hj=>by by_cases h:j=k;(rw[h];exact aC.out);exact Hq.out j (by omega)⟩
     case measure=>simp only[intOf];omega
    ·have aC:=Lq7 hqk;have Hq:=Lq7 hq;go_wp2_with fail;refine HC.out.mono ?_;rintro e w2 ⟨rfl,aB⟩;rw[aC.out];go_wp2;go_ret;exact .inl ⟨k,hlt,aC.out,Hq.out,rfl,aB⟩
  ·obtain rfl:k=l.length:=(by omega);have Hq:=Lq7 hq;go_wp2;go_ret;exact .inr ⟨Hq.out,rfl,aD⟩
theorem I2(F g fa lb)(eg:∀args w,(callFunc g args).run Tryz.prog w = .ok (.enter g args) w)(a cap l q I w)(hl:l.length<=9223372036854775807)(h0:I 0 w)(hI:∀k w',I k w'->Ac F w' a (Ar l))(hg:∀k kk n s m ks a1 c1 a2 c2 w1,l[k]? = A (.mk kk n s m ks)->I k w1->(∀j,j<k->q j=false)->Ac F w1 a1 (Ar m)->Ac F w1 a2 (Bn ks) ->
   Calls Tryz.prog g ((fa++#[A4 kk n s a1 m.length c1 a2 ks.length c2])++lb) w1 fun e w2=>e = .returned (.bool (q k))/\I (k+1) w2):
  Calls Tryz.prog 197 #[D a l.length cap,.func (.func g) fa lb] w (Xo q l.length I):=by
 go_enter Tryz.func197,Tryz.ntmps197;go_wp2_with fail;refine(P6 F g fa lb eg a cap l q I w hl h0 hI hg).mono ?_;rintro e w2 (⟨i,hi,hqi,hq,rfl,aB⟩|⟨hq,rfl,aB⟩)
 ·have Hq:=Lq7 hq;have Hqi:=Lq7 hqi;go_wp2;go_ret;exact .inl ⟨i,hi,Hqi.out,Hq.out,rfl,aB⟩
 ·have Hq:=Lq7 hq;go_wp2;go_ret;exact .inr ⟨Hq.out,rfl,aB⟩
mutual
theorem Lm(v:Vl)(d m:Int)(hm:0<=m): -1<=(mayV v d m).2/\(mayV v d m).2<=m - 1/\((mayV v d m).1=true->0<=(mayV v d m).2):=by
 obtain⟨k,n,s,l,ks⟩:=v;rw[mayV];split
 ·exact⟨by simp;omega,by simp,fun h=>by cases h⟩
 ·split
  ·obtain⟨h1,h2,h3⟩:=Qe l (d+1) (m - 1) (by omega);exact⟨h1,h2,h3⟩
  ·exact⟨by simp;omega,by simp,fun h=>by cases h⟩
theorem Qe(l:List Vl)(d m:Int)(hm:0<=m): -1<=(Co l d m).2/\(Co l d m).2<=m/\((Co l d m).1=true->0<=(Co l d m).2):=by
 cases l with
 | nil=>rw[Co];exact⟨by simp;omega,by simp,fun _=>hm⟩
 | cons v t=>
  rw[Co];obtain⟨h1,h2,h3⟩:=Lm v d m hm;split
  ·rename_i h
   obtain⟨h4,h5,h6⟩:=Qe t d (mayV v d m).2 (h3 h);exact⟨h4,by omega,h6⟩
  ·exact⟨h1,by simp;omega,fun h=>by cases h⟩
end
def Es(d:Int):List Vl->Int->Nat->Int
 | [],m,_=>m
 | _::_,m,0=>m
 | v::t,m,k+1=>Es d t (mayV v d m).2 k
theorem E4(d l m):Es d l m 0=m:=by cases l<;>rfl
theorem Ot(d):∀(l:List Vl) (m:Int) (k:Nat) (v:Vl),l[k]? = A v->Es d l m (k+1)=(mayV v d (Es d l m k)).2
 | [],_,_,_,h=>by simp at h
 | x::t,m,0,v,h=>by simp at h;subst h;show Es d t (mayV x d m).2 0=(mayV x d m).2;exact E4 d t _
 | x::t,m,k+1,v,h=>by
  rw[Es,Ot d t _ k v (by simpa using h)];rfl
def mayQ(d:Int)(l:List Vl)(m:Int)(k:Nat):Bool:=match l[k]? with|some v=> !(mayV v d (Es d l m k)).1|none=>false
theorem N6(d v t m k):mayQ d (v::t) m (k+1)=mayQ d t (mayV v d m).2 k:=rfl
theorem R6(d):∀(l:List Vl) (m:Int),(∀j,j<l.length->mayQ d l m j=false)->Co l d m=(true,Es d l m l.length)
 | [],m,_=>rfl
 | v::t,m,h=>by
  have h0:=h 0 (by simp);have hv:(mayV v d m).1=true:=(by simpa[mayQ,E4] using h0);rw[Co,if_pos hv,R6 d t _ (fun j hj=>by rw[<-N6];exact h (j+1) (by simp;omega))];rfl
theorem R7(d):∀(l:List Vl) (m:Int) (i:Nat),i<l.length->mayQ d l m i=true->(∀j,j<i->mayQ d l m j=false)->Co l d m=(false,Es d l m (i+1))
 | [],_,_,h,_,_=>by simp at h
 | v::t,m,0,_,h,_=>by
  have hv:(mayV v d m).1=false:=(by simpa[mayQ,E4] using h);rw[Co,if_neg (by simp[hv]),Es,E4]
 | v::t,m,i+1,hi,h,hj=>by
  have h0:=hj 0 (by omega);have hv:(mayV v d m).1=true:=(by simpa[mayQ,E4] using h0);rw[Co,if_pos hv,R7 d t _ i (by simpa using hi) h (fun j hj'=>by rw[<-N6];exact hj (j+1) (by omega))];rfl
theorem R8(d):∀(l:List Vl) (m:Int) (k:Nat),0<=m->(∀j,j<k->j<l.length->mayQ d l m j=false)->0<=Es d l m k/\Es d l m k<=m
 | [],m,_,hm,_=>⟨hm,Int.le_refl _⟩
 | _::_,m,0,hm,_=>⟨hm,Int.le_refl _⟩
 | v::t,m,k+1,hm,h=>by
  have h0:=h 0 (by omega) (by simp);have hv:(mayV v d m).1=true:=(by simpa[mayQ,E4] using h0);obtain⟨h1,h2,h3⟩:=Lm v d m hm;obtain⟨h4,h5⟩:=R8 d t (mayV v d m).2 k (h3 hv) (fun j hj hl=>by rw[<-N6];exact h (j+1) (by omega) (by simp;omega));exact⟨h4,by rw[Es];omega⟩
theorem Nb(p s t):risesGo p (s::t)=(decide (s.size<=65536)&&(match p with|none=>true|some q=>Op.bytesLess q.toList s.toList)&&risesGo (A s) t):=by cases p<;>rfl
def Ld(ks:List ByteArray)(k:Nat):Option ByteArray:=if k=0 then C else ks[k - 1]?
theorem Acd(a cap ks w)(hr:Dx w a ks)(hl:ks.length<=140737488355328)(hsz:∀s∈ks,s.size<=9223372036854775807):
  Calls Tryz.prog 196 #[D a ks.length cap] w (fun e w'=>e = .returned (.bool (risesL ks))/\w=w'):=by
 have Hr:=Lq7 hr;have Hsz:=Lq7 hsz;clear hr hsz;go_enter Tryz.func196,Tryz.ntmps196;go_wp2
 go_loop [7] (fun i=>∃k:Nat,i = J M k/\k<=ks.length/\Hid (risesGo C ks=risesGo (Ld ks k) (ks.drop k))) (fun i=>ks.length-(intOf i).toNat)
 case atStart=>exact⟨0,rfl,nlz _,Lq7 rfl⟩
 case round=>
  obtain⟨k,rfl,hk,aB⟩:=hrel;by_cases hlt:k<ks.length
  ·obtain⟨b,off,rfl,hc⟩:=Hr.out.at hlt;have hs0:=Hsz.out _ (List.getElem_mem hlt);have hd:ks.drop k=ks[k]::ks.drop (k+1):=List.drop_eq_getElem_cons hlt;have aA:Hid (risesGo C ks=(decide (ks[k].size<=65536)&&(match Ld ks k with|none=>true|some q=>Op.bytesLess q.toList ks[k].toList)&&risesGo (A ks[k]) (ks.drop (k+1)))):=Lq7 (by rw[aB.out,hd,Nb]);have Hp:Hid (Ld ks (k+1)=A ks[k]):=Lq7 (by unfold Ld;rw[if_neg (by omega),Nat.add_sub_cancel];exact lgE hlt);clear aB hd;by_cases hbig:(65536:Int)<ks[k].size
   ·have Hf:Hid (risesL ks=false):=Lq7 (by unfold risesL;rw[aA.out,decide_eq_false (by omega)];rfl);go_wp2;go_ret;exact⟨A0 Hf.out.symm,rfl⟩
   ·have aC:Hid (decide (ks[k].size<=65536)=true):=Lq7 (decide_eq_true (by omega));cases k with
    | zero=>
     have Hn:Hid (risesGo C ks=risesGo (Ld ks (0+1)) (ks.drop (0+1))):=Lq7 (by rw[aA.out,aC.out,Hp.out];rfl);rw[Nat.add_zero] at hc;go_wp2;go_round
     case rel=>exact⟨0+1,by go_num,by omega,Hn⟩
     case measure=>simp[intOf];omega
    | succ j=>
     obtain⟨b',off',hb',hc'⟩:=Hr.out.at (k:=j) (by omega);cases hb';have Hq:Hid (Ld ks (j+1)=A ks[j]):=Lq7 (by unfold Ld;rw[if_neg (by omega),Nat.add_sub_cancel];exact lgE _);have hjn:((j+1:Nat):Int) - 1=(j:Int):=(by omega);cases hless:Op.bytesLess ks[j].toList ks[j+1].toList
     ·have Hf:Hid (risesL ks=false):=Lq7 (by unfold risesL;rw[aA.out,aC.out,Hq.out];simp only[hless,Bool.and_false,Bool.false_and]);go_wp2;go_ret;exact⟨A0 Hf.out.symm,rfl⟩
     ·have Hn:Hid (risesGo C ks=risesGo (Ld ks (j+1+1)) (ks.drop (j+1+1))):=Lq7 (by rw[aA.out,aC.out,Hq.out,Hp.out];simp only[hless,Bool.true_and]);go_wp2;go_round
      case rel=>exact⟨j+1+1,by go_num,by omega,Hn⟩
      case measure=>simp[intOf];omega
  ·have Hf:Hid (risesL ks=decide (ks.length<=1000)):=Lq7 (by unfold risesL;rw[aB.out,List.drop_eq_nil_of_le (by omega)];rfl);go_wp2;go_ret;refine⟨A0 ?_,rfl⟩;rw[Hf.out,Bool.eq_iff_iff,decide_eq_true_eq,decide_eq_true_eq];omega
inductive Nd where
 | mk (kind:Int) (text:ByteArray) (line col:Int) (kids:List Nd)
def Nd.kids:Nd->List Nd | .mk _ _ _ _ l=>l
def Nd.text:Nd->ByteArray | .mk _ t _ _ _=>t
def Nd.kind:Nd->Int | .mk k _ _ _ _=>k
inductive PR(α:Type) where
 | ok (x:α) (ts:List Tok) (dp:Int)
 | err (e l c:Int)
 | out
def PM(α:Type):=List Tok->Int->PR α
namespace PM
def pure{α:Type}(x:α):PM α:=fun ts d=> .ok x ts d
def bind{α β:Type}(m:PM α)(f:α->PM β):PM β:=fun ts d=>match m ts d with | .ok x ts' d'=>f x ts' d' | .err a b c=> .err a b c | .out=> .out
end PM
abbrev bs(l:List UInt8):ByteArray:=⟨l.toArray⟩
section
variable (en:Int×Int)
def A1(ts:List Tok)(n:Nat):Tok:=(ts[n]?).getD ⟨0,⟨#[]⟩,en.1,en.2⟩
def Az(ts:List Tok)(n:Nat)(s:List UInt8):Bool:=(A1 en ts n).kind==4&&(A1 en ts n).text.data.toList==s
def A5(ts:List Tok)(s:List UInt8):Bool:=(A1 en ts 0).kind==1&&(A1 en ts 0).text.data.toList==s
def reservedL:List (List UInt8):=[[102,111,114],[105,110],[105,102],[101,108,115,101],[114,117,108,101],[110,111,116]]
def typesL:List (List UInt8):=[[116,101,120,116],[98,111,111,108],[105,110,116],[116,101,120,116,115],[102,105,108,101,115],[108,97,98,101,108,115]]
def Bb(ts:List Tok):Bool:=(A1 en ts 0).kind==1 && !reservedL.contains (A1 en ts 0).text.data.toList
def pFail{α:Type}(e:Int):PM α:=fun ts _=> .err e (A1 en ts 0).line (A1 en ts 0).col
def A3(is:Bool):PM Tok:=fun ts d=>if is then(match ts with|[]=> .out|t::r=> .ok t r d) else pFail en 3 ts d
def C2(s:List UInt8):PM Unit:=fun ts d=>PM.bind (A3 en (Az en ts 0 s)) (fun _=>PM.pure ()) ts d
def Dc(is:Bool):PM Tok:=fun ts d=>if is&&decide (60<=d) then pFail en 6 ts d else A3 en is ts (d+1)
def pDown:PM Unit:=fun ts d=> .ok () ts (d - 1)
def Dh(s:List UInt8):PM Unit:=PM.bind (C2 en s) fun _=>pDown
def pLook{α:Type}(f:List Tok->PM α):PM α:=fun ts d=>f ts ts d
def Aj(kind:Int)(t:Tok)(text:ByteArray)(kids:List Nd):Nd:=.mk kind text t.line t.col kids
def Ce(to:List UInt8)(one:PM (List Nd)):Nat->List Nd->PM (List Nd)
 | 0,_=>fun _ _=> .out
 | f+1,acc=>pLook fun ts=>
  if Az en ts 0 to then PM.pure acc
  else PM.bind (if acc=[] then PM.pure () else C2 en [44]) fun _=>PM.bind one fun l=>Ce to one f (acc++l)
def Ct(to:List UInt8)(one:PM (List Nd)):PM (List Nd):=fun ts d=>Ce en to one (ts.length+1) [] ts d
structure Lvl where
 expr:PM Nd
 prim:PM Nd
 stmt:PM Nd
variable (L:Lvl)
def pArg:PM Nd:=pLook fun ts=>
 if Bb en ts&&Az en ts 1 [61] then
  PM.bind (A3 en true) fun _=>PM.bind (C2 en [61]) fun _=>PM.bind L.expr fun x=>PM.pure (Aj 15 (A1 en ts 0) (A1 en ts 0).text [x])
 else PM.bind L.expr fun x=>PM.pure (Aj 15 (A1 en ts 0) ⟨#[]⟩ [x])
def pCall:PM Nd:=pLook fun ts=>
 PM.bind (A3 en (Bb en ts)) fun name=>pLook fun ts=>
 PM.bind (Dc en (Az en ts 0 [40])) fun _=>
 PM.bind (Ct en [41] (PM.bind (pArg en L) fun x=>PM.pure [x])) fun kids=>
 PM.bind (Dh en [41]) fun _=>PM.pure (Aj 14 name name.text kids)
def pEntry:PM (List Nd):=pLook fun ts=>
 PM.bind (A3 en ((A1 en ts 0).kind==3)) fun t=>PM.bind (C2 en [58]) fun _=>PM.bind L.expr fun x=>PM.pure [Aj 11 t t.text [],x]
def pPrim:PM Nd:=pLook fun ts=>
 let t:=A1 en ts 0
 if t.kind==3 then PM.bind (A3 en true) fun _=>PM.pure (Aj 11 t t.text [])
 else if t.kind==2 then PM.bind (A3 en true) fun _=>PM.pure (Aj 10 t t.text [])
 else if Bb en ts&&Az en ts 1 [40] then pCall en L
 else if Bb en ts then PM.bind (A3 en true) fun _=>PM.pure (Aj 9 t t.text [])
 else if A5 en ts [110,111,116] then
  PM.bind (Dc en true) fun _=>PM.bind L.prim fun x=>PM.bind pDown fun _=>PM.pure (Aj 16 t (bs [110,111,116]) [x])
 else if Az en ts 0 [91] then
  PM.bind (Dc en true) fun _=>PM.bind (Ct en [93] (PM.bind L.expr fun x=>PM.pure [x])) fun l=>PM.bind (Dh en [93]) fun _=>PM.pure (Aj 12 t ⟨#[]⟩ l)
 else if Az en ts 0 [123] then
  PM.bind (Dc en true) fun _=>PM.bind (Ct en [125] (pEntry en L)) fun l=>PM.bind (Dh en [125]) fun _=>PM.pure (Aj 13 t ⟨#[]⟩ l)
 else PM.bind (Dc en (Az en ts 0 [40])) fun _=>PM.bind L.expr fun x=>PM.bind (Dh en [41]) fun _=>PM.pure x
def pSumGo:Nat->Nd->PM Nd
 | 0,_=>fun _ _=> .out
 | f+1,x=>pLook fun ts=>
  if Az en ts 0 [43] then PM.bind (A3 en true) fun t=>PM.bind (pPrim en L) fun y=>pSumGo f (Aj 16 t (bs [43]) [x,y])
  else PM.pure x
def pSum:PM Nd:=PM.bind (pPrim en L) fun x ts d=>pSumGo en L (ts.length+1) x ts d
def Dd:PM Nd:=PM.bind (pSum en L) fun x=>pLook fun ts=>
 if Az en ts 0 [61,61]||Az en ts 0 [33,61]||A5 en ts [105,110] then
  PM.bind (A3 en true) fun t=>PM.bind (pSum en L) fun y=>PM.pure (Aj 16 t t.text [x,y])
 else PM.pure x
def Cj(to:List UInt8):Nat->List Nd->PM (List Nd)
 | 0,_=>fun _ _=> .out
 | f+1,acc=>pLook fun ts=>
  if !ts.isEmpty&&(to.isEmpty || !Az en ts 0 to) then PM.bind L.stmt fun x=>Cj to f (acc++[x])
  else PM.pure acc
def Cp(to:List UInt8):PM (List Nd):=fun ts d=>Cj en L to (ts.length+1) [] ts d
def B9:PM Nd:=pLook fun ts=>
 PM.bind (Dc en (Az en ts 0 [123])) fun t=>PM.bind (Cp en L [125]) fun l=>PM.bind (Dh en [125]) fun _=>PM.pure (Aj 8 t ⟨#[]⟩ l)
def C3:PM Nd:=pLook fun ts=>
 PM.bind (A3 en (Bb en ts)) fun name=>PM.bind (C2 en [58]) fun _=>pLook fun ts=>
 PM.bind (A3 en ((A1 en ts 0).kind==1&&typesL.contains (A1 en ts 0).text.data.toList)) fun t=>pLook fun ts=>
 if Az en ts 0 [61] then PM.bind (C2 en [61]) fun _=>PM.bind (Dd en L) fun x=>PM.pure (Aj 7 name name.text [Aj 9 t t.text [],x])
 else PM.pure (Aj 7 name name.text [Aj 9 t t.text []])
def pRule:PM Nd:=PM.bind (A3 en true) fun t=>pLook fun ts=>
 PM.bind (A3 en (Bb en ts)) fun name=>PM.bind (C2 en [40]) fun _=>
 PM.bind (Ct en [41] (PM.bind (C3 en L) fun x=>PM.pure [x])) fun kids=>
 PM.bind (C2 en [41]) fun _=>PM.bind (B9 en L) fun b=>PM.pure (Aj 6 t name.text (kids++[b]))
def pStmt:PM Nd:=pLook fun ts=>
 let t:=A1 en ts 0
 if A5 en ts [102,111,114] then
  PM.bind (A3 en true) fun _=>pLook fun ts=>PM.bind (A3 en (Bb en ts)) fun name=>pLook fun ts=>PM.bind (A3 en (A5 en ts [105,110])) fun _=>
  PM.bind (Dd en L) fun x=>PM.bind (B9 en L) fun b=>PM.pure (Aj 4 t name.text [x,b])
 else if A5 en ts [105,102] then
  PM.bind (A3 en true) fun _=>PM.bind (Dd en L) fun x=>PM.bind (B9 en L) fun b=>pLook fun ts=>
  if A5 en ts [101,108,115,101] then PM.bind (A3 en true) fun _=>PM.bind (B9 en L) fun c=>PM.pure (Aj 5 t ⟨#[]⟩ [x,b,c])
  else PM.pure (Aj 5 t ⟨#[]⟩ [x,b])
 else if A5 en ts [114,117,108,101] then pRule en L
 else if Bb en ts&&Az en ts 1 [40] then PM.bind (pCall en L) fun c=>PM.bind (C2 en [59]) fun _=>PM.pure (Aj 3 t ⟨#[]⟩ [c])
 else PM.bind (A3 en (Bb en ts)) fun name=>PM.bind (C2 en [61]) fun _=>PM.bind (Dd en L) fun x=>PM.bind (C2 en [59]) fun _=>PM.pure (Aj 2 t name.text [x])
def lvl:Nat->Lvl
 | 0=>⟨fun _ _=> .out,fun _ _=> .out,fun _ _=> .out⟩
 | f+1=>⟨Dd en (lvl f),pPrim en (lvl f),pStmt en (lvl f)⟩
end
def Id(l:List UInt8):Int×Int:=l.foldl (fun p c=>if c=10 then(p.1+1,1) else(p.1,p.2+1)) (1,1)
def readL(l:List UInt8):Option (Except (Int×Int×Int) Nd):=
 match G6 l with
 | .error e=>A (.error e)
 | .ok ts=>
  match Cp (Id l) (lvl (Id l) (ts.length+2)) [] ts 0 with
  | .ok x _ _=>A (.ok (.mk 1 ⟨#[]⟩ 1 1 x))
  | .err e a b=>A (.error (e,a,b))
  | .out=>C
def Fx(s:ByteArray):Vl:=.mk 3 0 s [] []
def truthL(b:Bool):Vl:=.mk 1 (if b then 1 else 0) ⟨#[]⟩ [] []
def intL(n:Int):Vl:=.mk 2 n ⟨#[]⟩ [] []
def Jg(l:List Vl):Vl:=.mk 4 0 ⟨#[]⟩ l []
def Qj(a b:Vl):Except Int Vl:=
 if ¬a.kind=b.kind then .error 9
 else if a.kind=2 then(if inR (a.num+b.num)=true then .ok (intL (a.num+b.num)) else .error 2)
 else if a.kind=3 then(if 65536<a.str.size+b.str.size then .error 6 else .ok (Fx (a.str++b.str)))
 else if a.kind=4 then(if 1000<a.items.length+b.items.length then .error 6 else if Am (Jg (a.items++b.items))=true then .ok (Jg (a.items++b.items)) else .error 6)
 else .error 9
def inL(a b:Vl):Except Int Vl:=
 if b.kind=4 then .ok (truthL (b.items.any fun x=>sameV x a))
 else if b.kind=5/\a.kind=3 then .ok (truthL (Lib.containsS b.keys a.str))
 else if b.kind=3/\a.kind=3 then .ok (truthL (Lib.contains b.str.data.toList a.str.data.toList))
 else .error 9
def opL(op:List UInt8)(a b:Vl):Except Int Vl:=
 if op=[61,61] then .ok (truthL (sameV a b))
 else if op=[33,61] then .ok (truthL (!sameV a b))
 else if op=[43] then Qj a b
 else if op=[105,110] then inL a b
 else .error 7
section
variable {P:Program} {w:World}
theorem Mx(base:Nat)(t ty e:TypeId)(i:TypeInfo)(z:Value)(size bytes:Nat)(ht:P.underlying t=A (.slice e))(hi:P.info? e=A i)(hz:i.zero=A z)
  (hsize:i.size=size) (hby:i.bytes=bytes) (hzs:z.cells.size=size) (hsz:0<size)
  (v:Value) (n:Nat) (xs:List Value) (hown:w.ownsRow base e size v n xs)
  (a:Addr) (m c:Nat) (news:List Value) (hl:news.length=m*size) (hnews:∀j u,news[j]? = A u->w.cell? (a.add j)=A u) (h1:∀u∈news,u.oneCell'=true)
  (h63:n+m<=maxLen) (hbytes:(n+m)*bytes<=140737488355328) (hbase:base<=w.heap.size):
  ∃v' w',(Builtin.append_ #[t,t] ty #[v,D (A a) m c]).run P w = .ok v' w'/\w'.ownsRow base e size v' (n+m) (xs++news)/\w.grownBy w' v.ownBlock /\
   ∀g,v'.ownBlock=A g->v.ownBlock=A g\/w.heap.size<=g:=by
 obtain⟨v',w',hr,h2,h3,h4⟩:=run_append_own w base t ty e i z size bytes ht hi hz hsize hby hzs hsz v n xs hown a m c news hl hnews h1 h63 hbytes hbase;refine⟨v',w',hr,h2,h3,fun g hg=>?_⟩;rcases hown.2 with⟨hv,hn⟩|⟨g0,cap,cur,hv,hbg,hg0,hnc,hcm,aB,htake⟩
 ·subst hv;have hxs:xs=[]:=List.eq_nil_of_length_eq_zero (by rw[hown.1,hn];simp);obtain⟨v2,w2,aA,h22,-,-⟩:=run_append_own w w.heap.size t ty e i z size bytes ht hi hz hsize hby hzs hsz (D C 0 0) n xs ⟨hown.1,.inl ⟨rfl,hn⟩⟩ a m c news hl hnews h1 h63 hbytes (nlr _);rw[hr] at aA;cases aA;rcases h22.2 with⟨hv',-⟩|⟨g',cap',cur',hv',hb',-⟩
  ·rw[hv'] at hg;cases hg
  ·rw[hv'] at hg;cases hg;exact .inr hb'
 ·subst hv;by_cases hroom:n+m<=cap
  ·have aA:=run_append_room (P:=P) w t ty e i ht hi g0 n cap cur hg0 a m c news (by rw[hl,hsize]) hnews h1 hroom (by rw[hl,aB,hsize,<-Nat.add_mul];exact Nat.mul_le_mul_right _ hroom);rw[hr] at aA;cases aA;exact .inl hg
  ·subst hsize;have aC:∀j u,xs[j]? = A u->w.cell? ((⟨g0,0,C⟩:Addr).add j)=A u:=hown.cells (g:=g0) rfl;have aA:=run_append_grow (P:=P) w t ty e i z ht hi hz ⟨g0,0,C⟩ n cap xs hown.1 aC a m c news hl hnews (by omega) (by simp only[maxLen] at h63;omega) (growslice_fits (by omega) (by rw[hby];exact hbytes));rw[hr] at aA;cases aA;cases hg;exact .inr (nlr _)
theorem C1{ops:Array Oper}{rest:List Oper}{o:Oper}{a:Act}{Q:Exit->Act->World->Prop}(hgd:o.guard=C)(s x:Operand)(t:TypeId)
  (ho:o.op = .call { callee:=.builtin .append,args:=#[s,x],argTypes:=#[t,t]})
  (base:Nat) (e:TypeId) (i:TypeInfo) (z:Value) (size bytes:Nat) (ht:P.underlying t=A (.slice e)) (hi:P.info? e=A i) (hz:i.zero=A z)
  (hsize:i.size=size) (hby:i.bytes=bytes) (hzs:z.cells.size=size) (hsz:0<size)
  (v:Value) (n:Nat) (xs:List Value) (hs:a.eval s=v) (hown:w.ownsRow base e size v n xs)
  (ad:Addr) (m c:Nat) (news:List Value) (hx:a.eval x = D (A ad) m c) (hl:news.length=m*size) (hnews:∀j u,news[j]? = A u->w.cell? (ad.add j)=A u) (h1:∀u∈news,u.oneCell'=true)
  (h63:n+m<=maxLen) (hbytes:(n+m)*bytes<=140737488355328) (hbase:base<=w.heap.size)
  (h:∀v' w',w'.ownsRow base e size v' (n+m) (xs++news)->w.grownBy w' v.ownBlock->(∀g,v'.ownBlock=A g->v.ownBlock=A g\/w.heap.size<=g)->wpList P ops Q rest (a.put o.dst v') w'):wpList P ops Q (o::rest) a w:=by
 refine wpList_plain hgd fun K hK=>?_;obtain⟨v',w',hr,h2,h3,h4⟩:=Mx (P:=P) base t o.type e i z size bytes ht hi hz hsize hby hzs hsz v n xs hown ad m c news hl hnews h1 h63 hbytes hbase;unfold Oper.wp execOp;simp only[ho,resolve,invoke,builtin,Sem.run_bind,Sem.run_pure,Result.andThen_ok,List.map_toArray,List.map_cons,List.map_nil,hs,hx,hr];exact hK _ _ (h v' w' h2 h3 h4)
end
def OwnD(F:Nat->Prop)(w:World)(base:Nat)(e:TypeId)(size:Nat)(v:Value)(l:List (List Dat)):Prop:=
 ∃css:List (List Value),css.length=l.length/\(∀cs∈css,cs.length=size)/\w.ownsRow base e size v l.length css.flatten /\
  ∀(j:Nat) ds cs,l[j]? = A ds->css[j]? = A cs->Ai (fun b=>F b/\v.ownBlock≠A b) w ds cs
section
variable {F:Nat->Prop} {w w':World} {base:Nat} {e:TypeId} {size:Nat} {v:Value} {l:List (List Dat)}
theorem OwnD.nil(F:Nat->Prop)(w:World)(base:Nat)(e:TypeId)(size:Nat):OwnD F w base e size (D C 0 0) []:=
 ⟨[],rfl,by simp,⟨by simp,.inl ⟨rfl,rfl⟩⟩,by simp⟩
theorem Fy{css:List (List Value)}{size:Nat}(hsz:∀cs∈css,cs.length=size):∀{j:Nat} {cs:List Value} {i:Nat} {u:Value},css[j]? = A cs->cs[i]? = A u->css.flatten[j*size+i]? = A u:=by
 induction css with
 | nil=>intro j cs i u h;simp at h
 | cons c t ih=>
  intro j cs i u hj hi;have hc:=hsz c (lmS ..);rw[List.flatten_cons];cases j with
  | zero=>
   simp at hj;subst hj;have:=(lgS.1 hi).1;rw[List.getElem?_append_left (by omega)]
   simpa using hi
  | succ j=>
   simp at hj;have:=(lgS.1 hi).1;rw[List.getElem?_append_right (by rw[hc,Nat.add_mul];omega),hc,show(j+1)*size+i-size=j*size+i by rw[Nat.add_mul];omega];exact ih (fun cs h=>hsz cs (lmO _ h)) hj hi
theorem OwnD.rowAt(h:OwnD F w base e size v l)(hF:∀g,v.ownBlock=A g->F g):∃a cap,v = D a l.length cap/\Ac F w a l:=by
 obtain⟨css,hlen,hsz,hown,hd⟩:=h;obtain⟨h1,⟨rfl,h2⟩|⟨g,cap,cur,rfl,h3,h4,h5,h6,h7,h8⟩⟩:=hown
 ·obtain rfl:l=[]:=List.length_eq_zero_iff.1 h2;exact⟨C,0,rfl,Ac.nil _⟩
 ·refine⟨_,cap,rfl,fun j ds hj=>?_⟩;have aF:=(lgS.1 hj).1;have aD:css[j]? = A (css[j]'(by omega)):=lgE (by omega);have aB:=hsz _ (List.getElem_mem (by omega:j<css.length));refine⟨g,0,_,rfl,hF g rfl,(agS.1 h4).1,(hd j _ _ hj aD).wider (fun b h _=>h.1),fun i u hu=>?_⟩;have hi:=(lgS.1 hu).1;have h9:=Fy hsz aD hu;rw[<-h8] at h9;have hds:ds.length=size:=(by rw[<-(hd j _ _ hj aD).1];exact aB);rw[List.getElem?_take_of_lt (by
   have:(j+1)*size<=l.length*size:=Nat.mul_le_mul_right _ (by omega);rw[Nat.add_mul] at this;omega),Array.getElem?_toList] at h9
  unfold World.cell?;rw[h4,hds,Nat.zero_add];exact h9
theorem OwnD.rowAtC(h:OwnD F w base e size v l)(hF:∀g,v.ownBlock=A g->F g):∃a cap,v = D a l.length cap/\(l.length<=cap/\cap<=maxLen)/\Ac F w a l:=by
 obtain⟨a,cap,hv,hr⟩:=h.rowAt hF;refine⟨a,cap,hv,?_,hr⟩;obtain⟨css,hlen,hsz,⟨h1,⟨h2,h3⟩|⟨g,cap',cur,h2,h3,h4,h5,h6,h7⟩⟩,hd⟩:=h
 ·rw[h2] at hv;injection hv with e1 e2 e3;exact⟨by omega,by rw[<-e3];exact nlz _⟩
 ·rw[h2] at hv;injection hv with e1 e2 e3;subst e3;exact⟨h5,h6⟩
theorem OwnD.keep(h:OwnD F w base e size v l)(hk:∀b,b<w.heap.size->F b\/v.ownBlock=A b->w'.heap[b]? = w.heap[b]?)(hs:w.heap.size<=w'.heap.size):OwnD F w' base e size v l:=by
 obtain⟨css,hlen,hsz,hown,hd⟩:=h;refine⟨css,hlen,hsz,?_,fun j ds cs h1 h2=>(hd j ds cs h1 h2).mono fun b hb hl=>⟨hb,by omega,hk b hl (.inl hb.1)⟩⟩;obtain⟨h1,h2|⟨g,cap,cur,rfl,h3,h4,h5⟩⟩:=hown
 ·exact⟨h1,.inl h2⟩
 ·exact⟨h1,.inr ⟨g,cap,cur,rfl,h3,by rw[hk g (agS.1 h4).1 (.inr rfl)];exact h4,h5⟩⟩
theorem OwnD.below(h:OwnD F w base e size v l)(hb:Below w.heap.size w w'):OwnD F w' base e size v l:=h.keep (fun b hl _=>hb.block b hl) hb.size
theorem OwnD.block_lt(h:OwnD F w base e size v l){g:Nat}(hg:v.ownBlock=A g):base<=g/\g<w.heap.size:=by
 obtain⟨css,-,-,⟨-,⟨rfl,-⟩|⟨g',cap,cur,rfl,h3,h4,-⟩⟩,-⟩:=h
 ·cases hg
 ·cases hg;exact⟨h3,(agS.1 h4).1⟩
theorem Df{P:Program}{ops:Array Oper}{rest:List Oper}{o:Oper}{a:Act}{Q:Exit->Act->World->Prop}(hgd:o.guard=C)(s x:Operand)(t:TypeId)
  (ho:o.op = .call { callee:=.builtin .append,args:=#[s,x],argTypes:=#[t,t]})
  (base:Nat) (e:TypeId) (i:TypeInfo) (z:Value) (size bytes:Nat) (ht:P.underlying t=A (.slice e)) (hi:P.info? e=A i) (hz:i.zero=A z)
  (hsize:i.size=size) (hby:i.bytes=bytes) (hzs:z.cells.size=size) (hsz:0<size)
  (v:Value) (F:Nat->Prop) (l:List (List Dat)) (hs:a.eval s=v) (hown:OwnD F w base e size v l)
  (ad:Addr) (c:Nat) (ds:List Dat) (cs:List Value) (hx:a.eval x = D (A ad) 1 c) (hl:cs.length=size) (hnews:∀j u,cs[j]? = A u->w.cell? (ad.add j)=A u) (h1:∀u∈cs,u.oneCell'=true)
  (hd:Ai (fun b=>F b/\v.ownBlock≠A b) w ds cs)
  (h63:l.length+1<=maxLen) (hbytes:(l.length+1)*bytes<=140737488355328) (hbase:base<=w.heap.size)
  (h:∀v' w',OwnD F w' base e size v' (l++[ds])->w.grownBy w' v.ownBlock->(∀g,v'.ownBlock=A g->v.ownBlock=A g\/w.heap.size<=g)->wpList P ops Q rest (a.put o.dst v') w'):wpList P ops Q (o::rest) a w:=by
 obtain⟨css,hlen,aB,aE,hel⟩:=hown;refine C1 hgd s x t ho base e i z size bytes ht hi hz hsize hby hzs hsz v l.length css.flatten hs aE ad 1 c cs hx (by rw[hl];omega) hnews h1 h63 hbytes hbase fun v' w' h2 h3 h4=>h v' w' ⟨css++[cs],?_,?_,?_,?_⟩ h3 h4
 ·simp[hlen]
 ·intro cs' hc;rcases List.mem_append.1 hc with hc|hc
  ·exact aB _ hc
  ·rw[List.mem_singleton.1 hc];exact hl
 ·rw[List.flatten_append,lnA]
  simpa using h2
 ·have step:∀b,F b/\v.ownBlock≠A b->b<w.heap.size->(F b/\v'.ownBlock≠A b)/\b<w'.heap.size/\w'.heap[b]? = w.heap[b]?:=fun b hb aG=>
   ⟨⟨hb.1,fun he=>by rcases h4 b he with h|h;exact hb.2 h;omega⟩,nll aG h3.size,h3.block b aG (fun he=>hb.2 he.symm)⟩
  intro j ds' cs' hj hc;by_cases aF:j<l.length
  ·rw[List.getElem?_append_left aF] at hj;rw[List.getElem?_append_left (by omega)] at hc;exact(hel j _ _ hj hc).mono step
  ·have hje:j=l.length:=by
    have:=(lgS.1 hj).1;simp at this;omega
   subst hje;rw[List.getElem?_append_right (nlr _),Nat.sub_self] at hj;rw[List.getElem?_append_right (by omega),hlen,Nat.sub_self] at hc;simp at hj hc;subst hj hc;exact hd.mono step
end
def F5(k:Int):Bool:=k==5||k==6||k==7
mutual
def nodeD:Nd->List Dat
 | .mk k t l c kids=>[.one (J M k),.one (E t),.one (J M l),.one (J M c),.rowb (F5 k) (Au kids)]
def Au:List Nd->List (List Dat)
 | []=>[]
 | n::t=>nodeD n::Au t
end
theorem B7(l):Au l=l.map nodeD:=by
 induction l with
 | nil=>simp[Au]
 | cons n t ih=>simp[Au,ih]
theorem Ah(l):(Au l).length=l.length:=by rw[B7,lnM]
theorem nodesD_append(l m):Au (l++m)=Au l++Au m:=by rw[B7,B7,B7,List.map_append]
def A7(F:Nat->Prop)(w:World)(n:Nd)(v:Value):Prop:=∃cs:List Value,v = .agg cs.toArray/\Ai F w (nodeD n) cs
theorem A7.openC{F w k l c t kids v}(h:A7 F w (.mk k t l c kids) v):
  ∃a cap,v = .agg #[J M k,E t,J M l,J M c,D a kids.length cap]/\(F5 k=true->kids.length<=cap)/\Ac F w a (Au kids):=by
 obtain⟨cs,rfl,h⟩:=h;rw[nodeD] at h;obtain⟨c0,cs,rfl,h0,h⟩:=h.cons_inv;obtain⟨c1,cs,rfl,h1,h⟩:=h.cons_inv;obtain⟨c2,cs,rfl,h2,h⟩:=h.cons_inv;obtain⟨c3,cs,rfl,h3,h⟩:=h.cons_inv;obtain⟨c4,cs,rfl,h4,h⟩:=h.cons_inv;obtain rfl:=h.nil_inv;obtain rfl:=h0.one_inv;obtain rfl:=h1.one_inv;obtain rfl:=h2.one_inv;obtain rfl:=h3.one_inv;obtain⟨a,cap,rfl,hc,hr⟩:=h4.rowb_inv;rw[Ah] at hc;exact⟨a,cap,by rw[Ah],hc,hr⟩
theorem A7.open{F w k l c t kids v}(h:A7 F w (.mk k t l c kids) v):
  ∃a cap,v = .agg #[J M k,E t,J M l,J M c,D a kids.length cap]/\Ac F w a (Au kids):=by
 obtain⟨a,cap,h1,-,h2⟩:=h.openC;exact⟨a,cap,h1,h2⟩
theorem A7.cap{F w k l c t kids a n cap}(h:A7 F w (.mk k t l c kids) (.agg #[J M k,E t,J M l,J M c,D a n cap])):F5 k=true->kids.length<=cap:=by
 obtain⟨a',cap',he,hc,-⟩:=h.openC;have h9:=congrArg (fun v=>match v with|Value.agg x=>x.toList|_=>[]) he;simp only[List.cons.injEq,Value.slice.injEq,and_true,true_and] at h9;rw[h9.2.2];exact hc
theorem A7.mk{F:Nat->Prop}{w:World}(k:Int)(t:ByteArray)(l c:Int){kids:List Nd}{a:Option Addr}(cap:Nat)(h:Ac F w a (Au kids))(hk:F5 k=true->kids.length<=cap:=by first|exact trivial|(refine Hid.out ?_;assumption)|assumption|(intro _;exact Nat.zero_le _)|(intro h6;exact absurd h6 (by decide))):
  A7 F w (.mk k t l c kids) (.agg #[J M k,E t,J M l,J M c,D a kids.length cap]):=by
 refine⟨[J M k,E t,J M l,J M c,D a kids.length cap],rfl,?_⟩;rw[nodeD];exact .cons (.one _) (.cons (.one _) (.cons (.one _) (.cons (.one _) (.cons (by rw[<-Ah kids];exact D7.rowb_mk cap (fun h6=>by rw[Ah];exact hk h6) h) .nil))))
theorem A7.mono{F G w w' n v}(h:A7 F w n v)(hk:∀b,F b->b<w.heap.size->G b/\b<w'.heap.size/\w'.heap[b]? = w.heap[b]?):A7 G w' n v:=by
 obtain⟨cs,rfl,h⟩:=h;exact⟨cs,rfl,h.mono hk⟩
theorem infoNode:(Tryz.prog.info? 27).map (fun i=>(i.zero,i.size,i.bytes))=A (A (.agg #[J M 0,E ByteArray.empty,J M 0,J M 0,D C 0 0]),5,64):=by kernel_rfl
def Inc{α:Type}(k:Int)(m:PM α):Prop:=∀ts d x ts' d',m ts d = .ok x ts' d'->d'=d+k
section
variable {α β:Type} {en:Int×Int}
theorem Inc.pure(x:α):Inc 0 (PM.pure x):=fun ts d y ts' d' h=>by cases h;omega
theorem Inc.bind{j k n:Int}{m:PM α}{f:α->PM β}(h1:Inc j m)(h2:∀x,Inc k (f x))(hn:j+k=n):Inc n (PM.bind m f):=by
 intro ts d y ts' d' h;unfold PM.bind at h;cases hm:m ts d with
 | ok x t1 d1=>
  rw[hm] at h;have e1:=h1 _ _ _ _ _ hm;have e2:=h2 x _ _ _ _ _ h;omega
 | err a b c=>rw[hm] at h;cases h
 | out=>rw[hm] at h;cases h
theorem Inc.look{k:Int}{f:List Tok->PM α}(h:∀ts,Inc k (f ts)):Inc k (pLook f):=fun ts d x ts' d' e=>h ts ts d x ts' d' e
theorem Inc.ite{k:Int}{c:Prop}[Decidable c]{m m':PM α}(h1:Inc k m)(h2:Inc k m'):Inc k (if c then m else m'):=by split;exact h1;exact h2
theorem Inc.out{k:Int}:Inc k (fun _ _=>(.out:PR α)):=fun ts d x ts' d' h=>by cases h
theorem Inc.take(b:Bool):Inc 0 (A3 en b):=by
 intro ts d x ts' d' h;unfold A3 at h;split at h
 ·split at h
  ·cases h
  ·cases h;omega
 ·cases h
theorem Inc.open(b:Bool):Inc 1 (Dc en b):=by
 intro ts d x ts' d' h;unfold Dc at h;split at h
 ·cases h
 ·have:=Inc.take _ _ _ _ _ _ h;omega
theorem Inc.eat(s:List UInt8):Inc 0 (C2 en s):=fun ts d x ts' d' h=>Inc.bind (Inc.take _) (fun _=>Inc.pure _) rfl ts d x ts' d' h
theorem Inc.down:Inc (-1) pDown:=fun ts d x ts' d' h=>by cases h;omega
theorem Inc.close(s:List UInt8):Inc (-1) (Dh en s):=Inc.bind (Inc.eat s) (fun _=>Inc.down) rfl
theorem Inc.listGo{to:List UInt8}{one:PM (List Nd)}(h:Inc 0 one):∀f acc,Inc 0 (Ce en to one f acc)
 | 0,_=>Inc.out
 | f+1,_acc=>Inc.look fun _=>Inc.ite (Inc.pure _) (Inc.bind (Inc.ite (Inc.pure _) (Inc.eat _)) (fun _=>Inc.bind h (fun _=>Inc.listGo h f _) rfl) rfl)
theorem Inc.list{to:List UInt8}{one:PM (List Nd)}(h:Inc 0 one):Inc 0 (Ct en to one):=fun ts d x ts' d' e=>Inc.listGo h _ _ ts d x ts' d' e
structure I0(L:Lvl):Prop where
 expr:Inc 0 L.expr
 prim:Inc 0 L.prim
 stmt:Inc 0 L.stmt
variable {L:Lvl} (hL:I0 L)
include hL
theorem Inc.arg:Inc 0 (pArg en L):=Inc.look fun _=>Inc.ite (Inc.bind (Inc.take _) (fun _=>Inc.bind (Inc.eat _) (fun _=>Inc.bind hL.expr (fun _=>Inc.pure _) rfl) rfl) rfl) (Inc.bind hL.expr (fun _=>Inc.pure _) rfl)
theorem Inc.call:Inc 0 (pCall en L):=Inc.look fun _=>Inc.bind (Inc.take _) (fun _=>Inc.look fun _=>Inc.bind (Inc.open _) (fun _=>Inc.bind (Inc.list (Inc.bind (Inc.arg hL) (fun _=>Inc.pure _) rfl)) (fun _=>Inc.bind (Inc.close _) (fun _=>Inc.pure _) rfl) rfl) rfl) rfl
theorem Inc.entry:Inc 0 (pEntry en L):=Inc.look fun _=>Inc.bind (Inc.take _) (fun _=>Inc.bind (Inc.eat _) (fun _=>Inc.bind hL.expr (fun _=>Inc.pure _) rfl) rfl) rfl
theorem Inc.prim:Inc 0 (pPrim en L):=Inc.look fun _=>
 Inc.ite (Inc.bind (Inc.take _) (fun _=>Inc.pure _) rfl)<|Inc.ite (Inc.bind (Inc.take _) (fun _=>Inc.pure _) rfl)<|Inc.ite (Inc.call hL)<|Inc.ite (Inc.bind (Inc.take _) (fun _=>Inc.pure _) rfl) <|
 Inc.ite (Inc.bind (Inc.open _) (fun _=>Inc.bind hL.prim (fun _=>Inc.bind Inc.down (fun _=>Inc.pure _) rfl) rfl) rfl) <|
 Inc.ite (Inc.bind (Inc.open _) (fun _=>Inc.bind (Inc.list (Inc.bind hL.expr (fun _=>Inc.pure _) rfl)) (fun _=>Inc.bind (Inc.close _) (fun _=>Inc.pure _) rfl) rfl) rfl) <|
 Inc.ite (Inc.bind (Inc.open _) (fun _=>Inc.bind (Inc.list (Inc.entry hL)) (fun _=>Inc.bind (Inc.close _) (fun _=>Inc.pure _) rfl) rfl) rfl) <|
 Inc.bind (Inc.open _) (fun _=>Inc.bind hL.expr (fun _=>Inc.bind (Inc.close _) (fun _=>Inc.pure _) rfl) rfl) rfl
theorem Inc.sumGo:∀f x,Inc 0 (pSumGo en L f x)
 | 0,_=>Inc.out
 | f+1,_=>Inc.look fun _=>Inc.ite (Inc.bind (Inc.take _) (fun _=>Inc.bind (Inc.prim hL) (fun _=>Inc.sumGo f _) rfl) rfl) (Inc.pure _)
theorem Inc.sum:Inc 0 (pSum en L):=Inc.bind (Inc.prim hL) (fun _x ts d y ts' d' e=>Inc.sumGo hL _ _ ts d y ts' d' e) rfl
theorem Inc.expr:Inc 0 (Dd en L):=Inc.bind (Inc.sum hL) (fun _=>Inc.look fun _=>Inc.ite (Inc.bind (Inc.take _) (fun _=>Inc.bind (Inc.sum hL) (fun _=>Inc.pure _) rfl) rfl) (Inc.pure _)) rfl
theorem Inc.stmtsGo(to:List UInt8):∀f acc,Inc 0 (Cj en L to f acc)
 | 0,_=>Inc.out
 | f+1,_=>Inc.look fun _=>Inc.ite (Inc.bind hL.stmt (fun _=>Inc.stmtsGo to f _) rfl) (Inc.pure _)
theorem Inc.stmts(to:List UInt8):Inc 0 (Cp en L to):=fun ts d x ts' d' e=>Inc.stmtsGo hL to _ _ ts d x ts' d' e
theorem Inc.block:Inc 0 (B9 en L):=Inc.look fun _=>Inc.bind (Inc.open _) (fun _=>Inc.bind (Inc.stmts hL _) (fun _=>Inc.bind (Inc.close _) (fun _=>Inc.pure _) rfl) rfl) rfl
theorem Inc.param:Inc 0 (C3 en L):=Inc.look fun _=>Inc.bind (Inc.take _) (fun _=>Inc.bind (Inc.eat _) (fun _=>Inc.look fun _=>Inc.bind (Inc.take _) (fun _=>Inc.look fun _=>
 Inc.ite (Inc.bind (Inc.eat _) (fun _=>Inc.bind (Inc.expr hL) (fun _=>Inc.pure _) rfl) rfl) (Inc.pure _)) rfl) rfl) rfl
theorem Inc.rule:Inc 0 (pRule en L):=Inc.bind (Inc.take _) (fun _=>Inc.look fun _=>Inc.bind (Inc.take _) (fun _=>Inc.bind (Inc.eat _) (fun _=>Inc.bind (Inc.list (Inc.bind (Inc.param hL) (fun _=>Inc.pure _) rfl)) (fun _=>
 Inc.bind (Inc.eat _) (fun _=>Inc.bind (Inc.block hL) (fun _=>Inc.pure _) rfl) rfl) rfl) rfl) rfl) rfl
theorem Inc.stmt:Inc 0 (pStmt en L):=Inc.look fun _=>
 Inc.ite (Inc.bind (Inc.take _) (fun _=>Inc.look fun _=>Inc.bind (Inc.take _) (fun _=>Inc.look fun _=>Inc.bind (Inc.take _) (fun _=>Inc.bind (Inc.expr hL) (fun _=>Inc.bind (Inc.block hL) (fun _=>Inc.pure _) rfl) rfl) rfl) rfl) rfl) <|
 Inc.ite (Inc.bind (Inc.take _) (fun _=>Inc.bind (Inc.expr hL) (fun _=>Inc.bind (Inc.block hL) (fun _=>Inc.look fun _=>Inc.ite (Inc.bind (Inc.take _) (fun _=>Inc.bind (Inc.block hL) (fun _=>Inc.pure _) rfl) rfl) (Inc.pure _)) rfl) rfl) rfl) <|
 Inc.ite (Inc.rule hL) <|
 Inc.ite (Inc.bind (Inc.call hL) (fun _=>Inc.bind (Inc.eat _) (fun _=>Inc.pure _) rfl) rfl) <|
 Inc.bind (Inc.take _) (fun _=>Inc.bind (Inc.eat _) (fun _=>Inc.bind (Inc.expr hL) (fun _=>Inc.bind (Inc.eat _) (fun _=>Inc.pure _) rfl) rfl) rfl) rfl
end
theorem I0.lvl(en):∀f,I0 (lvl en f)
 | 0=>⟨Inc.out,Inc.out,Inc.out⟩
 | f+1=>⟨Inc.expr (I0.lvl en f),Inc.prim (I0.lvl en f),Inc.stmt (I0.lvl en f)⟩
def Mc(ds:List Dat):Prop:=∀v,Dat.one v∈ds->v.oneCell'=true
section
variable {F G:Nat->Prop} {w:World}
theorem Ai.oneCells{ds:List Dat}{cs:List Value}(h:Ai F w ds cs)(hp:Mc ds):∀u∈cs,u.oneCell'=true:=by
 intro u hu;obtain⟨i,hi⟩:=List.getElem?_of_mem hu;have aN:=(lgS.1 hi).1;have hd:ds[i]? = A (ds[i]'(by rw[<-h.1];exact aN)):=lgE _;have:=h.2 i u _ hi hd;cases hdd:ds[i]'(by rw[<-h.1];exact aN) with
 | one v=>
  rw[hdd] at this hd;obtain rfl:=this.one_inv;exact hp _ (lgM hd)
 | rowb bo l=>
  rw[hdd] at this;obtain⟨a,cap,rfl,-⟩:=this.rowb_inv;rfl
theorem Ac.cells{b off size:Nat}{l:List (List Dat)}(h:Ac F w (A ⟨b,off,C⟩) l)(hsz:∀ds∈l,ds.length=size):
  ∃css:List (List Value),css.length=l.length/\(∀cs∈css,cs.length=size)/\(∀(j:Nat) ds cs,l[j]? = A ds->css[j]? = A cs->Ai F w ds cs) /\
   ∀(j:Nat) cs,css[j]? = A cs->∀(i:Nat) u,cs[i]? = A u->w.cell? ⟨b,off+j*size+i,C⟩=A u:=by
 have hex:∀j:Fin l.length,∃cs:List Value,Ai F w l[j] cs/\∀(i:Nat) u,cs[i]? = A u->w.cell? ⟨b,off+j*size+i,C⟩=A u:=by
  intro j;obtain⟨b',off',cs,ha,hF,hb,hd,hc⟩:=h j _ (lgE j.2);cases ha;refine⟨cs,hd,fun i u hu=>?_⟩;have:=hc i u hu;rw[hsz _ (List.getElem_mem j.2)] at this;exact this
 obtain⟨f,hf⟩:=Classical.axiomOfChoice hex;have aG:∀(j:Nat) cs,(List.ofFn f)[j]? = A cs->∃hj:j<l.length,cs=f ⟨j,hj⟩:=by
  intro j cs hj;obtain⟨h1,h2⟩:=lgS.1 hj;rw[List.length_ofFn] at h1;exact⟨h1,by rw[<-h2,List.getElem_ofFn]⟩
 refine⟨List.ofFn f,by simp,?_,?_,?_⟩
 ·intro cs aM;obtain⟨j,hj⟩:=List.getElem?_of_mem aM;obtain⟨aC,rfl⟩:=aG j cs hj;rw[(hf ⟨j,aC⟩).1.1];exact hsz _ (List.getElem_mem aC)
 ·intro j ds cs hj hc;obtain⟨aC,rfl⟩:=aG j cs hc;rw[lgE aC] at hj;cases hj;exact(hf ⟨j,aC⟩).1
 ·intro j cs hc i u hu;obtain⟨aC,rfl⟩:=aG j cs hc;exact(hf ⟨j,aC⟩).2 i u hu
theorem Vp{css:List (List Value)}{size:Nat}(h0:0<size)(hsz:∀cs∈css,cs.length=size){k:Nat}{u:Value}(h:css.flatten[k]? = A u):
  ∃cs,css[k / size]? = A cs/\cs[k % size]? = A u:=by
 induction css generalizing k with
 | nil=>simp at h
 | cons c t ih=>
  have hc:=hsz c (lmS ..);rw[List.flatten_cons] at h;by_cases hk:k<size
  ·rw[List.getElem?_append_left (by omega)] at h;refine⟨c,by rw[Nat.div_eq_of_lt hk];rfl,by rw[Nat.mod_eq_of_lt hk];exact h⟩
  ·rw[List.getElem?_append_right (by omega),hc] at h;obtain⟨cs,h1,h2⟩:=ih (fun cs h=>hsz cs (lmO _ h)) h;refine⟨cs,?_,?_⟩
   ·rw[Nat.div_eq_sub_div h0 (by omega),List.getElem?_cons_succ];exact h1
   ·rw[Nat.mod_eq_sub_mod (by omega)];exact h2
theorem Bv{P:Program}{ops:Array Oper}{rest:List Oper}{o:Oper}{a:Act}{Q:Exit->Act->World->Prop}(hgd:o.guard=C)(s x:Operand)(t:TypeId)
  (ho:o.op = .call { callee:=.builtin .append,args:=#[s,x],argTypes:=#[t,t]})
  (base:Nat) (e:TypeId) (i:TypeInfo) (z:Value) (size bytes:Nat) (ht:P.underlying t=A (.slice e)) (hi:P.info? e=A i) (hz:i.zero=A z)
  (hsize:i.size=size) (hby:i.bytes=bytes) (hzs:z.cells.size=size) (hsz:0<size)
  (v:Value) (F:Nat->Prop) (l:List (List Dat)) (hs:a.eval s=v) (hown:OwnD F w base e size v l)
  (b off c:Nat) (l2:List (List Dat)) (hx:a.eval x = D (A ⟨b,off,C⟩) l2.length c) (hrow:Ac (fun b=>F b/\v.ownBlock≠A b) w (A ⟨b,off,C⟩) l2) (hlen:∀ds∈l2,ds.length=size) (hpl:∀ds∈l2,Mc ds)
  (h63:l.length+l2.length<=maxLen) (hbytes:(l.length+l2.length)*bytes<=140737488355328) (hbase:base<=w.heap.size)
  (h:∀v' w',OwnD F w' base e size v' (l++l2)->w.grownBy w' v.ownBlock->(∀g,v'.ownBlock=A g->v.ownBlock=A g\/w.heap.size<=g)->wpList P ops Q rest (a.put o.dst v') w'):wpList P ops Q (o::rest) a w:=by
 obtain⟨css,aF,aM,hrw,hel⟩:=hown;obtain⟨aD,aA,aE,aH,aB⟩:=hrow.cells hlen;have aJ:aD.flatten.length=l2.length*size:=by
  rw[<-aA];clear aA aH aB
  induction aD with
  | nil=>simp
  | cons cs t ih=>
   rw[List.flatten_cons,lnA,aE cs (lmS ..),ih (fun c h=>aE c (lmO _ h)),lnC,Nat.add_mul];omega
 refine C1 hgd s x t ho base e i z size bytes ht hi hz hsize hby hzs hsz v l.length css.flatten hs hrw ⟨b,off,C⟩ l2.length c aD.flatten hx aJ ?_ ?_ h63 hbytes hbase fun v' w' h2 h3 h4=>h v' w' ⟨css++aD,?_,?_,?_,?_⟩ h3 h4
 ·intro k u hu;obtain⟨cs,h5,h6⟩:=Vp hsz aE hu;have h7:=aB _ cs h5 _ u h6;have h8:((⟨b,off,C⟩:Addr).add k)=⟨b,off+k,C⟩:=by unfold Addr.add;split<;>simp_all
  rw[h8,show off+k=off+k / size*size+k % size by rw[Nat.add_assoc,Nat.mul_comm (k / size),Nat.div_add_mod]];exact h7
 ·intro u hu;obtain⟨cs,hcs',hu'⟩:=List.mem_flatten.1 hu;obtain⟨j,hj⟩:=List.getElem?_of_mem hcs';have aC:=(lgS.1 hj).1;have aQ:l2[j]? = A (l2[j]'(by omega)):=lgE _;exact(aH j _ _ aQ hj).oneCells (hpl _ (lgM aQ)) u hu'
 ·simp[aF,aA]
 ·intro cs' hc;rcases List.mem_append.1 hc with hc|hc
  ·exact aM _ hc
  ·exact aE _ hc
 ·rw[List.flatten_append,lnA];exact h2
 ·have step:∀b,F b/\v.ownBlock≠A b->b<w.heap.size->(F b/\v'.ownBlock≠A b)/\b<w'.heap.size/\w'.heap[b]? = w.heap[b]?:=fun b hb aR=>
   ⟨⟨hb.1,fun he=>by rcases h4 b he with h|h;exact hb.2 h;omega⟩,nll aR h3.size,h3.block b aR (fun he=>hb.2 he.symm)⟩
  intro j ds' cs' hj hc;by_cases aC:j<l.length
  ·rw[List.getElem?_append_left aC] at hj;rw[List.getElem?_append_left (by omega)] at hc;exact(hel j _ _ hj hc).mono step
  ·rw[List.getElem?_append_right (by omega)] at hj;rw[List.getElem?_append_right (by omega),aF] at hc;exact(aH _ _ _ hj hc).mono step
end
theorem Ed(n):(nodeD n).length=5:=by obtain⟨k,t,l,c,kids⟩:=n;rfl
theorem Ef(n):Mc (nodeD n):=by
 obtain⟨k,t,l,c,kids⟩:=n;intro v hv;rw[nodeD] at hv;simp at hv;rcases hv with rfl|rfl|rfl|rfl<;>rfl
theorem Cg{p:List Dat->Prop}(h:∀n,p (nodeD n))(l):∀ds∈Au l,p ds:=by
 intro ds aU;rw[B7] at aU;obtain⟨n,-,rfl⟩:=List.mem_map.1 aU;exact h n
theorem Cl(w o1 o2):((w.alloc o1).alloc o2).heap[w.heap.size]? = A o1/\((w.alloc o1).alloc o2).heap[w.heap.size+1]? = A o2/\Below w.heap.size w ((w.alloc o1).alloc o2)/\((w.alloc o1).alloc o2).heap.size=w.heap.size+2:=by
 refine⟨?_,?_,((Below.refl _ w).alloc (nlr _) _).alloc (by simp) _,by simp⟩
 ·rw[Below.heap_alloc _ _ _ (by simp)];exact heap_alloc_new w _
 ·have:=heap_alloc_new (w.alloc o1) o2
  simpa using this
theorem Gg(w o1 o2 o3):(((w.alloc o1).alloc o2).alloc o3).heap[w.heap.size]? = A o1/\(((w.alloc o1).alloc o2).alloc o3).heap[w.heap.size+1]? = A o2/\(((w.alloc o1).alloc o2).alloc o3).heap[w.heap.size+1+1]? = A o3/\Below w.heap.size w (((w.alloc o1).alloc o2).alloc o3)/\(((w.alloc o1).alloc o2).alloc o3).heap.size=w.heap.size+3:=by
 obtain⟨h1,h2,h3,h4⟩:=Cl w o1 o2;refine⟨?_,?_,?_,h3.alloc (by rw[h4];omega) _,by simp⟩
 ·rw[Below.heap_alloc _ _ _ (by rw[h4];omega)];exact h1
 ·rw[Below.heap_alloc _ _ _ (by rw[h4];omega)];exact h2
 ·have:=heap_alloc_new ((w.alloc o1).alloc o2) o3
  simpa using this
theorem alloc4(w o1 o2 o3 o4):((((w.alloc o1).alloc o2).alloc o3).alloc o4).heap[w.heap.size]? = A o1/\((((w.alloc o1).alloc o2).alloc o3).alloc o4).heap[w.heap.size+1]? = A o2/\((((w.alloc o1).alloc o2).alloc o3).alloc o4).heap[w.heap.size+1+1]? = A o3/\((((w.alloc o1).alloc o2).alloc o3).alloc o4).heap[w.heap.size+1+1+1]? = A o4 /\
  Below w.heap.size w ((((w.alloc o1).alloc o2).alloc o3).alloc o4)/\((((w.alloc o1).alloc o2).alloc o3).alloc o4).heap.size=w.heap.size+4:=by
 obtain⟨h1,h2,h3,h4,h5⟩:=Gg w o1 o2 o3;refine⟨?_,?_,?_,?_,h4.alloc (by rw[h5];omega) _,by simp⟩
 ·rw[Below.heap_alloc _ _ _ (by rw[h5];omega)];exact h1
 ·rw[Below.heap_alloc _ _ _ (by rw[h5];omega)];exact h2
 ·rw[Below.heap_alloc _ _ _ (by rw[h5];omega)];exact h3
 ·have:=heap_alloc_new (((w.alloc o1).alloc o2).alloc o3) o4
  simpa using this
theorem stays{w w':World}{b:Nat}{o:Obj}(h:w.heap[b]? = A o)(hb:Below w.heap.size w w'):w'.heap[b]? = A o:=(hb.block _ (agS.1 h).1).trans h
theorem here{w:World}{b:Nat}{o:Obj}(h:w.heap[b]? = A o):b<w.heap.size:=(agS.1 h).1
theorem infoVal:(Tryz.prog.info? 53).map (fun i=>(i.zero,i.size,i.bytes))=A (A (.agg #[J M 0,J M 0,E ByteArray.empty,D C 0 0,D C 0 0]),5,80):=by kernel_rfl
def Iq(q:ByteArray×Vl):List Dat:=.one (E q.1)::valD q.2
def Bx(l:List (ByteArray×Vl)):List (List Dat):=l.map Iq
theorem Ya(q):(Iq q).length=6:=by simp[Iq,valD_len]
theorem Kr(l):(Bx l).length=l.length:=by simp[Bx]
theorem Ks(l m):Bx (l++m)=Bx l++Bx m:=by simp[Bx]
section
variable {F:Nat->Prop} {w:World}
theorem Ai.named{nm:ByteArray}{k n:Int}{s:ByteArray}{l:List Vl}{ks:List ByteArray}{cs:List Value}(h:Ai F w (Iq (nm,.mk k n s l ks)) cs):
  ∃a c a' c',cs=[E nm,J M k,J M n,E s,D a l.length c,D a' ks.length c']/\Ac F w a (Ar l)/\Ac F w a' (Bn ks):=by
 obtain⟨c0,cs',rfl,h0,h'⟩:=Ai.cons_inv (d:=.one (E nm)) (ds:=valD (.mk k n s l ks)) h;obtain rfl:=h0.one_inv;obtain⟨a,c,a',c',rfl,h1,h2⟩:=Ai.val h';exact⟨a,c,a',c',rfl,h1,h2⟩
theorem Ai.named_mk(nm:ByteArray)(k n:Int)(s:ByteArray){l:List Vl}{ks:List ByteArray}{a a':Option Addr}(c c':Nat)(h:Ac F w a (Ar l))(h':Ac F w a' (Bn ks)):
  Ai F w (Iq (nm,.mk k n s l ks)) [E nm,J M k,J M n,E s,D a l.length c,D a' ks.length c']:=
 .cons (.one _) (Ai.val_mk k n s c c' h h')
theorem Ac.named{a:Option Addr}{l:List (ByteArray×Vl)}(h:Ac F w a (Bx l)){j:Nat}{nm:ByteArray}{k n:Int}{s:ByteArray}{m:List Vl}{ks:List ByteArray}(hj:l[j]? = A (nm,.mk k n s m ks)):
  ∃b off a1 c1 a2 c2,a=A ⟨b,off,C⟩/\F b/\b<w.heap.size/\w.cell? ⟨b,off+j*6,C⟩=A (E nm)/\w.cell? ⟨b,off+j*6+1,C⟩=A (J M k)/\w.cell? ⟨b,off+j*6+2,C⟩=A (J M n)/\w.cell? ⟨b,off+j*6+3,C⟩=A (E s) /\
   w.cell? ⟨b,off+j*6+4,C⟩=A (D a1 m.length c1)/\w.cell? ⟨b,off+j*6+5,C⟩=A (D a2 ks.length c2)/\Ac F w a1 (Ar m)/\Ac F w a2 (Bn ks):=by
 obtain⟨b,off,cs,ha,hF,hb,hd,hc⟩:=h j (Iq (nm,.mk k n s m ks)) (by rw[Bx,lgP,hj];rfl);obtain⟨a1,c1,a2,c2,rfl,hr,hr'⟩:=Ai.named hd;rw[Ya] at hc;exact⟨b,off,a1,c1,a2,c2,ha,hF,hb,hc 0 _ rfl,hc 1 _ rfl,hc 2 _ rfl,hc 3 _ rfl,hc 4 _ rfl,hc 5 _ rfl,hr,hr'⟩
end
theorem infoStr:(Tryz.prog.info? 9).map (fun i=>(i.zero,i.size,i.bytes))=A (A (E ByteArray.empty),1,16):=by kernel_rfl
def OwnS(w:World)(base:Nat)(v:Value)(l:List ByteArray):Prop:=w.ownsRow base 9 1 v l.length (l.map Value.string)
section
variable {w w':World} {base:Nat} {v:Value} {l:List ByteArray}
theorem OwnS.nil(w:World)(base:Nat):OwnS w base (D C 0 0) []:=⟨by simp,.inl ⟨rfl,rfl⟩⟩
theorem OwnS.strsAt(h:OwnS w base v l):∃a cap,v = D a l.length cap/\Dx w a l/\l.length<=cap:=by
 obtain⟨h1,⟨rfl,h2⟩|⟨g,cap,cur,rfl,h3,h4,h5,h6,h7,h8⟩⟩:=h
 ·refine⟨C,0,by rw[h2],?_,by omega⟩;intro j x hx;have:=(lgS.1 hx).1;omega
 ·refine⟨_,cap,rfl,?_,h5⟩;intro j x hx;have hj:=(lgS.1 hx).1;refine⟨g,0,rfl,?_⟩;have h9:(cur.toList.take (l.length*1))[j]? = A (E x):=(by rw[h8,lgP,hx];rfl);rw[List.getElem?_take_of_lt (by omega),Array.getElem?_toList] at h9;unfold World.cell?;simp only[h4,Nat.zero_add,Option.isSome_none,Bool.false_eq_true,if_false];exact h9
theorem OwnS.below(h:OwnS w base v l)(hb:Below w.heap.size w w'):OwnS w' base v l:=by
 obtain⟨h1,h2|⟨g,cap,cur,rfl,h3,h4,h5⟩⟩:=h
 ·exact⟨h1,.inl h2⟩
 ·exact⟨h1,.inr ⟨g,cap,cur,rfl,h3,(hb.block g (agS.1 h4).1).trans h4,h5⟩⟩
theorem OwnS.lower{base':Nat}(h:OwnS w base v l)(hb:base'<=base):OwnS w base' v l:=by
 obtain⟨h1,h2|⟨g,cap,cur,h2,h3,h4⟩⟩:=h
 ·exact⟨h1,.inl h2⟩
 ·exact⟨h1,.inr ⟨g,cap,cur,h2,by omega,h4⟩⟩
theorem OwnS.block(h:OwnS w base v l){g:Nat}(hg:v.ownBlock=A g):base<=g/\g<w.heap.size:=by
 obtain⟨-,⟨rfl,-⟩|⟨g',cap,cur,rfl,h3,h4,-⟩⟩:=h
 ·cases hg
 ·cases hg;exact⟨h3,(agS.1 h4).1⟩
end
theorem lit_one(w:World)(x t):∀(j:Nat) u,[x][j]? = A u->(w.alloc (.cells #[x] t)).cell? ((⟨w.heap.size,0,C⟩:Addr).add j)=A u:=by
 intro j u h;cases j with
 | zero=>
  simp at h;subst h;show(w.alloc (.cells #[x] t)).cell? ⟨w.heap.size,0,C⟩=A x;unfold World.cell?;rw[heap_alloc_new];rfl
 | succ j=>simp at h
theorem Cz{w w':World}{v:Value}(h:w.grownBy w' v.ownBlock){n:Nat}(hv:∀g,v.ownBlock=A g->n<=g)(hn:n<=w.heap.size):Below n w w':=
 ⟨h.os,h.tape,h.output,h.size,fun b hb=>h.block b (by omega) (fun e=>by have:=hv b e.symm;omega)⟩
def Vv(s:ByteArray):Prop:=s.data.toList≠[]/\(∀c∈s.data.toList,Ba c=true)/\¬(1<s.data.toList.length/\s.data.toList.head? = A 48)/\natOf s.data.toList<=9223372036854775807
def tokOk(B:Nat)(t:Tok):Prop:=t.text.size<=B/\(t.kind=2->Vv t.text)
mutual
def Ci(B K:Nat):Nd->Prop
 | .mk k t _ _ l=>t.size<=B/\l.length<=K/\(k=10->Vv t)/\(k=6->∃ps b,l=ps++[b]/\∀x∈ps,1<=x.kids.length/\x.kids.length<=2)/\Dj B K l
def Dj(B K:Nat):List Nd->Prop
 | []=>True
 | x::t=>Ci B K x/\Dj B K t
end
section
variable {B K:Nat}
theorem ndOks_iff:∀{l:List Nd},Dj B K l↔∀x∈l,Ci B K x
 | []=>by simp[Dj]
 | x::t=>by rw[Dj,ndOks_iff,List.forall_mem_cons]
theorem Gb{l m:List Nd}(h:Dj B K l)(h':Dj B K m):Dj B K (l++m):=by
 rw[ndOks_iff] at *;intro x hx;rcases List.mem_append.1 hx with hx|hx
 ·exact h x hx
 ·exact h' x hx
theorem Fp{x:Nd}(h:Ci B K x):Dj B K [x]:=⟨h,trivial⟩
theorem Jh{x y:Nd}(h:Ci B K x)(h':Ci B K y):Dj B K [x,y]:=⟨h,h',trivial⟩
theorem Bq{k:Int}{t:Tok}{s:ByteArray}{l:List Nd}(hs:s.size<=B)(hl:l.length<=K)(h10:k≠10)(h6:k≠6)(hk:Dj B K l):Ci B K (Aj k t s l):=by
 unfold Aj;rw[Ci];exact⟨hs,hl,fun e=>absurd e h10,fun e=>absurd e h6,hk⟩
variable {en:Int×Int}
def Vw(B:Nat)(ts:List Tok):Prop:=∀t∈ts,tokOk B t
theorem Ji{ts:List Tok}(h:Vw B ts)(i:Nat):tokOk B (A1 en ts i):=by
 unfold A1;cases hi:ts[i]? with
 | none=>exact⟨nlz _,fun e=>by cases e⟩
 | some t=>exact h t (lgM hi)
theorem Iu{ts:List Tok}{k:Int}(hk:k≠0)(h:(A1 en ts 0).kind=k):ts≠[]:=by
 rintro rfl;exact hk h.symm
theorem Fe{ts:List Tok}{s:List UInt8}(h:Az en ts 0 s=true):ts≠[]:=by
 unfold Az at h;rw[bAt,beq_iff_eq] at h;exact Iu (by decide) h.1
theorem Gn{ts:List Tok}{s:List UInt8}(h:A5 en ts s=true):ts≠[]:=by
 unfold A5 at h;rw[bAt,beq_iff_eq] at h;exact Iu (by decide) h.1
theorem Gp{ts:List Tok}(h:Bb en ts=true):ts≠[]:=by
 unfold Bb at h;rw[bAt,beq_iff_eq] at h;exact Iu (by decide) h.1
variable {α β:Type}
def Av(B n k:Nat)(P:Nat->α->Prop)(m:PM α)(ts:List Tok):Prop:=
 ∀d,ts.length<=n->Vw B ts->match m ts d with
  | .ok x ts' _=>ts'.length+k<=ts.length/\Vw B ts'/\P (ts.length-ts'.length) x
  | .err _ _ _=>True
  | .out=>False
def Gd(B n k:Nat)(P:Nat->α->Prop)(m:PM α):Prop:=∀ts,Av B n k P m ts
variable {n j k:Nat} {P:Nat->α->Prop} {Q:Nat->β->Prop} {m:PM α} {ts:List Tok}
theorem Av.pure{x:α}(h:P 0 x):Av B n 0 P (PM.pure x) ts:=fun d _ ht=>⟨nlr _,ht,by rw[Nat.sub_self];exact h⟩
theorem Av.bind{f:α->PM β}{r:Nat}(h1:Av B n j P m ts)(h2:∀x c,j<=c->c<=n->P c x->Gd B (n-j) k (fun c' y=>Q (c+c') y) (f x))(hr:r<=j+k):Av B n r Q (PM.bind m f) ts:=by
 intro d hn ht;have g1:=h1 d hn ht;unfold PM.bind;cases hm:m ts d with
 | err a b c=>exact trivial
 | out=>rw[hm] at g1;exact g1.elim
 | ok x t1 d1=>
  rw[hm] at g1;obtain⟨e1,e2,e3⟩:=g1;have g2:=h2 x _ (by omega) (by omega) e3 t1 d1 (by omega) e2;show match f x t1 d1 with | .ok x ts' _=>_ | .err _ _ _=>_ | .out=>_;cases hf:f x t1 d1 with
  | err a b c=>exact trivial
  | out=>rw[hf] at g2;exact g2.elim
  | ok y t2 d2=>
   rw[hf] at g2;obtain⟨f1,f2,f3⟩:=g2;refine⟨by omega,f2,?_⟩;rw[show ts.length-t2.length=(ts.length-t1.length)+(t1.length-t2.length) by omega];exact f3
theorem Av.look{f:List Tok->PM α}(h:ts.length<=n->Vw B ts->Av B n k P (f ts) ts):Av B n k P (pLook f) ts:=fun d hn ht=>h hn ht d hn ht
theorem Av.ite{c:Prop}[Decidable c]{m m':PM α}(h1:c->Av B n k P m ts)(h2:¬c->Av B n k P m' ts):Av B n k P (if c then m else m') ts:=by
 by_cases h:c
 ·rw[if_pos h];exact h1 h
 ·rw[if_neg h];exact h2 h
theorem Av.mono{P':Nat->α->Prop}(h:Av B n k P m ts)(hp:∀c x,c<=n->k<=c->P c x->P' c x){r:Nat}(hr:r<=k):Av B n r P' m ts:=by
 intro d hn ht;have g:=h d hn ht;cases hm:m ts d with
 | err a b c=>exact trivial
 | out=>rw[hm] at g;exact g.elim
 | ok x t1 d1=>
  rw[hm] at g;exact⟨by omega,g.2.1,hp _ _ (by omega) (by omega) g.2.2⟩
theorem Av.less{n':Nat}(h:Av B n k P m ts)(hn:n'<=n):Av B n' k P m ts:=fun d hl ht=>h d (nlt hl hn) ht
theorem Av.take{b:Bool}(hb:b=true->ts≠[]):Av B n 1 (fun c t=>c=1/\tokOk B t) (A3 en b) ts:=by
 intro d hn ht;unfold A3;cases b with
 | false=>exact trivial
 | true=>
  cases ts with
  | nil=>exact absurd rfl (hb rfl)
  | cons t r=>exact⟨nlr _,fun x hx=>ht x (lmO _ hx),by show r.length+1-r.length=1;omega,ht t (lmS ..)⟩
theorem Av.open{b:Bool}(hb:b=true->ts≠[]):Av B n 1 (fun c t=>c=1/\tokOk B t) (Dc en b) ts:=by
 intro d hn ht;unfold Dc;by_cases h:(b&&decide (60<=d))=true
 ·rw[if_pos h];exact trivial
 ·rw[if_neg h];exact Av.take hb (d+1) hn ht
theorem Gd.eat(s:List UInt8):Gd B n 1 (fun c _=>c=1) (C2 en s):=fun ts=>by
 intro d hn ht;exact Av.bind (k:=0) (Q:=fun c _=>c=1) (Av.take Fe) (fun x c _ _ h ts=>Av.pure h.1) (nlr _) d hn ht
theorem Gd.down:Gd B n 0 (fun c _=>c=0) pDown:=fun _ts _d _ ht=>⟨nlr _,ht,Nat.sub_self _⟩
theorem Gd.close(s:List UInt8):Gd B n 1 (fun c _=>c=1) (Dh en s):=fun ts=>Av.bind (k:=0) (Gd.eat s ts) (fun _ c _ _ h=>fun ts=>Av.mono (Gd.down ts) (fun c' _ _ _ h'=>by omega) (nlr _)) (nlr _)
def PN(B K:Nat)(_:Nat)(x:Nd):Prop:=Ci B K x
theorem Gd.listGo{to:List UInt8}{one:PM (List Nd)}{R:List Nd->Prop}(ho:∀n',n'<=n->Gd B n' 1 (fun c l=>l.length<=c/\R l) one)(hR:∀l m,R l->R m->R (l++m)):
  ∀f acc (n':Nat),n'<=n->n'<f->R acc->Gd B n' 0 (fun c l=>l.length<=acc.length+c/\R l) (Ce en to one f acc)
 | 0,_,_,_,h,_=>absurd h (Nat.not_lt_zero _)
 | f+1,acc,n',hn',hf,hR0=>fun ts=>Av.look fun hn ht=>Av.ite (fun _=>Av.pure ⟨nlr _,hR0⟩) fun _=>
   Av.bind (j:=0) (k:=0) (P:=fun _ _=>True) (Av.ite (fun _=>Av.pure trivial) (fun _=>Av.mono (Gd.eat _ ts) (fun _ _ _ _ _=>trivial) (nlz _)))
    (fun _ c _ hc _=>fun ts1=>Av.bind (j:=1) (k:=0) (ho (n' - 0) (by omega) ts1) (fun l c1 hj1 hc1 h1=>fun ts2=>by
     by_cases hz:n' - 0 - 1<f
     ·refine Av.mono (Gd.listGo ho hR f (acc++l) (n' - 0 - 1) (by omega) hz (hR _ _ hR0 h1.2) ts2) (fun c2 x _ _ h2=>⟨?_,h2.2⟩) (nlr _);have h3:=h2.1;have h4:=h1.1;rw[lnA] at h3;omega
     ·exfalso;omega) (nlz _)) (nlz _)
theorem Gd.list{to:List UInt8}{one:PM (List Nd)}{R:List Nd->Prop}(ho:∀n',n'<=n->Gd B n' 1 (fun c l=>l.length<=c/\R l) one)(hR:∀l m,R l->R m->R (l++m))(hR0:R []):Gd B n 0 (fun c l=>l.length<=c/\R l) (Ct en to one):=fun ts d hn ht=>by
 have:=Gd.listGo (en:=en) (to:=to) (n:=ts.length) (fun n' h'=>ho n' (by omega)) hR (ts.length+1) [] ts.length (nlr _) (by omega) hR0 ts d (nlr _) ht;unfold Ct;cases hm:Ce en to one (ts.length+1) [] ts d with
 | err a b c=>exact trivial
 | out=>rw[hm] at this;exact this.elim
 | ok x t1 d1=>
  rw[hm] at this;exact⟨this.1,this.2.1,by have:=this.2.2.1;simpa using this,this.2.2.2⟩
structure LGd(B K n:Nat)(L:Lvl):Prop where
 expr:Gd B n 1 (PN B K) L.expr
 prim:Gd B n 1 (PN B K) L.prim
 stmt:Gd B n 1 (PN B K) L.stmt
theorem LGd.less{n n':Nat}{L:Lvl}(h:LGd B K n L)(hn:n'<=n):LGd B K n' L:=⟨fun ts=>(h.expr ts).less hn,fun ts=>(h.prim ts).less hn,fun ts=>(h.stmt ts).less hn⟩
variable {L:Lvl}
theorem Gd.arg(hK:n+3<=K)(hL:LGd B K n L):Gd B n 1 (PN B K) (pArg en L):=fun ts=>Av.look fun hn ht=>
 Av.ite (fun hc=>Av.bind (j:=1) (k:=0) (Av.take fun _=>Gp (en:=en) (by rw[bAt] at hc;exact hc.1)) (fun _ _ _ _ _=>fun _=>
  Av.bind (j:=1) (k:=0) (Gd.eat _ _) (fun _ _ _ _ _=>fun _=>Av.bind (j:=1) (k:=0) ((hL.less (by omega)).expr _) (fun x _ _ _ hx=>fun _=>Av.pure (Bq (Ji ht 0).1 (by show 1<=K;omega) (by decide) (by decide) (Fp hx))) (nlz _)) (nlz _)) (Nat.le_add_right _ _))
 (fun _=>Av.bind (j:=1) (k:=0) (hL.expr _) (fun x _ _ _ hx=>fun _=>Av.pure (Bq (nlz _) (by show 1<=K;omega) (by decide) (by decide) (Fp hx))) (nlr _))
theorem Gd.call(hK:n+3<=K)(hL:0<n->LGd B K (n - 1) L):Gd B n 1 (PN B K) (pCall en L):=fun ts=>Av.look fun hn ht=>
 Av.bind (j:=1) (k:=0) (Av.take Gp) (fun nm c0 hj0 hc0 hnm=>fun ts1=>Av.look fun hn1 ht1=>
  Av.bind (j:=1) (k:=0) (Av.open Fe) (fun _ c1 _ _ _=>fun ts2=>
   Av.bind (j:=0) (k:=0) (Gd.list (R:=Dj B K) (fun n' hn' ts3=>Av.bind (j:=1) (k:=0) (Gd.arg (by omega) ((hL (by omega)).less (by omega)) ts3) (fun x c hj _ hx=>fun _=>Av.pure ⟨by show 1<=c+0;omega,Fp hx⟩) (nlr _)) (fun _ _=>Gb) trivial ts2)
    (fun kids c2 _ hc2 hk=>fun ts4=>Av.bind (j:=1) (k:=0) (Gd.close _ _) (fun _ _ _ _ _=>fun _=>Av.pure (Bq hnm.2.1 (by have:=hk.1;omega) (by decide) (by decide) hk.2)) (nlz _)) (nlz _)) (nlz _)) (Nat.le_add_right _ _)
theorem Gd.entry(_hK:n+3<=K)(hL:LGd B K n L):Gd B n 1 (fun c l=>l.length<=c/\Dj B K l) (pEntry en L):=fun ts=>Av.look fun hn ht=>
 Av.bind (j:=1) (k:=0) (Av.take fun h=>Iu (en:=en) (k:=3) (by decide) (by simpa using h)) (fun t c0 hj0 _ ht0=>fun ts1=>Av.bind (j:=1) (k:=0) (Gd.eat _ _) (fun _ c1 hj1 _ _=>fun ts2=>
  Av.bind (j:=1) (k:=0) ((hL.less (by omega)).expr _) (fun x c2 hj2 _ hx=>fun _=>Av.pure ⟨by show 2<=_;omega,Jh (Bq ht0.2.1 (nlz _) (by decide) (by decide) trivial) hx⟩) (nlz _)) (nlz _)) (Nat.le_add_right _ _)
theorem Gd.prim(hK:n+3<=K)(hL:0<n->LGd B K (n - 1) L):Gd B n 1 (PN B K) (pPrim en L):=fun ts=>Av.look fun hn ht=>
 Av.ite (fun hc=>Av.bind (j:=1) (k:=0) (Av.take fun _=>Iu (en:=en) (k:=3) (by decide) (by simpa using hc)) (fun _ _ _ _ _=>fun _=>Av.pure (Bq (Ji ht 0).1 (nlz _) (by decide) (by decide) trivial)) (Nat.le_add_right _ _)) fun _=>
 Av.ite (fun hc=>Av.bind (j:=1) (k:=0) (Av.take fun _=>Iu (en:=en) (k:=2) (by decide) (by simpa using hc)) (fun _ _ _ _ _=>fun _=>Av.pure (by
  show Ci B K (.mk 10 _ _ _ []);rw[Ci];exact⟨(Ji ht 0).1,nlz _,fun _=>(Ji ht 0).2 (by simpa using hc),fun e=>absurd e (by decide),trivial⟩)) (Nat.le_add_right _ _)) fun _=>
 Av.ite (fun _=>Gd.call hK hL ts) fun _=>
 Av.ite (fun hc=>Av.bind (j:=1) (k:=0) (Av.take fun _=>Gp hc) (fun _ _ _ _ _=>fun _=>Av.pure (Bq (Ji ht 0).1 (nlz _) (by decide) (by decide) trivial)) (Nat.le_add_right _ _)) fun _=>
 Av.ite (fun hc=>Av.bind (j:=1) (k:=0) (Av.open fun _=>Gn hc) (fun _ c0 hj0 hc0 _=>fun _=>Av.bind (j:=1) (k:=0) ((hL (by omega)).prim _) (fun x _ _ _ hx=>fun _=>Av.bind (j:=0) (k:=0) (Gd.down _) (fun _ _ _ _ _=>fun _=>Av.pure (Bq (by
  have:=(Ji (en:=en) ht 0).1;have hw:=hc;unfold A5 at hw;rw[bAt,beq_iff_eq,beq_iff_eq] at hw;have h3:(A1 en ts 0).text.size=3:=(by rw[<-Al,hw.2];rfl);show 3<=B;omega) (by show 1<=K;omega) (by decide) (by decide) (Fp hx))) (nlz _)) (nlz _)) (Nat.le_add_right _ _)) fun _=>
 Av.ite (fun hc=>Av.bind (j:=1) (k:=0) (Av.open fun _=>Fe hc) (fun _ c0 hj0 hc0 _=>fun ts2=>
   Av.bind (j:=0) (k:=0) (Gd.list (R:=Dj B K) (fun n' hn' ts3=>Av.bind (j:=1) (k:=0) (((hL (by omega)).less (by omega)).expr ts3) (fun x c hj _ hx=>fun _=>Av.pure ⟨by show 1<=c+0;omega,Fp hx⟩) (nlr _)) (fun _ _=>Gb) trivial ts2)
    (fun kids c2 _ hc2 hk=>fun ts4=>Av.bind (j:=1) (k:=0) (Gd.close _ _) (fun _ _ _ _ _=>fun _=>Av.pure (Bq (nlz _) (by have:=hk.1;omega) (by decide) (by decide) hk.2)) (nlz _)) (nlz _)) (Nat.le_add_right _ _)) fun _=>
 Av.ite (fun hc=>Av.bind (j:=1) (k:=0) (Av.open fun _=>Fe hc) (fun _ c0 hj0 hc0 _=>fun ts2=>
   Av.bind (j:=0) (k:=0) (Gd.list (R:=Dj B K) (fun n' hn'=>Gd.entry (by omega) ((hL (by omega)).less (by omega))) (fun _ _=>Gb) trivial ts2)
    (fun kids c2 _ hc2 hk=>fun ts4=>Av.bind (j:=1) (k:=0) (Gd.close _ _) (fun _ _ _ _ _=>fun _=>Av.pure (Bq (nlz _) (by have:=hk.1;omega) (by decide) (by decide) hk.2)) (nlz _)) (nlz _)) (Nat.le_add_right _ _)) fun _=>
 Av.bind (j:=1) (k:=0) (Av.open Fe) (fun _ c0 hj0 hc0 _=>fun _=>Av.bind (j:=1) (k:=0) ((hL (by omega)).expr _) (fun x _ _ _ hx=>fun _=>Av.bind (j:=1) (k:=0) (Gd.close _ _) (fun _ _ _ _ _=>fun _=>Av.pure hx) (nlz _)) (nlz _)) (Nat.le_add_right _ _)
theorem Gd.sumGo(hB:1<=B)(hK:n+3<=K)(hL:0<n->LGd B K (n - 1) L):∀(f:Nat) (n':Nat),n'<=n->n'<f->∀x,Ci B K x->Gd B n' 0 (PN B K) (pSumGo en L f x)
 | 0,_,_,h,_,_=>absurd h (Nat.not_lt_zero _)
 | f+1,n',hn',hf,x,hx=>fun ts=>Av.look fun hn ht=>Av.ite (fun hc=>
   Av.bind (j:=1) (k:=0) (Av.take fun _=>Fe hc) (fun t _ hj1 hc1 _=>fun ts1=>Av.bind (j:=1) (k:=0) (Gd.prim (by omega) (fun h0=>(hL (by omega)).less (by omega)) ts1) (fun y _ _ _ hy=>fun ts2=>
    Gd.sumGo hB hK hL f (n' - 1 - 1) (by omega) (by omega) _ (Bq (s:=bs [43]) (show(bs [43]).size<=B from hB) (by show 2<=K;omega) (by decide) (by decide) (Jh hx hy)) ts2) (nlz _)) (nlz _)) fun _=>Av.pure hx
theorem Gd.sum(hB:1<=B)(hK:n+3<=K)(hL:0<n->LGd B K (n - 1) L):Gd B n 1 (PN B K) (pSum en L):=fun ts=>
 Av.bind (j:=1) (k:=0) (Gd.prim hK hL ts) (fun x _ _ _ hx=>fun ts1 d hn ht=>by
  have:=Gd.sumGo (en:=en) hB hK hL (ts1.length+1) ts1.length (by omega) (by omega) x hx ts1 d (nlr _) ht;exact this) (Nat.le_add_right _ _)
theorem Gd.expr(hB:1<=B)(hK:n+3<=K)(hL:0<n->LGd B K (n - 1) L):Gd B n 1 (PN B K) (Dd en L):=fun ts=>
 Av.bind (j:=1) (k:=0) (Gd.sum hB hK hL ts) (fun x _ hj0 hc0 hx=>fun ts1=>Av.look fun hn ht=>Av.ite (fun hc=>
  Av.bind (j:=1) (k:=0) (Av.take fun _=>by
   rw[Bool.or_eq_true,Bool.or_eq_true] at hc;rcases hc with (hc|hc)|hc
   ·exact Fe hc
   ·exact Fe hc
   ·exact Gn hc) (fun t _ _ _ ht0=>fun ts2=>Av.bind (j:=1) (k:=0) (Gd.sum hB (by omega) (fun h0=>(hL (by omega)).less (by omega)) ts2) (fun y _ _ _ hy=>fun _=>
    Av.pure (Bq ht0.2.1 (by show 2<=K;omega) (by decide) (by decide) (Jh hx hy))) (nlz _)) (nlz _)) fun _=>Av.pure hx) (Nat.le_add_right _ _)
theorem Gd.stmtsGo(to:List UInt8)(hL:LGd B K n L):∀(f:Nat) (acc:List Nd) (n':Nat),n'<=n->n'<f->Dj B K acc->Gd B n' 0 (fun c l=>l.length<=acc.length+c/\Dj B K l) (Cj en L to f acc)
 | 0,_,_,_,h,_=>absurd h (Nat.not_lt_zero _)
 | f+1,acc,n',hn',hf,ha=>fun ts=>Av.look fun hn ht=>Av.ite (fun hc=>
   Av.bind (j:=1) (k:=0) ((hL.less hn').stmt ts) (fun x c hj1 hc1 hx=>fun ts1=>Av.mono (Gd.stmtsGo to hL f (acc++[x]) (n' - 1) (by omega) (by omega) (Gb ha (Fp hx)) ts1) (fun c2 y _ _ h2=>⟨by have h3:=h2.1;rw[lnA,List.length_singleton] at h3;omega,h2.2⟩) (nlr _)) (nlz _)) fun _=>Av.pure ⟨nlr _,ha⟩
theorem Gd.stmts(to:List UInt8)(hL:LGd B K n L):Gd B n 0 (fun c l=>l.length<=c/\Dj B K l) (Cp en L to):=fun ts d hn ht=>by
 have:=Gd.stmtsGo (en:=en) to (hL.less hn) (ts.length+1) [] ts.length (nlr _) (by omega) trivial ts d (nlr _) ht;unfold Cp;cases hm:Cj en L to (ts.length+1) [] ts d with
 | err a b c=>exact trivial
 | out=>rw[hm] at this;exact this.elim
 | ok x t1 d1=>
  rw[hm] at this;exact⟨this.1,this.2.1,by have:=this.2.2.1;simpa using this,this.2.2.2⟩
theorem Gd.block(hK:n+3<=K)(hL:0<n->LGd B K (n - 1) L):Gd B n 2 (PN B K) (B9 en L):=fun ts=>Av.look fun hn ht=>
 Av.bind (j:=1) (k:=1) (Av.open Fe) (fun t _ hj0 hc0 _=>fun ts1=>Av.bind (j:=0) (k:=1) (Gd.stmts _ (hL (by omega)) ts1) (fun l c _ hc1 hl=>fun ts2=>
  Av.bind (j:=1) (k:=0) (Gd.close _ _) (fun _ _ _ _ _=>fun _=>Av.pure (Bq (nlz _) (by have:=hl.1;omega) (by decide) (by decide) hl.2)) (nlr _)) (nlr _)) (nlr _)
def Zs(B K:Nat)(x:Nd):Prop:=Ci B K x/\1<=x.kids.length/\x.kids.length<=2
theorem Gd.param(hB:1<=B)(hK:n+3<=K)(hL:0<n->LGd B K (n - 1) L):Gd B n 1 (fun _ x=>Zs B K x) (C3 en L):=fun ts=>Av.look fun hn ht=>
 Av.bind (j:=1) (k:=0) (Av.take Gp) (fun nm _ hj0 hc0 hnm=>fun ts1=>Av.bind (j:=1) (k:=0) (Gd.eat _ _) (fun _ _ hj1 hc1 _=>fun ts2=>Av.look fun hn2 ht2=>
  Av.bind (j:=1) (k:=0) (Av.take fun h=>Iu (en:=en) (k:=1) (by decide) (by rw[bAt] at h;simpa using h.1)) (fun t _ _ _ ht0=>fun ts3=>Av.look fun hn3 ht3=>
   Av.ite (fun _=>Av.bind (j:=1) (k:=0) (Gd.eat _ _) (fun _ _ _ _ _=>fun ts4=>Av.bind (j:=1) (k:=0) (Gd.expr hB (by omega) (fun h0=>(hL (by omega)).less (by omega)) ts4) (fun x _ _ _ hx=>fun _=>Av.pure
     ⟨Bq hnm.2.1 (by show 2<=K;omega) (by decide) (by decide) (Jh (Bq ht0.2.1 (nlz _) (by decide) (by decide) trivial) hx),(by show 1<=2;decide),(by show 2<=2;decide)⟩) (nlz _)) (nlz _)) fun _=>
    Av.pure ⟨Bq hnm.2.1 (by show 1<=K;omega) (by decide) (by decide) (Fp (Bq ht0.2.1 (nlz _) (by decide) (by decide) trivial)),(by show 1<=1;decide),(by show 1<=2;decide)⟩) (nlz _)) (nlz _)) (Nat.le_add_right _ _)
theorem Gd.rule(hB:1<=B)(hK:n+3<=K)(hL:0<n->LGd B K (n - 1) L)(hts:ts≠[]):Av B n 1 (PN B K) (pRule en L) ts:=
 Av.bind (j:=1) (k:=0) (Av.take fun _=>hts) (fun t _ hj0 hc0 _=>fun ts1=>Av.look fun hn1 ht1=>
  Av.bind (j:=1) (k:=0) (Av.take Gp) (fun nm _ _ _ hnm=>fun ts2=>Av.bind (j:=1) (k:=0) (Gd.eat _ _) (fun _ _ _ _ _=>fun ts3=>
   Av.bind (j:=0) (k:=0) (Gd.list (R:=fun l=>∀x∈l,Zs B K x) (fun n' hn' ts4=>Av.bind (j:=1) (k:=0) (Gd.param hB (by omega) (fun h0=>(hL (by omega)).less (by omega)) ts4) (fun x c hj _ hx=>fun _=>Av.pure ⟨by show 1<=c+0;omega,fun y hy=>by rw[List.mem_singleton.1 hy];exact hx⟩) (nlr _))
     (fun l m hl hm x hx=>by
      rcases List.mem_append.1 hx with hx|hx
      ·exact hl x hx
      ·exact hm x hx) (fun x hx=>by cases hx) ts3)
    (fun kids c2 _ hc2 hk=>fun ts4=>Av.bind (j:=1) (k:=0) (Gd.eat _ _) (fun _ _ _ _ _=>fun ts5=>Av.bind (j:=2) (k:=0) (Gd.block (by omega) (fun h0=>(hL (by omega)).less (by omega)) ts5) (fun b _ _ _ hb=>fun _=>Av.pure (by
     show Ci B K (.mk 6 _ _ _ (kids++[b]));rw[Ci];refine⟨hnm.2.1,?_,fun e=>absurd e (by decide),fun _=>⟨kids,b,rfl,fun x hx=>(hk.2 x hx).2⟩,Gb (ndOks_iff.2 fun x hx=>(hk.2 x hx).1) (Fp hb)⟩;have:=hk.1;rw[lnA,List.length_singleton];omega)) (nlz _)) (nlz _)) (nlz _)) (nlz _)) (nlz _)) (Nat.le_add_right _ _)
theorem Gd.stmt(hB:1<=B)(hK:n+3<=K)(hL:0<n->LGd B K (n - 1) L):Gd B n 1 (PN B K) (pStmt en L):=fun ts=>Av.look fun hn ht=>
 Av.ite (fun hc=>Av.bind (j:=1) (k:=0) (Av.take fun _=>Gn hc) (fun _ _ hj0 hc0 _=>fun ts1=>Av.look fun _ _=>Av.bind (j:=1) (k:=0) (Av.take Gp) (fun nm _ _ _ hnm=>fun ts2=>Av.look fun _ _=>
   Av.bind (j:=1) (k:=0) (Av.take Gn) (fun _ _ _ _ _=>fun ts3=>Av.bind (j:=1) (k:=0) (Gd.expr hB (by omega) (fun h0=>(hL (by omega)).less (by omega)) ts3) (fun x _ _ _ hx=>fun ts4=>
    Av.bind (j:=2) (k:=0) (Gd.block (by omega) (fun h0=>(hL (by omega)).less (by omega)) ts4) (fun b _ _ _ hb=>fun _=>Av.pure (Bq hnm.2.1 (by show 2<=K;omega) (by decide) (by decide) (Jh hx hb))) (nlz _)) (nlz _)) (nlz _)) (nlz _)) (Nat.le_add_right _ _)) fun _=>
 Av.ite (fun hc=>Av.bind (j:=1) (k:=0) (Av.take fun _=>Gn hc) (fun _ _ hj0 hc0 _=>fun ts1=>Av.bind (j:=1) (k:=0) (Gd.expr hB (by omega) (fun h0=>(hL (by omega)).less (by omega)) ts1) (fun x _ _ _ hx=>fun ts2=>
   Av.bind (j:=2) (k:=0) (Gd.block (by omega) (fun h0=>(hL (by omega)).less (by omega)) ts2) (fun b _ _ _ hb=>fun ts3=>Av.look fun _ _=>Av.ite (fun hc2=>
    Av.bind (j:=1) (k:=0) (Av.take fun _=>Gn hc2) (fun _ _ _ _ _=>fun ts4=>Av.bind (j:=2) (k:=0) (Gd.block (by omega) (fun h0=>(hL (by omega)).less (by omega)) ts4) (fun c _ _ _ hc3=>fun _=>
     Av.pure (Bq (nlz _) (by show 3<=K;omega) (by decide) (by decide) ⟨hx,hb,hc3,trivial⟩)) (nlz _)) (nlz _)) fun _=>Av.pure (Bq (nlz _) (by show 2<=K;omega) (by decide) (by decide) (Jh hx hb))) (nlz _)) (nlz _)) (Nat.le_add_right _ _)) fun _=>
 Av.ite (fun hc=>Gd.rule hB hK hL (Gn hc)) fun _=>
 Av.ite (fun _=>Av.bind (j:=1) (k:=0) (Gd.call hK hL ts) (fun c _ _ _ hc=>fun ts1=>Av.bind (j:=1) (k:=0) (Gd.eat _ _) (fun _ _ _ _ _=>fun _=>Av.pure (Bq (nlz _) (by show 1<=K;omega) (by decide) (by decide) (Fp hc))) (nlz _)) (Nat.le_add_right _ _)) fun _=>
 Av.bind (j:=1) (k:=0) (Av.take Gp) (fun nm _ hj0 hc0 hnm=>fun ts1=>Av.bind (j:=1) (k:=0) (Gd.eat _ _) (fun _ _ _ _ _=>fun ts2=>Av.bind (j:=1) (k:=0) (Gd.expr hB (by omega) (fun h0=>(hL (by omega)).less (by omega)) ts2) (fun x _ _ _ hx=>fun ts3=>
  Av.bind (j:=1) (k:=0) (Gd.eat _ _) (fun _ _ _ _ _=>fun _=>Av.pure (Bq hnm.2.1 (by show 1<=K;omega) (by decide) (by decide) (Fp hx))) (nlz _)) (nlz _)) (nlz _)) (Nat.le_add_right _ _)
end
theorem LGd.lvl{B K}(en)(hB:1<=B):∀(f n:Nat),n<f->n+3<=K->LGd B K n (lvl en f)
 | 0,_,h,_=>absurd h (Nat.not_lt_zero _)
 | f+1,n,h,hK=>
  have ih:0<n->LGd B K (n - 1) (Go.Proofs.YtlbbbapiklendaaGreatDoor.lvl en f):=fun h0=>LGd.lvl en hB f (n - 1) (by omega) (by omega)
  ⟨Gd.expr hB hK ih,Gd.prim hK ih,Gd.stmt hB hK ih⟩
/-! What the lexer hands on. -/
theorem quotedL_len:∀(l:List UInt8) r,Bs l=A r->r.1.length<=l.length
 | [],r,h=>by simp[Bs] at h
 | c::t,r,h=>by
  rw[Bs.eq_def] at h
  dsimp only at h
  split at h
  ·cases h;exact nlz _
  ·split at h
   ·cases h
   ·split at h
    ·cases t with
     | nil=>cases h
     | cons d t'=>
      simp only[Option.bind_eq_some_iff,Option.map_eq_some_iff] at h;obtain⟨e,-,q,hq,rfl⟩:=h;have:=quotedL_len t' q hq;simp only[lnC];omega
    ·simp only[Option.map_eq_some_iff] at h;obtain⟨q,hq,rfl⟩:=h;have:=quotedL_len t q hq;simp only[lnC];omega
theorem takeWhile_le{p:UInt8->Bool}(l:List UInt8):(l.takeWhile p).length<=l.length:=(List.takeWhile_prefix p).length_le
theorem nextL_ok{l k s n}(h:Bu l = .ok (k,s,n)):s.length<=l.length/\(k=2->Vv ⟨s.toArray⟩):=by
 cases l with
 | nil=>cases h
 | cons c t=>
  rw[Bu] at h;split at h
  ·cases h;exact⟨nlz _,fun e=>absurd e (by decide)⟩
  ·split at h
   ·cases h;exact⟨nlz _,fun e=>absurd e (by decide)⟩
   ·split at h
    ·cases h;exact⟨takeWhile_le _,fun e=>absurd e (by decide)⟩
    ·split at h
     ·next hd=>
      unfold C8 at h;split at h
      ·cases h
      ·next h1=>
       split at h
       ·cases h
       ·next h2=>
        cases h;refine⟨takeWhile_le _,fun _=>⟨?_,?_,?_,by simpa using h2⟩⟩
        ·show(c::t).takeWhile Ba≠[];rw[List.takeWhile_cons_of_pos hd];simp
        ·intro x hx;have:x∈(c::t).takeWhile Ba:=hx;exact List.all_eq_true.1 (List.all_takeWhile) x this
        ·rintro⟨g1,g2⟩;refine h1 ⟨g1,?_⟩;have:((c::t).takeWhile Ba).head? = A 48:=g2;rw[List.takeWhile_cons_of_pos hd] at this
         simpa using this
     ·split at h
      ·split at h
       ·next r hr=>
        cases h;refine⟨?_,fun e=>absurd e (by decide)⟩;have:=quotedL_len _ _ hr;simp only[lnC];omega
       ·cases h
      ·split at h
       ·cases h;exact⟨by rw[List.length_take];omega,fun e=>absurd e (by decide)⟩
       ·split at h
        ·cases h;exact⟨by simp,fun e=>absurd e (by decide)⟩
        ·cases h
theorem Qm{B}:∀(f:Nat) (p:Int×Int) (l:List UInt8) (ts:List Tok),l.length<=B->Bt f p l = .ok ts->ts.length<=f/\Vw B ts
 | 0,p,l,ts,_,h=>by cases h;exact⟨nlr _,fun x hx=>by cases hx⟩
 | f+1,p,l,ts,hB,h=>by
  rw[Bt] at h;split at h
  ·cases h;exact⟨nlz _,fun x hx=>by cases hx⟩
  ·split at h
   ·cases h
   ·next k s n hn=>
    split at h
    ·cases h
    ·next ts' hts=>
     obtain⟨h1,h2⟩:=Qm (B:=B) f (passL p (l.take n)) (l.drop n) ts' (by rw[List.length_drop];omega) hts;obtain⟨g1,g2⟩:=nextL_ok hn;cases h;by_cases hk:0<k
     ·rw[if_pos hk];refine⟨by rw[lnC];omega,fun x hx=>?_⟩;rcases List.mem_cons.1 hx with rfl|hx
      ·exact⟨by show s.toArray.size<=B;rw[List.size_toArray];omega,g2⟩
      ·exact h2 x hx
     ·rw[if_neg hk];exact⟨by omega,h2⟩
theorem Ej(l):readL l≠C/\∀n,readL l=A (.ok n)->∃kids,n = .mk 1 ⟨#[]⟩ 1 1 kids/\kids.length<=65540/\Dj 65536 65540 kids:=by
 unfold readL;cases hl:G6 l with
 | error e=>exact⟨fun h=>(by cases h),fun n h=>(by cases h)⟩
 | ok ts=>
  unfold G6 at hl;split at hl
  ·cases hl
  ·next hlen=>
   obtain⟨h1,h2⟩:=Qm (B:=65536) _ _ _ _ (by omega) hl;have hg:=Gd.stmts (B:=65536) (K:=65540) (n:=ts.length) (en:=Id l) [] (LGd.lvl (Id l) (by decide) (ts.length+2) ts.length (by omega) (by omega)) ts 0 (nlr _) h2;cases hm:Cp (Id l) (lvl (Id l) (ts.length+2)) [] ts 0 with
   | err a b c=>
    simp only[hm];exact⟨fun h=>(by cases h),fun n h=>(by cases h)⟩
   | out=>rw[hm] at hg;exact hg.elim
   | ok x t1 d1=>
    rw[hm] at hg;simp only[hm];refine⟨fun h=>(by cases h),fun n h=>?_⟩;cases h;exact⟨x,rfl,by have:=hg.2.2.1;omega,hg.2.2.2⟩
mutual
def cntV:Vl->Int | .mk _ _ _ l _=>1+cntVs l
def cntVs:List Vl->Int
 | []=>0
 | v::t=>cntV v+cntVs t
end
mutual
def dpV:Vl->Int | .mk _ _ _ l _=>1+dpVs l
def dpVs:List Vl->Int
 | []=>0
 | v::t=>max (dpV v) (dpVs t)
end
mutual
def manyR:Vl->Int->Int | .mk _ _ _ l _,m=>manyRs l m 1
def manyRs:List Vl->Int->Int->Int
 | [],_,n=>n
 | v::t,m,n=>if n<=m then manyRs t m (n+manyR v (m-n)) else n
end
mutual
def deepR:Vl->Int->Int | .mk _ _ _ l _,m=>(if 0<m then deepRs l m 0 else 0)+1
def deepRs:List Vl->Int->Int->Int
 | [],_,n=>n
 | v::t,m,n=>deepRs t m (if n<deepR v (m - 1) then deepR v (m - 1) else n)
end
mutual
def nodesR:Vl->Bool | .mk k n s l ks=>nodesRs l&&Bz k n s l ks
def nodesRs:List Vl->Bool
 | []=>true
 | v::t=>nodesR v&&nodesRs t
end
mutual
theorem cntV_pos(v:Vl):1<=cntV v:=by
 obtain⟨k,n,s,l,ks⟩:=v;rw[cntV];have:=Nn l;omega
theorem Nn(l:List Vl):0<=cntVs l:=by
 cases l with
 | nil=>rw[cntVs];omega
 | cons v t=>
  rw[cntVs];have:=cntV_pos v;have:=Nn t;omega
end
mutual
theorem Np(v:Vl)(d m:Int)(h:(mayV v d m).1=true):(mayV v d m).2=m-cntV v/\nodesR v=true/\d+dpV v<=61:=by
 obtain⟨k,n,s,l,ks⟩:=v;rw[mayV] at h |-;split at h
 ·cases h
 ·rename_i h1
  split at h
  ·rename_i h2
   rw[if_neg h1,if_pos h2];obtain⟨g1,g2,g3⟩:=Ps l (d+1) (m - 1) (by omega) h;rw[cntV,nodesR,dpV];exact⟨by omega,by rw[g2,h2];rfl,by omega⟩
  ·cases h
theorem Ps(l:List Vl)(d m:Int)(hd:d<=61)(h:(Co l d m).1=true):(Co l d m).2=m-cntVs l/\nodesRs l=true/\d+dpVs l<=61:=by
 cases l with
 | nil=>rw[Co,cntVs,nodesRs,dpVs];exact⟨by simp,rfl,by omega⟩
 | cons v t=>
  rw[Co] at h |-;split at h
  ·rename_i h1
   rw[if_pos h1];obtain⟨g1,g2,g3⟩:=Np v d m h1;obtain⟨k1,k2,k3⟩:=Ps t d _ hd h;rw[cntVs,nodesRs,dpVs];exact⟨by omega,by rw[g2,k2];rfl,by omega⟩
  ·cases h
end

theorem OwnD.lower{F w base base' e size v l}(h:OwnD F w base e size v l)(hb:base'<=base):OwnD F w base' e size v l:=by
 obtain⟨css,h1,h2,⟨h3,h4⟩,h5⟩:=h;refine⟨css,h1,h2,⟨h3,?_⟩,h5⟩;rcases h4 with h|⟨g,cap,cur,hv,hg,h⟩
 ·exact .inl h
 ·exact .inr ⟨g,cap,cur,hv,by omega,h⟩
end Go.Proofs.YtlbbbapiklendaaGreatDoor
