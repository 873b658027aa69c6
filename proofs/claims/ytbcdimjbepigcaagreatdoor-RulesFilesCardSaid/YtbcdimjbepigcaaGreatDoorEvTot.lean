/-
  The evaluator has a word at each node that the parser reads,where fuel is enough and the host answers whatever it is asked;an expression leaves the names as they are. No program in sight.
-/
import Derived.Test.YtbcdimjbepigcaaGreatDoorMHostK
import Derived.Test.YtbcdimjbepigcaaGreatDoorMOnce
import Derived.Test.YtbcdimjbepigcaaGreatDoorMLexD
namespace Go.Proofs.YtbcdimjbepigcaaGreatDoor
open Go Go.RowKit
open List renaming mem_of_getElem? -> lgM,mem_cons_self->lmS,mem_cons_of_mem->lmO
def Bz{α:Type}(m:EM α):Prop:=∀st x st',m st = .ok x st'->st'.names=st.names
theorem Bz.bind{α β}{m:EM α}{g:α->EM β}(hm:Bz m)(hg:∀a,Bz (g a)):Bz (EM.bind m g):=by
 intro st x st' h;cases hms:m st with
 | ok a st1=>rw[Dv hms] at h;exact(hg _ _ _ _ h).trans (hm _ _ _ hms)
 | err a b c=>rw[Cf hms] at h;cases h
 | out=>rw[Bo hms] at h;cases h
theorem Bz.pure{α}(x:α):Bz (EM.pure x):=fun _ _ _ h=>by cases h;rfl
theorem Bz.fail{α}(e l c):Bz (eFail e l c:EM α):=fun _ _ _ h=>by cases h
theorem Bz.out{α}:Bz (eOut:EM α):=fun _ _ _ h=>by cases h
theorem Bz.step(l c):Bz (Dw l c):=fun st x st' h=>by
 unfold Dw at h;split at h
 ·cases h
 ·cases h;rfl
theorem Bz.made(v l c):Bz (Di v l c):=by
 unfold Di;split
 ·exact .pure _
 ·exact .fail _ _ _
theorem Bz.items{ex}(hx:∀n,Bz (ex n)):∀(l:List Nd) (acc:List Vl),Bz (Gv ex l acc)
 | [],acc=> .pure acc
 | n::t,acc=> .bind (hx n) fun x=>Bz.items hx t (acc++[x])
theorem Bz.res(r l c):Bz (eRes r l c):=by
 cases r with
 | ok v=>exact .pure _
 | error e=>exact .fail _ _ _
theorem Bz.op{ex}(hx:∀n,Bz (ex n))(n):Bz (eOp ex n):=by
 refine .bind (hx _) fun a=>?_;split
 ·exact .pure _
 ·exact .bind (hx _) fun b=> .res _ _ _
theorem Bz.ents{ex}(hx:∀n,Bz (ex n)):∀(l:List Nd) (acc:List (ByteArray×Vl)),Bz (Gg ex l acc)
 | [],acc=> .pure acc
 | [_],acc=> .pure acc
 | k::n::t,acc=>by
  rw[Gg];split
  ·exact .fail _ _ _
  ·exact .bind (hx n) fun x=>Bz.ents hx t _
theorem Bz.args{ex}(hx:∀n,Bz (ex n)):∀(l:List Nd) (acc:List (ByteArray×Vl)),Bz (Jv ex l acc)
 | [],acc=> .pure acc
 | n::t,acc=> .bind (hx _) fun x=>Bz.args hx t (acc++[(n.text,x)])
theorem Bz.ask(ans q):Bz (Jc ans q):=fun st x st' he=>by
 unfold Jc at he;split at he
 ·cases he
 ·cases he
 ·split at he
  ·cases he;rfl
  ·cases he
theorem Bz.expr(ans){ex}(hx:∀n,Bz (ex n))(n):Bz (Mb ans ex n):=by
 refine .bind (.step _ _) fun _=>?_;intro st x st' h;split at h
 ·split at h
  ·cases h;rfl
  ·dsimp only at h
   split at h
   ·cases h;rfl
   ·cases h
 ·split at h
  ·split at h
   ·cases h;rfl
   ·cases h
  ·split at h
   ·exact Bz.bind (Bz.items hx n.kids []) (fun l=>Bz.made _ _ _) st x st' h
   ·split at h
    ·exact Bz.op hx n st x st' h
    ·split at h
     ·exact Bz.made _ _ _ st x st' h
     ·split at h
      ·exact Bz.bind (Bz.args hx n.kids []) (fun l=>Bz.ask ans _) st x st' h
      ·split at h
       ·exact Bz.bind (Bz.ents hx n.kids []) (fun l=>Bz.made _ _ _) st x st' h
       ·cases h
theorem Bz.exprs(ans):∀(f:Nat) (n:Nd),Bz (Fs ans f n)
 | 0,_=> .out
 | f+1,n=>Bz.expr ans (Bz.exprs ans f) n
def Dh{α:Type}(m:EM α):Prop:=∀st,m st ≠ .out
theorem Dh.bind{α β}{m:EM α}{g:α->EM β}(hm:Dh m)(hg:∀a,Dh (g a)):Dh (EM.bind m g):=by
 intro st;cases hms:m st with
 | ok a st1=>rw[Dv hms];exact hg _ _
 | err a b c=>rw[Cf hms];intro h;cases h
 | out=>exact absurd hms (hm st)
theorem Dh.pure{α}(x:α):Dh (EM.pure x):=fun _ h=>by cases h
theorem Dh.fail{α}(e l c):Dh (eFail e l c:EM α):=fun _ h=>by cases h
theorem Dh.step(l c):Dh (Dw l c):=fun st h=>by
 unfold Dw at h;split at h<;>cases h
theorem Dh.made(v l c):Dh (Di v l c):=by
 unfold Di;split
 ·exact .pure _
 ·exact .fail _ _ _
theorem Dh.items{ex}:∀(l:List Nd) (acc:List Vl),(∀n∈l,Dh (ex n))->Dh (Gv ex l acc)
 | [],acc,_=> .pure acc
 | n::t,acc,hx=> .bind (hx n (lmS ..)) fun x=>Dh.items t (acc++[x]) fun n hn=>hx n (lmO _ hn)
theorem Dh.res(r l c):Dh (eRes r l c):=by
 cases r with
 | ok v=>exact .pure _
 | error e=>exact .fail _ _ _
theorem Dh.ents{ex}:∀(l:List Nd) (acc:List (ByteArray×Vl)),(∀n∈l,Dh (ex n))->Dh (Gg ex l acc)
 | [],acc,_=> .pure acc
 | [_],acc,_=> .pure acc
 | k::n::t,acc,hx=>by
  rw[Gg];split
  ·exact .fail _ _ _
  ·exact .bind (hx n (lmO _ (lmS ..))) fun x=>Dh.ents t _ fun n hn=>hx n (lmO _ (lmO _ hn))
theorem Dh.args{ex}:∀(l:List Nd) (acc:List (ByteArray×Vl)),(∀n∈l,Dh (ex (kidN n 0)))->Dh (Jv ex l acc)
 | [],acc,_=> .pure acc
 | n::t,acc,hx=> .bind (hx n (lmS ..)) fun x=>Dh.args t (acc++[(n.text,x)]) fun n hn=>hx n (lmO _ hn)
def Qc(ans:Ans):Prop:=∀log q,ans log q≠none
theorem Dh.ask{ans}(h:Qc ans)(q):Dh (Jc ans q):=fun st he=>by
 unfold Jc at he;split at he
 ·next hq=>exact h _ _ hq
 ·cases he
 ·split at he<;>cases he
mutual
def ndH:Nd->Nat
 | .mk _ _ _ _ l=>ndHs l+2
def ndHs:List Nd->Nat
 | []=>0
 | x::t=>ndH x+ndHs t
end
theorem ndH_mem:∀{l:List Nd} {x:Nd},x∈l->ndH x<=ndHs l
 | _::t,_,.head _=>by rw[ndHs];omega
 | y::t,x,.tail _ h=>by have:=ndH_mem h;rw[ndHs];omega
theorem Uf(n):2<=ndH n:=by obtain⟨k,t,l,c,kids⟩:=n;rw[ndH];omega
theorem Mz{n}{i:Nat}{x}(h:n.kids[i]? = some x):ndH x+2<=ndH n:=by
 obtain⟨k,t,l,c,kids⟩:=n;have:=ndH_mem (lgM (show kids[i]? = some x from h));rw[ndH.eq_1 k t l c kids];omega
theorem S6(l c):natOf (l++[c])=10*natOf l+(c.toNat - 48):=by
 unfold natOf;rw[List.foldl_append];rfl
theorem Ri{c}(h:Bi c=true):UInt8.ofNat (48+(c.toNat - 48))=c:=by
 obtain⟨h1,h2⟩:=G4 h;rw[show 48+(c.toNat - 48)=c.toNat by omega];exact UInt8.ofNat_toNat
theorem dec_nat(l:List UInt8):l.reverse≠[]->(∀c∈l.reverse,Bi c=true)->¬(1<l.reverse.length/\l.reverse.head? = some 48)->Lib.decDigits (natOf l.reverse)=l.reverse:=by
 induction l with
 | nil=>intro h;exact absurd rfl h
 | cons c t ih=>
  intro _ hd hz;rw[List.reverse_cons] at hd hz |-;have hc:=hd c (by simp);obtain⟨h1,h2⟩:=G4 hc;rw[S6];by_cases ht:t=[]
  ·subst ht;rw[show natOf ([]:List UInt8).reverse=0 from rfl,Lib.decDigits_one (by omega),Nat.mul_zero,Nat.zero_add,Ri hc];rfl
  ·have aB:t.reverse≠[]:=(by simpa using ht);have hlen:1<(t.reverse++[c]).length:=by
    rw[List.length_append,List.length_singleton];have:=List.length_pos_iff.2 aB;omega
   have hh:(t.reverse++[c]).head? = t.reverse.head?:=by
    cases hr:t.reverse with
    | nil=>exact absurd hr aB
    | cons x xs=>rfl
   have hi:=ih aB (fun x hx=>hd x (List.mem_append_left _ hx)) (fun h=>hz ⟨hlen,by rw[hh];exact h.2⟩);have hpos:natOf t.reverse≠0:=fun h0=>by
    rw[h0,Lib.decDigits_one (by omega)] at hi;exact hz ⟨hlen,by rw[hh,<-hi];rfl⟩
   rw[Lib.decDigits,dif_neg (by omega),show(10*natOf t.reverse+(c.toNat - 48)) / 10=natOf t.reverse by omega,show(10*natOf t.reverse+(c.toNat - 48)) % 10=c.toNat - 48 by omega,hi,Ri hc]
theorem S7{l}(h0:l≠[])(hd:∀c∈l,Bi c=true)(hz:¬(1<l.length/\l.head? = some 48)):Lib.itoa (natOf l:Int)=l:=by
 unfold Lib.itoa;rw[if_neg (by omega),Int.toNat_natCast];have:=dec_nat l.reverse;rw[List.reverse_reverse] at this;exact this h0 hd hz
theorem numOf_eq{s}(h:R1 s)(hs:s.size<=65536):Ja s=some (natOf s.data.toList:Int):=by
 obtain⟨h0,hd,hz,hm⟩:=h;have hp:Lib.parseIntB 64 s.data.toList = .ok (natOf s.data.toList:Int):=by
  unfold Lib.parseIntB;cases hl:s.data.toList with
  | nil=>exact absurd hl h0
  | cons c r=>
   obtain⟨h1,h2⟩:=G4 (hd c (by rw[hl];exact lmS ..));rw[hl] at hd hm
   dsimp only
   rw[if_neg (by omega)];rcases parseUint_digits (l:=c::r) (by simp) hd with⟨h3,h4⟩|⟨h3,h4⟩
   ·rw[h4]
    dsimp only
    rw[if_neg (by omega),if_neg (by omega),if_neg (by omega)]
   ·omega
 unfold Ja;rw[hp]
 dsimp only
 rw[if_pos ⟨by unfold inR;simp only[Bool.and_eq_true,decide_eq_true_eq];omega,hs,S7 h0 hd hz⟩]
theorem numOf_ok{s}(h:R1 s)(hs:s.size<=65536):Ja s≠none:=by
 rw[numOf_eq h hs];exact fun h=>(by cases h)
section
variable {K:Nat} {ans:Ans}
theorem O8(f:Nat):Dh (Fs ans (f+1) ndZero):=by
 show Dh (Mb ans (Fs ans f) ndZero);refine .bind (.step _ _) fun _ st h=>?_;cases h
theorem J6{n x:Nd}{i:Nat}(h:D2 65536 K n)(hx:n.kids[i]? = some x):D2 65536 K x:=by
 obtain⟨k,t,l,c,kids⟩:=n;rw[D2] at h;exact ndOks_iff.1 h.2.2.2.2 x (lgM hx)
theorem Iq(ha:Qc ans):∀(f:Nat) (n:Nd),D2 65536 K n->ndH n<=f->Dh (Fs ans f n)
 | 0,n,_,hh=>by have:=Uf n;omega
 | f+1,n,hn,hh=>by
  have hf:1<=f:=(by have:=Uf n;omega);obtain⟨g,rfl⟩:∃g,f=g+1:=⟨f - 1,by omega⟩;have hk:∀i,Dh (Fs ans (g+1) (kidN n i)):=fun i=>by
   unfold kidN;cases hi:n.kids[i]? with
   | none=>exact O8 g
   | some x=>exact Iq ha (g+1) x (J6 hn hi) (by have:=Mz hi;omega)
  have hm:∀x∈n.kids,Dh (Fs ans (g+1) x):=fun x hx=>by
   obtain⟨i,hi⟩:=List.getElem?_of_mem hx;exact Iq ha (g+1) x (J6 hn hi) (by have:=Mz hi;omega)
  have hkk:∀x∈n.kids,Dh (Fs ans (g+1) (kidN x 0)):=fun x hx=>by
   obtain⟨i,hi⟩:=List.getElem?_of_mem hx;unfold kidN;cases hj:x.kids[0]? with
   | none=>exact O8 g
   | some y=>exact Iq ha (g+1) y (J6 (J6 hn hi) hj) (by have:=Mz hi;have:=Mz hj;omega)
  show Dh (Mb ans (Fs ans (g+1)) n);refine .bind (.step _ _) fun _ st h=>?_;split at h
  ·split at h
   ·cases h
   ·(try dsimp only at h);split at h<;>cases h
  ·split at h
   ·rename_i hk10
    split at h
    ·cases h
    ·rename_i hno
     obtain⟨k,t,l,c,kids⟩:=n;rw[D2] at hn;exact numOf_ok (hn.2.2.1 hk10) hn.1 hno
   ·split at h
    ·exact Dh.bind (Dh.items n.kids [] hm) (fun l=>Dh.made _ _ _) st h
    ·split at h
     ·refine Dh.bind (hk 0) (fun a=>?_) st h;split
      ·exact .pure _
      ·exact .bind (hk 1) fun b=> .res _ _ _
     ·split at h
      ·exact Dh.made _ _ _ st h
      ·split at h
       ·exact Dh.bind (Dh.args n.kids [] hkk) (fun l=>Dh.ask ha _) st h
       ·split at h
        ·exact Dh.bind (Dh.ents n.kids [] hm) (fun l=>Dh.made _ _ _) st h
        ·cases h
end
def Gh(n:Nd):Nd:=.mk 2 (bs [120]) n.ln n.cl [n]
def workL(ans:Ans)(n:Nd):Except (Int×Int×Int) Vl:=match eRun ans (ndH n+1) [Gh n] 20000 with
 | .ok _ st=> .ok ((C9 st.names (bs [120])).getD vZero)
 | .err e l c=> .error (e,l,c)
 | .out=> .ok vZero
theorem x_free:C0 (bs [120])=none:=by decide
theorem run_one{K ans n}(ha:Qc ans)(hn:D2 65536 K n):eRun ans (ndH n+1) [Gh n] 20000 ≠ .out /\
  ∀st,eRun ans (ndH n+1) [Gh n] 20000 = .ok () st->∃v,st.names=[(bs [120],v)]:=by
 have hs:=Iq (K:=K) ha (ndH n) n hn (Nat.le_refl _);have hkp:=Bz.exprs ans (ndH n) n;have h0:eRun ans (ndH n+1) [Gh n] 20000=EM.bind (EM.bind (Fs ans (ndH n) n) fun v=>Jb (bs [120]) v n.ln n.cl) (fun _=>EM.pure ()) ⟨[],19999,[]⟩:=rfl;rw[h0];cases hx:Fs ans (ndH n) n ⟨[],19999,[]⟩ with
 | out=>exact absurd hx (hs _)
 | err a b c=>
  rw[Cf (Cf hx)];exact⟨fun h=>(by cases h),fun st h=>(by cases h)⟩
 | ok v st=>
  have hp:Jb (bs [120]) v n.ln n.cl st = .ok () { st with names:=putN st.names (bs [120]) v}:=by
   unfold Jb;rw[x_free];rfl
  rw[Dv ((Dv hx).trans hp)];refine⟨fun h=>(by cases h),fun st' h=>?_⟩;cases h;refine⟨v,?_⟩;show putN st.names (bs [120]) v=_;rw[hkp _ _ _ hx];rfl
end Go.Proofs.YtbcdimjbepigcaaGreatDoor