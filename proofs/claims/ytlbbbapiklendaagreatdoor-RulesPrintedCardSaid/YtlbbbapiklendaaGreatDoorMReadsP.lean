/-
  The lexer reads of what is printed the tokens that are in it. No program in sight. (And what it stands on.)
-/
import Derived.Handy
import Derived.Test.YtlbbbapiklendaaGreatDoorReplRun
import Derived.Test.YtlbbbapiklendaaGreatDoorMRefNumB
namespace Go.Proofs.YtlbbbapiklendaaGreatDoor
open Go.Value renaming string->A
open Go Go.RowKit
open List renaming getElem?_map->lgP,length_cons->lnC,mem_cons_self->lmS,mem_cons_of_mem->lmO
open Nat renaming le_refl->nlr,le_trans->nlt
open Go.Lib renaming hid->Lq7
set_option maxRecDepth 100000
set_option maxHeartbeats 16000000
theorem Ws(b n)(hn:n<=b)(ob oc s w)(hnw:n<=w.heap.size)(h:RB w b 0 0 .nilIface (.slice (some ⟨ob,0,none⟩) 6 oc))(hs:Dx w (some ⟨ob,0,none⟩) Du)(hob:ob≠b)(hz:s.size<=65536):
  Calls Tryz.prog 143 #[.pointer (some ⟨b,0,none⟩),A s] w (fun e w'=>∃o:ByteArray,e = .returned (A o)/\o.data.toList=escL s.data.toList/\Below n w w'):=by
 have HO:=Lq7 (once_any b n hn ob oc w hnw h hs hob);have hmf:∀(fn:Fn) (first cap:Array Value) (w:World),(Instr.makeFunc fn first cap).run Tryz.prog w = .ok (.func fn first cap) w:=fun _ _ _ _=>rfl;go_enter Tryz.func143,Tryz.ntmps143;go_wp2_with fail;refine HO.out.mono ?_;rintro e w1 ⟨rfl,rb,aB,aD,hrb⟩;have HR:=Lq7 (Wx s rb _ w1 aD hz);have Hb1:=Lq7 aB;have hsz:=aB.size;obtain⟨-,q0,q1,q2,q3,q4,-⟩:=Aa hrb;go_wp2_with fail;refine HR.out.mono ?_;rintro e w2 ⟨o,rfl,ho,aC⟩;go_wp2_with fail;go_ret;exact⟨o,rfl,ho,Hb1.out.trans (aC.mono (nlt hnw hsz))⟩
def PNewRepl(w:World)(e:Ending)(w':World):Prop:=∃b ob oc,e = .returned (.pointer (some ⟨b,0,none⟩))/\Below w.heap.size w w'/\w.heap.size<=b/\RB w' b 0 0 .nilIface (.slice (some ⟨ob,0,none⟩) 6 oc)/\Dx w' (some ⟨ob,0,none⟩) Du/\ob≠b
theorem Wu(ab cap w)(hs:Dx w (some ⟨ab,0,none⟩) Du):
  Calls Tryz.prog 142 #[.slice (some ⟨ab,0,none⟩) 6 cap] w (PNewRepl w):=by
 obtain⟨i0,hi,hz0,hz1,hz2⟩:=info_parts infoStr;have aA:∀(j:Nat) u,(Du.map Value.string)[j]? = some u->w.cell? ((⟨ab,0,none⟩:Addr).add j)=some u:=fun j u hj=>by
  rw[lgP] at hj;cases hx:Du[j]? with
  | none=>rw[hx] at hj;cases hj
  | some x=>
   rw[hx] at hj;cases hj;obtain⟨b',off,e,hc⟩:=hs j x hx;cases e;have aE:((⟨ab,0,none⟩:Addr).add j)=⟨ab,0+j,none⟩:=by unfold Addr.add;split<;>simp_all
   rw[aE];exact hc
 have Hn:=Lq7 aA;go_enter Tryz.func142,Tryz.ntmps142
 go_wp2_with (at_builtin;refine C1 rfl _ _ 51 rfl w.heap.size 9 i0 (A ByteArray.empty) 1 16 Tryz.underlying51 hi hz0 hz1 hz2 rfl (by decide) (.slice none 0 0) 0 [] rfl ⟨rfl,.inl ⟨rfl,rfl⟩⟩ ⟨ab,0,none⟩ 6 cap (Du.map Value.string) rfl rfl Hn.out ?_ ?_ ?_ ?_ ?_)
 ·intro u hu;obtain⟨x,-,rfl⟩:=List.mem_map.1 hu;rfl
 ·unfold maxLen;decide
 ·decide
 ·exact nlr _
 intro v w1 hown hg _;have hown':OwnS w1 w.heap.size v Du:=hown;have hsh:=hown';obtain⟨h1,⟨-,h2⟩|⟨ob,oc,cur,rfl,h3,h4,-⟩⟩:=hsh
 ·cases h2
 have aF:=hown'.strsAt;obtain⟨a,c,he,aF,-⟩:=aF;obtain rfl:a=some ⟨ob,0,none⟩:=(by injection he with e1;exact e1.symm);have hobl:=(Array.getElem?_eq_some_iff.1 h4).1;have aB:Below w.heap.size w w1:=Cz (v:=.slice none 0 0) hg (fun g e=>by cases e) (nlr _);have H1:=Lq7 (And.intro aB aF);go_wp2_with fail;have aC:Below w1.heap.size w1 (w1.alloc (.cells #[.int .u32 0,.int .i32 0,.int .u32 0,.nilIface,.slice (some ⟨ob,0,none⟩) 6 oc] 225)):=(Below.refl _ w1).alloc (nlr _) _;go_ret;exact⟨_,ob,oc,rfl,H1.out.1.trans (aC.mono H1.out.1.size),H1.out.1.size,heap_alloc_new w1 _,H1.out.2.below aC,by omega⟩
def Lu(c:UInt8):Bool:=decide (c.toNat<32/\c.toNat≠10\/c.toNat=127)
def quoteL(l:List UInt8):List UInt8:=if l.any Lu then [] else 34::escL l++[34]
theorem Ab2{l k}(h:k<l.length)(hb:Lu l[k]=true):quoteL l=[]:=by
 unfold quoteL;rw[if_pos (List.any_eq_true.2 ⟨l[k],List.getElem_mem h,hb⟩)]
theorem quote_ok{l}(h:∀j (hj:j<l.length),Lu l[j]=false):quoteL l=34::escL l++[34]:=by
 unfold quoteL;rw[if_neg];intro ha;obtain⟨x,hx,hb⟩:=List.any_eq_true.1 ha;obtain⟨j,hj,rfl⟩:=List.mem_iff_getElem.1 hx;rw[h j hj] at hb;cases hb
theorem Lr(s w)(hz:s.size<=65536):
  Calls Tryz.prog 86 #[A s] w (Le (quoteL s.data.toList) w):=by
 go_enter Tryz.func86,Tryz.ntmps86;go_wp2_with fail
 go_loop [6] (fun i=>∃k:Nat,i = .int .i64 k/\k<=s.size/\Hid (∀j (hj:j<s.data.toList.length),j<k->Lu s.data.toList[j]=false)) (fun i=>s.size-(intOf i).toNat)
 case atStart=>exact⟨0,rfl,Nat.zero_le _,Lq7 (fun j _ h=>absurd h (Nat.not_lt_zero _))⟩
 case round=>
  obtain⟨k,rfl,hk,aF⟩:=hrel;by_cases hlt:k<s.size
  ·have hkl:k<s.data.toList.length:=(by rw[Al];exact hlt);have aB:Hid (Lu s[k]=true->quoteL s.data.toList=[]):=Lq7 (fun h=>Ab2 hkl h);have aA:Hid (Lu s[k]=false->∀j (hj:j<s.data.toList.length),j<k+1->Lu s.data.toList[j]=false):=Lq7 (fun h j hj hjk=>by
    rcases Nat.lt_succ_iff_lt_or_eq.1 hjk with h1|h1
    ·exact aF.out j hj h1
    ·subst h1;exact h)
   by_cases h1:(s[k].toNat:Int)<32
   ·by_cases h2:(s[k].toNat:Int)=10
    ·have h2b:((s[k].toNat:Int) != 10)=false:=(by simp[h2]);have aG:((s[k].toNat:Int)==127)=false:=(by rw[h2];rfl);have Hn:=Lq7 (aA.out (by unfold Lu;rw[decide_eq_false];omega));go_wp2_with fail;go_round
     case rel=>exact⟨k+1,by go_num,by omega,Hn⟩
     case measure=>simp only[intOf];omega
    ·have h2b:((s[k].toNat:Int) != 10)=true:=(by simpa using h2);have Hn:=Lq7 (aB.out (by unfold Lu;rw[decide_eq_true];omega));go_wp2_with fail;go_ret;exact⟨_,rfl,Hn.out.symm,Below.refl _ _⟩
   ·by_cases h3:(s[k].toNat:Int)=127
    ·have aG:((s[k].toNat:Int)==127)=true:=(by rw[h3];rfl);have Hn:=Lq7 (aB.out (by unfold Lu;rw[decide_eq_true];omega));go_wp2_with fail;go_ret;exact⟨_,rfl,Hn.out.symm,Below.refl _ _⟩
    ·have aG:((s[k].toNat:Int)==127)=false:=(by simpa using h3);have Hn:=Lq7 (aA.out (by unfold Lu;rw[decide_eq_false];omega));go_wp2_with fail;go_round
     case rel=>exact⟨k+1,by go_num,by omega,Hn⟩
     case measure=>simp only[intOf];omega
  ·have Hq:Hid (quoteL s.data.toList=34::escL s.data.toList++[34]):=Lq7 (quote_ok fun j hj=>aF.out j hj (by have:=Al s;omega));have aC:Dx (w.alloc (.cells #[A ⟨#[34]⟩,A ⟨#[92,34]⟩,A ⟨#[92]⟩,A ⟨#[92,92]⟩,A ⟨#[10]⟩,A ⟨#[92,110]⟩] 9)) (some ⟨w.heap.size,0,none⟩) Du:=fun j x hj=>by
    refine⟨w.heap.size,0,rfl,?_⟩;obtain⟨-,hc,-⟩:=Ao (heap_alloc_new w (.cells #[A ⟨#[34]⟩,A ⟨#[92,34]⟩,A ⟨#[92]⟩,A ⟨#[92,92]⟩,A ⟨#[10]⟩,A ⟨#[92,110]⟩] 9));rw[Nat.zero_add,hc,show(#[Value.string ⟨#[34]⟩,A ⟨#[92,34]⟩,A ⟨#[92]⟩,A ⟨#[92,92]⟩,A ⟨#[10]⟩,A ⟨#[92,110]⟩]:Array Value)=(Du.map Value.string).toArray from rfl,List.getElem?_toArray,lgP,hj];rfl
   have HN:=Lq7 (Wu w.heap.size 6 _ aC);have aD:Hid (Below w.heap.size w (w.alloc (.cells #[A ⟨#[34]⟩,A ⟨#[92,34]⟩,A ⟨#[92]⟩,A ⟨#[92,92]⟩,A ⟨#[10]⟩,A ⟨#[92,110]⟩] 9))):=Lq7 ((Below.refl _ w).alloc (nlr _) _);go_wp2_with fail;refine HN.out.mono ?_;rintro e w1 ⟨b,ob,oc,rfl,hb1,hbl,hrb,aC,hob⟩;have aH:=Lq7 (aD.out.trans (hb1.mono aD.out.size));have HR:=Lq7 (Ws b w.heap.size (nlt aD.out.size hbl) ob oc s w1 aH.out.size hrb aC hob hz);go_wp2_with fail;refine HR.out.mono ?_;rintro e w2 ⟨o,rfl,ho,hb2⟩;have hel:=escL_len s.data.toList;have hen:=Pe s.data.toList;rw[<-ho,Al,Al] at hel;rw[Al] at hen;have aE:Hid ((⟨#[34]⟩++o++⟨#[34]⟩:ByteArray).data.toList=quoteL s.data.toList):=Lq7 (by
    rw[Hq.out,ByteArray.data_append,ByteArray.data_append,Array.toList_append,Array.toList_append,ho];rfl)
   have Hb2:=Lq7 (aH.out.trans hb2);go_wp2_with fail;go_ret;exact⟨_,rfl,aE.out,Hb2.out⟩
def K8(l:List UInt8):Prop:=∀x∈l,Lu x=false
theorem La{l}(h:K8 l):quoteL l=34::escL l++[34]:=by
 unfold quoteL;rw[if_neg];intro ha;obtain⟨x,hx,hb⟩:=List.any_eq_true.1 ha;rw[h x hx] at hb;cases hb
theorem esc_len(l):(escL l).length<=2*l.length:=by
 have h1:=escL_len l;have h2:Da l<=l.length:=List.countP_le_length;omega
abbrev KT:=Int×List UInt8
def Tok.kt(t:Tok):KT:=(t.kind,t.text.data.toList)
inductive Reads:List UInt8->List KT->Prop
 | nil:Reads [] []
 | gap {c:UInt8} {r:List UInt8} {ks:List KT} (hc:isGap c=true) (h:Reads r ks):Reads (c::r) ks
 | tok {l:List UInt8} {k:Int} {s:List UInt8} {n:Nat} {ks:List KT} (hl:l≠[]) (he:Bu l = .ok (k,s,n)) (hk:0<k) (h:Reads (l.drop n) ks):Reads l ((k,s)::ks)
theorem Sm{c t}(h:isGap c=true):Bu (c::t) = .ok (0,[],runL isGap (c::t)):=by
 unfold Bu;rw[if_pos h]
theorem Ab3{p c t}(h:p c=true):runL p (c::t)=runL p t+1:=by
 unfold runL;rw[List.takeWhile_cons_of_pos h,lnC]
theorem runL_not{p c t}(h:p c=false):runL p (c::t)=0:=by
 unfold runL;rw[List.takeWhile_cons_of_neg (by simp[h])];rfl
theorem Reads.ungap{l ks}(h:Reads l ks):Reads (l.drop (runL isGap l)) ks:=by
 induction h with
 | nil=>exact .nil
 | gap hc h ih=>rw[Ab3 hc,List.drop_succ_cons];exact ih
 | @tok l k s n ks hl he hk h ih=>
  have h0:runL isGap l=0:=by
   cases l with
   | nil=>exact absurd rfl hl
   | cons c t=>
    cases hg:isGap c with
    | false=>exact runL_not hg
    | true=>rw[Sm hg] at he;cases he;omega
  rw[h0,List.drop_zero];exact .tok hl he hk h
theorem reads_go(m):∀(l:List UInt8) (ks:List KT),l.length<=m->Reads l ks->∀f p,l.length<f->∃ts,Bt f p l = .ok ts/\ts.map Tok.kt=ks:=by
 induction m with
 | zero=>
  intro l ks hm h f p hf;obtain rfl:=List.length_eq_zero_iff.1 (Nat.le_zero.1 hm);cases h with
  | nil=>
   obtain⟨g,rfl⟩:∃g,f=g+1:=⟨f - 1,by have:=hf;omega⟩;exact⟨[],by simp[Bt],rfl⟩
  | tok hl=>exact absurd rfl hl
 | succ m ih=>
  intro l ks hm h f p hf;obtain⟨g,rfl⟩:∃g,f=g+1:=⟨f - 1,by omega⟩;have h0:=h;cases h with
  | nil=>exact⟨[],by simp[Bt],rfl⟩
  | @gap c r _ hc h=>
   have h1:=h0.ungap;have h2:=runL_pos (p:=isGap) (t:=r) hc;rw[lnC] at hm hf;obtain⟨ts,h3,h4⟩:=ih _ ks (by rw[List.length_drop,lnC];omega) h1 g (passL p ((c::r).take (runL isGap (c::r)))) (by rw[List.length_drop,lnC];omega);refine⟨ts,?_,h4⟩;rw[Bt,if_neg (by simp),Sm hc];simp only;rw[h3];simp
  | @tok _ k s n ks hl he hk h=>
   have h2:=Jd he;simp only at h2;obtain⟨ts,h3,h4⟩:=ih _ ks (by rw[List.length_drop];omega) h g (passL p (l.take n)) (by rw[List.length_drop];omega);refine⟨⟨k,⟨s.toArray⟩,p.1,p.2⟩::ts,?_,?_⟩
   ·rw[Bt,if_neg hl,he];simp only;rw[h3];simp only[if_pos hk]
   ·rw[List.map_cons,h4];rfl
theorem Reads.lex{l ks}(h:Reads l ks)(hl:l.length<=65536):∃ts,G6 l = .ok ts/\ts.map Tok.kt=ks:=by
 unfold G6;rw[if_neg (by omega)];exact reads_go _ l ks (nlr _) h _ _ (Nat.lt_succ_self _)
def G9(p:UInt8->Bool)(l:List UInt8):Prop:=∀c t,l=c::t->p c=false
theorem G9.nil(p):G9 p []:=fun _ _ h=>by cases h
theorem G9.cons{p c t}(h:p c=false):G9 p (c::t):=fun _ _ e=>by cases e;exact h
theorem L0{p a r}(ha:∀c∈a,p c=true)(hr:G9 p r):(a++r).takeWhile p=a:=by
 induction a with
 | nil=>
  cases r with
  | nil=>rfl
  | cons c t=>rw[List.nil_append,List.takeWhile_cons_of_neg (by simp[hr c t rfl])]
 | cons c t ih=>rw[List.cons_append,List.takeWhile_cons_of_pos (ha c (lmS ..)),ih fun x hx=>ha x (lmO _ hx)]
theorem Reads.gaps{g r ks}(hg:∀c∈g,isGap c=true)(h:Reads r ks):Reads (g++r) ks:=by
 induction g with
 | nil=>exact h
 | cons c t ih=>exact .gap (hg c (lmS ..)) (ih fun x hx=>hg x (lmO _ hx))
theorem Reads.app{a r k s ks}(ha:a≠[])(he:Bu (a++r) = .ok (k,s,a.length))(hk:0<k)(h:Reads r ks):Reads (a++r) ((k,s)::ks):=
 .tok (by simp[ha]) he hk (by rw[List.drop_left];exact h)
def Iz(l:List UInt8):Prop:=∃c t,l=c::t/\Di c=true/\∀x∈l,Cd x=true
theorem Y2{c}(h:Di c=true):isGap c=false/\c≠35:=by
 unfold Di at h;simp only[Bool.or_eq_true,Bool.and_eq_true,decide_eq_true_eq,beq_iff_eq] at h
 constructor
 ·unfold isGap;simp only[Bool.or_eq_false_iff,beq_eq_false_iff_ne];omega
 ·rintro rfl;rcases h with (h|h)|h<;>simp at h
theorem Y3{l r}(hl:Iz l)(hr:G9 Cd r):Bu (l++r) = .ok (1,l,l.length):=by
 obtain⟨c,t,rfl,hc,ha⟩:=hl;have h1:=L0 ha hr;obtain⟨h2,h3⟩:=Y2 hc;rw[List.cons_append] at h1 |-;unfold Bu;rw[if_neg (by simp[h2]),if_neg h3,if_pos hc];unfold runL;rw[h1]
theorem Reads.word{l r ks}(hl:Iz l)(hr:G9 Cd r)(h:Reads r ks):Reads (l++r) ((1,l)::ks):=by
 have he:=Y3 hl hr;obtain⟨c,t,rfl,-⟩:=hl;exact .app (by simp) he (by decide) h
theorem Ab4{c}(h:Ba c=true):isGap c=false/\c≠35/\Di c=false:=by
 obtain⟨h1,h2⟩:=Gy h;refine⟨?_,?_,?_⟩
 ·unfold isGap;simp only[Bool.or_eq_false_iff,beq_eq_false_iff_ne];omega
 ·rintro rfl;simp at h1
 ·unfold Di;simp only[Bool.or_eq_false_iff,Bool.and_eq_false_iff,decide_eq_false_iff_not,beq_eq_false_iff_ne];omega
def NumL(l:List UInt8):Prop:=l≠[]/\(∀c∈l,Ba c=true)/\¬(1<l.length/\l.head? = some 48)/\natOf l<=9223372036854775807
theorem Ab5{l r}(hl:NumL l)(hr:G9 Ba r):Bu (l++r) = .ok (2,l,l.length):=by
 obtain⟨h0,hd,hz,hm⟩:=hl;cases l with
 | nil=>exact absurd rfl h0
 | cons c t=>
  have h1:=L0 hd hr;obtain⟨h2,h3,h4⟩:=Ab4 (hd c (lmS ..));have hz':¬(1<(c::t).length/\(c::(t++r)).head? = some 48):=hz;rw[List.cons_append] at h1 |-;unfold Bu;rw[if_neg (by simp[h2]),if_neg h3,if_neg (by simp[h4]),if_pos (hd c (lmS ..))];unfold C8 runL;rw[h1,if_neg hz',if_neg (by omega)]
theorem Reads.num{l r ks}(hl:NumL l)(hr:G9 Ba r)(h:Reads r ks):Reads (l++r) ((2,l)::ks):=
 .app hl.1 (Ab5 hl hr) (by decide) h
theorem Oy(r):∀(l:List UInt8),K8 l->Bs (escL l++34::r)=some (l,(escL l).length+1)
 | [],_=>by show Bs (34::r)=_;rw[C7,if_pos rfl];rfl
 | c::t,h=>by
  have ih:=Oy r t fun x hx=>h x (lmO _ hx);have hb:=h c (lmS ..);have hc:escL (c::t)=esc1 c++escL t:=(by unfold escL;rw[List.flatMap_cons]);rw[hc,List.append_assoc];unfold esc1;by_cases he:Mh c.toNat=true
  ·rw[if_pos he];have h3:c=34\/c=92\/c=10:=by
    unfold Mh at he;simp only[Bool.or_eq_true,beq_iff_eq] at he;rcases he with (he|he)|he
    ·exact .inl (UInt8.toNat_inj.1 he)
    ·exact .inr (.inl (UInt8.toNat_inj.1 he))
    ·exact .inr (.inr (UInt8.toNat_inj.1 he))
   rcases h3 with rfl|rfl|rfl <;>
   ·rw[List.cons_append,List.cons_append,List.nil_append,C7,if_neg (by decide),if_neg (by decide),if_pos rfl];simp only;rw[ih];simp[Fo]
  ·rw[if_neg he,List.cons_append,List.nil_append,C7];have h1:c≠34:=(by rintro rfl;exact he rfl);have h2:c≠92:=(by rintro rfl;exact he rfl);have h10:c≠10:=(by rintro rfl;exact he rfl);unfold Lu at hb;rw[decide_eq_false_iff_not] at hb;have h3:¬(c<32\/c=127):=by
    rintro(h|rfl)
    ·have h4:c.toNat<32:=UInt8.lt_iff_toNat_lt.1 h;exact hb (.inl ⟨h4,fun e=>h10 (UInt8.toNat_inj.1 e)⟩)
    ·exact hb (.inr rfl)
   rw[if_neg h1,if_neg h3,if_neg h2,ih];simp
theorem Wr{l r}(hl:K8 l):Bu (quoteL l++r) = .ok (3,l,(quoteL l).length):=by
 rw[La hl];simp only[List.cons_append,List.append_assoc,List.nil_append];unfold Bu;rw[if_neg (by decide),if_neg (by decide),if_neg (by decide),if_neg (by decide),if_pos rfl,Oy r l hl];simp
theorem Reads.quote{l r ks}(hl:K8 l)(h:Reads r ks):Reads (quoteL l++r) ((3,l)::ks):=
 .app (by rw[La hl];simp) (Wr hl) (by decide) h
def Qy(c:UInt8):Bool:=c∈([43,40,41,91,93,123,125,44,58,59]:List UInt8)
theorem Y4{c}(h:Qy c=true):isGap c=false/\c≠35/\Di c=false/\Ba c=false/\c≠34/\c≠61/\c≠33:=by
 unfold Qy at h;simp only[List.mem_cons,List.not_mem_nil,or_false,decide_eq_true_eq] at h;rcases h with rfl|rfl|rfl|rfl|rfl|rfl|rfl|rfl|rfl|rfl<;>decide
theorem M7{c x y:UInt8}{r}:(c::r).take 2=[x,y]↔c=x/\∃t,r=y::t:=by
 cases r with
 | nil=>simp
 | cons d t=>simp
theorem Reads.sign{c r ks}(hc:Qy c=true)(h:Reads r ks):Reads (c::r) ((4,[c])::ks):=by
 obtain⟨h1,h2,h3,h4,h5,h6,h7⟩:=Y4 hc;refine Reads.app (a:=[c]) (by simp) ?_ (by decide) h;show Bu (c::r) = .ok (4,[c],1);unfold Bu;rw[if_neg (by simp[h1]),if_neg h2,if_neg (by simp[h3]),if_neg (by simp[h4]),if_neg h5,if_neg (by rw[M7,M7];rintro(h|h);exact h6 h.1;exact h7 h.1),if_pos];unfold Qy at hc;simp only[decide_eq_true_eq] at hc;exact lmO _ hc
theorem Reads.eq{r ks}(hr:G9 (· == 61) r)(h:Reads r ks):Reads (61::r) ((4,[61])::ks):=by
 refine Reads.app (a:=[61]) (by simp) ?_ (by decide) h;show Bu (61::r) = .ok (4,[61],1);unfold Bu;rw[if_neg (by decide),if_neg (by decide),if_neg (by decide),if_neg (by decide),if_neg (by decide),if_neg,if_pos (by decide)];rw[M7,M7];rintro(⟨-,t,h⟩|⟨h,-⟩)
 ·have:=hr _ _ h;simp at this
 ·exact absurd h (by decide)
theorem Reads.two{c r ks}(hc:c=61\/c=33)(h:Reads r ks):Reads (c::61::r) ((4,[c,61])::ks):=by
 refine Reads.app (a:=[c,61]) (by simp) ?_ (by decide) h;show Bu (c::61::r) = .ok (4,[c,61],2);rcases hc with rfl|rfl <;>
 ·unfold Bu;rw[if_neg (by decide),if_neg (by decide),if_neg (by decide),if_neg (by decide),if_neg (by decide),if_pos (by simp)];rfl
inductive Pc where
 | g (l:List UInt8)
 | t (k:Int) (s raw:List UInt8)
def Pc.raw:Pc->List UInt8 | .g l=>l | .t _ _ r=>r
def Pc.kt:Pc->List KT | .g _=>[] | .t k s _=>[(k,s)]
def Aq(l:List Pc):List UInt8:=l.flatMap Pc.raw
def ktP(l:List Pc):List KT:=l.flatMap Pc.kt
theorem Bg(a b):Aq (a++b)=Aq a++Aq b:=List.flatMap_append
theorem Bf(a b):ktP (a++b)=ktP a++ktP b:=List.flatMap_append
def pW(s:List UInt8):Pc:=.t 1 s s
def pS(c:UInt8):Pc:=.t 4 [c] [c]
def sp:Pc:=.g [32]
def nl:Pc:=.g [10]
def notW:List UInt8:=[110,111,116]
def Gf(n:Nd):List UInt8:=n.text.data.toList
def Fk(n:Nd):Bool:=n.kind==16 && !(Gf n==notW)
def C6(t:List UInt8)(i:Nat)(x:Nd):Bool:=if t=notW then Fk x else Fk x&&(!(Gf x==[43])||(decide (0<i)&&t==[43]))
def brk(b:Bool)(l:List Pc):List Pc:=if b then pS 40::(l++[pS 41]) else l
def A6(sep:Nat->List Pc):Nat->List (List Pc)->List Pc
 | _,[]=>[]
 | i,x::r=>sep i++(x++A6 sep (i+1) r)
def En(i:Nat):List Pc:=if i=0 then [] else [pS 44,sp]
def Fl(i:Nat):List Pc:=if i=0 then [] else if i % 2=1 then [pS 58,sp] else [pS 44,sp]
def opK(t:List UInt8):Pc:=if t=[105,110] then pW t else .t 4 t t
def G8(t:List UInt8)(i:Nat):List Pc:=if i=0 then [] else [sp,opK t,sp]
theorem Oc(sep):∀(l m:List (List Pc)) (i:Nat),A6 sep i (l++m)=A6 sep i l++A6 sep (i+l.length) m
 | [],m,i=>by simp[A6]
 | x::l,m,i=>by rw[List.cons_append,A6,A6,Oc sep l m (i+1),lnC,show i+1+l.length=i+(l.length+1) by omega];simp
theorem Y0(sep l x i):A6 sep i (l++[x])=A6 sep i l++(sep (i+l.length)++x):=by rw[Oc];simp[A6]
def nameP(t:List UInt8):List Pc:=if t=[] then [] else [pW t,sp,pS 61,sp]
mutual
def exP:Nd->List Pc
 | .mk k t _ _ l=>
  if k=11 then [.t 3 t.data.toList (quoteL t.data.toList)]
  else if k=12 then pS 91::(A6 En 0 (exPs l)++[pS 93])
  else if k=13 then pS 123::(A6 Fl 0 (exPs l)++[pS 125])
  else if k=14 then pW t.data.toList::pS 40::(A6 En 0 (arPs l)++[pS 41])
  else if k=16 then(if t.data.toList=notW then pW notW::sp::onP l else A6 (G8 t.data.toList) 0 (opPs t.data.toList 0 l))
  else [.t (if k=10 then 2 else 1) t.data.toList t.data.toList]
def exPs:List Nd->List (List Pc)
 | []=>[]
 | x::r=>exP x::exPs r
def onP:List Nd->List Pc
 | []=>[]
 | x::_=>brk (Fk x) (exP x)
def opPs(t:List UInt8):Nat->List Nd->List (List Pc)
 | _,[]=>[]
 | i,x::r=>brk (C6 t i x) (exP x)::opPs t (i+1) r
def fiP:List Nd->List Pc
 | []=>[]
 | x::_=>exP x
def arP:Nd->List Pc
 | .mk _ t _ _ l=>nameP t.data.toList++fiP l
def arPs:List Nd->List (List Pc)
 | []=>[]
 | x::r=>arP x::arPs r
end
theorem M6(l):exPs l=l.map exP:=by
 induction l with
 | nil=>rfl
 | cons x r ih=>rw[exPs,ih,List.map_cons]
theorem Qx(l):arPs l=l.map arP:=by
 induction l with
 | nil=>rfl
 | cons x r ih=>rw[arPs,ih,List.map_cons]
def paP(n:Nd):List Pc:=[pW (Gf n),pS 58,sp,pW (Gf (kidN n 0))]++(if 1<n.kids.length then [sp,pS 61,sp]++exP (kidN n 1) else [])
def tabP(d:Nat):Pc:=.g (List.replicate d 9)
def forW:List UInt8:=[102,111,114]
def inW:List UInt8:=[105,110]
def ifW:List UInt8:=[105,102]
def elseW:List UInt8:=[101,108,115,101]
def ruleW:List UInt8:=[114,117,108,101]
mutual
def stP(d:Nat):Nd->List Pc
 | .mk k t a b l=>
  if k=2 then arP (.mk k t a b l)++[pS 59]
  else if k=3 then fiP l++[pS 59]
  else if k=4 then [pW forW,sp,pW t.data.toList,sp,pW inW,sp]++(fiP l++(sp::laP d l))
  else if k=5 then [pW ifW,sp]++(fiP l++(sp::ifP d 0 l))
  else if k=6 then [pW ruleW,sp,pW t.data.toList,pS 40]++(A6 En 0 (l.dropLast.map paP)++([pS 41,sp]++laP d l))
  else []
def laP(d:Nat):List Nd->List Pc
 | []=>[]
 | [x]=>blP d x
 | _::r=>laP d r
def ifP(d:Nat):Nat->List Nd->List Pc
 | _,[]=>[]
 | i,x::r=>(if i=0 then [] else if i=1 then blP d x else [sp,pW elseW,sp]++blP d x)++ifP d (i+1) r
def blP(d:Nat):Nd->List Pc
 | .mk _ _ _ _ l=>pS 123::nl::(Dw (d+1) l++[tabP d,pS 125])
def Dw(d:Nat):List Nd->List Pc
 | []=>[]
 | x::r=>tabP d::(stP d x++(nl::Dw d r))
end
def printL(l:List Nd):List UInt8:=Aq (Dw 0 l)
def RdA(x:List Pc):Prop:=∀r ks,Reads r ks->Reads (Aq x++r) (ktP x++ks)
def RdP(x:List Pc):Prop:=∀r ks,G9 Cd r->Reads r ks->Reads (Aq x++r) (ktP x++ks)
def HdP(x:List Pc):Prop:=∀r,G9 Cd (Aq x++r)
theorem RdA.p{x}(h:RdA x):RdP x:=fun r ks _ hr=>h r ks hr
theorem RdA.nil:RdA []:=fun _ _ h=>h
theorem RdA.app{a b}(ha:RdA a)(hb:RdA b):RdA (a++b):=fun r ks h=>by rw[Bg,Bf,List.append_assoc,List.append_assoc];exact ha _ _ (hb r ks h)
theorem RdA.appP{a b}(ha:RdA a)(hb:RdP b):RdP (a++b):=fun r ks hn h=>by rw[Bg,Bf,List.append_assoc,List.append_assoc];exact ha _ _ (hb r ks hn h)
theorem RdP.appA{a b}(ha:RdP a)(hh:HdP b)(hb:RdA b):RdA (a++b):=fun r ks h=>by rw[Bg,Bf,List.append_assoc,List.append_assoc];exact ha _ _ (hh r) (hb r ks h)
theorem RdP.app{a b}(ha:RdP a)(hh:HdP b)(hb:RdP b):RdP (a++b):=fun r ks hn h=>by rw[Bg,Bf,List.append_assoc,List.append_assoc];exact ha _ _ (hh r) (hb r ks hn h)
theorem RdA.sign{c}(h:Qy c=true):RdA [pS c]:=fun _ _ hr=> .sign h hr
theorem RdA.gap{l}(h:∀c∈l,isGap c=true):RdA [.g l]:=fun r ks hr=>by
 show Reads ((l++[])++r) ks;rw[List.append_nil];exact .gaps h hr
theorem RdA.sp:RdA [sp]:=.gap (by decide)
theorem RdA.nl:RdA [nl]:=.gap (by decide)
theorem RdA.tab(d):RdA [tabP d]:=.gap fun c hc=>by rw[(List.mem_replicate.1 hc).2];decide
theorem RdA.eqs:RdA [pS 61,Go.Proofs.YtlbbbapiklendaaGreatDoor.sp]:=fun _ _ hr=> .eq (.cons (by decide)) (.gap (by decide) hr)
theorem RdP.word{s}(h:Iz s):RdP [pW s]:=fun r ks hn hr=>by
 show Reads ((s++[])++r) _;rw[List.append_nil];exact .word h hn hr
theorem RdP.num{s}(h:NumL s):RdP [.t 2 s s]:=fun r ks hn hr=>by
 show Reads ((s++[])++r) _;rw[List.append_nil];refine .num h (fun c t e=>?_) hr;have:=hn c t e;unfold Cd at this;simp only[Bool.or_eq_false_iff] at this;exact this.2
theorem RdA.text{s}(h:K8 s):RdA [.t 3 s (quoteL s)]:=fun r ks hr=>by
 show Reads ((quoteL s++[])++r) _;rw[List.append_nil];exact .quote h hr
theorem HdP.cons{p x c t}(h:p.raw=c::t)(hc:Cd c=false):HdP (p::x):=fun r=>by
 unfold Aq;rw[List.flatMap_cons,h];exact .cons hc
theorem HdP.sign{c x}(h:Cd c=false):HdP (pS c::x):=.cons (t:=[]) rfl h
theorem HdP.sp(x):HdP (sp::x):=.cons (c:=32) (t:=[]) rfl (by decide)
theorem HdP.app{a b}(h:HdP a):HdP (a++b):=fun r=>by rw[Bg,List.append_assoc];exact h _
def opsL:List (List UInt8):=[[61,61],[33,61],[105,110],[43]]
theorem RdA.op{t}(h:t∈opsL):RdA [Go.Proofs.YtlbbbapiklendaaGreatDoor.sp,opK t,Go.Proofs.YtlbbbapiklendaaGreatDoor.sp]:=by
 intro r ks hr;have h1:Reads (32::r) ks:=.gap (by decide) hr;unfold opsL at h;simp only[List.mem_cons,List.not_mem_nil,or_false] at h;rcases h with rfl|rfl|rfl|rfl
 ·exact .gap (by decide) (.two (.inl rfl) h1)
 ·exact .gap (by decide) (.two (.inr rfl) h1)
 ·exact .gap (by decide) (Reads.word (l:=[105,110]) ⟨105,[110],rfl,by decide,by decide⟩ (.cons (by decide)) h1)
 ·exact .gap (by decide) (.sign (by decide) h1)
theorem RdP.joinGo{sep}(hs:∀i,1<=i->RdA (sep i)/\HdP (sep i)):∀(l:List (List Pc)) (i:Nat),1<=i->(∀x∈l,RdP x)->RdP (A6 sep i l)/\(l≠[]->HdP (A6 sep i l))
 | [],_,_,_=>⟨RdA.nil.p,fun h=>absurd rfl h⟩
 | x::t,i,hi,h=>by
  have hx:=h x (lmS ..);obtain⟨h1,h2⟩:=RdP.joinGo hs t (i+1) (by omega) fun y hy=>h y (lmO _ hy);rw[A6];refine⟨(hs i hi).1.appP ?_,fun _=>(hs i hi).2.app⟩;cases t with
  | nil=>rw[A6,List.append_nil];exact hx
  | cons y r=>exact hx.app (h2 (by simp)) h1
theorem RdP.join{sep}(h0:sep 0=[])(hs:∀i,1<=i->RdA (sep i)/\HdP (sep i)){l}(h:∀x∈l,RdP x):RdP (A6 sep 0 l):=by
 cases l with
 | nil=>exact RdA.nil.p
 | cons x t=>
  obtain⟨h1,h2⟩:=RdP.joinGo hs t 1 (nlr _) fun y hy=>h y (lmO _ hy);rw[A6,h0,List.nil_append];cases t with
  | nil=>rw[A6,List.append_nil];exact h x (lmS ..)
  | cons y r=>exact(h x (lmS ..)).app (h2 (by simp)) h1
theorem T1(i)(hi:1<=i):RdA (En i)/\HdP (En i):=by
 unfold En;rw[if_neg (by omega)];exact⟨(RdA.sign (c:=44) (by decide)).app .sp,.sign (by decide)⟩
theorem sepD_rd(i)(hi:1<=i):RdA (Fl i)/\HdP (Fl i):=by
 unfold Fl;rw[if_neg (by omega)];split
 ·exact⟨(RdA.sign (c:=58) (by decide)).app .sp,.sign (by decide)⟩
 ·exact⟨(RdA.sign (c:=44) (by decide)).app .sp,.sign (by decide)⟩
theorem sepO_rd{t}(h:t∈opsL)(i)(hi:1<=i):RdA (G8 t i)/\HdP (G8 t i):=by
 unfold G8;rw[if_neg (by omega)];exact⟨.op h,.sp _⟩
theorem RdP.within{a b}(ha:Qy a=true)(hb:Qy b=true)(hw:Cd b=false){x}(h:RdP x):RdA (pS a::(x++[pS b])):=(RdA.sign ha).app (h.appA (.sign hw) (.sign hb))
def Eg(l:List UInt8):Prop:=Iz l/\reservedL.contains l=false
mutual
def okX(d:Nat):Nd->Prop
 | .mk k t _ _ l=>
  if k=9 then Eg t.data.toList/\l=[]
  else if k=10 then NumL t.data.toList/\l=[]
  else if k=11 then K8 t.data.toList/\l=[]
  else if k=12 then t.data.toList=[]/\1<=d/\Ea (d - 1) l
  else if k=13 then t.data.toList=[]/\1<=d/\Fg (d - 1) l
  else if k=14 then Eg t.data.toList/\1<=d/\Jk (d - 1) l
  else if k=16 then(if t.data.toList=notW then 1<=d/\l.length=1 else t.data.toList∈opsL/\l.length=2)/\Hh (if t.data.toList=notW then d - 1 else d) t.data.toList 0 l
  else False
def Ea(d:Nat):List Nd->Prop
 | []=>True
 | x::r=>okX d x/\Ea d r
def Fg(d:Nat):List Nd->Prop
 | []=>True
 | [_]=>False
 | x::y::r=>x.kind=11/\okX d x/\okX d y/\Fg d r
def Jk(d:Nat):List Nd->Prop
 | []=>True
 | x::r=>okA d x/\Jk d r
def okA(d:Nat):Nd->Prop
 | .mk k t _ _ l=>k=15/\(t.data.toList=[]\/Eg t.data.toList)/\l.length=1/\Ea d l
def Hh(d:Nat)(t:List UInt8):Nat->List Nd->Prop
 | _,[]=>True
 | i,x::r=>(if C6 t i x=true then 1<=d/\okX (d - 1) x else okX d x)/\Hh d t (i+1) r
end
theorem opsL_not{t}(h:t∈opsL):t≠notW:=by
 rintro rfl;exact absurd h (by decide)
theorem RdP.brk{b x}(h:RdP x):RdP (brk b x):=by
 unfold Go.Proofs.YtlbbbapiklendaaGreatDoor.brk;split
 ·exact(h.within (a:=40) (b:=41) (by decide) (by decide) (by decide)).p
 ·exact h
mutual
theorem E7(d:Nat):∀n,okX d n->RdP (exP n)
 | .mk k t a b l,h=>by
  rw[okX] at h;rw[exP];by_cases h9:k=9
  ·subst h9;rw[if_pos rfl] at h;exact RdP.word h.1.1
  rw[if_neg h9] at h;by_cases h10:k=10
  ·subst h10;rw[if_pos rfl] at h;exact RdP.num h.1
  rw[if_neg h10] at h;by_cases h11:k=11
  ·subst h11;rw[if_pos rfl] at h;rw[if_pos rfl];exact(RdA.text h.1).p
  rw[if_neg h11] at h;rw[if_neg h11];by_cases h12:k=12
  ·rw[if_pos h12] at h;rw[if_pos h12];exact((RdP.join rfl T1 (Sn (d - 1) l h.2.2)).within (a:=91) (b:=93) (by decide) (by decide) (by decide)).p
  rw[if_neg h12] at h;rw[if_neg h12];by_cases h13:k=13
  ·rw[if_pos h13] at h;rw[if_pos h13];exact((RdP.join rfl sepD_rd (Sq (d - 1) l h.2.2)).within (a:=123) (b:=125) (by decide) (by decide) (by decide)).p
  rw[if_neg h13] at h;rw[if_neg h13];by_cases h14:k=14
  ·rw[if_pos h14] at h;rw[if_pos h14];exact((RdP.word h.1.1).appA (b:=pS 40::(A6 En 0 (arPs l)++[pS 41])) (.sign (by decide)) ((RdP.join rfl T1 (Sr (d - 1) l h.2.2)).within (a:=40) (b:=41) (by decide) (by decide) (by decide))).p
  rw[if_neg h14] at h;rw[if_neg h14];by_cases h16:k=16
  ·rw[if_pos h16] at h;rw[if_pos h16];by_cases hn:t.data.toList=notW
   ·rw[if_pos hn,if_pos hn] at h;rw[if_pos hn];have h1:RdA [pW notW,sp]:=(RdP.word (s:=notW) ⟨110,[111,116],rfl,by decide,by decide⟩).appA (.sp _) .sp;exact h1.appP (reads_on _ _ l h.2)
   ·rw[if_neg hn,if_neg hn] at h;rw[if_neg hn];exact RdP.join rfl (sepO_rd h.1.1) (Ss d _ 0 l h.2)
  ·rw[if_neg h16] at h;exact h.elim
theorem Sn(d:Nat):∀l,Ea d l->∀x∈exPs l,RdP x
 | [],_,x,hx=>by rw[exPs] at hx;cases hx
 | n::r,h,x,hx=>by
  rw[Ea] at h;rw[exPs] at hx;rcases List.mem_cons.1 hx with rfl|hx
  ·exact E7 d n h.1
  ·exact Sn d r h.2 x hx
theorem Sq(d:Nat):∀l,Fg d l->∀x∈exPs l,RdP x
 | [],_,x,hx=>by rw[exPs] at hx;cases hx
 | [_],h,_,_=>by rw[Fg] at h;exact h.elim
 | n::m::r,h,x,hx=>by
  rw[Fg] at h;rw[exPs,exPs] at hx;rcases List.mem_cons.1 hx with rfl|hx
  ·exact E7 d n h.2.1
  ·rcases List.mem_cons.1 hx with rfl|hx
   ·exact E7 d m h.2.2.1
   ·exact Sq d r h.2.2.2 x hx
theorem Sr(d:Nat):∀l,Jk d l->∀x∈arPs l,RdP x
 | [],_,x,hx=>by rw[arPs] at hx;cases hx
 | n::r,h,x,hx=>by
  rw[Jk] at h;rw[arPs] at hx;rcases List.mem_cons.1 hx with rfl|hx
  ·exact reads_ar d n h.1
  ·exact Sr d r h.2 x hx
theorem reads_ar(d:Nat):∀n,okA d n->RdP (arP n)
 | .mk k t a b l,h=>by
  rw[okA] at h;rw[arP];unfold nameP;split
  ·exact K1 d l h.2.2.2
  ·rename_i hne
   have hn:Eg t.data.toList:=h.2.1.resolve_left hne;have h1:RdA [pW t.data.toList,sp,pS 61,sp]:=(RdP.word hn.1).appA (b:=[sp,pS 61,sp]) (.sp _) (RdA.sp.app .eqs);exact h1.appP (K1 d l h.2.2.2)
theorem K1(d:Nat):∀l,Ea d l->RdP (fiP l)
 | [],_=>RdA.nil.p
 | x::_,h=>by rw[Ea] at h;rw[fiP];exact E7 d x h.1
theorem reads_on(d:Nat)(t:List UInt8):∀l,Hh d t 0 l->RdP (onP l)
 | [],_=>RdA.nil.p
 | x::_,h=>by
  rw[Hh] at h;rw[onP];refine RdP.brk ?_;have h:=h.1;split at h
  ·exact E7 _ x h.2
  ·exact E7 _ x h
theorem Ss(d:Nat)(t:List UInt8):∀i l,Hh d t i l->∀x∈opPs t i l,RdP x
 | _,[],_,x,hx=>by rw[opPs] at hx;cases hx
 | i,n::r,h,x,hx=>by
  rw[Hh] at h;rw[opPs] at hx;rcases List.mem_cons.1 hx with rfl|hx
  ·refine RdP.brk ?_;have h:=h.1;split at h
   ·exact E7 _ n h.2
   ·exact E7 _ n h
  ·exact Ss d t (i+1) r h.2 x hx
end
end Go.Proofs.YtlbbbapiklendaaGreatDoor
