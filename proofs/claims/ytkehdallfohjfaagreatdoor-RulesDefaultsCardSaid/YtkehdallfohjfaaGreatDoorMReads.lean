/-
  What the lexer reads in a text that is put together of tokens and gaps:kinds and texts,places left out. No program in sight. (And what it stands on.)
-/
import Derived.Handy
import Derived.Test.YtkehdallfohjfaaGreatDoorMOpPlain
import Derived.Test.YtkehdallfohjfaaGreatDoorReplRun
import Derived.Test.YtkehdallfohjfaaGreatDoorMEvalPlain
import Derived.Test.YtkehdallfohjfaaGreatDoorMRefNumB
namespace Go.Proofs.YtkehdallfohjfaaGreatDoor
open Go Go.RowKit
open List renaming getElem?_map->lgP,length_cons->lnC,mem_cons_self->lmS,mem_cons_of_mem->lmO
open Nat renaming le_refl->nlr,le_trans->nlt,zero_le->nlz
open Go.Lib renaming hid->Lq7
open Go.RowKit.Below renaming refl->bRf
set_option maxRecDepth 100000
set_option maxHeartbeats 16000000
theorem Ph(b n)(hn:n<=b)(ob oc s w)(hnw:n<=w.heap.size)(h:RB w b 0 0 .nilIface (.slice (some ⟨ob,0,none⟩) 6 oc))(hs:B9 w (some ⟨ob,0,none⟩) C6)(hob:ob≠b)(hz:s.size<=65536):
  Calls Tryz.prog 68 #[.pointer (some ⟨b,0,none⟩),.string s] w (fun e w'=>∃o:ByteArray,e = .returned (.string o)/\o.data.toList=escL s.data.toList/\Below n w w'):=by
 have HO:=Lq7 (once_any b n hn ob oc w hnw h hs hob);have hmf:∀(fn:Fn) (first cap:Array Value) (w:World),(Instr.makeFunc fn first cap).run Tryz.prog w = .ok (.func fn first cap) w:=fun _ _ _ _=>rfl;go_enter Tryz.func68,Tryz.ntmps68;go_wp2_with fail;refine HO.out.mono ?_;rintro e w1 ⟨rfl,rb,aB,aD,hrb⟩;have HR:=Lq7 (Pl s rb _ w1 aD hz);have Hb1:=Lq7 aB;have hsz:=aB.size;obtain⟨-,q0,q1,q2,q3,q4,-⟩:=Aa hrb;go_wp2_with fail;refine HR.out.mono ?_;rintro e w2 ⟨o,rfl,ho,aC⟩;go_wp2_with fail;go_ret;exact⟨o,rfl,ho,Hb1.out.trans (aC.mono (nlt hnw hsz))⟩
def PNewRepl(w:World)(e:Ending)(w':World):Prop:=∃b ob oc,e = .returned (.pointer (some ⟨b,0,none⟩))/\Below w.heap.size w w'/\w.heap.size<=b/\RB w' b 0 0 .nilIface (.slice (some ⟨ob,0,none⟩) 6 oc)/\B9 w' (some ⟨ob,0,none⟩) C6/\ob≠b
theorem Pi(ab cap w)(hs:B9 w (some ⟨ab,0,none⟩) C6):
  Calls Tryz.prog 67 #[.slice (some ⟨ab,0,none⟩) 6 cap] w (PNewRepl w):=by
 obtain⟨i0,hi,hz0,hz1,hz2⟩:=info_parts infoStr;have aA:∀(j:Nat) u,(C6.map Value.string)[j]? = some u->w.cell? ((⟨ab,0,none⟩:Addr).add j)=some u:=fun j u hj=>by
  rw[lgP] at hj;cases hx:C6[j]? with
  | none=>rw[hx] at hj;cases hj
  | some x=>
   rw[hx] at hj;cases hj;obtain⟨b',off,e,hc⟩:=hs j x hx;cases e;have aE:((⟨ab,0,none⟩:Addr).add j)=⟨ab,0+j,none⟩:=by unfold Addr.add;split<;>simp_all
   rw[aE];exact hc
 have Hn:=Lq7 aA;go_enter Tryz.func67,Tryz.ntmps67
 go_wp2_with (at_builtin;refine Ca rfl _ _ 23 rfl w.heap.size 9 i0 (.string ByteArray.empty) 1 16 Tryz.underlying23 hi hz0 hz1 hz2 rfl (by decide) (.slice none 0 0) 0 [] rfl ⟨rfl,.inl ⟨rfl,rfl⟩⟩ ⟨ab,0,none⟩ 6 cap (C6.map Value.string) rfl rfl Hn.out ?_ ?_ ?_ ?_ ?_)
 ·intro u hu;obtain⟨x,-,rfl⟩:=List.mem_map.1 hu;rfl
 ·unfold maxLen;decide
 ·decide
 ·exact nlr _
 intro v w1 hown hg _;have hown':OwnS w1 w.heap.size v C6:=hown;have hsh:=hown';obtain⟨h1,⟨-,h2⟩|⟨ob,oc,cur,rfl,h3,h4,-⟩⟩:=hsh
 ·cases h2
 have aF:=hown'.strsAt;obtain⟨a,c,he,aF,-⟩:=aF;obtain rfl:a=some ⟨ob,0,none⟩:=(by injection he with e1;exact e1.symm);have hobl:=(Array.getElem?_eq_some_iff.1 h4).1;have aB:Below w.heap.size w w1:=Cw (v:=.slice none 0 0) hg (fun g e=>by cases e) (nlr _);have H1:=Lq7 (And.intro aB aF);go_wp2_with fail;have aC:Below w1.heap.size w1 (w1.alloc (.cells #[.int .u32 0,.int .i32 0,.int .u32 0,.nilIface,.slice (some ⟨ob,0,none⟩) 6 oc] 155)):=(bRf _ w1).alloc (nlr _) _;go_ret;exact⟨_,ob,oc,rfl,H1.out.1.trans (aC.mono H1.out.1.size),H1.out.1.size,heap_alloc_new w1 _,H1.out.2.below aC,by omega⟩
def Gt(c:UInt8):Bool:=decide (c.toNat<32/\c.toNat≠10\/c.toNat=127)
def quoteL(l:List UInt8):List UInt8:=if l.any Gt then [] else 34::escL l++[34]
theorem M1{l k}(h:k<l.length)(hb:Gt l[k]=true):quoteL l=[]:=by
 unfold quoteL;rw[if_pos (List.any_eq_true.2 ⟨l[k],List.getElem_mem h,hb⟩)]
theorem quote_ok{l}(h:∀j (hj:j<l.length),Gt l[j]=false):quoteL l=34::escL l++[34]:=by
 unfold quoteL;rw[if_neg];intro ha;obtain⟨x,hx,hb⟩:=List.any_eq_true.1 ha;obtain⟨j,hj,rfl⟩:=List.mem_iff_getElem.1 hx;rw[h j hj] at hb;cases hb
theorem M2(s w)(hz:s.size<=65536):
  Calls Tryz.prog 40 #[.string s] w (Jq (quoteL s.data.toList) w):=by
 go_enter Tryz.func40,Tryz.ntmps40;go_wp2_with fail
 go_loop [6] (fun i=>∃k:Nat,i = .int .i64 k/\k<=s.size/\Hid (∀j (hj:j<s.data.toList.length),j<k->Gt s.data.toList[j]=false)) (fun i=>s.size-(intOf i).toNat)
 case atStart=>exact⟨0,rfl,nlz _,Lq7 (fun j _ h=>absurd h (Nat.not_lt_zero _))⟩
 case round=>
  obtain⟨k,rfl,hk,aF⟩:=hrel;by_cases hlt:k<s.size
  ·have hkl:k<s.data.toList.length:=(by rw[Av];exact hlt);have aB:Hid (Gt s[k]=true->quoteL s.data.toList=[]):=Lq7 (fun h=>M1 hkl h);have aA:Hid (Gt s[k]=false->∀j (hj:j<s.data.toList.length),j<k+1->Gt s.data.toList[j]=false):=Lq7 (fun h j hj hjk=>by
    rcases Nat.lt_succ_iff_lt_or_eq.1 hjk with h1|h1
    ·exact aF.out j hj h1
    ·subst h1;exact h)
   by_cases h1:(s[k].toNat:Int)<32
   ·by_cases h2:(s[k].toNat:Int)=10
    ·have h2b:((s[k].toNat:Int) != 10)=false:=(by simp[h2]);have aG:((s[k].toNat:Int)==127)=false:=(by rw[h2];rfl);have Hn:=Lq7 (aA.out (by unfold Gt;rw[decide_eq_false];omega));go_wp2_with fail;go_round
     case rel=>exact⟨k+1,by go_num,by omega,Hn⟩
     case measure=>simp only[intOf];omega
    ·have h2b:((s[k].toNat:Int) != 10)=true:=(by simpa using h2);have Hn:=Lq7 (aB.out (by unfold Gt;rw[decide_eq_true];omega));go_wp2_with fail;go_ret;exact⟨_,rfl,Hn.out.symm,bRf _ _⟩
   ·by_cases h3:(s[k].toNat:Int)=127
    ·have aG:((s[k].toNat:Int)==127)=true:=(by rw[h3];rfl);have Hn:=Lq7 (aB.out (by unfold Gt;rw[decide_eq_true];omega));go_wp2_with fail;go_ret;exact⟨_,rfl,Hn.out.symm,bRf _ _⟩
    ·have aG:((s[k].toNat:Int)==127)=false:=(by simpa using h3);have Hn:=Lq7 (aA.out (by unfold Gt;rw[decide_eq_false];omega));go_wp2_with fail;go_round
     case rel=>exact⟨k+1,by go_num,by omega,Hn⟩
     case measure=>simp only[intOf];omega
  ·have Hq:Hid (quoteL s.data.toList=34::escL s.data.toList++[34]):=Lq7 (quote_ok fun j hj=>aF.out j hj (by have:=Av s;omega));have aC:B9 (w.alloc (.cells #[.string ⟨#[34]⟩,.string ⟨#[92,34]⟩,.string ⟨#[92]⟩,.string ⟨#[92,92]⟩,.string ⟨#[10]⟩,.string ⟨#[92,110]⟩] 9)) (some ⟨w.heap.size,0,none⟩) C6:=fun j x hj=>by
    refine⟨w.heap.size,0,rfl,?_⟩;obtain⟨-,hc,-⟩:=A3 (heap_alloc_new w (.cells #[.string ⟨#[34]⟩,.string ⟨#[92,34]⟩,.string ⟨#[92]⟩,.string ⟨#[92,92]⟩,.string ⟨#[10]⟩,.string ⟨#[92,110]⟩] 9));rw[Nat.zero_add,hc,show(#[Value.string ⟨#[34]⟩,.string ⟨#[92,34]⟩,.string ⟨#[92]⟩,.string ⟨#[92,92]⟩,.string ⟨#[10]⟩,.string ⟨#[92,110]⟩]:Array Value)=(C6.map Value.string).toArray from rfl,List.getElem?_toArray,lgP,hj];rfl
   have HN:=Lq7 (Pi w.heap.size 6 _ aC);have aD:Hid (Below w.heap.size w (w.alloc (.cells #[.string ⟨#[34]⟩,.string ⟨#[92,34]⟩,.string ⟨#[92]⟩,.string ⟨#[92,92]⟩,.string ⟨#[10]⟩,.string ⟨#[92,110]⟩] 9))):=Lq7 ((bRf _ w).alloc (nlr _) _);go_wp2_with fail;refine HN.out.mono ?_;rintro e w1 ⟨b,ob,oc,rfl,hb1,hbl,hrb,aC,hob⟩;have aH:=Lq7 (aD.out.trans (hb1.mono aD.out.size));have HR:=Lq7 (Ph b w.heap.size (nlt aD.out.size hbl) ob oc s w1 aH.out.size hrb aC hob hz);go_wp2_with fail;refine HR.out.mono ?_;rintro e w2 ⟨o,rfl,ho,hb2⟩;have hel:=escL_len s.data.toList;have hen:=Kl s.data.toList;rw[<-ho,Av,Av] at hel;rw[Av] at hen;have aE:Hid ((⟨#[34]⟩++o++⟨#[34]⟩:ByteArray).data.toList=quoteL s.data.toList):=Lq7 (by
    rw[Hq.out,ByteArray.data_append,ByteArray.data_append,Array.toList_append,Array.toList_append,ho];rfl)
   have Hb2:=Lq7 (aH.out.trans hb2);go_wp2_with fail;go_ret;exact⟨_,rfl,aE.out,Hb2.out⟩
theorem S1(s:ByteArray)(k:Nat)(h:k<s.size):(s.extract k (k+1)).data.toList=[s[k]]:=by
 rw[Lib.extract_data,show k+1-k=1 by omega,List.drop_eq_getElem_cons (by rw[Av];exact h)];rfl
theorem Q0(l c):escL (l++[c])=escL l++esc1 c:=by simp[escL]
theorem esc_told(n):escB n=decide (n=10\/n=34\/n=92):=by
 unfold escB;by_cases h1:n=34
 ·subst h1;rfl
 ·by_cases h2:n=92
  ·subst h2;rfl
  ·by_cases h3:n=10
   ·subst h3;rfl
   ·simp[h1,h2,h3]
def Fy(l:List UInt8):Prop:=∀x∈l,Gt x=false
theorem G9{l}(h:Fy l):quoteL l=34::escL l++[34]:=by
 unfold quoteL;rw[if_neg];intro ha;obtain⟨x,hx,hb⟩:=List.any_eq_true.1 ha;rw[h x hx] at hb;cases hb
theorem esc_len(l):(escL l).length<=2*l.length:=by
 have h1:=escL_len l;have h2:Ce l<=l.length:=List.countP_le_length;omega
theorem N2(s w)(hs:s.size<=65536):
  Calls Tryz.prog 19 #[.string s] w (Jq (quoteL s.data.toList) w):=by
 go_enter Tryz.func19,Tryz.ntmps19;go_wp2_with fail
 go_loop [3,4] (fun v i=>∃(k:Nat) (o:ByteArray),i = .int .i64 k/\k<=s.size/\v = .string o/\Hid (o.data.toList=34::escL (s.data.toList.take k))/\Hid (Fy (s.data.toList.take k))) (fun _ i=>s.size-(intOf i).toNat)
 case atStart=>exact⟨0,_,rfl,nlz _,rfl,Lq7 rfl,Lq7 (fun x hx=>by cases hx)⟩
 case round=>
  obtain⟨k,o,rfl,hk,rfl,ho,aG⟩:=hrel;have hos:o.size<=131073:=by
   have h1:o.data.toList.length=o.size:=rfl;rw[ho.out,lnC] at h1;have h2:=esc_len (s.data.toList.take k);rw[List.length_take] at h2;omega
  by_cases hlt:k<s.size
  ·have Hk:=Lq7 (F0 s k hlt);have aF:Hid (s.data.toList.take (k+1)=s.data.toList.take k++[s[k]]):=Lq7 (by rw[List.take_add_one,Hk.out];rfl);have aD:Hid (s[k]∈s.data.toList):=Lq7 (List.mem_of_getElem? Hk.out);have aA:Hid (Gt s[k]=false->∀z:ByteArray,z.data.toList=o.data.toList++esc1 s[k]->Hid (z.data.toList=34::escL (s.data.toList.take (k+1)))/\Hid (Fy (s.data.toList.take (k+1)))):=Lq7 (fun hb z hz=>by
    rw[aF.out,Q0,hz,ho.out];refine⟨Lq7 (by simp),Lq7 (fun x hx=>?_)⟩;rcases List.mem_append.1 hx with h|h
    ·exact aG.out x h
    ·rw[List.mem_singleton] at h;rw[h];exact hb)
   have aB:=Lq7 (S1 s k hlt);clear ho aG;have hcN:(s[k].toNat:Int)=((s[k].toNat:Nat):Int):=rfl;have aC:Hid (escB s[k].toNat=decide (s[k].toNat=10\/s[k].toNat=34\/s[k].toNat=92)):=Lq7 (esc_told _);by_cases h10:((s[k].toNat:Nat):Int)=10
   ·have hc:s[k]=10:=UInt8.toNat_inj.1 (show(s[k]).toNat=10 by omega);have e1:(((s[k].toNat:Nat):Int)==10)=true:=(by rw[beq_iff_eq];exact h10);have Hs:=Lq7 (aA.out (by unfold Gt;rw[hc];decide) (o++⟨#[92,110]⟩) (by rw[Bg,hc];rfl));clear hc aA aB aC;clear aD aF Hk;go_wp2_with fail;go_round
    case rel=>exact⟨k+1,_,by go_num,by omega,rfl,Hs.out.1,Hs.out.2⟩
    case measure=>simp only[intOf];omega
   ·have e1:(((s[k].toNat:Nat):Int)==10)=false:=(by rw[beq_eq_false_iff_ne];exact h10);by_cases hbad:((s[k].toNat:Nat):Int)<32\/((s[k].toNat:Nat):Int)=127
    ·have Hq:Hid (quoteL s.data.toList=[]):=Lq7 (M1 (k:=k) (by rw[Av];exact hlt) (by
      have:s.data.toList[k]'(by rw[Av];exact hlt)=s[k]:=rfl;rw[this];unfold Gt;rw[decide_eq_true_eq];omega))
     clear aA aB aC aD aF Hk;by_cases h32:((s[k].toNat:Nat):Int)<32
     ·go_wp2_with fail;go_ret;exact⟨_,rfl,Hq.out.symm,bRf _ w⟩
     ·have aE:((s[k].toNat:Nat):Int)=127:=(by omega);have e3:(((s[k].toNat:Nat):Int)==127)=true:=(by rw[beq_iff_eq];exact aE);go_wp2_with fail;go_ret;exact⟨_,rfl,Hq.out.symm,bRf _ w⟩
    ·have h32:¬((s[k].toNat:Nat):Int)<32:=fun h=>hbad (.inl h);have aE:¬((s[k].toNat:Nat):Int)=127:=fun h=>hbad (.inr h);have e3:(((s[k].toNat:Nat):Int)==127)=false:=(by rw[beq_eq_false_iff_ne];exact aE);have hb:Gt s[k]=false:=(by unfold Gt;rw[decide_eq_false_iff_not];omega);clear hbad;by_cases hq:((s[k].toNat:Nat):Int)=34\/((s[k].toNat:Nat):Int)=92
     ·have Hs:=Lq7 (aA.out hb ((o++⟨#[92]⟩)++s.extract k (k+1)) (by
       rw[Bg,Bg,aB.out];unfold esc1;rw[if_pos (by rw[aC.out,decide_eq_true_eq];omega),if_neg (by intro h;rw[h] at h10;exact h10 rfl)];simp))
      have hos2:(o++(⟨#[92]⟩:ByteArray)).size=o.size+1:=(by rw[ByteArray.size_append];rfl);have hex:(s.extract k (k+1)).size=1:=by
       have:(s.extract k (k+1)).data.toList.length=(s.extract k (k+1)).size:=rfl;rw[aB.out] at this;exact this.symm
      clear aA aB aC hb;by_cases aH:((s[k].toNat:Nat):Int)=34
      ·have e4:(((s[k].toNat:Nat):Int)==34)=true:=(by rw[beq_iff_eq];exact aH);clear aD aF Hk;go_wp2_with fail;go_round
       case rel=>exact⟨k+1,_,by go_num,by omega,rfl,Hs.out.1,Hs.out.2⟩
       case measure=>simp only[intOf];omega
      ·have e4:(((s[k].toNat:Nat):Int)==34)=false:=(by rw[beq_eq_false_iff_ne];exact aH);have aI:((s[k].toNat:Nat):Int)=92:=(by omega);have e5:(((s[k].toNat:Nat):Int)==92)=true:=(by rw[beq_iff_eq];exact aI);clear aD aF Hk;go_wp2_with fail;go_round
       case rel=>exact⟨k+1,_,by go_num,by omega,rfl,Hs.out.1,Hs.out.2⟩
       case measure=>simp only[intOf];omega
     ·have aH:¬((s[k].toNat:Nat):Int)=34:=fun h=>hq (.inl h);have aI:¬((s[k].toNat:Nat):Int)=92:=fun h=>hq (.inr h);have e4:(((s[k].toNat:Nat):Int)==34)=false:=(by rw[beq_eq_false_iff_ne];exact aH);have e5:(((s[k].toNat:Nat):Int)==92)=false:=(by rw[beq_eq_false_iff_ne];exact aI);have Hs:=Lq7 (aA.out hb (o++s.extract k (k+1)) (by
       rw[Bg,aB.out];unfold esc1;rw[if_neg (by rw[aC.out,decide_eq_true_eq];omega)]))
      have hex:(s.extract k (k+1)).size=1:=by
       have:(s.extract k (k+1)).data.toList.length=(s.extract k (k+1)).size:=rfl;rw[aB.out] at this;exact this.symm
      clear aA aB aC hb hq;clear aD aF Hk;go_wp2_with fail;go_round
      case rel=>exact⟨k+1,_,by go_num,by omega,rfl,Hs.out.1,Hs.out.2⟩
      case measure=>simp only[intOf];omega
  ·have aJ:s.data.toList.take k=s.data.toList:=List.take_of_length_le (by rw[Av];omega);rw[aJ] at ho aG;have Hq:=Lq7 (G9 aG.out);clear aJ aG;go_wp2_with fail;go_ret;exact⟨_,rfl,by rw[Hq.out,Bg,ho.out],bRf _ w⟩
abbrev KT:=Int×List UInt8
def Tok.kt(t:Tok):KT:=(t.kind,t.text.data.toList)
inductive Reads:List UInt8->List KT->Prop
 | nil:Reads [] []
 | gap {c:UInt8} {r:List UInt8} {ks:List KT} (hc:isGap c=true) (h:Reads r ks):Reads (c::r) ks
 | tok {l:List UInt8} {k:Int} {s:List UInt8} {n:Nat} {ks:List KT} (hl:l≠[]) (he:Bz l = .ok (k,s,n)) (hk:0<k) (h:Reads (l.drop n) ks):Reads l ((k,s)::ks)
theorem M3{c t}(h:isGap c=true):Bz (c::t) = .ok (0,[],runL isGap (c::t)):=by
 unfold Bz;rw[if_pos h]
theorem Sy{p c t}(h:p c=true):runL p (c::t)=runL p t+1:=by
 unfold runL;rw[List.takeWhile_cons_of_pos h,lnC]
theorem runL_not{p c t}(h:p c=false):runL p (c::t)=0:=by
 unfold runL;rw[List.takeWhile_cons_of_neg (by simp[h])];rfl
theorem Reads.ungap{l ks}(h:Reads l ks):Reads (l.drop (runL isGap l)) ks:=by
 induction h with
 | nil=>exact .nil
 | gap hc h ih=>rw[Sy hc,List.drop_succ_cons];exact ih
 | @tok l k s n ks hl he hk h ih=>
  have h0:runL isGap l=0:=by
   cases l with
   | nil=>exact absurd rfl hl
   | cons c t=>
    cases hg:isGap c with
    | false=>exact runL_not hg
    | true=>rw[M3 hg] at he;cases he;omega
  rw[h0,List.drop_zero];exact .tok hl he hk h
theorem reads_go(m):∀(l:List UInt8) (ks:List KT),l.length<=m->Reads l ks->∀f p,l.length<f->∃ts,Bt f p l = .ok ts/\ts.map Tok.kt=ks:=by
 induction m with
 | zero=>
  intro l ks hm h f p hf;obtain rfl:=List.length_eq_zero_iff.1 (Nat.le_zero.1 hm);cases h with
  | nil=>
   obtain⟨g,rfl⟩:∃g,f=g+1:=⟨f - 1,by have:=hf;omega⟩;exact⟨[],by simp[Bt],rfl⟩
  | tok hl=>exact absurd rfl hl
 | succ m ih=>
  intro l ks hm h f p hf;obtain⟨g,rfl⟩:∃g,f=g+1:=⟨f - 1,by omega⟩;have h0:=h;cases h with
  | nil=>exact⟨[],by simp[Bt],rfl⟩
  | @gap c r _ hc h=>
   have h1:=h0.ungap;have h2:=runL_pos (p:=isGap) (t:=r) hc;rw[lnC] at hm hf;obtain⟨ts,h3,h4⟩:=ih _ ks (by rw[List.length_drop,lnC];omega) h1 g (passL p ((c::r).take (runL isGap (c::r)))) (by rw[List.length_drop,lnC];omega);refine⟨ts,?_,h4⟩;rw[Bt,if_neg (by simp),M3 hc];simp only;rw[h3];simp
  | @tok _ k s n ks hl he hk h=>
   have h2:=Ic he;simp only at h2;obtain⟨ts,h3,h4⟩:=ih _ ks (by rw[List.length_drop];omega) h g (passL p (l.take n)) (by rw[List.length_drop];omega);refine⟨⟨k,⟨s.toArray⟩,p.1,p.2⟩::ts,?_,?_⟩
   ·rw[Bt,if_neg hl,he];simp only;rw[h3];simp only[if_pos hk]
   ·rw[List.map_cons,h4];rfl
theorem Reads.lex{l ks}(h:Reads l ks)(hl:l.length<=65536):∃ts,F7 l = .ok ts/\ts.map Tok.kt=ks:=by
 unfold F7;rw[if_neg (by omega)];exact reads_go _ l ks (nlr _) h _ _ (Nat.lt_succ_self _)
def G8(p:UInt8->Bool)(l:List UInt8):Prop:=∀c t,l=c::t->p c=false
theorem G8.cons{p c t}(h:p c=false):G8 p (c::t):=fun _ _ e=>by cases e;exact h
theorem Il{p a r}(ha:∀c∈a,p c=true)(hr:G8 p r):(a++r).takeWhile p=a:=by
 induction a with
 | nil=>
  cases r with
  | nil=>rfl
  | cons c t=>rw[List.nil_append,List.takeWhile_cons_of_neg (by simp[hr c t rfl])]
 | cons c t ih=>rw[List.cons_append,List.takeWhile_cons_of_pos (ha c (lmS ..)),ih fun x hx=>ha x (lmO _ hx)]
theorem Reads.app{a r k s ks}(ha:a≠[])(he:Bz (a++r) = .ok (k,s,a.length))(hk:0<k)(h:Reads r ks):Reads (a++r) ((k,s)::ks):=
 .tok (by simp[ha]) he hk (by rw[List.drop_left];exact h)
def WordL(l:List UInt8):Prop:=∃c t,l=c::t/\C1 c=true/\∀x∈l,Cm x=true
theorem Qx{c}(h:C1 c=true):isGap c=false/\c≠35:=by
 unfold C1 at h;simp only[Bool.or_eq_true,Bool.and_eq_true,decide_eq_true_eq,beq_iff_eq] at h
 constructor
 ·unfold isGap;simp only[Bool.or_eq_false_iff,beq_eq_false_iff_ne];omega
 ·rintro rfl;rcases h with (h|h)|h<;>simp at h
theorem Qy{l r}(hl:WordL l)(hr:G8 Cm r):Bz (l++r) = .ok (1,l,l.length):=by
 obtain⟨c,t,rfl,hc,ha⟩:=hl;have h1:=Il ha hr;obtain⟨h2,h3⟩:=Qx hc;rw[List.cons_append] at h1 |-;unfold Bz;rw[if_neg (by simp[h2]),if_neg h3,if_pos hc];unfold runL;rw[h1]
theorem Reads.word{l r ks}(hl:WordL l)(hr:G8 Cm r)(h:Reads r ks):Reads (l++r) ((1,l)::ks):=by
 have he:=Qy hl hr;obtain⟨c,t,rfl,-⟩:=hl;exact .app (by simp) he (by decide) h
theorem Sz{c}(h:A9 c=true):isGap c=false/\c≠35/\C1 c=false:=by
 obtain⟨h1,h2⟩:=E9 h;refine⟨?_,?_,?_⟩
 ·unfold isGap;simp only[Bool.or_eq_false_iff,beq_eq_false_iff_ne];omega
 ·rintro rfl;simp at h1
 ·unfold C1;simp only[Bool.or_eq_false_iff,Bool.and_eq_false_iff,decide_eq_false_iff_not,beq_eq_false_iff_ne];omega
def NumL(l:List UInt8):Prop:=l≠[]/\(∀c∈l,A9 c=true)/\¬(1<l.length/\l.head? = some 48)/\natOf l<=9223372036854775807
theorem S0{l r}(hl:NumL l)(hr:G8 A9 r):Bz (l++r) = .ok (2,l,l.length):=by
 obtain⟨h0,hd,hz,hm⟩:=hl;cases l with
 | nil=>exact absurd rfl h0
 | cons c t=>
  have h1:=Il hd hr;obtain⟨h2,h3,h4⟩:=Sz (hd c (lmS ..));have hz':¬(1<(c::t).length/\(c::(t++r)).head? = some 48):=hz;rw[List.cons_append] at h1 |-;unfold Bz;rw[if_neg (by simp[h2]),if_neg h3,if_neg (by simp[h4]),if_pos (hd c (lmS ..))];unfold C7 runL;rw[h1,if_neg hz',if_neg (by omega)]
theorem Reads.num{l r ks}(hl:NumL l)(hr:G8 A9 r)(h:Reads r ks):Reads (l++r) ((2,l)::ks):=
 .app hl.1 (S0 hl hr) (by decide) h
theorem J7(r):∀(l:List UInt8),Fy l->By (escL l++34::r)=some (l,(escL l).length+1)
 | [],_=>by show By (34::r)=_;rw[Cc,if_pos rfl];rfl
 | c::t,h=>by
  have ih:=J7 r t fun x hx=>h x (lmO _ hx);have hb:=h c (lmS ..);have hc:escL (c::t)=esc1 c++escL t:=(by unfold escL;rw[List.flatMap_cons]);rw[hc,List.append_assoc];unfold esc1;by_cases he:escB c.toNat=true
  ·rw[if_pos he];have h3:c=34\/c=92\/c=10:=by
    unfold escB at he;simp only[Bool.or_eq_true,beq_iff_eq] at he;rcases he with (he|he)|he
    ·exact .inl (UInt8.toNat_inj.1 he)
    ·exact .inr (.inl (UInt8.toNat_inj.1 he))
    ·exact .inr (.inr (UInt8.toNat_inj.1 he))
   rcases h3 with rfl|rfl|rfl <;>
   ·rw[List.cons_append,List.cons_append,List.nil_append,Cc,if_neg (by decide),if_neg (by decide),if_pos rfl];simp only;rw[ih];simp[Er]
  ·rw[if_neg he,List.cons_append,List.nil_append,Cc];have h1:c≠34:=(by rintro rfl;exact he rfl);have h2:c≠92:=(by rintro rfl;exact he rfl);have h10:c≠10:=(by rintro rfl;exact he rfl);unfold Gt at hb;rw[decide_eq_false_iff_not] at hb;have h3:¬(c<32\/c=127):=by
    rintro(h|rfl)
    ·have h4:c.toNat<32:=UInt8.lt_iff_toNat_lt.1 h;exact hb (.inl ⟨h4,fun e=>h10 (UInt8.toNat_inj.1 e)⟩)
    ·exact hb (.inr rfl)
   rw[if_neg h1,if_neg h3,if_neg h2,ih];simp
theorem Pg{l r}(hl:Fy l):Bz (quoteL l++r) = .ok (3,l,(quoteL l).length):=by
 rw[G9 hl];simp only[List.cons_append,List.append_assoc,List.nil_append];unfold Bz;rw[if_neg (by decide),if_neg (by decide),if_neg (by decide),if_neg (by decide),if_pos rfl,J7 r l hl];simp
theorem Reads.quote{l r ks}(hl:Fy l)(h:Reads r ks):Reads (quoteL l++r) ((3,l)::ks):=
 .app (by rw[G9 hl];simp) (Pg hl) (by decide) h
def sign1(c:UInt8):Bool:=c∈([43,40,41,91,93,123,125,44,58,59]:List UInt8)
theorem Qz{c}(h:sign1 c=true):isGap c=false/\c≠35/\C1 c=false/\A9 c=false/\c≠34/\c≠61/\c≠33:=by
 unfold sign1 at h;simp only[List.mem_cons,List.not_mem_nil,or_false,decide_eq_true_eq] at h;rcases h with rfl|rfl|rfl|rfl|rfl|rfl|rfl|rfl|rfl|rfl<;>decide
theorem Ja{c x y:UInt8}{r}:(c::r).take 2=[x,y]↔c=x/\∃t,r=y::t:=by
 cases r with
 | nil=>simp
 | cons d t=>simp
theorem Reads.sign{c r ks}(hc:sign1 c=true)(h:Reads r ks):Reads (c::r) ((4,[c])::ks):=by
 obtain⟨h1,h2,h3,h4,h5,h6,h7⟩:=Qz hc;refine Reads.app (a:=[c]) (by simp) ?_ (by decide) h;show Bz (c::r) = .ok (4,[c],1);unfold Bz;rw[if_neg (by simp[h1]),if_neg h2,if_neg (by simp[h3]),if_neg (by simp[h4]),if_neg h5,if_neg (by rw[Ja,Ja];rintro(h|h);exact h6 h.1;exact h7 h.1),if_pos];unfold sign1 at hc;simp only[decide_eq_true_eq] at hc;exact lmO _ hc
theorem Reads.eq{r ks}(hr:G8 (· == 61) r)(h:Reads r ks):Reads (61::r) ((4,[61])::ks):=by
 refine Reads.app (a:=[61]) (by simp) ?_ (by decide) h;show Bz (61::r) = .ok (4,[61],1);unfold Bz;rw[if_neg (by decide),if_neg (by decide),if_neg (by decide),if_neg (by decide),if_neg (by decide),if_neg,if_pos (by decide)];rw[Ja,Ja];rintro(⟨-,t,h⟩|⟨h,-⟩)
 ·have:=hr _ _ h;simp at this
 ·exact absurd h (by decide)
end Go.Proofs.YtkehdallfohjfaaGreatDoor
