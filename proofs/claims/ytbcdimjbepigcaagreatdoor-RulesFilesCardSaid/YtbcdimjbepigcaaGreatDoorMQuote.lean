/-
  The walk of lex.Quote:a text as a token. (And what it stands on.)
-/
import Derived.Handy
import Derived.Test.YtbcdimjbepigcaaGreatDoorMOnce
import Derived.Test.YtbcdimjbepigcaaGreatDoorReplRun
import Derived.Test.YtbcdimjbepigcaaGreatDoorMEvalPlain
namespace Go.Proofs.YtbcdimjbepigcaaGreatDoor
open Go Go.RowKit
open Nat renaming le_refl->nlr,le_trans->nlt
open Go.Lib renaming hid->Lq7
set_option maxRecDepth 100000
set_option maxHeartbeats 16000000
theorem Sm(b n)(hn:n<=b)(ob oc s w)(hnw:n<=w.heap.size)(h:RB w b 0 0 .nilIface (.slice (some ⟨ob,0,none⟩) 6 oc))(hs:Dj w (some ⟨ob,0,none⟩) Dg)(hob:ob≠b)(hz:s.size<=65536):
  Calls Tryz.prog 91 #[.pointer (some ⟨b,0,none⟩),.string s] w (fun e w'=>∃o:ByteArray,e = .returned (.string o)/\o.data.toList=escL s.data.toList/\Below n w w'):=by
 have HO:=Lq7 (once_any b n hn ob oc w hnw h hs hob);have hmf:∀(fn:Fn) (first cap:Array Value) (w:World),(Instr.makeFunc fn first cap).run Tryz.prog w = .ok (.func fn first cap) w:=fun _ _ _ _=>rfl;go_enter Tryz.func91,Tryz.ntmps91;go_wp2_with fail;refine HO.out.mono ?_;rintro e w1 ⟨rfl,rb,aC,aE,hrb⟩;have HR:=Lq7 (Ss s rb _ w1 aE hz);have Hb1:=Lq7 aC;have hsz:=aC.size;obtain⟨-,q0,q1,q2,q3,q4,-⟩:=Aa hrb;go_wp2_with fail;refine HR.out.mono ?_;rintro e w2 ⟨o,rfl,ho,aD⟩;go_wp2_with fail;go_ret;exact⟨o,rfl,ho,Hb1.out.trans (aD.mono (nlt hnw hsz))⟩
def PNewRepl(w:World)(e:Ending)(w':World):Prop:=∃b ob oc,e = .returned (.pointer (some ⟨b,0,none⟩))/\Below w.heap.size w w'/\w.heap.size<=b/\RB w' b 0 0 .nilIface (.slice (some ⟨ob,0,none⟩) 6 oc)/\Dj w' (some ⟨ob,0,none⟩) Dg/\ob≠b
theorem Sn(ab cap w)(hs:Dj w (some ⟨ab,0,none⟩) Dg):
  Calls Tryz.prog 90 #[.slice (some ⟨ab,0,none⟩) 6 cap] w (PNewRepl w):=by
 obtain⟨i0,hi,hz0,hz1,hz2⟩:=info_parts infoStr;have aB:∀(j:Nat) u,(Dg.map Value.string)[j]? = some u->w.cell? ((⟨ab,0,none⟩:Addr).add j)=some u:=fun j u hj=>by
  rw[List.getElem?_map] at hj;cases hx:Dg[j]? with
  | none=>rw[hx] at hj;cases hj
  | some x=>
   rw[hx] at hj;cases hj;obtain⟨b',off,e,hc⟩:=hs j x hx;cases e;have aF:((⟨ab,0,none⟩:Addr).add j)=⟨ab,0+j,none⟩:=by unfold Addr.add;split<;>simp_all
   rw[aF];exact hc
 have Hn:=Lq7 aB;go_enter Tryz.func90,Tryz.ntmps90
 go_wp2_with (at_builtin;refine Ct rfl _ _ 40 rfl w.heap.size 9 i0 (.string ByteArray.empty) 1 16 Tryz.underlying40 hi hz0 hz1 hz2 rfl (by decide) (.slice none 0 0) 0 [] rfl ⟨rfl,.inl ⟨rfl,rfl⟩⟩ ⟨ab,0,none⟩ 6 cap (Dg.map Value.string) rfl rfl Hn.out ?_ ?_ ?_ ?_ ?_)
 ·intro u hu;obtain⟨x,-,rfl⟩:=List.mem_map.1 hu;rfl
 ·unfold maxLen;decide
 ·decide
 ·exact nlr _
 intro v w1 hown hg _;have hown':OwnS w1 w.heap.size v Dg:=hown;have hsh:=hown';obtain⟨h1,⟨-,h2⟩|⟨ob,oc,cur,rfl,h3,h4,-⟩⟩:=hsh
 ·cases h2
 have aG:=hown'.strsAt;obtain⟨a,c,he,aG,-⟩:=aG;obtain rfl:a=some ⟨ob,0,none⟩:=(by injection he with e1;exact e1.symm);have hobl:=(Array.getElem?_eq_some_iff.1 h4).1;have aC:Below w.heap.size w w1:=B5 (v:=.slice none 0 0) hg (fun g e=>by cases e) (nlr _);have H1:=Lq7 (And.intro aC aG);go_wp2_with fail;have aD:Below w1.heap.size w1 (w1.alloc (.cells #[.int .u32 0,.int .i32 0,.int .u32 0,.nilIface,.slice (some ⟨ob,0,none⟩) 6 oc] 195)):=(Below.refl _ w1).alloc (nlr _) _;go_ret;exact⟨_,ob,oc,rfl,H1.out.1.trans (aD.mono H1.out.1.size),H1.out.1.size,heap_alloc_new w1 _,H1.out.2.below aD,by omega⟩
def Od(c:UInt8):Bool:=decide (c.toNat<32/\c.toNat≠10\/c.toNat=127)
def quoteL(l:List UInt8):List UInt8:=if l.any Od then [] else 34::escL l++[34]
theorem Wz{l k}(h:k<l.length)(hb:Od l[k]=true):quoteL l=[]:=by
 unfold quoteL;rw[if_pos (List.any_eq_true.2 ⟨l[k],List.getElem_mem h,hb⟩)]
theorem quote_ok{l}(h:∀j (hj:j<l.length),Od l[j]=false):quoteL l=34::escL l++[34]:=by
 unfold quoteL;rw[if_neg];intro ha;obtain⟨x,hx,hb⟩:=List.any_eq_true.1 ha;obtain⟨j,hj,rfl⟩:=List.mem_iff_getElem.1 hx;rw[h j hj] at hb;cases hb
theorem Pv(s w)(hz:s.size<=65536):
  Calls Tryz.prog 58 #[.string s] w (Jl (quoteL s.data.toList) w):=by
 go_enter Tryz.func58,Tryz.ntmps58;go_wp2_with fail
 go_loop [6] (fun i=>∃k:Nat,i = .int .i64 k/\k<=s.size/\Hid (∀j (hj:j<s.data.toList.length),j<k->Od s.data.toList[j]=false)) (fun i=>s.size-(intOf i).toNat)
 case atStart=>exact⟨0,rfl,Nat.zero_le _,Lq7 (fun j _ h=>absurd h (Nat.not_lt_zero _))⟩
 case round=>
  obtain⟨k,rfl,hk,aG⟩:=hrel;by_cases hlt:k<s.size
  ·have hkl:k<s.data.toList.length:=(by rw[Ax];exact hlt);have aC:Hid (Od s[k]=true->quoteL s.data.toList=[]):=Lq7 (fun h=>Wz hkl h);have aB:Hid (Od s[k]=false->∀j (hj:j<s.data.toList.length),j<k+1->Od s.data.toList[j]=false):=Lq7 (fun h j hj hjk=>by
    rcases Nat.lt_succ_iff_lt_or_eq.1 hjk with h1|h1
    ·exact aG.out j hj h1
    ·subst h1;exact h)
   by_cases h1:(s[k].toNat:Int)<32
   ·by_cases h2:(s[k].toNat:Int)=10
    ·have h2b:((s[k].toNat:Int) != 10)=false:=(by simp[h2]);have aH:((s[k].toNat:Int)==127)=false:=(by rw[h2];rfl);have Hn:=Lq7 (aB.out (by unfold Od;rw[decide_eq_false];omega));go_wp2_with fail;go_round
     case rel=>exact⟨k+1,by go_num,by omega,Hn⟩
     case measure=>simp only[intOf];omega
    ·have h2b:((s[k].toNat:Int) != 10)=true:=(by simpa using h2);have Hn:=Lq7 (aC.out (by unfold Od;rw[decide_eq_true];omega));go_wp2_with fail;go_ret;exact⟨_,rfl,Hn.out.symm,Below.refl _ _⟩
   ·by_cases h3:(s[k].toNat:Int)=127
    ·have aH:((s[k].toNat:Int)==127)=true:=(by rw[h3];rfl);have Hn:=Lq7 (aC.out (by unfold Od;rw[decide_eq_true];omega));go_wp2_with fail;go_ret;exact⟨_,rfl,Hn.out.symm,Below.refl _ _⟩
    ·have aH:((s[k].toNat:Int)==127)=false:=(by simpa using h3);have Hn:=Lq7 (aB.out (by unfold Od;rw[decide_eq_false];omega));go_wp2_with fail;go_round
     case rel=>exact⟨k+1,by go_num,by omega,Hn⟩
     case measure=>simp only[intOf];omega
  ·have Hq:Hid (quoteL s.data.toList=34::escL s.data.toList++[34]):=Lq7 (quote_ok fun j hj=>aG.out j hj (by have:=Ax s;omega));have aD:Dj (w.alloc (.cells #[.string ⟨#[34]⟩,.string ⟨#[92,34]⟩,.string ⟨#[92]⟩,.string ⟨#[92,92]⟩,.string ⟨#[10]⟩,.string ⟨#[92,110]⟩] 9)) (some ⟨w.heap.size,0,none⟩) Dg:=fun j x hj=>by
    refine⟨w.heap.size,0,rfl,?_⟩;obtain⟨-,hc,-⟩:=A5 (heap_alloc_new w (.cells #[.string ⟨#[34]⟩,.string ⟨#[92,34]⟩,.string ⟨#[92]⟩,.string ⟨#[92,92]⟩,.string ⟨#[10]⟩,.string ⟨#[92,110]⟩] 9));rw[Nat.zero_add,hc,show(#[Value.string ⟨#[34]⟩,.string ⟨#[92,34]⟩,.string ⟨#[92]⟩,.string ⟨#[92,92]⟩,.string ⟨#[10]⟩,.string ⟨#[92,110]⟩]:Array Value)=(Dg.map Value.string).toArray from rfl,List.getElem?_toArray,List.getElem?_map,hj];rfl
   have HN:=Lq7 (Sn w.heap.size 6 _ aD);have aE:Hid (Below w.heap.size w (w.alloc (.cells #[.string ⟨#[34]⟩,.string ⟨#[92,34]⟩,.string ⟨#[92]⟩,.string ⟨#[92,92]⟩,.string ⟨#[10]⟩,.string ⟨#[92,110]⟩] 9))):=Lq7 ((Below.refl _ w).alloc (nlr _) _);go_wp2_with fail;refine HN.out.mono ?_;rintro e w1 ⟨b,ob,oc,rfl,hb1,hbl,hrb,aD,hob⟩;have aJ:=Lq7 (aE.out.trans (hb1.mono aE.out.size));have HR:=Lq7 (Sm b w.heap.size (nlt aE.out.size hbl) ob oc s w1 aJ.out.size hrb aD hob hz);go_wp2_with fail;refine HR.out.mono ?_;rintro e w2 ⟨o,rfl,ho,hb2⟩;have hel:=Oi s.data.toList;have hen:=M2 s.data.toList;rw[<-ho,Ax,Ax] at hel;rw[Ax] at hen;have aF:Hid ((⟨#[34]⟩++o++⟨#[34]⟩:ByteArray).data.toList=quoteL s.data.toList):=Lq7 (by
    rw[Hq.out,ByteArray.data_append,ByteArray.data_append,Array.toList_append,Array.toList_append,ho];rfl)
   have Hb2:=Lq7 (aJ.out.trans hb2);go_wp2_with fail;go_ret;exact⟨_,rfl,aF.out,Hb2.out⟩
end Go.Proofs.YtbcdimjbepigcaaGreatDoor
