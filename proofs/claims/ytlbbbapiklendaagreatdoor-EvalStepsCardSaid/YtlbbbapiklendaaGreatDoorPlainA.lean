/-
  What the plain host answers to any call,in plain words;its method Call answers so.
-/
import Derived.Test.YtlbbbapiklendaaGreatDoorPlainC
import Derived.Test.YtlbbbapiklendaaGreatDoorPlainE
import Derived.Test.YtlbbbapiklendaaGreatDoorMInX
namespace Go.Proofs.YtlbbbapiklendaaGreatDoor
set_option maxRecDepth 100000
set_option maxHeartbeats 16000000
open Go Go.RowKit Go.Maps Go.WideMaps
def F6(n:Nat)(f:List Vl->Except Int Vl)(l:List (ByteArray×Vl)):Except Int Vl:=if l.all (fun q=>q.1.size==0)=true/\l.length=n then f (l.map (·.2)) else .error 1
def one(f:Vl->Except Int Vl):List Vl->Except Int Vl|[v]=>f v|_=> .error 1
def two(f:Vl->Vl->Except Int Vl):List Vl->Except Int Vl|[u,v]=>f u v|_=> .error 1
def bLen:List UInt8:=[108,101,110]
def bJoin:List UInt8:=[106,111,105,110]
def bLines:List UInt8:=[108,105,110,101,115]
def bSorted:List UInt8:=[115,111,114,116,101,100]
def bStr:List UInt8:=[115,116,114]
def bReplace:List UInt8:=[114,101,112,108,97,99,101]
def bStem:List UInt8:=[115,116,101,109]
def bExt:List UInt8:=[101,120,116]
def bBase:List UInt8:=[98,97,115,101]
def I1(nm:List UInt8)(l:List (ByteArray×Vl)):Except Int Vl:=
 if nm=bLen then F6 1 (one Gm) l
 else if nm=bJoin then F6 2 (two joinL) l
 else if nm=bLines then F6 1 (one linesL) l
 else if nm=bSorted then F6 1 (one sortedL) l
 else if nm=bStr then F6 1 (one M1) l
 else if nm=bReplace then F6 3 J1 l
 else if nm=bStem then F6 1 (one (Kf P5)) l
 else if nm=bExt then F6 1 (one (Kf Od)) l
 else if nm=bBase then F6 1 (one (Kf Fm)) l
 else .error 7
theorem Eg{n f l}(h:∃q∈l,¬q.1.size=0):F6 n f l = .error 1:=by
 unfold F6;rw[if_neg];rintro⟨h1,-⟩;obtain⟨q,hq,hs⟩:=h;rw[List.all_eq_true] at h1;exact hs (by simpa using h1 q hq)
theorem Eh{n:Nat}{f:List Vl->Except Int Vl}{l:List (ByteArray×Vl)}(h:¬(l.length:Int)=(n:Int)):F6 n f l = .error 1:=by
 unfold F6;rw[if_neg];rintro⟨-,h1⟩;omega
theorem Hh{n:Nat}{f:List Vl->Except Int Vl}{l:List (ByteArray×Vl)}(h1:∀q∈l,q.1.size=0)(h2:(l.length:Int)=(n:Int)):F6 n f l=f (l.map (·.2)):=by
 unfold F6;rw[if_pos ⟨by rw[List.all_eq_true];intro q hq;simpa using h1 q hq,by omega⟩]
theorem F7{name}(hs:name.size<=maxLen){W mb b1 b2 b3}(h:Ct W mb (Cm b1 b2 b3)){v}(h1:(.string name,v)∈Cm b1 b2 b3)(h2:∀u,(.string name,u)∈Cm b1 b2 b3->u=v):
  (Instr.lookup 333 (.map (some mb)) (.string name) true).run Tryz.prog W = .ok (.tuple #[v,.bool true]) W:=by
 rcases h.look true (string_keyed Tryz.underlying9) Tryz.underlying333 (zeroDoes W) (callsKeys b1 b2 b3) (keyOf_string_mk Tryz.underlying9 hs) with⟨h3,-⟩|⟨j,v,h3,h4⟩
 ·exact absurd rfl (h3 _ h1)
 ·obtain rfl:=h2 v (List.mem_of_getElem? h3);exact h4
theorem Aah{name}(hs:name.size<=maxLen){W mb b1 b2 b3}(h:Ct W mb (Cm b1 b2 b3))(h2:∀u,(.string name,u)∉Cm b1 b2 b3):
  (Instr.lookup 333 (.map (some mb)) (.string name) true).run Tryz.prog W = .ok (.tuple #[.agg #[.int .i64 0,.nilFunc],.bool false]) W:=by
 rcases h.look true (string_keyed Tryz.underlying9) Tryz.underlying333 (zeroDoes W) (callsKeys b1 b2 b3) (keyOf_string_mk Tryz.underlying9 hs) with⟨-,h4⟩|⟨j,v,h3,-⟩
 ·exact h4
 ·exact absurd (List.mem_of_getElem? h3) (h2 v)
theorem Fy{v}(h:Ao v=true):v.str.size<=65536:=by
 obtain⟨k,n,s,l,ks⟩:=v;exact(check_len h).1
theorem L1{l:List (ByteArray×Vl)}(h:(l.length:Int)=((1:Nat):Int)):∃q,l=[q]:=List.length_eq_one_iff.1 (by omega)
theorem two_at{l:List (ByteArray×Vl)}(h:(l.length:Int)=((2:Nat):Int)):∃p q,l=[p,q]:=by
 match l,h with
 | [p,q],_=>exact⟨p,q,rfl⟩
theorem three_at{l:List (ByteArray×Vl)}(h:(l.length:Int)=((3:Nat):Int)):∃p q r,l=[p,q,r]:=by
 match l,h with
 | [p,q,r],_=>exact⟨p,q,r,rfl⟩
theorem L2{W:World}{b g:Nat}{t}(h:W.heap[b]? = some (.cells #[.func (.func g) #[] #[]] t (0,0))):W.cell? ⟨b,0,none⟩=some (.func (.func g) #[] #[]):=by
 unfold World.cell?;rw[h];rfl
theorem ext_len(s:ByteArray)(h:s.size<=65536):(Od s.data.toList).length<=65536:=by
 have:=baseOf_le s;unfold Od extB;split
 ·rw[List.length_drop];omega
 ·exact Nat.zero_le _
theorem stem_len(s:ByteArray)(h:s.size<=65536):(P5 s.data.toList).length<=65536:=by
 have:=baseOf_le s;unfold P5 Lib.trimSuffix;split
 ·rw[List.length_take];omega
 ·omega
theorem Aai(s w)(hs:s.size<4294967281):Calls Tryz.prog 279 #[.string s] w (Kn (Fm s.data.toList) w):=P7 s w hs
theorem Aaj(q:Ask)(F a)(cap:Nat)(w:World)(hr:Af F w a (Bf q.args))(hF:∀b,F b->b<w.heap.size)(hT:E3 w)(hB:StdB w)(hlen:q.args.length<=1000000)(hs:q.name.size<=maxLen)(hc:∀x∈q.args,Ao x.2=true):
  Calls Tryz.prog 268 #[.agg #[],.agg #[.string q.name,.slice a q.args.length cap,.int .i64 q.ln,.int .i64 q.cl]] w (Cl (I1 q.name.data.toList q.args) w):=by
 obtain⟨name,l,ln,cl⟩:=q;have aA:∀{z:List UInt8},name.data.toList=z->name=⟨z.toArray⟩:=fun h=>bytes_ext (by rw[h]);show Calls Tryz.prog 268 #[.agg #[],.agg #[.string name,.slice a l.length cap,.int .i64 ln,.int .i64 cl]] w (Cl (I1 name.data.toList l) w);replace hc:∀x∈l,Ao x.2=true:=hc;replace hr:Af F w a (Bf l):=hr;replace hs:name.size<=maxLen:=hs;replace hlen:l.length<=1000000:=hlen;unfold I1;split
 ·rename_i h
  obtain rfl:name=⟨#[108,101,110]⟩:=aA h;refine Lc 270 ⟨#[108,101,110]⟩ 1 l (fun W mb b1 b2 b3 hm=>F7 hs hm (v:=Eo 1 270) (by simp[Cm,Bs,El]) (fun u hu=>by simpa[Cm,Bs,El] using hu)) (fun args w=>enters_of Tryz.func270 (by kernel_rfl) rfl args w) _ F a cap ln cl w hr hF hlen Eg (fun _=>Eh) (fun h1 h2 G a' cap' W hG hr' aB hb=>?_);rw[Hh h1 h2];obtain⟨q,rfl⟩:=L1 h2;exact Vj G q.2 a' cap' W hr' (B7 (hc q (by simp))) (Fy (hc q (by simp)))
 ·rename_i h_bLen
  split
  ·rename_i h
   obtain rfl:name=⟨#[106,111,105,110]⟩:=aA h;refine Lc 271 ⟨#[106,111,105,110]⟩ 2 l (fun W mb b1 b2 b3 hm=>F7 hs hm (v:=Eo 2 271) (by simp[Cm,Bs,El]) (fun u hu=>by simpa[Cm,Bs,El] using hu)) (fun args w=>enters_of Tryz.func271 (by kernel_rfl) rfl args w) _ F a cap ln cl w hr hF hlen Eg (fun _=>Eh) (fun h1 h2 G a' cap' W hG hr' aB hb=>?_);rw[Hh h1 h2];obtain⟨p,q,rfl⟩:=two_at h2;exact Aan G p.2 q.2 a' cap' W hG hr' (B7 (hc q (by simp))) (Fy (hc p (by simp)))
  ·rename_i h_bJoin
   split
   ·rename_i h
    obtain rfl:name=⟨#[108,105,110,101,115]⟩:=aA h;refine Lc 272 ⟨#[108,105,110,101,115]⟩ 1 l (fun W mb b1 b2 b3 hm=>F7 hs hm (v:=Eo 1 272) (by simp[Cm,Bs,El]) (fun u hu=>by simpa[Cm,Bs,El] using hu)) (fun args w=>enters_of Tryz.func272 (by kernel_rfl) rfl args w) _ F a cap ln cl w hr hF hlen Eg (fun _=>Eh) (fun h1 h2 G a' cap' W hG hr' aB hb=>?_);rw[Hh h1 h2];obtain⟨q,rfl⟩:=L1 h2;exact Xq G q.2 a' cap' W hG hr' (B7 (hc q (by simp)))
   ·rename_i h_bLines
    split
    ·rename_i h
     obtain rfl:name=⟨#[115,111,114,116,101,100]⟩:=aA h;refine Lc 273 ⟨#[115,111,114,116,101,100]⟩ 1 l (fun W mb b1 b2 b3 hm=>F7 hs hm (v:=Eo 1 273) (by simp[Cm,Bs,El]) (fun u hu=>by simpa[Cm,Bs,El] using hu)) (fun args w=>enters_of Tryz.func273 (by kernel_rfl) rfl args w) _ F a cap ln cl w hr hF hlen Eg (fun _=>Eh) (fun h1 h2 G a' cap' W hG hr' aB hb=>?_);rw[Hh h1 h2];obtain⟨q,rfl⟩:=L1 h2;exact Vi G q.2 a' cap' W hG hr' (B7 (hc q (by simp)))
    ·rename_i h_bSorted
     split
     ·rename_i h
      obtain rfl:name=⟨#[115,116,114]⟩:=aA h;refine Lc 274 ⟨#[115,116,114]⟩ 1 l (fun W mb b1 b2 b3 hm=>F7 hs hm (v:=Eo 1 274) (by simp[Cm,Bs,El]) (fun u hu=>by simpa[Cm,Bs,El] using hu)) (fun args w=>enters_of Tryz.func274 (by kernel_rfl) rfl args w) _ F a cap ln cl w hr hF hlen Eg (fun _=>Eh) (fun h1 h2 G a' cap' W hG hr' aB hb=>?_);rw[Hh h1 h2];obtain⟨q,rfl⟩:=L1 h2;exact text_any G q.2 a' cap' W hG (hT.below hb) hr' (B7 (hc q (by simp)))
     ·rename_i h_bStr
      split
      ·rename_i h
       obtain rfl:name=⟨#[114,101,112,108,97,99,101]⟩:=aA h;refine Lc 275 ⟨#[114,101,112,108,97,99,101]⟩ 3 l (fun W mb b1 b2 b3 hm=>F7 hs hm (v:=Eo 3 275) (by simp[Cm,Bs,El]) (fun u hu=>by simpa[Cm,Bs,El] using hu)) (fun args w=>enters_of Tryz.func275 (by kernel_rfl) rfl args w) _ F a cap ln cl w hr hF hlen Eg (fun _=>Eh) (fun h1 h2 G a' cap' W hG hr' aB hb=>?_);rw[Hh h1 h2];obtain⟨p,q,r,rfl⟩:=three_at h2;exact Q0 G p.2 q.2 r.2 a' cap' W (hB.below hb) hr' (Fy (hc p (by simp))) (Fy (hc q (by simp))) (Fy (hc r (by simp)))
      ·rename_i h_bReplace
       split
       ·rename_i h
        obtain rfl:name=⟨#[115,116,101,109]⟩:=aA h;refine Nu (fun b1 b2 b3=>b1) 277 (fun W b1 b2 b3 h=>L2 h.1) ⟨#[115,116,101,109]⟩ 1 l (fun W mb b1 b2 b3 hm=>F7 hs hm (v:=Jy b1) (by simp[Cm,Bs,El]) (fun u hu=>by simpa[Cm,Bs,El] using hu)) _ F a cap ln cl w hr hF hlen Eg (fun _=>Eh) (fun h1 h2 G a' cap' W hG hr' aB bq aC=>?_);rw[Hh h1 h2];obtain⟨q,rfl⟩:=L1 h2;exact S4 277 P5 (fun s w h=>stem_any s w h) (fun s h=>stem_len s h) (fun args w=>enters_of Tryz.func277 (by kernel_rfl) rfl args w) G q.2 a' cap' bq W aC hr' (Fy (hc q (by simp)))
       ·rename_i h_bStem
        split
        ·rename_i h
         obtain rfl:name=⟨#[101,120,116]⟩:=aA h;refine Nu (fun b1 b2 b3=>b2) 280 (fun W b1 b2 b3 h=>L2 h.2.1) ⟨#[101,120,116]⟩ 1 l (fun W mb b1 b2 b3 hm=>F7 hs hm (v:=Jy b2) (by simp[Cm,Bs,El]) (fun u hu=>by simpa[Cm,Bs,El] using hu)) _ F a cap ln cl w hr hF hlen Eg (fun _=>Eh) (fun h1 h2 G a' cap' W hG hr' aB bq aC=>?_);rw[Hh h1 h2];obtain⟨q,rfl⟩:=L1 h2;exact S4 280 Od (fun s w h=>Yr s w h) (fun s h=>ext_len s h) (fun args w=>enters_of Tryz.func280 (by kernel_rfl) rfl args w) G q.2 a' cap' bq W aC hr' (Fy (hc q (by simp)))
        ·rename_i h_bExt
         split
         ·rename_i h
          obtain rfl:name=⟨#[98,97,115,101]⟩:=aA h;refine Nu (fun b1 b2 b3=>b3) 279 (fun W b1 b2 b3 h=>L2 h.2.2) ⟨#[98,97,115,101]⟩ 1 l (fun W mb b1 b2 b3 hm=>F7 hs hm (v:=Jy b3) (by simp[Cm,Bs,El]) (fun u hu=>by simpa[Cm,Bs,El] using hu)) _ F a cap ln cl w hr hF hlen Eg (fun _=>Eh) (fun h1 h2 G a' cap' W hG hr' aB bq aC=>?_);rw[Hh h1 h2];obtain⟨q,rfl⟩:=L1 h2;exact S4 279 Fm (fun s w h=>Aai s w h) (fun s h=>Nat.le_trans (baseOf_le s) h) (fun args w=>enters_of Tryz.func279 (by kernel_rfl) rfl args w) G q.2 a' cap' bq W aC hr' (Fy (hc q (by simp)))
         ·rename_i h_bBase
          refine Aak name 0 l (fun W mb b1 b2 b3 hm=>Aah hs hm (fun u hu=>?_)) F a cap ln cl w hr hF hlen;simp only[Cm,Bs,El,List.cons_append,List.nil_append,List.mem_cons,List.not_mem_nil,or_false,Prod.mk.injEq,Value.string.injEq] at hu;rcases hu with⟨e,-⟩|⟨e,-⟩|⟨e,-⟩|⟨e,-⟩|⟨e,-⟩|⟨e,-⟩|⟨e,-⟩|⟨e,-⟩|⟨e,-⟩
          ·exact h_bLen (by rw[e];rfl)
          ·exact h_bJoin (by rw[e];rfl)
          ·exact h_bLines (by rw[e];rfl)
          ·exact h_bSorted (by rw[e];rfl)
          ·exact h_bStr (by rw[e];rfl)
          ·exact h_bReplace (by rw[e];rfl)
          ·exact h_bStem (by rw[e];rfl)
          ·exact h_bExt (by rw[e];rfl)
          ·exact h_bBase (by rw[e];rfl)
end Go.Proofs.YtlbbbapiklendaaGreatDoor