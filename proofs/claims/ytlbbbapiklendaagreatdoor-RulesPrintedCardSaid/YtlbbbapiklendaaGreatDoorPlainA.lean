/-
  What the plain host answers to any call,in plain words;its method Call answers so.
-/
import Derived.Test.YtlbbbapiklendaaGreatDoorPlainC
import Derived.Test.YtlbbbapiklendaaGreatDoorPlainE
namespace Go.Proofs.YtlbbbapiklendaaGreatDoor
set_option maxRecDepth 100000
set_option maxHeartbeats 16000000
open Go Go.RowKit Go.Maps Go.WideMaps
def Gc(n:Nat)(f:List Vl->Except Int Vl)(l:List (ByteArray×Vl)):Except Int Vl:=if l.all (fun q=>q.1.size==0)=true/\l.length=n then f (l.map (·.2)) else .error 1
def one(f:Vl->Except Int Vl):List Vl->Except Int Vl|[v]=>f v|_=> .error 1
def two(f:Vl->Vl->Except Int Vl):List Vl->Except Int Vl|[u,v]=>f u v|_=> .error 1
def bLen:List UInt8:=[108,101,110]
def bJoin:List UInt8:=[106,111,105,110]
def bLines:List UInt8:=[108,105,110,101,115]
def bSorted:List UInt8:=[115,111,114,116,101,100]
def bStr:List UInt8:=[115,116,114]
def bReplace:List UInt8:=[114,101,112,108,97,99,101]
def bStem:List UInt8:=[115,116,101,109]
def bExt:List UInt8:=[101,120,116]
def bBase:List UInt8:=[98,97,115,101]
def I6(nm:List UInt8)(l:List (ByteArray×Vl)):Except Int Vl:=
 if nm=bLen then Gc 1 (one Gt) l
 else if nm=bJoin then Gc 2 (two joinL) l
 else if nm=bLines then Gc 1 (one linesL) l
 else if nm=bSorted then Gc 1 (one sortedL) l
 else if nm=bStr then Gc 1 (one Nf) l
 else if nm=bReplace then Gc 3 Kb l
 else if nm=bStem then Gc 1 (one (Kt Qp)) l
 else if nm=bExt then Gc 1 (one (Kt Ow)) l
 else if nm=bBase then Gc 1 (one (Kt Fm)) l
 else .error 7
theorem Ek{n f l}(h:∃q∈l,¬q.1.size=0):Gc n f l = .error 1:=by
 unfold Gc;rw[if_neg];rintro⟨h1,-⟩;obtain⟨q,hq,hs⟩:=h;rw[List.all_eq_true] at h1;exact hs (by simpa using h1 q hq)
theorem El{n:Nat}{f:List Vl->Except Int Vl}{l:List (ByteArray×Vl)}(h:¬(l.length:Int)=(n:Int)):Gc n f l = .error 1:=by
 unfold Gc;rw[if_neg];rintro⟨-,h1⟩;omega
theorem If{n:Nat}{f:List Vl->Except Int Vl}{l:List (ByteArray×Vl)}(h1:∀q∈l,q.1.size=0)(h2:(l.length:Int)=(n:Int)):Gc n f l=f (l.map (·.2)):=by
 unfold Gc;rw[if_pos ⟨by rw[List.all_eq_true];intro q hq;simpa using h1 q hq,by omega⟩]
theorem Ge{name}(hs:name.size<=maxLen){W mb b1 b2 b3}(h:Cq W mb (Cm b1 b2 b3)){v}(h1:(.string name,v)∈Cm b1 b2 b3)(h2:∀u,(.string name,u)∈Cm b1 b2 b3->u=v):
  (Instr.lookup 333 (.map (some mb)) (.string name) true).run Tryz.prog W = .ok (.tuple #[v,.bool true]) W:=by
 rcases h.look true (string_keyed Tryz.underlying9) Tryz.underlying333 (zeroDoes W) (callsKeys b1 b2 b3) (keyOf_string_mk Tryz.underlying9 hs) with⟨h3,-⟩|⟨j,v,h3,h4⟩
 ·exact absurd rfl (h3 _ h1)
 ·obtain rfl:=h2 v (List.mem_of_getElem? h3);exact h4
theorem Abp{name}(hs:name.size<=maxLen){W mb b1 b2 b3}(h:Cq W mb (Cm b1 b2 b3))(h2:∀u,(.string name,u)∉Cm b1 b2 b3):
  (Instr.lookup 333 (.map (some mb)) (.string name) true).run Tryz.prog W = .ok (.tuple #[.agg #[.int .i64 0,.nilFunc],.bool false]) W:=by
 rcases h.look true (string_keyed Tryz.underlying9) Tryz.underlying333 (zeroDoes W) (callsKeys b1 b2 b3) (keyOf_string_mk Tryz.underlying9 hs) with⟨-,h4⟩|⟨j,v,h3,-⟩
 ·exact h4
 ·exact absurd (List.mem_of_getElem? h3) (h2 v)
theorem Fz{v}(h:Am v=true):v.str.size<=65536:=by
 obtain⟨k,n,s,l,ks⟩:=v;exact(check_len h).1
theorem Md{l:List (ByteArray×Vl)}(h:(l.length:Int)=((1:Nat):Int)):∃q,l=[q]:=List.length_eq_one_iff.1 (by omega)
theorem two_at{l:List (ByteArray×Vl)}(h:(l.length:Int)=((2:Nat):Int)):∃p q,l=[p,q]:=by
 match l,h with
 | [p,q],_=>exact⟨p,q,rfl⟩
theorem three_at{l:List (ByteArray×Vl)}(h:(l.length:Int)=((3:Nat):Int)):∃p q r,l=[p,q,r]:=by
 match l,h with
 | [p,q,r],_=>exact⟨p,q,r,rfl⟩
theorem Me{W:World}{b g:Nat}{t}(h:W.heap[b]? = some (.cells #[.func (.func g) #[] #[]] t (0,0))):W.cell? ⟨b,0,none⟩=some (.func (.func g) #[] #[]):=by
 unfold World.cell?;rw[h];rfl
theorem ext_len(s:ByteArray)(h:s.size<=65536):(Ow s.data.toList).length<=65536:=by
 have:=baseOf_le s;unfold Ow extB;split
 ·rw[List.length_drop];omega
 ·exact Nat.zero_le _
theorem stem_len(s:ByteArray)(h:s.size<=65536):(Qp s.data.toList).length<=65536:=by
 have:=baseOf_le s;unfold Qp Lib.trimSuffix;split
 ·rw[List.length_take];omega
 ·omega
theorem Abq(s w)(hs:s.size<4294967281):Calls Tryz.prog 279 #[.string s] w (Le (Fm s.data.toList) w):=Qr s w hs
theorem Abr(q:Ask)(F a)(cap:Nat)(w:World)(hr:Ac F w a (Bx q.args))(hF:∀b,F b->b<w.heap.size)(hT:Em w)(hB:StdB w)(hlen:q.args.length<=1000000)(hs:q.name.size<=maxLen)(hc:∀x∈q.args,Am x.2=true):
  Calls Tryz.prog 268 #[.agg #[],.agg #[.string q.name,.slice a q.args.length cap,.int .i64 q.ln,.int .i64 q.cl]] w (Ck (I6 q.name.data.toList q.args) w):=by
 obtain⟨name,l,ln,cl⟩:=q;have aA:∀{z:List UInt8},name.data.toList=z->name=⟨z.toArray⟩:=fun h=>bytes_ext (by rw[h]);show Calls Tryz.prog 268 #[.agg #[],.agg #[.string name,.slice a l.length cap,.int .i64 ln,.int .i64 cl]] w (Ck (I6 name.data.toList l) w);replace hc:∀x∈l,Am x.2=true:=hc;replace hr:Ac F w a (Bx l):=hr;replace hs:name.size<=maxLen:=hs;replace hlen:l.length<=1000000:=hlen;unfold I6;split
 ·rename_i h
  obtain rfl:name=⟨#[108,101,110]⟩:=aA h;refine Lp 270 ⟨#[108,101,110]⟩ 1 l (fun W mb b1 b2 b3 hm=>Ge hs hm (v:=Eu 1 270) (by simp[Cm,Br,Er]) (fun u hu=>by simpa[Cm,Br,Er] using hu)) (fun args w=>enters_of Tryz.func270 (by kernel_rfl) rfl args w) _ F a cap ln cl w hr hF hlen Ek (fun _=>El) (fun h1 h2 G a' cap' W hG hr' aB hb=>?_);rw[If h1 h2];obtain⟨q,rfl⟩:=Md h2;exact Wm G q.2 a' cap' W hr' (Bw (hc q (by simp))) (Fz (hc q (by simp)))
 ·rename_i h_bLen
  split
  ·rename_i h
   obtain rfl:name=⟨#[106,111,105,110]⟩:=aA h;refine Lp 271 ⟨#[106,111,105,110]⟩ 2 l (fun W mb b1 b2 b3 hm=>Ge hs hm (v:=Eu 2 271) (by simp[Cm,Br,Er]) (fun u hu=>by simpa[Cm,Br,Er] using hu)) (fun args w=>enters_of Tryz.func271 (by kernel_rfl) rfl args w) _ F a cap ln cl w hr hF hlen Ek (fun _=>El) (fun h1 h2 G a' cap' W hG hr' aB hb=>?_);rw[If h1 h2];obtain⟨p,q,rfl⟩:=two_at h2;exact Abv G p.2 q.2 a' cap' W hG hr' (Bw (hc q (by simp))) (Fz (hc p (by simp)))
  ·rename_i h_bJoin
   split
   ·rename_i h
    obtain rfl:name=⟨#[108,105,110,101,115]⟩:=aA h;refine Lp 272 ⟨#[108,105,110,101,115]⟩ 1 l (fun W mb b1 b2 b3 hm=>Ge hs hm (v:=Eu 1 272) (by simp[Cm,Br,Er]) (fun u hu=>by simpa[Cm,Br,Er] using hu)) (fun args w=>enters_of Tryz.func272 (by kernel_rfl) rfl args w) _ F a cap ln cl w hr hF hlen Ek (fun _=>El) (fun h1 h2 G a' cap' W hG hr' aB hb=>?_);rw[If h1 h2];obtain⟨q,rfl⟩:=Md h2;exact Yu G q.2 a' cap' W hG hr' (Bw (hc q (by simp)))
   ·rename_i h_bLines
    split
    ·rename_i h
     obtain rfl:name=⟨#[115,111,114,116,101,100]⟩:=aA h;refine Lp 273 ⟨#[115,111,114,116,101,100]⟩ 1 l (fun W mb b1 b2 b3 hm=>Ge hs hm (v:=Eu 1 273) (by simp[Cm,Br,Er]) (fun u hu=>by simpa[Cm,Br,Er] using hu)) (fun args w=>enters_of Tryz.func273 (by kernel_rfl) rfl args w) _ F a cap ln cl w hr hF hlen Ek (fun _=>El) (fun h1 h2 G a' cap' W hG hr' aB hb=>?_);rw[If h1 h2];obtain⟨q,rfl⟩:=Md h2;exact Wl G q.2 a' cap' W hG hr' (Bw (hc q (by simp)))
    ·rename_i h_bSorted
     split
     ·rename_i h
      obtain rfl:name=⟨#[115,116,114]⟩:=aA h;refine Lp 274 ⟨#[115,116,114]⟩ 1 l (fun W mb b1 b2 b3 hm=>Ge hs hm (v:=Eu 1 274) (by simp[Cm,Br,Er]) (fun u hu=>by simpa[Cm,Br,Er] using hu)) (fun args w=>enters_of Tryz.func274 (by kernel_rfl) rfl args w) _ F a cap ln cl w hr hF hlen Ek (fun _=>El) (fun h1 h2 G a' cap' W hG hr' aB hb=>?_);rw[If h1 h2];obtain⟨q,rfl⟩:=Md h2;exact text_any G q.2 a' cap' W hG (hT.below hb) hr' (Bw (hc q (by simp)))
     ·rename_i h_bStr
      split
      ·rename_i h
       obtain rfl:name=⟨#[114,101,112,108,97,99,101]⟩:=aA h;refine Lp 275 ⟨#[114,101,112,108,97,99,101]⟩ 3 l (fun W mb b1 b2 b3 hm=>Ge hs hm (v:=Eu 3 275) (by simp[Cm,Br,Er]) (fun u hu=>by simpa[Cm,Br,Er] using hu)) (fun args w=>enters_of Tryz.func275 (by kernel_rfl) rfl args w) _ F a cap ln cl w hr hF hlen Ek (fun _=>El) (fun h1 h2 G a' cap' W hG hr' aB hb=>?_);rw[If h1 h2];obtain⟨p,q,r,rfl⟩:=three_at h2;exact Rg G p.2 q.2 r.2 a' cap' W (hB.below hb) hr' (Fz (hc p (by simp))) (Fz (hc q (by simp))) (Fz (hc r (by simp)))
      ·rename_i h_bReplace
       split
       ·rename_i h
        obtain rfl:name=⟨#[115,116,101,109]⟩:=aA h;refine N9 (fun b1 b2 b3=>b1) 277 (fun W b1 b2 b3 h=>Me h.1) ⟨#[115,116,101,109]⟩ 1 l (fun W mb b1 b2 b3 hm=>Ge hs hm (v:=J5 b1) (by simp[Cm,Br,Er]) (fun u hu=>by simpa[Cm,Br,Er] using hu)) _ F a cap ln cl w hr hF hlen Ek (fun _=>El) (fun h1 h2 G a' cap' W hG hr' aB bq aC=>?_);rw[If h1 h2];obtain⟨q,rfl⟩:=Md h2;exact Tt 277 Qp (fun s w h=>stem_any s w h) (fun s h=>stem_len s h) (fun args w=>enters_of Tryz.func277 (by kernel_rfl) rfl args w) G q.2 a' cap' bq W aC hr' (Fz (hc q (by simp)))
       ·rename_i h_bStem
        split
        ·rename_i h
         obtain rfl:name=⟨#[101,120,116]⟩:=aA h;refine N9 (fun b1 b2 b3=>b2) 280 (fun W b1 b2 b3 h=>Me h.2.1) ⟨#[101,120,116]⟩ 1 l (fun W mb b1 b2 b3 hm=>Ge hs hm (v:=J5 b2) (by simp[Cm,Br,Er]) (fun u hu=>by simpa[Cm,Br,Er] using hu)) _ F a cap ln cl w hr hF hlen Ek (fun _=>El) (fun h1 h2 G a' cap' W hG hr' aB bq aC=>?_);rw[If h1 h2];obtain⟨q,rfl⟩:=Md h2;exact Tt 280 Ow (fun s w h=>Zt s w h) (fun s h=>ext_len s h) (fun args w=>enters_of Tryz.func280 (by kernel_rfl) rfl args w) G q.2 a' cap' bq W aC hr' (Fz (hc q (by simp)))
        ·rename_i h_bExt
         split
         ·rename_i h
          obtain rfl:name=⟨#[98,97,115,101]⟩:=aA h;refine N9 (fun b1 b2 b3=>b3) 279 (fun W b1 b2 b3 h=>Me h.2.2) ⟨#[98,97,115,101]⟩ 1 l (fun W mb b1 b2 b3 hm=>Ge hs hm (v:=J5 b3) (by simp[Cm,Br,Er]) (fun u hu=>by simpa[Cm,Br,Er] using hu)) _ F a cap ln cl w hr hF hlen Ek (fun _=>El) (fun h1 h2 G a' cap' W hG hr' aB bq aC=>?_);rw[If h1 h2];obtain⟨q,rfl⟩:=Md h2;exact Tt 279 Fm (fun s w h=>Abq s w h) (fun s h=>Nat.le_trans (baseOf_le s) h) (fun args w=>enters_of Tryz.func279 (by kernel_rfl) rfl args w) G q.2 a' cap' bq W aC hr' (Fz (hc q (by simp)))
         ·rename_i h_bBase
          refine Abs name 0 l (fun W mb b1 b2 b3 hm=>Abp hs hm (fun u hu=>?_)) F a cap ln cl w hr hF hlen;simp only[Cm,Br,Er,List.cons_append,List.nil_append,List.mem_cons,List.not_mem_nil,or_false,Prod.mk.injEq,Value.string.injEq] at hu;rcases hu with⟨e,-⟩|⟨e,-⟩|⟨e,-⟩|⟨e,-⟩|⟨e,-⟩|⟨e,-⟩|⟨e,-⟩|⟨e,-⟩|⟨e,-⟩
          ·exact h_bLen (by rw[e];rfl)
          ·exact h_bJoin (by rw[e];rfl)
          ·exact h_bLines (by rw[e];rfl)
          ·exact h_bSorted (by rw[e];rfl)
          ·exact h_bStr (by rw[e];rfl)
          ·exact h_bReplace (by rw[e];rfl)
          ·exact h_bStem (by rw[e];rfl)
          ·exact h_bExt (by rw[e];rfl)
          ·exact h_bBase (by rw[e];rfl)
end Go.Proofs.YtlbbbapiklendaaGreatDoor