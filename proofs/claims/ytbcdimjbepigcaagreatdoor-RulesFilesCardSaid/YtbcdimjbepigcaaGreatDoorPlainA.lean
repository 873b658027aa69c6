/-
  What the plain host answers to any call,in plain words;its method Call answers so.
-/
import Derived.Test.YtbcdimjbepigcaaGreatDoorPlainC
import Derived.Test.YtbcdimjbepigcaaGreatDoorPlainE
import Derived.Test.YtbcdimjbepigcaaGreatDoorMInX
namespace Go.Proofs.YtbcdimjbepigcaaGreatDoor
set_option maxRecDepth 100000
set_option maxHeartbeats 16000000
open Go Go.RowKit Go.Maps Go.WideMaps
def Fx(n:Nat)(f:List Vl->Except Int Vl)(l:List (ByteArray×Vl)):Except Int Vl:=if l.all (fun q=>q.1.size==0)=true/\l.length=n then f (l.map (·.2)) else .error 1
def one(f:Vl->Except Int Vl):List Vl->Except Int Vl|[v]=>f v|_=> .error 1
def two(f:Vl->Vl->Except Int Vl):List Vl->Except Int Vl|[u,v]=>f u v|_=> .error 1
def bLen:List UInt8:=[108,101,110]
def bJoin:List UInt8:=[106,111,105,110]
def bLines:List UInt8:=[108,105,110,101,115]
def bSorted:List UInt8:=[115,111,114,116,101,100]
def bStr:List UInt8:=[115,116,114]
def bReplace:List UInt8:=[114,101,112,108,97,99,101]
def bStem:List UInt8:=[115,116,101,109]
def bExt:List UInt8:=[101,120,116]
def bBase:List UInt8:=[98,97,115,101]
def G7(nm:List UInt8)(l:List (ByteArray×Vl)):Except Int Vl:=
 if nm=bLen then Fx 1 (one F6) l
 else if nm=bJoin then Fx 2 (two joinL) l
 else if nm=bLines then Fx 1 (one linesL) l
 else if nm=bSorted then Fx 1 (one sortedL) l
 else if nm=bStr then Fx 1 (one Le) l
 else if nm=bReplace then Fx 3 I3 l
 else if nm=bStem then Fx 1 (one (Jg N7)) l
 else if nm=bExt then Fx 1 (one (Jg Mj)) l
 else if nm=bBase then Fx 1 (one (Jg Fb)) l
 else .error 7
theorem D8{n f l}(h:∃q∈l,¬q.1.size=0):Fx n f l = .error 1:=by
 unfold Fx;rw[if_neg];rintro⟨h1,-⟩;obtain⟨q,hq,hs⟩:=h;rw[List.all_eq_true] at h1;exact hs (by simpa using h1 q hq)
theorem D9{n:Nat}{f:List Vl->Except Int Vl}{l:List (ByteArray×Vl)}(h:¬(l.length:Int)=(n:Int)):Fx n f l = .error 1:=by
 unfold Fx;rw[if_neg];rintro⟨-,h1⟩;omega
theorem Gj{n:Nat}{f:List Vl->Except Int Vl}{l:List (ByteArray×Vl)}(h1:∀q∈l,q.1.size=0)(h2:(l.length:Int)=(n:Int)):Fx n f l=f (l.map (·.2)):=by
 unfold Fx;rw[if_pos ⟨by rw[List.all_eq_true];intro q hq;simpa using h1 q hq,by omega⟩]
theorem Fy{name}(hs:name.size<=maxLen){W mb b1 b2 b3}(h:Co W mb (Cl b1 b2 b3)){v}(h1:(.string name,v)∈Cl b1 b2 b3)(h2:∀u,(.string name,u)∈Cl b1 b2 b3->u=v):
  (Instr.lookup 338 (.map (some mb)) (.string name) true).run Tryz.prog W = .ok (.tuple #[v,.bool true]) W:=by
 rcases h.look true (string_keyed Tryz.underlying9) Tryz.underlying338 (zeroDoes W) (callsKeys b1 b2 b3) (keyOf_string_mk Tryz.underlying9 hs) with⟨h3,-⟩|⟨j,v,h3,h4⟩
 ·exact absurd rfl (h3 _ h1)
 ·obtain rfl:=h2 v (List.mem_of_getElem? h3);exact h4
theorem Wm{name}(hs:name.size<=maxLen){W mb b1 b2 b3}(h:Co W mb (Cl b1 b2 b3))(h2:∀u,(.string name,u)∉Cl b1 b2 b3):
  (Instr.lookup 338 (.map (some mb)) (.string name) true).run Tryz.prog W = .ok (.tuple #[.agg #[.int .i64 0,.nilFunc],.bool false]) W:=by
 rcases h.look true (string_keyed Tryz.underlying9) Tryz.underlying338 (zeroDoes W) (callsKeys b1 b2 b3) (keyOf_string_mk Tryz.underlying9 hs) with⟨-,h4⟩|⟨j,v,h3,-⟩
 ·exact h4
 ·exact absurd (List.mem_of_getElem? h3) (h2 v)
theorem Fm{v}(h:A0 v=true):v.str.size<=65536:=by
 obtain⟨k,n,s,l,ks⟩:=v;exact(check_len h).1
theorem Kg{l:List (ByteArray×Vl)}(h:(l.length:Int)=((1:Nat):Int)):∃q,l=[q]:=List.length_eq_one_iff.1 (by omega)
theorem two_at{l:List (ByteArray×Vl)}(h:(l.length:Int)=((2:Nat):Int)):∃p q,l=[p,q]:=by
 match l,h with
 | [p,q],_=>exact⟨p,q,rfl⟩
theorem three_at{l:List (ByteArray×Vl)}(h:(l.length:Int)=((3:Nat):Int)):∃p q r,l=[p,q,r]:=by
 match l,h with
 | [p,q,r],_=>exact⟨p,q,r,rfl⟩
theorem Kh{W:World}{b g:Nat}{t}(h:W.heap[b]? = some (.cells #[.func (.func g) #[] #[]] t (0,0))):W.cell? ⟨b,0,none⟩=some (.func (.func g) #[] #[]):=by
 unfold World.cell?;rw[h];rfl
theorem ext_len(s:ByteArray)(h:s.size<=65536):(Mj s.data.toList).length<=65536:=by
 have:=baseOf_le s;unfold Mj extB;split
 ·rw[List.length_drop];omega
 ·exact Nat.zero_le _
theorem stem_len(s:ByteArray)(h:s.size<=65536):(N7 s.data.toList).length<=65536:=by
 have:=baseOf_le s;unfold N7 Lib.trimSuffix;split
 ·rw[List.length_take];omega
 ·omega
theorem Wn(s w)(hs:s.size<4294967281):Calls Tryz.prog 299 #[.string s] w (Jl (Fb s.data.toList) w):=N9 s w hs
theorem Wo(q:Ask)(F a)(cap:Nat)(w:World)(hr:Af F w a (Bv q.args))(hF:∀b,F b->b<w.heap.size)(hT:Et w)(hB:StdB w)(hlen:q.args.length<=1000000)(hs:q.name.size<=maxLen)(hc:∀x∈q.args,A0 x.2=true):
  Calls Tryz.prog 288 #[.agg #[],.agg #[.string q.name,.slice a q.args.length cap,.int .i64 q.ln,.int .i64 q.cl]] w (Cm (G7 q.name.data.toList q.args) w):=by
 obtain⟨name,l,ln,cl⟩:=q;have aB:∀{z:List UInt8},name.data.toList=z->name=⟨z.toArray⟩:=fun h=>bytes_ext (by rw[h]);show Calls Tryz.prog 288 #[.agg #[],.agg #[.string name,.slice a l.length cap,.int .i64 ln,.int .i64 cl]] w (Cm (G7 name.data.toList l) w);replace hc:∀x∈l,A0 x.2=true:=hc;replace hr:Af F w a (Bv l):=hr;replace hs:name.size<=maxLen:=hs;replace hlen:l.length<=1000000:=hlen;unfold G7;split
 ·rename_i h
  obtain rfl:name=⟨#[108,101,110]⟩:=aB h;refine Jq 290 ⟨#[108,101,110]⟩ 1 l (fun W mb b1 b2 b3 hm=>Fy hs hm (v:=Ei 1 290) (by simp[Cl,Bn,Ee]) (fun u hu=>by simpa[Cl,Bn,Ee] using hu)) (fun args w=>enters_of Tryz.func290 (by kernel_rfl) rfl args w) _ F a cap ln cl w hr hF hlen D8 (fun _=>D9) (fun h1 h2 G a' cap' W hG hr' aC hb=>?_);rw[Gj h1 h2];obtain⟨q,rfl⟩:=Kg h2;exact Sg G q.2 a' cap' W hr' (Br (hc q (by simp))) (Fm (hc q (by simp)))
 ·rename_i h_bLen
  split
  ·rename_i h
   obtain rfl:name=⟨#[106,111,105,110]⟩:=aB h;refine Jq 291 ⟨#[106,111,105,110]⟩ 2 l (fun W mb b1 b2 b3 hm=>Fy hs hm (v:=Ei 2 291) (by simp[Cl,Bn,Ee]) (fun u hu=>by simpa[Cl,Bn,Ee] using hu)) (fun args w=>enters_of Tryz.func291 (by kernel_rfl) rfl args w) _ F a cap ln cl w hr hF hlen D8 (fun _=>D9) (fun h1 h2 G a' cap' W hG hr' aC hb=>?_);rw[Gj h1 h2];obtain⟨p,q,rfl⟩:=two_at h2;exact Ws G p.2 q.2 a' cap' W hG hr' (Br (hc q (by simp))) (Fm (hc p (by simp)))
  ·rename_i h_bJoin
   split
   ·rename_i h
    obtain rfl:name=⟨#[108,105,110,101,115]⟩:=aB h;refine Jq 292 ⟨#[108,105,110,101,115]⟩ 1 l (fun W mb b1 b2 b3 hm=>Fy hs hm (v:=Ei 1 292) (by simp[Cl,Bn,Ee]) (fun u hu=>by simpa[Cl,Bn,Ee] using hu)) (fun args w=>enters_of Tryz.func292 (by kernel_rfl) rfl args w) _ F a cap ln cl w hr hF hlen D8 (fun _=>D9) (fun h1 h2 G a' cap' W hG hr' aC hb=>?_);rw[Gj h1 h2];obtain⟨q,rfl⟩:=Kg h2;exact T0 G q.2 a' cap' W hG hr' (Br (hc q (by simp)))
   ·rename_i h_bLines
    split
    ·rename_i h
     obtain rfl:name=⟨#[115,111,114,116,101,100]⟩:=aB h;refine Jq 293 ⟨#[115,111,114,116,101,100]⟩ 1 l (fun W mb b1 b2 b3 hm=>Fy hs hm (v:=Ei 1 293) (by simp[Cl,Bn,Ee]) (fun u hu=>by simpa[Cl,Bn,Ee] using hu)) (fun args w=>enters_of Tryz.func293 (by kernel_rfl) rfl args w) _ F a cap ln cl w hr hF hlen D8 (fun _=>D9) (fun h1 h2 G a' cap' W hG hr' aC hb=>?_);rw[Gj h1 h2];obtain⟨q,rfl⟩:=Kg h2;exact Sf G q.2 a' cap' W hG hr' (Br (hc q (by simp)))
    ·rename_i h_bSorted
     split
     ·rename_i h
      obtain rfl:name=⟨#[115,116,114]⟩:=aB h;refine Jq 294 ⟨#[115,116,114]⟩ 1 l (fun W mb b1 b2 b3 hm=>Fy hs hm (v:=Ei 1 294) (by simp[Cl,Bn,Ee]) (fun u hu=>by simpa[Cl,Bn,Ee] using hu)) (fun args w=>enters_of Tryz.func294 (by kernel_rfl) rfl args w) _ F a cap ln cl w hr hF hlen D8 (fun _=>D9) (fun h1 h2 G a' cap' W hG hr' aC hb=>?_);rw[Gj h1 h2];obtain⟨q,rfl⟩:=Kg h2;exact text_any G q.2 a' cap' W hG (hT.below hb) hr' (Br (hc q (by simp)))
     ·rename_i h_bStr
      split
      ·rename_i h
       obtain rfl:name=⟨#[114,101,112,108,97,99,101]⟩:=aB h;refine Jq 295 ⟨#[114,101,112,108,97,99,101]⟩ 3 l (fun W mb b1 b2 b3 hm=>Fy hs hm (v:=Ei 3 295) (by simp[Cl,Bn,Ee]) (fun u hu=>by simpa[Cl,Bn,Ee] using hu)) (fun args w=>enters_of Tryz.func295 (by kernel_rfl) rfl args w) _ F a cap ln cl w hr hF hlen D8 (fun _=>D9) (fun h1 h2 G a' cap' W hG hr' aC hb=>?_);rw[Gj h1 h2];obtain⟨p,q,r,rfl⟩:=three_at h2;exact Oz G p.2 q.2 r.2 a' cap' W (hB.below hb) hr' (Fm (hc p (by simp))) (Fm (hc q (by simp))) (Fm (hc r (by simp)))
      ·rename_i h_bReplace
       split
       ·rename_i h
        obtain rfl:name=⟨#[115,116,101,109]⟩:=aB h;refine L1 (fun b1 b2 b3=>b1) 297 (fun W b1 b2 b3 h=>Kh h.1) ⟨#[115,116,101,109]⟩ 1 l (fun W mb b1 b2 b3 hm=>Fy hs hm (v:=Iz b1) (by simp[Cl,Bn,Ee]) (fun u hu=>by simpa[Cl,Bn,Ee] using hu)) _ F a cap ln cl w hr hF hlen D8 (fun _=>D9) (fun h1 h2 G a' cap' W hG hr' aC bq aD=>?_);rw[Gj h1 h2];obtain⟨q,rfl⟩:=Kg h2;exact Qo 297 N7 (fun s w h=>stem_any s w h) (fun s h=>stem_len s h) (fun args w=>enters_of Tryz.func297 (by kernel_rfl) rfl args w) G q.2 a' cap' bq W aD hr' (Fm (hc q (by simp)))
       ·rename_i h_bStem
        split
        ·rename_i h
         obtain rfl:name=⟨#[101,120,116]⟩:=aB h;refine L1 (fun b1 b2 b3=>b2) 300 (fun W b1 b2 b3 h=>Kh h.2.1) ⟨#[101,120,116]⟩ 1 l (fun W mb b1 b2 b3 hm=>Fy hs hm (v:=Iz b2) (by simp[Cl,Bn,Ee]) (fun u hu=>by simpa[Cl,Bn,Ee] using hu)) _ F a cap ln cl w hr hF hlen D8 (fun _=>D9) (fun h1 h2 G a' cap' W hG hr' aC bq aD=>?_);rw[Gj h1 h2];obtain⟨q,rfl⟩:=Kg h2;exact Qo 300 Mj (fun s w h=>Up s w h) (fun s h=>ext_len s h) (fun args w=>enters_of Tryz.func300 (by kernel_rfl) rfl args w) G q.2 a' cap' bq W aD hr' (Fm (hc q (by simp)))
        ·rename_i h_bExt
         split
         ·rename_i h
          obtain rfl:name=⟨#[98,97,115,101]⟩:=aB h;refine L1 (fun b1 b2 b3=>b3) 299 (fun W b1 b2 b3 h=>Kh h.2.2) ⟨#[98,97,115,101]⟩ 1 l (fun W mb b1 b2 b3 hm=>Fy hs hm (v:=Iz b3) (by simp[Cl,Bn,Ee]) (fun u hu=>by simpa[Cl,Bn,Ee] using hu)) _ F a cap ln cl w hr hF hlen D8 (fun _=>D9) (fun h1 h2 G a' cap' W hG hr' aC bq aD=>?_);rw[Gj h1 h2];obtain⟨q,rfl⟩:=Kg h2;exact Qo 299 Fb (fun s w h=>Wn s w h) (fun s h=>Nat.le_trans (baseOf_le s) h) (fun args w=>enters_of Tryz.func299 (by kernel_rfl) rfl args w) G q.2 a' cap' bq W aD hr' (Fm (hc q (by simp)))
         ·rename_i h_bBase
          refine Wp name 0 l (fun W mb b1 b2 b3 hm=>Wm hs hm (fun u hu=>?_)) F a cap ln cl w hr hF hlen;simp only[Cl,Bn,Ee,List.cons_append,List.nil_append,List.mem_cons,List.not_mem_nil,or_false,Prod.mk.injEq,Value.string.injEq] at hu;rcases hu with⟨e,-⟩|⟨e,-⟩|⟨e,-⟩|⟨e,-⟩|⟨e,-⟩|⟨e,-⟩|⟨e,-⟩|⟨e,-⟩|⟨e,-⟩
          ·exact h_bLen (by rw[e];rfl)
          ·exact h_bJoin (by rw[e];rfl)
          ·exact h_bLines (by rw[e];rfl)
          ·exact h_bSorted (by rw[e];rfl)
          ·exact h_bStr (by rw[e];rfl)
          ·exact h_bReplace (by rw[e];rfl)
          ·exact h_bStem (by rw[e];rfl)
          ·exact h_bExt (by rw[e];rfl)
          ·exact h_bBase (by rw[e];rfl)
end Go.Proofs.YtbcdimjbepigcaaGreatDoor