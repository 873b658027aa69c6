/-
  The walks of value.plus at what aren't lists. (And what it stands on.)
-/
import Derived.Test.YtlbbbapiklendaaGreatDoorMKeysB
import Derived.Test.YtlbbbapiklendaaGreatDoorMSameG
namespace Go.Proofs.YtlbbbapiklendaaGreatDoor
open Go.IntKind renaming i64->C
open Go.Value renaming int->B,string->E,slice->A
open Option renaming none->D
open Go Go.RowKit
open Nat renaming le_refl->nlr
open Go.Lib renaming hid->Lq7
open And renaming intro->aIn
open Go.RowKit.Below renaming refl->bRf
open Bool renaming and_eq_true->bAt
set_option maxRecDepth 100000
set_option maxHeartbeats 16000000
theorem put_any(c mp mb hv st s v cs l k w)(hm:MS c w mp mb hv st)(hs:s.size<=maxLen)(hc:Ai c.F w (valD v) cs)(hck:Am v=true):
  Calls Tryz.prog 76 #[ptr mp,E s,.agg cs.toArray,.agg #[B C l,B C k]] w (EP mp mb hv Oj Bk c (Kc s v l k st) w):=by
 obtain⟨vk,vn,vs,vl,vks⟩:=v;obtain⟨a1,c1,a2,c2,rfl,hr1,hr2⟩:=hc.val;have Hm:=Lq7 hm;have Hc:=Lq7 hc;have Hck:=Lq7 hck;unfold ptr;have H0:=Lq7 (Gg w (.cells #[B C vk,B C vn,E vs,A a1 vl.length c1,A a2 vks.length c2] 53) (.cells #[B C l,B C k] 24) (.cells #[B C 0,B C 0,B C 0] 75));cases hfx:(fixedV s).isSome with
 | true=>
  have Hr:Hid (Kc s (.mk vk vn vs vl vks) l k st = .err 7 l k):=Lq7 (by unfold Kc;rw[hfx];rfl);have aC:=Lq7 hfx;go_enter Tryz.func76,Tryz.ntmps76;go_wp2_with fail;refine(Ns s _).mono ?_;rintro e w1 ⟨fs,rfl,aA,-,-,fa,fb,f2,rfl⟩;rw[aC.out];have H1:=Lq7 (aIn (stays H0.out.2.1 aA) (aIn (stays H0.out.2.2.1 aA) (H0.out.2.2.2.1.trans (aA.mono H0.out.2.2.2.1.size))));obtain⟨b0,b1,b2,b3,b4⟩:=A8 H1.out.1;obtain⟨d0,d1,d2,d3,d4,d5,d6⟩:=Bh H1.out.2.1;go_wp2_with fail;refine bodyPost_ret (v:=Bk 7 l k) (by simp[Bk,results,Tryz.results76,go_sem,d0,d1,d2,d3]) rfl ?_;rw[Hr.out];have hz:=here H1.out.2.1;exact⟨c,.of_below c ((((H1.out.2.2.setCell (p:=⟨w.heap.size+1+1,0,D⟩) (by show _<=w.heap.size+1+1;omega) _).setCell (p:=⟨w.heap.size+1+1,1,D⟩) (by show _<=w.heap.size+1+1;omega) _).setCell (p:=⟨w.heap.size+1+1,2,D⟩) (by show _<=w.heap.size+1+1;omega) _).alloc (by simp only[World.size_setCell];omega) _),rfl⟩
 | false=>
  have Hr:Hid (Kc s (.mk vk vn vs vl vks) l k st = .ok () { st with names:=putN st.names s (.mk vk vn vs vl vks)}):=Lq7 (by unfold Kc;rw[hfx];rfl);have aC:=Lq7 hfx;go_enter Tryz.func76,Tryz.ntmps76;go_wp2_with fail;refine(Ns s _).mono ?_;rintro e w1 ⟨fs,rfl,aA,-,-,fa,fb,f2,rfl⟩;rw[aC.out];have H1:=Lq7 (aIn (stays H0.out.1 aA) (aIn (stays H0.out.2.2.1 aA) (H0.out.2.2.2.1.trans (aA.mono H0.out.2.2.2.1.size))))
  go_upto_region 4 with fail
  have aD:Below w1.heap.size w1 (w1.alloc (.cells #[B C fa,B C fb,E f2,A D 0 0,A D 0 0] 53)):=(bRf _ w1).alloc (nlr _) _;have H2:=Lq7 (aIn (stays H1.out.1 aD) (aIn (stays H1.out.2.1 aD) (H1.out.2.2.trans (aD.mono H1.out.2.2.size))));generalize World.alloc _ _=W at H2 |-;refine Bm (.s 0 (.s 1 (.s 2 (.s 3 (.s 4 (.s 5 (.h 6 .nil))))))) 6 (fun W'=>W'.heap[mp]? = some (.cells #[.map (some mb),hv.val,B C st.left] 73 (0,0))/\W'.heap[w.heap.size]? = some (.cells #[B C vk,B C vn,E vs,A a1 vl.length c1,A a2 vks.length c2] 53 (0,0))) ⟨(Hm.out.below H2.out.2.2).head,H2.out.1⟩ ?_;have H3:=Lq7 (aIn (stays H2.out.2.1 ((bRf _ W).drew)) (H2.out.2.2.trans (((bRf _ W).drew).mono H2.out.2.2.size)));generalize W.drew=Wd at H3 |-;refine Aw (.pointer (some ⟨mp,0,D⟩)) ?_;refine Aw (.pointer (some ⟨mp,0,D⟩)) ?_;refine Aw (.pointer (some ⟨mp,0,D⟩)) ?_;refine Bp (.map (some mb)) (fun W' hS=>?_) ?_
  ·obtain⟨s0,s1,s2,s3,s4,s5,s6⟩:=Bh hS.1;go_simp
  refine Aw (E s) ?_;refine Bp (.agg #[B C vk,B C vn,E vs,A a1 vl.length c1,A a2 vks.length c2]) (fun W' hS=>?_) ?_
  ·obtain⟨s0,s1,s2,s3,s4,s5,s6,s7,s8,s9,s10⟩:=Aa hS.2;go_simp
  have hmd:=Hm.out.below H3.out.2;have hcd:=Hc.out.below H3.out.2;obtain⟨o,aE,hms⟩:=hmd.store s hs (.mk vk vn vs vl vks) _ hcd Hck.out;have aB:=Lq7 (aIn hms (aIn ((World.putObj_heap_other (by have:=Hm.out.ok.ml mb Hm.out.hb;omega)).trans H3.out.1:(Wd.putObj mb o).heap[w.heap.size+1+1]? = _) (((Mv.of_below c H3.out.2).trans ⟨rfl,rfl,rfl,by simp[World.putObj],fun b _ hn=>World.putObj_heap_other (fun e=>hn (by rw[e];exact Hm.out.hb)),fun _ h=> .inl h,fun _ h=> .inl h⟩:Mv c w c (Wd.putObj mb o)))));have hrun':(Instr.mapUpdate 71 (.map (some mb)) (E s) (.agg #[B C vk,B C vn,E vs,A a1 vl.length c1,A a2 vks.length c2])).run Tryz.prog Wd = .ok () (Wd.putObj mb o):=aE;refine Ae rfl (fun Kx hKx=>?_);go_wp2_with fail;refine hKx _ _ (fun h=>absurd rfl h) ?_;generalize Wd.putObj mb o=W2 at aB |-;refine A2 ?_;(try simp only[gX,Act.put]);obtain⟨d0,d1,d2,d3,d4,d5,d6⟩:=Bh aB.out.2.1;go_wp2_with fail;refine bodyPost_ret (v:=Bk 0 0 0) (by simp[Bk,results,Tryz.results76,go_sem,d1,d2,d3]) rfl ?_;rw[Hr.out];have hz:=here aB.out.2.1;refine⟨c,((aB.out.2.2.set (b:=w.heap.size+1+1) (.inl (by omega)) 0 _).set (b:=w.heap.size+1+1) (.inl (by omega)) 1 _).set (b:=w.heap.size+1+1) (.inl (by omega)) 2 _,?_,_,rfl,rfl⟩;refine aB.out.1.other (by simp) (fun b hb hMF=>?_);have aF:b≠w.heap.size+1+1:=by
   rcases hMF with h|h
   ·have:=Hm.out.ok.ml b h;omega
   ·have:=Hm.out.ok.fl b h;omega
  rw[Ad aF,Ad aF,Ad aF]
def Ck(r:Except Int Vl)(w:World)(e:Ending)(w':World):Prop:=Below w.heap.size w w'/\match r with
 | .ok x=>∃cs:List Value,e = .returned (.tuple #[.agg cs.toArray,B C 0])/\Ai (fun b=>w.heap.size<=b) w' (valD x) cs
 | .error n=>e = .returned (.tuple #[zeroV,B C n])
theorem res_set{w W b c0 c1 c2 c3 c4}(hn:w.heap.size<=b)(hb:Below w.heap.size w W)(hr:W.heap[b]? = some (.cells #[c0,c1,c2,c3,c4] 53 (0,0)))(v0 v1 v2 v3 v4):
  (((((W.setCell ⟨b,0,D⟩ v0).setCell ⟨b,1,D⟩ v1).setCell ⟨b,2,D⟩ v2).setCell ⟨b,3,D⟩ v3).setCell ⟨b,4,D⟩ v4).heap[b]? = some (.cells #[v0,v1,v2,v3,v4] 53 (0,0)) /\
   Below w.heap.size w (((((W.setCell ⟨b,0,D⟩ v0).setCell ⟨b,1,D⟩ v1).setCell ⟨b,2,D⟩ v2).setCell ⟨b,3,D⟩ v3).setCell ⟨b,4,D⟩ v4):=
 ⟨by rw[Af (Af (Af (Af (Af hr 0 _) 1 _) 2 _) 3 _) 4];rfl,((((hb.setCell (p:=⟨b,0,D⟩) hn _).setCell (p:=⟨b,1,D⟩) hn _).setCell (p:=⟨b,2,D⟩) hn _).setCell (p:=⟨b,3,D⟩) hn _).setCell (p:=⟨b,4,D⟩) hn _⟩
def strC(s:ByteArray):Value:=.agg #[B C 3,B C 0,E s,A D 0 0,A D 0 0]
theorem Ai.str(F w s):Ai F w (valD (Fx s)) [B C 3,B C 0,E s,A D 0 0,A D 0 0]:=
 Ai.val_mk (l:=[]) (ks:=[]) _ _ _ _ _ (Ac.nil _) (Ac.nil _)
theorem Ai.int(F w n):Ai F w (valD (.mk 2 n ⟨#[]⟩ [] [])) [B C 2,B C n,E ⟨#[]⟩,A D 0 0,A D 0 0]:=
 Ai.val_mk (l:=[]) (ks:=[]) _ _ _ _ _ (Ac.nil _) (Ac.nil _)
theorem Ve(s w):Calls Tryz.prog 123 #[E s] w (fun e w'=>e = .returned (strC s)/\Below w.heap.size w w'):=by
 go_enter Tryz.func123,Tryz.ntmps123;go_wp2;exact bodyPost_ret (v:=strC s) (by simp[strC,results,Tryz.results123,go_sem]) rfl ⟨rfl,((bRf _ w).alloc (nlr _) _)⟩
def Cb(s:ByteArray):Except Int Vl:=if 65536<s.size then .error 6 else .ok (Fx s)
theorem E3(s w)(hs:s.size<=9223372036854775807):Calls Tryz.prog 281 #[E s] w (Ck (Cb s) w):=by
 have aA:Below w.heap.size w (w.alloc (.cells #[B C 0,B C 0,E ⟨#[]⟩,A D 0 0,A D 0 0] 53)):=(bRf _ w).alloc (nlr _) _;by_cases hl:65536<s.size
 ·have Hr:Hid (Cb s = .error 6):=Lq7 (by unfold Cb;rw[if_pos hl]);have hl':(65536:Int)<s.size:=(by omega);go_enter Tryz.func281,Tryz.ntmps281;go_wp2_with fail;refine bodyPost_ret (v:=.tuple #[zeroV,B C 6]) (by simp[zeroV,results,Tryz.results281,go_sem]) rfl ?_;rw[Hr.out];exact⟨((bRf _ w).alloc (nlr _) _),rfl⟩
 ·have Hr:Hid (Cb s = .ok (Fx s)):=Lq7 (by unfold Cb;rw[if_neg hl]);have hl':¬(65536:Int)<s.size:=(by omega);have H0:=Lq7 (heap_alloc_new w (.cells #[B C 0,B C 0,E ⟨#[]⟩,A D 0 0,A D 0 0] 53));go_enter Tryz.func281,Tryz.ntmps281;go_wp2_with fail;refine(Ve s _).mono ?_;rintro e w1 ⟨rfl,aB⟩;obtain⟨r0,r1,r2,r3,r4,r5,r6,r7,r8,r9,r10⟩:=Aa (stays H0.out aB);have Hb1:=Lq7 (aA.trans (aB.mono aA.size));clear aB aA;unfold strC;go_wp2_with fail;refine bodyPost_ret (v:=.tuple #[strC s,B C 0]) (by simp[strC,results,Tryz.results281,go_sem,r1,r2,r3,r4,r5]) rfl ?_;rw[Hr.out];refine⟨((((Hb1.out.setCell (p:=⟨w.heap.size,0,D⟩) (nlr _) _).setCell (p:=⟨w.heap.size,1,D⟩) (nlr _) _).setCell (p:=⟨w.heap.size,2,D⟩) (nlr _) _).setCell (p:=⟨w.heap.size,3,D⟩) (nlr _) _).setCell (p:=⟨w.heap.size,4,D⟩) (nlr _) _,_,rfl,Ai.str _ _ s⟩
def Gt(v:Vl):Except Int Vl:=if v.kind=3 then .ok (.mk 2 v.str.size ⟨#[]⟩ [] []) else if v.kind=4\/v.kind=5 then .ok (.mk 2 v.items.length ⟨#[]⟩ [] []) else .error 9
theorem Vf(F n s l ks a cap w)(hr:Ac F w a (Ar [.mk 4 n s l ks]))(_hl:l.length<=140737488355328):
  Calls Tryz.prog 270 #[A a 1 cap] w (Ck (Gt (.mk 4 n s l ks)) w):=by
 obtain⟨b,off,a1,c1,a2,c2,rfl,-,hbl,q0,q1,q2,q3,q4,-,-⟩:=hr.val (j:=0) rfl;simp only[Nat.zero_mul,Nat.add_zero] at q0 q1 q2 q3 q4;go_enter Tryz.func270,Tryz.ntmps270;go_wp2_with fail;refine bodyPost_ret (v:=.tuple #[.agg #[B C 2,B C l.length,E ⟨#[]⟩,A D 0 0,A D 0 0],B C 0]) (by simp[results,Tryz.results270,go_sem]) rfl ?_;rw[show Gt (.mk 4 n s l ks) = .ok (.mk 2 l.length ⟨#[]⟩ [] []) from rfl];exact⟨((bRf _ w).alloc (nlr _) _).alloc (by simp) _,_,rfl,Ai.int _ _ _⟩
theorem Jo(b w):Calls Tryz.prog 192 #[.bool b] w (Ck (.ok (truthL b)) w):=by
 have Hb:=Lq7 (fun o1 o2=>((bRf w.heap.size w).alloc (nlr _) o1).alloc (by simp) o2);cases b with
 | true=>
  go_enter Tryz.func192,Tryz.ntmps192;go_wp2_with fail;refine bodyPost_ret (v:=.tuple #[.agg #[B C 1,B C 1,E ⟨#[]⟩,A D 0 0,A D 0 0],B C 0]) (by simp[results,Tryz.results192,go_sem]) rfl ?_;exact⟨Hb.out _ _,_,rfl,Ai.val_mk (l:=[]) (ks:=[]) (a:=D) (a':=D) _ _ _ _ _ (Ac.nil _) (Ac.nil _)⟩
 | false=>
  go_enter Tryz.func192,Tryz.ntmps192;go_wp2_with fail;refine bodyPost_ret (v:=.tuple #[.agg #[B C 1,B C 0,E ⟨#[]⟩,A D 0 0,A D 0 0],B C 0]) (by simp[results,Tryz.results192,go_sem]) rfl ?_;exact⟨Hb.out _ _,_,rfl,Ai.val_mk (l:=[]) (ks:=[]) (a:=D) (a':=D) _ _ _ _ _ (Ac.nil _) (Ac.nil _)⟩
theorem F2(w o1 o2 o3):Below w.heap.size w (((w.alloc o1).alloc o2).alloc o3):=(((bRf _ w).alloc (nlr _) _).alloc (by simp) _).alloc (by simp;omega) _
theorem plus_int(x y)(hx:inR x=true)(hy:inR y=true)(s s' a1 a2 a3 a4 n1 c1 n2 c2 n3 c3 n4 c4 w):
  Calls Tryz.prog 194 #[A4 2 x s a1 n1 c1 a2 n2 c2,A4 2 y s' a3 n3 c3 a4 n4 c4] w (Ck (if inR (x+y)=true then .ok (intL (x+y)) else .error 2) w):=by
 unfold A4;have Hb:=Lq7 (F2 w);unfold inR at hx hy;simp only[bAt,decide_eq_true_eq] at hx hy;obtain⟨hx0,hx1⟩:=hx;obtain⟨hy0,hy1⟩:=hy;by_cases hin:inR (x+y)=true
 ·rw[if_pos hin];unfold inR at hin;simp only[bAt,decide_eq_true_eq] at hin;obtain⟨hs0,hs1⟩:=hin;by_cases hp:0<y
  ·have aA:(y==0)=false:=(by simp;omega);have h3:(y != 0)=true:=(by simp[bne,aA]);have h4:x<x+y:=(by omega);go_enter Tryz.func194,Tryz.ntmps194;go_wp2_with fail;refine bodyPost_ret (v:=.tuple #[.agg #[B C 2,B C (x+y),E ⟨#[]⟩,A D 0 0,A D 0 0],B C 0]) (by simp[results,Tryz.results194,go_sem]) rfl ?_;exact⟨Hb.out _ _ _,_,rfl,Ai.int _ _ _⟩
  ·by_cases hz:y=0
   ·subst hz;have aB:x+0=x:=Int.add_zero x;rw[aB];go_enter Tryz.func194,Tryz.ntmps194;go_wp2_with fail;refine bodyPost_ret (v:=.tuple #[.agg #[B C 2,B C x,E ⟨#[]⟩,A D 0 0,A D 0 0],B C 0]) (by simp[results,Tryz.results194,go_sem]) rfl ?_;exact⟨Hb.out _ _ _,_,rfl,Ai.int _ _ _⟩
   ·have aA:(y==0)=false:=(by simp;omega);have h3:(y != 0)=true:=(by simp[bne,aA]);have h4:¬x<x+y:=(by omega);go_enter Tryz.func194,Tryz.ntmps194;go_wp2_with fail;refine bodyPost_ret (v:=.tuple #[.agg #[B C 2,B C (x+y),E ⟨#[]⟩,A D 0 0,A D 0 0],B C 0]) (by simp[results,Tryz.results194,go_sem]) rfl ?_;exact⟨Hb.out _ _ _,_,rfl,Ai.int _ _ _⟩
 ·rw[if_neg hin];have aC:x+y < -9223372036854775808\/9223372036854775807<x+y:=by
   unfold inR at hin;simp only[bAt,decide_eq_true_eq] at hin;omega
  clear hin;rcases aC with h|h
  ·have hw:wrap64 (x+y)=x+y+18446744073709551616:=(by unfold wrap64;omega);have h4:x<x+y+18446744073709551616:=(by omega);have hp:¬0<y:=(by omega);have aA:(y==0)=false:=(by simp;omega);have h3:(y != 0)=true:=(by simp[bne,aA]);go_enter Tryz.func194,Tryz.ntmps194;go_wp2_with fail;refine bodyPost_ret (v:=.tuple #[.agg #[B C 0,B C 0,E ⟨#[]⟩,A D 0 0,A D 0 0],B C 2]) (by simp[results,Tryz.results194,go_sem]) rfl ?_;exact⟨Hb.out _ _ _,rfl⟩
  ·have hw:wrap64 (x+y)=x+y - 18446744073709551616:=(by unfold wrap64;omega);have h4:¬x<x+y - 18446744073709551616:=(by omega);have hp:0<y:=(by omega);have aA:(y==0)=false:=(by simp;omega);have h3:(y != 0)=true:=(by simp[bne,aA]);go_enter Tryz.func194,Tryz.ntmps194;go_wp2_with fail;refine bodyPost_ret (v:=.tuple #[.agg #[B C 0,B C 0,E ⟨#[]⟩,A D 0 0,A D 0 0],B C 2]) (by simp[results,Tryz.results194,go_sem]) rfl ?_;exact⟨Hb.out _ _ _,rfl⟩
theorem Yx(k k')(hk:¬k=k')(x y s s' a1 a2 a3 a4 n1 c1 n2 c2 n3 c3 n4 c4 w):
  Calls Tryz.prog 194 #[A4 k x s a1 n1 c1 a2 n2 c2,A4 k' y s' a3 n3 c3 a4 n4 c4] w (Ck (.error 9) w):=by
 unfold A4;have Hb:=Lq7 (F2 w);have h1:(k==k')=false:=(by simpa using hk);have h2:(k != k')=true:=(by simpa using hk);go_enter Tryz.func194,Tryz.ntmps194;go_wp2_with fail;refine bodyPost_ret (v:=.tuple #[.agg #[B C 0,B C 0,E ⟨#[]⟩,A D 0 0,A D 0 0],B C 9]) (by simp[results,Tryz.results194,go_sem]) rfl ?_;exact⟨Hb.out _ _ _,rfl⟩
theorem Yy(k)(h2:¬k=2)(h3:¬k=3)(h4:¬k=4)(x y s s' a1 a2 a3 a4 n1 c1 n2 c2 n3 c3 n4 c4 w):
  Calls Tryz.prog 194 #[A4 k x s a1 n1 c1 a2 n2 c2,A4 k y s' a3 n3 c3 a4 n4 c4] w (Ck (.error 9) w):=by
 unfold A4;have Hb:=Lq7 (F2 w);have e2:(k==2)=false:=(by simpa using h2);have e3:(k==3)=false:=(by simpa using h3);have e4:(k==4)=false:=(by simpa using h4);go_enter Tryz.func194,Tryz.ntmps194;go_wp2_with fail;refine bodyPost_ret (v:=.tuple #[.agg #[B C 0,B C 0,E ⟨#[]⟩,A D 0 0,A D 0 0],B C 9]) (by simp[results,Tryz.results194,go_sem]) rfl ?_;exact⟨Hb.out _ _ _,rfl⟩
theorem plus_str(x y s s')(hs:s.size<=65536)(hs':s'.size<=65536)(a1 a2 a3 a4 n1 c1 n2 c2 n3 c3 n4 c4 w):
  Calls Tryz.prog 194 #[A4 3 x s a1 n1 c1 a2 n2 c2,A4 3 y s' a3 n3 c3 a4 n4 c4] w (Ck (if 65536<s.size+s'.size then .error 6 else .ok (Fx (s++s'))) w):=by
 unfold A4;have Hb:=Lq7 (F2 w);by_cases hl:65536<s.size+s'.size
 ·rw[if_pos hl];have hl2:(65536:Int)<(s.size:Int)+(s'.size:Int):=(by omega);go_enter Tryz.func194,Tryz.ntmps194;go_wp2_with fail;refine bodyPost_ret (v:=.tuple #[.agg #[B C 0,B C 0,E ⟨#[]⟩,A D 0 0,A D 0 0],B C 6]) (by simp[results,Tryz.results194,go_sem]) rfl ?_;exact⟨Hb.out _ _ _,rfl⟩
 ·rw[if_neg hl];have hl2:¬(65536:Int)<(s.size:Int)+(s'.size:Int):=(by omega);go_enter Tryz.func194,Tryz.ntmps194;go_wp2_with fail;refine bodyPost_ret (v:=.tuple #[.agg #[B C 3,B C 0,E (s++s'),A D 0 0,A D 0 0],B C 0]) (by simp[results,Tryz.results194,go_sem]) rfl ?_;exact⟨Hb.out _ _ _,_,rfl,Ai.str _ _ _⟩
end Go.Proofs.YtlbbbapiklendaaGreatDoor
