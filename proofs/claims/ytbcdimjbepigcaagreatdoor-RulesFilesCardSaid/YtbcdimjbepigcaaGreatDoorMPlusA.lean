/-
  The walks of value.plus at what aren't lists. (And what it stands on.)
-/
import Derived.Deep.DeepCutAuto
import Derived.Test.YtbcdimjbepigcaaGreatDoorMKeysB
import Derived.Test.YtbcdimjbepigcaaGreatDoorMSameG
import Derived.Test.YtbcdimjbepigcaaGreatDoorMParseNz
namespace Go.Proofs.YtbcdimjbepigcaaGreatDoor
open Go Go.RowKit
open Nat renaming le_refl->nlr
open Go.Lib renaming hid->Lq7
open And renaming intro->aIn
open Go.RowKit.Below renaming refl->bRf
open Bool renaming and_eq_true->bAt
set_option maxRecDepth 100000
set_option maxHeartbeats 16000000
theorem put_any(c mp mb hv st s v cs l k w)(hm:MS c w mp mb hv st)(hs:s.size<=maxLen)(hc:Am c.F w (valD v) cs)(hck:A0 v=true):
  Calls Tryz.prog 118 #[ptr mp,.string s,.agg cs.toArray,.agg #[.int .i64 l,.int .i64 k]] w (EP mp mb hv M9 Ai c (Jb s v l k st) w):=by
 obtain⟨vk,vn,vs,vl,vks⟩:=v;obtain⟨a1,c1,a2,c2,rfl,hr1,hr2⟩:=hc.val;have Hm:=Lq7 hm;have Hc:=Lq7 hc;have Hck:=Lq7 hck;unfold ptr;have H0:=Lq7 (Ch w (.cells #[.int .i64 vk,.int .i64 vn,.string vs,.slice a1 vl.length c1,.slice a2 vks.length c2] 42) (.cells #[.int .i64 l,.int .i64 k] 28) (.cells #[.int .i64 0,.int .i64 0,.int .i64 0] 95));cases hfx:(C0 s).isSome with
 | true=>
  have Hr:Hid (Jb s (.mk vk vn vs vl vks) l k st = .err 7 l k):=Lq7 (by unfold Jb;rw[hfx];rfl);have aD:=Lq7 hfx;go_enter Tryz.func118,Tryz.ntmps118;go_wp2_with fail;refine(Hu s _).mono ?_;rintro e w1 ⟨fs,rfl,aB,-,-,fa,fb,f2,rfl⟩;rw[aD.out];have H1:=Lq7 (aIn (stays H0.out.2.1 aB) (aIn (stays H0.out.2.2.1 aB) (H0.out.2.2.2.1.trans (aB.mono H0.out.2.2.2.1.size))));obtain⟨b0,b1,b2,b3,b4⟩:=Av H1.out.1;obtain⟨d0,d1,d2,d3,d4,d5,d6⟩:=Ah H1.out.2.1;go_wp2_with fail;refine bodyPost_ret (v:=Ai 7 l k) (by simp[Ai,results,Tryz.results118,go_sem,d0,d1,d2,d3]) rfl ?_;rw[Hr.out];have hz:=here H1.out.2.1;exact⟨c,.of_below c ((((H1.out.2.2.setCell (p:=⟨w.heap.size+1+1,0,none⟩) (by show _<=w.heap.size+1+1;omega) _).setCell (p:=⟨w.heap.size+1+1,1,none⟩) (by show _<=w.heap.size+1+1;omega) _).setCell (p:=⟨w.heap.size+1+1,2,none⟩) (by show _<=w.heap.size+1+1;omega) _).alloc (by simp only[World.size_setCell];omega) _),rfl⟩
 | false=>
  have Hr:Hid (Jb s (.mk vk vn vs vl vks) l k st = .ok () { st with names:=putN st.names s (.mk vk vn vs vl vks)}):=Lq7 (by unfold Jb;rw[hfx];rfl);have aD:=Lq7 hfx;go_enter Tryz.func118,Tryz.ntmps118;go_wp2_with fail;refine(Hu s _).mono ?_;rintro e w1 ⟨fs,rfl,aB,-,-,fa,fb,f2,rfl⟩;rw[aD.out];have H1:=Lq7 (aIn (stays H0.out.1 aB) (aIn (stays H0.out.2.2.1 aB) (H0.out.2.2.2.1.trans (aB.mono H0.out.2.2.2.1.size))))
  go_upto_region 4 with fail
  have aE:Below w1.heap.size w1 (w1.alloc (.cells #[.int .i64 fa,.int .i64 fb,.string f2,.slice none 0 0,.slice none 0 0] 42)):=(bRf _ w1).alloc (nlr _) _;have H2:=Lq7 (aIn (stays H1.out.1 aE) (aIn (stays H1.out.2.1 aE) (H1.out.2.2.trans (aE.mono H1.out.2.2.size))));generalize World.alloc _ _=W at H2 |-;refine A4 (.s 0 (.s 1 (.s 2 (.s 3 (.s 4 (.s 5 (.h 6 .nil))))))) 6 (fun W'=>W'.heap[mp]? = some (.cells #[.map (some mb),hv.val,.int .i64 st.left] 93 (0,0))/\W'.heap[w.heap.size]? = some (.cells #[.int .i64 vk,.int .i64 vn,.string vs,.slice a1 vl.length c1,.slice a2 vks.length c2] 42 (0,0))) ⟨(Hm.out.below H2.out.2.2).head,H2.out.1⟩ ?_;have H3:=Lq7 (aIn (stays H2.out.2.1 ((bRf _ W).drew)) (H2.out.2.2.trans (((bRf _ W).drew).mono H2.out.2.2.size)));generalize W.drew=Wd at H3 |-;refine Aj (.pointer (some ⟨mp,0,none⟩)) ?_;refine Aj (.pointer (some ⟨mp,0,none⟩)) ?_;refine Aj (.pointer (some ⟨mp,0,none⟩)) ?_;refine A9 (.map (some mb)) (fun W' hS=>?_) ?_
  ·obtain⟨s0,s1,s2,s3,s4,s5,s6⟩:=Ah hS.1;go_simp
  refine Aj (.string s) ?_;refine A9 (.agg #[.int .i64 vk,.int .i64 vn,.string vs,.slice a1 vl.length c1,.slice a2 vks.length c2]) (fun W' hS=>?_) ?_
  ·obtain⟨s0,s1,s2,s3,s4,s5,s6,s7,s8,s9,s10⟩:=Aa hS.2;go_simp
  have hmd:=Hm.out.below H3.out.2;have hcd:=Hc.out.below H3.out.2;obtain⟨o,aF,hms⟩:=hmd.store s hs (.mk vk vn vs vl vks) _ hcd Hck.out;have aC:=Lq7 (aIn hms (aIn ((World.putObj_heap_other (by have:=Hm.out.ok.ml mb Hm.out.hb;omega)).trans H3.out.1:(Wd.putObj mb o).heap[w.heap.size+1+1]? = _) (((Mv.of_below c H3.out.2).trans ⟨rfl,rfl,rfl,by simp[World.putObj],fun b _ hn=>World.putObj_heap_other (fun e=>hn (by rw[e];exact Hm.out.hb)),fun _ h=> .inl h,fun _ h=> .inl h⟩:Mv c w c (Wd.putObj mb o)))));have hrun':(Instr.mapUpdate 91 (.map (some mb)) (.string s) (.agg #[.int .i64 vk,.int .i64 vn,.string vs,.slice a1 vl.length c1,.slice a2 vks.length c2])).run Tryz.prog Wd = .ok () (Wd.putObj mb o):=aF;refine Ac rfl (fun Kx hKx=>?_);go_wp2_with fail;refine hKx _ _ (fun h=>absurd rfl h) ?_;generalize Wd.putObj mb o=W2 at aC |-;refine Ak ?_;(try simp only[gX,Act.put]);obtain⟨d0,d1,d2,d3,d4,d5,d6⟩:=Ah aC.out.2.1;go_wp2_with fail;refine bodyPost_ret (v:=Ai 0 0 0) (by simp[Ai,results,Tryz.results118,go_sem,d1,d2,d3]) rfl ?_;rw[Hr.out];have hz:=here aC.out.2.1;refine⟨c,((aC.out.2.2.set (b:=w.heap.size+1+1) (.inl (by omega)) 0 _).set (b:=w.heap.size+1+1) (.inl (by omega)) 1 _).set (b:=w.heap.size+1+1) (.inl (by omega)) 2 _,?_,_,rfl,rfl⟩;refine aC.out.1.other (by simp) (fun b hb hMF=>?_);have aG:b≠w.heap.size+1+1:=by
   rcases hMF with h|h
   ·have:=Hm.out.ok.ml b h;omega
   ·have:=Hm.out.ok.fl b h;omega
  rw[Ad aG,Ad aG,Ad aG]
def Cm(r:Except Int Vl)(w:World)(e:Ending)(w':World):Prop:=Below w.heap.size w w'/\match r with
 | .ok x=>∃cs:List Value,e = .returned (.tuple #[.agg cs.toArray,.int .i64 0])/\Am (fun b=>w.heap.size<=b) w' (valD x) cs
 | .error n=>e = .returned (.tuple #[zeroV,.int .i64 n])
theorem res_set{w W b c0 c1 c2 c3 c4}(hn:w.heap.size<=b)(hb:Below w.heap.size w W)(hr:W.heap[b]? = some (.cells #[c0,c1,c2,c3,c4] 42 (0,0)))(v0 v1 v2 v3 v4):
  (((((W.setCell ⟨b,0,none⟩ v0).setCell ⟨b,1,none⟩ v1).setCell ⟨b,2,none⟩ v2).setCell ⟨b,3,none⟩ v3).setCell ⟨b,4,none⟩ v4).heap[b]? = some (.cells #[v0,v1,v2,v3,v4] 42 (0,0)) /\
   Below w.heap.size w (((((W.setCell ⟨b,0,none⟩ v0).setCell ⟨b,1,none⟩ v1).setCell ⟨b,2,none⟩ v2).setCell ⟨b,3,none⟩ v3).setCell ⟨b,4,none⟩ v4):=
 ⟨by rw[Ag (Ag (Ag (Ag (Ag hr 0 _) 1 _) 2 _) 3 _) 4];rfl,((((hb.setCell (p:=⟨b,0,none⟩) hn _).setCell (p:=⟨b,1,none⟩) hn _).setCell (p:=⟨b,2,none⟩) hn _).setCell (p:=⟨b,3,none⟩) hn _).setCell (p:=⟨b,4,none⟩) hn _⟩
def strC(s:ByteArray):Value:=.agg #[.int .i64 3,.int .i64 0,.string s,.slice none 0 0,.slice none 0 0]
theorem Am.str(F w s):Am F w (valD (Fk s)) [.int .i64 3,.int .i64 0,.string s,.slice none 0 0,.slice none 0 0]:=
 Am.val_mk (l:=[]) (ks:=[]) _ _ _ _ _ (Af.nil _) (Af.nil _)
theorem Am.int(F w n):Am F w (valD (.mk 2 n ⟨#[]⟩ [] [])) [.int .i64 2,.int .i64 n,.string ⟨#[]⟩,.slice none 0 0,.slice none 0 0]:=
 Am.val_mk (l:=[]) (ks:=[]) _ _ _ _ _ (Af.nil _) (Af.nil _)
theorem Ro(s w):Calls Tryz.prog 166 #[.string s] w (fun e w'=>e = .returned (strC s)/\Below w.heap.size w w'):=by
 go_enter Tryz.func166,Tryz.ntmps166;go_wp2;exact bodyPost_ret (v:=strC s) (by simp[strC,results,Tryz.results166,go_sem]) rfl ⟨rfl,((bRf _ w).alloc (nlr _) _)⟩
def B8(s:ByteArray):Except Int Vl:=if 65536<s.size then .error 6 else .ok (Fk s)
theorem Ep(s w)(hs:s.size<=9223372036854775807):Calls Tryz.prog 301 #[.string s] w (Cm (B8 s) w):=by
 have aB:Below w.heap.size w (w.alloc (.cells #[.int .i64 0,.int .i64 0,.string ⟨#[]⟩,.slice none 0 0,.slice none 0 0] 42)):=(bRf _ w).alloc (nlr _) _;by_cases hl:65536<s.size
 ·have Hr:Hid (B8 s = .error 6):=Lq7 (by unfold B8;rw[if_pos hl]);have hl':(65536:Int)<s.size:=(by omega);go_enter Tryz.func301,Tryz.ntmps301;go_wp2_with fail;refine bodyPost_ret (v:=.tuple #[zeroV,.int .i64 6]) (by simp[zeroV,results,Tryz.results301,go_sem]) rfl ?_;rw[Hr.out];exact⟨((bRf _ w).alloc (nlr _) _),rfl⟩
 ·have Hr:Hid (B8 s = .ok (Fk s)):=Lq7 (by unfold B8;rw[if_neg hl]);have hl':¬(65536:Int)<s.size:=(by omega);have H0:=Lq7 (heap_alloc_new w (.cells #[.int .i64 0,.int .i64 0,.string ⟨#[]⟩,.slice none 0 0,.slice none 0 0] 42));go_enter Tryz.func301,Tryz.ntmps301;go_wp2_with fail;refine(Ro s _).mono ?_;rintro e w1 ⟨rfl,aC⟩;obtain⟨r0,r1,r2,r3,r4,r5,r6,r7,r8,r9,r10⟩:=Aa (stays H0.out aC);have Hb1:=Lq7 (aB.trans (aC.mono aB.size));clear aC aB;unfold strC;go_wp2_with fail;refine bodyPost_ret (v:=.tuple #[strC s,.int .i64 0]) (by simp[strC,results,Tryz.results301,go_sem,r1,r2,r3,r4,r5]) rfl ?_;rw[Hr.out];refine⟨((((Hb1.out.setCell (p:=⟨w.heap.size,0,none⟩) (nlr _) _).setCell (p:=⟨w.heap.size,1,none⟩) (nlr _) _).setCell (p:=⟨w.heap.size,2,none⟩) (nlr _) _).setCell (p:=⟨w.heap.size,3,none⟩) (nlr _) _).setCell (p:=⟨w.heap.size,4,none⟩) (nlr _) _,_,rfl,Am.str _ _ s⟩
def F6(v:Vl):Except Int Vl:=if v.kind=3 then .ok (.mk 2 v.str.size ⟨#[]⟩ [] []) else if v.kind=4\/v.kind=5 then .ok (.mk 2 v.items.length ⟨#[]⟩ [] []) else .error 9
theorem Rp(F n s l ks a cap w)(hr:Af F w a (Ar [.mk 4 n s l ks]))(_hl:l.length<=140737488355328):
  Calls Tryz.prog 290 #[.slice a 1 cap] w (Cm (F6 (.mk 4 n s l ks)) w):=by
 obtain⟨b,off,a1,c1,a2,c2,rfl,-,hbl,q0,q1,q2,q3,q4,-,-⟩:=hr.val (j:=0) rfl;simp only[Nat.zero_mul,Nat.add_zero] at q0 q1 q2 q3 q4;go_enter Tryz.func290,Tryz.ntmps290;go_wp2_with fail;refine bodyPost_ret (v:=.tuple #[.agg #[.int .i64 2,.int .i64 l.length,.string ⟨#[]⟩,.slice none 0 0,.slice none 0 0],.int .i64 0]) (by simp[results,Tryz.results290,go_sem]) rfl ?_;rw[show F6 (.mk 4 n s l ks) = .ok (.mk 2 l.length ⟨#[]⟩ [] []) from rfl];exact⟨((bRf _ w).alloc (nlr _) _).alloc (by simp) _,_,rfl,Am.int _ _ _⟩
theorem Im(b w):Calls Tryz.prog 234 #[.bool b] w (Cm (.ok (truthL b)) w):=by
 have Hb:=Lq7 (fun o1 o2=>((bRf w.heap.size w).alloc (nlr _) o1).alloc (by simp) o2);cases b with
 | true=>
  go_enter Tryz.func234,Tryz.ntmps234;go_wp2_with fail;refine bodyPost_ret (v:=.tuple #[.agg #[.int .i64 1,.int .i64 1,.string ⟨#[]⟩,.slice none 0 0,.slice none 0 0],.int .i64 0]) (by simp[results,Tryz.results234,go_sem]) rfl ?_;exact⟨Hb.out _ _,_,rfl,Am.val_mk (l:=[]) (ks:=[]) (a:=none) (a':=none) _ _ _ _ _ (Af.nil _) (Af.nil _)⟩
 | false=>
  go_enter Tryz.func234,Tryz.ntmps234;go_wp2_with fail;refine bodyPost_ret (v:=.tuple #[.agg #[.int .i64 1,.int .i64 0,.string ⟨#[]⟩,.slice none 0 0,.slice none 0 0],.int .i64 0]) (by simp[results,Tryz.results234,go_sem]) rfl ?_;exact⟨Hb.out _ _,_,rfl,Am.val_mk (l:=[]) (ks:=[]) (a:=none) (a':=none) _ _ _ _ _ (Af.nil _) (Af.nil _)⟩
theorem Fo(w o1 o2 o3):Below w.heap.size w (((w.alloc o1).alloc o2).alloc o3):=(((bRf _ w).alloc (nlr _) _).alloc (by simp) _).alloc (by simp;omega) _
theorem plus_int(x y)(hx:inR x=true)(hy:inR y=true)(s s' a1 a2 a3 a4 n1 c1 n2 c2 n3 c3 n4 c4 w):
  Calls Tryz.prog 236 #[A8 2 x s a1 n1 c1 a2 n2 c2,A8 2 y s' a3 n3 c3 a4 n4 c4] w (Cm (if inR (x+y)=true then .ok (intL (x+y)) else .error 2) w):=by
 unfold A8;have Hb:=Lq7 (Fo w);unfold inR at hx hy;simp only[bAt,decide_eq_true_eq] at hx hy;obtain⟨hx0,hx1⟩:=hx;obtain⟨hy0,hy1⟩:=hy;by_cases hin:inR (x+y)=true
 ·rw[if_pos hin];unfold inR at hin;simp only[bAt,decide_eq_true_eq] at hin;obtain⟨hs0,hs1⟩:=hin;by_cases hp:0<y
  ·have aB:(y==0)=false:=(by simp;omega);have h3:(y != 0)=true:=(by simp[bne,aB]);have h4:x<x+y:=(by omega);go_enter Tryz.func236,Tryz.ntmps236;go_wp2_with fail;refine bodyPost_ret (v:=.tuple #[.agg #[.int .i64 2,.int .i64 (x+y),.string ⟨#[]⟩,.slice none 0 0,.slice none 0 0],.int .i64 0]) (by simp[results,Tryz.results236,go_sem]) rfl ?_;exact⟨Hb.out _ _ _,_,rfl,Am.int _ _ _⟩
  ·by_cases hz:y=0
   ·subst hz;have aC:x+0=x:=Int.add_zero x;rw[aC];go_enter Tryz.func236,Tryz.ntmps236;go_wp2_with fail;refine bodyPost_ret (v:=.tuple #[.agg #[.int .i64 2,.int .i64 x,.string ⟨#[]⟩,.slice none 0 0,.slice none 0 0],.int .i64 0]) (by simp[results,Tryz.results236,go_sem]) rfl ?_;exact⟨Hb.out _ _ _,_,rfl,Am.int _ _ _⟩
   ·have aB:(y==0)=false:=(by simp;omega);have h3:(y != 0)=true:=(by simp[bne,aB]);have h4:¬x<x+y:=(by omega);go_enter Tryz.func236,Tryz.ntmps236;go_wp2_with fail;refine bodyPost_ret (v:=.tuple #[.agg #[.int .i64 2,.int .i64 (x+y),.string ⟨#[]⟩,.slice none 0 0,.slice none 0 0],.int .i64 0]) (by simp[results,Tryz.results236,go_sem]) rfl ?_;exact⟨Hb.out _ _ _,_,rfl,Am.int _ _ _⟩
 ·rw[if_neg hin];have aD:x+y < -9223372036854775808\/9223372036854775807<x+y:=by
   unfold inR at hin;simp only[bAt,decide_eq_true_eq] at hin;omega
  clear hin;rcases aD with h|h
  ·have hw:wrap64 (x+y)=x+y+18446744073709551616:=(by unfold wrap64;omega);have h4:x<x+y+18446744073709551616:=(by omega);have hp:¬0<y:=(by omega);have aB:(y==0)=false:=(by simp;omega);have h3:(y != 0)=true:=(by simp[bne,aB]);go_enter Tryz.func236,Tryz.ntmps236;go_wp2_with fail;refine bodyPost_ret (v:=.tuple #[.agg #[.int .i64 0,.int .i64 0,.string ⟨#[]⟩,.slice none 0 0,.slice none 0 0],.int .i64 2]) (by simp[results,Tryz.results236,go_sem]) rfl ?_;exact⟨Hb.out _ _ _,rfl⟩
  ·have hw:wrap64 (x+y)=x+y - 18446744073709551616:=(by unfold wrap64;omega);have h4:¬x<x+y - 18446744073709551616:=(by omega);have hp:0<y:=(by omega);have aB:(y==0)=false:=(by simp;omega);have h3:(y != 0)=true:=(by simp[bne,aB]);go_enter Tryz.func236,Tryz.ntmps236;go_wp2_with fail;refine bodyPost_ret (v:=.tuple #[.agg #[.int .i64 0,.int .i64 0,.string ⟨#[]⟩,.slice none 0 0,.slice none 0 0],.int .i64 2]) (by simp[results,Tryz.results236,go_sem]) rfl ?_;exact⟨Hb.out _ _ _,rfl⟩
theorem T3(k k')(hk:¬k=k')(x y s s' a1 a2 a3 a4 n1 c1 n2 c2 n3 c3 n4 c4 w):
  Calls Tryz.prog 236 #[A8 k x s a1 n1 c1 a2 n2 c2,A8 k' y s' a3 n3 c3 a4 n4 c4] w (Cm (.error 9) w):=by
 unfold A8;have Hb:=Lq7 (Fo w);have h1:(k==k')=false:=(by simpa using hk);have h2:(k != k')=true:=(by simpa using hk);go_enter Tryz.func236,Tryz.ntmps236;go_wp2_with fail;refine bodyPost_ret (v:=.tuple #[.agg #[.int .i64 0,.int .i64 0,.string ⟨#[]⟩,.slice none 0 0,.slice none 0 0],.int .i64 9]) (by simp[results,Tryz.results236,go_sem]) rfl ?_;exact⟨Hb.out _ _ _,rfl⟩
theorem T4(k)(h2:¬k=2)(h3:¬k=3)(h4:¬k=4)(x y s s' a1 a2 a3 a4 n1 c1 n2 c2 n3 c3 n4 c4 w):
  Calls Tryz.prog 236 #[A8 k x s a1 n1 c1 a2 n2 c2,A8 k y s' a3 n3 c3 a4 n4 c4] w (Cm (.error 9) w):=by
 unfold A8;have Hb:=Lq7 (Fo w);have e2:(k==2)=false:=(by simpa using h2);have e3:(k==3)=false:=(by simpa using h3);have e4:(k==4)=false:=(by simpa using h4);go_enter Tryz.func236,Tryz.ntmps236;go_wp2_with fail;refine bodyPost_ret (v:=.tuple #[.agg #[.int .i64 0,.int .i64 0,.string ⟨#[]⟩,.slice none 0 0,.slice none 0 0],.int .i64 9]) (by simp[results,Tryz.results236,go_sem]) rfl ?_;exact⟨Hb.out _ _ _,rfl⟩
theorem plus_str(x y s s')(hs:s.size<=65536)(hs':s'.size<=65536)(a1 a2 a3 a4 n1 c1 n2 c2 n3 c3 n4 c4 w):
  Calls Tryz.prog 236 #[A8 3 x s a1 n1 c1 a2 n2 c2,A8 3 y s' a3 n3 c3 a4 n4 c4] w (Cm (if 65536<s.size+s'.size then .error 6 else .ok (Fk (s++s'))) w):=by
 unfold A8;have Hb:=Lq7 (Fo w);by_cases hl:65536<s.size+s'.size
 ·rw[if_pos hl];have hl2:(65536:Int)<(s.size:Int)+(s'.size:Int):=(by omega);go_enter Tryz.func236,Tryz.ntmps236;go_wp2_with fail;refine bodyPost_ret (v:=.tuple #[.agg #[.int .i64 0,.int .i64 0,.string ⟨#[]⟩,.slice none 0 0,.slice none 0 0],.int .i64 6]) (by simp[results,Tryz.results236,go_sem]) rfl ?_;exact⟨Hb.out _ _ _,rfl⟩
 ·rw[if_neg hl];have hl2:¬(65536:Int)<(s.size:Int)+(s'.size:Int):=(by omega);go_enter Tryz.func236,Tryz.ntmps236;go_wp2_with fail;refine bodyPost_ret (v:=.tuple #[.agg #[.int .i64 3,.int .i64 0,.string (s++s'),.slice none 0 0,.slice none 0 0],.int .i64 0]) (by simp[results,Tryz.results236,go_sem]) rfl ?_;exact⟨Hb.out _ _ _,_,rfl,Am.str _ _ _⟩
end Go.Proofs.YtbcdimjbepigcaaGreatDoor
