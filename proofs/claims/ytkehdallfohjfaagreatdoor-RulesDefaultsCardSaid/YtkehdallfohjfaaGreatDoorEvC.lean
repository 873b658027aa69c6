/-
  The walks of the evaluator's put and made.
-/
import Derived.Test.YtkehdallfohjfaaGreatDoorMOwnsN
import Derived.Test.YtkehdallfohjfaaGreatDoorMSame11
import Derived.Test.YtkehdallfohjfaaGreatDoorMOwnLow
import Derived.Deep.DeepCutAuto
namespace Go.Proofs.YtkehdallfohjfaaGreatDoor
open Go.Lib renaming hid->Lq7
open And renaming intro->aIn
set_option maxRecDepth 100000
set_option maxHeartbeats 16000000
open Go Go.RowKit
theorem put_any(c mp mb hv st s v cs l k w)(hm:MS c w mp mb hv st)(hs:s.size<=maxLen)(hc:Ay c.F w (valD v) cs)(hck:A7 v=true):
  Calls Tryz.prog 208 #[ptr mp,.string s,.agg cs.toArray,.agg #[.int .i64 l,.int .i64 k]] w (EP mp mb hv Mc Ai c (F4 s v l k st) w):=by
 obtain⟨vk,vn,vs,vl,vks⟩:=v;obtain⟨a1,c1,a2,c2,rfl,hr1,hr2⟩:=hc.val;have Hm:=Lq7 hm;have Hc:=Lq7 hc;have Hck:=Lq7 hck;unfold ptr;have H0:=Lq7 (Dm w (.cells #[.int .i64 vk,.int .i64 vn,.string vs,.slice a1 vl.length c1,.slice a2 vks.length c2] 25) (.cells #[.int .i64 l,.int .i64 k] 32) (.cells #[.int .i64 0,.int .i64 0,.int .i64 0] 203));cases hfx:(Cr s).isSome with
 | true=>
  have Hr:Hid (F4 s (.mk vk vn vs vl vks) l k st = .err 7 l k):=Lq7 (by unfold F4;rw[hfx];rfl);have aC:=Lq7 hfx;go_enter Tryz.func208,Tryz.ntmps208;go_wp2_with fail;refine(F2 s _).mono ?_;rintro e w1 ⟨fs,rfl,aA,-,-,fa,fb,f2,rfl⟩;rw[aC.out];have H1:=Lq7 (aIn (stays H0.out.2.1 aA) (aIn (stays H0.out.2.2.1 aA) (H0.out.2.2.2.1.trans (aA.mono H0.out.2.2.2.1.size))));obtain⟨b0,b1,b2,b3,b4⟩:=A1 H1.out.1;obtain⟨d0,d1,d2,d3,d4,d5,d6⟩:=Aj H1.out.2.1;go_wp2_with fail;refine bodyPost_ret (v:=Ai 7 l k) (by simp[Ai,results,Tryz.results208,go_sem,d0,d1,d2,d3]) rfl ?_;rw[Hr.out];have hz:=here H1.out.2.1;exact⟨c,.of_below c ((((H1.out.2.2.setCell (p:=⟨w.heap.size+1+1,0,none⟩) (by show _<=w.heap.size+1+1;omega) _).setCell (p:=⟨w.heap.size+1+1,1,none⟩) (by show _<=w.heap.size+1+1;omega) _).setCell (p:=⟨w.heap.size+1+1,2,none⟩) (by show _<=w.heap.size+1+1;omega) _).alloc (by simp only[World.size_setCell];omega) _),rfl⟩
 | false=>
  have Hr:Hid (F4 s (.mk vk vn vs vl vks) l k st = .ok () { st with names:=putN st.names s (.mk vk vn vs vl vks)}):=Lq7 (by unfold F4;rw[hfx];rfl);have aC:=Lq7 hfx;go_enter Tryz.func208,Tryz.ntmps208;go_wp2_with fail;refine(F2 s _).mono ?_;rintro e w1 ⟨fs,rfl,aA,-,-,fa,fb,f2,rfl⟩;rw[aC.out];have H1:=Lq7 (aIn (stays H0.out.1 aA) (aIn (stays H0.out.2.2.1 aA) (H0.out.2.2.2.1.trans (aA.mono H0.out.2.2.2.1.size))))
  go_upto_region 4 with fail
  have aD:Below w1.heap.size w1 (w1.alloc (.cells #[.int .i64 fa,.int .i64 fb,.string f2,.slice none 0 0,.slice none 0 0] 25)):=(Below.refl _ w1).alloc (Nat.le_refl _) _;have H2:=Lq7 (aIn (stays H1.out.1 aD) (aIn (stays H1.out.2.1 aD) (H1.out.2.2.trans (aD.mono H1.out.2.2.size))));generalize World.alloc _ _=W at H2 |-;refine A8 (.s 0 (.s 1 (.s 2 (.s 3 (.s 4 (.s 5 (.h 6 .nil))))))) 6 (fun W'=>W'.heap[mp]? = some (.cells #[.map (some mb),hv.val,.int .i64 st.left] 201 (0,0))/\W'.heap[w.heap.size]? = some (.cells #[.int .i64 vk,.int .i64 vn,.string vs,.slice a1 vl.length c1,.slice a2 vks.length c2] 25 (0,0))) ⟨(Hm.out.below H2.out.2.2).head,H2.out.1⟩ ?_;have H3:=Lq7 (aIn (stays H2.out.2.1 ((Below.refl _ W).drew)) (H2.out.2.2.trans (((Below.refl _ W).drew).mono H2.out.2.2.size)));generalize W.drew=Wd at H3 |-;refine Ah (.pointer (some ⟨mp,0,none⟩)) ?_;refine Ah (.pointer (some ⟨mp,0,none⟩)) ?_;refine Ah (.pointer (some ⟨mp,0,none⟩)) ?_;refine A6 (.map (some mb)) (fun W' hS=>?_) ?_
  ·obtain⟨s0,s1,s2,s3,s4,s5,s6⟩:=Aj hS.1;go_simp
  refine Ah (.string s) ?_;refine A6 (.agg #[.int .i64 vk,.int .i64 vn,.string vs,.slice a1 vl.length c1,.slice a2 vks.length c2]) (fun W' hS=>?_) ?_
  ·obtain⟨s0,s1,s2,s3,s4,s5,s6,s7,s8,s9,s10⟩:=Aa hS.2;go_simp
  have hmd:=Hm.out.below H3.out.2;have hcd:=Hc.out.below H3.out.2;obtain⟨o,aE,hms⟩:=hmd.store s hs (.mk vk vn vs vl vks) _ hcd Hck.out;have aB:=Lq7 (aIn hms (aIn ((World.putObj_heap_other (by have:=Hm.out.ok.ml mb Hm.out.hb;omega)).trans H3.out.1:(Wd.putObj mb o).heap[w.heap.size+1+1]? = _) (((Mv.of_below c H3.out.2).trans ⟨rfl,rfl,rfl,by simp[World.putObj],fun b _ hn=>World.putObj_heap_other (fun e=>hn (by rw[e];exact Hm.out.hb)),fun _ h=> .inl h,fun _ h=> .inl h⟩:Mv c w c (Wd.putObj mb o)))));have hrun':(Instr.mapUpdate 199 (.map (some mb)) (.string s) (.agg #[.int .i64 vk,.int .i64 vn,.string vs,.slice a1 vl.length c1,.slice a2 vks.length c2])).run Tryz.prog Wd = .ok () (Wd.putObj mb o):=aE;refine Ac rfl (fun Kx hKx=>?_);go_wp2_with fail;refine hKx _ _ (fun h=>absurd rfl h) ?_;generalize Wd.putObj mb o=W2 at aB |-;refine Ao ?_;(try simp only[gX,Act.put]);obtain⟨d0,d1,d2,d3,d4,d5,d6⟩:=Aj aB.out.2.1;go_wp2_with fail;refine bodyPost_ret (v:=Ai 0 0 0) (by simp[Ai,results,Tryz.results208,go_sem,d1,d2,d3]) rfl ?_;rw[Hr.out];have hz:=here aB.out.2.1;refine⟨c,((aB.out.2.2.set (b:=w.heap.size+1+1) (.inl (by omega)) 0 _).set (b:=w.heap.size+1+1) (.inl (by omega)) 1 _).set (b:=w.heap.size+1+1) (.inl (by omega)) 2 _,?_,_,rfl,rfl⟩;refine aB.out.1.other (by simp) (fun b hb hMF=>?_);have aF:b≠w.heap.size+1+1:=by
   rcases hMF with h|h
   ·have:=Hm.out.ok.ml b h;omega
   ·have:=Hm.out.ok.fl b h;omega
  rw[Af aF,Af aF,Af aF]
end Go.Proofs.YtkehdallfohjfaaGreatDoor